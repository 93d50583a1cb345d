/- The law on flat textures and on lifting the other way, walked: for all points, directions and numbers of 64 bits it answers true. -/
import Derived.Test.YtdemcleibpgglaaAlive14
import Derived.Test.YtdemcleibpgglaaQuiet
import Derived.Test.YtdemcleibpgglaaBox
import Derived.Deep.AppendLies
import Derived.Maps.AppendAt
import Derived.Test.YtdemcleibpgglaaSet
namespace Go.Proofs.Ytdemcleibpgglaa
open Go.RowKit
set_option maxRecDepth 100000
set_option linter.unusedSimpArgs false
set_option linter.unusedVariables false
theorem infoI : ∃ i, Try.prog.info? 3 = some i ∧ i.zero = some (Value.int .i64 0) ∧ i.size = 1 ∧ i.bytes = 8 := ⟨_, rfl, rfl, rfl, rfl⟩
theorem own_ge {w : World} {B n sz : Nat} {e : TypeId} {v : Value} {xs : List Value} (h : w.ownsRow B e sz v n xs) : ∀ k, v.ownBlock = some k → B ≤ k := by
  intro k hk
  rcases h.2 with ⟨rfl, _⟩ | ⟨g, cap, cur, rfl, hb, _⟩
  · simp [Value.ownBlock] at hk
  · have : some g = some k := hk
    have := Option.some.inj this; omega
theorem ints_of_owns {w : World} {B n : Nat} {v : Value} {zs : List Int} (h : w.ownsRow B 3 1 v n (zs.map (Value.int .i64))) (h0 : 0 < n) : Ints w v zs := by
  obtain ⟨hl, h | ⟨g, cap, cur, rfl, hb, hh, h1, h2, h3, h4⟩⟩ := h
  · exact absurd h.2 (by omega)
  · have ln : zs.length = n := by simpa using hl
    have hg : g < w.heap.size := by
      rcases Nat.lt_or_ge g w.heap.size with h | h
      · exact h
      · rw [Array.getElem?_eq_none h] at hh; cases hh
    refine .inr ⟨g, 0, cap, by rw [ln], by omega, by omega, h2, hg, fun j hj => ?_⟩
    have e : (zs.map (Value.int .i64))[j]? = some (.int .i64 (zs.getD j 0)) := by simp [List.getD, hj]
    rw [Nat.zero_add, cell_of_row _ _ _ _ _ _ hh, ← e, ← h4, List.getElem?_take, if_pos (by omega)]
    simp
theorem blk_below {B b : Nat} {w w' : World} {cs : Array Value} (hb : Below B w w') (hl : b < B) (h : ∀ o, w.cell? ⟨b, o, none⟩ = cs[o]?) : ∀ o, w'.cell? ⟨b, o, none⟩ = cs[o]? := fun o => (hb.cell (p := ⟨b, o, none⟩) hl).trans (h o)
theorem fro_below {B b : Nat} {w w' : World} (hb : Below B w w') (hl : b < B) (h : ∀ o, w.frozen? ⟨b, o, none⟩ = false) : ∀ o, w'.frozen? ⟨b, o, none⟩ = false := fun o => (hb.frozen (p := ⟨b, o, none⟩) hl).trans (h o)
theorem blk_swap {W : World} {b : Nat} {x y : Obj} {cs : Array Value} (h : ∀ o, (W.alloc x).cell? ⟨b, o, none⟩ = cs[o]?) (hl : b < W.heap.size) : ∀ o, (W.alloc y).cell? ⟨b, o, none⟩ = cs[o]? := fun o =>
  (((Below.refl W.heap.size W).alloc (Nat.le_refl _) y).cell (p := ⟨b, o, none⟩) hl).trans ((((Below.refl W.heap.size W).alloc (Nat.le_refl _) x).cell (p := ⟨b, o, none⟩) hl).symm.trans (h o))
theorem right_rep {sz t : Int} {n : Nat} (hn : (n : Int) = sz) (h1 : 1 ≤ sz) (h2 : sz ≤ 16) (h3 : 0 ≤ t) (h4 : t ≤ 255) : rightB sz 1 (List.replicate n t) = true := by
  have l : 0 < (List.replicate n t).length := by rw [List.length_replicate]; omega
  simp only [rightB, Bool.and_eq_true, decide_eq_true_eq, Int.mul_one, List.length_replicate]
  refine ⟨⟨⟨⟨⟨⟨h1, h2⟩, by omega⟩, by omega⟩, hn⟩, ?_⟩, ?_⟩
  · rw [le_minOf l]; intro z hz; rw [List.eq_of_mem_replicate hz]; exact h3
  · rw [maxOf_le l]; intro z hz; rw [List.eq_of_mem_replicate hz]; exact h4
theorem inB_neg {a b c : Int} (ha : I64 a) (hb : I64 b) (hc : I64 c) : inB (wrap64 (a * -1)) (wrap64 (b * -1)) (wrap64 (c * -1)) 1023 = inB a b c 1023 := by
  rw [Bool.eq_iff_iff, inB_iff (by omega) (by omega), inB_iff (by omega) (by omega)]
  unfold I64 at ha hb hc
  unfold wrap64
  omega
/-- What the law's calls behind the texture answer. -/
theorem rf_facts (x y z a b c t h sz : Int) (n : Nat) (hn : (n : Int) = sz) (h1 : 1 ≤ sz) (h2 : sz ≤ 16) (h3 : 0 ≤ t) (h4 : t ≤ 255) (ha : I64 a) (hb : I64 b) (hc : I64 c) :
    ∃ (okp up : Bool) (a' b' c' p q r p2 q2 r2 : Int), (okp = false → up = false) ∧
    (∀ s v w, Ints w v (List.replicate n t) → Calls Try.prog 23 #[.agg #[s, .int .i64 sz, .int .i64 1, v], V3 x y z] w fun e w' => e = .returned (.tuple #[.int .i64 (if okp then t else 0), .bool okp]) ∧ Below w.heap.size w w') ∧
    (∀ w, Calls Try.prog 18 #[V3 x y z, .int .i64 65536] w fun e w' => e = .returned (.bool okp) ∧ Below w.heap.size w w') ∧
    (∀ w, Calls Try.prog 21 #[V3 x y z, V3 a b c, .int .i64 t, .int .i64 h] w fun e w' => e = .returned (.tuple #[V3 p q r, .bool up]) ∧ Below w.heap.size w w') ∧
    (∀ w, Calls Try.prog 24 #[V3 a b c, .int .i64 (-1)] w fun e w' => e = .returned (V3 a' b' c') ∧ Below w.heap.size w w') ∧
    (∀ w, Calls Try.prog 21 #[V3 x y z, V3 a' b' c', .int .i64 t, .int .i64 h] w fun e w' => e = .returned (.tuple #[V3 p2 q2 r2, .bool up]) ∧ Below w.heap.size w w') ∧
    (up = true → ∃ (s0 s1 s2 d0 d1 d2 e0 e1 e2 : Int),
      (∀ w, Calls Try.prog 19 #[V3 p q r, V3 p2 q2 r2] w fun e w' => e = .returned (V3 s0 s1 s2) ∧ Below w.heap.size w w') ∧
      (∀ w, Calls Try.prog 24 #[V3 x y z, .int .i64 2] w fun e w' => e = .returned (V3 d0 d1 d2) ∧ Below w.heap.size w w') ∧
      (∀ w, Calls Try.prog 22 #[V3 s0 s1 s2, V3 d0 d1 d2] w fun e w' => e = .returned (V3 e0 e1 e2) ∧ Below w.heap.size w w') ∧
      (∀ w, Calls Try.prog 18 #[V3 e0 e1 e2, .int .i64 1] w fun e w' => e = .returned (.bool true) ∧ Below w.heap.size w w')) := by
  have hr := right_rep hn h1 h2 h3 h4
  have lk : lfok x y z (wrap64 (a * -1)) (wrap64 (b * -1)) (wrap64 (c * -1)) t h = lfok x y z a b c t h := by
    unfold lfok; rw [inB_neg ha hb hc]
  refine ⟨inB x y z 65536, lfok x y z a b c t h, _, _, _, _, _, _, _, _, _, fun hp => ?_, fun s v w hv => ?_, within_is rfl, lift_is x y z a b c t h _ _ _ _ rfl rfl rfl rfl, rscale_any a b c (-1), lift_is x y z _ _ _ t h _ _ _ _ lk rfl rfl rfl, fun up => ?_⟩
  · rw [inB_false (by omega) (by omega)] at hp
    cases hk : lfok x y z a b c t h
    · rfl
    · simp only [lfok, Bool.and_eq_true] at hk
      have := hk.1.1.1
      rw [inB_iff (by omega) (by omega)] at this
      exact absurd (by omega) hp
  · refine texel_is s v sz 1 (List.replicate n t) x y z _ _ ?_ ?_ w hv
    · unfold texok; rw [hr, Bool.true_and]
    · unfold txv
      cases inB x y z 65536
      · rfl
      · simp only [if_true]
        have b0 := stp_le (n := x) (m := sz) (by omega)
        have b1 := stp_le (n := y + z) (m := 1) (by omega)
        have hi : txi sz 1 x y z < n := by
          unfold txi
          have : stp (y + z) 1 = 0 := by omega
          rw [this, Int.zero_mul, Int.zero_add]; omega
        simp [List.getD, hi]
  · rw [up]
    simp only [lfok, Bool.and_eq_true, decide_eq_true_eq, le_mn, mx_le] at up
    obtain ⟨⟨⟨hp, hnn⟩, g0, g1⟩, g2, g3⟩ := up
    rw [inB_iff (by omega) (by omega)] at hp hnn
    have ⟨_, l1, l2⟩ := lfh_le g0 g2 g1 g3
    have A0 := (lfv_le hnn.1 l1).2
    have A1 := (lfv_le hnn.2.1 l1).2
    have A2 := (lfv_le hnn.2.2 l1).2
    have ea : wrap64 (a * -1) = -a := by rw [w64 (by omega) (by omega)]; omega
    have eb : wrap64 (b * -1) = -b := by rw [w64 (by omega) (by omega)]; omega
    have ec : wrap64 (c * -1) = -c := by rw [w64 (by omega) (by omega)]; omega
    rw [ea, eb, ec]
    simp only [lfv, if_true, Int.neg_mul]
    have B0 := rnd_other (a * lfh t h) 1024 (by omega)
    have B1 := rnd_other (b * lfh t h) 1024 (by omega)
    have B2 := rnd_other (c * lfh t h) 1024 (by omega)
    obtain ⟨u0, f0⟩ : ∃ u, rnd (a * lfh t h) 1024 = u := ⟨_, rfl⟩
    obtain ⟨u1, f1⟩ : ∃ u, rnd (b * lfh t h) 1024 = u := ⟨_, rfl⟩
    obtain ⟨u2, f2⟩ : ∃ u, rnd (c * lfh t h) 1024 = u := ⟨_, rfl⟩
    obtain ⟨v0, k0⟩ : ∃ u, rnd (-(a * lfh t h)) 1024 = u := ⟨_, rfl⟩
    obtain ⟨v1, k1⟩ : ∃ u, rnd (-(b * lfh t h)) 1024 = u := ⟨_, rfl⟩
    obtain ⟨v2, k2⟩ : ∃ u, rnd (-(c * lfh t h)) 1024 = u := ⟨_, rfl⟩
    rw [f0] at A0 B0 ⊢
    rw [f1] at A1 B1 ⊢
    rw [f2] at A2 B2 ⊢
    rw [k0] at B0 ⊢
    rw [k1] at B1 ⊢
    rw [k2] at B2 ⊢
    refine ⟨_, _, _, _, _, _, _, _, _, radd_any _ _ _ _ _ _, rscale_any _ _ _ _, rsub_any _ _ _ _ _ _, within_is ?_⟩
    rw [inB_iff (by omega) (by omega)]
    rw [w64 (x := x + u0 + (x + v0)) (by omega) (by omega), w64 (x := y + u1 + (y + v1)) (by omega) (by omega), w64 (x := z + u2 + (z + v2)) (by omega) (by omega), w64 (x := x * 2) (by omega) (by omega), w64 (x := y * 2) (by omega) (by omega), w64 (x := z * 2) (by omega) (by omega), w64 (x := x + u0 + (x + v0) - x * 2) (by omega) (by omega), w64 (x := y + u1 + (y + v1) - y * 2) (by omega) (by omega), w64 (x := z + u2 + (z + v2) - z * 2) (by omega) (by omega)]
    omega
theorem rf_far (x y z a b c t sz h : Int) (hf : ((sz < 1 ∨ 16 < sz) ∨ t < 0) ∨ 255 < t) (w : World) :
    Calls Try.prog 8 #[V3 x y z, V3 a b c, .int .i64 t, .int .i64 sz, .int .i64 h] w fun e w' => e = .returned (.bool true) ∧ Below w.heap.size w w' := by
  cases c0 : decide (sz < 1) <;> cases c1 : decide (16 < sz) <;> cases c2 : decide (t < 0) <;> cases c3 : decide (255 < t) <;> first
    | (exfalso; simp only [decide_eq_false_iff_not] at c0 c1 c2 c3; omega)
    | (clear hf
       go_enter Try.func8, Try.ntmps8
       go_wp2_with (go_at_call 20; ((with_reducible refine (alive14_any _).mono ?_); rintro e w1 ⟨rfl, hb1⟩))
       go_returns
       exact ⟨by simp, by (repeat' (first | (with_reducible exact Below.refl _ _) | (with_reducible refine bstep (by with_reducible assumption) ?_) | (with_reducible refine Below.alloc ?_ ?_ _) | (with_reducible refine Below.drew ?_) | (with_reducible refine below_drewN ?_ _) | (with_reducible refine Below.setCell ?_ ?_ _) | go_size))⟩)
def Cl3 (a : Nat) (ca : Array Value) (b : Nat) (cb : Array Value) (c : Nat) (cc : Array Value) (w w' : World) : Prop := (∀ o, w'.cell? ⟨a, o, none⟩ = ca[o]?) ∧ (∀ o, w'.cell? ⟨b, o, none⟩ = cb[o]?) ∧ (∀ o, w'.cell? ⟨c, o, none⟩ = cc[o]?) ∧ Below w.heap.size w w'
def RFRel (n T : Nat) (S B : Nat) (ps ns : Array Value) (sz t : Int) (w : World) (k : Nat) (i : Value) (wr : World) : Prop :=
  ∃ (j : Nat) (v : Value), j ≤ n ∧ k = n - j ∧ i = .int .i64 (j : Int) ∧ (∀ o, wr.cell? ⟨T, o, none⟩ = (#[.string ⟨#[]⟩, .int .i64 sz, .int .i64 1, v] : Array Value)[o]?) ∧ (∀ o, wr.frozen? ⟨T, o, none⟩ = false) ∧
    wr.ownsRow (T + 1) 3 1 v j ((List.replicate j t).map (Value.int .i64)) ∧ (∀ o, wr.cell? ⟨S, o, none⟩ = ps[o]?) ∧ (∀ o, wr.cell? ⟨B, o, none⟩ = ns[o]?) ∧ Below w.heap.size w wr
set_option maxHeartbeats 8000000 in
theorem rf_near (x y z a b c t sz h : Int) (h1 : 1 ≤ sz) (h2 : sz ≤ 16) (h3 : 0 ≤ t) (h4 : t ≤ 255) (ha : I64 a) (hb : I64 b) (hc : I64 c) (w : World) :
    Calls Try.prog 8 #[V3 x y z, V3 a b c, .int .i64 t, .int .i64 sz, .int .i64 h] w fun e w' => e = .returned (.bool true) ∧ Below w.heap.size w w' := by
  obtain ⟨n, hn⟩ : ∃ n : Nat, (n : Int) = sz := ⟨sz.toNat, by omega⟩
  obtain ⟨okp, up, a', b', c', p, q, r, p2, q2, r2, hup, TX, WP, L1, SC, L2, H⟩ := rf_facts x y z a b c t h sz n hn h1 h2 h3 h4 ha hb hc
  have TX := Lib.hid TX
  have WP := Lib.hid WP
  have L1 := Lib.hid L1
  have SC := Lib.hid SC
  have L2 := Lib.hid L2
  have HH := Lib.hid H
  have HU := Lib.hid hup
  have d0 : decide (sz < 1) = false := decide_eq_false (by omega)
  have d1 : decide (16 < sz) = false := decide_eq_false (by omega)
  have d2 : decide (t < 0) = false := decide_eq_false (by omega)
  have d3 : decide (255 < t) = false := decide_eq_false (by omega)
  obtain ⟨i0, ji, jz0, jz1, jz2⟩ := infoI
  clear H hup ha hb hc
  go_enter Try.func8, Try.ntmps8
  go_wp2_with (go_at_call 20; ((with_reducible refine (alive14_any _).mono ?_); rintro e w1 ⟨rfl, hb1⟩; have P1 : ∀ o, w1.cell? ⟨w.heap.size, o, none⟩ = (#[.int .i64 x, .int .i64 y, .int .i64 z] : Array Value)[o]? := blk_later (by simp) hb1 (by (repeat (first | (with_reducible assumption) | (focus ((with_reducible refine new_at ?_ _ _); (repeat (first | (with_reducible rfl) | (with_reducible refine sz1 ?_))); done)) | (with_reducible refine blk_alloc (by simp) _ ?_) | (with_reducible refine blk_drew ?_)))); have N1 : ∀ o, w1.cell? ⟨w.heap.size + 1, o, none⟩ = (#[.int .i64 a, .int .i64 b, .int .i64 c] : Array Value)[o]? := blk_later (by simp) hb1 (by (repeat (first | (with_reducible assumption) | (focus ((with_reducible refine new_at ?_ _ _); (repeat (first | (with_reducible rfl) | (with_reducible refine sz1 ?_))); done)) | (with_reducible refine blk_alloc (by simp) _ ?_) | (with_reducible refine blk_drew ?_)))); have s1 : w.heap.size + 1 < w1.heap.size := blk_lt (by simp) N1))
  go_loopg [12] n (fun k i wr => RFRel n w1.heap.size w.heap.size (w.heap.size + 1) #[.int .i64 x, .int .i64 y, .int .i64 z] #[.int .i64 a, .int .i64 b, .int .i64 c] sz t w k i wr)
  case atStart => exact ⟨0, .slice none 0 0, by omega, by omega, rfl, by (repeat (first | (with_reducible assumption) | (focus ((with_reducible refine new_at ?_ _ _); (repeat (first | (with_reducible rfl) | (with_reducible refine sz1 ?_))); done)) | (with_reducible refine blk_alloc (by simp) _ ?_) | (with_reducible refine blk_drew ?_))), by (repeat (first | (with_reducible assumption) | (focus ((with_reducible refine fro_new ?_ _ _); (repeat (first | (with_reducible rfl) | (with_reducible refine sz1 ?_))); done)) | ((with_reducible refine fro_more ?_ _ ?_); (repeat (first | (with_reducible assumption) | (focus ((with_reducible refine lt_new ?_); (repeat (first | (with_reducible rfl) | (with_reducible refine sz1 ?_))); done)) | (with_reducible refine lt_here ?_)))))), ⟨by simp, .inl ⟨rfl, rfl⟩⟩, blk_alloc (by simp) _ P1, blk_alloc (by simp) _ N1, by (repeat' (first | (with_reducible exact Below.refl _ _) | (with_reducible refine bstep (by with_reducible assumption) ?_) | (with_reducible refine Below.alloc ?_ ?_ _) | (with_reducible refine Below.drew ?_) | (with_reducible refine below_drewN ?_ _) | (with_reducible refine Below.setCell ?_ ?_ _) | go_size))⟩
  case round =>
    obtain ⟨j, v, hj, rfl, rfl, tc, tf, own, pc, nc, hB⟩ := hrel
    have HB := Lib.hid hB
    have lt := blk_lt (by simp) tc
    clear hB P1 N1
    by_cases hjn : j < n
    · have hj1 : (j : Int) < sz := by omega
      go_wp2_with (at_builtin; refine wpList_append_lies _ rfl _ _ 34 rfl _ 3 i0 (.int .i64 0) 1 8 Try.underlying34 ji jz0 jz1 jz2 rfl (by decide) _ _ _ rfl (own.alloc _) ⟨wr.heap.size, 0, none⟩ 1 1 [.int .i64 t] rfl rfl (cell_one_new _ _ _) (fun u hu => (by simp at hu; subst hu; rfl)) (by omega) (by unfold maxLen; omega) (by omega) (by rw [World.size_alloc]; omega) _ rfl (fun g cap w5 k1 k2 k3 k4 => ?_); have HB5 := Below.grown (Below.refl (w1.heap.size + 1) _) k2 (by rw [World.size_alloc]; omega) (own_ge own); have tc5 := blk_below HB5 (by omega) (blk_alloc (by simp) _ tc); have tf5 := fro_below HB5 (by omega) (fro_more lt _ tf); have pc5 := blk_below HB5 (by omega) (blk_alloc (by simp) _ pc); have nc5 := blk_below HB5 (by omega) (blk_alloc (by simp) _ nc); have HW5 : Below w.heap.size w w5 := ((HB.out).alloc (Nat.le_of_lt (blk_lt (by simp) pc)) _).trans (HB5.mono (by omega)); have lt5 : w1.heap.size < w5.heap.size := blk_lt (by simp) tc5; clear tc tf pc nc)
      go_roundg (n - (j + 1))
      case measure => omega
      case rel =>
        have n0 : w1.heap.size ≠ w.heap.size := by omega
        have n1 : w1.heap.size ≠ w.heap.size + 1 := by omega
        refine ⟨j + 1, _, by omega, rfl, by first | (simp; done) | (simp; exact w64 (by omega) (by omega)), fun o => (st_blk tc5 3 _ (by simp) o).trans (by rfl), fun o => by simp [tf5], ?_, st_far n0 pc5, st_far n1 nc5, by (repeat' (first | (with_reducible assumption) | (with_reducible exact Below.refl _ _) | (with_reducible refine bstep (by with_reducible assumption) ?_) | (with_reducible refine Below.alloc ?_ ?_ _) | (with_reducible refine Below.drew ?_) | (with_reducible refine below_drewN ?_ _) | (with_reducible refine Below.setCell ?_ ?_ _) | go_size))⟩
        refine ownsRow_setCell_below ?_ (by simp) _
        rw [List.replicate_succ', List.map_append]
        exact k1
    · obtain rfl : j = n := by omega
      have hj1 : ¬ (j : Int) < sz := by omega
      have IV : Ints wr v (List.replicate j t) := ints_of_owns own (by omega)
      cases okp
      · obtain rfl : up = false := HU.out rfl
        go_wp2_with (first
          | (go_at_call 23; ((with_reducible refine (TX.out _ _ _ ?_).mono ?_); (focus (exact IV)); rintro e v1 ⟨rfl, gb1⟩; have p1 := blk_later (by simp) gb1 pc; have n1 := blk_later (by simp) gb1 nc))
          | (go_at_call 18; ((with_reducible refine (WP.out _).mono ?_); rintro e v2 ⟨rfl, gb2⟩; have p2' := blk_later (by simp) gb2 p1; have n2' := blk_later (by simp) gb2 n1))
          | (go_at_call 21; ((with_reducible refine (L1.out _).mono ?_); rintro e v3 ⟨rfl, gb3⟩; have p3' := blk_later (by simp) gb3 p2'; have n3' := blk_later (by simp) gb3 n2'; have s3 : w.heap.size + 1 < v3.heap.size := blk_lt (by simp) n3'; have s3' : w.heap.size < v3.heap.size := (by omega))))
        have A4 : ∀ o, (v3.alloc (.cells #[.int .i64 p, .int .i64 q, .int .i64 r] 23)).cell? ⟨v3.heap.size, o, none⟩ = (#[.int .i64 p, .int .i64 q, .int .i64 r] : Array Value)[o]? := new_at rfl _ _
        have p4 := blk_alloc (by simp) (.cells #[.int .i64 p, .int .i64 q, .int .i64 r] 23) p3'
        have n4 := blk_alloc (by simp) (.cells #[.int .i64 p, .int .i64 q, .int .i64 r] 23) n3'
        refine wp_region_held_drew (S := (fun w' => (∀ o, w'.cell? ⟨w.heap.size, o, none⟩ = (#[.int .i64 x, .int .i64 y, .int .i64 z] : Array Value)[o]?) ∧ (∀ o, w'.cell? ⟨w.heap.size + 1, o, none⟩ = (#[.int .i64 a, .int .i64 b, .int .i64 c] : Array Value)[o]?) ∧ (∀ o, w'.cell? ⟨v3.heap.size, o, none⟩ = (#[.int .i64 p, .int .i64 q, .int .i64 r] : Array Value)[o]?))) (by kernel_rfl) ?_ (fun hHeld => ?_)
        · (try dsimp only); (((first | (go_split_ands; skip) | skip); (repeat' apply And.intro) <;> (first | assumption | (with_reducible exact blk_drew (by assumption)) | (with_reducible exact blk_later (by simp) (by assumption) (by assumption)) | (with_reducible exact blk_alloc (by simp) _ (by assumption)) | (focus ((with_reducible apply st3_far); omega; assumption)))))
        refine wpAnyH_take (i := 0) (oi := { dst := some 77, op := Go.Op.load 23 (Go.Operand.tmp 5), type := 23, pos := "law.go:116", after := #[], guard := none }) (v := ?_) rfl (by kernel_rfl) (by kernel_rfl) (by kernel_rfl) (fun _ _ _ h => h) (Or.inl ⟨by rfl, ?_⟩) (by assumption) ?_
        rotate_left
        · intro w hSw; (try dsimp only at hSw); go_simp; (try with_reducible rfl)
        try simp only [Act.put, List.setIfInBounds_toArray, List.set_cons_zero, List.set_cons_succ]
        refine wpAnyH_take (i := 1) (oi := { dst := some 78, op := Go.Op.load 23 (Go.Operand.tmp 6), type := 23, pos := "law.go:116", after := #[], guard := none }) (v := ?_) rfl (by kernel_rfl) (by kernel_rfl) (by kernel_rfl) (fun _ _ _ h => h) (Or.inl ⟨by rfl, ?_⟩) (by assumption) ?_
        rotate_left
        · intro w hSw; (try dsimp only at hSw); go_simp; (try with_reducible rfl)
        try simp only [Act.put, List.setIfInBounds_toArray, List.set_cons_zero, List.set_cons_succ]
        refine wpAnyH_take (i := 3) (oi := { dst := some 80, op := Go.Op.move (Go.Operand.tmp 2), type := 3, pos := "law.go:116", after := #[], guard := none }) (v := ?_) rfl (by kernel_rfl) (by kernel_rfl) (by kernel_rfl) (fun _ _ _ h => h) (Or.inl ⟨by rfl, ?_⟩) (by assumption) ?_
        rotate_left
        · intro w hSw; (try dsimp only at hSw); go_simp; (try with_reducible rfl)
        try simp only [Act.put, List.setIfInBounds_toArray, List.set_cons_zero, List.set_cons_succ]
        refine wpAnyH_take (i := 4) (oi := { dst := some 81, op := Go.Op.move (Go.Operand.tmp 4), type := 3, pos := "law.go:116", after := #[], guard := none }) (v := ?_) rfl (by kernel_rfl) (by kernel_rfl) (by kernel_rfl) (fun _ _ _ h => h) (Or.inl ⟨by rfl, ?_⟩) (by assumption) ?_
        rotate_left
        · intro w hSw; (try dsimp only at hSw); go_simp; (try with_reducible rfl)
        try simp only [Act.put, List.setIfInBounds_toArray, List.set_cons_zero, List.set_cons_succ]
        refine wpAnyH_ready (rs := [2, 9]) (by kernel_rfl) (by simp) ?_
        refine AllReadyH.cons (o := { dst := some 79, op := Go.Op.call { callee := Go.Callee.value (Go.Operand.func 24), args := #[Go.Operand.tmp 78, Go.Operand.const (Go.Value.int Go.IntKind.i64 (-1))], argTypes := #[23, 3] }, type := 23, pos := "law.go:116", after := #[{ on := 1, ground := Go.Ground.data }], guard := none }) rfl (fun K hK => ?_) ?_
        · go_simp
          (go_at_call 24; ((with_reducible refine (SC.out _).mono ?_); rintro e v4 ⟨rfl, gb4⟩))
          have s4 : v3.heap.size < v4.heap.size := blk_lt (by simp) (blk_later (by simp) gb4 hHeld.2.2)
          refine hK.out _ _ ?_ (fun hHeld2 => ?_)
          · (try dsimp only); (exact ⟨blk_later (by simp) gb4 hHeld.1, blk_later (by simp) gb4 hHeld.2.1, blk_later (by simp) gb4 hHeld.2.2⟩)
          clear hK K hHeld
          try simp only [Act.put, List.setIfInBounds_toArray, List.set_cons_zero, List.set_cons_succ]
          refine wpAnyH_ready (rs := [5, 9]) (by kernel_rfl) (by simp) ?_
          refine AllReadyH.cons (o := { dst := some 82, op := Go.Op.call { callee := Go.Callee.value (Go.Operand.func 21), args := #[Go.Operand.tmp 77, Go.Operand.tmp 79, Go.Operand.tmp 80, Go.Operand.tmp 81], argTypes := #[23, 23, 3, 3] }, type := 26, pos := "law.go:116", after := #[{ on := 0, ground := Go.Ground.data }, { on := 2, ground := Go.Ground.data }, { on := 3, ground := Go.Ground.data }, { on := 4, ground := Go.Ground.data }, { on := 2, ground := Go.Ground.chain }], guard := none }) rfl (fun K hK => ?_) ?_
          · go_simp
            (go_at_call 21; ((with_reducible refine (L2.out _).mono ?_); rintro e v5 ⟨rfl, gb5⟩))
            have s5 : v3.heap.size < v5.heap.size := blk_lt (by simp) (blk_later (by simp) gb5 hHeld2.2.2)
            refine hK.out _ _ ?_ (fun hHeld5 => ?_)
            · (try dsimp only); (exact ⟨blk_later (by simp) gb5 hHeld2.1, blk_later (by simp) gb5 hHeld2.2.1, blk_later (by simp) gb5 hHeld2.2.2⟩)
            clear hK K hHeld2
            try simp only [Act.put, List.setIfInBounds_toArray, List.set_cons_zero, List.set_cons_succ]
            refine wpAnyH_take (i := 6) (oi := { dst := some 76, op := Go.Op.move (Go.Operand.tmp 82), type := 26, pos := "law.go:116", after := #[{ on := 5, ground := Go.Ground.data }], guard := none }) (v := ?_) rfl (by kernel_rfl) (by kernel_rfl) (by kernel_rfl) (fun _ _ _ h => h) (Or.inl ⟨by rfl, ?_⟩) (by assumption) ?_
            rotate_left
            · intro w hSw; (try dsimp only at hSw); go_simp; (try with_reducible rfl)
            try simp only [Act.put, List.setIfInBounds_toArray, List.set_cons_zero, List.set_cons_succ]
            refine wpAnyH_take (i := 7) (oi := { dst := some 83, op := Go.Op.extract (Go.Operand.tmp 76) 0, type := 23, pos := "law.go:116", after := #[{ on := 6, ground := Go.Ground.data }], guard := none }) (v := ?_) rfl (by kernel_rfl) (by kernel_rfl) (by kernel_rfl) (fun _ _ _ h => h) (Or.inl ⟨by rfl, ?_⟩) (by assumption) ?_
            rotate_left
            · intro w hSw; (try dsimp only at hSw); go_simp; (try with_reducible rfl)
            try simp only [Act.put, List.setIfInBounds_toArray, List.set_cons_zero, List.set_cons_succ]
            refine wpAnyH_take (i := 8) (oi := { dst := some 84, op := Go.Op.extract (Go.Operand.tmp 76) 1, type := 4, pos := "law.go:116", after := #[{ on := 6, ground := Go.Ground.data }, { on := 10, ground := Go.Ground.gcOnly Go.Departure.lateStores }], guard := none }) (v := ?_) rfl (by kernel_rfl) (by kernel_rfl) (by kernel_rfl) (fun _ _ _ h => h) (Or.inl ⟨by rfl, ?_⟩) (by assumption) ?_
            rotate_left
            · intro w hSw; (try dsimp only at hSw); go_simp; (try with_reducible rfl)
            try simp only [Act.put, List.setIfInBounds_toArray, List.set_cons_zero, List.set_cons_succ]
            refine wpAnyH_ready (rs := [9]) (by kernel_rfl) (by simp) ?_
            refine AllReadyH.cons (o := { dst := some 17, op := Go.Op.alloc 23, type := 0, pos := "law.go:116", after := #[], guard := none }) rfl (fun K hK => ?_) AllReadyH.nil
            go_simp
            refine hK.out _ _ ?_ (fun hHeld9 => ?_)
            · (try dsimp only); (exact ⟨blk_alloc (by simp) _ hHeld5.1, blk_alloc (by simp) _ hHeld5.2.1, blk_alloc (by simp) _ hHeld5.2.2⟩)
            clear hK K hHeld5
            try simp only [Act.put, List.setIfInBounds_toArray, List.set_cons_zero, List.set_cons_succ]
            refine wpAnyH_ready (rs := [10]) (by kernel_rfl) (by simp) ?_
            refine AllReadyH.cons (o := { dst := none, op := Go.Op.store 23 (Go.Operand.tmp 17) (Go.Operand.tmp 83), type := 0, pos := "law.go:116", after := #[{ on := 9, ground := Go.Ground.data }, { on := 7, ground := Go.Ground.data }, { on := 5, ground := Go.Ground.chain }, { on := 0, ground := Go.Ground.phase }, { on := 1, ground := Go.Ground.phase }, { on := 2, ground := Go.Ground.phase }, { on := 3, ground := Go.Ground.phase }, { on := 4, ground := Go.Ground.phase }, { on := 5, ground := Go.Ground.phase }, { on := 6, ground := Go.Ground.phase }, { on := 7, ground := Go.Ground.phase }, { on := 8, ground := Go.Ground.textOnly Go.Departure.lateStores }, { on := 9, ground := Go.Ground.phase }], guard := none }) rfl (fun K hK => ?_) AllReadyH.nil
            go_simp
            refine hK.out _ _ ?_ (fun hHeld10 => ?_)
            · (try dsimp only); (exact ⟨blk_swap hHeld9.1 (by omega), blk_swap hHeld9.2.1 (by omega), blk_swap hHeld9.2.2 (by omega)⟩)
            clear hK K hHeld9
            try simp only [Act.put, List.setIfInBounds_toArray, List.set_cons_zero, List.set_cons_succ]
            refine wpAnyH_take (i := 11) (oi := { dst := some 18, op := Go.Op.assign (Go.Operand.tmp 84), type := 4, pos := "law.go:116", after := #[{ on := 8, ground := Go.Ground.data }, { on := 10, ground := Go.Ground.chain }, { on := 0, ground := Go.Ground.phase }, { on := 1, ground := Go.Ground.phase }, { on := 2, ground := Go.Ground.phase }, { on := 3, ground := Go.Ground.phase }, { on := 4, ground := Go.Ground.phase }, { on := 5, ground := Go.Ground.phase }, { on := 6, ground := Go.Ground.phase }, { on := 7, ground := Go.Ground.phase }, { on := 8, ground := Go.Ground.phase }, { on := 9, ground := Go.Ground.phase }, { on := 10, ground := Go.Ground.phase }], guard := none }) (v := ?_) rfl (by kernel_rfl) (by kernel_rfl) (by kernel_rfl) (fun _ _ _ h => h) (Or.inl ⟨by rfl, ?_⟩) (by assumption) ?_
            rotate_left
            · intro w hSw; (try dsimp only at hSw); go_simp; (try with_reducible rfl)
            try simp only [Act.put, List.setIfInBounds_toArray, List.set_cons_zero, List.set_cons_succ]
            refine wpAnyH_done (by kernel_rfl) ?_ _
            have p6 := hHeld10.1
            have A6 := hHeld10.2.2
            clear hHeld10
            go_wp2_with fail
            have B6 : ∀ o, (v5.alloc (.cells #[.int .i64 p2, .int .i64 q2, .int .i64 r2] 23)).cell? ⟨v5.heap.size, o, none⟩ = (#[.int .i64 p2, .int .i64 q2, .int .i64 r2] : Array Value)[o]? := new_at rfl _ _
            have HB' := HB.out
            refine region_quiet (Cl3 w.heap.size (#[.int .i64 x, .int .i64 y, .int .i64 z] : Array Value) v3.heap.size (#[.int .i64 p, .int .i64 q, .int .i64 r] : Array Value) (v5.heap.size) (#[.int .i64 p2, .int .i64 q2, .int .i64 r2] : Array Value) w) (by kernel_rfl) (by kernel_rfl) ?_ ?_
            · (try dsimp only); (exact ⟨p6, A6, B6, by (repeat' (first | (with_reducible exact Below.refl _ _) | (with_reducible refine bstep (by with_reducible assumption) ?_) | (with_reducible refine Below.alloc ?_ ?_ _) | (with_reducible refine Below.drew ?_) | (with_reducible refine below_drewN ?_ _) | (with_reducible refine Below.setCell ?_ ?_ _) | go_size))⟩)
            with_reducible refine q_want ?_ ?_ (fun wo hSw => ?_) ?_
            rotate_left
            · rfl
            · obtain ⟨q1, q2, q3, q4⟩ := id hSw; go_simp; (try with_reducible rfl)
            try simp only [Act.put, List.setIfInBounds_toArray, List.set_cons_zero, List.set_cons_succ]
            with_reducible refine q_want ?_ ?_ (fun wo hSw => ?_) ?_
            rotate_left
            · rfl
            · obtain ⟨q1, q2, q3, q4⟩ := id hSw; go_simp; (try with_reducible rfl)
            try simp only [Act.put, List.setIfInBounds_toArray, List.set_cons_zero, List.set_cons_succ]
            with_reducible refine q_want ?_ ?_ (fun wo hSw => ?_) ?_
            rotate_left
            · rfl
            · obtain ⟨q1, q2, q3, q4⟩ := id hSw; go_simp; (try with_reducible rfl)
            try simp only [Act.put, List.setIfInBounds_toArray, List.set_cons_zero, List.set_cons_succ]
            with_reducible refine q_skip ?_ ?_
            · rfl
            try simp only [Act.put, List.setIfInBounds_toArray, List.set_cons_zero, List.set_cons_succ]
            with_reducible refine q_skip ?_ ?_
            · rfl
            try simp only [Act.put, List.setIfInBounds_toArray, List.set_cons_zero, List.set_cons_succ]
            with_reducible refine q_skip ?_ ?_
            · rfl
            try simp only [Act.put, List.setIfInBounds_toArray, List.set_cons_zero, List.set_cons_succ]
            with_reducible refine q_skip ?_ ?_
            · rfl
            try simp only [Act.put, List.setIfInBounds_toArray, List.set_cons_zero, List.set_cons_succ]
            with_reducible refine q_skip ?_ ?_
            · rfl
            try simp only [Act.put, List.setIfInBounds_toArray, List.set_cons_zero, List.set_cons_succ]
            with_reducible refine q_skip ?_ ?_
            · rfl
            try simp only [Act.put, List.setIfInBounds_toArray, List.set_cons_zero, List.set_cons_succ]
            with_reducible refine q_skip ?_ ?_
            · rfl
            try simp only [Act.put, List.setIfInBounds_toArray, List.set_cons_zero, List.set_cons_succ]
            with_reducible refine q_want ?_ ?_ (fun wo hSw => ?_) ?_
            rotate_left
            · rfl
            · obtain ⟨q1, q2, q3, q4⟩ := id hSw; go_simp; (try with_reducible rfl)
            try simp only [Act.put, List.setIfInBounds_toArray, List.set_cons_zero, List.set_cons_succ]
            with_reducible refine q_want ?_ ?_ (fun wo hSw => ?_) ?_
            rotate_left
            · rfl
            · obtain ⟨q1, q2, q3, q4⟩ := id hSw; go_simp; (try with_reducible rfl)
            try simp only [Act.put, List.setIfInBounds_toArray, List.set_cons_zero, List.set_cons_succ]
            with_reducible refine wpQuiet_nil ?_
            intro wq hSq
            obtain ⟨_, _, _, hB⟩ := hSq
            have HB2 := Lib.hid hB
            clear hB
            go_wp2_with fail
            have HB3 := HB2.out
            go_returns
            exact ⟨by simp, by (repeat' (first | (with_reducible exact Below.refl _ _) | (with_reducible refine bstep (by with_reducible assumption) ?_) | (with_reducible refine Below.alloc ?_ ?_ _) | (with_reducible refine Below.drew ?_) | (with_reducible refine below_drewN ?_ _) | (with_reducible refine Below.setCell ?_ ?_ _) | go_size))⟩
          refine AllReadyH.cons (o := { dst := some 17, op := Go.Op.alloc 23, type := 0, pos := "law.go:116", after := #[], guard := none }) rfl (fun K hK => ?_) ?_
          · go_simp
            refine hK.out _ _ ?_ (fun hHeld9 => ?_)
            · (try dsimp only); (exact ⟨blk_alloc (by simp) _ hHeld2.1, blk_alloc (by simp) _ hHeld2.2.1, blk_alloc (by simp) _ hHeld2.2.2⟩)
            clear hK K hHeld2
            try simp only [Act.put, List.setIfInBounds_toArray, List.set_cons_zero, List.set_cons_succ]
            refine wpAnyH_ready (rs := [5]) (by kernel_rfl) (by simp) ?_
            refine AllReadyH.cons (o := { dst := some 82, op := Go.Op.call { callee := Go.Callee.value (Go.Operand.func 21), args := #[Go.Operand.tmp 77, Go.Operand.tmp 79, Go.Operand.tmp 80, Go.Operand.tmp 81], argTypes := #[23, 23, 3, 3] }, type := 26, pos := "law.go:116", after := #[{ on := 0, ground := Go.Ground.data }, { on := 2, ground := Go.Ground.data }, { on := 3, ground := Go.Ground.data }, { on := 4, ground := Go.Ground.data }, { on := 2, ground := Go.Ground.chain }], guard := none }) rfl (fun K hK => ?_) AllReadyH.nil
            go_simp
            (go_at_call 21; ((with_reducible refine (L2.out _).mono ?_); rintro e v5 ⟨rfl, gb5⟩))
            have s5 : v3.heap.size < v5.heap.size := blk_lt (by simp) (blk_later (by simp) gb5 hHeld9.2.2)
            have Z6 : ∀ o, v5.cell? ⟨v4.heap.size, o, none⟩ = (#[.int .i64 0, .int .i64 0, .int .i64 0] : Array Value)[o]? := blk_later (by simp) gb5 (new_at rfl _ _)
            have FZ6 : ∀ o, v5.frozen? ⟨v4.heap.size, o, none⟩ = false := fro_call gb5 (fro_new rfl _ _) (lt_new rfl)
            have s5z : v4.heap.size < v5.heap.size := blk_lt (by simp) Z6
            refine hK.out _ _ ?_ (fun hHeld5 => ?_)
            · (try dsimp only); (exact ⟨blk_later (by simp) gb5 hHeld9.1, blk_later (by simp) gb5 hHeld9.2.1, blk_later (by simp) gb5 hHeld9.2.2⟩)
            clear hK K hHeld9
            try simp only [Act.put, List.setIfInBounds_toArray, List.set_cons_zero, List.set_cons_succ]
            refine wpAnyH_take (i := 6) (oi := { dst := some 76, op := Go.Op.move (Go.Operand.tmp 82), type := 26, pos := "law.go:116", after := #[{ on := 5, ground := Go.Ground.data }], guard := none }) (v := ?_) rfl (by kernel_rfl) (by kernel_rfl) (by kernel_rfl) (fun _ _ _ h => h) (Or.inl ⟨by rfl, ?_⟩) (by assumption) ?_
            rotate_left
            · intro w hSw; (try dsimp only at hSw); go_simp; (try with_reducible rfl)
            try simp only [Act.put, List.setIfInBounds_toArray, List.set_cons_zero, List.set_cons_succ]
            refine wpAnyH_take (i := 7) (oi := { dst := some 83, op := Go.Op.extract (Go.Operand.tmp 76) 0, type := 23, pos := "law.go:116", after := #[{ on := 6, ground := Go.Ground.data }], guard := none }) (v := ?_) rfl (by kernel_rfl) (by kernel_rfl) (by kernel_rfl) (fun _ _ _ h => h) (Or.inl ⟨by rfl, ?_⟩) (by assumption) ?_
            rotate_left
            · intro w hSw; (try dsimp only at hSw); go_simp; (try with_reducible rfl)
            try simp only [Act.put, List.setIfInBounds_toArray, List.set_cons_zero, List.set_cons_succ]
            refine wpAnyH_take (i := 8) (oi := { dst := some 84, op := Go.Op.extract (Go.Operand.tmp 76) 1, type := 4, pos := "law.go:116", after := #[{ on := 6, ground := Go.Ground.data }, { on := 10, ground := Go.Ground.gcOnly Go.Departure.lateStores }], guard := none }) (v := ?_) rfl (by kernel_rfl) (by kernel_rfl) (by kernel_rfl) (fun _ _ _ h => h) (Or.inl ⟨by rfl, ?_⟩) (by assumption) ?_
            rotate_left
            · intro w hSw; (try dsimp only at hSw); go_simp; (try with_reducible rfl)
            try simp only [Act.put, List.setIfInBounds_toArray, List.set_cons_zero, List.set_cons_succ]
            refine wpAnyH_ready (rs := [10]) (by kernel_rfl) (by simp) ?_
            refine AllReadyH.cons (o := { dst := none, op := Go.Op.store 23 (Go.Operand.tmp 17) (Go.Operand.tmp 83), type := 0, pos := "law.go:116", after := #[{ on := 9, ground := Go.Ground.data }, { on := 7, ground := Go.Ground.data }, { on := 5, ground := Go.Ground.chain }, { on := 0, ground := Go.Ground.phase }, { on := 1, ground := Go.Ground.phase }, { on := 2, ground := Go.Ground.phase }, { on := 3, ground := Go.Ground.phase }, { on := 4, ground := Go.Ground.phase }, { on := 5, ground := Go.Ground.phase }, { on := 6, ground := Go.Ground.phase }, { on := 7, ground := Go.Ground.phase }, { on := 8, ground := Go.Ground.textOnly Go.Departure.lateStores }, { on := 9, ground := Go.Ground.phase }], guard := none }) rfl (fun K hK => ?_) AllReadyH.nil
            go_simp
            refine hK.out _ _ ?_ (fun hHeld10 => ?_)
            · (try dsimp only); (exact ⟨st3_far (by omega) hHeld5.1, st3_far (by omega) hHeld5.2.1, st3_far (by omega) hHeld5.2.2⟩)
            clear hK K hHeld5
            try simp only [Act.put, List.setIfInBounds_toArray, List.set_cons_zero, List.set_cons_succ]
            refine wpAnyH_take (i := 11) (oi := { dst := some 18, op := Go.Op.assign (Go.Operand.tmp 84), type := 4, pos := "law.go:116", after := #[{ on := 8, ground := Go.Ground.data }, { on := 10, ground := Go.Ground.chain }, { on := 0, ground := Go.Ground.phase }, { on := 1, ground := Go.Ground.phase }, { on := 2, ground := Go.Ground.phase }, { on := 3, ground := Go.Ground.phase }, { on := 4, ground := Go.Ground.phase }, { on := 5, ground := Go.Ground.phase }, { on := 6, ground := Go.Ground.phase }, { on := 7, ground := Go.Ground.phase }, { on := 8, ground := Go.Ground.phase }, { on := 9, ground := Go.Ground.phase }, { on := 10, ground := Go.Ground.phase }], guard := none }) (v := ?_) rfl (by kernel_rfl) (by kernel_rfl) (by kernel_rfl) (fun _ _ _ h => h) (Or.inl ⟨by rfl, ?_⟩) (by assumption) ?_
            rotate_left
            · intro w hSw; (try dsimp only at hSw); go_simp; (try with_reducible rfl)
            try simp only [Act.put, List.setIfInBounds_toArray, List.set_cons_zero, List.set_cons_succ]
            refine wpAnyH_done (by kernel_rfl) ?_ _
            have p6 := hHeld10.1
            have A6 := hHeld10.2.2
            clear hHeld10
            go_wp2_with fail
            have B6 := st3_blk (cs' := (#[.int .i64 p2, .int .i64 q2, .int .i64 r2] : Array Value)) (i := 0) (j := 1) (k := 2) (u := .int .i64 p2) (v := .int .i64 q2) (x := .int .i64 r2) Z6 (by simp) (by simp) (by simp) rfl
            have HB' := HB.out
            refine region_quiet (Cl3 w.heap.size (#[.int .i64 x, .int .i64 y, .int .i64 z] : Array Value) v3.heap.size (#[.int .i64 p, .int .i64 q, .int .i64 r] : Array Value) (v4.heap.size) (#[.int .i64 p2, .int .i64 q2, .int .i64 r2] : Array Value) w) (by kernel_rfl) (by kernel_rfl) ?_ ?_
            · (try dsimp only); (exact ⟨p6, A6, B6, by (repeat' (first | (with_reducible exact Below.refl _ _) | (with_reducible refine bstep (by with_reducible assumption) ?_) | (with_reducible refine Below.alloc ?_ ?_ _) | (with_reducible refine Below.drew ?_) | (with_reducible refine below_drewN ?_ _) | (with_reducible refine Below.setCell ?_ ?_ _) | go_size))⟩)
            with_reducible refine q_want ?_ ?_ (fun wo hSw => ?_) ?_
            rotate_left
            · rfl
            · obtain ⟨q1, q2, q3, q4⟩ := id hSw; go_simp; (try with_reducible rfl)
            try simp only [Act.put, List.setIfInBounds_toArray, List.set_cons_zero, List.set_cons_succ]
            with_reducible refine q_want ?_ ?_ (fun wo hSw => ?_) ?_
            rotate_left
            · rfl
            · obtain ⟨q1, q2, q3, q4⟩ := id hSw; go_simp; (try with_reducible rfl)
            try simp only [Act.put, List.setIfInBounds_toArray, List.set_cons_zero, List.set_cons_succ]
            with_reducible refine q_want ?_ ?_ (fun wo hSw => ?_) ?_
            rotate_left
            · rfl
            · obtain ⟨q1, q2, q3, q4⟩ := id hSw; go_simp; (try with_reducible rfl)
            try simp only [Act.put, List.setIfInBounds_toArray, List.set_cons_zero, List.set_cons_succ]
            with_reducible refine q_skip ?_ ?_
            · rfl
            try simp only [Act.put, List.setIfInBounds_toArray, List.set_cons_zero, List.set_cons_succ]
            with_reducible refine q_skip ?_ ?_
            · rfl
            try simp only [Act.put, List.setIfInBounds_toArray, List.set_cons_zero, List.set_cons_succ]
            with_reducible refine q_skip ?_ ?_
            · rfl
            try simp only [Act.put, List.setIfInBounds_toArray, List.set_cons_zero, List.set_cons_succ]
            with_reducible refine q_skip ?_ ?_
            · rfl
            try simp only [Act.put, List.setIfInBounds_toArray, List.set_cons_zero, List.set_cons_succ]
            with_reducible refine q_skip ?_ ?_
            · rfl
            try simp only [Act.put, List.setIfInBounds_toArray, List.set_cons_zero, List.set_cons_succ]
            with_reducible refine q_skip ?_ ?_
            · rfl
            try simp only [Act.put, List.setIfInBounds_toArray, List.set_cons_zero, List.set_cons_succ]
            with_reducible refine q_skip ?_ ?_
            · rfl
            try simp only [Act.put, List.setIfInBounds_toArray, List.set_cons_zero, List.set_cons_succ]
            with_reducible refine q_want ?_ ?_ (fun wo hSw => ?_) ?_
            rotate_left
            · rfl
            · obtain ⟨q1, q2, q3, q4⟩ := id hSw; go_simp; (try with_reducible rfl)
            try simp only [Act.put, List.setIfInBounds_toArray, List.set_cons_zero, List.set_cons_succ]
            with_reducible refine q_want ?_ ?_ (fun wo hSw => ?_) ?_
            rotate_left
            · rfl
            · obtain ⟨q1, q2, q3, q4⟩ := id hSw; go_simp; (try with_reducible rfl)
            try simp only [Act.put, List.setIfInBounds_toArray, List.set_cons_zero, List.set_cons_succ]
            with_reducible refine wpQuiet_nil ?_
            intro wq hSq
            obtain ⟨_, _, _, hB⟩ := hSq
            have HB2 := Lib.hid hB
            clear hB
            go_wp2_with fail
            have HB3 := HB2.out
            go_returns
            exact ⟨by simp, by (repeat' (first | (with_reducible exact Below.refl _ _) | (with_reducible refine bstep (by with_reducible assumption) ?_) | (with_reducible refine Below.alloc ?_ ?_ _) | (with_reducible refine Below.drew ?_) | (with_reducible refine below_drewN ?_ _) | (with_reducible refine Below.setCell ?_ ?_ _) | go_size))⟩
          exact AllReadyH.nil
        refine AllReadyH.cons (o := { dst := some 17, op := Go.Op.alloc 23, type := 0, pos := "law.go:116", after := #[], guard := none }) rfl (fun K hK => ?_) ?_
        · go_simp
          refine hK.out _ _ ?_ (fun hHeld9 => ?_)
          · (try dsimp only); (exact ⟨blk_alloc (by simp) _ hHeld.1, blk_alloc (by simp) _ hHeld.2.1, blk_alloc (by simp) _ hHeld.2.2⟩)
          clear hK K hHeld
          try simp only [Act.put, List.setIfInBounds_toArray, List.set_cons_zero, List.set_cons_succ]
          refine wpAnyH_ready (rs := [2]) (by kernel_rfl) (by simp) ?_
          refine AllReadyH.cons (o := { dst := some 79, op := Go.Op.call { callee := Go.Callee.value (Go.Operand.func 24), args := #[Go.Operand.tmp 78, Go.Operand.const (Go.Value.int Go.IntKind.i64 (-1))], argTypes := #[23, 3] }, type := 23, pos := "law.go:116", after := #[{ on := 1, ground := Go.Ground.data }], guard := none }) rfl (fun K hK => ?_) AllReadyH.nil
          go_simp
          (go_at_call 24; ((with_reducible refine (SC.out _).mono ?_); rintro e v4 ⟨rfl, gb4⟩))
          have s4 : v3.heap.size < v4.heap.size := blk_lt (by simp) (blk_later (by simp) gb4 hHeld9.2.2)
          have Z5 : ∀ o, v4.cell? ⟨v3.heap.size + 1, o, none⟩ = (#[.int .i64 0, .int .i64 0, .int .i64 0] : Array Value)[o]? := blk_later (by simp) gb4 (by (repeat (first | (with_reducible assumption) | (focus ((with_reducible refine new_at ?_ _ _); (repeat (first | (with_reducible rfl) | (with_reducible refine sz1 ?_) | (with_reducible refine sz_drew ?_))); done)) | (with_reducible refine blk_alloc (by simp) _ ?_) | (with_reducible refine blk_drew ?_))))
          have FZ5 : ∀ o, v4.frozen? ⟨v3.heap.size + 1, o, none⟩ = false := fro_call gb4 (by (repeat (first | (with_reducible assumption) | (focus ((with_reducible refine fro_new ?_ _ _); (repeat (first | (with_reducible rfl) | (with_reducible refine sz1 ?_) | (with_reducible refine sz_drew ?_))); done)) | ((with_reducible refine fro_more ?_ _ ?_); (repeat (first | (with_reducible assumption) | (focus ((with_reducible refine lt_new ?_); (repeat (first | (with_reducible rfl) | (with_reducible refine sz1 ?_) | (with_reducible refine sz_drew ?_))); done)) | (with_reducible refine lt_here ?_) | (with_reducible refine lt_drew ?_)))) | (with_reducible refine fro_drew ?_)))) (by (repeat (first | (with_reducible assumption) | (focus ((with_reducible refine lt_new ?_); (repeat (first | (with_reducible rfl) | (with_reducible refine sz1 ?_) | (with_reducible refine sz_drew ?_))); done)) | (with_reducible refine lt_here ?_) | (with_reducible refine lt_drew ?_))))
          have s4z : v3.heap.size + 1 < v4.heap.size := blk_lt (by simp) Z5
          refine hK.out _ _ ?_ (fun hHeld2 => ?_)
          · (try dsimp only); (exact ⟨blk_later (by simp) gb4 hHeld9.1, blk_later (by simp) gb4 hHeld9.2.1, blk_later (by simp) gb4 hHeld9.2.2⟩)
          clear hK K hHeld9
          try simp only [Act.put, List.setIfInBounds_toArray, List.set_cons_zero, List.set_cons_succ]
          refine wpAnyH_ready (rs := [5]) (by kernel_rfl) (by simp) ?_
          refine AllReadyH.cons (o := { dst := some 82, op := Go.Op.call { callee := Go.Callee.value (Go.Operand.func 21), args := #[Go.Operand.tmp 77, Go.Operand.tmp 79, Go.Operand.tmp 80, Go.Operand.tmp 81], argTypes := #[23, 23, 3, 3] }, type := 26, pos := "law.go:116", after := #[{ on := 0, ground := Go.Ground.data }, { on := 2, ground := Go.Ground.data }, { on := 3, ground := Go.Ground.data }, { on := 4, ground := Go.Ground.data }, { on := 2, ground := Go.Ground.chain }], guard := none }) rfl (fun K hK => ?_) AllReadyH.nil
          go_simp
          (go_at_call 21; ((with_reducible refine (L2.out _).mono ?_); rintro e v5 ⟨rfl, gb5⟩))
          have s5 : v3.heap.size < v5.heap.size := blk_lt (by simp) (blk_later (by simp) gb5 hHeld2.2.2)
          have Z6 := blk_later (by simp) gb5 Z5
          have FZ6 := fro_call gb5 FZ5 s4z
          have s5z : v3.heap.size + 1 < v5.heap.size := blk_lt (by simp) Z6
          refine hK.out _ _ ?_ (fun hHeld5 => ?_)
          · (try dsimp only); (exact ⟨blk_later (by simp) gb5 hHeld2.1, blk_later (by simp) gb5 hHeld2.2.1, blk_later (by simp) gb5 hHeld2.2.2⟩)
          clear hK K hHeld2
          try simp only [Act.put, List.setIfInBounds_toArray, List.set_cons_zero, List.set_cons_succ]
          refine wpAnyH_take (i := 6) (oi := { dst := some 76, op := Go.Op.move (Go.Operand.tmp 82), type := 26, pos := "law.go:116", after := #[{ on := 5, ground := Go.Ground.data }], guard := none }) (v := ?_) rfl (by kernel_rfl) (by kernel_rfl) (by kernel_rfl) (fun _ _ _ h => h) (Or.inl ⟨by rfl, ?_⟩) (by assumption) ?_
          rotate_left
          · intro w hSw; (try dsimp only at hSw); go_simp; (try with_reducible rfl)
          try simp only [Act.put, List.setIfInBounds_toArray, List.set_cons_zero, List.set_cons_succ]
          refine wpAnyH_take (i := 7) (oi := { dst := some 83, op := Go.Op.extract (Go.Operand.tmp 76) 0, type := 23, pos := "law.go:116", after := #[{ on := 6, ground := Go.Ground.data }], guard := none }) (v := ?_) rfl (by kernel_rfl) (by kernel_rfl) (by kernel_rfl) (fun _ _ _ h => h) (Or.inl ⟨by rfl, ?_⟩) (by assumption) ?_
          rotate_left
          · intro w hSw; (try dsimp only at hSw); go_simp; (try with_reducible rfl)
          try simp only [Act.put, List.setIfInBounds_toArray, List.set_cons_zero, List.set_cons_succ]
          refine wpAnyH_take (i := 8) (oi := { dst := some 84, op := Go.Op.extract (Go.Operand.tmp 76) 1, type := 4, pos := "law.go:116", after := #[{ on := 6, ground := Go.Ground.data }, { on := 10, ground := Go.Ground.gcOnly Go.Departure.lateStores }], guard := none }) (v := ?_) rfl (by kernel_rfl) (by kernel_rfl) (by kernel_rfl) (fun _ _ _ h => h) (Or.inl ⟨by rfl, ?_⟩) (by assumption) ?_
          rotate_left
          · intro w hSw; (try dsimp only at hSw); go_simp; (try with_reducible rfl)
          try simp only [Act.put, List.setIfInBounds_toArray, List.set_cons_zero, List.set_cons_succ]
          refine wpAnyH_ready (rs := [10]) (by kernel_rfl) (by simp) ?_
          refine AllReadyH.cons (o := { dst := none, op := Go.Op.store 23 (Go.Operand.tmp 17) (Go.Operand.tmp 83), type := 0, pos := "law.go:116", after := #[{ on := 9, ground := Go.Ground.data }, { on := 7, ground := Go.Ground.data }, { on := 5, ground := Go.Ground.chain }, { on := 0, ground := Go.Ground.phase }, { on := 1, ground := Go.Ground.phase }, { on := 2, ground := Go.Ground.phase }, { on := 3, ground := Go.Ground.phase }, { on := 4, ground := Go.Ground.phase }, { on := 5, ground := Go.Ground.phase }, { on := 6, ground := Go.Ground.phase }, { on := 7, ground := Go.Ground.phase }, { on := 8, ground := Go.Ground.textOnly Go.Departure.lateStores }, { on := 9, ground := Go.Ground.phase }], guard := none }) rfl (fun K hK => ?_) AllReadyH.nil
          go_simp
          refine hK.out _ _ ?_ (fun hHeld10 => ?_)
          · (try dsimp only); (exact ⟨st3_far (by omega) hHeld5.1, st3_far (by omega) hHeld5.2.1, st3_far (by omega) hHeld5.2.2⟩)
          clear hK K hHeld5
          try simp only [Act.put, List.setIfInBounds_toArray, List.set_cons_zero, List.set_cons_succ]
          refine wpAnyH_take (i := 11) (oi := { dst := some 18, op := Go.Op.assign (Go.Operand.tmp 84), type := 4, pos := "law.go:116", after := #[{ on := 8, ground := Go.Ground.data }, { on := 10, ground := Go.Ground.chain }, { on := 0, ground := Go.Ground.phase }, { on := 1, ground := Go.Ground.phase }, { on := 2, ground := Go.Ground.phase }, { on := 3, ground := Go.Ground.phase }, { on := 4, ground := Go.Ground.phase }, { on := 5, ground := Go.Ground.phase }, { on := 6, ground := Go.Ground.phase }, { on := 7, ground := Go.Ground.phase }, { on := 8, ground := Go.Ground.phase }, { on := 9, ground := Go.Ground.phase }, { on := 10, ground := Go.Ground.phase }], guard := none }) (v := ?_) rfl (by kernel_rfl) (by kernel_rfl) (by kernel_rfl) (fun _ _ _ h => h) (Or.inl ⟨by rfl, ?_⟩) (by assumption) ?_
          rotate_left
          · intro w hSw; (try dsimp only at hSw); go_simp; (try with_reducible rfl)
          try simp only [Act.put, List.setIfInBounds_toArray, List.set_cons_zero, List.set_cons_succ]
          refine wpAnyH_done (by kernel_rfl) ?_ _
          have p6 := hHeld10.1
          have A6 := hHeld10.2.2
          clear hHeld10
          go_wp2_with fail
          have B6 := st3_blk (cs' := (#[.int .i64 p2, .int .i64 q2, .int .i64 r2] : Array Value)) (i := 0) (j := 1) (k := 2) (u := .int .i64 p2) (v := .int .i64 q2) (x := .int .i64 r2) Z6 (by simp) (by simp) (by simp) rfl
          have HB' := HB.out
          refine region_quiet (Cl3 w.heap.size (#[.int .i64 x, .int .i64 y, .int .i64 z] : Array Value) v3.heap.size (#[.int .i64 p, .int .i64 q, .int .i64 r] : Array Value) (v3.heap.size + 1) (#[.int .i64 p2, .int .i64 q2, .int .i64 r2] : Array Value) w) (by kernel_rfl) (by kernel_rfl) ?_ ?_
          · (try dsimp only); (exact ⟨p6, A6, B6, by (repeat' (first | (with_reducible exact Below.refl _ _) | (with_reducible refine bstep (by with_reducible assumption) ?_) | (with_reducible refine Below.alloc ?_ ?_ _) | (with_reducible refine Below.drew ?_) | (with_reducible refine below_drewN ?_ _) | (with_reducible refine Below.setCell ?_ ?_ _) | go_size))⟩)
          with_reducible refine q_want ?_ ?_ (fun wo hSw => ?_) ?_
          rotate_left
          · rfl
          · obtain ⟨q1, q2, q3, q4⟩ := id hSw; go_simp; (try with_reducible rfl)
          try simp only [Act.put, List.setIfInBounds_toArray, List.set_cons_zero, List.set_cons_succ]
          with_reducible refine q_want ?_ ?_ (fun wo hSw => ?_) ?_
          rotate_left
          · rfl
          · obtain ⟨q1, q2, q3, q4⟩ := id hSw; go_simp; (try with_reducible rfl)
          try simp only [Act.put, List.setIfInBounds_toArray, List.set_cons_zero, List.set_cons_succ]
          with_reducible refine q_want ?_ ?_ (fun wo hSw => ?_) ?_
          rotate_left
          · rfl
          · obtain ⟨q1, q2, q3, q4⟩ := id hSw; go_simp; (try with_reducible rfl)
          try simp only [Act.put, List.setIfInBounds_toArray, List.set_cons_zero, List.set_cons_succ]
          with_reducible refine q_skip ?_ ?_
          · rfl
          try simp only [Act.put, List.setIfInBounds_toArray, List.set_cons_zero, List.set_cons_succ]
          with_reducible refine q_skip ?_ ?_
          · rfl
          try simp only [Act.put, List.setIfInBounds_toArray, List.set_cons_zero, List.set_cons_succ]
          with_reducible refine q_skip ?_ ?_
          · rfl
          try simp only [Act.put, List.setIfInBounds_toArray, List.set_cons_zero, List.set_cons_succ]
          with_reducible refine q_skip ?_ ?_
          · rfl
          try simp only [Act.put, List.setIfInBounds_toArray, List.set_cons_zero, List.set_cons_succ]
          with_reducible refine q_skip ?_ ?_
          · rfl
          try simp only [Act.put, List.setIfInBounds_toArray, List.set_cons_zero, List.set_cons_succ]
          with_reducible refine q_skip ?_ ?_
          · rfl
          try simp only [Act.put, List.setIfInBounds_toArray, List.set_cons_zero, List.set_cons_succ]
          with_reducible refine q_skip ?_ ?_
          · rfl
          try simp only [Act.put, List.setIfInBounds_toArray, List.set_cons_zero, List.set_cons_succ]
          with_reducible refine q_want ?_ ?_ (fun wo hSw => ?_) ?_
          rotate_left
          · rfl
          · obtain ⟨q1, q2, q3, q4⟩ := id hSw; go_simp; (try with_reducible rfl)
          try simp only [Act.put, List.setIfInBounds_toArray, List.set_cons_zero, List.set_cons_succ]
          with_reducible refine q_want ?_ ?_ (fun wo hSw => ?_) ?_
          rotate_left
          · rfl
          · obtain ⟨q1, q2, q3, q4⟩ := id hSw; go_simp; (try with_reducible rfl)
          try simp only [Act.put, List.setIfInBounds_toArray, List.set_cons_zero, List.set_cons_succ]
          with_reducible refine wpQuiet_nil ?_
          intro wq hSq
          obtain ⟨_, _, _, hB⟩ := hSq
          have HB2 := Lib.hid hB
          clear hB
          go_wp2_with fail
          have HB3 := HB2.out
          go_returns
          exact ⟨by simp, by (repeat' (first | (with_reducible exact Below.refl _ _) | (with_reducible refine bstep (by with_reducible assumption) ?_) | (with_reducible refine Below.alloc ?_ ?_ _) | (with_reducible refine Below.drew ?_) | (with_reducible refine below_drewN ?_ _) | (with_reducible refine Below.setCell ?_ ?_ _) | go_size))⟩
        exact AllReadyH.nil
      cases up
      · go_wp2_with (first
          | (go_at_call 23; ((with_reducible refine (TX.out _ _ _ ?_).mono ?_); (focus (exact IV)); rintro e v1 ⟨rfl, gb1⟩; have p1 := blk_later (by simp) gb1 pc; have n1 := blk_later (by simp) gb1 nc))
          | (go_at_call 21; ((with_reducible refine (L1.out _).mono ?_); rintro e v3 ⟨rfl, gb3⟩; have p3' := blk_later (by simp) gb3 p1; have n3' := blk_later (by simp) gb3 n1; have s3 : w.heap.size + 1 < v3.heap.size := blk_lt (by simp) n3'; have s3' : w.heap.size < v3.heap.size := (by omega))))
        have A4 : ∀ o, (v3.alloc (.cells #[.int .i64 p, .int .i64 q, .int .i64 r] 23)).cell? ⟨v3.heap.size, o, none⟩ = (#[.int .i64 p, .int .i64 q, .int .i64 r] : Array Value)[o]? := new_at rfl _ _
        have p4 := blk_alloc (by simp) (.cells #[.int .i64 p, .int .i64 q, .int .i64 r] 23) p3'
        have n4 := blk_alloc (by simp) (.cells #[.int .i64 p, .int .i64 q, .int .i64 r] 23) n3'
        refine wp_region_held_drew (S := (fun w' => (∀ o, w'.cell? ⟨w.heap.size, o, none⟩ = (#[.int .i64 x, .int .i64 y, .int .i64 z] : Array Value)[o]?) ∧ (∀ o, w'.cell? ⟨w.heap.size + 1, o, none⟩ = (#[.int .i64 a, .int .i64 b, .int .i64 c] : Array Value)[o]?) ∧ (∀ o, w'.cell? ⟨v3.heap.size, o, none⟩ = (#[.int .i64 p, .int .i64 q, .int .i64 r] : Array Value)[o]?))) (by kernel_rfl) ?_ (fun hHeld => ?_)
        · (try dsimp only); (((first | (go_split_ands; skip) | skip); (repeat' apply And.intro) <;> (first | assumption | (with_reducible exact blk_drew (by assumption)) | (with_reducible exact blk_later (by simp) (by assumption) (by assumption)) | (with_reducible exact blk_alloc (by simp) _ (by assumption)) | (focus ((with_reducible apply st3_far); omega; assumption)))))
        refine wpAnyH_take (i := 0) (oi := { dst := some 77, op := Go.Op.load 23 (Go.Operand.tmp 5), type := 23, pos := "law.go:116", after := #[], guard := none }) (v := ?_) rfl (by kernel_rfl) (by kernel_rfl) (by kernel_rfl) (fun _ _ _ h => h) (Or.inl ⟨by rfl, ?_⟩) (by assumption) ?_
        rotate_left
        · intro w hSw; (try dsimp only at hSw); go_simp; (try with_reducible rfl)
        try simp only [Act.put, List.setIfInBounds_toArray, List.set_cons_zero, List.set_cons_succ]
        refine wpAnyH_take (i := 1) (oi := { dst := some 78, op := Go.Op.load 23 (Go.Operand.tmp 6), type := 23, pos := "law.go:116", after := #[], guard := none }) (v := ?_) rfl (by kernel_rfl) (by kernel_rfl) (by kernel_rfl) (fun _ _ _ h => h) (Or.inl ⟨by rfl, ?_⟩) (by assumption) ?_
        rotate_left
        · intro w hSw; (try dsimp only at hSw); go_simp; (try with_reducible rfl)
        try simp only [Act.put, List.setIfInBounds_toArray, List.set_cons_zero, List.set_cons_succ]
        refine wpAnyH_take (i := 3) (oi := { dst := some 80, op := Go.Op.move (Go.Operand.tmp 2), type := 3, pos := "law.go:116", after := #[], guard := none }) (v := ?_) rfl (by kernel_rfl) (by kernel_rfl) (by kernel_rfl) (fun _ _ _ h => h) (Or.inl ⟨by rfl, ?_⟩) (by assumption) ?_
        rotate_left
        · intro w hSw; (try dsimp only at hSw); go_simp; (try with_reducible rfl)
        try simp only [Act.put, List.setIfInBounds_toArray, List.set_cons_zero, List.set_cons_succ]
        refine wpAnyH_take (i := 4) (oi := { dst := some 81, op := Go.Op.move (Go.Operand.tmp 4), type := 3, pos := "law.go:116", after := #[], guard := none }) (v := ?_) rfl (by kernel_rfl) (by kernel_rfl) (by kernel_rfl) (fun _ _ _ h => h) (Or.inl ⟨by rfl, ?_⟩) (by assumption) ?_
        rotate_left
        · intro w hSw; (try dsimp only at hSw); go_simp; (try with_reducible rfl)
        try simp only [Act.put, List.setIfInBounds_toArray, List.set_cons_zero, List.set_cons_succ]
        refine wpAnyH_ready (rs := [2, 9]) (by kernel_rfl) (by simp) ?_
        refine AllReadyH.cons (o := { dst := some 79, op := Go.Op.call { callee := Go.Callee.value (Go.Operand.func 24), args := #[Go.Operand.tmp 78, Go.Operand.const (Go.Value.int Go.IntKind.i64 (-1))], argTypes := #[23, 3] }, type := 23, pos := "law.go:116", after := #[{ on := 1, ground := Go.Ground.data }], guard := none }) rfl (fun K hK => ?_) ?_
        · go_simp
          (go_at_call 24; ((with_reducible refine (SC.out _).mono ?_); rintro e v4 ⟨rfl, gb4⟩))
          have s4 : v3.heap.size < v4.heap.size := blk_lt (by simp) (blk_later (by simp) gb4 hHeld.2.2)
          refine hK.out _ _ ?_ (fun hHeld2 => ?_)
          · (try dsimp only); (exact ⟨blk_later (by simp) gb4 hHeld.1, blk_later (by simp) gb4 hHeld.2.1, blk_later (by simp) gb4 hHeld.2.2⟩)
          clear hK K hHeld
          try simp only [Act.put, List.setIfInBounds_toArray, List.set_cons_zero, List.set_cons_succ]
          refine wpAnyH_ready (rs := [5, 9]) (by kernel_rfl) (by simp) ?_
          refine AllReadyH.cons (o := { dst := some 82, op := Go.Op.call { callee := Go.Callee.value (Go.Operand.func 21), args := #[Go.Operand.tmp 77, Go.Operand.tmp 79, Go.Operand.tmp 80, Go.Operand.tmp 81], argTypes := #[23, 23, 3, 3] }, type := 26, pos := "law.go:116", after := #[{ on := 0, ground := Go.Ground.data }, { on := 2, ground := Go.Ground.data }, { on := 3, ground := Go.Ground.data }, { on := 4, ground := Go.Ground.data }, { on := 2, ground := Go.Ground.chain }], guard := none }) rfl (fun K hK => ?_) ?_
          · go_simp
            (go_at_call 21; ((with_reducible refine (L2.out _).mono ?_); rintro e v5 ⟨rfl, gb5⟩))
            have s5 : v3.heap.size < v5.heap.size := blk_lt (by simp) (blk_later (by simp) gb5 hHeld2.2.2)
            refine hK.out _ _ ?_ (fun hHeld5 => ?_)
            · (try dsimp only); (exact ⟨blk_later (by simp) gb5 hHeld2.1, blk_later (by simp) gb5 hHeld2.2.1, blk_later (by simp) gb5 hHeld2.2.2⟩)
            clear hK K hHeld2
            try simp only [Act.put, List.setIfInBounds_toArray, List.set_cons_zero, List.set_cons_succ]
            refine wpAnyH_take (i := 6) (oi := { dst := some 76, op := Go.Op.move (Go.Operand.tmp 82), type := 26, pos := "law.go:116", after := #[{ on := 5, ground := Go.Ground.data }], guard := none }) (v := ?_) rfl (by kernel_rfl) (by kernel_rfl) (by kernel_rfl) (fun _ _ _ h => h) (Or.inl ⟨by rfl, ?_⟩) (by assumption) ?_
            rotate_left
            · intro w hSw; (try dsimp only at hSw); go_simp; (try with_reducible rfl)
            try simp only [Act.put, List.setIfInBounds_toArray, List.set_cons_zero, List.set_cons_succ]
            refine wpAnyH_take (i := 7) (oi := { dst := some 83, op := Go.Op.extract (Go.Operand.tmp 76) 0, type := 23, pos := "law.go:116", after := #[{ on := 6, ground := Go.Ground.data }], guard := none }) (v := ?_) rfl (by kernel_rfl) (by kernel_rfl) (by kernel_rfl) (fun _ _ _ h => h) (Or.inl ⟨by rfl, ?_⟩) (by assumption) ?_
            rotate_left
            · intro w hSw; (try dsimp only at hSw); go_simp; (try with_reducible rfl)
            try simp only [Act.put, List.setIfInBounds_toArray, List.set_cons_zero, List.set_cons_succ]
            refine wpAnyH_take (i := 8) (oi := { dst := some 84, op := Go.Op.extract (Go.Operand.tmp 76) 1, type := 4, pos := "law.go:116", after := #[{ on := 6, ground := Go.Ground.data }, { on := 10, ground := Go.Ground.gcOnly Go.Departure.lateStores }], guard := none }) (v := ?_) rfl (by kernel_rfl) (by kernel_rfl) (by kernel_rfl) (fun _ _ _ h => h) (Or.inl ⟨by rfl, ?_⟩) (by assumption) ?_
            rotate_left
            · intro w hSw; (try dsimp only at hSw); go_simp; (try with_reducible rfl)
            try simp only [Act.put, List.setIfInBounds_toArray, List.set_cons_zero, List.set_cons_succ]
            refine wpAnyH_ready (rs := [9]) (by kernel_rfl) (by simp) ?_
            refine AllReadyH.cons (o := { dst := some 17, op := Go.Op.alloc 23, type := 0, pos := "law.go:116", after := #[], guard := none }) rfl (fun K hK => ?_) AllReadyH.nil
            go_simp
            refine hK.out _ _ ?_ (fun hHeld9 => ?_)
            · (try dsimp only); (exact ⟨blk_alloc (by simp) _ hHeld5.1, blk_alloc (by simp) _ hHeld5.2.1, blk_alloc (by simp) _ hHeld5.2.2⟩)
            clear hK K hHeld5
            try simp only [Act.put, List.setIfInBounds_toArray, List.set_cons_zero, List.set_cons_succ]
            refine wpAnyH_ready (rs := [10]) (by kernel_rfl) (by simp) ?_
            refine AllReadyH.cons (o := { dst := none, op := Go.Op.store 23 (Go.Operand.tmp 17) (Go.Operand.tmp 83), type := 0, pos := "law.go:116", after := #[{ on := 9, ground := Go.Ground.data }, { on := 7, ground := Go.Ground.data }, { on := 5, ground := Go.Ground.chain }, { on := 0, ground := Go.Ground.phase }, { on := 1, ground := Go.Ground.phase }, { on := 2, ground := Go.Ground.phase }, { on := 3, ground := Go.Ground.phase }, { on := 4, ground := Go.Ground.phase }, { on := 5, ground := Go.Ground.phase }, { on := 6, ground := Go.Ground.phase }, { on := 7, ground := Go.Ground.phase }, { on := 8, ground := Go.Ground.textOnly Go.Departure.lateStores }, { on := 9, ground := Go.Ground.phase }], guard := none }) rfl (fun K hK => ?_) AllReadyH.nil
            go_simp
            refine hK.out _ _ ?_ (fun hHeld10 => ?_)
            · (try dsimp only); (exact ⟨blk_swap hHeld9.1 (by omega), blk_swap hHeld9.2.1 (by omega), blk_swap hHeld9.2.2 (by omega)⟩)
            clear hK K hHeld9
            try simp only [Act.put, List.setIfInBounds_toArray, List.set_cons_zero, List.set_cons_succ]
            refine wpAnyH_take (i := 11) (oi := { dst := some 18, op := Go.Op.assign (Go.Operand.tmp 84), type := 4, pos := "law.go:116", after := #[{ on := 8, ground := Go.Ground.data }, { on := 10, ground := Go.Ground.chain }, { on := 0, ground := Go.Ground.phase }, { on := 1, ground := Go.Ground.phase }, { on := 2, ground := Go.Ground.phase }, { on := 3, ground := Go.Ground.phase }, { on := 4, ground := Go.Ground.phase }, { on := 5, ground := Go.Ground.phase }, { on := 6, ground := Go.Ground.phase }, { on := 7, ground := Go.Ground.phase }, { on := 8, ground := Go.Ground.phase }, { on := 9, ground := Go.Ground.phase }, { on := 10, ground := Go.Ground.phase }], guard := none }) (v := ?_) rfl (by kernel_rfl) (by kernel_rfl) (by kernel_rfl) (fun _ _ _ h => h) (Or.inl ⟨by rfl, ?_⟩) (by assumption) ?_
            rotate_left
            · intro w hSw; (try dsimp only at hSw); go_simp; (try with_reducible rfl)
            try simp only [Act.put, List.setIfInBounds_toArray, List.set_cons_zero, List.set_cons_succ]
            refine wpAnyH_done (by kernel_rfl) ?_ _
            have p6 := hHeld10.1
            have A6 := hHeld10.2.2
            clear hHeld10
            go_wp2_with fail
            have B6 : ∀ o, (v5.alloc (.cells #[.int .i64 p2, .int .i64 q2, .int .i64 r2] 23)).cell? ⟨v5.heap.size, o, none⟩ = (#[.int .i64 p2, .int .i64 q2, .int .i64 r2] : Array Value)[o]? := new_at rfl _ _
            have HB' := HB.out
            refine region_quiet (Cl3 w.heap.size (#[.int .i64 x, .int .i64 y, .int .i64 z] : Array Value) v3.heap.size (#[.int .i64 p, .int .i64 q, .int .i64 r] : Array Value) (v5.heap.size) (#[.int .i64 p2, .int .i64 q2, .int .i64 r2] : Array Value) w) (by kernel_rfl) (by kernel_rfl) ?_ ?_
            · (try dsimp only); (exact ⟨p6, A6, B6, by (repeat' (first | (with_reducible exact Below.refl _ _) | (with_reducible refine bstep (by with_reducible assumption) ?_) | (with_reducible refine Below.alloc ?_ ?_ _) | (with_reducible refine Below.drew ?_) | (with_reducible refine below_drewN ?_ _) | (with_reducible refine Below.setCell ?_ ?_ _) | go_size))⟩)
            with_reducible refine q_want ?_ ?_ (fun wo hSw => ?_) ?_
            rotate_left
            · rfl
            · obtain ⟨q1, q2, q3, q4⟩ := id hSw; go_simp; (try with_reducible rfl)
            try simp only [Act.put, List.setIfInBounds_toArray, List.set_cons_zero, List.set_cons_succ]
            with_reducible refine q_want ?_ ?_ (fun wo hSw => ?_) ?_
            rotate_left
            · rfl
            · obtain ⟨q1, q2, q3, q4⟩ := id hSw; go_simp; (try with_reducible rfl)
            try simp only [Act.put, List.setIfInBounds_toArray, List.set_cons_zero, List.set_cons_succ]
            with_reducible refine q_want ?_ ?_ (fun wo hSw => ?_) ?_
            rotate_left
            · rfl
            · obtain ⟨q1, q2, q3, q4⟩ := id hSw; go_simp; (try with_reducible rfl)
            try simp only [Act.put, List.setIfInBounds_toArray, List.set_cons_zero, List.set_cons_succ]
            with_reducible refine q_skip ?_ ?_
            · rfl
            try simp only [Act.put, List.setIfInBounds_toArray, List.set_cons_zero, List.set_cons_succ]
            with_reducible refine q_skip ?_ ?_
            · rfl
            try simp only [Act.put, List.setIfInBounds_toArray, List.set_cons_zero, List.set_cons_succ]
            with_reducible refine q_skip ?_ ?_
            · rfl
            try simp only [Act.put, List.setIfInBounds_toArray, List.set_cons_zero, List.set_cons_succ]
            with_reducible refine q_skip ?_ ?_
            · rfl
            try simp only [Act.put, List.setIfInBounds_toArray, List.set_cons_zero, List.set_cons_succ]
            with_reducible refine q_skip ?_ ?_
            · rfl
            try simp only [Act.put, List.setIfInBounds_toArray, List.set_cons_zero, List.set_cons_succ]
            with_reducible refine q_skip ?_ ?_
            · rfl
            try simp only [Act.put, List.setIfInBounds_toArray, List.set_cons_zero, List.set_cons_succ]
            with_reducible refine q_skip ?_ ?_
            · rfl
            try simp only [Act.put, List.setIfInBounds_toArray, List.set_cons_zero, List.set_cons_succ]
            with_reducible refine q_want ?_ ?_ (fun wo hSw => ?_) ?_
            rotate_left
            · rfl
            · obtain ⟨q1, q2, q3, q4⟩ := id hSw; go_simp; (try with_reducible rfl)
            try simp only [Act.put, List.setIfInBounds_toArray, List.set_cons_zero, List.set_cons_succ]
            with_reducible refine q_want ?_ ?_ (fun wo hSw => ?_) ?_
            rotate_left
            · rfl
            · obtain ⟨q1, q2, q3, q4⟩ := id hSw; go_simp; (try with_reducible rfl)
            try simp only [Act.put, List.setIfInBounds_toArray, List.set_cons_zero, List.set_cons_succ]
            with_reducible refine wpQuiet_nil ?_
            intro wq hSq
            obtain ⟨_, _, _, hB⟩ := hSq
            have HB2 := Lib.hid hB
            clear hB
            go_wp2_with fail
            have HB3 := HB2.out
            go_returns
            exact ⟨by simp, by (repeat' (first | (with_reducible exact Below.refl _ _) | (with_reducible refine bstep (by with_reducible assumption) ?_) | (with_reducible refine Below.alloc ?_ ?_ _) | (with_reducible refine Below.drew ?_) | (with_reducible refine below_drewN ?_ _) | (with_reducible refine Below.setCell ?_ ?_ _) | go_size))⟩
          refine AllReadyH.cons (o := { dst := some 17, op := Go.Op.alloc 23, type := 0, pos := "law.go:116", after := #[], guard := none }) rfl (fun K hK => ?_) ?_
          · go_simp
            refine hK.out _ _ ?_ (fun hHeld9 => ?_)
            · (try dsimp only); (exact ⟨blk_alloc (by simp) _ hHeld2.1, blk_alloc (by simp) _ hHeld2.2.1, blk_alloc (by simp) _ hHeld2.2.2⟩)
            clear hK K hHeld2
            try simp only [Act.put, List.setIfInBounds_toArray, List.set_cons_zero, List.set_cons_succ]
            refine wpAnyH_ready (rs := [5]) (by kernel_rfl) (by simp) ?_
            refine AllReadyH.cons (o := { dst := some 82, op := Go.Op.call { callee := Go.Callee.value (Go.Operand.func 21), args := #[Go.Operand.tmp 77, Go.Operand.tmp 79, Go.Operand.tmp 80, Go.Operand.tmp 81], argTypes := #[23, 23, 3, 3] }, type := 26, pos := "law.go:116", after := #[{ on := 0, ground := Go.Ground.data }, { on := 2, ground := Go.Ground.data }, { on := 3, ground := Go.Ground.data }, { on := 4, ground := Go.Ground.data }, { on := 2, ground := Go.Ground.chain }], guard := none }) rfl (fun K hK => ?_) AllReadyH.nil
            go_simp
            (go_at_call 21; ((with_reducible refine (L2.out _).mono ?_); rintro e v5 ⟨rfl, gb5⟩))
            have s5 : v3.heap.size < v5.heap.size := blk_lt (by simp) (blk_later (by simp) gb5 hHeld9.2.2)
            have Z6 : ∀ o, v5.cell? ⟨v4.heap.size, o, none⟩ = (#[.int .i64 0, .int .i64 0, .int .i64 0] : Array Value)[o]? := blk_later (by simp) gb5 (new_at rfl _ _)
            have FZ6 : ∀ o, v5.frozen? ⟨v4.heap.size, o, none⟩ = false := fro_call gb5 (fro_new rfl _ _) (lt_new rfl)
            have s5z : v4.heap.size < v5.heap.size := blk_lt (by simp) Z6
            refine hK.out _ _ ?_ (fun hHeld5 => ?_)
            · (try dsimp only); (exact ⟨blk_later (by simp) gb5 hHeld9.1, blk_later (by simp) gb5 hHeld9.2.1, blk_later (by simp) gb5 hHeld9.2.2⟩)
            clear hK K hHeld9
            try simp only [Act.put, List.setIfInBounds_toArray, List.set_cons_zero, List.set_cons_succ]
            refine wpAnyH_take (i := 6) (oi := { dst := some 76, op := Go.Op.move (Go.Operand.tmp 82), type := 26, pos := "law.go:116", after := #[{ on := 5, ground := Go.Ground.data }], guard := none }) (v := ?_) rfl (by kernel_rfl) (by kernel_rfl) (by kernel_rfl) (fun _ _ _ h => h) (Or.inl ⟨by rfl, ?_⟩) (by assumption) ?_
            rotate_left
            · intro w hSw; (try dsimp only at hSw); go_simp; (try with_reducible rfl)
            try simp only [Act.put, List.setIfInBounds_toArray, List.set_cons_zero, List.set_cons_succ]
            refine wpAnyH_take (i := 7) (oi := { dst := some 83, op := Go.Op.extract (Go.Operand.tmp 76) 0, type := 23, pos := "law.go:116", after := #[{ on := 6, ground := Go.Ground.data }], guard := none }) (v := ?_) rfl (by kernel_rfl) (by kernel_rfl) (by kernel_rfl) (fun _ _ _ h => h) (Or.inl ⟨by rfl, ?_⟩) (by assumption) ?_
            rotate_left
            · intro w hSw; (try dsimp only at hSw); go_simp; (try with_reducible rfl)
            try simp only [Act.put, List.setIfInBounds_toArray, List.set_cons_zero, List.set_cons_succ]
            refine wpAnyH_take (i := 8) (oi := { dst := some 84, op := Go.Op.extract (Go.Operand.tmp 76) 1, type := 4, pos := "law.go:116", after := #[{ on := 6, ground := Go.Ground.data }, { on := 10, ground := Go.Ground.gcOnly Go.Departure.lateStores }], guard := none }) (v := ?_) rfl (by kernel_rfl) (by kernel_rfl) (by kernel_rfl) (fun _ _ _ h => h) (Or.inl ⟨by rfl, ?_⟩) (by assumption) ?_
            rotate_left
            · intro w hSw; (try dsimp only at hSw); go_simp; (try with_reducible rfl)
            try simp only [Act.put, List.setIfInBounds_toArray, List.set_cons_zero, List.set_cons_succ]
            refine wpAnyH_ready (rs := [10]) (by kernel_rfl) (by simp) ?_
            refine AllReadyH.cons (o := { dst := none, op := Go.Op.store 23 (Go.Operand.tmp 17) (Go.Operand.tmp 83), type := 0, pos := "law.go:116", after := #[{ on := 9, ground := Go.Ground.data }, { on := 7, ground := Go.Ground.data }, { on := 5, ground := Go.Ground.chain }, { on := 0, ground := Go.Ground.phase }, { on := 1, ground := Go.Ground.phase }, { on := 2, ground := Go.Ground.phase }, { on := 3, ground := Go.Ground.phase }, { on := 4, ground := Go.Ground.phase }, { on := 5, ground := Go.Ground.phase }, { on := 6, ground := Go.Ground.phase }, { on := 7, ground := Go.Ground.phase }, { on := 8, ground := Go.Ground.textOnly Go.Departure.lateStores }, { on := 9, ground := Go.Ground.phase }], guard := none }) rfl (fun K hK => ?_) AllReadyH.nil
            go_simp
            refine hK.out _ _ ?_ (fun hHeld10 => ?_)
            · (try dsimp only); (exact ⟨st3_far (by omega) hHeld5.1, st3_far (by omega) hHeld5.2.1, st3_far (by omega) hHeld5.2.2⟩)
            clear hK K hHeld5
            try simp only [Act.put, List.setIfInBounds_toArray, List.set_cons_zero, List.set_cons_succ]
            refine wpAnyH_take (i := 11) (oi := { dst := some 18, op := Go.Op.assign (Go.Operand.tmp 84), type := 4, pos := "law.go:116", after := #[{ on := 8, ground := Go.Ground.data }, { on := 10, ground := Go.Ground.chain }, { on := 0, ground := Go.Ground.phase }, { on := 1, ground := Go.Ground.phase }, { on := 2, ground := Go.Ground.phase }, { on := 3, ground := Go.Ground.phase }, { on := 4, ground := Go.Ground.phase }, { on := 5, ground := Go.Ground.phase }, { on := 6, ground := Go.Ground.phase }, { on := 7, ground := Go.Ground.phase }, { on := 8, ground := Go.Ground.phase }, { on := 9, ground := Go.Ground.phase }, { on := 10, ground := Go.Ground.phase }], guard := none }) (v := ?_) rfl (by kernel_rfl) (by kernel_rfl) (by kernel_rfl) (fun _ _ _ h => h) (Or.inl ⟨by rfl, ?_⟩) (by assumption) ?_
            rotate_left
            · intro w hSw; (try dsimp only at hSw); go_simp; (try with_reducible rfl)
            try simp only [Act.put, List.setIfInBounds_toArray, List.set_cons_zero, List.set_cons_succ]
            refine wpAnyH_done (by kernel_rfl) ?_ _
            have p6 := hHeld10.1
            have A6 := hHeld10.2.2
            clear hHeld10
            go_wp2_with fail
            have B6 := st3_blk (cs' := (#[.int .i64 p2, .int .i64 q2, .int .i64 r2] : Array Value)) (i := 0) (j := 1) (k := 2) (u := .int .i64 p2) (v := .int .i64 q2) (x := .int .i64 r2) Z6 (by simp) (by simp) (by simp) rfl
            have HB' := HB.out
            refine region_quiet (Cl3 w.heap.size (#[.int .i64 x, .int .i64 y, .int .i64 z] : Array Value) v3.heap.size (#[.int .i64 p, .int .i64 q, .int .i64 r] : Array Value) (v4.heap.size) (#[.int .i64 p2, .int .i64 q2, .int .i64 r2] : Array Value) w) (by kernel_rfl) (by kernel_rfl) ?_ ?_
            · (try dsimp only); (exact ⟨p6, A6, B6, by (repeat' (first | (with_reducible exact Below.refl _ _) | (with_reducible refine bstep (by with_reducible assumption) ?_) | (with_reducible refine Below.alloc ?_ ?_ _) | (with_reducible refine Below.drew ?_) | (with_reducible refine below_drewN ?_ _) | (with_reducible refine Below.setCell ?_ ?_ _) | go_size))⟩)
            with_reducible refine q_want ?_ ?_ (fun wo hSw => ?_) ?_
            rotate_left
            · rfl
            · obtain ⟨q1, q2, q3, q4⟩ := id hSw; go_simp; (try with_reducible rfl)
            try simp only [Act.put, List.setIfInBounds_toArray, List.set_cons_zero, List.set_cons_succ]
            with_reducible refine q_want ?_ ?_ (fun wo hSw => ?_) ?_
            rotate_left
            · rfl
            · obtain ⟨q1, q2, q3, q4⟩ := id hSw; go_simp; (try with_reducible rfl)
            try simp only [Act.put, List.setIfInBounds_toArray, List.set_cons_zero, List.set_cons_succ]
            with_reducible refine q_want ?_ ?_ (fun wo hSw => ?_) ?_
            rotate_left
            · rfl
            · obtain ⟨q1, q2, q3, q4⟩ := id hSw; go_simp; (try with_reducible rfl)
            try simp only [Act.put, List.setIfInBounds_toArray, List.set_cons_zero, List.set_cons_succ]
            with_reducible refine q_skip ?_ ?_
            · rfl
            try simp only [Act.put, List.setIfInBounds_toArray, List.set_cons_zero, List.set_cons_succ]
            with_reducible refine q_skip ?_ ?_
            · rfl
            try simp only [Act.put, List.setIfInBounds_toArray, List.set_cons_zero, List.set_cons_succ]
            with_reducible refine q_skip ?_ ?_
            · rfl
            try simp only [Act.put, List.setIfInBounds_toArray, List.set_cons_zero, List.set_cons_succ]
            with_reducible refine q_skip ?_ ?_
            · rfl
            try simp only [Act.put, List.setIfInBounds_toArray, List.set_cons_zero, List.set_cons_succ]
            with_reducible refine q_skip ?_ ?_
            · rfl
            try simp only [Act.put, List.setIfInBounds_toArray, List.set_cons_zero, List.set_cons_succ]
            with_reducible refine q_skip ?_ ?_
            · rfl
            try simp only [Act.put, List.setIfInBounds_toArray, List.set_cons_zero, List.set_cons_succ]
            with_reducible refine q_skip ?_ ?_
            · rfl
            try simp only [Act.put, List.setIfInBounds_toArray, List.set_cons_zero, List.set_cons_succ]
            with_reducible refine q_want ?_ ?_ (fun wo hSw => ?_) ?_
            rotate_left
            · rfl
            · obtain ⟨q1, q2, q3, q4⟩ := id hSw; go_simp; (try with_reducible rfl)
            try simp only [Act.put, List.setIfInBounds_toArray, List.set_cons_zero, List.set_cons_succ]
            with_reducible refine q_want ?_ ?_ (fun wo hSw => ?_) ?_
            rotate_left
            · rfl
            · obtain ⟨q1, q2, q3, q4⟩ := id hSw; go_simp; (try with_reducible rfl)
            try simp only [Act.put, List.setIfInBounds_toArray, List.set_cons_zero, List.set_cons_succ]
            with_reducible refine wpQuiet_nil ?_
            intro wq hSq
            obtain ⟨_, _, _, hB⟩ := hSq
            have HB2 := Lib.hid hB
            clear hB
            go_wp2_with fail
            have HB3 := HB2.out
            go_returns
            exact ⟨by simp, by (repeat' (first | (with_reducible exact Below.refl _ _) | (with_reducible refine bstep (by with_reducible assumption) ?_) | (with_reducible refine Below.alloc ?_ ?_ _) | (with_reducible refine Below.drew ?_) | (with_reducible refine below_drewN ?_ _) | (with_reducible refine Below.setCell ?_ ?_ _) | go_size))⟩
          exact AllReadyH.nil
        refine AllReadyH.cons (o := { dst := some 17, op := Go.Op.alloc 23, type := 0, pos := "law.go:116", after := #[], guard := none }) rfl (fun K hK => ?_) ?_
        · go_simp
          refine hK.out _ _ ?_ (fun hHeld9 => ?_)
          · (try dsimp only); (exact ⟨blk_alloc (by simp) _ hHeld.1, blk_alloc (by simp) _ hHeld.2.1, blk_alloc (by simp) _ hHeld.2.2⟩)
          clear hK K hHeld
          try simp only [Act.put, List.setIfInBounds_toArray, List.set_cons_zero, List.set_cons_succ]
          refine wpAnyH_ready (rs := [2]) (by kernel_rfl) (by simp) ?_
          refine AllReadyH.cons (o := { dst := some 79, op := Go.Op.call { callee := Go.Callee.value (Go.Operand.func 24), args := #[Go.Operand.tmp 78, Go.Operand.const (Go.Value.int Go.IntKind.i64 (-1))], argTypes := #[23, 3] }, type := 23, pos := "law.go:116", after := #[{ on := 1, ground := Go.Ground.data }], guard := none }) rfl (fun K hK => ?_) AllReadyH.nil
          go_simp
          (go_at_call 24; ((with_reducible refine (SC.out _).mono ?_); rintro e v4 ⟨rfl, gb4⟩))
          have s4 : v3.heap.size < v4.heap.size := blk_lt (by simp) (blk_later (by simp) gb4 hHeld9.2.2)
          have Z5 : ∀ o, v4.cell? ⟨v3.heap.size + 1, o, none⟩ = (#[.int .i64 0, .int .i64 0, .int .i64 0] : Array Value)[o]? := blk_later (by simp) gb4 (by (repeat (first | (with_reducible assumption) | (focus ((with_reducible refine new_at ?_ _ _); (repeat (first | (with_reducible rfl) | (with_reducible refine sz1 ?_) | (with_reducible refine sz_drew ?_))); done)) | (with_reducible refine blk_alloc (by simp) _ ?_) | (with_reducible refine blk_drew ?_))))
          have FZ5 : ∀ o, v4.frozen? ⟨v3.heap.size + 1, o, none⟩ = false := fro_call gb4 (by (repeat (first | (with_reducible assumption) | (focus ((with_reducible refine fro_new ?_ _ _); (repeat (first | (with_reducible rfl) | (with_reducible refine sz1 ?_) | (with_reducible refine sz_drew ?_))); done)) | ((with_reducible refine fro_more ?_ _ ?_); (repeat (first | (with_reducible assumption) | (focus ((with_reducible refine lt_new ?_); (repeat (first | (with_reducible rfl) | (with_reducible refine sz1 ?_) | (with_reducible refine sz_drew ?_))); done)) | (with_reducible refine lt_here ?_) | (with_reducible refine lt_drew ?_)))) | (with_reducible refine fro_drew ?_)))) (by (repeat (first | (with_reducible assumption) | (focus ((with_reducible refine lt_new ?_); (repeat (first | (with_reducible rfl) | (with_reducible refine sz1 ?_) | (with_reducible refine sz_drew ?_))); done)) | (with_reducible refine lt_here ?_) | (with_reducible refine lt_drew ?_))))
          have s4z : v3.heap.size + 1 < v4.heap.size := blk_lt (by simp) Z5
          refine hK.out _ _ ?_ (fun hHeld2 => ?_)
          · (try dsimp only); (exact ⟨blk_later (by simp) gb4 hHeld9.1, blk_later (by simp) gb4 hHeld9.2.1, blk_later (by simp) gb4 hHeld9.2.2⟩)
          clear hK K hHeld9
          try simp only [Act.put, List.setIfInBounds_toArray, List.set_cons_zero, List.set_cons_succ]
          refine wpAnyH_ready (rs := [5]) (by kernel_rfl) (by simp) ?_
          refine AllReadyH.cons (o := { dst := some 82, op := Go.Op.call { callee := Go.Callee.value (Go.Operand.func 21), args := #[Go.Operand.tmp 77, Go.Operand.tmp 79, Go.Operand.tmp 80, Go.Operand.tmp 81], argTypes := #[23, 23, 3, 3] }, type := 26, pos := "law.go:116", after := #[{ on := 0, ground := Go.Ground.data }, { on := 2, ground := Go.Ground.data }, { on := 3, ground := Go.Ground.data }, { on := 4, ground := Go.Ground.data }, { on := 2, ground := Go.Ground.chain }], guard := none }) rfl (fun K hK => ?_) AllReadyH.nil
          go_simp
          (go_at_call 21; ((with_reducible refine (L2.out _).mono ?_); rintro e v5 ⟨rfl, gb5⟩))
          have s5 : v3.heap.size < v5.heap.size := blk_lt (by simp) (blk_later (by simp) gb5 hHeld2.2.2)
          have Z6 := blk_later (by simp) gb5 Z5
          have FZ6 := fro_call gb5 FZ5 s4z
          have s5z : v3.heap.size + 1 < v5.heap.size := blk_lt (by simp) Z6
          refine hK.out _ _ ?_ (fun hHeld5 => ?_)
          · (try dsimp only); (exact ⟨blk_later (by simp) gb5 hHeld2.1, blk_later (by simp) gb5 hHeld2.2.1, blk_later (by simp) gb5 hHeld2.2.2⟩)
          clear hK K hHeld2
          try simp only [Act.put, List.setIfInBounds_toArray, List.set_cons_zero, List.set_cons_succ]
          refine wpAnyH_take (i := 6) (oi := { dst := some 76, op := Go.Op.move (Go.Operand.tmp 82), type := 26, pos := "law.go:116", after := #[{ on := 5, ground := Go.Ground.data }], guard := none }) (v := ?_) rfl (by kernel_rfl) (by kernel_rfl) (by kernel_rfl) (fun _ _ _ h => h) (Or.inl ⟨by rfl, ?_⟩) (by assumption) ?_
          rotate_left
          · intro w hSw; (try dsimp only at hSw); go_simp; (try with_reducible rfl)
          try simp only [Act.put, List.setIfInBounds_toArray, List.set_cons_zero, List.set_cons_succ]
          refine wpAnyH_take (i := 7) (oi := { dst := some 83, op := Go.Op.extract (Go.Operand.tmp 76) 0, type := 23, pos := "law.go:116", after := #[{ on := 6, ground := Go.Ground.data }], guard := none }) (v := ?_) rfl (by kernel_rfl) (by kernel_rfl) (by kernel_rfl) (fun _ _ _ h => h) (Or.inl ⟨by rfl, ?_⟩) (by assumption) ?_
          rotate_left
          · intro w hSw; (try dsimp only at hSw); go_simp; (try with_reducible rfl)
          try simp only [Act.put, List.setIfInBounds_toArray, List.set_cons_zero, List.set_cons_succ]
          refine wpAnyH_take (i := 8) (oi := { dst := some 84, op := Go.Op.extract (Go.Operand.tmp 76) 1, type := 4, pos := "law.go:116", after := #[{ on := 6, ground := Go.Ground.data }, { on := 10, ground := Go.Ground.gcOnly Go.Departure.lateStores }], guard := none }) (v := ?_) rfl (by kernel_rfl) (by kernel_rfl) (by kernel_rfl) (fun _ _ _ h => h) (Or.inl ⟨by rfl, ?_⟩) (by assumption) ?_
          rotate_left
          · intro w hSw; (try dsimp only at hSw); go_simp; (try with_reducible rfl)
          try simp only [Act.put, List.setIfInBounds_toArray, List.set_cons_zero, List.set_cons_succ]
          refine wpAnyH_ready (rs := [10]) (by kernel_rfl) (by simp) ?_
          refine AllReadyH.cons (o := { dst := none, op := Go.Op.store 23 (Go.Operand.tmp 17) (Go.Operand.tmp 83), type := 0, pos := "law.go:116", after := #[{ on := 9, ground := Go.Ground.data }, { on := 7, ground := Go.Ground.data }, { on := 5, ground := Go.Ground.chain }, { on := 0, ground := Go.Ground.phase }, { on := 1, ground := Go.Ground.phase }, { on := 2, ground := Go.Ground.phase }, { on := 3, ground := Go.Ground.phase }, { on := 4, ground := Go.Ground.phase }, { on := 5, ground := Go.Ground.phase }, { on := 6, ground := Go.Ground.phase }, { on := 7, ground := Go.Ground.phase }, { on := 8, ground := Go.Ground.textOnly Go.Departure.lateStores }, { on := 9, ground := Go.Ground.phase }], guard := none }) rfl (fun K hK => ?_) AllReadyH.nil
          go_simp
          refine hK.out _ _ ?_ (fun hHeld10 => ?_)
          · (try dsimp only); (exact ⟨st3_far (by omega) hHeld5.1, st3_far (by omega) hHeld5.2.1, st3_far (by omega) hHeld5.2.2⟩)
          clear hK K hHeld5
          try simp only [Act.put, List.setIfInBounds_toArray, List.set_cons_zero, List.set_cons_succ]
          refine wpAnyH_take (i := 11) (oi := { dst := some 18, op := Go.Op.assign (Go.Operand.tmp 84), type := 4, pos := "law.go:116", after := #[{ on := 8, ground := Go.Ground.data }, { on := 10, ground := Go.Ground.chain }, { on := 0, ground := Go.Ground.phase }, { on := 1, ground := Go.Ground.phase }, { on := 2, ground := Go.Ground.phase }, { on := 3, ground := Go.Ground.phase }, { on := 4, ground := Go.Ground.phase }, { on := 5, ground := Go.Ground.phase }, { on := 6, ground := Go.Ground.phase }, { on := 7, ground := Go.Ground.phase }, { on := 8, ground := Go.Ground.phase }, { on := 9, ground := Go.Ground.phase }, { on := 10, ground := Go.Ground.phase }], guard := none }) (v := ?_) rfl (by kernel_rfl) (by kernel_rfl) (by kernel_rfl) (fun _ _ _ h => h) (Or.inl ⟨by rfl, ?_⟩) (by assumption) ?_
          rotate_left
          · intro w hSw; (try dsimp only at hSw); go_simp; (try with_reducible rfl)
          try simp only [Act.put, List.setIfInBounds_toArray, List.set_cons_zero, List.set_cons_succ]
          refine wpAnyH_done (by kernel_rfl) ?_ _
          have p6 := hHeld10.1
          have A6 := hHeld10.2.2
          clear hHeld10
          go_wp2_with fail
          have B6 := st3_blk (cs' := (#[.int .i64 p2, .int .i64 q2, .int .i64 r2] : Array Value)) (i := 0) (j := 1) (k := 2) (u := .int .i64 p2) (v := .int .i64 q2) (x := .int .i64 r2) Z6 (by simp) (by simp) (by simp) rfl
          have HB' := HB.out
          refine region_quiet (Cl3 w.heap.size (#[.int .i64 x, .int .i64 y, .int .i64 z] : Array Value) v3.heap.size (#[.int .i64 p, .int .i64 q, .int .i64 r] : Array Value) (v3.heap.size + 1) (#[.int .i64 p2, .int .i64 q2, .int .i64 r2] : Array Value) w) (by kernel_rfl) (by kernel_rfl) ?_ ?_
          · (try dsimp only); (exact ⟨p6, A6, B6, by (repeat' (first | (with_reducible exact Below.refl _ _) | (with_reducible refine bstep (by with_reducible assumption) ?_) | (with_reducible refine Below.alloc ?_ ?_ _) | (with_reducible refine Below.drew ?_) | (with_reducible refine below_drewN ?_ _) | (with_reducible refine Below.setCell ?_ ?_ _) | go_size))⟩)
          with_reducible refine q_want ?_ ?_ (fun wo hSw => ?_) ?_
          rotate_left
          · rfl
          · obtain ⟨q1, q2, q3, q4⟩ := id hSw; go_simp; (try with_reducible rfl)
          try simp only [Act.put, List.setIfInBounds_toArray, List.set_cons_zero, List.set_cons_succ]
          with_reducible refine q_want ?_ ?_ (fun wo hSw => ?_) ?_
          rotate_left
          · rfl
          · obtain ⟨q1, q2, q3, q4⟩ := id hSw; go_simp; (try with_reducible rfl)
          try simp only [Act.put, List.setIfInBounds_toArray, List.set_cons_zero, List.set_cons_succ]
          with_reducible refine q_want ?_ ?_ (fun wo hSw => ?_) ?_
          rotate_left
          · rfl
          · obtain ⟨q1, q2, q3, q4⟩ := id hSw; go_simp; (try with_reducible rfl)
          try simp only [Act.put, List.setIfInBounds_toArray, List.set_cons_zero, List.set_cons_succ]
          with_reducible refine q_skip ?_ ?_
          · rfl
          try simp only [Act.put, List.setIfInBounds_toArray, List.set_cons_zero, List.set_cons_succ]
          with_reducible refine q_skip ?_ ?_
          · rfl
          try simp only [Act.put, List.setIfInBounds_toArray, List.set_cons_zero, List.set_cons_succ]
          with_reducible refine q_skip ?_ ?_
          · rfl
          try simp only [Act.put, List.setIfInBounds_toArray, List.set_cons_zero, List.set_cons_succ]
          with_reducible refine q_skip ?_ ?_
          · rfl
          try simp only [Act.put, List.setIfInBounds_toArray, List.set_cons_zero, List.set_cons_succ]
          with_reducible refine q_skip ?_ ?_
          · rfl
          try simp only [Act.put, List.setIfInBounds_toArray, List.set_cons_zero, List.set_cons_succ]
          with_reducible refine q_skip ?_ ?_
          · rfl
          try simp only [Act.put, List.setIfInBounds_toArray, List.set_cons_zero, List.set_cons_succ]
          with_reducible refine q_skip ?_ ?_
          · rfl
          try simp only [Act.put, List.setIfInBounds_toArray, List.set_cons_zero, List.set_cons_succ]
          with_reducible refine q_want ?_ ?_ (fun wo hSw => ?_) ?_
          rotate_left
          · rfl
          · obtain ⟨q1, q2, q3, q4⟩ := id hSw; go_simp; (try with_reducible rfl)
          try simp only [Act.put, List.setIfInBounds_toArray, List.set_cons_zero, List.set_cons_succ]
          with_reducible refine q_want ?_ ?_ (fun wo hSw => ?_) ?_
          rotate_left
          · rfl
          · obtain ⟨q1, q2, q3, q4⟩ := id hSw; go_simp; (try with_reducible rfl)
          try simp only [Act.put, List.setIfInBounds_toArray, List.set_cons_zero, List.set_cons_succ]
          with_reducible refine wpQuiet_nil ?_
          intro wq hSq
          obtain ⟨_, _, _, hB⟩ := hSq
          have HB2 := Lib.hid hB
          clear hB
          go_wp2_with fail
          have HB3 := HB2.out
          go_returns
          exact ⟨by simp, by (repeat' (first | (with_reducible exact Below.refl _ _) | (with_reducible refine bstep (by with_reducible assumption) ?_) | (with_reducible refine Below.alloc ?_ ?_ _) | (with_reducible refine Below.drew ?_) | (with_reducible refine below_drewN ?_ _) | (with_reducible refine Below.setCell ?_ ?_ _) | go_size))⟩
        exact AllReadyH.nil
      · obtain ⟨s0, s1, s2, d0', d1', d2', e0, e1, e2, F1, F2, F3, F4⟩ := HH.out rfl
        have F1 := Lib.hid F1
        have F2 := Lib.hid F2
        have F3 := Lib.hid F3
        have F4 := Lib.hid F4
        go_wp2_with (first
          | (go_at_call 23; ((with_reducible refine (TX.out _ _ _ ?_).mono ?_); (focus (exact IV)); rintro e v1 ⟨rfl, gb1⟩; have p1 := blk_later (by simp) gb1 pc; have n1 := blk_later (by simp) gb1 nc))
          | (go_at_call 21; ((with_reducible refine (L1.out _).mono ?_); rintro e v3 ⟨rfl, gb3⟩; have p3' := blk_later (by simp) gb3 p1; have n3' := blk_later (by simp) gb3 n1; have s3 : w.heap.size + 1 < v3.heap.size := blk_lt (by simp) n3'; have s3' : w.heap.size < v3.heap.size := (by omega))))
        have A4 : ∀ o, (v3.alloc (.cells #[.int .i64 p, .int .i64 q, .int .i64 r] 23)).cell? ⟨v3.heap.size, o, none⟩ = (#[.int .i64 p, .int .i64 q, .int .i64 r] : Array Value)[o]? := new_at rfl _ _
        have p4 := blk_alloc (by simp) (.cells #[.int .i64 p, .int .i64 q, .int .i64 r] 23) p3'
        have n4 := blk_alloc (by simp) (.cells #[.int .i64 p, .int .i64 q, .int .i64 r] 23) n3'
        refine wp_region_held_drew (S := (fun w' => (∀ o, w'.cell? ⟨w.heap.size, o, none⟩ = (#[.int .i64 x, .int .i64 y, .int .i64 z] : Array Value)[o]?) ∧ (∀ o, w'.cell? ⟨w.heap.size + 1, o, none⟩ = (#[.int .i64 a, .int .i64 b, .int .i64 c] : Array Value)[o]?) ∧ (∀ o, w'.cell? ⟨v3.heap.size, o, none⟩ = (#[.int .i64 p, .int .i64 q, .int .i64 r] : Array Value)[o]?))) (by kernel_rfl) ?_ (fun hHeld => ?_)
        · (try dsimp only); (((first | (go_split_ands; skip) | skip); (repeat' apply And.intro) <;> (first | assumption | (with_reducible exact blk_drew (by assumption)) | (with_reducible exact blk_later (by simp) (by assumption) (by assumption)) | (with_reducible exact blk_alloc (by simp) _ (by assumption)) | (focus ((with_reducible apply st3_far); omega; assumption)))))
        refine wpAnyH_take (i := 0) (oi := { dst := some 77, op := Go.Op.load 23 (Go.Operand.tmp 5), type := 23, pos := "law.go:116", after := #[], guard := none }) (v := ?_) rfl (by kernel_rfl) (by kernel_rfl) (by kernel_rfl) (fun _ _ _ h => h) (Or.inl ⟨by rfl, ?_⟩) (by assumption) ?_
        rotate_left
        · intro w hSw; (try dsimp only at hSw); go_simp; (try with_reducible rfl)
        try simp only [Act.put, List.setIfInBounds_toArray, List.set_cons_zero, List.set_cons_succ]
        refine wpAnyH_take (i := 1) (oi := { dst := some 78, op := Go.Op.load 23 (Go.Operand.tmp 6), type := 23, pos := "law.go:116", after := #[], guard := none }) (v := ?_) rfl (by kernel_rfl) (by kernel_rfl) (by kernel_rfl) (fun _ _ _ h => h) (Or.inl ⟨by rfl, ?_⟩) (by assumption) ?_
        rotate_left
        · intro w hSw; (try dsimp only at hSw); go_simp; (try with_reducible rfl)
        try simp only [Act.put, List.setIfInBounds_toArray, List.set_cons_zero, List.set_cons_succ]
        refine wpAnyH_take (i := 3) (oi := { dst := some 80, op := Go.Op.move (Go.Operand.tmp 2), type := 3, pos := "law.go:116", after := #[], guard := none }) (v := ?_) rfl (by kernel_rfl) (by kernel_rfl) (by kernel_rfl) (fun _ _ _ h => h) (Or.inl ⟨by rfl, ?_⟩) (by assumption) ?_
        rotate_left
        · intro w hSw; (try dsimp only at hSw); go_simp; (try with_reducible rfl)
        try simp only [Act.put, List.setIfInBounds_toArray, List.set_cons_zero, List.set_cons_succ]
        refine wpAnyH_take (i := 4) (oi := { dst := some 81, op := Go.Op.move (Go.Operand.tmp 4), type := 3, pos := "law.go:116", after := #[], guard := none }) (v := ?_) rfl (by kernel_rfl) (by kernel_rfl) (by kernel_rfl) (fun _ _ _ h => h) (Or.inl ⟨by rfl, ?_⟩) (by assumption) ?_
        rotate_left
        · intro w hSw; (try dsimp only at hSw); go_simp; (try with_reducible rfl)
        try simp only [Act.put, List.setIfInBounds_toArray, List.set_cons_zero, List.set_cons_succ]
        refine wpAnyH_ready (rs := [2, 9]) (by kernel_rfl) (by simp) ?_
        refine AllReadyH.cons (o := { dst := some 79, op := Go.Op.call { callee := Go.Callee.value (Go.Operand.func 24), args := #[Go.Operand.tmp 78, Go.Operand.const (Go.Value.int Go.IntKind.i64 (-1))], argTypes := #[23, 3] }, type := 23, pos := "law.go:116", after := #[{ on := 1, ground := Go.Ground.data }], guard := none }) rfl (fun K hK => ?_) ?_
        · go_simp
          (go_at_call 24; ((with_reducible refine (SC.out _).mono ?_); rintro e v4 ⟨rfl, gb4⟩))
          have s4 : v3.heap.size < v4.heap.size := blk_lt (by simp) (blk_later (by simp) gb4 hHeld.2.2)
          refine hK.out _ _ ?_ (fun hHeld2 => ?_)
          · (try dsimp only); (exact ⟨blk_later (by simp) gb4 hHeld.1, blk_later (by simp) gb4 hHeld.2.1, blk_later (by simp) gb4 hHeld.2.2⟩)
          clear hK K hHeld
          try simp only [Act.put, List.setIfInBounds_toArray, List.set_cons_zero, List.set_cons_succ]
          refine wpAnyH_ready (rs := [5, 9]) (by kernel_rfl) (by simp) ?_
          refine AllReadyH.cons (o := { dst := some 82, op := Go.Op.call { callee := Go.Callee.value (Go.Operand.func 21), args := #[Go.Operand.tmp 77, Go.Operand.tmp 79, Go.Operand.tmp 80, Go.Operand.tmp 81], argTypes := #[23, 23, 3, 3] }, type := 26, pos := "law.go:116", after := #[{ on := 0, ground := Go.Ground.data }, { on := 2, ground := Go.Ground.data }, { on := 3, ground := Go.Ground.data }, { on := 4, ground := Go.Ground.data }, { on := 2, ground := Go.Ground.chain }], guard := none }) rfl (fun K hK => ?_) ?_
          · go_simp
            (go_at_call 21; ((with_reducible refine (L2.out _).mono ?_); rintro e v5 ⟨rfl, gb5⟩))
            have s5 : v3.heap.size < v5.heap.size := blk_lt (by simp) (blk_later (by simp) gb5 hHeld2.2.2)
            refine hK.out _ _ ?_ (fun hHeld5 => ?_)
            · (try dsimp only); (exact ⟨blk_later (by simp) gb5 hHeld2.1, blk_later (by simp) gb5 hHeld2.2.1, blk_later (by simp) gb5 hHeld2.2.2⟩)
            clear hK K hHeld2
            try simp only [Act.put, List.setIfInBounds_toArray, List.set_cons_zero, List.set_cons_succ]
            refine wpAnyH_take (i := 6) (oi := { dst := some 76, op := Go.Op.move (Go.Operand.tmp 82), type := 26, pos := "law.go:116", after := #[{ on := 5, ground := Go.Ground.data }], guard := none }) (v := ?_) rfl (by kernel_rfl) (by kernel_rfl) (by kernel_rfl) (fun _ _ _ h => h) (Or.inl ⟨by rfl, ?_⟩) (by assumption) ?_
            rotate_left
            · intro w hSw; (try dsimp only at hSw); go_simp; (try with_reducible rfl)
            try simp only [Act.put, List.setIfInBounds_toArray, List.set_cons_zero, List.set_cons_succ]
            refine wpAnyH_take (i := 7) (oi := { dst := some 83, op := Go.Op.extract (Go.Operand.tmp 76) 0, type := 23, pos := "law.go:116", after := #[{ on := 6, ground := Go.Ground.data }], guard := none }) (v := ?_) rfl (by kernel_rfl) (by kernel_rfl) (by kernel_rfl) (fun _ _ _ h => h) (Or.inl ⟨by rfl, ?_⟩) (by assumption) ?_
            rotate_left
            · intro w hSw; (try dsimp only at hSw); go_simp; (try with_reducible rfl)
            try simp only [Act.put, List.setIfInBounds_toArray, List.set_cons_zero, List.set_cons_succ]
            refine wpAnyH_take (i := 8) (oi := { dst := some 84, op := Go.Op.extract (Go.Operand.tmp 76) 1, type := 4, pos := "law.go:116", after := #[{ on := 6, ground := Go.Ground.data }, { on := 10, ground := Go.Ground.gcOnly Go.Departure.lateStores }], guard := none }) (v := ?_) rfl (by kernel_rfl) (by kernel_rfl) (by kernel_rfl) (fun _ _ _ h => h) (Or.inl ⟨by rfl, ?_⟩) (by assumption) ?_
            rotate_left
            · intro w hSw; (try dsimp only at hSw); go_simp; (try with_reducible rfl)
            try simp only [Act.put, List.setIfInBounds_toArray, List.set_cons_zero, List.set_cons_succ]
            refine wpAnyH_ready (rs := [9]) (by kernel_rfl) (by simp) ?_
            refine AllReadyH.cons (o := { dst := some 17, op := Go.Op.alloc 23, type := 0, pos := "law.go:116", after := #[], guard := none }) rfl (fun K hK => ?_) AllReadyH.nil
            go_simp
            refine hK.out _ _ ?_ (fun hHeld9 => ?_)
            · (try dsimp only); (exact ⟨blk_alloc (by simp) _ hHeld5.1, blk_alloc (by simp) _ hHeld5.2.1, blk_alloc (by simp) _ hHeld5.2.2⟩)
            clear hK K hHeld5
            try simp only [Act.put, List.setIfInBounds_toArray, List.set_cons_zero, List.set_cons_succ]
            refine wpAnyH_ready (rs := [10]) (by kernel_rfl) (by simp) ?_
            refine AllReadyH.cons (o := { dst := none, op := Go.Op.store 23 (Go.Operand.tmp 17) (Go.Operand.tmp 83), type := 0, pos := "law.go:116", after := #[{ on := 9, ground := Go.Ground.data }, { on := 7, ground := Go.Ground.data }, { on := 5, ground := Go.Ground.chain }, { on := 0, ground := Go.Ground.phase }, { on := 1, ground := Go.Ground.phase }, { on := 2, ground := Go.Ground.phase }, { on := 3, ground := Go.Ground.phase }, { on := 4, ground := Go.Ground.phase }, { on := 5, ground := Go.Ground.phase }, { on := 6, ground := Go.Ground.phase }, { on := 7, ground := Go.Ground.phase }, { on := 8, ground := Go.Ground.textOnly Go.Departure.lateStores }, { on := 9, ground := Go.Ground.phase }], guard := none }) rfl (fun K hK => ?_) AllReadyH.nil
            go_simp
            refine hK.out _ _ ?_ (fun hHeld10 => ?_)
            · (try dsimp only); (exact ⟨blk_swap hHeld9.1 (by omega), blk_swap hHeld9.2.1 (by omega), blk_swap hHeld9.2.2 (by omega)⟩)
            clear hK K hHeld9
            try simp only [Act.put, List.setIfInBounds_toArray, List.set_cons_zero, List.set_cons_succ]
            refine wpAnyH_take (i := 11) (oi := { dst := some 18, op := Go.Op.assign (Go.Operand.tmp 84), type := 4, pos := "law.go:116", after := #[{ on := 8, ground := Go.Ground.data }, { on := 10, ground := Go.Ground.chain }, { on := 0, ground := Go.Ground.phase }, { on := 1, ground := Go.Ground.phase }, { on := 2, ground := Go.Ground.phase }, { on := 3, ground := Go.Ground.phase }, { on := 4, ground := Go.Ground.phase }, { on := 5, ground := Go.Ground.phase }, { on := 6, ground := Go.Ground.phase }, { on := 7, ground := Go.Ground.phase }, { on := 8, ground := Go.Ground.phase }, { on := 9, ground := Go.Ground.phase }, { on := 10, ground := Go.Ground.phase }], guard := none }) (v := ?_) rfl (by kernel_rfl) (by kernel_rfl) (by kernel_rfl) (fun _ _ _ h => h) (Or.inl ⟨by rfl, ?_⟩) (by assumption) ?_
            rotate_left
            · intro w hSw; (try dsimp only at hSw); go_simp; (try with_reducible rfl)
            try simp only [Act.put, List.setIfInBounds_toArray, List.set_cons_zero, List.set_cons_succ]
            refine wpAnyH_done (by kernel_rfl) ?_ _
            have p6 := hHeld10.1
            have A6 := hHeld10.2.2
            clear hHeld10
            go_wp2_with fail
            have B6 : ∀ o, (v5.alloc (.cells #[.int .i64 p2, .int .i64 q2, .int .i64 r2] 23)).cell? ⟨v5.heap.size, o, none⟩ = (#[.int .i64 p2, .int .i64 q2, .int .i64 r2] : Array Value)[o]? := new_at rfl _ _
            have HB' := HB.out
            refine region_quiet (Cl3 w.heap.size (#[.int .i64 x, .int .i64 y, .int .i64 z] : Array Value) v3.heap.size (#[.int .i64 p, .int .i64 q, .int .i64 r] : Array Value) (v5.heap.size) (#[.int .i64 p2, .int .i64 q2, .int .i64 r2] : Array Value) w) (by kernel_rfl) (by kernel_rfl) ?_ ?_
            · (try dsimp only); (exact ⟨p6, A6, B6, by (repeat' (first | (with_reducible exact Below.refl _ _) | (with_reducible refine bstep (by with_reducible assumption) ?_) | (with_reducible refine Below.alloc ?_ ?_ _) | (with_reducible refine Below.drew ?_) | (with_reducible refine below_drewN ?_ _) | (with_reducible refine Below.setCell ?_ ?_ _) | go_size))⟩)
            with_reducible refine q_want ?_ ?_ (fun wo hSw => ?_) ?_
            rotate_left
            · rfl
            · obtain ⟨q1, q2, q3, q4⟩ := id hSw; go_simp; (try with_reducible rfl)
            try simp only [Act.put, List.setIfInBounds_toArray, List.set_cons_zero, List.set_cons_succ]
            with_reducible refine q_want ?_ ?_ (fun wo hSw => ?_) ?_
            rotate_left
            · rfl
            · obtain ⟨q1, q2, q3, q4⟩ := id hSw; go_simp; (try with_reducible rfl)
            try simp only [Act.put, List.setIfInBounds_toArray, List.set_cons_zero, List.set_cons_succ]
            with_reducible refine q_want ?_ ?_ (fun wo hSw => ?_) ?_
            rotate_left
            · rfl
            · obtain ⟨q1, q2, q3, q4⟩ := id hSw; go_simp; (try with_reducible rfl)
            try simp only [Act.put, List.setIfInBounds_toArray, List.set_cons_zero, List.set_cons_succ]
            with_reducible refine q_want ?_ ?_ (fun wo hSw => ?_) ?_
            rotate_left
            · rfl
            · obtain ⟨q1, q2, q3, q4⟩ := id hSw; go_simp; (try with_reducible rfl)
            try simp only [Act.put, List.setIfInBounds_toArray, List.set_cons_zero, List.set_cons_succ]
            with_reducible refine q_want ?_ ?_ (fun wo hSw => ?_) ?_
            rotate_left
            · rfl
            · obtain ⟨q1, q2, q3, q4⟩ := id hSw; go_simp; (try with_reducible rfl)
            try simp only [Act.put, List.setIfInBounds_toArray, List.set_cons_zero, List.set_cons_succ]
            with_reducible refine q_want (V3 s0 s1 s2) ?_ (fun wo hSw => ?_) ?_
            · rfl
            · obtain ⟨q1, q2, q3, q4⟩ := id hSw; go_simp; (go_at_call 19; ((with_reducible refine (F1.out _).mono ?_); rintro e w9 ⟨rfl, hb9⟩; exact ⟨rfl, blk_later (by simp) hb9 q1, blk_later (by simp) hb9 q2, blk_later (by simp) hb9 q3, bstep hb9 q4⟩))
            try simp only [Act.put, List.setIfInBounds_toArray, List.set_cons_zero, List.set_cons_succ]
            with_reducible refine q_want ?_ ?_ (fun wo hSw => ?_) ?_
            rotate_left
            · rfl
            · obtain ⟨q1, q2, q3, q4⟩ := id hSw; go_simp; (try with_reducible rfl)
            try simp only [Act.put, List.setIfInBounds_toArray, List.set_cons_zero, List.set_cons_succ]
            with_reducible refine q_want (V3 d0' d1' d2') ?_ (fun wo hSw => ?_) ?_
            · rfl
            · obtain ⟨q1, q2, q3, q4⟩ := id hSw; go_simp; (go_at_call 24; ((with_reducible refine (F2.out _).mono ?_); rintro e w9 ⟨rfl, hb9⟩; exact ⟨rfl, blk_later (by simp) hb9 q1, blk_later (by simp) hb9 q2, blk_later (by simp) hb9 q3, bstep hb9 q4⟩))
            try simp only [Act.put, List.setIfInBounds_toArray, List.set_cons_zero, List.set_cons_succ]
            with_reducible refine q_want (V3 e0 e1 e2) ?_ (fun wo hSw => ?_) ?_
            · rfl
            · obtain ⟨q1, q2, q3, q4⟩ := id hSw; go_simp; (go_at_call 22; ((with_reducible refine (F3.out _).mono ?_); rintro e w9 ⟨rfl, hb9⟩; exact ⟨rfl, blk_later (by simp) hb9 q1, blk_later (by simp) hb9 q2, blk_later (by simp) hb9 q3, bstep hb9 q4⟩))
            try simp only [Act.put, List.setIfInBounds_toArray, List.set_cons_zero, List.set_cons_succ]
            with_reducible refine q_want (.bool true) ?_ (fun wo hSw => ?_) ?_
            · rfl
            · obtain ⟨q1, q2, q3, q4⟩ := id hSw; go_simp; (go_at_call 18; ((with_reducible refine (F4.out _).mono ?_); rintro e w9 ⟨rfl, hb9⟩; exact ⟨rfl, blk_later (by simp) hb9 q1, blk_later (by simp) hb9 q2, blk_later (by simp) hb9 q3, bstep hb9 q4⟩))
            try simp only [Act.put, List.setIfInBounds_toArray, List.set_cons_zero, List.set_cons_succ]
            with_reducible refine q_want ?_ ?_ (fun wo hSw => ?_) ?_
            rotate_left
            · rfl
            · obtain ⟨q1, q2, q3, q4⟩ := id hSw; go_simp; (try with_reducible rfl)
            try simp only [Act.put, List.setIfInBounds_toArray, List.set_cons_zero, List.set_cons_succ]
            with_reducible refine q_want ?_ ?_ (fun wo hSw => ?_) ?_
            rotate_left
            · rfl
            · obtain ⟨q1, q2, q3, q4⟩ := id hSw; go_simp; (try with_reducible rfl)
            try simp only [Act.put, List.setIfInBounds_toArray, List.set_cons_zero, List.set_cons_succ]
            with_reducible refine wpQuiet_nil ?_
            intro wq hSq
            obtain ⟨_, _, _, hB⟩ := hSq
            have HB2 := Lib.hid hB
            clear hB
            go_wp2_with fail
            have HB3 := HB2.out
            go_returns
            exact ⟨by simp, by (repeat' (first | (with_reducible exact Below.refl _ _) | (with_reducible refine bstep (by with_reducible assumption) ?_) | (with_reducible refine Below.alloc ?_ ?_ _) | (with_reducible refine Below.drew ?_) | (with_reducible refine below_drewN ?_ _) | (with_reducible refine Below.setCell ?_ ?_ _) | go_size))⟩
          refine AllReadyH.cons (o := { dst := some 17, op := Go.Op.alloc 23, type := 0, pos := "law.go:116", after := #[], guard := none }) rfl (fun K hK => ?_) ?_
          · go_simp
            refine hK.out _ _ ?_ (fun hHeld9 => ?_)
            · (try dsimp only); (exact ⟨blk_alloc (by simp) _ hHeld2.1, blk_alloc (by simp) _ hHeld2.2.1, blk_alloc (by simp) _ hHeld2.2.2⟩)
            clear hK K hHeld2
            try simp only [Act.put, List.setIfInBounds_toArray, List.set_cons_zero, List.set_cons_succ]
            refine wpAnyH_ready (rs := [5]) (by kernel_rfl) (by simp) ?_
            refine AllReadyH.cons (o := { dst := some 82, op := Go.Op.call { callee := Go.Callee.value (Go.Operand.func 21), args := #[Go.Operand.tmp 77, Go.Operand.tmp 79, Go.Operand.tmp 80, Go.Operand.tmp 81], argTypes := #[23, 23, 3, 3] }, type := 26, pos := "law.go:116", after := #[{ on := 0, ground := Go.Ground.data }, { on := 2, ground := Go.Ground.data }, { on := 3, ground := Go.Ground.data }, { on := 4, ground := Go.Ground.data }, { on := 2, ground := Go.Ground.chain }], guard := none }) rfl (fun K hK => ?_) AllReadyH.nil
            go_simp
            (go_at_call 21; ((with_reducible refine (L2.out _).mono ?_); rintro e v5 ⟨rfl, gb5⟩))
            have s5 : v3.heap.size < v5.heap.size := blk_lt (by simp) (blk_later (by simp) gb5 hHeld9.2.2)
            have Z6 : ∀ o, v5.cell? ⟨v4.heap.size, o, none⟩ = (#[.int .i64 0, .int .i64 0, .int .i64 0] : Array Value)[o]? := blk_later (by simp) gb5 (new_at rfl _ _)
            have FZ6 : ∀ o, v5.frozen? ⟨v4.heap.size, o, none⟩ = false := fro_call gb5 (fro_new rfl _ _) (lt_new rfl)
            have s5z : v4.heap.size < v5.heap.size := blk_lt (by simp) Z6
            refine hK.out _ _ ?_ (fun hHeld5 => ?_)
            · (try dsimp only); (exact ⟨blk_later (by simp) gb5 hHeld9.1, blk_later (by simp) gb5 hHeld9.2.1, blk_later (by simp) gb5 hHeld9.2.2⟩)
            clear hK K hHeld9
            try simp only [Act.put, List.setIfInBounds_toArray, List.set_cons_zero, List.set_cons_succ]
            refine wpAnyH_take (i := 6) (oi := { dst := some 76, op := Go.Op.move (Go.Operand.tmp 82), type := 26, pos := "law.go:116", after := #[{ on := 5, ground := Go.Ground.data }], guard := none }) (v := ?_) rfl (by kernel_rfl) (by kernel_rfl) (by kernel_rfl) (fun _ _ _ h => h) (Or.inl ⟨by rfl, ?_⟩) (by assumption) ?_
            rotate_left
            · intro w hSw; (try dsimp only at hSw); go_simp; (try with_reducible rfl)
            try simp only [Act.put, List.setIfInBounds_toArray, List.set_cons_zero, List.set_cons_succ]
            refine wpAnyH_take (i := 7) (oi := { dst := some 83, op := Go.Op.extract (Go.Operand.tmp 76) 0, type := 23, pos := "law.go:116", after := #[{ on := 6, ground := Go.Ground.data }], guard := none }) (v := ?_) rfl (by kernel_rfl) (by kernel_rfl) (by kernel_rfl) (fun _ _ _ h => h) (Or.inl ⟨by rfl, ?_⟩) (by assumption) ?_
            rotate_left
            · intro w hSw; (try dsimp only at hSw); go_simp; (try with_reducible rfl)
            try simp only [Act.put, List.setIfInBounds_toArray, List.set_cons_zero, List.set_cons_succ]
            refine wpAnyH_take (i := 8) (oi := { dst := some 84, op := Go.Op.extract (Go.Operand.tmp 76) 1, type := 4, pos := "law.go:116", after := #[{ on := 6, ground := Go.Ground.data }, { on := 10, ground := Go.Ground.gcOnly Go.Departure.lateStores }], guard := none }) (v := ?_) rfl (by kernel_rfl) (by kernel_rfl) (by kernel_rfl) (fun _ _ _ h => h) (Or.inl ⟨by rfl, ?_⟩) (by assumption) ?_
            rotate_left
            · intro w hSw; (try dsimp only at hSw); go_simp; (try with_reducible rfl)
            try simp only [Act.put, List.setIfInBounds_toArray, List.set_cons_zero, List.set_cons_succ]
            refine wpAnyH_ready (rs := [10]) (by kernel_rfl) (by simp) ?_
            refine AllReadyH.cons (o := { dst := none, op := Go.Op.store 23 (Go.Operand.tmp 17) (Go.Operand.tmp 83), type := 0, pos := "law.go:116", after := #[{ on := 9, ground := Go.Ground.data }, { on := 7, ground := Go.Ground.data }, { on := 5, ground := Go.Ground.chain }, { on := 0, ground := Go.Ground.phase }, { on := 1, ground := Go.Ground.phase }, { on := 2, ground := Go.Ground.phase }, { on := 3, ground := Go.Ground.phase }, { on := 4, ground := Go.Ground.phase }, { on := 5, ground := Go.Ground.phase }, { on := 6, ground := Go.Ground.phase }, { on := 7, ground := Go.Ground.phase }, { on := 8, ground := Go.Ground.textOnly Go.Departure.lateStores }, { on := 9, ground := Go.Ground.phase }], guard := none }) rfl (fun K hK => ?_) AllReadyH.nil
            go_simp
            refine hK.out _ _ ?_ (fun hHeld10 => ?_)
            · (try dsimp only); (exact ⟨st3_far (by omega) hHeld5.1, st3_far (by omega) hHeld5.2.1, st3_far (by omega) hHeld5.2.2⟩)
            clear hK K hHeld5
            try simp only [Act.put, List.setIfInBounds_toArray, List.set_cons_zero, List.set_cons_succ]
            refine wpAnyH_take (i := 11) (oi := { dst := some 18, op := Go.Op.assign (Go.Operand.tmp 84), type := 4, pos := "law.go:116", after := #[{ on := 8, ground := Go.Ground.data }, { on := 10, ground := Go.Ground.chain }, { on := 0, ground := Go.Ground.phase }, { on := 1, ground := Go.Ground.phase }, { on := 2, ground := Go.Ground.phase }, { on := 3, ground := Go.Ground.phase }, { on := 4, ground := Go.Ground.phase }, { on := 5, ground := Go.Ground.phase }, { on := 6, ground := Go.Ground.phase }, { on := 7, ground := Go.Ground.phase }, { on := 8, ground := Go.Ground.phase }, { on := 9, ground := Go.Ground.phase }, { on := 10, ground := Go.Ground.phase }], guard := none }) (v := ?_) rfl (by kernel_rfl) (by kernel_rfl) (by kernel_rfl) (fun _ _ _ h => h) (Or.inl ⟨by rfl, ?_⟩) (by assumption) ?_
            rotate_left
            · intro w hSw; (try dsimp only at hSw); go_simp; (try with_reducible rfl)
            try simp only [Act.put, List.setIfInBounds_toArray, List.set_cons_zero, List.set_cons_succ]
            refine wpAnyH_done (by kernel_rfl) ?_ _
            have p6 := hHeld10.1
            have A6 := hHeld10.2.2
            clear hHeld10
            go_wp2_with fail
            have B6 := st3_blk (cs' := (#[.int .i64 p2, .int .i64 q2, .int .i64 r2] : Array Value)) (i := 0) (j := 1) (k := 2) (u := .int .i64 p2) (v := .int .i64 q2) (x := .int .i64 r2) Z6 (by simp) (by simp) (by simp) rfl
            have HB' := HB.out
            refine region_quiet (Cl3 w.heap.size (#[.int .i64 x, .int .i64 y, .int .i64 z] : Array Value) v3.heap.size (#[.int .i64 p, .int .i64 q, .int .i64 r] : Array Value) (v4.heap.size) (#[.int .i64 p2, .int .i64 q2, .int .i64 r2] : Array Value) w) (by kernel_rfl) (by kernel_rfl) ?_ ?_
            · (try dsimp only); (exact ⟨p6, A6, B6, by (repeat' (first | (with_reducible exact Below.refl _ _) | (with_reducible refine bstep (by with_reducible assumption) ?_) | (with_reducible refine Below.alloc ?_ ?_ _) | (with_reducible refine Below.drew ?_) | (with_reducible refine below_drewN ?_ _) | (with_reducible refine Below.setCell ?_ ?_ _) | go_size))⟩)
            with_reducible refine q_want ?_ ?_ (fun wo hSw => ?_) ?_
            rotate_left
            · rfl
            · obtain ⟨q1, q2, q3, q4⟩ := id hSw; go_simp; (try with_reducible rfl)
            try simp only [Act.put, List.setIfInBounds_toArray, List.set_cons_zero, List.set_cons_succ]
            with_reducible refine q_want ?_ ?_ (fun wo hSw => ?_) ?_
            rotate_left
            · rfl
            · obtain ⟨q1, q2, q3, q4⟩ := id hSw; go_simp; (try with_reducible rfl)
            try simp only [Act.put, List.setIfInBounds_toArray, List.set_cons_zero, List.set_cons_succ]
            with_reducible refine q_want ?_ ?_ (fun wo hSw => ?_) ?_
            rotate_left
            · rfl
            · obtain ⟨q1, q2, q3, q4⟩ := id hSw; go_simp; (try with_reducible rfl)
            try simp only [Act.put, List.setIfInBounds_toArray, List.set_cons_zero, List.set_cons_succ]
            with_reducible refine q_want ?_ ?_ (fun wo hSw => ?_) ?_
            rotate_left
            · rfl
            · obtain ⟨q1, q2, q3, q4⟩ := id hSw; go_simp; (try with_reducible rfl)
            try simp only [Act.put, List.setIfInBounds_toArray, List.set_cons_zero, List.set_cons_succ]
            with_reducible refine q_want ?_ ?_ (fun wo hSw => ?_) ?_
            rotate_left
            · rfl
            · obtain ⟨q1, q2, q3, q4⟩ := id hSw; go_simp; (try with_reducible rfl)
            try simp only [Act.put, List.setIfInBounds_toArray, List.set_cons_zero, List.set_cons_succ]
            with_reducible refine q_want (V3 s0 s1 s2) ?_ (fun wo hSw => ?_) ?_
            · rfl
            · obtain ⟨q1, q2, q3, q4⟩ := id hSw; go_simp; (go_at_call 19; ((with_reducible refine (F1.out _).mono ?_); rintro e w9 ⟨rfl, hb9⟩; exact ⟨rfl, blk_later (by simp) hb9 q1, blk_later (by simp) hb9 q2, blk_later (by simp) hb9 q3, bstep hb9 q4⟩))
            try simp only [Act.put, List.setIfInBounds_toArray, List.set_cons_zero, List.set_cons_succ]
            with_reducible refine q_want ?_ ?_ (fun wo hSw => ?_) ?_
            rotate_left
            · rfl
            · obtain ⟨q1, q2, q3, q4⟩ := id hSw; go_simp; (try with_reducible rfl)
            try simp only [Act.put, List.setIfInBounds_toArray, List.set_cons_zero, List.set_cons_succ]
            with_reducible refine q_want (V3 d0' d1' d2') ?_ (fun wo hSw => ?_) ?_
            · rfl
            · obtain ⟨q1, q2, q3, q4⟩ := id hSw; go_simp; (go_at_call 24; ((with_reducible refine (F2.out _).mono ?_); rintro e w9 ⟨rfl, hb9⟩; exact ⟨rfl, blk_later (by simp) hb9 q1, blk_later (by simp) hb9 q2, blk_later (by simp) hb9 q3, bstep hb9 q4⟩))
            try simp only [Act.put, List.setIfInBounds_toArray, List.set_cons_zero, List.set_cons_succ]
            with_reducible refine q_want (V3 e0 e1 e2) ?_ (fun wo hSw => ?_) ?_
            · rfl
            · obtain ⟨q1, q2, q3, q4⟩ := id hSw; go_simp; (go_at_call 22; ((with_reducible refine (F3.out _).mono ?_); rintro e w9 ⟨rfl, hb9⟩; exact ⟨rfl, blk_later (by simp) hb9 q1, blk_later (by simp) hb9 q2, blk_later (by simp) hb9 q3, bstep hb9 q4⟩))
            try simp only [Act.put, List.setIfInBounds_toArray, List.set_cons_zero, List.set_cons_succ]
            with_reducible refine q_want (.bool true) ?_ (fun wo hSw => ?_) ?_
            · rfl
            · obtain ⟨q1, q2, q3, q4⟩ := id hSw; go_simp; (go_at_call 18; ((with_reducible refine (F4.out _).mono ?_); rintro e w9 ⟨rfl, hb9⟩; exact ⟨rfl, blk_later (by simp) hb9 q1, blk_later (by simp) hb9 q2, blk_later (by simp) hb9 q3, bstep hb9 q4⟩))
            try simp only [Act.put, List.setIfInBounds_toArray, List.set_cons_zero, List.set_cons_succ]
            with_reducible refine q_want ?_ ?_ (fun wo hSw => ?_) ?_
            rotate_left
            · rfl
            · obtain ⟨q1, q2, q3, q4⟩ := id hSw; go_simp; (try with_reducible rfl)
            try simp only [Act.put, List.setIfInBounds_toArray, List.set_cons_zero, List.set_cons_succ]
            with_reducible refine q_want ?_ ?_ (fun wo hSw => ?_) ?_
            rotate_left
            · rfl
            · obtain ⟨q1, q2, q3, q4⟩ := id hSw; go_simp; (try with_reducible rfl)
            try simp only [Act.put, List.setIfInBounds_toArray, List.set_cons_zero, List.set_cons_succ]
            with_reducible refine wpQuiet_nil ?_
            intro wq hSq
            obtain ⟨_, _, _, hB⟩ := hSq
            have HB2 := Lib.hid hB
            clear hB
            go_wp2_with fail
            have HB3 := HB2.out
            go_returns
            exact ⟨by simp, by (repeat' (first | (with_reducible exact Below.refl _ _) | (with_reducible refine bstep (by with_reducible assumption) ?_) | (with_reducible refine Below.alloc ?_ ?_ _) | (with_reducible refine Below.drew ?_) | (with_reducible refine below_drewN ?_ _) | (with_reducible refine Below.setCell ?_ ?_ _) | go_size))⟩
          exact AllReadyH.nil
        refine AllReadyH.cons (o := { dst := some 17, op := Go.Op.alloc 23, type := 0, pos := "law.go:116", after := #[], guard := none }) rfl (fun K hK => ?_) ?_
        · go_simp
          refine hK.out _ _ ?_ (fun hHeld9 => ?_)
          · (try dsimp only); (exact ⟨blk_alloc (by simp) _ hHeld.1, blk_alloc (by simp) _ hHeld.2.1, blk_alloc (by simp) _ hHeld.2.2⟩)
          clear hK K hHeld
          try simp only [Act.put, List.setIfInBounds_toArray, List.set_cons_zero, List.set_cons_succ]
          refine wpAnyH_ready (rs := [2]) (by kernel_rfl) (by simp) ?_
          refine AllReadyH.cons (o := { dst := some 79, op := Go.Op.call { callee := Go.Callee.value (Go.Operand.func 24), args := #[Go.Operand.tmp 78, Go.Operand.const (Go.Value.int Go.IntKind.i64 (-1))], argTypes := #[23, 3] }, type := 23, pos := "law.go:116", after := #[{ on := 1, ground := Go.Ground.data }], guard := none }) rfl (fun K hK => ?_) AllReadyH.nil
          go_simp
          (go_at_call 24; ((with_reducible refine (SC.out _).mono ?_); rintro e v4 ⟨rfl, gb4⟩))
          have s4 : v3.heap.size < v4.heap.size := blk_lt (by simp) (blk_later (by simp) gb4 hHeld9.2.2)
          have Z5 : ∀ o, v4.cell? ⟨v3.heap.size + 1, o, none⟩ = (#[.int .i64 0, .int .i64 0, .int .i64 0] : Array Value)[o]? := blk_later (by simp) gb4 (by (repeat (first | (with_reducible assumption) | (focus ((with_reducible refine new_at ?_ _ _); (repeat (first | (with_reducible rfl) | (with_reducible refine sz1 ?_) | (with_reducible refine sz_drew ?_))); done)) | (with_reducible refine blk_alloc (by simp) _ ?_) | (with_reducible refine blk_drew ?_))))
          have FZ5 : ∀ o, v4.frozen? ⟨v3.heap.size + 1, o, none⟩ = false := fro_call gb4 (by (repeat (first | (with_reducible assumption) | (focus ((with_reducible refine fro_new ?_ _ _); (repeat (first | (with_reducible rfl) | (with_reducible refine sz1 ?_) | (with_reducible refine sz_drew ?_))); done)) | ((with_reducible refine fro_more ?_ _ ?_); (repeat (first | (with_reducible assumption) | (focus ((with_reducible refine lt_new ?_); (repeat (first | (with_reducible rfl) | (with_reducible refine sz1 ?_) | (with_reducible refine sz_drew ?_))); done)) | (with_reducible refine lt_here ?_) | (with_reducible refine lt_drew ?_)))) | (with_reducible refine fro_drew ?_)))) (by (repeat (first | (with_reducible assumption) | (focus ((with_reducible refine lt_new ?_); (repeat (first | (with_reducible rfl) | (with_reducible refine sz1 ?_) | (with_reducible refine sz_drew ?_))); done)) | (with_reducible refine lt_here ?_) | (with_reducible refine lt_drew ?_))))
          have s4z : v3.heap.size + 1 < v4.heap.size := blk_lt (by simp) Z5
          refine hK.out _ _ ?_ (fun hHeld2 => ?_)
          · (try dsimp only); (exact ⟨blk_later (by simp) gb4 hHeld9.1, blk_later (by simp) gb4 hHeld9.2.1, blk_later (by simp) gb4 hHeld9.2.2⟩)
          clear hK K hHeld9
          try simp only [Act.put, List.setIfInBounds_toArray, List.set_cons_zero, List.set_cons_succ]
          refine wpAnyH_ready (rs := [5]) (by kernel_rfl) (by simp) ?_
          refine AllReadyH.cons (o := { dst := some 82, op := Go.Op.call { callee := Go.Callee.value (Go.Operand.func 21), args := #[Go.Operand.tmp 77, Go.Operand.tmp 79, Go.Operand.tmp 80, Go.Operand.tmp 81], argTypes := #[23, 23, 3, 3] }, type := 26, pos := "law.go:116", after := #[{ on := 0, ground := Go.Ground.data }, { on := 2, ground := Go.Ground.data }, { on := 3, ground := Go.Ground.data }, { on := 4, ground := Go.Ground.data }, { on := 2, ground := Go.Ground.chain }], guard := none }) rfl (fun K hK => ?_) AllReadyH.nil
          go_simp
          (go_at_call 21; ((with_reducible refine (L2.out _).mono ?_); rintro e v5 ⟨rfl, gb5⟩))
          have s5 : v3.heap.size < v5.heap.size := blk_lt (by simp) (blk_later (by simp) gb5 hHeld2.2.2)
          have Z6 := blk_later (by simp) gb5 Z5
          have FZ6 := fro_call gb5 FZ5 s4z
          have s5z : v3.heap.size + 1 < v5.heap.size := blk_lt (by simp) Z6
          refine hK.out _ _ ?_ (fun hHeld5 => ?_)
          · (try dsimp only); (exact ⟨blk_later (by simp) gb5 hHeld2.1, blk_later (by simp) gb5 hHeld2.2.1, blk_later (by simp) gb5 hHeld2.2.2⟩)
          clear hK K hHeld2
          try simp only [Act.put, List.setIfInBounds_toArray, List.set_cons_zero, List.set_cons_succ]
          refine wpAnyH_take (i := 6) (oi := { dst := some 76, op := Go.Op.move (Go.Operand.tmp 82), type := 26, pos := "law.go:116", after := #[{ on := 5, ground := Go.Ground.data }], guard := none }) (v := ?_) rfl (by kernel_rfl) (by kernel_rfl) (by kernel_rfl) (fun _ _ _ h => h) (Or.inl ⟨by rfl, ?_⟩) (by assumption) ?_
          rotate_left
          · intro w hSw; (try dsimp only at hSw); go_simp; (try with_reducible rfl)
          try simp only [Act.put, List.setIfInBounds_toArray, List.set_cons_zero, List.set_cons_succ]
          refine wpAnyH_take (i := 7) (oi := { dst := some 83, op := Go.Op.extract (Go.Operand.tmp 76) 0, type := 23, pos := "law.go:116", after := #[{ on := 6, ground := Go.Ground.data }], guard := none }) (v := ?_) rfl (by kernel_rfl) (by kernel_rfl) (by kernel_rfl) (fun _ _ _ h => h) (Or.inl ⟨by rfl, ?_⟩) (by assumption) ?_
          rotate_left
          · intro w hSw; (try dsimp only at hSw); go_simp; (try with_reducible rfl)
          try simp only [Act.put, List.setIfInBounds_toArray, List.set_cons_zero, List.set_cons_succ]
          refine wpAnyH_take (i := 8) (oi := { dst := some 84, op := Go.Op.extract (Go.Operand.tmp 76) 1, type := 4, pos := "law.go:116", after := #[{ on := 6, ground := Go.Ground.data }, { on := 10, ground := Go.Ground.gcOnly Go.Departure.lateStores }], guard := none }) (v := ?_) rfl (by kernel_rfl) (by kernel_rfl) (by kernel_rfl) (fun _ _ _ h => h) (Or.inl ⟨by rfl, ?_⟩) (by assumption) ?_
          rotate_left
          · intro w hSw; (try dsimp only at hSw); go_simp; (try with_reducible rfl)
          try simp only [Act.put, List.setIfInBounds_toArray, List.set_cons_zero, List.set_cons_succ]
          refine wpAnyH_ready (rs := [10]) (by kernel_rfl) (by simp) ?_
          refine AllReadyH.cons (o := { dst := none, op := Go.Op.store 23 (Go.Operand.tmp 17) (Go.Operand.tmp 83), type := 0, pos := "law.go:116", after := #[{ on := 9, ground := Go.Ground.data }, { on := 7, ground := Go.Ground.data }, { on := 5, ground := Go.Ground.chain }, { on := 0, ground := Go.Ground.phase }, { on := 1, ground := Go.Ground.phase }, { on := 2, ground := Go.Ground.phase }, { on := 3, ground := Go.Ground.phase }, { on := 4, ground := Go.Ground.phase }, { on := 5, ground := Go.Ground.phase }, { on := 6, ground := Go.Ground.phase }, { on := 7, ground := Go.Ground.phase }, { on := 8, ground := Go.Ground.textOnly Go.Departure.lateStores }, { on := 9, ground := Go.Ground.phase }], guard := none }) rfl (fun K hK => ?_) AllReadyH.nil
          go_simp
          refine hK.out _ _ ?_ (fun hHeld10 => ?_)
          · (try dsimp only); (exact ⟨st3_far (by omega) hHeld5.1, st3_far (by omega) hHeld5.2.1, st3_far (by omega) hHeld5.2.2⟩)
          clear hK K hHeld5
          try simp only [Act.put, List.setIfInBounds_toArray, List.set_cons_zero, List.set_cons_succ]
          refine wpAnyH_take (i := 11) (oi := { dst := some 18, op := Go.Op.assign (Go.Operand.tmp 84), type := 4, pos := "law.go:116", after := #[{ on := 8, ground := Go.Ground.data }, { on := 10, ground := Go.Ground.chain }, { on := 0, ground := Go.Ground.phase }, { on := 1, ground := Go.Ground.phase }, { on := 2, ground := Go.Ground.phase }, { on := 3, ground := Go.Ground.phase }, { on := 4, ground := Go.Ground.phase }, { on := 5, ground := Go.Ground.phase }, { on := 6, ground := Go.Ground.phase }, { on := 7, ground := Go.Ground.phase }, { on := 8, ground := Go.Ground.phase }, { on := 9, ground := Go.Ground.phase }, { on := 10, ground := Go.Ground.phase }], guard := none }) (v := ?_) rfl (by kernel_rfl) (by kernel_rfl) (by kernel_rfl) (fun _ _ _ h => h) (Or.inl ⟨by rfl, ?_⟩) (by assumption) ?_
          rotate_left
          · intro w hSw; (try dsimp only at hSw); go_simp; (try with_reducible rfl)
          try simp only [Act.put, List.setIfInBounds_toArray, List.set_cons_zero, List.set_cons_succ]
          refine wpAnyH_done (by kernel_rfl) ?_ _
          have p6 := hHeld10.1
          have A6 := hHeld10.2.2
          clear hHeld10
          go_wp2_with fail
          have B6 := st3_blk (cs' := (#[.int .i64 p2, .int .i64 q2, .int .i64 r2] : Array Value)) (i := 0) (j := 1) (k := 2) (u := .int .i64 p2) (v := .int .i64 q2) (x := .int .i64 r2) Z6 (by simp) (by simp) (by simp) rfl
          have HB' := HB.out
          refine region_quiet (Cl3 w.heap.size (#[.int .i64 x, .int .i64 y, .int .i64 z] : Array Value) v3.heap.size (#[.int .i64 p, .int .i64 q, .int .i64 r] : Array Value) (v3.heap.size + 1) (#[.int .i64 p2, .int .i64 q2, .int .i64 r2] : Array Value) w) (by kernel_rfl) (by kernel_rfl) ?_ ?_
          · (try dsimp only); (exact ⟨p6, A6, B6, by (repeat' (first | (with_reducible exact Below.refl _ _) | (with_reducible refine bstep (by with_reducible assumption) ?_) | (with_reducible refine Below.alloc ?_ ?_ _) | (with_reducible refine Below.drew ?_) | (with_reducible refine below_drewN ?_ _) | (with_reducible refine Below.setCell ?_ ?_ _) | go_size))⟩)
          with_reducible refine q_want ?_ ?_ (fun wo hSw => ?_) ?_
          rotate_left
          · rfl
          · obtain ⟨q1, q2, q3, q4⟩ := id hSw; go_simp; (try with_reducible rfl)
          try simp only [Act.put, List.setIfInBounds_toArray, List.set_cons_zero, List.set_cons_succ]
          with_reducible refine q_want ?_ ?_ (fun wo hSw => ?_) ?_
          rotate_left
          · rfl
          · obtain ⟨q1, q2, q3, q4⟩ := id hSw; go_simp; (try with_reducible rfl)
          try simp only [Act.put, List.setIfInBounds_toArray, List.set_cons_zero, List.set_cons_succ]
          with_reducible refine q_want ?_ ?_ (fun wo hSw => ?_) ?_
          rotate_left
          · rfl
          · obtain ⟨q1, q2, q3, q4⟩ := id hSw; go_simp; (try with_reducible rfl)
          try simp only [Act.put, List.setIfInBounds_toArray, List.set_cons_zero, List.set_cons_succ]
          with_reducible refine q_want ?_ ?_ (fun wo hSw => ?_) ?_
          rotate_left
          · rfl
          · obtain ⟨q1, q2, q3, q4⟩ := id hSw; go_simp; (try with_reducible rfl)
          try simp only [Act.put, List.setIfInBounds_toArray, List.set_cons_zero, List.set_cons_succ]
          with_reducible refine q_want ?_ ?_ (fun wo hSw => ?_) ?_
          rotate_left
          · rfl
          · obtain ⟨q1, q2, q3, q4⟩ := id hSw; go_simp; (try with_reducible rfl)
          try simp only [Act.put, List.setIfInBounds_toArray, List.set_cons_zero, List.set_cons_succ]
          with_reducible refine q_want (V3 s0 s1 s2) ?_ (fun wo hSw => ?_) ?_
          · rfl
          · obtain ⟨q1, q2, q3, q4⟩ := id hSw; go_simp; (go_at_call 19; ((with_reducible refine (F1.out _).mono ?_); rintro e w9 ⟨rfl, hb9⟩; exact ⟨rfl, blk_later (by simp) hb9 q1, blk_later (by simp) hb9 q2, blk_later (by simp) hb9 q3, bstep hb9 q4⟩))
          try simp only [Act.put, List.setIfInBounds_toArray, List.set_cons_zero, List.set_cons_succ]
          with_reducible refine q_want ?_ ?_ (fun wo hSw => ?_) ?_
          rotate_left
          · rfl
          · obtain ⟨q1, q2, q3, q4⟩ := id hSw; go_simp; (try with_reducible rfl)
          try simp only [Act.put, List.setIfInBounds_toArray, List.set_cons_zero, List.set_cons_succ]
          with_reducible refine q_want (V3 d0' d1' d2') ?_ (fun wo hSw => ?_) ?_
          · rfl
          · obtain ⟨q1, q2, q3, q4⟩ := id hSw; go_simp; (go_at_call 24; ((with_reducible refine (F2.out _).mono ?_); rintro e w9 ⟨rfl, hb9⟩; exact ⟨rfl, blk_later (by simp) hb9 q1, blk_later (by simp) hb9 q2, blk_later (by simp) hb9 q3, bstep hb9 q4⟩))
          try simp only [Act.put, List.setIfInBounds_toArray, List.set_cons_zero, List.set_cons_succ]
          with_reducible refine q_want (V3 e0 e1 e2) ?_ (fun wo hSw => ?_) ?_
          · rfl
          · obtain ⟨q1, q2, q3, q4⟩ := id hSw; go_simp; (go_at_call 22; ((with_reducible refine (F3.out _).mono ?_); rintro e w9 ⟨rfl, hb9⟩; exact ⟨rfl, blk_later (by simp) hb9 q1, blk_later (by simp) hb9 q2, blk_later (by simp) hb9 q3, bstep hb9 q4⟩))
          try simp only [Act.put, List.setIfInBounds_toArray, List.set_cons_zero, List.set_cons_succ]
          with_reducible refine q_want (.bool true) ?_ (fun wo hSw => ?_) ?_
          · rfl
          · obtain ⟨q1, q2, q3, q4⟩ := id hSw; go_simp; (go_at_call 18; ((with_reducible refine (F4.out _).mono ?_); rintro e w9 ⟨rfl, hb9⟩; exact ⟨rfl, blk_later (by simp) hb9 q1, blk_later (by simp) hb9 q2, blk_later (by simp) hb9 q3, bstep hb9 q4⟩))
          try simp only [Act.put, List.setIfInBounds_toArray, List.set_cons_zero, List.set_cons_succ]
          with_reducible refine q_want ?_ ?_ (fun wo hSw => ?_) ?_
          rotate_left
          · rfl
          · obtain ⟨q1, q2, q3, q4⟩ := id hSw; go_simp; (try with_reducible rfl)
          try simp only [Act.put, List.setIfInBounds_toArray, List.set_cons_zero, List.set_cons_succ]
          with_reducible refine q_want ?_ ?_ (fun wo hSw => ?_) ?_
          rotate_left
          · rfl
          · obtain ⟨q1, q2, q3, q4⟩ := id hSw; go_simp; (try with_reducible rfl)
          try simp only [Act.put, List.setIfInBounds_toArray, List.set_cons_zero, List.set_cons_succ]
          with_reducible refine wpQuiet_nil ?_
          intro wq hSq
          obtain ⟨_, _, _, hB⟩ := hSq
          have HB2 := Lib.hid hB
          clear hB
          go_wp2_with fail
          have HB3 := HB2.out
          go_returns
          exact ⟨by simp, by (repeat' (first | (with_reducible exact Below.refl _ _) | (with_reducible refine bstep (by with_reducible assumption) ?_) | (with_reducible refine Below.alloc ?_ ?_ _) | (with_reducible refine Below.drew ?_) | (with_reducible refine below_drewN ?_ _) | (with_reducible refine Below.setCell ?_ ?_ _) | go_size))⟩
        exact AllReadyH.nil
theorem reliefFlat_walk (x y z : Int) (_ : I64 x) (_ : I64 y) (_ : I64 z) (a b c : Int) (ha : I64 a) (hb : I64 b) (hc : I64 c) (t : Int) (_ : I64 t) (sz : Int) (_ : I64 sz) (h : Int) (_ : I64 h) (w : World) :
    Calls Try.prog 8 #[V3 x y z, V3 a b c, .int .i64 t, .int .i64 sz, .int .i64 h] w fun e w' => e = .returned (.bool true) ∧ Below w.heap.size w w' := by
  by_cases hf : ((sz < 1 ∨ 16 < sz) ∨ t < 0) ∨ 255 < t
  · exact rf_far x y z a b c t sz h hf w
  · exact rf_near x y z a b c t sz h (by omega) (by omega) (by omega) (by omega) ha hb hc w
end Go.Proofs.Ytdemcleibpgglaa
