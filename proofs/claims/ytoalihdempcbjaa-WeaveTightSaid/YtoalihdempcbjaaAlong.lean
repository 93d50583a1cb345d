/- along, walked: whether a directed edge is a side's part. -/
import Derived.Test.YtoalihdempcbjaaTightP
import Derived.Test.YtoalihdempcbjaaWSpots
import Derived.Test.YtoalihdempcbjaaSet
namespace Go.Proofs.Ytoalihdempcbjaa
open Go.RowKit
set_option maxRecDepth 100000
set_option linter.unusedSimpArgs false
set_option linter.unusedVariables false
def noA (R : Rt) (e : E2) (k i : Nat) : Prop := ∀ k' i', (k' < k ∨ (k' = k ∧ i' < i)) → k' < 4 → i' < R.r k' → e ≠ eA R k' i'
theorem eq3_same (x0 x1 x2 : Int) : ∀ w : World, Sem.run Try.prog (Op.equalIn 10000 50 (.agg #[.int .i64 x0, .int .i64 x1, .int .i64 x2]) (.agg #[.int .i64 x0, .int .i64 x1, .int .i64 x2])) w = .ok true w := by
  intro w
  go_simp
theorem eq3_of {x p : T3} {a b c : Int} (h : (p.1 : Int) = a ∧ (p.2.1 : Int) = b ∧ (p.2.2 : Int) = c) :
    (x = p → ∀ w : World, Sem.run Try.prog (Op.equalIn 10000 50 (.agg #[.int .i64 (x.1 : Int), .int .i64 (x.2.1 : Int), .int .i64 (x.2.2 : Int)]) (.agg #[.int .i64 a, .int .i64 b, .int .i64 c])) w = .ok true w) ∧
    (x ≠ p → ∀ w : World, Sem.run Try.prog (Op.equalIn 10000 50 (.agg #[.int .i64 (x.1 : Int), .int .i64 (x.2.1 : Int), .int .i64 (x.2.2 : Int)]) (.agg #[.int .i64 a, .int .i64 b, .int .i64 c])) w = .ok false w) := by
  obtain ⟨rfl, rfl, rfl⟩ := h
  constructor
  · rintro rfl; exact eq3_same _ _ _
  · intro hn
    refine eq3_ne ?_
    obtain ⟨x0, x1, x2⟩ := x
    obtain ⟨p0, p1, p2⟩ := p
    simp only
    by_cases e0 : x0 = p0
    · by_cases e1 : x1 = p1
      · by_cases e2 : x2 = p2
        · exact absurd (by rw [e0, e1, e2]) hn
        · exact .inr (.inr (by omega))
      · exact .inr (.inl (by omega))
    · exact .inl (by omega)
theorem no_next {R : Rt} {e : E2} {s i : Nat} (h : noA R e s i) (hn : e ≠ eA R s i) : noA R e s (i + 1) := fun k' i' hk h4 hi => by
  by_cases z : k' = s ∧ i' = i
  · obtain ⟨rfl, rfl⟩ := z; exact hn
  · exact h k' i' (by omega) h4 hi
theorem no_end {R : Rt} {e : E2} {s r : Nat} (h : noA R e s r) (hr : R.r s = r) : noA R e (s + 1) 0 := fun k' i' hk h4 hi => by
  refine h k' i' ?_ h4 hi
  by_cases z : k' = s
  · subst z; exact .inr ⟨rfl, by omega⟩
  · exact .inl (by omega)
def AlRel (R : Rt) (e : E2) (w3 : World) (k : Nat) (i : Value) (wr : World) : Prop := ∃ j, j ≤ 4 ∧ k = 4 - j ∧ i = .int .i64 (j : Int) ∧ noA R e j 0 ∧ Below w3.heap.size w3 wr
def AiRel (R : Rt) (e : E2) (w3 : World) (s r k : Nat) (i : Value) (wr : World) : Prop := ∃ j, j ≤ r ∧ k = r - j ∧ i = .int .i64 (j : Int) ∧ noA R e s j ∧ Below w3.heap.size w3 wr
set_option maxHeartbeats 4000000 in
theorem along_any (R : Rt) (hR : R.ok) (x y : T3) (w : World) :
    Calls Try.prog 24 #[.agg #[.int .i64 (R.r0 : Int), .int .i64 (R.r1 : Int), .int .i64 (R.r2 : Int), .int .i64 (R.r3 : Int)], .agg #[.int .i64 (x.1 : Int), .int .i64 (x.2.1 : Int), .int .i64 (x.2.2 : Int)], .agg #[.int .i64 (y.1 : Int), .int .i64 (y.2.1 : Int), .int .i64 (y.2.2 : Int)]] w fun e w' => (∃ v : Int, e = .returned (.int .i64 v) ∧ ((isA R (x, y) ∧ 0 ≤ v ∧ v ≤ 100) ∨ (¬ isA R (x, y) ∧ v = -1))) ∧ Below w.heap.size w w' := by
  have HR := Lib.hid hR
  have EN := Lib.hid (fun k i => ouS_nm R k i)
  obtain ⟨E, hE⟩ : ∃ E, (x, y) = E := ⟨_, rfl⟩
  obtain ⟨x0, x1, x2⟩ := x
  obtain ⟨y0, y1, y2⟩ := y
  simp only at *
  rw [hE]
  have HE := Lib.hid hE
  obtain ⟨W3, hW⟩ : ∃ W, ((w.alloc (.cells #[.int .i64 (R.r0 : Int), .int .i64 (R.r1 : Int), .int .i64 (R.r2 : Int), .int .i64 (R.r3 : Int)] 44)).alloc (.cells #[.int .i64 (x0 : Int), .int .i64 (x1 : Int), .int .i64 (x2 : Int)] 50)).alloc (.cells #[.int .i64 (y0 : Int), .int .i64 (y1 : Int), .int .i64 (y2 : Int)] 50) = W := ⟨_, rfl⟩
  have C0 : ∀ k, k < 4 → W3.cell? ⟨w.heap.size, k, none⟩ = some (.int .i64 (R.r k : Int)) := by
    intro k hk
    rw [← hW]
    have := blk_alloc (by simp) (.cells #[.int .i64 (y0 : Int), .int .i64 (y1 : Int), .int .i64 (y2 : Int)] 50) (blk_alloc (by simp) (.cells #[.int .i64 (x0 : Int), .int .i64 (x1 : Int), .int .i64 (x2 : Int)] 50) (new_at (W := w) rfl (#[.int .i64 (R.r0 : Int), .int .i64 (R.r1 : Int), .int .i64 (R.r2 : Int), .int .i64 (R.r3 : Int)] : Array Value) 44)) k
    rw [this]
    match k, hk with
    | 0, _ => rfl
    | 1, _ => rfl
    | 2, _ => rfl
    | 3, _ => rfl
  have X0 : ∀ o, W3.cell? ⟨w.heap.size + 1, o, none⟩ = (#[.int .i64 (x0 : Int), .int .i64 (x1 : Int), .int .i64 (x2 : Int)] : Array Value)[o]? := by
    rw [← hW]; exact blk_alloc (by simp) _ (new_at (by rw [World.size_alloc]) _ _)
  have Y0 : ∀ o, W3.cell? ⟨w.heap.size + 1 + 1, o, none⟩ = (#[.int .i64 (y0 : Int), .int .i64 (y1 : Int), .int .i64 (y2 : Int)] : Array Value)[o]? := by
    rw [← hW]; exact new_at (by rw [World.size_alloc, World.size_alloc]) _ _
  have Z3 : W3.heap.size = w.heap.size + 1 + 1 + 1 := by rw [← hW, World.size_alloc, World.size_alloc, World.size_alloc]
  have B3 := Lib.hid (show Below w.heap.size w W3 from by rw [← hW]; (repeat' (first | (with_reducible assumption) | (with_reducible exact Below.refl _ _) | (with_reducible refine bstep (by with_reducible assumption) ?_) | (with_reducible refine Below.alloc ?_ ?_ _) | (with_reducible refine Below.drew ?_) | (with_reducible refine below_drewN ?_ _) | (with_reducible refine Below.setCell ?_ ?_ _) | go_size)))
  go_enter Try.func24, Try.ntmps24
  go_wp2_with fail
  clear hW hE
  go_loopg [7] 4 (fun k i wr => AlRel R E W3 k i wr)
  case atStart => exact ⟨0, by omega, rfl, rfl, fun k' i' h _ _ => by omega, Below.refl _ _⟩
  case round =>
    obtain ⟨s, hs, rfl, rfl, hno, hb⟩ := hrel
    have HNO := Lib.hid hno
    have HBW := Lib.hid hb
    by_cases hlt : s < 4
    · have ck := (hb.cell (p := ⟨w.heap.size, s, none⟩) (show w.heap.size < W3.heap.size by omega)).trans (C0 s hlt)
      have hr := Rt.ok_r hR s
      obtain ⟨r, hr'⟩ : ∃ r, R.r s = r := ⟨_, rfl⟩
      rw [hr'] at ck hr
      have hs0 : (0 : Int) ≤ (s : Int) := by omega
      have hs1 : (s : Int) < 4 := by omega
      have HRS := Lib.hid hr'
      clear hno hb hr'
      go_wp2_with fail
      go_loopg [9] r (fun k i wr2 => AiRel R E W3 s r k i wr2)
      case atStart => exact ⟨0, by omega, rfl, rfl, HNO.out, HBW.out⟩
      case round =>
        obtain ⟨i, hi, rfl, rfl, hno, hb⟩ := hrel
        have HNI := Lib.hid hno
        have HBI := Lib.hid hb
        by_cases hlti : i < r
        · have X1 := fun o => (hb.cell (p := ⟨w.heap.size + 1, o, none⟩) (show w.heap.size + 1 < W3.heap.size by omega)).trans (X0 o)
          have Y1 := fun o => (hb.cell (p := ⟨w.heap.size + 1 + 1, o, none⟩) (show w.heap.size + 1 + 1 < W3.heap.size by omega)).trans (Y0 o)
          have hi0 : (0 : Int) ≤ (i : Int) := by omega
          have hi1 : (i : Int) < (r : Int) := by omega
          clear hno hb
          by_cases e0 : i = 0
          · by_cases e1 : i + 1 = r
            · have k0 : (i : Int) = 0 := by omega
              have k1 : ((i : Int) == 0) = true := by simp [e0]
              have k2 : decide (i = 0) = true := decide_eq_true e0
              obtain ⟨q, hq⟩ : ∃ q, r = q + 1 := ⟨r - 1, by omega⟩
              have wq : IntKind.i64.wrap ((r : Int) - 1) = (q : Int) := by rw [IntWalk.i64_in _ (by omega)]; omega
              have m0 : (i : Int) = (q : Int) := by omega
              have m1 : ((i : Int) == (q : Int)) = true := by rw [m0]; simp
              have m2 : decide (i = q) = true := decide_eq_true (by omega)
              have hP : ((ouS R s i).1 : Int) = 1 ∧ ((ouS R s i).2.1 : Int) = (s : Int) ∧ ((ouS R s i).2.2 : Int) = 0 := by rw [ouS, if_pos e0]; exact ⟨rfl, rfl, rfl⟩
              have hQ : ((ouS R s (i + 1)).1 : Int) = 1 ∧ ((ouS R s (i + 1)).2.1 : Int) = (((s : Int) + 1) % 4) ∧ ((ouS R s (i + 1)).2.2 : Int) = 0 := by rw [ouS, if_neg (by omega), if_pos (by rw [HRS.out]; exact e1)]; exact ⟨rfl, by simp only []; omega, rfl⟩
              have EP := eq3_of (x := (x0, x1, x2)) hP
              have EQ := eq3_of (x := (y0, y1, y2)) hQ
              have HQQ := Lib.hid hq
              clear hP hQ e0 e1 hq
              have XA : ∀ o, ((wr.alloc (.cells #[.int .i64 1, .int .i64 (s : Int), .int .i64 0] 50)).alloc (.cells #[.int .i64 1, .int .i64 (((s : Int) + 1) % 4), .int .i64 0] 50)).cell? ⟨w.heap.size + 1, o, none⟩ = (#[.int .i64 (x0 : Int), .int .i64 (x1 : Int), .int .i64 (x2 : Int)] : Array Value)[o]? := blk_alloc (by simp) _ (blk_alloc (by simp) _ X1)
              have YA : ∀ o, ((wr.alloc (.cells #[.int .i64 1, .int .i64 (s : Int), .int .i64 0] 50)).alloc (.cells #[.int .i64 1, .int .i64 (((s : Int) + 1) % 4), .int .i64 0] 50)).cell? ⟨w.heap.size + 1 + 1, o, none⟩ = (#[.int .i64 (y0 : Int), .int .i64 (y1 : Int), .int .i64 (y2 : Int)] : Array Value)[o]? := blk_alloc (by simp) _ (blk_alloc (by simp) _ Y1)
              have PA : ∀ o, ((wr.alloc (.cells #[.int .i64 1, .int .i64 (s : Int), .int .i64 0] 50)).alloc (.cells #[.int .i64 1, .int .i64 (((s : Int) + 1) % 4), .int .i64 0] 50)).cell? ⟨wr.heap.size, o, none⟩ = (#[.int .i64 1, .int .i64 (s : Int), .int .i64 0] : Array Value)[o]? := blk_alloc (by simp) _ (new_at rfl _ _)
              have QA : ∀ o, ((wr.alloc (.cells #[.int .i64 1, .int .i64 (s : Int), .int .i64 0] 50)).alloc (.cells #[.int .i64 1, .int .i64 (((s : Int) + 1) % 4), .int .i64 0] 50)).cell? ⟨wr.heap.size + 1, o, none⟩ = (#[.int .i64 1, .int .i64 (((s : Int) + 1) % 4), .int .i64 0] : Array Value)[o]? := new_at (by rw [World.size_alloc]) _ _
              have HWN := Lib.hid (show Below W3.heap.size W3 ((wr.alloc (.cells #[.int .i64 1, .int .i64 (s : Int), .int .i64 0] 50)).alloc (.cells #[.int .i64 1, .int .i64 (((s : Int) + 1) % 4), .int .i64 0] 50)) from by have h := HBI.out; have hz := h.size; (repeat' (first | (with_reducible assumption) | (with_reducible exact Below.refl _ _) | (with_reducible refine bstep (by with_reducible assumption) ?_) | (with_reducible refine Below.alloc ?_ ?_ _) | (with_reducible refine Below.drew ?_) | (with_reducible refine below_drewN ?_ _) | (with_reducible refine Below.setCell ?_ ?_ _) | go_size)))
              obtain ⟨Wn, hWn⟩ : ∃ W, ((wr.alloc (.cells #[.int .i64 1, .int .i64 (s : Int), .int .i64 0] 50)).alloc (.cells #[.int .i64 1, .int .i64 (((s : Int) + 1) % 4), .int .i64 0] 50)) = W := ⟨_, rfl⟩
              rw [hWn] at XA YA PA QA HWN
              by_cases ex : (x0, x1, x2) = ouS R s i
              · have EP := EP.1 ex
                by_cases ey : (y0, y1, y2) = ouS R s (i + 1)
                · have EQ := EQ.1 ey
                  have HA := Lib.hid (show isA R E from ⟨s, i, hlt, by rw [HRS.out]; exact hlti, by rw [← HE.out, ex, ey]; rfl⟩)
                  clear ex ey X1 Y1
                  go_wp2_with fail
                  go_returns
                  exact ⟨⟨_, rfl, .inl ⟨HA.out, by omega, by omega⟩⟩, by have h := HWN.out; have h3 := B3.out; exact h3.trans (h.mono h3.size)⟩
                · have EQ := EQ.2 ey
                  have HN := Lib.hid (no_next HNI.out (show E ≠ eA R s i from fun h => ey (by rw [← HE.out] at h; exact congrArg Prod.snd h)))
                  clear ex ey X1 Y1
                  go_wp2_with fail
                  go_roundg (r - (i + 1))
                  case measure => omega
                  case rel => exact ⟨i + 1, by omega, rfl, by simp <;> omega, HN.out, by first | exact HWN.out | exact below_drewN HWN.out _⟩
              · have EP := EP.2 ex
                have HN := Lib.hid (no_next HNI.out (show E ≠ eA R s i from fun h => ex (by rw [← HE.out] at h; exact congrArg Prod.fst h)))
                clear ex EQ X1 Y1
                go_wp2_with fail
                go_roundg (r - (i + 1))
                case measure => omega
                case rel => exact ⟨i + 1, by omega, rfl, by simp <;> omega, HN.out, by first | exact HWN.out | exact below_drewN HWN.out _⟩
            · have k0 : (i : Int) = 0 := by omega
              have k1 : ((i : Int) == 0) = true := by simp [e0]
              have k2 : decide (i = 0) = true := decide_eq_true e0
              obtain ⟨q, hq⟩ : ∃ q, r = q + 1 := ⟨r - 1, by omega⟩
              have wq : IntKind.i64.wrap ((r : Int) - 1) = (q : Int) := by rw [IntWalk.i64_in _ (by omega)]; omega
              have m0 : ¬ ((i : Int) = (q : Int)) := by omega
              have m1 : ((i : Int) == (q : Int)) = false := beq_eq_false_iff_ne.mpr m0
              have m2 : decide (i = q) = false := decide_eq_false (by omega)
              have m3 : ¬ i = q := by omega
              have hP : ((ouS R s i).1 : Int) = 1 ∧ ((ouS R s i).2.1 : Int) = (s : Int) ∧ ((ouS R s i).2.2 : Int) = 0 := by rw [ouS, if_pos e0]; exact ⟨rfl, rfl, rfl⟩
              have hQ : ((ouS R s (i + 1)).1 : Int) = 2 ∧ ((ouS R s (i + 1)).2.1 : Int) = (s : Int) ∧ ((ouS R s (i + 1)).2.2 : Int) = 1 := by rw [ouS, if_neg (by omega), if_neg (by rw [HRS.out]; exact e1)]; exact ⟨rfl, rfl, by simp only []; omega⟩
              have EP := eq3_of (x := (x0, x1, x2)) hP
              have EQ := eq3_of (x := (y0, y1, y2)) hQ
              have HQQ := Lib.hid hq
              clear hP hQ e0 e1 hq
              have XA : ∀ o, ((wr.alloc (.cells #[.int .i64 1, .int .i64 (s : Int), .int .i64 0] 50)).alloc (.cells #[.int .i64 2, .int .i64 (s : Int), .int .i64 1] 50)).cell? ⟨w.heap.size + 1, o, none⟩ = (#[.int .i64 (x0 : Int), .int .i64 (x1 : Int), .int .i64 (x2 : Int)] : Array Value)[o]? := blk_alloc (by simp) _ (blk_alloc (by simp) _ X1)
              have YA : ∀ o, ((wr.alloc (.cells #[.int .i64 1, .int .i64 (s : Int), .int .i64 0] 50)).alloc (.cells #[.int .i64 2, .int .i64 (s : Int), .int .i64 1] 50)).cell? ⟨w.heap.size + 1 + 1, o, none⟩ = (#[.int .i64 (y0 : Int), .int .i64 (y1 : Int), .int .i64 (y2 : Int)] : Array Value)[o]? := blk_alloc (by simp) _ (blk_alloc (by simp) _ Y1)
              have PA : ∀ o, ((wr.alloc (.cells #[.int .i64 1, .int .i64 (s : Int), .int .i64 0] 50)).alloc (.cells #[.int .i64 2, .int .i64 (s : Int), .int .i64 1] 50)).cell? ⟨wr.heap.size, o, none⟩ = (#[.int .i64 1, .int .i64 (s : Int), .int .i64 0] : Array Value)[o]? := blk_alloc (by simp) _ (new_at rfl _ _)
              have QA : ∀ o, ((wr.alloc (.cells #[.int .i64 1, .int .i64 (s : Int), .int .i64 0] 50)).alloc (.cells #[.int .i64 2, .int .i64 (s : Int), .int .i64 1] 50)).cell? ⟨wr.heap.size + 1, o, none⟩ = (#[.int .i64 2, .int .i64 (s : Int), .int .i64 1] : Array Value)[o]? := new_at (by rw [World.size_alloc]) _ _
              have HWN := Lib.hid (show Below W3.heap.size W3 ((wr.alloc (.cells #[.int .i64 1, .int .i64 (s : Int), .int .i64 0] 50)).alloc (.cells #[.int .i64 2, .int .i64 (s : Int), .int .i64 1] 50)) from by have h := HBI.out; have hz := h.size; (repeat' (first | (with_reducible assumption) | (with_reducible exact Below.refl _ _) | (with_reducible refine bstep (by with_reducible assumption) ?_) | (with_reducible refine Below.alloc ?_ ?_ _) | (with_reducible refine Below.drew ?_) | (with_reducible refine below_drewN ?_ _) | (with_reducible refine Below.setCell ?_ ?_ _) | go_size)))
              by_cases ex : (x0, x1, x2) = ouS R s i
              · have EP := EP.1 ex
                by_cases ey : (y0, y1, y2) = ouS R s (i + 1)
                · have EQ := EQ.1 ey
                  have HA := Lib.hid (show isA R E from ⟨s, i, hlt, by rw [HRS.out]; exact hlti, by rw [← HE.out, ex, ey]; rfl⟩)
                  clear ex ey X1 Y1
                  go_wp2_with fail
                  go_returns
                  exact ⟨⟨_, rfl, .inl ⟨HA.out, by omega, by omega⟩⟩, by have h := HWN.out; have h3 := B3.out; exact h3.trans (h.mono h3.size)⟩
                · have EQ := EQ.2 ey
                  have HN := Lib.hid (no_next HNI.out (show E ≠ eA R s i from fun h => ey (by rw [← HE.out] at h; exact congrArg Prod.snd h)))
                  clear ex ey X1 Y1
                  go_wp2_with fail
                  go_roundg (r - (i + 1))
                  case measure => omega
                  case rel => exact ⟨i + 1, by omega, rfl, by simp <;> omega, HN.out, by first | exact HWN.out | exact below_drewN HWN.out _⟩
              · have EP := EP.2 ex
                have HN := Lib.hid (no_next HNI.out (show E ≠ eA R s i from fun h => ex (by rw [← HE.out] at h; exact congrArg Prod.fst h)))
                clear ex EQ X1 Y1
                go_wp2_with fail
                go_roundg (r - (i + 1))
                case measure => omega
                case rel => exact ⟨i + 1, by omega, rfl, by simp <;> omega, HN.out, by first | exact HWN.out | exact below_drewN HWN.out _⟩
          · by_cases e1 : i + 1 = r
            · have k0 : ¬ ((i : Int) = 0) := by omega
              have k1 : ((i : Int) == 0) = false := beq_eq_false_iff_ne.mpr k0
              have k2 : decide (i = 0) = false := decide_eq_false e0
              have k3 : ¬ i = 0 := e0
              obtain ⟨q, hq⟩ : ∃ q, r = q + 1 := ⟨r - 1, by omega⟩
              have wq : IntKind.i64.wrap ((r : Int) - 1) = (q : Int) := by rw [IntWalk.i64_in _ (by omega)]; omega
              have m0 : (i : Int) = (q : Int) := by omega
              have m1 : ((i : Int) == (q : Int)) = true := by rw [m0]; simp
              have m2 : decide (i = q) = true := decide_eq_true (by omega)
              have hP : ((ouS R s i).1 : Int) = 2 ∧ ((ouS R s i).2.1 : Int) = (s : Int) ∧ ((ouS R s i).2.2 : Int) = (q : Int) := by rw [ouS, if_neg e0, if_neg (by rw [HRS.out]; omega)]; exact ⟨rfl, rfl, by simp only []; omega⟩
              have hQ : ((ouS R s (i + 1)).1 : Int) = 1 ∧ ((ouS R s (i + 1)).2.1 : Int) = (((s : Int) + 1) % 4) ∧ ((ouS R s (i + 1)).2.2 : Int) = 0 := by rw [ouS, if_neg (by omega), if_pos (by rw [HRS.out]; exact e1)]; exact ⟨rfl, by simp only []; omega, rfl⟩
              have EP := eq3_of (x := (x0, x1, x2)) hP
              have EQ := eq3_of (x := (y0, y1, y2)) hQ
              have HQQ := Lib.hid hq
              clear hP hQ e0 e1 hq
              have XA : ∀ o, ((wr.alloc (.cells #[.int .i64 2, .int .i64 (s : Int), .int .i64 (q : Int)] 50)).alloc (.cells #[.int .i64 1, .int .i64 (((s : Int) + 1) % 4), .int .i64 0] 50)).cell? ⟨w.heap.size + 1, o, none⟩ = (#[.int .i64 (x0 : Int), .int .i64 (x1 : Int), .int .i64 (x2 : Int)] : Array Value)[o]? := blk_alloc (by simp) _ (blk_alloc (by simp) _ X1)
              have YA : ∀ o, ((wr.alloc (.cells #[.int .i64 2, .int .i64 (s : Int), .int .i64 (q : Int)] 50)).alloc (.cells #[.int .i64 1, .int .i64 (((s : Int) + 1) % 4), .int .i64 0] 50)).cell? ⟨w.heap.size + 1 + 1, o, none⟩ = (#[.int .i64 (y0 : Int), .int .i64 (y1 : Int), .int .i64 (y2 : Int)] : Array Value)[o]? := blk_alloc (by simp) _ (blk_alloc (by simp) _ Y1)
              have PA : ∀ o, ((wr.alloc (.cells #[.int .i64 2, .int .i64 (s : Int), .int .i64 (q : Int)] 50)).alloc (.cells #[.int .i64 1, .int .i64 (((s : Int) + 1) % 4), .int .i64 0] 50)).cell? ⟨wr.heap.size, o, none⟩ = (#[.int .i64 2, .int .i64 (s : Int), .int .i64 (q : Int)] : Array Value)[o]? := blk_alloc (by simp) _ (new_at rfl _ _)
              have QA : ∀ o, ((wr.alloc (.cells #[.int .i64 2, .int .i64 (s : Int), .int .i64 (q : Int)] 50)).alloc (.cells #[.int .i64 1, .int .i64 (((s : Int) + 1) % 4), .int .i64 0] 50)).cell? ⟨wr.heap.size + 1, o, none⟩ = (#[.int .i64 1, .int .i64 (((s : Int) + 1) % 4), .int .i64 0] : Array Value)[o]? := new_at (by rw [World.size_alloc]) _ _
              have HWN := Lib.hid (show Below W3.heap.size W3 ((wr.alloc (.cells #[.int .i64 2, .int .i64 (s : Int), .int .i64 (q : Int)] 50)).alloc (.cells #[.int .i64 1, .int .i64 (((s : Int) + 1) % 4), .int .i64 0] 50)) from by have h := HBI.out; have hz := h.size; (repeat' (first | (with_reducible assumption) | (with_reducible exact Below.refl _ _) | (with_reducible refine bstep (by with_reducible assumption) ?_) | (with_reducible refine Below.alloc ?_ ?_ _) | (with_reducible refine Below.drew ?_) | (with_reducible refine below_drewN ?_ _) | (with_reducible refine Below.setCell ?_ ?_ _) | go_size)))
              obtain ⟨Wn, hWn⟩ : ∃ W, ((wr.alloc (.cells #[.int .i64 2, .int .i64 (s : Int), .int .i64 (q : Int)] 50)).alloc (.cells #[.int .i64 1, .int .i64 (((s : Int) + 1) % 4), .int .i64 0] 50)) = W := ⟨_, rfl⟩
              rw [hWn] at XA YA PA QA HWN
              by_cases ex : (x0, x1, x2) = ouS R s i
              · have EP := EP.1 ex
                by_cases ey : (y0, y1, y2) = ouS R s (i + 1)
                · have EQ := EQ.1 ey
                  have HA := Lib.hid (show isA R E from ⟨s, i, hlt, by rw [HRS.out]; exact hlti, by rw [← HE.out, ex, ey]; rfl⟩)
                  clear ex ey X1 Y1
                  go_wp2_with fail
                  go_returns
                  exact ⟨⟨_, rfl, .inl ⟨HA.out, by omega, by omega⟩⟩, by have h := HWN.out; have h3 := B3.out; exact h3.trans (h.mono h3.size)⟩
                · have EQ := EQ.2 ey
                  have HN := Lib.hid (no_next HNI.out (show E ≠ eA R s i from fun h => ey (by rw [← HE.out] at h; exact congrArg Prod.snd h)))
                  clear ex ey X1 Y1
                  go_wp2_with fail
                  go_roundg (r - (i + 1))
                  case measure => omega
                  case rel => exact ⟨i + 1, by omega, rfl, by simp <;> omega, HN.out, by first | exact HWN.out | exact below_drewN HWN.out _⟩
              · have EP := EP.2 ex
                have HN := Lib.hid (no_next HNI.out (show E ≠ eA R s i from fun h => ex (by rw [← HE.out] at h; exact congrArg Prod.fst h)))
                clear ex EQ X1 Y1
                go_wp2_with fail
                go_roundg (r - (i + 1))
                case measure => omega
                case rel => exact ⟨i + 1, by omega, rfl, by simp <;> omega, HN.out, by first | exact HWN.out | exact below_drewN HWN.out _⟩
            · have k0 : ¬ ((i : Int) = 0) := by omega
              have k1 : ((i : Int) == 0) = false := beq_eq_false_iff_ne.mpr k0
              have k2 : decide (i = 0) = false := decide_eq_false e0
              have k3 : ¬ i = 0 := e0
              obtain ⟨q, hq⟩ : ∃ q, r = q + 1 := ⟨r - 1, by omega⟩
              have wq : IntKind.i64.wrap ((r : Int) - 1) = (q : Int) := by rw [IntWalk.i64_in _ (by omega)]; omega
              have m0 : ¬ ((i : Int) = (q : Int)) := by omega
              have m1 : ((i : Int) == (q : Int)) = false := beq_eq_false_iff_ne.mpr m0
              have m2 : decide (i = q) = false := decide_eq_false (by omega)
              have m3 : ¬ i = q := by omega
              have hP : ((ouS R s i).1 : Int) = 2 ∧ ((ouS R s i).2.1 : Int) = (s : Int) ∧ ((ouS R s i).2.2 : Int) = (i : Int) := by rw [ouS, if_neg e0, if_neg (by rw [HRS.out]; omega)]; exact ⟨rfl, rfl, rfl⟩
              have hQ : ((ouS R s (i + 1)).1 : Int) = 2 ∧ ((ouS R s (i + 1)).2.1 : Int) = (s : Int) ∧ ((ouS R s (i + 1)).2.2 : Int) = ((i : Int) + 1) := by rw [ouS, if_neg (by omega), if_neg (by rw [HRS.out]; exact e1)]; exact ⟨rfl, rfl, by simp only []; omega⟩
              have EP := eq3_of (x := (x0, x1, x2)) hP
              have EQ := eq3_of (x := (y0, y1, y2)) hQ
              have HQQ := Lib.hid hq
              clear hP hQ e0 e1 hq
              have XA : ∀ o, ((wr.alloc (.cells #[.int .i64 2, .int .i64 (s : Int), .int .i64 (i : Int)] 50)).alloc (.cells #[.int .i64 2, .int .i64 (s : Int), .int .i64 ((i : Int) + 1)] 50)).cell? ⟨w.heap.size + 1, o, none⟩ = (#[.int .i64 (x0 : Int), .int .i64 (x1 : Int), .int .i64 (x2 : Int)] : Array Value)[o]? := blk_alloc (by simp) _ (blk_alloc (by simp) _ X1)
              have YA : ∀ o, ((wr.alloc (.cells #[.int .i64 2, .int .i64 (s : Int), .int .i64 (i : Int)] 50)).alloc (.cells #[.int .i64 2, .int .i64 (s : Int), .int .i64 ((i : Int) + 1)] 50)).cell? ⟨w.heap.size + 1 + 1, o, none⟩ = (#[.int .i64 (y0 : Int), .int .i64 (y1 : Int), .int .i64 (y2 : Int)] : Array Value)[o]? := blk_alloc (by simp) _ (blk_alloc (by simp) _ Y1)
              have PA : ∀ o, ((wr.alloc (.cells #[.int .i64 2, .int .i64 (s : Int), .int .i64 (i : Int)] 50)).alloc (.cells #[.int .i64 2, .int .i64 (s : Int), .int .i64 ((i : Int) + 1)] 50)).cell? ⟨wr.heap.size, o, none⟩ = (#[.int .i64 2, .int .i64 (s : Int), .int .i64 (i : Int)] : Array Value)[o]? := blk_alloc (by simp) _ (new_at rfl _ _)
              have QA : ∀ o, ((wr.alloc (.cells #[.int .i64 2, .int .i64 (s : Int), .int .i64 (i : Int)] 50)).alloc (.cells #[.int .i64 2, .int .i64 (s : Int), .int .i64 ((i : Int) + 1)] 50)).cell? ⟨wr.heap.size + 1, o, none⟩ = (#[.int .i64 2, .int .i64 (s : Int), .int .i64 ((i : Int) + 1)] : Array Value)[o]? := new_at (by rw [World.size_alloc]) _ _
              have HWN := Lib.hid (show Below W3.heap.size W3 ((wr.alloc (.cells #[.int .i64 2, .int .i64 (s : Int), .int .i64 (i : Int)] 50)).alloc (.cells #[.int .i64 2, .int .i64 (s : Int), .int .i64 ((i : Int) + 1)] 50)) from by have h := HBI.out; have hz := h.size; (repeat' (first | (with_reducible assumption) | (with_reducible exact Below.refl _ _) | (with_reducible refine bstep (by with_reducible assumption) ?_) | (with_reducible refine Below.alloc ?_ ?_ _) | (with_reducible refine Below.drew ?_) | (with_reducible refine below_drewN ?_ _) | (with_reducible refine Below.setCell ?_ ?_ _) | go_size)))
              obtain ⟨Wn, hWn⟩ : ∃ W, ((wr.alloc (.cells #[.int .i64 2, .int .i64 (s : Int), .int .i64 (i : Int)] 50)).alloc (.cells #[.int .i64 2, .int .i64 (s : Int), .int .i64 ((i : Int) + 1)] 50)) = W := ⟨_, rfl⟩
              rw [hWn] at XA YA PA QA HWN
              by_cases ex : (x0, x1, x2) = ouS R s i
              · have EP := EP.1 ex
                by_cases ey : (y0, y1, y2) = ouS R s (i + 1)
                · have EQ := EQ.1 ey
                  have HA := Lib.hid (show isA R E from ⟨s, i, hlt, by rw [HRS.out]; exact hlti, by rw [← HE.out, ex, ey]; rfl⟩)
                  clear ex ey X1 Y1
                  go_wp2_with fail
                  go_returns
                  exact ⟨⟨_, rfl, .inl ⟨HA.out, by omega, by omega⟩⟩, by have h := HWN.out; have h3 := B3.out; exact h3.trans (h.mono h3.size)⟩
                · have EQ := EQ.2 ey
                  have HN := Lib.hid (no_next HNI.out (show E ≠ eA R s i from fun h => ey (by rw [← HE.out] at h; exact congrArg Prod.snd h)))
                  clear ex ey X1 Y1
                  go_wp2_with fail
                  go_roundg (r - (i + 1))
                  case measure => omega
                  case rel => exact ⟨i + 1, by omega, rfl, by simp <;> omega, HN.out, by first | exact HWN.out | exact below_drewN HWN.out _⟩
              · have EP := EP.2 ex
                have HN := Lib.hid (no_next HNI.out (show E ≠ eA R s i from fun h => ex (by rw [← HE.out] at h; exact congrArg Prod.fst h)))
                clear ex EQ X1 Y1
                go_wp2_with fail
                go_roundg (r - (i + 1))
                case measure => omega
                case rel => exact ⟨i + 1, by omega, rfl, by simp <;> omega, HN.out, by first | exact HWN.out | exact below_drewN HWN.out _⟩
        · obtain rfl : i = r := by omega
          have hi1 : ¬ ((i : Int) < (i : Int)) := by omega
          have HN := Lib.hid (no_end HNI.out HRS.out)
          clear hno hb
          go_wp2_with fail
          go_roundg (4 - (s + 1))
          case measure => omega
          case rel => exact ⟨s + 1, by omega, rfl, by simp <;> omega, HN.out, by first | exact HBI.out | exact below_drewN HBI.out _⟩
    · obtain rfl : s = 4 := by omega
      have hs1 : ¬ ((4 : Int) < 4) := by omega
      have HN := Lib.hid (show ¬ isA R E from fun ⟨k, i, hk, hi, he⟩ => HNO.out k i (.inl hk) hk hi he)
      clear hno hb
      go_wp2_with fail
      go_returns
      exact ⟨⟨_, rfl, .inr ⟨HN.out, rfl⟩⟩, by have h := HBW.out; have h3 := B3.out; exact h3.trans (h.mono h3.size)⟩
end Go.Proofs.Ytoalihdempcbjaa
