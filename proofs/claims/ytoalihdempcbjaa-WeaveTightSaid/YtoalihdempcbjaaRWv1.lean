/- relievoref13's helpers: inner, outer, beside give a spot; number gives a spot's number in the list. -/
import Derived.Test.YtoalihdempcbjaaAlive13
namespace Go.Proofs.Ytoalihdempcbjaa
open Go.RowKit
set_option maxRecDepth 100000
set_option linter.unusedSimpArgs false
set_option linter.unusedVariables false
def ouS (R : Rt) (k i : Nat) : T3 := if i = 0 then (1, k, 0) else if i = R.r k then (1, (k + 1) % 4, 0) else (2, k, i)
theorem ouS_vs {R : Rt} {k i : Nat} (hk : k < 4) (hi : i ≤ R.r k) : vs R (ouS R k i) := by
  unfold ouS
  split
  · exact vs_corn hk
  · split
    · exact vs_corn (Nat.mod_lt _ (by decide))
    · exact vs_edge hk (by omega)
theorem ouS_nm (R : Rt) (k i : Nat) : nm R (ouS R k i) = ou R k i := by
  unfold ouS ou
  split
  · exact nm_corn R k
  · split
    · exact nm_corn R _
    · rfl
def V3s (x y z : Int) : Value := .agg #[.int .i64 x, .int .i64 y, .int .i64 z]
theorem rinner_any (x y : Int) (w : World) : Calls Try.prog 39 #[.int .i64 x, .int .i64 y] w fun e w' => e = .returned (V3s 3 x y) ∧ Below w.heap.size w w' := by
  go_enter Try.func39, Try.ntmps39
  go_wp2_with fail
  have K : ∀ o, (w.alloc (.cells #[.int .i64 3, .int .i64 x, .int .i64 y] 50)).cell? ⟨w.heap.size, o, none⟩ = (#[.int .i64 3, .int .i64 x, .int .i64 y] : Array Value)[o]? := new_at rfl _ _
  have k0 := (K 0).trans (show _ = some (.int .i64 3) from rfl)
  have k1 := (K 1).trans (show _ = some (.int .i64 x) from rfl)
  have k2 := (K 2).trans (show _ = some (.int .i64 y) from rfl)
  clear K
  refine bodyPost_ret (v := V3s 3 x y) (by simp [results, Try.results39, go_sem, k0, k1, k2, V3s]) rfl ?_
  exact ⟨rfl, by (repeat' (first | (with_reducible exact Below.refl _ _) | (with_reducible refine bstep (by with_reducible assumption) ?_) | (with_reducible refine Below.alloc ?_ ?_ _) | (with_reducible refine Below.drew ?_) | (with_reducible refine below_drewN ?_ _) | (with_reducible refine Below.setCell ?_ ?_ _) | go_size))⟩
theorem eq3_ne {x0 x1 x2 y0 y1 y2 : Int} (h : x0 ≠ y0 ∨ x1 ≠ y1 ∨ x2 ≠ y2) : ∀ w : World, Sem.run Try.prog (Op.equalIn 10000 50 (.agg #[.int .i64 x0, .int .i64 x1, .int .i64 x2]) (.agg #[.int .i64 y0, .int .i64 y1, .int .i64 y2])) w = .ok false w := by
  intro w
  by_cases e : x0 = y0
  · subst e
    by_cases e1 : x1 = y1
    · subst e1
      have e2 : ¬ x2 = y2 := by rcases h with h | h | h <;> simp_all
      go_simp
    · go_simp
  · go_simp
def NuRel (K B : Nat) (w : World) (k : Nat) (i : Value) (wr : World) : Prop := ∃ j, j ≤ K ∧ k = K - j ∧ i = .int .i64 (j : Int) ∧ Below B w wr
set_option maxHeartbeats 4000000 in
theorem number_any (R : Rt) (hR : R.ok) (s : T3) (hs : vs R s) (p : Option Addr) (n c B : Nat) (hn : (spotsN R).length = n) (w : World) (h : Sps w B (.slice p n c) n (spotsN R)) :
    Calls Try.prog 40 #[.slice p n c, .agg #[.int .i64 (s.1 : Int), .int .i64 (s.2.1 : Int), .int .i64 (s.2.2 : Int)]] w fun e w' => e = .returned (.int .i64 (nm R s : Int)) ∧ Below w.heap.size w w' := by
  have hlt := nm_lt R hR s hs
  have hat := spots_at R hR s hs
  have hne : ∀ j t, j < nm R s → (spotsN R)[j]? = some t → t ≠ s := by
    intro j t hj ht e
    have := ((spots_num R hR).1 j t ht).1
    rw [e] at this; omega
  have hle := spots_le R hR
  rw [hn] at hlt hle
  obtain ⟨g, rfl, hg, hl, hc⟩ := row3_cell h (by omega)
  have hc' : ∀ j t, (spotsN R)[j]? = some t → ∀ W, Below w.heap.size w W → W.cell? ⟨g, j * 3, none⟩ = some (.int .i64 (t.1 : Int)) ∧ W.cell? ⟨g, j * 3 + 1, none⟩ = some (.int .i64 (t.2.1 : Int)) ∧ W.cell? ⟨g, j * 3 + 2, none⟩ = some (.int .i64 (t.2.2 : Int)) := by
    intro j t ht W hW
    obtain ⟨hj, rfl⟩ := List.getElem?_eq_some_iff.1 ht
    obtain ⟨e0, e1, e2⟩ := hc j hj
    exact ⟨(hW.cell (p := ⟨g, j * 3, none⟩) hg).trans e0, (hW.cell (p := ⟨g, j * 3 + 1, none⟩) hg).trans e1, (hW.cell (p := ⟨g, j * 3 + 2, none⟩) hg).trans e2⟩
  have hsome : ∀ j, j < n → ∃ t, (spotsN R)[j]? = some t := fun j hj => ⟨_, List.getElem?_eq_getElem (by omega)⟩
  have HC := Lib.hid hc'
  have HNE := Lib.hid hne
  have HAT := Lib.hid hat
  have HSO := Lib.hid hsome
  obtain ⟨x, y, z⟩ := s
  obtain ⟨K, hK⟩ : ∃ K, nm R (x, y, z) = K := ⟨_, rfl⟩
  rw [hK] at hlt HAT HNE
  simp only [hK]
  clear h hc hc' hne hat hn hs hl hK hsome
  go_enter Try.func40, Try.ntmps40
  go_wp2_with fail
  go_loopg [5] K (fun k i wr => NuRel K (w.heap.size + 1) (w.alloc (.cells #[.int .i64 (x : Int), .int .i64 (y : Int), .int .i64 (z : Int)] 50)) k i wr)
  case atStart => exact ⟨0, by omega, rfl, rfl, Below.refl _ _⟩
  case round =>
    obtain ⟨j, hj, rfl, rfl, hb⟩ := hrel
    have HBW := Lib.hid hb
    have HB := Lib.hid (show Below w.heap.size w wr from ((Below.refl _ _).alloc (Nat.le_refl _) _).trans (hb.mono (Nat.le_succ _)))
    have K0 := new_at (W := w) rfl (#[.int .i64 (x : Int), .int .i64 (y : Int), .int .i64 (z : Int)] : Array Value) 50
    have b0 : wr.cell? ⟨w.heap.size, 0, none⟩ = some (.int .i64 (x : Int)) := (hb.cell (p := ⟨w.heap.size, 0, none⟩) (Nat.lt_succ_self _)).trans (K0 0)
    have b1 : wr.cell? ⟨w.heap.size, 1, none⟩ = some (.int .i64 (y : Int)) := (hb.cell (p := ⟨w.heap.size, 1, none⟩) (Nat.lt_succ_self _)).trans (K0 1)
    have b2 : wr.cell? ⟨w.heap.size, 2, none⟩ = some (.int .i64 (z : Int)) := (hb.cell (p := ⟨w.heap.size, 2, none⟩) (Nat.lt_succ_self _)).trans (K0 2)
    obtain ⟨⟨x', y', z'⟩, ht⟩ := HSO.out j (by omega)
    obtain ⟨a0, a1, a2⟩ := HC.out j _ ht _ HB.out
    have hj0 : (0 : Int) ≤ (j : Int) := by omega
    have hj1 : (j : Int) < (n : Int) := by omega
    have hj2 : j < n := by omega
    clear K0 hb
    by_cases hlt2 : j < K
    · have hne := HNE.out j _ hlt2 ht
      have hd : (x' : Int) ≠ (x : Int) ∨ (y' : Int) ≠ (y : Int) ∨ (z' : Int) ≠ (z : Int) := by
        by_cases e0 : x' = x
        · by_cases e1 : y' = y
          · by_cases e2 : z' = z
            · exact absurd (by rw [e0, e1, e2]) hne
            · exact .inr (.inr (by omega))
          · exact .inr (.inl (by omega))
        · exact .inl (by omega)
      have EQ := eq3_ne hd
      clear hd hne ht
      go_wp2_with fail
      go_quiet (fail)
      go_wp2_with fail
      go_roundg (K - (j + 1))
      case measure => omega
      case rel => exact ⟨j + 1, by omega, rfl, by simp, below_drewN HBW.out _⟩
    · obtain rfl : j = K := by omega
      have e := HAT.out
      rw [ht] at e
      simp only [Option.some.injEq, Prod.mk.injEq] at e
      obtain ⟨rfl, rfl, rfl⟩ := e
      clear ht
      go_wp2_with fail
      go_quiet (fail)
      go_wp2_with fail
      go_returns
      exact ⟨by simp, below_drewN HB.out _⟩
end Go.Proofs.Ytoalihdempcbjaa
