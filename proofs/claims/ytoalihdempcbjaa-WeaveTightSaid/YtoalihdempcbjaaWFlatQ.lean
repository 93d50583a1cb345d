/- place, in general: a valid spot's place is pl's. -/
import Derived.Test.YtoalihdempcbjaaWFlatL
namespace Go.Proofs.Ytoalihdempcbjaa
open Go.RowKit
set_option maxRecDepth 100000
set_option linter.unusedSimpArgs false
set_option linter.unusedVariables false
def P2 (p : Nat × Nat) : Value := .agg #[.int .i64 (p.1 : Int), .int .i64 (p.2 : Int)]
theorem place_any (R : Rt) (hR : R.ok) (s : T3) (hs : vs R s) (w : World) :
    Calls Try.prog 25 #[.agg #[.int .i64 (R.r0 : Int), .int .i64 (R.r1 : Int), .int .i64 (R.r2 : Int), .int .i64 (R.r3 : Int)], .agg #[.int .i64 (s.1 : Int), .int .i64 (s.2.1 : Int), .int .i64 (s.2.2 : Int)], .int .i64 720720] w fun e w' => e = .returned (P2 (pl R s)) ∧ Below w.heap.size w w' := by
  have hm := Rt.ok_m hR
  have hmx : mx (mx (mx (R.r0 : Int) (R.r1 : Int)) (R.r2 : Int)) (R.r3 : Int) = (R.m : Int) := by unfold mx Rt.m; omega
  obtain ⟨a, b, c⟩ := s
  rcases hs with ⟨h1, h2, h3⟩ | ⟨h1, h2, h3, h4⟩ | ⟨h1, h2, h3⟩
  · simp only at h1 h2 h3
    subst h1 h3
    match b, h2 with
    | 0, _ => exact place_1_0 _ _ _ _ _ 0 hmx w
    | 1, _ => exact place_1_1 _ _ _ _ _ 0 hmx w
    | 2, _ => exact place_1_2 _ _ _ _ _ 0 hmx w
    | 3, _ => exact place_1_3 _ _ _ _ _ 0 hmx w
  · simp only at h1 h2 h3 h4
    subst h1
    have hr := Rt.ok_r hR b
    have hX : c * 720720 / R.r b ≤ 720720 := part_le hr.1 (by omega)
    have cs : ∀ X : Nat, X ≤ 720720 → ((720720 - X : Nat) : Int) = (720720 : Int) - (X : Int) := fun X h => by omega
    match b, h2 with
    | 0, _ => exact place_2_0 _ _ _ _ _ c _ hmx hR.1 (by omega) rfl hX w
    | 1, _ => exact place_2_1 _ _ _ _ _ c _ hmx hR.2.1 (by omega) rfl hX w
    | 2, _ =>
      have e : P2 (pl R (2, 2, c)) = .agg #[.int .i64 ((720720 : Int) - ((c * 720720 / R.r 2 : Nat) : Int)), .int .i64 720720] := by rw [← cs _ hX]; rfl
      rw [e]
      exact place_2_2 _ _ _ _ _ c _ hmx hR.2.2.1 (by omega) rfl hX w
    | 3, _ =>
      have e : P2 (pl R (2, 3, c)) = .agg #[.int .i64 0, .int .i64 ((720720 : Int) - ((c * 720720 / R.r 3 : Nat) : Int))] := by rw [← cs _ hX]; rfl
      rw [e]
      exact place_2_3 _ _ _ _ _ c _ hmx hR.2.2.2 (by omega) rfl hX w
  · simp only at h1 h2 h3
    subst h1
    exact place_3 _ _ _ _ _ b c _ _ hmx hm (by omega) (by omega) rfl rfl w
end Go.Proofs.Ytoalihdempcbjaa
