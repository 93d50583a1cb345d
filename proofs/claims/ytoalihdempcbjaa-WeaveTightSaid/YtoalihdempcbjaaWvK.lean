/- What a spot reads as where it is a map's key; a map that holds spots' numbers. -/
import Derived.Test.YtoalihdempcbjaaWvP
import Derived.Test.YtoalihdempcbjaaTiles
import Derived.Maps.Views
import Derived.Maps.OwnOps
import Derived.DeepKeys4
namespace Go.Proofs.Ytoalihdempcbjaa
open Go.RowKit
open Go.Maps (Keyed)
set_option maxRecDepth 100000
set_option linter.unusedSimpArgs false
set_option linter.unusedVariables false
def V3n (s : T3) : Value := .agg #[.int .i64 (s.1 : Int), .int .i64 (s.2.1 : Int), .int .i64 (s.2.2 : Int)]
def klS (s : T3) : Lit := .string (keyBytes [.int .i64 (s.1 : Int), .int .i64 (s.2.1 : Int), .int .i64 (s.2.2 : Int)])
theorem wfn {n : Nat} (h : n < 1000000) : (Lit.int .i64 (n : Int)).wf = true := WalkArith.wf_i64 (by omega)
def smS (s : T3) : Prop := s.1 < 1000000 ∧ s.2.1 < 1000000 ∧ s.2.2 < 1000000
theorem lawS : Keyed Try.prog 50 := Keyed.of_law (deep_law_laid (by kernel_rfl) (m := 2) (by omega) (of_decide_eq_true (by kernel_rfl)) (by kernel_rfl) (by rw [Try.underlying50]))
theorem cellsI : Try.prog.cellsOf 3 = 1 := by kernel_rfl
theorem keyOf_int1 {n : Nat} (h : n < 1000000) (d : Nat) : Try.prog.keyLits (d + 1) 3 [.int .i64 (n : Int)] = some [.int .i64 (n : Int)] := by
  unfold Program.keyLits
  rw [Try.underlying3]
  simp only [wfn h, and_self, ↓reduceIte]
theorem szT : ∃ m, Try.prog.types.size = m + 1 + 1 := by
  have h : 2 ≤ Try.prog.types.size := of_decide_eq_true (by kernel_rfl)
  exact ⟨Try.prog.types.size - 2, by omega⟩
theorem keyOf_S (s : T3) (h : smS s) : keyOf Try.prog 50 (V3n s) = some (klS s) := by
  obtain ⟨m, hm⟩ := szT
  unfold keyOf
  rw [Try.underlying50]
  simp only
  rw [if_pos (by
    have e1 : Try.prog.keyType 50 = true := by kernel_rfl
    have e2 : (V3n s).formed Try.prog 50 = true := by
      simp only [V3n, Value.formed, Try.underlying50]
      rw [show Try.prog.cellsOf 50 = 3 by kernel_rfl]; rfl
    rw [e1, e2]; rfl), hm]
  unfold Program.keyLits
  rw [Try.underlying50]
  dsimp only
  rw [if_pos ⟨by rw [show Try.prog.cellsOf 50 = 3 by kernel_rfl]; rfl, by kernel_rfl⟩]
  simp [V3n, Value.cells, cellsI, keyOf_int1 h.1, keyOf_int1 h.2.1, keyOf_int1 h.2.2, klS, List.mapM_cons, List.mapM_nil]
theorem klS_inj {s t : T3} (hs : smS s) (ht : smS t) (e : klS s = klS t) : s = t := by
  have h := lawS.inj (keyOf_S s hs) (by rw [e]; exact keyOf_S t ht)
  obtain ⟨a, b, c⟩ := s
  obtain ⟨a', b', c'⟩ := t
  simp only [V3n, Value.agg.injEq, Array.mk.injEq, List.cons.injEq, Value.int.injEq, true_and, and_true] at h
  obtain ⟨h1, h2, h3⟩ := h
  rw [Int.ofNat_inj.1 h1, Int.ofNat_inj.1 h2, Int.ofNat_inj.1 h3]
abbrev Du := DataW Unit
def zI : Du := .lit (.int .i64 0)
/-- The map's datum holds the numbers of the first n spots. -/
def HoldsN (R : Rt) (n : Nat) (D : Du) : Prop := ∀ s, vs R s → nm R s < n → D.atKey (klS s) zI = .lit (.int .i64 (nm R s : Int))
theorem vs_sm {R : Rt} (hR : R.ok) {s : T3} (h : vs R s) : smS s := by
  have hm := Rt.ok_m hR
  rcases h with ⟨h1, h2, h3⟩ | ⟨h1, h2, h3, h4⟩ | ⟨h1, h2, h3⟩
  · exact ⟨by omega, by omega, by omega⟩
  · have := Rt.ok_r hR s.2.1
    exact ⟨by omega, by omega, by omega⟩
  · exact ⟨by omega, by omega, by omega⟩
theorem holds_0 (R : Rt) (D : Du) : HoldsN R 0 D := fun s _ h => absurd h (by omega)
theorem holds_next {R : Rt} (hR : R.ok) {n : Nat} {D : Du} (h : HoldsN R n D) (hD : Maps.IsMap D) {s : T3} (hs : vs R s) (hn : nm R s = n) : HoldsN R (n + 1) (D.put (klS s) (.lit (.int .i64 (n : Int)))) := by
  intro t ht hl
  by_cases e : t = s
  · subst e
    rw [Maps.atKey_put_same hD (lawS.key (keyOf_S t (vs_sm hR ht))), hn]
  · have hk : klS t ≠ klS s := fun k => e (klS_inj (vs_sm hR ht) (vs_sm hR hs) k)
    rw [Maps.atKey_put_other hk]
    refine h t ht ?_
    have : nm R t ≠ n := fun k => e (nm_inj R hR ht hs (by rw [k, hn]))
    omega
end Go.Proofs.Ytoalihdempcbjaa
