/- The greatest and the least of a slice of numbers that is not empty, and what bounds on them say of each. Condition: the slice's cells hold the list's numbers. -/
import Derived.Test.YtoalihdempcbjaaOwn
import Derived.Deep.LoopGhost
import Derived.Lib.Strings
import Derived.Lib.Slices
import Derived.Lib.Walk
namespace Go.Proofs.Ytoalihdempcbjaa
open Go.RowKit
set_option linter.unusedSimpArgs false
set_option linter.unusedVariables false
theorem mx_max (a b : Int) : mx a b = max a b := by unfold mx; split <;> omega
theorem mn_min (a b : Int) : mn a b = min a b := by unfold mn; split <;> omega
set_option maxHeartbeats 2000000 in
set_option maxRecDepth 100000 in
theorem max_any (b off n c : Nat) (zs : List Int) (w : World) (hn : 0 < n) (hz : n ≤ zs.length) (hbig : n ≤ 9223372036854775807) (hc : ∀ j, j < zs.length → w.cell? ⟨b, off + j, none⟩ = some (.int .i64 (zs.getD j 0))) :
    Calls Try.prog 34 #[.slice (some ⟨b, off, none⟩) n c] w fun e w' => e = .returned (.int .i64 (Lib.maxOf (zs.take n))) ∧ w' = w := by
  have h0 : w.cell? ⟨b, off, none⟩ = some (.int .i64 (zs.getD 0 0)) := by simpa using hc 0 (by omega)
  go_enter Try.func34, Try.ntmps34
  go_wp2
  go_loop [3, 4] (fun m i => ∃ k : Nat, 0 < k ∧ k ≤ n ∧ i = .int .i64 k ∧ m = .int .i64 (Lib.maxOf (zs.take k))) (fun _ i => match i with | .int _ q => n - q.toNat | _ => 0)
  case atStart => exact ⟨1, Nat.one_pos, hn, rfl, by rw [Lib.maxOf_one]; simp [List.getD]⟩
  case round =>
    obtain ⟨k, hk0, hk, rfl, rfl⟩ := hrel
    have hcell : k < n → w.cell? ⟨b, off + k, none⟩ = some (.int .i64 (zs.getD k 0)) := fun _ => hc k (by omega)
    go_wp2
    · have hlt : k < n := by assumption
      have e1 : ((k : Int) + 1 + 9223372036854775808) % 18446744073709551616 - 9223372036854775808 = ((k + 1 : Nat) : Int) := by omega
      refine ⟨⟨k + 1, Nat.succ_pos k, by omega, ?_, ?_⟩, by first | omega | (simp; omega)⟩
      · first | (with_reducible exact e1) | (simp; done) | (simp; omega)
      rw [Lib.maxOf_step zs k hk0 (by omega)]
      simp [List.getD, mx_max]
    · have hge : ¬ k < n := by assumption
      have : k = n := by omega
      subst this
      go_ret
      exact ⟨rfl, rfl⟩
set_option maxHeartbeats 2000000 in
set_option maxRecDepth 100000 in
theorem min_any (b off n c : Nat) (zs : List Int) (w : World) (hn : 0 < n) (hz : n ≤ zs.length) (hbig : n ≤ 9223372036854775807) (hc : ∀ j, j < zs.length → w.cell? ⟨b, off + j, none⟩ = some (.int .i64 (zs.getD j 0))) :
    Calls Try.prog 33 #[.slice (some ⟨b, off, none⟩) n c] w fun e w' => e = .returned (.int .i64 (Lib.minOf (zs.take n))) ∧ w' = w := by
  have h0 : w.cell? ⟨b, off, none⟩ = some (.int .i64 (zs.getD 0 0)) := by simpa using hc 0 (by omega)
  go_enter Try.func33, Try.ntmps33
  go_wp2
  go_loop [3, 4] (fun m i => ∃ k : Nat, 0 < k ∧ k ≤ n ∧ i = .int .i64 k ∧ m = .int .i64 (Lib.minOf (zs.take k))) (fun _ i => match i with | .int _ q => n - q.toNat | _ => 0)
  case atStart => exact ⟨1, Nat.one_pos, hn, rfl, by rw [Lib.minOf_one]; simp [List.getD]⟩
  case round =>
    obtain ⟨k, hk0, hk, rfl, rfl⟩ := hrel
    have hcell : k < n → w.cell? ⟨b, off + k, none⟩ = some (.int .i64 (zs.getD k 0)) := fun _ => hc k (by omega)
    go_wp2
    · have hlt : k < n := by assumption
      have e1 : ((k : Int) + 1 + 9223372036854775808) % 18446744073709551616 - 9223372036854775808 = ((k + 1 : Nat) : Int) := by omega
      refine ⟨⟨k + 1, Nat.succ_pos k, by omega, ?_, ?_⟩, by first | omega | (simp; omega)⟩
      · first | (with_reducible exact e1) | (simp; done) | (simp; omega)
      rw [Lib.minOf_step zs k hk0 (by omega)]
      simp [List.getD, mn_min]
    · have hge : ¬ k < n := by assumption
      have : k = n := by omega
      subst this
      go_ret
      exact ⟨rfl, rfl⟩
theorem foldl_max_le (zs : List Int) (a c : Int) : zs.foldl max a ≤ c ↔ a ≤ c ∧ ∀ z ∈ zs, z ≤ c := by
  induction zs generalizing a with
  | nil => simp
  | cons z zs ih => simp only [List.foldl_cons, ih, List.mem_cons, forall_eq_or_imp]; constructor <;> rintro ⟨h1, h2⟩ <;> first | exact ⟨by omega, by omega, h2⟩ | exact ⟨by omega, h2.2⟩
theorem le_foldl_min (zs : List Int) (a c : Int) : c ≤ zs.foldl min a ↔ c ≤ a ∧ ∀ z ∈ zs, c ≤ z := by
  induction zs generalizing a with
  | nil => simp
  | cons z zs ih => simp only [List.foldl_cons, ih, List.mem_cons, forall_eq_or_imp]; constructor <;> rintro ⟨h1, h2⟩ <;> first | exact ⟨by omega, by omega, h2⟩ | exact ⟨by omega, h2.2⟩
theorem maxOf_le {zs : List Int} (h : 0 < zs.length) (c : Int) : Lib.maxOf zs ≤ c ↔ ∀ z ∈ zs, z ≤ c := by
  rw [Lib.maxOf, foldl_max_le]
  refine ⟨fun h => h.2, fun h' => ⟨?_, h'⟩⟩
  cases zs with
  | nil => simp at h
  | cons z zs => exact h' _ (by simp)
theorem le_minOf {zs : List Int} (h : 0 < zs.length) (c : Int) : c ≤ Lib.minOf zs ↔ ∀ z ∈ zs, c ≤ z := by
  rw [Lib.minOf, le_foldl_min]
  refine ⟨fun h => h.2, fun h' => ⟨?_, h'⟩⟩
  cases zs with
  | nil => simp at h
  | cons z zs => exact h' _ (by simp)
end Go.Proofs.Ytoalihdempcbjaa
