/- A camera lies in memory as sixteen numbers of 64 bits. -/
import Derived.Test.YtoalihdempcbjaaFlat
namespace Go.Proofs.Ytoalihdempcbjaa
open Go.RowKit
set_option maxRecDepth 100000
theorem flatCam : Flat Try.prog 25 16 := by
  refine .struct Try.underlying25 (by kernel_rfl) fun p hp => ?_
  match p, hp with
  | 0, _ => exact ⟨0, _, 3, rfl, flatV, by decide, by decide⟩
  | 1, _ => exact ⟨0, _, 3, rfl, flatV, by decide, by decide⟩
  | 2, _ => exact ⟨0, _, 3, rfl, flatV, by decide, by decide⟩
  | 3, _ => exact ⟨1, _, 3, rfl, flatV, by decide, by decide⟩
  | 4, _ => exact ⟨1, _, 3, rfl, flatV, by decide, by decide⟩
  | 5, _ => exact ⟨1, _, 3, rfl, flatV, by decide, by decide⟩
  | 6, _ => exact ⟨2, _, 3, rfl, flatV, by decide, by decide⟩
  | 7, _ => exact ⟨2, _, 3, rfl, flatV, by decide, by decide⟩
  | 8, _ => exact ⟨2, _, 3, rfl, flatV, by decide, by decide⟩
  | 9, _ => exact ⟨3, _, 3, rfl, flatV, by decide, by decide⟩
  | 10, _ => exact ⟨3, _, 3, rfl, flatV, by decide, by decide⟩
  | 11, _ => exact ⟨3, _, 3, rfl, flatV, by decide, by decide⟩
  | 12, _ => exact ⟨4, _, 1, rfl, flatInt, by decide, by decide⟩
  | 13, _ => exact ⟨5, _, 1, rfl, flatInt, by decide, by decide⟩
  | 14, _ => exact ⟨6, _, 1, rfl, flatInt, by decide, by decide⟩
  | 15, _ => exact ⟨7, _, 1, rfl, flatInt, by decide, by decide⟩
  | p + 16, h => exact absurd h (by omega)
end Go.Proofs.Ytoalihdempcbjaa
