/- How an argument of a type that is laid out as whole numbers of 64 bits alone (a point, a box, an array of points) is opened: as a list of numbers, each within its bounds. -/
import Derived.Test.YtoalihdempcbjaaOwn
import Derived.ProofKit
import Derived.OpenShut
import Derived.Lib.SmallJoins
namespace Go.Proofs.Ytoalihdempcbjaa
open Go.RowKit Go.ChangeShapes Go.WideShapes
theorem i64_wf {x : Int} (h : (Lit.int .i64 x).wf = true) : I64 x := by
  have := bounds_i64 h
  unfold I64; omega
/-- A type that lies in memory as n numbers of 64 bits. -/
def Flat (P : Program) (t : TypeId) (n : Nat) : Prop := P.cellsOf t = n ∧ ∀ {H : Type} (enc : TypeId × Value → H) (w : World) (base : Nat) (spare : Nat → Bool) (held : Bool) (fuel : Nat) (cs : List Value) (x : DataW H × List MemPlace),
  DataW.trod enc P w base spare held fuel t cs = some x → cs.length = n ∧ ∀ c ∈ cs, ∃ v : Int, c = .int .i64 v ∧ I64 v
theorem Flat.int {P : Program} {t : TypeId} (ht : P.underlying t = some (.int .i64)) (hc : P.cellsOf t = 1) : Flat P t 1 := by
  refine ⟨hc, fun enc w base spare held fuel cs x h => ?_⟩
  obtain ⟨n, rfl, _, hw⟩ := DataW.trod_int ht h
  exact ⟨rfl, fun c hc => ⟨n, by simpa using hc, i64_wf hw⟩⟩
theorem Flat.of_pieces {cs : List Value} {n : Nat} (hl : cs.length = n) (h : ∀ p, p < n → ∃ o k, o ≤ p ∧ p < o + k ∧ ∀ c ∈ (cs.drop o).take k, ∃ v : Int, c = .int .i64 v ∧ I64 v) : ∀ c ∈ cs, ∃ v : Int, c = .int .i64 v ∧ I64 v := by
  intro c hc
  obtain ⟨p, hp, rfl⟩ := List.mem_iff_getElem.1 hc
  obtain ⟨o, k, h1, h2, h3⟩ := h p (by omega)
  refine h3 _ ?_
  rw [List.mem_iff_getElem?]
  refine ⟨p - o, ?_⟩
  rw [List.getElem?_take, if_pos (by omega), List.getElem?_drop, show o + (p - o) = p by omega, List.getElem?_eq_getElem hp]
theorem Flat.struct {P : Program} {t : TypeId} {fs : Array Field} {n : Nat} (ht : P.underlying t = some (.struct fs)) (hc : P.cellsOf t = n)
    (h : ∀ p, p < n → ∃ (i : Nat) (f : Field) (k : Nat), fs[i]? = some f ∧ Flat P f.type k ∧ f.offset ≤ p ∧ p < f.offset + k) : Flat P t n := by
  refine ⟨hc, fun enc w base spare held fuel cs x hx => ?_⟩
  obtain ⟨xs, m, rfl, _, hlen, hxs, hf⟩ := DataW.trod_struct ht hx
  have hl : cs.length = n := hlen.trans hc
  refine ⟨hl, Flat.of_pieces hl fun p hp => ?_⟩
  obtain ⟨i, f, k, hi, ⟨hck, hfl⟩, h1, h2⟩ := h p hp
  refine ⟨f.offset, k, h1, h2, ?_⟩
  have he := hf i f hi
  have hix : i < xs.length := by rw [hxs]; exact (Array.getElem?_eq_some_iff.1 hi).1
  rw [List.getElem?_eq_getElem hix, hck] at he
  exact (hfl enc w base spare held m _ _ he).2
theorem Flat.array {P : Program} {t e : TypeId} {n k : Nat} (ht : P.underlying t = some (.array n e)) (hc : P.cellsOf t = n * k) (hk : 0 < k) (he : Flat P e k) : Flat P t (n * k) := by
  refine ⟨hc, fun enc w base spare held fuel cs x hx => ?_⟩
  obtain ⟨xs, m, rfl, _, hlen, hxs, hf⟩ := DataW.trod_array ht hx
  have hl : cs.length = n * k := hlen.trans hc
  refine ⟨hl, Flat.of_pieces hl fun p hp => ?_⟩
  have hq : p / k < n := (Nat.div_lt_iff_lt_mul hk).2 hp
  refine ⟨p / k * k, k, Nat.div_mul_le_self p k, ?_, ?_⟩
  · have := Nat.lt_div_mul_add hk (a := p); omega
  · have hx := hf (p / k) hq
    rw [List.getElem?_eq_getElem (by omega), he.1] at hx
    exact (he.2 enc w base spare held m _ _ hx).2
theorem ints_of {cs : List Value} (h : ∀ c ∈ cs, ∃ v : Int, c = .int .i64 v ∧ I64 v) : ∃ xs : List Int, xs.length = cs.length ∧ cs = xs.map (Value.int .i64) ∧ ∀ x ∈ xs, I64 x := by
  induction cs with
  | nil => exact ⟨[], rfl, rfl, by simp⟩
  | cons c cs ih =>
    obtain ⟨xs, h1, h2, h3⟩ := ih fun c hc => h c (List.mem_cons_of_mem _ hc)
    obtain ⟨v, rfl, hv⟩ := h c List.mem_cons_self
    exact ⟨v :: xs, by simp [h1], by rw [List.map_cons, h2], fun x hx => by
      rcases List.mem_cons.1 hx with rfl | hx
      · exact hv
      · exact h3 x hx⟩
/-- An argument of such a type (a struct, an array), opened. -/
theorem open_flat {P : Program} {H : Type} {enc : TypeId × Value → H} {w : World} {base : Nat} {spare : Nat → Bool} {held : Bool} {r : Reach} {b0 : Nat} {t : TypeId} {n : Nat} {v : Value} {d : DataW H} {p : List MemPlace} (hf : Flat P t n)
    (hs : (∃ fs, P.underlying t = some (.struct fs)) ∨ (∃ m e, P.underlying t = some (.array m e))) (hv : Value.okWide P w r b0 t v) (h : DataW.Trod enc P w base spare held t v d p) :
    ∃ xs : List Int, xs.length = n ∧ v = .agg (xs.map (Value.int .i64)).toArray ∧ ∀ x ∈ xs, I64 x := by
  have ha : ∃ cs, v = .agg cs := by
    rcases hs with ⟨fs, hs⟩ | ⟨m, e, hs⟩ <;> simp only [Value.okWide, hs] at hv <;> obtain ⟨cs, h1, _⟩ := hv <;> exact ⟨cs, h1⟩
  obtain ⟨cs, rfl⟩ := ha
  obtain ⟨fuel, hx⟩ := h
  obtain ⟨hl, hc⟩ := hf.2 enc w base spare held fuel _ _ hx
  obtain ⟨xs, h1, h2, h3⟩ := ints_of hc
  refine ⟨xs, h1.trans hl, ?_, h3⟩
  have : cs.toList = xs.map (Value.int .i64) := h2
  rw [← this]
theorem list3 {α : Type} {l : List α} (h : l.length = 3) : ∃ a b c, l = [a, b, c] := by
  match l, h with
  | [a, b, c], _ => exact ⟨a, b, c, rfl⟩
theorem flatInt : Flat Try.prog 3 1 := .int Try.underlying3 (by kernel_rfl)
theorem flatV : Flat Try.prog 23 3 := by
  refine .struct Try.underlying23 (by kernel_rfl) fun p hp => ?_
  match p, hp with
  | 0, _ => exact ⟨0, _, 1, rfl, flatInt, by decide, by decide⟩
  | 1, _ => exact ⟨1, _, 1, rfl, flatInt, by decide, by decide⟩
  | 2, _ => exact ⟨2, _, 1, rfl, flatInt, by decide, by decide⟩
theorem flatI4 : Flat Try.prog 44 4 := .array (n := 4) (k := 1) Try.underlying44 (by kernel_rfl) (by decide) flatInt
/-- A point, opened. -/
theorem open_V {H : Type} {enc : TypeId × Value → H} {w : World} {base : Nat} {spare : Nat → Bool} {held : Bool} {r : Reach} {b0 : Nat} {v : Value} {d : DataW H} {p : List MemPlace}
    (hv : Value.okWide Try.prog w r b0 23 v) (h : DataW.Trod enc Try.prog w base spare held 23 v d p) : ∃ x y z, v = V3 x y z ∧ I64 x ∧ I64 y ∧ I64 z := by
  obtain ⟨xs, hl, rfl, hb⟩ := open_flat flatV (.inl ⟨_, Try.underlying23⟩) hv h
  obtain ⟨x, y, z, rfl⟩ := list3 hl
  exact ⟨x, y, z, rfl, hb x (by simp), hb y (by simp), hb z (by simp)⟩
theorem laidOut : laidOutB Try.prog = true := by kernel_rfl
theorem own : ownKnob Try.prog.godebug = none := by kernel_rfl
end Go.Proofs.Ytoalihdempcbjaa
