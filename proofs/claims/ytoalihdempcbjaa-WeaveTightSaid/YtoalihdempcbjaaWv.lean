/- weave's weaver in memory: what its block, its lists and its map hold; what putting a spot, a triangle, asking for a spot's number do. -/
import Derived.Test.YtoalihdempcbjaaWvK
import Derived.Test.YtoalihdempcbjaaVAnswers
import Derived.StillTailTactics
import Derived.Deep.RegionLaw
import Derived.Deep.AppendLies
import Derived.Maps.AppendAt
import Derived.Maps.OwnSet
namespace Go.Proofs.Ytoalihdempcbjaa
open Go.RowKit
open Go.Maps (Keyed)
set_option maxRecDepth 100000
set_option linter.unusedSimpArgs false
set_option linter.unusedVariables false
def c3 (t : T3) : List Value := [.int .i64 (t.1 : Int), .int .i64 (t.2.1 : Int), .int .i64 (t.2.2 : Int)]
def fl3 (l : List T3) : List Value := l.flatMap c3
theorem fl3_app (l m : List T3) : fl3 (l ++ m) = fl3 l ++ fl3 m := List.flatMap_append
theorem fl3_one (t : T3) : fl3 [t] = c3 t := by simp [fl3]
theorem fl3_len (l : List T3) : (fl3 l).length = l.length * 3 := by
  induction l with
  | nil => rfl
  | cons t l ih => show (c3 t ++ fl3 l).length = _; rw [List.length_append, ih]; simp [c3]; omega
theorem one3 (t : T3) : ∀ u ∈ c3 t, u.oneCell' = true := by
  intro u hu
  simp only [c3, List.mem_cons, List.not_mem_nil, or_false] at hu
  rcases hu with rfl | rfl | rfl <;> rfl
def Sps (w : World) (B : Nat) (v : Value) (n : Nat) (l : List T3) : Prop := w.ownsRow B 50 3 v n (fl3 l)
def Trs (w : World) (B : Nat) (v : Value) (n : Nat) (l : List T3) : Prop := w.ownsRow B 51 3 v n (fl3 l)
def MapS (w : World) (bm n : Nat) (D : Du) : Prop := w.ownsMap Try.prog 50 (plainElem Try.prog 3) bm n D
def cW (R : Rt) (sp : Value) (bm : Nat) (tp : Value) : Array Value := #[.int .i64 (R.r0 : Int), .int .i64 (R.r1 : Int), .int .i64 (R.r2 : Int), .int .i64 (R.r3 : Int), .int .i64 (R.m : Int), sp, .map (some bm), tp]
structure WvAt (w : World) (B b : Nat) (R : Rt) (n : Nat) (ts : List T3) (sp tp : Value) (bm : Nat) (D : Du) : Prop where
  cells : ∀ o, w.cell? ⟨b, o, none⟩ = (cW R sp bm tp)[o]?
  fro : ∀ o, w.frozen? ⟨b, o, none⟩ = false
  hBb : B ≤ b
  hBm : B ≤ bm
  nbm : bm ≠ b
  sps : Sps w B sp n ((spotsN R).take n)
  map : MapS w bm n D
  holds : HoldsN R n D
  trs : Trs w B tp ts.length ts
  nsb : sp.ownBlock ≠ some b
  ntb : tp.ownBlock ≠ some b
def Wv (w : World) (B b : Nat) (R : Rt) (n : Nat) (ts : List T3) : Prop := ∃ sp tp bm D, WvAt w B b R n ts sp tp bm D
theorem blk_sz {w : World} {b : Nat} {cs : Array Value} (hs : 0 < cs.size) (h : ∀ o, w.cell? ⟨b, o, none⟩ = cs[o]?) : b < w.heap.size := blk_lt hs h
theorem row_shape {w : World} {B n sz : Nat} {e : TypeId} {v : Value} {xs : List Value} (h : w.ownsRow B e sz v n xs) : ∃ p c, v = .slice p n c := by
  rcases h.2 with ⟨rfl, rfl⟩ | ⟨g, cap, cur, rfl, _⟩
  · exact ⟨_, _, rfl⟩
  · exact ⟨_, _, rfl⟩
/-- Two rows of unlike element types lie in unlike blocks. -/
theorem row_apart {w : World} {B B' n n' sz sz' : Nat} {e e' : TypeId} {v v' : Value} {xs xs' : List Value} (h : w.ownsRow B e sz v n xs) (k : w.ownsRow B' e' sz' v' n' xs') (he : e ≠ e') : v.ownBlock = none ∨ v.ownBlock ≠ v'.ownBlock := by
  rcases h.2 with ⟨rfl, _⟩ | ⟨g, cap, cur, rfl, _, hg, _⟩
  · exact .inl rfl
  · refine .inr fun e1 => ?_
    rcases k.2 with ⟨rfl, _⟩ | ⟨g', cap', cur', rfl, _, hg', _⟩
    · cases e1
    · have e2 : some g = some g' := e1
      rw [Option.some.inj e2, hg'] at hg
      simp only [Option.some.injEq, Obj.cells.injEq] at hg
      exact he hg.2.1.symm
theorem map_row {w : World} {B n sz bm m : Nat} {e : TypeId} {v : Value} {xs : List Value} {D : Du} (h : MapS w bm m D) (k : w.ownsRow B e sz v n xs) : some bm ≠ v.ownBlock := by
  obtain ⟨es, clock, hb, _⟩ := h
  intro e1
  rcases k.2 with ⟨rfl, _⟩ | ⟨g, cap, cur, rfl, _, hg, _⟩
  · cases e1
  · have e2 : some bm = some g := e1
    rw [← Option.some.inj e2, hb] at hg
    cases hg
theorem map_isMap {w : World} {bm n : Nat} {D : Du} (h : MapS w bm n D) : Maps.IsMap D := by
  obtain ⟨es, clock, _, _, _, rfl⟩ := h
  exact ⟨_, rfl⟩
theorem wv_below {w w' : World} {B b : Nat} {R : Rt} {n : Nat} {ts : List T3} {sp tp : Value} {bm : Nat} {D : Du} (h : WvAt w B b R n ts sp tp bm D) (hb : Below w.heap.size w w') : WvAt w' B b R n ts sp tp bm D where
  cells := blk_later (by simp [cW]) hb h.cells
  fro := fro_call hb h.fro (blk_sz (by simp [cW]) h.cells)
  hBb := h.hBb
  hBm := h.hBm
  nbm := h.nbm
  sps := World.ownsRow.kept h.sps (below_gb hb) (Classical.em _)
  map := World.ownsMap.kept h.map (below_gb hb) (by simp)
  holds := h.holds
  trs := World.ownsRow.kept h.trs (below_gb hb) (Classical.em _)
  nsb := h.nsb
  ntb := h.ntb
theorem infoS : ∃ i, Try.prog.info? 50 = some i ∧ i.zero = some (.agg #[.int .i64 0, .int .i64 0, .int .i64 0]) ∧ i.size = 3 ∧ i.bytes = 24 := ⟨_, rfl, rfl, rfl, rfl⟩
theorem info3 : ∃ i, Try.prog.info? 51 = some i ∧ i.zero = some (.agg #[.int .i64 0, .int .i64 0, .int .i64 0]) ∧ i.size = 3 ∧ i.bytes = 24 := ⟨_, rfl, rfl, rfl, rfl⟩
theorem some_ne {a b : Nat} (h : a ≠ b) : (some a : Option Nat) ≠ some b := fun e => h (Option.some.inj e)
theorem own_lt_ne {v : Value} {S : Nat} (h : ∀ k, v.ownBlock = some k → k < S) : (some S : Option Nat) ≠ v.ownBlock := fun e => Nat.lt_irrefl _ (h _ e.symm)
theorem gb_set1 (w : World) (b i : Nat) (v : Value) : w.grownBy (w.setCell ⟨b, i, none⟩ v) (some b) :=
  ⟨rfl, rfl, rfl, Nat.le_of_eq (World.size_setCell _ _ _).symm, fun k _ hne => Below.heap_setCell w _ v k (fun e => hne (by rw [e]))⟩
theorem gb_more {w w1 : World} (o : Obj) (r : Option Nat) (h : (w.alloc o).grownBy w1 r) : w.grownBy w1 r := World.grownBy.andThen (World.grownBy_alloc w o r) h (fun j e => .inr e)
theorem row_two {w w2 : World} {o o' : Obj} {r : Option Nat} {B n sz : Nat} {e : TypeId} {v : Value} {xs : List Value} (h : w.ownsRow B e sz v n xs) (g : (w.alloc o).drew.grownBy w2 r) (hne : v.ownBlock = none ∨ v.ownBlock ≠ r) : (w2.drew.alloc o').ownsRow B e sz v n xs := by
  have G : w.grownBy w2 r := gb_more o _ (show (w.alloc o).grownBy w2 r from ⟨g.os, g.tape, g.output, g.size, g.block⟩)
  have k : w2.ownsRow B e sz v n xs := World.ownsRow.kept h G hne
  have k2 : w2.drew.ownsRow B e sz v n xs := k
  exact World.ownsRow.alloc k2 o'
theorem le_alloc {B : Nat} {w : World} {o : Obj} (h : B ≤ w.heap.size) : B ≤ (w.alloc o).drew.heap.size := by
  show B ≤ (w.alloc o).heap.size
  rw [World.size_alloc]; omega
/-- What putting a spot has done: the map, then the list, then the block's cell. -/
theorem spot_end {w w2 w5 : World} {B b n c bm g cap : Nat} {R : Rt} {ts : List T3} {p : Option Addr} {tp : Value} {D : Du} {s : T3} {o1 o2 : Obj} (hR : R.ok) (h : WvAt w B b R n ts (.slice p n c) tp bm D) (hs : vs R s) (hn : nm R s = n)
    (m2 : MapS w2 bm (n + 1) (D.put (klS s) (.lit (.int .i64 (n : Int))))) (g2 : (w.alloc o1).drew.grownBy w2 (some bm))
    (k1 : w5.ownsRow B 50 3 (.slice (some ⟨g, 0, none⟩) (n + 1) cap) (n + 1) (fl3 ((spotsN R).take n) ++ c3 s)) (k2 : (w2.drew.alloc o2).grownBy w5 (Value.slice p n c).ownBlock) (k3 : (Value.slice p n c).ownBlock = some g ∨ w2.heap.size ≤ g) :
    Wv (w5.setCell ⟨b, 5, none⟩ (.slice (some ⟨g, 0, none⟩) (n + 1) cap)) B b R (n + 1) ts ∧ Below B w (w5.setCell ⟨b, 5, none⟩ (.slice (some ⟨g, 0, none⟩) (n + 1) cap)) := by
  have hb : b < w.heap.size := blk_sz (by simp [cW]) h.cells
  have G2 : w.grownBy w2 (some bm) := gb_more o1 _ (show (w.alloc o1).grownBy w2 (some bm) from ⟨g2.os, g2.tape, g2.output, g2.size, g2.block⟩)
  have K2 : w2.grownBy w5 (Value.slice p n c).ownBlock := gb_more o2 _ (show (w2.alloc o2).grownBy w5 _ from ⟨k2.os, k2.tape, k2.output, k2.size, k2.block⟩)
  have hb2 : b < w2.heap.size := Nat.lt_of_lt_of_le hb G2.size
  have hgb : g ≠ b := by
    rcases k3 with k3 | k3
    · intro e; subst e; exact h.nsb k3
    · omega
  have nbm : some bm ≠ some b := some_ne h.nbm
  have s1 : w2.ownsRow B 50 3 (.slice p n c) n (fl3 ((spotsN R).take n)) := World.ownsRow.kept h.sps G2 (.inr fun e => (map_row h.map h.sps) e.symm)
  have t1 : Trs w2 B tp ts.length ts := World.ownsRow.kept h.trs G2 (.inr fun e => (map_row h.map h.trs) e.symm)
  have t2 : Trs w5 B tp ts.length ts := World.ownsRow.kept t1 K2 (row_apart t1 s1 (by decide))
  have m3 : MapS w5 bm (n + 1) (D.put (klS s) (.lit (.int .i64 (n : Int)))) := World.ownsMap.kept m2 K2 (map_row m2 s1)
  have C2 : ∀ o, w2.cell? ⟨b, o, none⟩ = (cW R (.slice p n c) bm tp)[o]? := fun o => (World.grownBy.cell_far G2 ⟨b, o, none⟩ hb nbm.symm).trans (h.cells o)
  have C5 : ∀ o, w5.cell? ⟨b, o, none⟩ = (cW R (.slice p n c) bm tp)[o]? := fun o => (World.grownBy.cell_far K2 ⟨b, o, none⟩ hb2 (fun e => h.nsb e.symm)).trans (C2 o)
  have F2 : ∀ o, w2.frozen? ⟨b, o, none⟩ = false := fun o => (World.grownBy.frozen_far G2 ⟨b, o, none⟩ hb nbm.symm).trans (h.fro o)
  have F5 : ∀ o, w5.frozen? ⟨b, o, none⟩ = false := fun o => (World.grownBy.frozen_far K2 ⟨b, o, none⟩ hb2 (fun e => h.nsb e.symm)).trans (F2 o)
  have GS := gb_set1 w5 b 5 (.slice (some ⟨g, 0, none⟩) (n + 1) cap)
  refine ⟨⟨.slice (some ⟨g, 0, none⟩) (n + 1) cap, tp, bm, D.put (klS s) (.lit (.int .i64 (n : Int))), ?_⟩, ?_⟩
  · exact
      { cells := st_blk C5 5 _ (by simp [cW])
        fro := fun o => (World.frozen?_setCell _ _ _ _).trans (F5 o)
        hBb := h.hBb
        hBm := h.hBm
        nbm := h.nbm
        sps := by
          rw [Sps, ← hn, spots_next R hR s hs, fl3_app, fl3_one, hn]
          exact World.ownsRow.kept k1 GS (.inr (some_ne hgb))
        map := World.ownsMap.kept m3 GS nbm
        holds := holds_next hR h.holds (map_isMap h.map) hs hn
        trs := World.ownsRow.kept t2 GS (.inr h.ntb)
        nsb := some_ne hgb
        ntb := h.ntb }
  · have h1 := Below.grown (Below.refl B w) G2 (Nat.le_trans h.hBb (Nat.le_of_lt hb)) (fun k e => by cases e; exact h.hBm)
    have h2 := Below.grown h1 K2 (Nat.le_trans h.hBb (Nat.le_of_lt hb2)) (fun k e => (World.ownsRow.lt h.sps k e).1)
    exact Below.setCell h2 h.hBb _
theorem step_mapS {ops : Array Oper} {o : Oper} {a : Act} {w : World} {K : Act → World → Prop} {Q : Exit → Act → World → Prop} {E : Prop} (hgd : o.guard = none) (m x v : Operand) (hop : o.op = Op.mapUpdate 65 m x v) (bm n : Nat) (D : Du)
    (hm : a.eval m = .map (some bm)) (hown : MapS w bm n D) (hn : n < 1000) (s : T3) (hsm : smS s) (hx : a.eval x = V3n s) (hv : a.eval v = .int .i64 (n : Int))
    (hK : ∀ w', MapS w' bm (n + 1) (D.put (klS s) (.lit (.int .i64 (n : Int)))) → w.grownBy w' (some bm) → K (a.put o.dst undef) w') :
    if Region.wanted o (yielded ops a.tmps) = true then Oper.wp Try.prog o a w K Q else E := by
  have hw : Region.wanted o (yielded ops a.tmps) = true := by simp [Region.wanted, hgd]
  rw [if_pos hw]
  obtain ⟨w', hrun, r1, r2⟩ := hown.update lawS Try.underlying65 (by unfold maxLen; omega) (keyOf_S s hsm) (plainElem_int Try.underlying3 (wfn (n := n) (by omega)))
  unfold Oper.wp
  simp [execOp, hop, hm, hx, hv, hrun, Result.andThen]
  exact hK w' r1 r2
set_option maxHeartbeats 2000000 in
theorem spot_any (B b : Nat) (R : Rt) (hR : R.ok) (s : T3) (hs : vs R s) (n : Nat) (hn : nm R s = n) (ts : List T3) (w : World) (h : Wv w B b R n ts) :
    Calls Try.prog 44 #[.pointer (some ⟨b, 0, none⟩), .int .i64 (s.1 : Int), .int .i64 (s.2.1 : Int), .int .i64 (s.2.2 : Int)] w fun e w' => e = .returned (.tuple #[]) ∧ Wv w' B b R (n + 1) ts ∧ Below B w w' := by
  obtain ⟨sp, tp, bm, D, h⟩ := h
  obtain ⟨p, c, rfl⟩ := row_shape h.sps
  have hsm := vs_sm hR hs
  obtain ⟨x, y, z⟩ := s
  have HC := h.cells
  have HF := h.fro
  have HH := Lib.hid h
  have hlt := blk_sz (by simp [cW]) h.cells
  have HS := Lib.hid hs
  have HN := Lib.hid hn
  have HM := Lib.hid hsm
  have HNL := Lib.hid (show n ≤ 289 from by rw [← hn]; exact Nat.le_of_lt (Nat.lt_of_lt_of_le (nm_lt R hR _ hs) (spots_le R hR)))
  unfold cW at HC
  clear h hs hn hsm
  go_enter Try.func44, Try.ntmps44
  go_wp2_with fail
  -- REGION 1
  have NB : w.heap.size ≠ b := by omega
  have LB : b < (w.alloc (.cells (#[.int .i64 (x : Int), .int .i64 (y : Int), .int .i64 (z : Int)] : Array Value) 50)).heap.size := by rw [World.size_alloc]; omega
  have HP1 := Lib.hid (show MapS (w.alloc (.cells (#[.int .i64 (x : Int), .int .i64 (y : Int), .int .i64 (z : Int)] : Array Value) 50)).drew bm n D from World.ownsMap.alloc HH.out.map _)
  have HBM := Lib.hid (show bm < w.heap.size from World.ownsMap.lt HH.out.map)
  refine wp_region_held_drew (S := (fun w' => (∀ o, w'.cell? ⟨b, o, none⟩ = (#[.int .i64 (R.r0 : Int), .int .i64 (R.r1 : Int), .int .i64 (R.r2 : Int), .int .i64 (R.r3 : Int), .int .i64 (R.m : Int), .slice p n c, .map (some bm), tp] : Array Value)[o]?) ∧ (∀ o, w'.cell? ⟨w.heap.size, o, none⟩ = (#[.int .i64 (x : Int), .int .i64 (y : Int), .int .i64 (z : Int)] : Array Value)[o]?))) (by kernel_rfl) ?_ (fun hHeld => ?_)
  · (try dsimp only); (exact ⟨blk_alloc (by simp) _ HC, new_at rfl _ _⟩)
  refine wpAnyH_take (i := 0) (oi := { dst := some 13, op := Go.Op.move (Go.Operand.tmp 0), type := 64, pos := "weave.go:24", after := #[], guard := none }) (v := ?_) rfl (by kernel_rfl) (by kernel_rfl) (by kernel_rfl) (fun _ _ _ h => h) (Or.inl ⟨by rfl, ?_⟩) (by assumption) ?_
  rotate_left
  · intro w hSw; (try dsimp only at hSw); go_simp; (try with_reducible rfl)
  try simp only [Act.put, List.setIfInBounds_toArray, List.set_cons_zero, List.set_cons_succ]
  refine wpAnyH_take (i := 1) (oi := { dst := some 14, op := Go.Op.nilCheck (Go.Operand.tmp 13), type := 0, pos := "weave.go:24", after := #[{ on := 0, ground := Go.Ground.data }], guard := none }) (v := ?_) rfl (by kernel_rfl) (by kernel_rfl) (by kernel_rfl) (fun _ _ _ h => h) (Or.inl ⟨by rfl, ?_⟩) (by assumption) ?_
  rotate_left
  · intro w hSw; (try dsimp only at hSw); go_simp; (try with_reducible rfl)
  try simp only [Act.put, List.setIfInBounds_toArray, List.set_cons_zero, List.set_cons_succ]
  refine wpAnyH_take (i := 2) (oi := { dst := some 15, op := Go.Op.fieldAddr 67 (Go.Operand.tmp 14) 3, type := 0, pos := "weave.go:24", after := #[{ on := 1, ground := Go.Ground.data }], guard := none }) (v := ?_) rfl (by kernel_rfl) (by kernel_rfl) (by kernel_rfl) (fun _ _ _ h => h) (Or.inl ⟨by rfl, ?_⟩) (by assumption) ?_
  rotate_left
  · intro w hSw; (try dsimp only at hSw); go_simp; (try with_reducible rfl)
  try simp only [Act.put, List.setIfInBounds_toArray, List.set_cons_zero, List.set_cons_succ]
  refine wpAnyH_take (i := 3) (oi := { dst := some 16, op := Go.Op.load 65 (Go.Operand.tmp 15), type := 65, pos := "weave.go:24", after := #[{ on := 2, ground := Go.Ground.data }], guard := none }) (v := ?_) rfl (by kernel_rfl) (by kernel_rfl) (by kernel_rfl) (fun _ _ _ h => h) (Or.inl ⟨by rfl, ?_⟩) (by assumption) ?_
  rotate_left
  · intro w hSw; (try dsimp only at hSw); go_simp; (try with_reducible rfl)
  try simp only [Act.put, List.setIfInBounds_toArray, List.set_cons_zero, List.set_cons_succ]
  refine wpAnyH_take (i := 4) (oi := { dst := some 17, op := Go.Op.load 50 (Go.Operand.tmp 8), type := 50, pos := "weave.go:24", after := #[], guard := none }) (v := ?_) rfl (by kernel_rfl) (by kernel_rfl) (by kernel_rfl) (fun _ _ _ h => h) (Or.inl ⟨by rfl, ?_⟩) (by assumption) ?_
  rotate_left
  · intro w hSw; (try dsimp only at hSw); go_simp; (try with_reducible rfl)
  try simp only [Act.put, List.setIfInBounds_toArray, List.set_cons_zero, List.set_cons_succ]
  refine wpAnyH_take (i := 5) (oi := { dst := some 18, op := Go.Op.move (Go.Operand.tmp 0), type := 64, pos := "weave.go:24", after := #[], guard := none }) (v := ?_) rfl (by kernel_rfl) (by kernel_rfl) (by kernel_rfl) (fun _ _ _ h => h) (Or.inl ⟨by rfl, ?_⟩) (by assumption) ?_
  rotate_left
  · intro w hSw; (try dsimp only at hSw); go_simp; (try with_reducible rfl)
  try simp only [Act.put, List.setIfInBounds_toArray, List.set_cons_zero, List.set_cons_succ]
  refine wpAnyH_take (i := 6) (oi := { dst := some 19, op := Go.Op.nilCheck (Go.Operand.tmp 18), type := 0, pos := "weave.go:24", after := #[{ on := 5, ground := Go.Ground.data }], guard := none }) (v := ?_) rfl (by kernel_rfl) (by kernel_rfl) (by kernel_rfl) (fun _ _ _ h => h) (Or.inl ⟨by rfl, ?_⟩) (by assumption) ?_
  rotate_left
  · intro w hSw; (try dsimp only at hSw); go_simp; (try with_reducible rfl)
  try simp only [Act.put, List.setIfInBounds_toArray, List.set_cons_zero, List.set_cons_succ]
  refine wpAnyH_take (i := 7) (oi := { dst := some 20, op := Go.Op.fieldAddr 67 (Go.Operand.tmp 19) 2, type := 0, pos := "weave.go:24", after := #[{ on := 6, ground := Go.Ground.data }], guard := none }) (v := ?_) rfl (by kernel_rfl) (by kernel_rfl) (by kernel_rfl) (fun _ _ _ h => h) (Or.inl ⟨by rfl, ?_⟩) (by assumption) ?_
  rotate_left
  · intro w hSw; (try dsimp only at hSw); go_simp; (try with_reducible rfl)
  try simp only [Act.put, List.setIfInBounds_toArray, List.set_cons_zero, List.set_cons_succ]
  refine wpAnyH_take (i := 8) (oi := { dst := some 21, op := Go.Op.load 45 (Go.Operand.tmp 20), type := 45, pos := "weave.go:24", after := #[{ on := 7, ground := Go.Ground.data }], guard := none }) (v := ?_) rfl (by kernel_rfl) (by kernel_rfl) (by kernel_rfl) (fun _ _ _ h => h) (Or.inl ⟨by rfl, ?_⟩) (by assumption) ?_
  rotate_left
  · intro w hSw; (try dsimp only at hSw); go_simp; (try with_reducible rfl)
  try simp only [Act.put, List.setIfInBounds_toArray, List.set_cons_zero, List.set_cons_succ]
  refine wpAnyH_take (i := 9) (oi := { dst := some 22, op := Go.Op.call { callee := Go.Callee.builtin Go.Builtin.len, args := #[Go.Operand.tmp 21], argTypes := #[45] }, type := 3, pos := "weave.go:24", after := #[{ on := 8, ground := Go.Ground.data }], guard := none }) (v := ?_) rfl (by kernel_rfl) (by kernel_rfl) (by kernel_rfl) (fun _ _ _ h => h) (Or.inl ⟨by rfl, ?_⟩) (by assumption) ?_
  rotate_left
  · intro w hSw; (try dsimp only at hSw); go_simp; (try with_reducible rfl)
  try simp only [Act.put, List.setIfInBounds_toArray, List.set_cons_zero, List.set_cons_succ]
  refine wpAnyH_ready (rs := [10]) (by kernel_rfl) (by simp) ?_
  refine AllReadyH.cons (o := { dst := none, op := Go.Op.mapUpdate 65 (Go.Operand.tmp 16) (Go.Operand.tmp 17) (Go.Operand.tmp 22), type := 0, pos := "weave.go:24", after := #[{ on := 3, ground := Go.Ground.data }, { on := 4, ground := Go.Ground.data }, { on := 9, ground := Go.Ground.data }, { on := 0, ground := Go.Ground.phase }, { on := 1, ground := Go.Ground.phase }, { on := 2, ground := Go.Ground.phase }, { on := 3, ground := Go.Ground.phase }, { on := 4, ground := Go.Ground.phase }, { on := 5, ground := Go.Ground.phase }, { on := 6, ground := Go.Ground.phase }, { on := 7, ground := Go.Ground.phase }, { on := 8, ground := Go.Ground.phase }, { on := 9, ground := Go.Ground.phase }], guard := none }) rfl (fun K hK => ?_) AllReadyH.nil
  refine step_mapS rfl _ _ _ rfl bm n D rfl HP1.out (by have := HNL.out; omega) (x, y, z) HM.out rfl rfl (fun w2 m2 g2 => ?_)
  refine hK.out _ _ ?_ (fun hHeld10 => ?_)
  · (try dsimp only); (exact ⟨fun o => (World.grownBy.cell_far g2 ⟨b, o, none⟩ LB (some_ne (Ne.symm HH.out.nbm))).trans (hHeld.1 o), fun o => (World.grownBy.cell_far g2 ⟨w.heap.size, o, none⟩ (lt_new rfl) (some_ne (by have := HBM.out; show w.heap.size ≠ bm; omega))).trans (hHeld.2 o)⟩)
  clear hK K hHeld
  try simp only [Act.put, List.setIfInBounds_toArray, List.set_cons_zero, List.set_cons_succ]
  refine wpAnyH_done (by kernel_rfl) ?_ _
  have HC2 : ∀ o, w2.cell? ⟨b, o, none⟩ = (#[.int .i64 (R.r0 : Int), .int .i64 (R.r1 : Int), .int .i64 (R.r2 : Int), .int .i64 (R.r3 : Int), .int .i64 (R.m : Int), .slice p n c, .map (some bm), tp] : Array Value)[o]? := hHeld10.1
  have SB2 : ∀ o, w2.cell? ⟨w.heap.size, o, none⟩ = (#[.int .i64 (x : Int), .int .i64 (y : Int), .int .i64 (z : Int)] : Array Value)[o]? := hHeld10.2
  have M2 := Lib.hid m2
  have G2 := Lib.hid g2
  have LB2 : b < w2.heap.size := blk_lt (by simp) HC2
  have LS2 : w.heap.size < w2.heap.size := blk_lt (by simp) SB2
  have HF2 : ∀ o, w2.frozen? ⟨b, o, none⟩ = false := fun o => (World.grownBy.frozen_far g2 ⟨b, o, none⟩ LB (some_ne (Ne.symm HH.out.nbm))).trans (fro_more (by omega) _ HH.out.fro o)
  have SP2 := Lib.hid (show (w2.drew.alloc (.cells (#[.int .i64 (x : Int), .int .i64 (y : Int), .int .i64 (z : Int)] : Array Value) 50)).ownsRow B 50 3 (.slice p n c) n (fl3 ((spotsN R).take n)) from row_two HH.out.sps g2 (.inr fun e => (map_row HH.out.map HH.out.sps) e.symm))
  have SPL := Lib.hid (own_lt_ne (v := .slice p n c) (S := w.heap.size) (fun k e => (World.ownsRow.lt HH.out.sps k e).2))
  have SL := Lib.hid (show (Value.slice p n c).ownBlock ≠ some b from HH.out.nsb)
  have hB2 : B ≤ w2.heap.size := Nat.le_trans HH.out.hBb (Nat.le_of_lt LB2)
  clear hHeld10 m2 g2 HC HF LB
  go_wp2_with fail
  obtain ⟨i0, ji, jz0, jz1, jz2⟩ := infoS
  refine wp_region_held_drew (S := (fun w' => ∀ o, w'.cell? ⟨w.heap.size, o, none⟩ = (#[.int .i64 (x : Int), .int .i64 (y : Int), .int .i64 (z : Int)] : Array Value)[o]?)) (by kernel_rfl) ?_ (fun hHeld => ?_)
  · (try dsimp only); (exact SB2)
  refine wpAnyH_take (i := 0) (oi := { dst := some 23, op := Go.Op.move (Go.Operand.tmp 0), type := 64, pos := "weave.go:25", after := #[], guard := none }) (v := ?_) rfl (by kernel_rfl) (by kernel_rfl) (by kernel_rfl) (fun _ _ _ h => h) (Or.inl ⟨by rfl, ?_⟩) (by assumption) ?_
  rotate_left
  · intro w hSw; (try dsimp only at hSw); go_simp; (try with_reducible rfl)
  try simp only [Act.put, List.setIfInBounds_toArray, List.set_cons_zero, List.set_cons_succ]
  refine wpAnyH_take (i := 1) (oi := { dst := some 24, op := Go.Op.move (Go.Operand.tmp 0), type := 64, pos := "weave.go:25", after := #[], guard := none }) (v := ?_) rfl (by kernel_rfl) (by kernel_rfl) (by kernel_rfl) (fun _ _ _ h => h) (Or.inl ⟨by rfl, ?_⟩) (by assumption) ?_
  rotate_left
  · intro w hSw; (try dsimp only at hSw); go_simp; (try with_reducible rfl)
  try simp only [Act.put, List.setIfInBounds_toArray, List.set_cons_zero, List.set_cons_succ]
  refine wpAnyH_take (i := 2) (oi := { dst := some 25, op := Go.Op.nilCheck (Go.Operand.tmp 24), type := 0, pos := "weave.go:25", after := #[{ on := 1, ground := Go.Ground.data }], guard := none }) (v := ?_) rfl (by kernel_rfl) (by kernel_rfl) (by kernel_rfl) (fun _ _ _ h => h) (Or.inl ⟨by rfl, ?_⟩) (by assumption) ?_
  rotate_left
  · intro w hSw; (try dsimp only at hSw); go_simp; (try with_reducible rfl)
  try simp only [Act.put, List.setIfInBounds_toArray, List.set_cons_zero, List.set_cons_succ]
  refine wpAnyH_take (i := 3) (oi := { dst := some 26, op := Go.Op.fieldAddr 67 (Go.Operand.tmp 25) 2, type := 0, pos := "weave.go:25", after := #[{ on := 2, ground := Go.Ground.data }], guard := none }) (v := ?_) rfl (by kernel_rfl) (by kernel_rfl) (by kernel_rfl) (fun _ _ _ h => h) (Or.inl ⟨by rfl, ?_⟩) (by assumption) ?_
  rotate_left
  · intro w hSw; (try dsimp only at hSw); go_simp; (try with_reducible rfl)
  try simp only [Act.put, List.setIfInBounds_toArray, List.set_cons_zero, List.set_cons_succ]
  refine wpAnyH_take (i := 5) (oi := { dst := some 28, op := Go.Op.load 50 (Go.Operand.tmp 8), type := 50, pos := "weave.go:25", after := #[], guard := none }) (v := ?_) rfl (by kernel_rfl) (by kernel_rfl) (by kernel_rfl) (fun _ _ _ h => h) (Or.inl ⟨by rfl, ?_⟩) (by assumption) ?_
  rotate_left
  · intro w hSw; (try dsimp only at hSw); go_simp; (try with_reducible rfl)
  try simp only [Act.put, List.setIfInBounds_toArray, List.set_cons_zero, List.set_cons_succ]
  refine wpAnyH_ready (rs := [4, 6]) (by kernel_rfl) (by simp) ?_
  refine AllReadyH.cons (o := { dst := some 27, op := Go.Op.load 45 (Go.Operand.tmp 26), type := 45, pos := "weave.go:25", after := #[{ on := 3, ground := Go.Ground.data }], guard := none }) rfl (fun K hK => ?_) ?_
  · go_simp
    skip
    refine hK.out _ _ ?_ (fun hHeld4 => ?_)
    · (try dsimp only); (exact hHeld)
    clear hK K hHeld
    try simp only [Act.put, List.setIfInBounds_toArray, List.set_cons_zero, List.set_cons_succ]
    refine wpAnyH_ready (rs := [6]) (by kernel_rfl) (by simp) ?_
    refine AllReadyH.cons (o := { dst := some 29, op := Go.Op.buildSlice 45 1 #[(0, Go.Operand.tmp 28)], type := 45, pos := "weave.go:25", after := #[{ on := 5, ground := Go.Ground.data }], guard := none }) rfl (fun K hK => ?_) AllReadyH.nil
    go_simp
    skip
    refine hK.out _ _ ?_ (fun hHeld6 => ?_)
    · (try dsimp only); (exact blk_alloc (by simp) _ hHeld4)
    clear hK K hHeld4
    try simp only [Act.put, List.setIfInBounds_toArray, List.set_cons_zero, List.set_cons_succ]
    refine wpAnyH_ready (rs := [7]) (by kernel_rfl) (by simp) ?_
    refine AllReadyH.cons (o := { dst := some 30, op := Go.Op.call { callee := Go.Callee.builtin Go.Builtin.append, args := #[Go.Operand.tmp 27, Go.Operand.tmp 29], argTypes := #[45, 45] }, type := 45, pos := "weave.go:25", after := #[{ on := 4, ground := Go.Ground.data }, { on := 6, ground := Go.Ground.data }], guard := none }) rfl (fun K hK => ?_) AllReadyH.nil
    refine step_append_lies _ rfl (.tmp 27) (.tmp 29) 45 rfl B 50 i0 (.agg #[.int .i64 0, .int .i64 0, .int .i64 0]) 3 24 Try.underlying45 ji jz0 jz1 jz2 rfl (by decide) (.slice p n c) n (fl3 ((spotsN R).take n)) rfl SP2.out ⟨w2.heap.size, 0, none⟩ 1 1 (c3 (x, y, z)) rfl rfl (news_alloc w2.drew w2.heap.size rfl _ _) (one3 _) (by omega) (by have := HNL.out; unfold maxLen; omega) (by have := HNL.out; omega) (le_alloc hB2) _ rfl (fun g cap w5 k1 k2 k3 k4 => ?_); have HC5 : ∀ o, w5.cell? ⟨b, o, none⟩ = (#[.int .i64 (R.r0 : Int), .int .i64 (R.r1 : Int), .int .i64 (R.r2 : Int), .int .i64 (R.r3 : Int), .int .i64 (R.m : Int), .slice p n c, .map (some bm), tp] : Array Value)[o]? := (fun o => (World.grownBy.cell_far k2 ⟨b, o, none⟩ (lt_here LB2) (fun e => SL.out e.symm)).trans (blk_alloc (by simp) _ HC2 o)); have HF5 : ∀ o, w5.frozen? ⟨b, o, none⟩ = false := (fun o => (World.grownBy.frozen_far k2 ⟨b, o, none⟩ (lt_here LB2) (fun e => SL.out e.symm)).trans (fro_more (W := w2.drew) LB2 _ HF2 o))
    refine hK.out _ _ ?_ (fun hHeld7 => ?_)
    · (try dsimp only); (exact fun o => (World.grownBy.cell_far k2 ⟨w.heap.size, o, none⟩ (lt_here LS2) SPL.out).trans (hHeld6 o))
    clear hK K hHeld6
    try simp only [Act.put, List.setIfInBounds_toArray, List.set_cons_zero, List.set_cons_succ]
    refine wpAnyH_take (i := 8) (oi := { dst := some 31, op := Go.Op.nilCheck (Go.Operand.tmp 23), type := 0, pos := "weave.go:25", after := #[{ on := 0, ground := Go.Ground.data }, { on := 0, ground := Go.Ground.phase }, { on := 1, ground := Go.Ground.phase }, { on := 2, ground := Go.Ground.phase }, { on := 3, ground := Go.Ground.phase }, { on := 4, ground := Go.Ground.phase }, { on := 5, ground := Go.Ground.phase }, { on := 6, ground := Go.Ground.phase }, { on := 7, ground := Go.Ground.phase }], guard := none }) (v := ?_) rfl (by kernel_rfl) (by kernel_rfl) (by kernel_rfl) (fun _ _ _ h => h) (Or.inl ⟨by rfl, ?_⟩) (by assumption) ?_
    rotate_left
    · intro w hSw; (try dsimp only at hSw); go_simp; (try with_reducible rfl)
    try simp only [Act.put, List.setIfInBounds_toArray, List.set_cons_zero, List.set_cons_succ]
    refine wpAnyH_take (i := 9) (oi := { dst := some 32, op := Go.Op.fieldAddr 67 (Go.Operand.tmp 31) 2, type := 0, pos := "weave.go:25", after := #[{ on := 8, ground := Go.Ground.data }, { on := 0, ground := Go.Ground.phase }, { on := 1, ground := Go.Ground.phase }, { on := 2, ground := Go.Ground.phase }, { on := 3, ground := Go.Ground.phase }, { on := 4, ground := Go.Ground.phase }, { on := 5, ground := Go.Ground.phase }, { on := 6, ground := Go.Ground.phase }, { on := 7, ground := Go.Ground.phase }], guard := none }) (v := ?_) rfl (by kernel_rfl) (by kernel_rfl) (by kernel_rfl) (fun _ _ _ h => h) (Or.inl ⟨by rfl, ?_⟩) (by assumption) ?_
    rotate_left
    · intro w hSw; (try dsimp only at hSw); go_simp; (try with_reducible rfl)
    try simp only [Act.put, List.setIfInBounds_toArray, List.set_cons_zero, List.set_cons_succ]
    refine wpAnyH_ready (rs := [10]) (by kernel_rfl) (by simp) ?_
    refine AllReadyH.cons (o := { dst := none, op := Go.Op.store 45 (Go.Operand.tmp 32) (Go.Operand.tmp 30), type := 0, pos := "weave.go:25", after := #[{ on := 9, ground := Go.Ground.data }, { on := 7, ground := Go.Ground.data }, { on := 7, ground := Go.Ground.chain }, { on := 0, ground := Go.Ground.phase }, { on := 1, ground := Go.Ground.phase }, { on := 2, ground := Go.Ground.phase }, { on := 3, ground := Go.Ground.phase }, { on := 4, ground := Go.Ground.phase }, { on := 5, ground := Go.Ground.phase }, { on := 6, ground := Go.Ground.phase }, { on := 7, ground := Go.Ground.phase }], guard := none }) rfl (fun K hK => ?_) AllReadyH.nil
    go_simp
    skip
    refine hK.out _ _ ?_ (fun hHeld10 => ?_)
    · (try dsimp only); (exact st_far (by omega) hHeld7)
    clear hK K hHeld7
    try simp only [Act.put, List.setIfInBounds_toArray, List.set_cons_zero, List.set_cons_succ]
    refine wpAnyH_done (by kernel_rfl) ?_ _
    have KK := Lib.hid (spot_end hR HH.out HS.out HN.out M2.out G2.out k1 k2 (k3.imp id (fun e => by rw [e]; exact le_alloc (Nat.le_refl _))))
    clear k1 k2 k3 k4
    go_wp2_with fail
    go_end0
    exact ⟨rfl, KK.out⟩
  refine AllReadyH.cons (o := { dst := some 29, op := Go.Op.buildSlice 45 1 #[(0, Go.Operand.tmp 28)], type := 45, pos := "weave.go:25", after := #[{ on := 5, ground := Go.Ground.data }], guard := none }) rfl (fun K hK => ?_) ?_
  · go_simp
    skip
    refine hK.out _ _ ?_ (fun hHeld6 => ?_)
    · (try dsimp only); (exact blk_alloc (by simp) _ hHeld)
    clear hK K hHeld
    try simp only [Act.put, List.setIfInBounds_toArray, List.set_cons_zero, List.set_cons_succ]
    refine wpAnyH_ready (rs := [4]) (by kernel_rfl) (by simp) ?_
    refine AllReadyH.cons (o := { dst := some 27, op := Go.Op.load 45 (Go.Operand.tmp 26), type := 45, pos := "weave.go:25", after := #[{ on := 3, ground := Go.Ground.data }], guard := none }) rfl (fun K hK => ?_) AllReadyH.nil
    go_simp
    skip
    refine hK.out _ _ ?_ (fun hHeld4 => ?_)
    · (try dsimp only); (exact hHeld6)
    clear hK K hHeld6
    try simp only [Act.put, List.setIfInBounds_toArray, List.set_cons_zero, List.set_cons_succ]
    refine wpAnyH_ready (rs := [7]) (by kernel_rfl) (by simp) ?_
    refine AllReadyH.cons (o := { dst := some 30, op := Go.Op.call { callee := Go.Callee.builtin Go.Builtin.append, args := #[Go.Operand.tmp 27, Go.Operand.tmp 29], argTypes := #[45, 45] }, type := 45, pos := "weave.go:25", after := #[{ on := 4, ground := Go.Ground.data }, { on := 6, ground := Go.Ground.data }], guard := none }) rfl (fun K hK => ?_) AllReadyH.nil
    refine step_append_lies _ rfl (.tmp 27) (.tmp 29) 45 rfl B 50 i0 (.agg #[.int .i64 0, .int .i64 0, .int .i64 0]) 3 24 Try.underlying45 ji jz0 jz1 jz2 rfl (by decide) (.slice p n c) n (fl3 ((spotsN R).take n)) rfl SP2.out ⟨w2.heap.size, 0, none⟩ 1 1 (c3 (x, y, z)) rfl rfl (news_alloc w2.drew w2.heap.size rfl _ _) (one3 _) (by omega) (by have := HNL.out; unfold maxLen; omega) (by have := HNL.out; omega) (le_alloc hB2) _ rfl (fun g cap w5 k1 k2 k3 k4 => ?_); have HC5 : ∀ o, w5.cell? ⟨b, o, none⟩ = (#[.int .i64 (R.r0 : Int), .int .i64 (R.r1 : Int), .int .i64 (R.r2 : Int), .int .i64 (R.r3 : Int), .int .i64 (R.m : Int), .slice p n c, .map (some bm), tp] : Array Value)[o]? := (fun o => (World.grownBy.cell_far k2 ⟨b, o, none⟩ (lt_here LB2) (fun e => SL.out e.symm)).trans (blk_alloc (by simp) _ HC2 o)); have HF5 : ∀ o, w5.frozen? ⟨b, o, none⟩ = false := (fun o => (World.grownBy.frozen_far k2 ⟨b, o, none⟩ (lt_here LB2) (fun e => SL.out e.symm)).trans (fro_more (W := w2.drew) LB2 _ HF2 o))
    refine hK.out _ _ ?_ (fun hHeld7 => ?_)
    · (try dsimp only); (exact fun o => (World.grownBy.cell_far k2 ⟨w.heap.size, o, none⟩ (lt_here LS2) SPL.out).trans (hHeld4 o))
    clear hK K hHeld4
    try simp only [Act.put, List.setIfInBounds_toArray, List.set_cons_zero, List.set_cons_succ]
    refine wpAnyH_take (i := 8) (oi := { dst := some 31, op := Go.Op.nilCheck (Go.Operand.tmp 23), type := 0, pos := "weave.go:25", after := #[{ on := 0, ground := Go.Ground.data }, { on := 0, ground := Go.Ground.phase }, { on := 1, ground := Go.Ground.phase }, { on := 2, ground := Go.Ground.phase }, { on := 3, ground := Go.Ground.phase }, { on := 4, ground := Go.Ground.phase }, { on := 5, ground := Go.Ground.phase }, { on := 6, ground := Go.Ground.phase }, { on := 7, ground := Go.Ground.phase }], guard := none }) (v := ?_) rfl (by kernel_rfl) (by kernel_rfl) (by kernel_rfl) (fun _ _ _ h => h) (Or.inl ⟨by rfl, ?_⟩) (by assumption) ?_
    rotate_left
    · intro w hSw; (try dsimp only at hSw); go_simp; (try with_reducible rfl)
    try simp only [Act.put, List.setIfInBounds_toArray, List.set_cons_zero, List.set_cons_succ]
    refine wpAnyH_take (i := 9) (oi := { dst := some 32, op := Go.Op.fieldAddr 67 (Go.Operand.tmp 31) 2, type := 0, pos := "weave.go:25", after := #[{ on := 8, ground := Go.Ground.data }, { on := 0, ground := Go.Ground.phase }, { on := 1, ground := Go.Ground.phase }, { on := 2, ground := Go.Ground.phase }, { on := 3, ground := Go.Ground.phase }, { on := 4, ground := Go.Ground.phase }, { on := 5, ground := Go.Ground.phase }, { on := 6, ground := Go.Ground.phase }, { on := 7, ground := Go.Ground.phase }], guard := none }) (v := ?_) rfl (by kernel_rfl) (by kernel_rfl) (by kernel_rfl) (fun _ _ _ h => h) (Or.inl ⟨by rfl, ?_⟩) (by assumption) ?_
    rotate_left
    · intro w hSw; (try dsimp only at hSw); go_simp; (try with_reducible rfl)
    try simp only [Act.put, List.setIfInBounds_toArray, List.set_cons_zero, List.set_cons_succ]
    refine wpAnyH_ready (rs := [10]) (by kernel_rfl) (by simp) ?_
    refine AllReadyH.cons (o := { dst := none, op := Go.Op.store 45 (Go.Operand.tmp 32) (Go.Operand.tmp 30), type := 0, pos := "weave.go:25", after := #[{ on := 9, ground := Go.Ground.data }, { on := 7, ground := Go.Ground.data }, { on := 7, ground := Go.Ground.chain }, { on := 0, ground := Go.Ground.phase }, { on := 1, ground := Go.Ground.phase }, { on := 2, ground := Go.Ground.phase }, { on := 3, ground := Go.Ground.phase }, { on := 4, ground := Go.Ground.phase }, { on := 5, ground := Go.Ground.phase }, { on := 6, ground := Go.Ground.phase }, { on := 7, ground := Go.Ground.phase }], guard := none }) rfl (fun K hK => ?_) AllReadyH.nil
    go_simp
    skip
    refine hK.out _ _ ?_ (fun hHeld10 => ?_)
    · (try dsimp only); (exact st_far (by omega) hHeld7)
    clear hK K hHeld7
    try simp only [Act.put, List.setIfInBounds_toArray, List.set_cons_zero, List.set_cons_succ]
    refine wpAnyH_done (by kernel_rfl) ?_ _
    have KK := Lib.hid (spot_end hR HH.out HS.out HN.out M2.out G2.out k1 k2 (k3.imp id (fun e => by rw [e]; exact le_alloc (Nat.le_refl _))))
    clear k1 k2 k3 k4
    go_wp2_with fail
    go_end0
    exact ⟨rfl, KK.out⟩
  exact AllReadyH.nil
end Go.Proofs.Ytoalihdempcbjaa
