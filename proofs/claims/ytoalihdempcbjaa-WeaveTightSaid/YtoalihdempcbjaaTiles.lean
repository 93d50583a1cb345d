/- What view.Tiles answers at the one input that the statements' first line asks for. -/
import Derived.Test.YtoalihdempcbjaaTaken
import Derived.Test.YtoalihdempcbjaaAmong
import Derived.Test.YtoalihdempcbjaaCopyI
namespace Go.Proofs.Ytoalihdempcbjaa
open Go.RowKit
set_option maxRecDepth 100000
set_option linter.unusedSimpArgs false
set_option linter.unusedVariables false
theorem infoT : ∃ i, Try.prog.info? 36 = some i ∧ i.zero = some (.agg #[.int .i64 0, .int .i64 0, .int .i64 0, .int .i64 0]) ∧ i.size = 4 ∧ i.bytes = 32 := ⟨_, rfl, rfl, rfl, rfl⟩
theorem one4 (a b c d : Int) : ∀ u ∈ ([.int .i64 a, .int .i64 b, .int .i64 c, .int .i64 d] : List Value), u.oneCell' = true := by
  intro u hu
  simp only [List.mem_cons, List.not_mem_nil, or_false] at hu
  rcases hu with rfl | rfl | rfl | rfl <;> rfl
theorem own_geT {w : World} {B n sz : Nat} {e : TypeId} {v : Value} {xs : List Value} (h : w.ownsRow B e sz v n xs) : ∀ k, v.ownBlock = some k → B ≤ k := by
  intro k hk
  rcases h.2 with ⟨rfl, _⟩ | ⟨g, cap, cur, rfl, hb, _⟩
  · simp [Value.ownBlock] at hk
  · have : some g = some k := hk
    have := Option.some.inj this; omega
theorem st4_cell' {W : World} {b b' o : Nat} (hn : b' ≠ b) {i j k l : Nat} {u v x y : Value} :
    ((((W.setCell ⟨b', i, none⟩ u).setCell ⟨b', j, none⟩ v).setCell ⟨b', k, none⟩ x).setCell ⟨b', l, none⟩ y).cell? ⟨b, o, none⟩ = W.cell? ⟨b, o, none⟩ := by
  rw [World.cell?_setCell_other _ _ _ _ (by simp [hn]), World.cell?_setCell_other _ _ _ _ (by simp [hn]), World.cell?_setCell_other _ _ _ _ (by simp [hn]), World.cell?_setCell_other _ _ _ _ (by simp [hn])]
theorem own_nil (W : World) (B : Nat) (v : Value) (h : v = .slice none 0 0) : W.ownsRow B 36 4 v 0 [] := ⟨by simp, .inl ⟨h, rfl⟩⟩
theorem add_none (g o j : Nat) : (⟨g, o, none⟩ : Addr).add j = ⟨g, o + j, none⟩ := by unfold Addr.add; split <;> simp_all
theorem news_alloc (W : World) (n : Nat) (hn : W.heap.size = n) (cs : Array Value) (t : TypeId) : ∀ j u, cs.toList[j]? = some u → (W.alloc (.cells cs t)).cell? ((⟨n, 0, none⟩ : Addr).add j) = some u := by
  subst hn; exact World.news_of_block (heap_alloc_lastI W _)
def TyRel (B : Nat) (w : World) (k : Nat) (v y : Value) (wr : World) : Prop :=
  ((k = 1 ∧ y = .int .i64 0 ∧ wr.ownsRow B 36 4 v 0 []) ∨ (k = 0 ∧ y = .int .i64 4 ∧ wr.ownsRow B 36 4 v 2 [.int .i64 0, .int .i64 0, .int .i64 4, .int .i64 4, .int .i64 4, .int .i64 0, .int .i64 1, .int .i64 4])) ∧ Below B w wr
def TxRel (B : Nat) (w : World) (k : Nat) (v x : Value) (wr : World) : Prop :=
  ((k = 2 ∧ x = .int .i64 0 ∧ wr.ownsRow B 36 4 v 0 []) ∨ (k = 1 ∧ x = .int .i64 4 ∧ wr.ownsRow B 36 4 v 1 [.int .i64 0, .int .i64 0, .int .i64 4, .int .i64 4]) ∨ (k = 0 ∧ x = .int .i64 8 ∧ wr.ownsRow B 36 4 v 2 [.int .i64 0, .int .i64 0, .int .i64 4, .int .i64 4, .int .i64 4, .int .i64 0, .int .i64 1, .int .i64 4])) ∧ Below B w wr
def TpRel (B : Nat) (w : World) (k : Nat) (lf ot i : Value) (wr : World) : Prop :=
  ((k = 1 ∧ i = .int .i64 0 ∧ Hid (ot = .slice none 0 0) ∧ wr.ownsRow B 36 4 lf 2 [.int .i64 0, .int .i64 0, .int .i64 4, .int .i64 4, .int .i64 4, .int .i64 0, .int .i64 1, .int .i64 4]) ∨ (k = 0 ∧ i = .int .i64 1 ∧ wr.ownsRow B 36 4 ot 1 [.int .i64 4, .int .i64 0, .int .i64 1, .int .i64 4] ∧ ∃ g cap, lf = .slice (some ⟨g, 0, none⟩) 1 cap ∧ 1 ≤ cap ∧ cap ≤ maxLen ∧ g < wr.heap.size ∧ ∀ o, o < 4 → wr.cell? ⟨g, o, none⟩ = ([.int .i64 0, .int .i64 0, .int .i64 4, .int .i64 4] : List Value)[o]?)) ∧ Below B w wr
set_option maxHeartbeats 8000000 in
theorem tiles54 (bp : Nat) (w : World) (hlt : bp < w.heap.size) (hc : w.cell? ⟨bp, 0, none⟩ = some (.int .i64 1)) :
    Calls Try.prog 16 #[.int .i64 5, .int .i64 4, .slice (some ⟨bp, 0, none⟩) 1 1] w fun e w' => ∃ g cap, e = .returned (.tuple #[.slice (some ⟨g, 0, none⟩) 2 cap, .bool true]) ∧ 2 ≤ cap ∧ g < w'.heap.size ∧ (∀ o, o < 8 → w'.cell? ⟨g, o, none⟩ = ([.int .i64 4, .int .i64 0, .int .i64 1, .int .i64 4, .int .i64 0, .int .i64 0, .int .i64 4, .int .i64 4] : List Value)[o]?) ∧ Below w.heap.size w w' := by
  obtain ⟨i0, ji, jz0, jz1, jz2⟩ := infoT
  have m0 : mn 4 5 = 4 := by decide
  have m1 : mn 4 1 = 1 := by decide
  have m2 : mn 4 4 = 4 := by decide
  have q0 : IntKind.i64.wrap 0 = 0 := by decide
  have q1 : IntKind.i64.wrap 1 = 1 := by decide
  have q4 : IntKind.i64.wrap 4 = 4 := by decide
  have q5 : IntKind.i64.wrap 5 = 5 := by decide
  have q8 : IntKind.i64.wrap 8 = 8 := by decide
  go_enter Try.func16, Try.ntmps16
  go_wp2_with (go_at_call 26; ((with_reducible refine (among2 1 64 5 4 true (by decide) _ _ (by (repeat (first | (with_reducible assumption) | (focus ((with_reducible refine new_at ?_ _ _); (repeat (first | (with_reducible rfl) | (with_reducible refine sz1 ?_))); done)) | (with_reducible refine blk_alloc (by simp) _ ?_) | (with_reducible refine blk_drew ?_))))).mono ?_); rintro e w1 ⟨rfl, hb1⟩; have HB1 := Lib.hid ((by (repeat' (first | (with_reducible exact Below.refl _ _) | (with_reducible refine bstep (by with_reducible assumption) ?_) | (with_reducible refine Below.alloc ?_ ?_ _) | (with_reducible refine Below.drew ?_) | (with_reducible refine below_drewN ?_ _) | (with_reducible refine Below.setCell ?_ ?_ _) | go_size))) : Below w.heap.size w w1)))
  go_loopg [8, 10] 1 (fun k v y wr => TyRel w.heap.size w k v y wr)
  case atStart => exact ⟨.inl ⟨rfl, rfl, ⟨by simp, .inl ⟨rfl, rfl⟩⟩⟩, HB1.out⟩
  case round =>
    obtain ⟨hk, hB⟩ := hrel
    have HB := Lib.hid hB
    clear hB HB1
    rcases hk with ⟨rfl, rfl, own⟩ | ⟨rfl, rfl, own⟩
    · go_wp2_with fail
      go_loopg [8, 11] 2 (fun k v x wr => TxRel w.heap.size w k v x wr)
      case atStart => exact ⟨.inl ⟨rfl, rfl, own⟩, HB.out⟩
      case round =>
        obtain ⟨hk, hB⟩ := hrel
        have HBX := Lib.hid hB
        have sz : w.heap.size ≤ wr.heap.size := hB.size
        clear hB HB own
        rcases hk with ⟨rfl, rfl, own⟩ | ⟨rfl, rfl, own⟩ | ⟨rfl, rfl, own⟩
        · go_wp2_with (at_builtin; with_reducible change wpList _ _ _ (Oper.mk _ (Op.call ⟨Callee.builtin Builtin.append, _, _⟩) _ _ _ _ :: _) _ _; refine wpList_append_lies _ rfl _ _ 31 rfl w.heap.size 36 i0 (.agg #[.int .i64 0, .int .i64 0, .int .i64 0, .int .i64 0]) 4 32 Try.underlying31 ji jz0 jz1 jz2 rfl (by decide) _ _ _ rfl (own.alloc _) ⟨wr.heap.size, 0, none⟩ 1 1 [.int .i64 0, .int .i64 0, .int .i64 4, .int .i64 4] rfl rfl (fun j u hu => World.news_of_block (heap_alloc_lastI wr _) j u hu) (one4 _ _ _ _) (by omega) (by unfold maxLen; omega) (by omega) (by rw [World.size_alloc]; omega) _ rfl (fun g cap w5 k1 k2 k3 k4 => ?_); have HB5 := Below.grown (HBX.out.alloc sz _) k2 (by rw [World.size_alloc]; omega) (own_geT own))
          go_roundg 1
          case measure => omega
          case rel => exact ⟨.inr (.inl ⟨rfl, by simp, k1⟩), HB5⟩
        · go_wp2_with (at_builtin; with_reducible change wpList _ _ _ (Oper.mk _ (Op.call ⟨Callee.builtin Builtin.append, _, _⟩) _ _ _ _ :: _) _ _; refine wpList_append_lies _ rfl _ _ 31 rfl w.heap.size 36 i0 (.agg #[.int .i64 0, .int .i64 0, .int .i64 0, .int .i64 0]) 4 32 Try.underlying31 ji jz0 jz1 jz2 rfl (by decide) _ _ _ rfl (own.alloc _) ⟨wr.heap.size, 0, none⟩ 1 1 [.int .i64 4, .int .i64 0, .int .i64 1, .int .i64 4] rfl rfl (fun j u hu => World.news_of_block (heap_alloc_lastI wr _) j u hu) (one4 _ _ _ _) (by omega) (by unfold maxLen; omega) (by omega) (by rw [World.size_alloc]; omega) _ rfl (fun g cap w5 k1 k2 k3 k4 => ?_); have HB5 := Below.grown (HBX.out.alloc sz _) k2 (by rw [World.size_alloc]; omega) (own_geT own))
          go_roundg 0
          case measure => omega
          case rel => exact ⟨.inr (.inr ⟨rfl, by simp, k1⟩), HB5⟩
        · go_wp2_with fail
          go_roundg 0
          case measure => omega
          case rel => exact ⟨.inr ⟨rfl, by simp, own⟩, HBX.out⟩
    · go_wp2_with fail
      go_loopg [8, 9, 47] 1 (fun k lf ot i wr => TpRel w.heap.size w k lf ot i wr)
      case atStart => exact ⟨.inl ⟨rfl, rfl, Lib.hid rfl, own⟩, HB.out⟩
      case round =>
        obtain ⟨hk, hB⟩ := hrel
        have HBX := Lib.hid hB
        have sz : w.heap.size ≤ wr.heap.size := hB.size
        have cp := (hB.cell (p := ⟨bp, 0, none⟩) hlt).trans hc
        clear hB HB own
        rcases hk with ⟨rfl, rfl, oto, own⟩ | ⟨rfl, rfl, own, g, cap, rfl, c1, c2, hg, hcell⟩
        · obtain ⟨gg, gcap, rfl, hg0, hg, h1, h2, hcell, hfro⟩ := tile_own own (by omega)
          have HC := Lib.hid hcell
          have HF := Lib.hid hfro
          clear hcell hfro own
          have t1 : (1 : Int).tmod 2 = 1 := by decide
          go_wp2_with (first
            | (go_at_call 32; ((with_reducible refine (taken54 gg gcap h1 h2 _ (lt_here hg) (fun o ho => (((Below.refl wr.heap.size wr).alloc (Nat.le_refl _) _).cell (p := ⟨gg, o, none⟩) hg).trans (HC.out o ho)) (fro_more hg _ HF.out)).mono ?_); rintro e v1 ⟨rfl, L1, L2, L3, L4, L5, L6⟩; have L1 := Lib.hid L1; have ZD := L5 wr.heap.size _ (by omega) (by rw [World.size_alloc]; omega) (new_at rfl _ _); have FD := L6 wr.heap.size (by rw [World.size_alloc]; omega) (fro_new rfl _ _); have LD : wr.heap.size < v1.heap.size := blk_lt (by simp) ZD; have L3' : wr.heap.size + 1 ≤ v1.heap.size := (by rw [World.size_alloc] at L3; exact L3); have HV := Lib.hid (L4 w.heap.size w hg0 (by rw [World.size_alloc]; omega) (HBX.out.alloc sz _)); clear L4 L5 L6))
            | (at_builtin; with_reducible change wpList _ _ _ (Oper.mk _ (Op.call ⟨Callee.builtin Builtin.append, _, _⟩) _ _ _ _ :: _) _ _; refine wpList_append_lies _ rfl _ _ 31 rfl w.heap.size 36 i0 (.agg #[.int .i64 0, .int .i64 0, .int .i64 0, .int .i64 0]) 4 32 Try.underlying31 ji jz0 jz1 jz2 rfl (by decide) u9 0 [] rfl (own_nil _ _ _ oto.out) ⟨v1.heap.size, 0, none⟩ 1 1 [.int .i64 4, .int .i64 0, .int .i64 1, .int .i64 4] rfl rfl (news_alloc _ _ (by simp only [World.size_setCell]) _ _) (one4 _ _ _ _) (by omega) (by unfold maxLen; omega) (by omega) (by simp only [World.size_alloc, World.size_setCell]; omega) _ rfl (fun g cap w5 k1 k2 k3 k4 => ?_); have HB5 := Below.grown (Below.alloc (Below.setCell (Below.setCell (Below.setCell (Below.setCell HV.out sz _) sz _) sz _) sz _) (by simp only [World.size_setCell]; omega) _) k2 (by simp only [World.size_alloc, World.size_setCell]; omega) (own_geT (own_nil wr _ _ oto.out)); have C5 : ∀ o, o < 4 → w5.cell? ⟨gg, o, none⟩ = ([.int .i64 0, .int .i64 0, .int .i64 4, .int .i64 4] : List Value)[o]? := (fun o ho => (World.grownBy.cell_far k2 ⟨gg, o, none⟩ (by simp only [World.size_alloc, World.size_setCell]; omega) (by rw [oto.out]; simp [Value.ownBlock])).trans ((World.cell?_alloc_lt _ _ _ (by simp only [World.size_setCell]; exact L2)).trans ((st4_cell' (by omega)).trans (L1.out o ho)))); have s5 : gg < w5.heap.size := (by have := k2.size; simp only [World.size_alloc, World.size_setCell] at this; omega)))
          go_roundg 0
          case measure => omega
          case rel => exact ⟨.inr ⟨rfl, by simp, k1, gg, gcap, rfl, by omega, h2, s5, C5⟩, HB5⟩
        · go_wp2_with (at_builtin; with_reducible change wpList _ _ _ (Oper.mk _ (Op.call ⟨Callee.builtin Builtin.append, _, _⟩) _ _ _ _ :: _) _ _; refine wpList_append_lies _ rfl _ _ 31 rfl w.heap.size 36 i0 (.agg #[.int .i64 0, .int .i64 0, .int .i64 0, .int .i64 0]) 4 32 Try.underlying31 ji jz0 jz1 jz2 rfl (by decide) u9 1 [.int .i64 4, .int .i64 0, .int .i64 1, .int .i64 4] (by simp [Act.eval]) own ⟨g, 0, none⟩ 1 cap [.int .i64 0, .int .i64 0, .int .i64 4, .int .i64 4] rfl rfl (fun j u hu => (by have hj : j < 4 := (by have h9 := (List.getElem?_eq_some_iff.1 hu).1; simpa using h9); rw [show (⟨g, 0, none⟩ : Addr).add j = ⟨g, 0 + j, none⟩ from add_none g 0 j, Nat.zero_add, hcell j hj]; exact hu)) (one4 _ _ _ _) (by omega) (by unfold maxLen; omega) (by omega) sz _ rfl (fun g2 cap2 w5 k1 k2 k3 k4 => ?_))
          have HB5 := Below.grown HBX.out k2 sz (own_geT own)
          obtain ⟨g', cap', e', _, hg', j1, _, hcell', _⟩ := tile_own k1 (by omega)
          go_returns
          exact ⟨g', cap', by simp [← e'], j1, hg', hcell', HB5⟩
end Go.Proofs.Ytoalihdempcbjaa
