/- What slices.Delete answers when one tile is taken out. -/
import Derived.Test.YtoalihdempcbjaaTiles
namespace Go.Proofs.Ytoalihdempcbjaa
open Go.RowKit
set_option maxRecDepth 100000
set_option linter.unusedSimpArgs false
set_option linter.unusedVariables false
theorem wp_append_room {P : Program} {w : World} {o : Oper} {a : Act} {K : Act → World → Prop} {Q : Exit → Act → World → Prop} (s x : Operand) (t : TypeId)
    (ho : o.op = .call { callee := .builtin .append, args := #[s, x], argTypes := #[t, t] })
    (e : TypeId) (i : TypeInfo) (ht : P.underlying t = some (.slice e)) (hi : P.info? e = some i)
    (g sLen sCap : Nat) (cur : Array Value) (hg : w.heap[g]? = some (.cells cur e (0, 0)))
    (ad : Addr) (m c : Nat) (news : List Value) (hs : a.eval s = .slice (some ⟨g, 0, none⟩) sLen sCap) (hx : a.eval x = .slice (some ad) m c) (hl : news.length = m * i.size) (hnews : ∀ j u, news[j]? = some u → w.cell? (ad.add j) = some u) (h1 : ∀ u ∈ news, u.oneCell' = true)
    (hroom : sLen + m ≤ sCap) (hfit : sLen * i.size + news.length ≤ cur.size)
    (h : K (a.put o.dst (.slice (some ⟨g, 0, none⟩) (sLen + m) sCap)) (w.setRow g (cur.toList.take (sLen * i.size) ++ news ++ cur.toList.drop (sLen * i.size + news.length)).toArray)) : o.wp P a w K Q := by
  have hr := run_append_room (P := P) w t o.type e i ht hi g sLen sCap cur hg ad m c news hl hnews h1 hroom hfit
  unfold Oper.wp execOp
  simp only [ho, resolve, invoke, builtin, Sem.run_bind, Sem.run_pure, Result.andThen_ok, List.map_toArray, List.map_cons, List.map_nil, hs, hx, hr]
  exact h
def zz : List Value := [.int .i64 0, .int .i64 0, .int .i64 0, .int .i64 0]
theorem clear_at (w : World) (g o c : Nat) (cur : Array Value) (hg : w.heap[g]? = some (.cells cur 36 (0, 0))) (ho : o + 4 ≤ cur.size) :
    Sem.run Try.prog (Builtin.clear_ #[31] 0 #[.slice (some ⟨g, o, none⟩) 1 c]) w = .ok (.tuple #[]) (w.setRow g (cur.toList.take o ++ zz ++ cur.toList.drop (o + 4)).toArray) := by
  have hv : ∀ w, (zeroValue 36).run Try.prog w = .ok (.agg #[.int .i64 0, .int .i64 0, .int .i64 0, .int .i64 0]) w := fun _ => by kernel_rfl
  have hst := run_storeCells_at Try.prog g o 36 zz 0 cur w hg (by simpa [zz] using ho) (one4 0 0 0 0)
  simp only [Nat.add_zero, show zz.length = 4 from rfl] at hst
  have hzc : (Builtin.zeroCells (Value.cells (.agg #[.int .i64 0, .int .i64 0, .int .i64 0, .int .i64 0])) 1).toList = zz := by kernel_rfl
  simp [Builtin.clear_, run_underlying Try.underlying31, hv, hzc, hst]
def cut1 (cur : Array Value) (k n : Nat) : List Value := (cur.toList.drop ((k + 1) * 4)).take ((n - (k + 1)) * 4)
def row1 (cur : Array Value) (k n : Nat) : Array Value := (cur.toList.take (k * 4) ++ cut1 cur k n ++ cur.toList.drop (k * 4 + (cut1 cur k n).length)).toArray
def row2 (cur : Array Value) (k m n : Nat) : Array Value := ((row1 cur k n).toList.take (m * 4) ++ zz ++ (row1 cur k n).toList.drop (m * 4 + 4)).toArray
set_option maxHeartbeats 4000000 in
theorem delk (g cap n m k : Nat) (hk : k ≤ m) (hnm : n = m + 1) (hn : n ≤ cap) (hm : cap ≤ maxLen) (w : World) (cur : Array Value) (hg : w.heap[g]? = some (.cells cur 36 (0, 0))) (hs : cur.size = cap * 4) (h1 : ∀ u ∈ cut1 cur k n, u.oneCell' = true) :
    Calls Try.prog 43 #[.slice (some ⟨g, 0, none⟩) n cap, .int .i64 (k : Int), .int .i64 ((k : Int) + 1)] w fun e w' => e = .returned (.slice (some ⟨g, 0, none⟩) m cap) ∧ w' = (w.drew.setRow g (row1 cur k n)).setRow g (row2 cur k m n) := by
  obtain ⟨i0, ji, jz0, jz1, jz2⟩ := infoT
  have a0 : (0 : Int) ≤ (k : Int) := by omega
  have a1 : (k : Int) ≤ (k : Int) + 1 := by omega
  have a2 : (k : Int) + 1 ≤ (n : Int) := by omega
  have a3 : (n : Int) ≤ (cap : Int) := by omega
  have a4 : ((k : Int) + 1).toNat = k + 1 := by omega
  have a5 : ¬ (k : Int) = (k : Int) + 1 := by omega
  have a6 : ((k : Int) == (k : Int) + 1) = false := beq_eq_false_iff_ne.mpr a5
  have a7 : (0 : Int) ≤ (k : Int) + 1 := by omega
  have a8 : (k : Int) ≤ (cap : Int) := by omega
  have a9 : (k : Int) + 1 ≤ (cap : Int) := by omega
  have d0 : (m : Int) ≤ (n : Int) := by omega
  have d1 : n - m = 1 := by omega
  have d2 : k + (n - (k + 1)) = m := by omega
  have d3 : ¬ cap = m := by omega
  have d4 : (0 : Int) ≤ (m : Int) := by omega
  have hl : (cut1 cur k n).length = (n - (k + 1)) * i0.size := by
    rw [jz1, cut1, List.length_take, List.length_drop, Array.length_toList, hs, hnm]; (try omega)
  obtain ⟨ad, b0, hnews⟩ : ∃ ad : Addr, (if cap = k + 1 then some (⟨g, 0, none⟩ : Addr) else some ⟨g, (k + 1) * 4, none⟩) = some ad ∧ ∀ j u, (cut1 cur k n)[j]? = some u → w.drew.cell? (ad.add j) = some u := by
    by_cases hc : cap = k + 1
    · refine ⟨⟨g, 0, none⟩, by rw [if_pos hc], fun j u hu => ?_⟩
      have h0 : (cut1 cur k n).length = 0 := by rw [hl, show n - (k + 1) = 0 by omega, Nat.zero_mul]
      rw [List.length_eq_zero_iff.1 h0] at hu; cases hu
    · refine ⟨⟨g, (k + 1) * 4, none⟩, by rw [if_neg hc], fun j u hu => ?_⟩
      rw [add_none]
      show w.cell? ⟨g, (k + 1) * 4 + j, none⟩ = some u
      rw [cell_of_row _ _ _ _ _ _ hg, ← Array.getElem?_toList, ← List.getElem?_drop]
      rw [cut1, List.getElem?_take] at hu
      split at hu
      · exact hu
      · cases hu
  have r1s : (row1 cur k n).size = cap * 4 := by
    rw [row1, List.size_toArray, List.length_append, List.length_append, List.length_take, List.length_drop, Array.length_toList, hl, jz1, hs]; omega
  have HN := Lib.hid hnm
  clear hnm
  go_enter Try.func43, Try.ntmps43
  go_wp2_with fail
  refine wp_region_held_drew (S := (fun _ => True)) (by kernel_rfl) ?_ (fun hHeld => ?_)
  · trivial
  refine wpAnyH_take (i := 0) (oi := { dst := some 20, op := Go.Op.move (Go.Operand.tmp 0), type := 31, pos := "slices.go:232", after := #[], guard := none }) (v := ?_) rfl (by kernel_rfl) (by kernel_rfl) (by kernel_rfl) (fun _ _ _ h => h) (Or.inl ⟨by rfl, ?_⟩) (by assumption) ?_
  rotate_left
  · intro w hSw; (try dsimp only at hSw); go_simp; (try with_reducible rfl)
  try simp only [Act.put, List.setIfInBounds_toArray, List.set_cons_zero, List.set_cons_succ]
  refine wpAnyH_take (i := 1) (oi := { dst := some 21, op := Go.Op.move (Go.Operand.tmp 1), type := 3, pos := "slices.go:232", after := #[], guard := none }) (v := ?_) rfl (by kernel_rfl) (by kernel_rfl) (by kernel_rfl) (fun _ _ _ h => h) (Or.inl ⟨by rfl, ?_⟩) (by assumption) ?_
  rotate_left
  · intro w hSw; (try dsimp only at hSw); go_simp; (try with_reducible rfl)
  try simp only [Act.put, List.setIfInBounds_toArray, List.set_cons_zero, List.set_cons_succ]
  refine wpAnyH_take (i := 2) (oi := { dst := some 22, op := Go.Op.slice 31 (Go.Operand.tmp 20) none (some (Go.Operand.tmp 21)) none, type := 31, pos := "slices.go:232", after := #[{ on := 0, ground := Go.Ground.data }, { on := 1, ground := Go.Ground.data }], guard := none }) (v := ?_) rfl (by kernel_rfl) (by kernel_rfl) (by kernel_rfl) (fun _ _ _ h => h) (Or.inl ⟨by rfl, ?_⟩) (by assumption) ?_
  rotate_left
  · intro w hSw; (try dsimp only at hSw); go_simp; (try with_reducible rfl)
  try simp only [Act.put, List.setIfInBounds_toArray, List.set_cons_zero, List.set_cons_succ]
  refine wpAnyH_take (i := 3) (oi := { dst := some 23, op := Go.Op.move (Go.Operand.tmp 0), type := 31, pos := "slices.go:232", after := #[], guard := none }) (v := ?_) rfl (by kernel_rfl) (by kernel_rfl) (by kernel_rfl) (fun _ _ _ h => h) (Or.inl ⟨by rfl, ?_⟩) (by assumption) ?_
  rotate_left
  · intro w hSw; (try dsimp only at hSw); go_simp; (try with_reducible rfl)
  try simp only [Act.put, List.setIfInBounds_toArray, List.set_cons_zero, List.set_cons_succ]
  refine wpAnyH_take (i := 4) (oi := { dst := some 24, op := Go.Op.move (Go.Operand.tmp 2), type := 3, pos := "slices.go:232", after := #[], guard := none }) (v := ?_) rfl (by kernel_rfl) (by kernel_rfl) (by kernel_rfl) (fun _ _ _ h => h) (Or.inl ⟨by rfl, ?_⟩) (by assumption) ?_
  rotate_left
  · intro w hSw; (try dsimp only at hSw); go_simp; (try with_reducible rfl)
  try simp only [Act.put, List.setIfInBounds_toArray, List.set_cons_zero, List.set_cons_succ]
  refine wpAnyH_take (i := 5) (oi := { dst := some 25, op := Go.Op.slice 31 (Go.Operand.tmp 23) (some (Go.Operand.tmp 24)) none none, type := 31, pos := "slices.go:232", after := #[{ on := 3, ground := Go.Ground.data }, { on := 4, ground := Go.Ground.data }], guard := none }) (v := ?_) rfl (by kernel_rfl) (by kernel_rfl) (by kernel_rfl) (fun _ _ _ h => h) (Or.inl ⟨by rfl, ?_⟩) (by assumption) ?_
  rotate_left
  · intro w hSw; (try dsimp only at hSw); go_simp; (try with_reducible rfl)
  try simp only [Act.put, List.setIfInBounds_toArray, List.set_cons_zero, List.set_cons_succ]
  refine wpAnyH_ready (rs := [6]) (by kernel_rfl) (by simp) ?_
  refine AllReadyH.cons (o := { dst := some 26, op := Go.Op.call { callee := Go.Callee.builtin Go.Builtin.append, args := #[Go.Operand.tmp 22, Go.Operand.tmp 25], argTypes := #[31, 31] }, type := 31, pos := "slices.go:232", after := #[{ on := 2, ground := Go.Ground.data }, { on := 5, ground := Go.Ground.data }], guard := none }) rfl (fun K hK => ?_) AllReadyH.nil
  rw [if_pos (by rfl)]
  refine wp_append_room (Go.Operand.tmp 22) (Go.Operand.tmp 25) 31 rfl 36 i0 Try.underlying31 ji g k cap cur hg _ (n - (k + 1)) (cap - (k + 1)) (cut1 cur k n) rfl rfl hl hnews h1 (by omega) (by rw [hl, jz1, hs, ← Nat.add_mul, d2]; omega) ?_
  rw [d2]
  refine hK.out _ _ ?_ (fun hHeld6 => ?_)
  · trivial
  clear hK K hHeld
  try simp only [Act.put, List.setIfInBounds_toArray, List.set_cons_zero, List.set_cons_succ]
  refine wpAnyH_take (i := 7) (oi := { dst := some 0, op := Go.Op.assign (Go.Operand.tmp 26), type := 31, pos := "slices.go:232", after := #[{ on := 6, ground := Go.Ground.data }, { on := 6, ground := Go.Ground.chain }, { on := 0, ground := Go.Ground.phase }, { on := 1, ground := Go.Ground.phase }, { on := 2, ground := Go.Ground.phase }, { on := 3, ground := Go.Ground.phase }, { on := 4, ground := Go.Ground.phase }, { on := 5, ground := Go.Ground.phase }, { on := 6, ground := Go.Ground.phase }], guard := none }) (v := ?_) rfl (by kernel_rfl) (by kernel_rfl) (by kernel_rfl) (fun _ _ _ h => h) (Or.inl ⟨by rfl, ?_⟩) (by assumption) ?_
  rotate_left
  · intro w hSw; (try dsimp only at hSw); go_simp; (try with_reducible rfl)
  try simp only [Act.put, List.setIfInBounds_toArray, List.set_cons_zero, List.set_cons_succ]
  refine wpAnyH_done (by kernel_rfl) ?_ _
  rw [jz1]
  rw [show (cur.toList.take (k * 4) ++ cut1 cur k n ++ cur.toList.drop (k * 4 + (cut1 cur k n).length)).toArray = row1 cur k n from rfl]
  have hg1 := setRow_heap w.drew g cur (row1 cur k n) _ _ hg
  have RC := fun c => clear_at (w.drew.setRow g (row1 cur k n)) g (m * 4) c (row1 cur k n) hg1 (by rw [r1s]; omega)
  go_wp2_with fail
  go_returns
  exact ⟨by simp, by rw [row2]; simp [List.append_assoc]⟩
theorem cut1_len {cur : Array Value} {cap n m k : Nat} (hk : k ≤ m) (hnm : n = m + 1) (hn : n ≤ cap) (hs : cur.size = cap * 4) : (cut1 cur k n).length = (m - k) * 4 := by
  rw [cut1, List.length_take, List.length_drop, Array.length_toList, hs]; omega
theorem row1_size {cur : Array Value} {cap n m k : Nat} (hk : k ≤ m) (hnm : n = m + 1) (hn : n ≤ cap) (hs : cur.size = cap * 4) : (row1 cur k n).size = cap * 4 := by
  rw [row1, List.size_toArray, List.length_append, List.length_append, List.length_take, List.length_drop, Array.length_toList, cut1_len hk hnm hn hs, hs]; omega
theorem row2_size {cur : Array Value} {cap n m k : Nat} (hk : k ≤ m) (hnm : n = m + 1) (hn : n ≤ cap) (hs : cur.size = cap * 4) : (row2 cur k m n).size = cap * 4 := by
  have h := row1_size hk hnm hn hs
  rw [row2, List.size_toArray, List.length_append, List.length_append, List.length_take, List.length_drop, Array.length_toList, h, show zz.length = 4 from rfl]; omega
theorem row2_take {cur : Array Value} {cap n m k : Nat} (hk : k ≤ m) (hnm : n = m + 1) (hn : n ≤ cap) (hs : cur.size = cap * 4) : (row2 cur k m n).toList.take (m * 4) = (cur.toList.take (n * 4)).take (k * 4) ++ (cur.toList.take (n * 4)).drop ((k + 1) * 4) := by
  have h := row1_size hk hnm hn hs
  have hc := cut1_len hk hnm hn hs
  have hl : (cur.toList.take (k * 4)).length = k * 4 := by rw [List.length_take, Array.length_toList, hs]; omega
  have h1 : ((row1 cur k n).toList.take (m * 4)).length = m * 4 := by rw [List.length_take, Array.length_toList, h]; omega
  rw [row2]
  show List.take (m * 4) ((row1 cur k n).toList.take (m * 4) ++ zz ++ (row1 cur k n).toList.drop (m * 4 + 4)) = _
  rw [List.append_assoc, List.take_left' h1, row1]
  show List.take (m * 4) (cur.toList.take (k * 4) ++ cut1 cur k n ++ cur.toList.drop (k * 4 + (cut1 cur k n).length)) = _
  rw [List.take_left' (by rw [List.length_append, hl, hc]; omega), List.take_take, show min (k * 4) (n * 4) = k * 4 by omega, cut1, List.drop_take]
  congr 2; omega
theorem cut1_mem {cur : Array Value} {n k : Nat} {u : Value} (h : u ∈ cut1 cur k n) : u ∈ cur.toList.take (n * 4) := by
  rw [cut1, show (n - (k + 1)) * 4 = n * 4 - (k + 1) * 4 by omega, ← List.drop_take] at h
  exact List.mem_of_mem_drop h
theorem del_row {B n m k g cap : Nat} {xs : List Value} (hk : k ≤ m) (hnm : n = m + 1) (w : World) (hown : w.ownsRow B 36 4 (.slice (some ⟨g, 0, none⟩) n cap) n xs) (h1 : ∀ u ∈ xs, u.oneCell' = true) :
    Calls Try.prog 43 #[.slice (some ⟨g, 0, none⟩) n cap, .int .i64 (k : Int), .int .i64 ((k : Int) + 1)] w fun e w' => e = .returned (.slice (some ⟨g, 0, none⟩) m cap) ∧ w'.ownsRow B 36 4 (.slice (some ⟨g, 0, none⟩) m cap) m (xs.take (k * 4) ++ xs.drop ((k + 1) * 4)) ∧ w.grownBy w' (some g) ∧ w'.heap.size = w.heap.size := by
  obtain ⟨hl, h | ⟨g0, cap0, cur, he, hb, hh, h2, h3, h4, h5⟩⟩ := hown
  · cases h.1
  · obtain ⟨rfl, rfl⟩ : g = g0 ∧ cap = cap0 := by simpa using he
    refine (delk g cap n m k hk hnm h2 h3 w cur hh h4 (fun u hu => h1 u (by rw [← h5]; exact cut1_mem hu))).mono ?_
    rintro e w' ⟨rfl, rfl⟩
    have e1 := setRow_heap w.drew g cur (row1 cur k n) _ _ hh
    have e2 := setRow_heap (w.drew.setRow g (row1 cur k n)) g (row1 cur k n) (row2 cur k m n) _ _ e1
    refine ⟨rfl, ⟨?_, .inr ⟨g, cap, row2 cur k m n, rfl, hb, e2, by omega, h3, row2_size hk hnm h2 h4, by rw [row2_take hk hnm h2 h4, h5]⟩⟩, ⟨rfl, rfl, rfl, ?_, fun j _ hj => ?_⟩, ?_⟩
    · rw [List.length_append, List.length_take, List.length_drop, hl]; omega
    · simp [World.setRow]
    · have hj' : j ≠ g := fun e => hj (by simp [e])
      rw [setRow_other _ _ _ _ hj', setRow_other _ _ _ _ hj']; rfl
    · simp [World.setRow]
end Go.Proofs.Ytoalihdempcbjaa
