/- What relievoref21.Tiles answers: the same list of tiles as view.Tiles. -/
import Derived.Test.YtoalihdempcbjaaTilesG
import Derived.Test.YtoalihdempcbjaaRRay
namespace Go.Proofs.Ytoalihdempcbjaa
open Go.RowKit
set_option maxRecDepth 100000
set_option linter.unusedSimpArgs false
set_option linter.unusedVariables false
theorem tls_newT {w : World} {B : Nat} (hb : B ≤ w.heap.size) : Tls (w.alloc (.cells #[] 36)) B (.slice (some ⟨w.heap.size, 0, none⟩) 0 0) 0 [] := World.ownsRow_made w #[] 0 hb (by decide) rfl
theorem keep_call2 {w v1 : World} {B n : Nat} {v : Value} {zs : List Int} {o : Obj} {r : Option Nat} (h : Tls w B v n zs) (hg : (w.alloc o).grownBy v1 r) (hne : v.ownBlock ≠ r) : Tls v1 B v n zs := tls_kept (tls_alloc h o) hg (.inr hne)
theorem own_from {v v' : Value} {S s : Nat} (h : ∀ k, v.ownBlock = some k → S ≤ k) (k : v'.ownBlock = v.ownBlock ∨ v'.ownBlock = some s) (hs : S ≤ s) : ∀ k, v'.ownBlock = some k → S ≤ k := by
  rcases k with e | e
  · rw [e]; exact h
  · rw [e]; intro k h; have := Option.some.inj h; omega
theorem tls_form2 {w : World} {B n : Nat} {v : Value} {zs : List Int} (h : Tls w B v n zs) (hv : v ≠ .slice none 0 0) : ∃ g cap, v = .slice (some ⟨g, 0, none⟩) n cap ∧ g < w.heap.size := by
  rcases h.2 with ⟨h, _⟩ | ⟨g, cap, cur, h, _, hg, _⟩
  · exact absurd h hv
  · exact ⟨g, cap, h, (Array.getElem?_eq_some_iff.1 hg).1⟩
theorem rt_left {W : World} {B k nl : Nat} {v : Value} {zl : List Int} (h : Tls W B v (0 + k + (nl - (k + 1))) ([] ++ zl.take (k * 4) ++ zl.drop ((k + 1) * 4))) (hk : k < nl) (hv : v ≠ .slice none 0 0) : ∃ g cap, v = .slice (some ⟨g, 0, none⟩) (nl - 1) cap ∧ Tls W B v (nl - 1) (cutK zl k) := by
  rw [show 0 + k + (nl - (k + 1)) = nl - 1 by omega, List.nil_append] at h
  obtain ⟨g, cap, e, _⟩ := tls_form2 h hv
  exact ⟨g, cap, e, h⟩
theorem own_at {v : Value} {S g n c : Nat} (h : ∀ k, v.ownBlock = some k → S ≤ k) (e : v = .slice (some ⟨g, 0, none⟩) n c) : S ≤ g := h g (by rw [e]; rfl)
theorem own_apart {v1 v2 : Value} {B S : Nat} (h1 : ∀ k, v1.ownBlock = some k → B ≤ k ∧ k < S) (h2 : ∀ k, v2.ownBlock = some k → S ≤ k) : v1.ownBlock = none ∨ v1.ownBlock ≠ v2.ownBlock := by
  cases e : v1.ownBlock with
  | none => exact .inl rfl
  | some k =>
    refine .inr fun h => ?_
    have a := (h1 k e).2
    have b := h2 k h.symm
    omega
theorem own_not {v1 : Value} {B S g : Nat} (h1 : ∀ k, v1.ownBlock = some k → B ≤ k ∧ k < S) (hg : S ≤ g) : v1.ownBlock ≠ some g := by
  intro e
  have := (h1 g e).2
  omega
theorem own_ne {g s n c m d : Nat} (h : g < s) : (Value.slice (some ⟨g, 0, none⟩) n c).ownBlock ≠ (Value.slice (some ⟨s, 0, none⟩) m d).ownBlock := by
  intro e
  have e' : some g = some s := e
  have := Option.some.inj e'
  omega
theorem own_one {B s m d : Nat} (hB : B ≤ s) : ∀ k, (Value.slice (some ⟨s, 0, none⟩) m d).ownBlock = some k → B ≤ k := by
  intro k e
  have e' : some s = some k := e
  have := Option.some.inj e'
  omega
theorem cells_take {W : World} {B g n cap k : Nat} {zl : List Int} (h : Tls W B (.slice (some ⟨g, 0, none⟩) n cap) n zl) (hk : k ≤ n) : ∀ j, j < k * 4 → W.cell? ((⟨g, 0, none⟩ : Addr).add j) = some (.int .i64 ((zl.take (k * 4)).getD j 0)) := by
  intro j hj
  obtain ⟨_, _, _, _, hz, hc, _⟩ := tls_cell h
  rw [add_none, Nat.zero_add, hc j (by omega), List.getD_eq_getElem?_getD, List.getD_eq_getElem?_getD, List.getElem?_take, if_pos hj]
theorem cells_drop {B g n cap k : Nat} {zl : List Int} (hn : n ≤ cap) (hk : k < n) : ∃ ad : Addr, (if cap = k + 1 then some (⟨g, 0, none⟩ : Addr) else some ⟨g, (k + 1) * 4, none⟩) = some ad ∧ ∀ W : World, Tls W B (.slice (some ⟨g, 0, none⟩) n cap) n zl → ∀ j, j < (n - (k + 1)) * 4 → W.cell? (ad.add j) = some (.int .i64 ((zl.drop ((k + 1) * 4)).getD j 0)) := by
  by_cases hc : cap = k + 1
  · refine ⟨⟨g, 0, none⟩, by rw [if_pos hc], fun W _ j hj => ?_⟩
    rw [show n - (k + 1) = 0 by omega] at hj; omega
  · refine ⟨⟨g, (k + 1) * 4, none⟩, by rw [if_neg hc], fun W h j hj => ?_⟩
    obtain ⟨_, _, _, _, hz, hc, _⟩ := tls_cell h
    rw [add_none, hc ((k + 1) * 4 + j) (by omega), List.getD_eq_getElem?_getD, List.getD_eq_getElem?_getD, List.getElem?_drop]
theorem wpList_tl2 {ops : Array Oper} {rest : List Oper} {o : Oper} {a : Act} {Q : Exit → Act → World → Prop} (w : World) (hgd : o.guard = none) (s x : Operand)
    (ho : o.op = .call { callee := .builtin .append, args := #[s, x], argTypes := #[31, 31] })
    (B : Nat) (v : Value) (n : Nat) (zs : List Int) (hs : a.eval s = v) (hown : Tls w B v n zs)
    (ad : Addr) (m c : Nat) (ys : List Int) (hx : a.eval x = .slice (some ad) m c) (hl : ys.length = m * 4) (hnews : ∀ j, j < m * 4 → w.cell? (ad.add j) = some (.int .i64 (ys.getD j 0)))
    (hsm : n + m ≤ 100000) (hbase : B ≤ w.heap.size)
    (h : ∀ v' w', Tls w' B v' (n + m) (zs ++ ys) → w.grownBy w' v.ownBlock → (v'.ownBlock = v.ownBlock ∨ v'.ownBlock = some w.heap.size) → (v ≠ .slice none 0 0 → v' ≠ .slice none 0 0) → wpList Try.prog ops Q rest (a.put o.dst v') w') :
    wpList Try.prog ops Q (o :: rest) a w := by
  obtain ⟨i0, ji, jz0, jz1, jz2⟩ := infoT
  refine wpList_append_own_at w hgd s x _ ho B 36 i0 (.agg #[.int .i64 0, .int .i64 0, .int .i64 0, .int .i64 0]) 4 32 Try.underlying31 ji jz0 jz1 jz2 rfl (by decide) v n (iv zs) hs hown ad m c (iv ys) hx (by rw [List.length_map, hl]) (fun j u hu => ?_) (iv_one _) (by unfold maxLen; omega) (by omega) hbase (fun v' w' h1 h2 h3 h4 => h v' w' ?_ h2 h4 (fun hn hv => hn (h3.1 hv).1))
  · rw [List.getElem?_map, Option.map_eq_some_iff] at hu
    obtain ⟨z, hz, rfl⟩ := hu
    rw [List.getElem?_eq_some_iff] at hz
    obtain ⟨hlo, rfl⟩ := hz
    rw [hnews j (by omega), List.getD_eq_getElem?_getD, List.getElem?_eq_getElem hlo]; rfl
  · rw [Tls, iv, List.map_append]; exact h1
set_option maxHeartbeats 8000000 in
theorem rtiles_any (W H : Int) (ps : List Int) (n c : Nat) (p : Option Addr) (hW1 : 1 ≤ W) (hW2 : W ≤ 64) (hH1 : 1 ≤ H) (hH2 : H ≤ 64) (w : World) (hn : ps.length = n) (hn2 : n ≤ 2000) (hp : ∀ j, j < n → ∃ b off, p = some ⟨b, off, none⟩ ∧ b < w.heap.size ∧ w.cell? ⟨b, off + j, none⟩ = some (.int .i64 (ps.getD j 0))) :
    Calls Try.prog 17 #[.int .i64 W, .int .i64 H, .slice p n c] w fun e w' => ∃ v, e = .returned (.tuple #[v, .bool true]) ∧ Tls w' w.heap.size v (nT H * nT W) (tilesL W H ps) ∧ Below w.heap.size w w' := by
  obtain ⟨bw0, bw1, bw2, bw3⟩ := nT_bound hW1 hW2
  obtain ⟨bh0, bh1, bh2, bh3⟩ := nT_bound hH1 hH2
  have HP := Lib.hid hp
  clear hp
  have R1 := Lib.hid (ram (lo := 1) (hi := 64) (a := W) (b := true) (by unfold am1; simp; omega))
  have R2 := Lib.hid (ram (lo := 1) (hi := 64) (a := H) (b := true) (by unfold am1; simp; omega))
  go_enter Try.func17, Try.ntmps17
  go_wp2_with (first
    | (go_at_call 30; ((with_reducible refine (R1.out _).mono ?_); rintro e w1 ⟨rfl, hb1⟩))
    | (go_at_call 30; ((with_reducible refine (R2.out _).mono ?_); rintro e w2 ⟨rfl, hb2⟩; have HB1 := Lib.hid ((by (repeat' (first | (with_reducible exact Below.refl _ _) | (with_reducible refine bstep (by with_reducible assumption) ?_) | (with_reducible refine Below.alloc ?_ ?_ _) | (with_reducible refine Below.drew ?_) | (with_reducible refine below_drewN ?_ _) | (with_reducible refine Below.setCell ?_ ?_ _) | go_size))) : Below w.heap.size w w2))))
  have S1 : w.heap.size ≤ w2.heap.size := HB1.out.size
  go_loopg [8, 9] (nT H) (fun k v y wr => GyRel w.heap.size w W H k v y wr)
  case atStart => exact ⟨0, 0, rfl, rfl, rfl, by rw [Nat.zero_mul]; exact tls_newT S1, HB1.out.alloc S1 _⟩
  case round =>
    obtain ⟨j, Y, hY, rfl, hk, own, hB⟩ := hrel
    have HB := Lib.hid hB
    have HY := Lib.hid hY
    have OW := Lib.hid own
    clear hB HB1 own hY
    by_cases hlt : Y < H
    · have wY : IntKind.i64.wrap (Y + 4) = Y + 4 := IntWalk.i64_in _ (by have := HY.out; omega)
      have wH : IntKind.i64.wrap (H - Y) = H - Y := IntWalk.i64_in _ (by have := HY.out; omega)
      have hj : j < nT H := by have := HY.out; omega
      go_wp2_with fail
      go_loopg [8, 10] (nT W) (fun k v x wr => GxRel w.heap.size w W H Y j k v x wr)
      case atStart => exact ⟨0, 0, rfl, rfl, rfl, by rw [Nat.add_zero]; simpa [rowG] using OW.out, HB.out⟩
      case round =>
        obtain ⟨i, X, hX, rfl, hk2, own2, hB2⟩ := hrel
        have HX := Lib.hid hX
        have HBX := Lib.hid hB2
        have OWN := Lib.hid own2
        have sz : w.heap.size ≤ wr.heap.size := hB2.size
        clear hB2 own2 hX
        by_cases hlt2 : X < W
        · have wX : IntKind.i64.wrap (X + 4) = X + 4 := IntWalk.i64_in _ (by have := HX.out; omega)
          have wW : IntKind.i64.wrap (W - X) = W - X := IntWalk.i64_in _ (by have := HX.out; omega)
          have hi : i < nT W := by have := HX.out; omega
          have hsm := mul_sm bh1 bw1 (Nat.le_of_lt hj)
          go_wp2_with (at_builtin; (with_reducible change wpList _ _ _ (Oper.mk _ (Op.call ⟨Callee.builtin Builtin.append, _, _⟩) _ _ _ _ :: _) _ _); refine wpList_tl _ rfl _ _ rfl w.heap.size _ _ _ rfl (tls_alloc OWN.out _) ⟨wr.heap.size, 0, none⟩ 1 1 [X, Y, mn 4 (W - X), mn 4 (H - Y)] rfl rfl (cells4 (new_at rfl _ _)) (by omega) (by rw [World.size_alloc]; omega) (fun v' w5 k1 k2 k3 => ?_); have HB5 := Below.grown (HBX.out.alloc sz _) k2 (by rw [World.size_alloc]; omega) (tls_ge OWN.out))
          go_roundg (nT W - (i + 1))
          case measure => omega
          case rel => exact ⟨i + 1, X + 4, by have := HX.out; omega, by simp [wX], by omega, by rw [rowG_succ, ← List.append_assoc, HX.out]; exact k1, HB5⟩
        · go_wp2_with fail
          go_roundg (nT H - (j + 1))
          case measure => omega
          case rel => exact ⟨j + 1, Y + 4, by have := HY.out; omega, by simp [wY], by omega, by have hi : i = nT W := (by have := HX.out; omega); have o := OWN.out; rw [hi] at o; rw [gridG_succ, Nat.add_mul, Nat.one_mul, HY.out]; exact o, HBX.out⟩
    · obtain hjn : j = nT H := by have := HY.out; omega
      have hpos : 0 < j * nT W := by rw [hjn]; exact Nat.mul_pos bh0 bw0
      have hsm : nT H * nT W ≤ 256 := mul_sm bh1 bw1 (Nat.le_refl _)
      obtain ⟨g1, cap1, rfl, hg1, hl1⟩ := tls_form OW.out hpos
      have szo : w.heap.size ≤ wr.heap.size := HB.out.size
      have WR := Lib.hid hl1
      clear hl1
      go_wp2_with fail
      go_loopg [8, 11, 12] n (fun k lf ot i wr => GpRel w.heap.size w (nT H * nT W) (gridF W H) ps k lf ot i wr)
      case atStart =>
        have o := OW.out
        rw [hjn] at o
        exact ⟨0, nT H * nT W, 0, g1, cap1, gridF W H, [], rfl, by rw [hn]; rfl, rfl, by rw [← hjn], by rw [gridF, ← hjn]; rw [← hjn] at o; exact tls_alloc o _, tls_newT szo, by have := WR.out; simp [Value.ownBlock]; omega, rfl, fun h => absurd h (by rw [← hjn]; omega), HB.out.alloc szo _⟩
      case round =>
        obtain ⟨j2, nl, no, g, cap, zl, zo, hpk, hk2, rfl, rfl, ownl, owno, hne, hN, hnj, hB2⟩ := hrel
        obtain ⟨hgl, hgB, hnc, hcm, hzl, hcell, hfro⟩ := tls_cell ownl
        have LC := Lib.hid hcell
        have OL := Lib.hid ownl
        have OT := Lib.hid owno
        have HBX := Lib.hid hB2
        have NE := Lib.hid hne
        have PK := Lib.hid hpk
        have sz : w.heap.size ≤ wr.heap.size := hB2.size
        have hzo := tls_len owno
        clear hcell hfro ownl owno hB2 hne hpk HB OW WR
        by_cases hj : j2 < n
        · obtain ⟨b, off, rfl, hbl, hc⟩ := HP.out j2 hj
          have cp := (HBX.out.cell (p := ⟨b, off + j2, none⟩) hbl).trans hc
          have hj0 : (0 : Int) ≤ (j2 : Int) := by omega
          have hj1 : (j2 : Int) < (n : Int) := by omega
          clear hc
          obtain ⟨q, hq⟩ : ∃ q, ps.getD j2 0 = q := ⟨_, rfl⟩
          rw [hq] at cp
          by_cases hz : nl = 0
          · subst hz
            go_wp2_with (at_builtin; (with_reducible change wpList _ _ _ (Oper.mk _ (Op.call ⟨Callee.builtin Builtin.append, _, _⟩) _ _ _ _ :: _) _ _); refine wpList_tl _ rfl _ _ rfl w.heap.size u11 _ _ rfl OT.out ⟨g, 0, none⟩ _ cap zl rfl (tls_len OL.out) (fun o ho => by rw [add_none, Nat.zero_add]; exact LC.out o ho) (by omega) sz (fun v' w5 k1 k2 k3 => ?_); have HB5 := Below.grown HBX.out k2 sz (tls_ge OT.out))
            go_returns
            refine ⟨v', by simp, ?_, HB5⟩
            have e0 : picked (gridF W H, []) ps = (zl, zo) := by
              rw [← PK.out]; exact picked_take _ ps j2 (by rw [PK.out]; show zl.length / 4 = 0; rw [tls_len OL.out])
            rw [tilesL, e0, show nT H * nT W = no + 0 by omega]
            exact k1
          · have hpos2 : 0 < nl := Nat.pos_of_ne_zero hz
            have z0 : ¬ ((nl : Int) = 0) := by omega
            have z1 : ((nl : Int) == 0) = false := beq_eq_false_iff_ne.mpr z0
            have z2 : (0 : Int) < (nl : Int) := by omega
            have tb := tmod_bounds q nl hpos2
            have pk := pickK_lt q nl hpos2
            obtain ⟨k, hk⟩ : ∃ k, pickK q nl = k := ⟨_, rfl⟩
            have hk' := hk
            unfold pickK at hk'
            rw [hk] at pk
            have ik0 : (0 : Int) ≤ (k : Int) := by omega
            have ik1 : (k : Int) < (nl : Int) := by omega
            have ik2 : (k : Int) ≤ (cap : Int) := by omega
            have ik3 : (k : Int) + 1 ≤ (nl : Int) := by omega
            have ik4 : (0 : Int) ≤ (k : Int) + 1 := by omega
            have ik5 : ((k : Int) + 1).toNat = k + 1 := by omega
            have ik6 : (nl : Int) ≤ (cap : Int) := by omega
            have wK : IntKind.i64.wrap ((k : Int) + 1) = (k : Int) + 1 := IntWalk.i64_in _ (by simp only [maxLen] at hcm; omega)
            obtain ⟨X0, X1, X2, X3, hX4⟩ : ∃ X0 X1 X2 X3, [zl.getD (k * 4) 0, zl.getD (k * 4 + 1) 0, zl.getD (k * 4 + 2) 0, zl.getD (k * 4 + 3) 0] = [X0, X1, X2, X3] := ⟨_, _, _, _, rfl⟩
            have PN : Hid (picked (gridF W H, []) (ps.take (j2 + 1)) = (cutK zl k, zo ++ [X0, X1, X2, X3])) := by
              refine Lib.hid ?_
              rw [picked_next _ _ _ (by omega), PK.out, hq, stepT]
              have e4 : zl.length / 4 = nl := by rw [hzl]; omega
              show (if zl.length / 4 = 0 then _ else _) = _
              rw [e4, if_neg hz, hk, ← hX4]; rfl
            have c0 := LC.out (k * 4) (by omega)
            have c1 := LC.out (k * 4 + 1) (by omega)
            have c2 := LC.out (k * 4 + 2) (by omega)
            have c3 := LC.out (k * 4 + 3) (by omega)
            simp only [List.cons.injEq, and_true] at hX4
            rw [hX4.1] at c0
            rw [hX4.2.1] at c1
            rw [hX4.2.2.1] at c2
            rw [hX4.2.2.2] at c3
            have wJ : IntKind.i64.wrap ((j2 : Int) + 1) = (j2 : Int) + 1 := IntWalk.i64_in _ (by omega)
            obtain ⟨T, hT⟩ : ∃ T, q.tmod (nl : Int) = T := ⟨_, rfl⟩
            rw [hT] at tb hk'
            obtain ⟨ad, had, hdrop⟩ := cells_drop (B := w.heap.size) (g := g) (zl := zl) hnc pk
            have DR := Lib.hid hdrop
            have LT : Hid ((zl.take (k * 4)).length = k * 4) := Lib.hid (by rw [List.length_take]; omega)
            have LD : Hid ((zl.drop ((k + 1) * 4)).length = (nl - (k + 1)) * 4) := Lib.hid (by rw [List.length_drop]; omega)
            have NE2 := Lib.hid (show (Value.slice (some ⟨g, 0, none⟩) nl cap).ownBlock ≠ u11.ownBlock from fun e => NE.out e.symm)
            have HKL := Lib.hid (show k ≤ nl by omega)
            have hpkl := Lib.hid pk
            clear hX4 hq hdrop
            by_cases hT0 : T < 0
            · have wN : IntKind.i64.wrap (T + (nl : Int)) = (k : Int) := by rw [if_pos hT0] at hk'; rw [IntWalk.i64_in _ (by omega)]; omega
              clear hk' hk
              go_wp2_with (first
              | (at_builtin; (with_reducible change wpList _ _ _ (Oper.mk _ (Op.call ⟨Callee.builtin Builtin.append, #[Operand.tmp 73, Operand.tmp 78], _⟩) _ _ _ _ :: _) _ _); refine wpList_tl2 _ rfl _ _ rfl w.heap.size u11 _ _ rfl (tls_alloc OT.out _) ⟨wr.heap.size, 0, none⟩ 1 1 [X0, X1, X2, X3] rfl rfl (cells4 (new_at rfl _ _)) (by omega) (by rw [World.size_alloc]; omega) (fun v1 w3 k1 k2 k3 k4 => ?_); have HB3 := Lib.hid (Below.grown (HBX.out.alloc sz _) k2 (by rw [World.size_alloc]; omega) (tls_ge OT.out)); have OL1 := Lib.hid (keep_call2 OL.out k2 NE2.out); have OO1 := Lib.hid k1; have OS1 := Lib.hid (tls_lt k1); have sz1 : w.heap.size ≤ w3.heap.size := HB3.out.size; have hg3 : g < w3.heap.size := (tls_lt OL1.out g rfl).2; have NR := Lib.hid (own_ne (n := nl) (c := cap) (m := 0) (d := 0) hg3); have NO := Lib.hid (show v1.ownBlock ≠ (Value.slice (some ⟨w3.heap.size, 0, none⟩) 0 0).ownBlock from own_not OS1.out (Nat.le_refl _)); clear k1 k2 k3 k4)
              | (at_builtin; (with_reducible change wpList _ _ _ (Oper.mk _ (Op.call ⟨Callee.builtin Builtin.append, #[Operand.tmp 81, Operand.tmp 84], _⟩) _ _ _ _ :: _) _ _); refine wpList_tl2 _ rfl _ _ rfl w.heap.size (.slice (some ⟨w3.heap.size, 0, none⟩) 0 0) 0 [] rfl (tls_newT sz1) ⟨g, 0, none⟩ k cap (zl.take (k * 4)) rfl LT.out (cells_take (tls_alloc OL1.out _) HKL.out) (by omega) (by rw [World.size_alloc]; omega) (fun v2 w4 q1 q2 q3 q4 => ?_); have HB4 := Lib.hid (Below.grown (HB3.out.alloc sz1 _) q2 (by rw [World.size_alloc]; omega) (own_one sz1)); have OL2 := Lib.hid (keep_call2 OL1.out q2 NR.out); have OO2 := Lib.hid (keep_call2 OO1.out q2 NO.out); have OR2 := Lib.hid q1; have ORB := Lib.hid (own_from (S := w3.heap.size) (own_one (Nat.le_refl _)) q3 (by rw [World.size_alloc]; omega)); have QN := Lib.hid (q4 (by simp)); have sz2 : w.heap.size ≤ w4.heap.size := HB4.out.size; have sz3 : w3.heap.size ≤ w4.heap.size := (Nat.le_trans (by rw [World.size_alloc]; omega) q2.size); clear q1 q2 q3 q4)
              | (at_builtin; (with_reducible change wpList _ _ _ (Oper.mk _ (Op.call ⟨Callee.builtin Builtin.append, #[Operand.tmp 86, Operand.tmp 90], _⟩) _ _ _ _ :: _) _ _); refine wpList_tl2 _ rfl _ _ rfl w.heap.size v2 _ _ rfl OR2.out ad (nl - (k + 1)) _ (zl.drop ((k + 1) * 4)) rfl LD.out (DR.out _ OL2.out) (by omega) sz2 (fun v3 w5 r1 r2 r3 r4 => ?_); have HB5 := Lib.hid (Below.grown HB4.out r2 sz2 (tls_ge OR2.out)); have OO3 := Lib.hid (tls_kept OO2.out r2 (own_apart OS1.out ORB.out)); have OR3 := Lib.hid r1; have ORC := Lib.hid (own_from ORB.out r3 sz3); have RN := Lib.hid (r4 QN.out); clear r1 r2 r3 r4))
              obtain ⟨g', cap', ev, hl'⟩ := rt_left OR3.out hpkl.out RN.out
              have EV := Lib.hid ev
              have HL := Lib.hid hl'
              have NF := Lib.hid (own_not OS1.out (own_at ORC.out ev))
              clear ev hl'
              go_roundg (n - (j2 + 1))
              case measure => omega
              case rel => exact ⟨j2 + 1, nl - 1, no + 1, g', cap', _, _, PN.out, by omega, by simp [wJ], EV.out, HL.out, OO3.out, NF.out, by omega, fun _ => Nat.succ_pos _, HB5.out⟩
            · obtain rfl : T = (k : Int) := by rw [if_neg hT0] at hk'; omega
              clear hk' hk
              go_wp2_with (first
              | (at_builtin; (with_reducible change wpList _ _ _ (Oper.mk _ (Op.call ⟨Callee.builtin Builtin.append, #[Operand.tmp 73, Operand.tmp 78], _⟩) _ _ _ _ :: _) _ _); refine wpList_tl2 _ rfl _ _ rfl w.heap.size u11 _ _ rfl (tls_alloc OT.out _) ⟨wr.heap.size, 0, none⟩ 1 1 [X0, X1, X2, X3] rfl rfl (cells4 (new_at rfl _ _)) (by omega) (by rw [World.size_alloc]; omega) (fun v1 w3 k1 k2 k3 k4 => ?_); have HB3 := Lib.hid (Below.grown (HBX.out.alloc sz _) k2 (by rw [World.size_alloc]; omega) (tls_ge OT.out)); have OL1 := Lib.hid (keep_call2 OL.out k2 NE2.out); have OO1 := Lib.hid k1; have OS1 := Lib.hid (tls_lt k1); have sz1 : w.heap.size ≤ w3.heap.size := HB3.out.size; have hg3 : g < w3.heap.size := (tls_lt OL1.out g rfl).2; have NR := Lib.hid (own_ne (n := nl) (c := cap) (m := 0) (d := 0) hg3); have NO := Lib.hid (show v1.ownBlock ≠ (Value.slice (some ⟨w3.heap.size, 0, none⟩) 0 0).ownBlock from own_not OS1.out (Nat.le_refl _)); clear k1 k2 k3 k4)
              | (at_builtin; (with_reducible change wpList _ _ _ (Oper.mk _ (Op.call ⟨Callee.builtin Builtin.append, #[Operand.tmp 81, Operand.tmp 84], _⟩) _ _ _ _ :: _) _ _); refine wpList_tl2 _ rfl _ _ rfl w.heap.size (.slice (some ⟨w3.heap.size, 0, none⟩) 0 0) 0 [] rfl (tls_newT sz1) ⟨g, 0, none⟩ k cap (zl.take (k * 4)) rfl LT.out (cells_take (tls_alloc OL1.out _) HKL.out) (by omega) (by rw [World.size_alloc]; omega) (fun v2 w4 q1 q2 q3 q4 => ?_); have HB4 := Lib.hid (Below.grown (HB3.out.alloc sz1 _) q2 (by rw [World.size_alloc]; omega) (own_one sz1)); have OL2 := Lib.hid (keep_call2 OL1.out q2 NR.out); have OO2 := Lib.hid (keep_call2 OO1.out q2 NO.out); have OR2 := Lib.hid q1; have ORB := Lib.hid (own_from (S := w3.heap.size) (own_one (Nat.le_refl _)) q3 (by rw [World.size_alloc]; omega)); have QN := Lib.hid (q4 (by simp)); have sz2 : w.heap.size ≤ w4.heap.size := HB4.out.size; have sz3 : w3.heap.size ≤ w4.heap.size := (Nat.le_trans (by rw [World.size_alloc]; omega) q2.size); clear q1 q2 q3 q4)
              | (at_builtin; (with_reducible change wpList _ _ _ (Oper.mk _ (Op.call ⟨Callee.builtin Builtin.append, #[Operand.tmp 86, Operand.tmp 90], _⟩) _ _ _ _ :: _) _ _); refine wpList_tl2 _ rfl _ _ rfl w.heap.size v2 _ _ rfl OR2.out ad (nl - (k + 1)) _ (zl.drop ((k + 1) * 4)) rfl LD.out (DR.out _ OL2.out) (by omega) sz2 (fun v3 w5 r1 r2 r3 r4 => ?_); have HB5 := Lib.hid (Below.grown HB4.out r2 sz2 (tls_ge OR2.out)); have OO3 := Lib.hid (tls_kept OO2.out r2 (own_apart OS1.out ORB.out)); have OR3 := Lib.hid r1; have ORC := Lib.hid (own_from ORB.out r3 sz3); have RN := Lib.hid (r4 QN.out); clear r1 r2 r3 r4))
              obtain ⟨g', cap', ev, hl'⟩ := rt_left OR3.out hpkl.out RN.out
              have EV := Lib.hid ev
              have HL := Lib.hid hl'
              have NF := Lib.hid (own_not OS1.out (own_at ORC.out ev))
              clear ev hl'
              go_roundg (n - (j2 + 1))
              case measure => omega
              case rel => exact ⟨j2 + 1, nl - 1, no + 1, g', cap', _, _, PN.out, by omega, by simp [wJ], EV.out, HL.out, OO3.out, NF.out, by omega, fun _ => Nat.succ_pos _, HB5.out⟩
        · obtain rfl : j2 = n := by omega
          have hj1 : ¬ ((j2 : Int) < (j2 : Int)) := by omega
          go_wp2_with (at_builtin; (with_reducible change wpList _ _ _ (Oper.mk _ (Op.call ⟨Callee.builtin Builtin.append, _, _⟩) _ _ _ _ :: _) _ _); refine wpList_tl _ rfl _ _ rfl w.heap.size u11 _ _ rfl OT.out ⟨g, 0, none⟩ _ cap zl rfl (tls_len OL.out) (fun o ho => by rw [add_none, Nat.zero_add]; exact LC.out o ho) (by omega) sz (fun v' w5 k1 k2 k3 => ?_); have HB5 := Below.grown HBX.out k2 sz (tls_ge OT.out))
          go_returns
          refine ⟨v', by simp, ?_, HB5⟩
          have e0 : picked (gridF W H, []) ps = (zl, zo) := by
            rw [← PK.out, ← hn, List.take_length]
          rw [tilesL, e0, ← hN, Nat.add_comm nl no]
          exact k1
end Go.Proofs.Ytoalihdempcbjaa
