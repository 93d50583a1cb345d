/- What a pair of numbers reads as where it is a map's key; a map that holds how often each edge was gone along. -/
import Derived.Test.YtoalihdempcbjaaTightP
import Derived.Test.YtoalihdempcbjaaWvK
import Derived.WideKeyEntry
namespace Go.Proofs.Ytoalihdempcbjaa
open Go.RowKit
open Go.Maps (Keyed)
set_option maxRecDepth 100000
set_option linter.unusedSimpArgs false
set_option linter.unusedVariables false
def V2n (a b : Nat) : Value := .agg #[.int .i64 (a : Int), .int .i64 (b : Int)]
def kl2 (e : Nat × Nat) : Lit := .string (keyBytes [.int .i64 (e.1 : Int), .int .i64 (e.2 : Int)])
theorem klaw2 : Go.WideMaps.KeyLaw Try.prog 55 := deep_law_laid (by kernel_rfl) (m := 2) (by omega) (of_decide_eq_true (by kernel_rfl)) (by kernel_rfl) (by rw [Try.underlying55])
theorem law2 : Keyed Try.prog 55 := Keyed.of_law klaw2
theorem keyOf_2 (a b : Nat) (ha : a < 1000000) (hb : b < 1000000) : keyOf Try.prog 55 (V2n a b) = some (kl2 (a, b)) := by
  obtain ⟨m, hm⟩ := szT
  unfold keyOf
  rw [Try.underlying55]
  simp only
  rw [if_pos (by
    have e1 : Try.prog.keyType 55 = true := by kernel_rfl
    have e2 : (V2n a b).formed Try.prog 55 = true := by
      simp only [V2n, Value.formed, Try.underlying55]
      rw [show Try.prog.cellsOf 55 = 2 by kernel_rfl]; rfl
    rw [e1, e2]; rfl), hm]
  unfold Program.keyLits
  rw [Try.underlying55]
  dsimp only
  rw [if_pos (by rw [show Try.prog.cellsOf 55 = 2 by kernel_rfl]; rfl), show List.range 2 = [0, 1] from rfl]
  simp [V2n, Value.cells, cellsI, keyOf_int1 ha, keyOf_int1 hb, kl2, List.mapM_cons, List.mapM_nil]
theorem kl2_inj {a b c d : Nat} (ha : a < 1000000) (hb : b < 1000000) (hc : c < 1000000) (hd : d < 1000000) (e : kl2 (a, b) = kl2 (c, d)) : a = c ∧ b = d := by
  have h := law2.inj (keyOf_2 a b ha hb) (by rw [e]; exact keyOf_2 c d hc hd)
  simp only [V2n, Value.agg.injEq, Array.mk.injEq, List.cons.injEq, Value.int.injEq, true_and, and_true] at h
  exact ⟨Int.ofNat_inj.1 h.1, Int.ofNat_inj.1 h.2⟩
/-- The map's datum holds a one for each of the edges, naught for all others. -/
def HoldsE (L : List (Nat × Nat)) (D : Du) : Prop := ∀ a b, a < 1000000 → b < 1000000 → D.atKey (kl2 (a, b)) zI = .lit (.int .i64 (if (a, b) ∈ L then 1 else 0))
theorem holdsE_0 : HoldsE [] (.map []) := fun a b _ _ => by simp [DataW.atKey, zI]
theorem holdsE_next {L : List (Nat × Nat)} {D : Du} (h : HoldsE L D) (hD : Maps.IsMap D) {a b : Nat} (ha : a < 1000000) (hb : b < 1000000) : HoldsE (L ++ [(a, b)]) (D.put (kl2 (a, b)) (.lit (.int .i64 1))) := by
  intro c d hc hd
  by_cases e : c = a ∧ d = b
  · obtain ⟨rfl, rfl⟩ := e
    rw [Maps.atKey_put_same hD (law2.key (keyOf_2 c d hc hd))]
    simp
  · have hk : kl2 (c, d) ≠ kl2 (a, b) := fun k => e (kl2_inj hc hd ha hb k)
    rw [Maps.atKey_put_other hk, h c d hc hd]
    have : ¬ (c, d) = (a, b) := fun k => e (by simpa using k)
    simp [this]
/-- 'm[k] op= v': the entry laid, then stored; between them the map reads at the key as before. -/
theorem own_entry {P : Program} {k t e : TypeId} {R : Value → Option (Du × List MemPlace)} {w : World} {b n : Nat} {D : Du} (h : w.ownsMap P k R b n D) (KL : Go.WideMaps.KeyLaw P k) (K : Keyed P k) (ht : P.underlying t = some (.map k e)) (hn : n < maxLen) {z : Value} (hz : ∀ u : World, (zeroValue e).run P u = .ok z u) {zd : Du} {zp : List MemPlace} (hzd : R z = some (zd, zp)) {key : Value} {kl : Lit} (hkey : keyOf P k key = some kl) (val : Value) {d : Du} {ps : List MemPlace} (hv : R val = some (d, ps)) :
    ∃ (v0 : Value) (st : Nat) (w1 w2 : World), (Instr.mapEntry t (.map (some b)) key).run P w = .ok (.tuple #[v0, .int .i64 (st : Int)]) w1 ∧ (Instr.entryStore t (.map (some b)) (.int .i64 (st : Int)) val).run P w1 = .ok () w2 ∧ w2.ownsMap P k R b (n + 1) (D.put kl d) ∧ w.grownBy w2 (some b) ∧ ∃ n' D1, w1.ownsMap P k R b n' D1 ∧ D1.atKey kl zd = D.atKey kl zd := by
  have H := h
  obtain ⟨w', hrun, r1, r2⟩ := h.update K ht hn hkey hv
  obtain ⟨wz, hrunz, z1, z2⟩ := h.update K ht hn hkey hzd
  obtain ⟨es, clock, hb, F, hs, rfl⟩ := h
  obtain ⟨v0, st, es1, clock1, he, _, hst⟩ := Go.WideElems.entry_then_store KL ht hz hb F hkey
  obtain ⟨es', clock', hs1, hs2⟩ := hst _ val (Go.ChangeMaps.heap_setBlock_same hb _)
  rw [hs2] at hrun
  have hw : w' = Go.ChangeMaps.setBlock w b (.map es' clock') := by
    injection hrun with _ h
    exact h.symm
  have h2 : Go.ChangeMaps.setBlock (Go.ChangeMaps.setBlock w b (.map es1 clock1)) b (.map es' clock') = Go.ChangeMaps.setBlock w b (.map es' clock') := by
    simp [Go.ChangeMaps.setBlock]
  refine ⟨v0, st, _, _, he, hs1, by rw [h2, ← hw]; exact r1, by rw [h2, ← hw]; exact r2, ?_⟩
  rcases KL.find w hkey es.toList F.keys with ⟨h1, h2'⟩ | ⟨j, e0, h1, h2', h3⟩
  · have hr : (Instr.mapEntry t (.map (some b)) key).run P w = .ok (.tuple #[z, goInt clock]) (Go.ChangeMaps.setBlock w b (.map (es.push ⟨key, z, clock⟩) (clock + 1))) := by
      simp [Instr.mapEntry, run_underlying ht, Go.MapKept.run_getObj_map hb, KL.check w false hkey, h1, hz, Go.MapKept.run_setObj_map _ hb, Result.andThen, Go.ChangeMaps.setBlock]
    have hu : (Instr.mapUpdate t (.map (some b)) key z).run P w = .ok () (Go.ChangeMaps.setBlock w b (.map (es.push ⟨key, z, clock⟩) (clock + 1))) := by
      simp [Instr.mapUpdate, run_underlying ht, Go.MapKept.run_getObj_map hb, KL.check w false hkey, h1, Go.MapKept.run_setObj_map _ hb, Result.andThen, Go.ChangeMaps.setBlock]
    rw [he] at hr
    have e1 : Go.ChangeMaps.setBlock w b (.map es1 clock1) = Go.ChangeMaps.setBlock w b (.map (es.push ⟨key, z, clock⟩) (clock + 1)) := by
      injection hr
    rw [hu] at hrunz
    have e2 : Go.ChangeMaps.setBlock w b (.map (es.push ⟨key, z, clock⟩) (clock + 1)) = wz := by
      injection hrunz
    rw [e1, e2]
    refine ⟨_, _, z1, ?_⟩
    rw [Maps.atKey_put_same H.isMap (K.key hkey)]
    rcases Maps.fit_look false K ht (hz w) hb F hkey with ⟨_, _, hat⟩ | ⟨e0, y, hm, hk, _⟩
    · exact (hat zd).symm
    · exact absurd hk (h2' _ hm)
  · have hj : es[j]? = some e0 := by simpa using h2'
    have hsame : es.modify j (fun e => { e with key := key }) = es := by
      apply Array.ext'
      rw [Array.toList_modify, Go.ChangeMaps.modify_eq_set _ _ _ _ h2']
      have : ({ e0 with key := key } : MapEntry) = e0 := by rw [← h3]
      rw [this]
      exact Go.WideElems.set_self _ _ _ h2'
    have hr : (Instr.mapEntry t (.map (some b)) key).run P w = .ok (.tuple #[e0.val, goInt e0.born]) (Go.ChangeMaps.setBlock w b (.map es clock)) := by
      simp [Instr.mapEntry, run_underlying ht, Go.MapKept.run_getObj_map hb, KL.check w false hkey, h1, hj, h3, KL.stays w hkey, hsame, Go.MapKept.run_setObj_map _ hb, Result.andThen, Go.ChangeMaps.setBlock]
    rw [he] at hr
    have e1 : Go.ChangeMaps.setBlock w b (.map es1 clock1) = Go.ChangeMaps.setBlock w b (.map es clock) := by
      injection hr
    have e2 : Go.ChangeMaps.setBlock w b (.map es clock) = w := by
      have hl := (Array.getElem?_eq_some_iff.1 hb)
      obtain ⟨hlt, hget⟩ := hl
      have : w.heap.setIfInBounds b (.map es clock) = w.heap := by
        rw [← hget]
        apply Array.ext_getElem?
        intro i
        rw [Array.getElem?_setIfInBounds]
        split
        · rename_i hi; subst hi; simp [hlt]
        · rfl
      simp [Go.ChangeMaps.setBlock, this]
    rw [e1, e2]
    exact ⟨_, _, H, rfl⟩
end Go.Proofs.Ytoalihdempcbjaa
