/- weave's weaver in memory: putting a triangle, asking for a spot's number. -/
import Derived.Test.YtoalihdempcbjaaWv
namespace Go.Proofs.Ytoalihdempcbjaa
open Go.RowKit
open Go.Maps (Keyed)
set_option maxRecDepth 100000
set_option linter.unusedSimpArgs false
set_option linter.unusedVariables false
theorem zeroI (w : World) : (zeroValue 3).run Try.prog w = .ok (.int .i64 0) w := by kernel_rfl
theorem wv_sz {w : World} {B b n : Nat} {R : Rt} {ts : List T3} (h : Wv w B b R n ts) : B ≤ b ∧ b < w.heap.size := by
  obtain ⟨sp, tp, bm, D, h⟩ := h
  exact ⟨h.hBb, blk_sz (by simp [cW]) h.cells⟩
theorem lit_int {a b : Int} (h : (DataW.lit (.int .i64 a) : Du) = .lit (.int .i64 b)) : a = b := by
  injection h with h; injection h
set_option maxHeartbeats 2000000 in
theorem inner_any (B bk : Nat) (R : Rt) (hR : R.ok) (a b : Nat) (ha : 1 ≤ a ∧ a < R.m) (hb : 1 ≤ b ∧ b < R.m) (ts : List T3) (w : World) (h : Wv w B bk R (spotsN R).length ts) :
    Calls Try.prog 45 #[.pointer (some ⟨bk, 0, none⟩), .int .i64 (a : Int), .int .i64 (b : Int)] w fun e w' => e = .returned (.int .i64 (inn R a b : Int)) ∧ w = w' := by
  obtain ⟨sp, tp, bm, D, h⟩ := h
  have hv := vs_inner ha hb
  have c6 : w.cell? ⟨bk, 6, none⟩ = some (.map (some bm)) := h.cells 6
  have HA := h.holds _ hv (nm_lt R hR _ hv)
  have HK := Lib.hid (keyOf_S (3, a, b) (vs_sm hR hv))
  have HM := Lib.hid h.map
  have HA := Lib.hid HA
  clear h hv
  go_enter Try.func45, Try.ntmps45
  go_wp2_with (at_lookup; refine wpList_lookup_own_int _ rfl _ _ 65 rfl 50 3 .i64 lawS Try.underlying65 Try.underlying3 (zeroI _) bm _ _ rfl HM.out _ (klS (3, a, b)) rfl HK.out ?_; intro c hat hwc; have hc : c = (inn R a b : Int) := lit_int (hat.symm.trans HA.out); clear hat; subst hc)
  go_ret
  exact ⟨rfl, rfl⟩
set_option maxHeartbeats 2000000 in
theorem outer_any (B bk : Nat) (R : Rt) (hR : R.ok) (k i : Nat) (hk : k < 4) (hi : i ≤ R.r k) (ts : List T3) (w : World) (h : Wv w B bk R (spotsN R).length ts) :
    Calls Try.prog 46 #[.pointer (some ⟨bk, 0, none⟩), .int .i64 (k : Int), .int .i64 (i : Int)] w fun e w' => e = .returned (.int .i64 (ou R k i : Int)) ∧ w = w' := by
  obtain ⟨sp, tp, bm, D, h⟩ := h
  have c6 : w.cell? ⟨bk, 6, none⟩ = some (.map (some bm)) := h.cells 6
  have ck : w.cell? ⟨bk, k, none⟩ = some (.int .i64 (R.r k : Int)) := by
    rw [h.cells k]
    match k, hk with
    | 0, _ => rfl
    | 1, _ => rfl
    | 2, _ => rfl
    | 3, _ => rfl
  have hr := Rt.ok_r hR k
  obtain ⟨r, hr'⟩ : ∃ r, R.r k = r := ⟨_, rfl⟩
  rw [hr'] at ck hi hr
  have hk0 : (0 : Int) ≤ (k : Int) := by omega
  have hk1 : (k : Int) < 4 := by omega
  by_cases h0 : i = 0
  · subst h0
    have e : ou R k 0 = k := by simp [ou]
    rw [e]
    clear h
    go_enter Try.func46, Try.ntmps46
    go_wp2_with fail
    go_ret
    exact ⟨rfl, rfl⟩
  have z0 : ¬ ((i : Int) = 0) := by omega
  have z1 : ((i : Int) == 0) = false := beq_eq_false_iff_ne.mpr z0
  by_cases h1 : i = r
  · have e : (ou R k i : Int) = ((k : Int) + 1) % 4 := by rw [ou, if_neg h0, hr', if_pos h1]; omega
    subst h1
    rw [e]
    clear h h0 hr'
    go_enter Try.func46, Try.ntmps46
    go_wp2_with fail
    go_ret
    exact ⟨rfl, rfl⟩
  · have z2 : ¬ ((i : Int) = (r : Int)) := by omega
    have z3 : ((i : Int) == (r : Int)) = false := beq_eq_false_iff_ne.mpr z2
    have hv : vs R (2, k, i) := vs_edge hk (by omega)
    have HA := h.holds _ hv (nm_lt R hR _ hv)
    have HK := Lib.hid (keyOf_S (2, k, i) (vs_sm hR hv))
    have HM := Lib.hid h.map
    have e : ou R k i = nm R (2, k, i) := by rw [ou, if_neg h0, hr', if_neg h1]
    rw [← e] at HA
    have HA := Lib.hid HA
    clear h hv hr' e
    go_enter Try.func46, Try.ntmps46
    go_wp2_with (at_lookup; refine wpList_lookup_own_int _ rfl _ _ 65 rfl 50 3 .i64 lawS Try.underlying65 Try.underlying3 (zeroI _) bm _ _ rfl HM.out _ (klS (2, k, i)) rfl HK.out ?_; intro c hat hwc; have hc : c = (ou R k i : Int) := lit_int (hat.symm.trans HA.out); clear hat; subst hc)
    go_ret
    exact ⟨rfl, rfl⟩
end Go.Proofs.Ytoalihdempcbjaa
