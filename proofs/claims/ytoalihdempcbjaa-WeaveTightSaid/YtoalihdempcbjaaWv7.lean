/- weave's weaver in memory: weaving the strip beside a side. -/
import Derived.Test.YtoalihdempcbjaaWv6
import Derived.BigGuardPart
namespace Go.Proofs.Ytoalihdempcbjaa
open Go.RowKit
open Go.Maps (Keyed)
set_option maxRecDepth 100000
set_option linter.unusedSimpArgs false
set_option linter.unusedVariables false
def SpRel (B b : Nat) (R : Rt) (w : World) (ts : List T3) (k r m : Nat) (g : Nat) (vi vt : Value) (wr : World) : Prop :=
  ∃ (i t : Nat) (d : List T3), i ≤ r ∧ 1 ≤ t ∧ t ≤ m - 1 ∧ g = (r - i) + (m - 1 - t) ∧ vi = .int .i64 (i : Int) ∧ vt = .int .i64 (t : Int) ∧ Wv wr B b R (spotsN R).length (ts ++ d) ∧ d ++ stripF R k g i t = stripN R k ∧ Below B w wr
theorem strip_o {R : Rt} {k f i t : Nat} (h : takeO R k i t = true) : stripF R k (f + 1) i t = (ou R k i, ou R k (i + 1), bes R k t) :: stripF R k f (i + 1) t := by rw [stripF, if_pos h]
theorem strip_t {R : Rt} {k f i t : Nat} (h : takeO R k i t = false) : stripF R k (f + 1) i t = (ou R k i, bes R k (t + 1), bes R k t) :: stripF R k f i (t + 1) := by rw [stripF, if_neg (by rw [h]; exact Bool.false_ne_true)]
theorem outer_at (B bk : Nat) (R : Rt) (hR : R.ok) (k i : Nat) (p : Int) (hp : (i : Int) = p) (hk : k < 4) (hi : i ≤ R.r k) (ts : List T3) (w : World) (h : Wv w B bk R (spotsN R).length ts) :
    Calls Try.prog 46 #[.pointer (some ⟨bk, 0, none⟩), .int .i64 (k : Int), .int .i64 p] w fun e w' => e = .returned (.int .i64 (ou R k i : Int)) ∧ w = w' := by
  subst hp; exact outer_any B bk R hR k i hk hi ts w h
theorem beside_at (B bk : Nat) (R : Rt) (hR : R.ok) (k t : Nat) (p : Int) (hp : (t : Int) = p) (hk : k < 4) (ht : 1 ≤ t ∧ t < R.m) (ts : List T3) (w : World) (h : Wv w B bk R (spotsN R).length ts) :
    Calls Try.prog 47 #[.pointer (some ⟨bk, 0, none⟩), .int .i64 (k : Int), .int .i64 p] w fun e w' => e = .returned (.int .i64 (bes R k t : Int)) ∧ Below w.heap.size w w' := by
  subst hp; exact beside_any B bk R hR k t hk ht ts w h
set_option maxHeartbeats 8000000 in
theorem strip_any (B b : Nat) (R : Rt) (hR : R.ok) (hm2 : 2 ≤ R.m) (k : Nat) (hk : k < 4) (ts : List T3) (hts : ts.length ≤ 2000) (w : World) (h : Wv w B b R (spotsN R).length ts) :
    Calls Try.prog 38 #[.pointer (some ⟨b, 0, none⟩), .int .i64 (k : Int)] w fun e w' => e = .returned (.tuple #[]) ∧ Wv w' B b R (spotsN R).length (ts ++ stripN R k) ∧ Below B w w' := by
  have hm := Rt.ok_m hR
  have hr := Rt.ok_r hR k
  have hsl : (stripN R k).length ≤ 40 := by rw [stripN, stripF_len]; omega
  obtain ⟨m, hm'⟩ : ∃ m, R.m = m := ⟨_, rfl⟩
  obtain ⟨r, hr'⟩ : ∃ r, R.r k = r := ⟨_, rfl⟩
  have OA := Lib.hid (fun i p hp hi ts w h => outer_at B b R hR k i p hp hk hi ts w h)
  have BA := Lib.hid (fun t p hp ht ts w h => beside_at B b R hR k t p hp hk ht ts w h)
  have TR := Lib.hid (fun x y z n ts hts w h => tri_any B b R x y z n ts hts w h)
  rw [hm'] at hm hm2 hr BA
  rw [hr'] at hr OA
  have c4 := wv_most h
  have ck := wv_rate h k hk
  rw [hm'] at c4
  rw [hr'] at ck
  have HH := Lib.hid h
  have HSL := Lib.hid hsl
  have TO : Hid (∀ i t, takeO R k i t = (decide (i < r) && (decide (t = m - 1) || decide ((2 * i + 1) * m ≤ (2 * t + 1) * r)))) := Lib.hid (fun i t => by rw [takeO, hm', hr'])
  have hk0 : (0 : Int) ≤ (k : Int) := by omega
  have hk1 : (k : Int) < 4 := by omega
  obtain ⟨l, hl⟩ : ∃ l, m - 1 = l := ⟨_, rfl⟩
  have wL : IntKind.i64.wrap ((m : Int) - 1) = (l : Int) := by rw [IntWalk.i64_in _ (by omega)]; omega
  have hl2 : l < m := by omega
  have HLM := Lib.hid hl
  have HMM := Lib.hid hm'
  have hsn : stripN R k = stripF R k (r + (m - 2)) 0 1 := by rw [stripN, hm', hr']
  have HSN := Lib.hid hsn
  clear hm' hr' h hsl hl hsn
  go_enter Try.func38, Try.ntmps38
  go_wp2_with fail
  go_quiet (fail)
  go_wp2_with fail
  go_loopg [6, 7] (r + (m - 2)) (fun g i t wr => SpRel B b R w ts k r m g i t wr)
  case atStart => exact ⟨0, 1, [], by omega, by omega, by omega, by omega, rfl, rfl, by rw [List.append_nil]; exact wv_step HH.out (below_drewN (Below.refl _ _) _), by rw [List.nil_append]; exact HSN.out.symm, below_drewN (Below.refl _ _) _⟩
  case round =>
    obtain ⟨i, t, d, hi, ht1, ht2, hg, rfl, rfl, hW, hd, hB⟩ := hrel
    rw [HLM.out] at ht2
    have c4' := wv_most hW
    have HW := Lib.hid hW
    have HB := Lib.hid hB
    have HD := Lib.hid hd
    have HG := Lib.hid hg
    have HLEN := Lib.hid (show (ts ++ d).length ≤ 9000 by
      have h1 := HSL.out
      rw [← hd, List.length_append] at h1
      rw [List.length_append]; omega)
    rw [HMM.out] at c4'
    clear hW hB hd hg c4 ck
    by_cases hir : i < r
    · have i1 : (i : Int) < (r : Int) := by omega
      by_cases htl : t = l
      · obtain rfl : t = l := htl
        have HTO := Lib.hid (show takeO R k i t = true from by rw [TO.out]; simp [hir, HLM.out])
        obtain ⟨f, hf⟩ : ∃ f, (r - i) + (m - 1 - t) = f + 1 := ⟨(r - i) + (m - 1 - t) - 1, by have := HLM.out; omega⟩
        have HF := Lib.hid hf
        clear hf
        have O1 := Lib.hid (OA.out i (i : Int) rfl hi)
        have B1 := Lib.hid (BA.out t (t : Int) rfl ⟨ht1, by omega⟩)
        have O2 := Lib.hid (fun ts => OA.out (i + 1) ((i : Int) + 1) (by simp) (by omega) ts)
        go_wp2_with (first
          | (go_at_call 46; ((with_reducible refine (O1.out _ _ HW.out).mono ?_); rintro e w2 ⟨rfl, rfl⟩))
          | (go_at_call 47; ((with_reducible refine (B1.out _ _ HW.out).mono ?_); rintro e w2 ⟨rfl, hB2⟩; have HW2 := Lib.hid (wv_step HW.out hB2); have HB2 := Lib.hid (HB.out.trans (hB2.mono (Nat.le_trans (wv_sz HW.out).1 (Nat.le_of_lt (wv_sz HW.out).2)))); have c42 := wv_most HW2.out; rw [HMM.out] at c42; clear hB2))
          | (go_at_call 46; ((with_reducible refine (O2.out _ _ HW2.out).mono ?_); rintro e w3 ⟨rfl, rfl⟩))
          | (go_at_call 36; ((with_reducible refine (TR.out (ou R k i) (ou R k (i + 1)) (bes R k t) _ _ (Nat.le_trans HLEN.out (by decide)) _ HW2.out).mono ?_); rintro e w4 ⟨rfl, hW4, hB4⟩; have HW4 := Lib.hid hW4; have HB4 := Lib.hid (HB2.out.trans hB4); clear hW4 hB4)))
        go_roundg f
        case measure => have := HG.out; have := HF.out; omega
        case rel => exact ⟨i + 1, t, d ++ [(ou R k i, ou R k (i + 1), bes R k t)], by omega, by omega, by have := HLM.out; omega, by have := HF.out; have := HLM.out; omega, by simp, by simp, by rw [← List.append_assoc]; exact HW4.out, by have h := HD.out; rw [HG.out, HF.out, strip_o HTO.out] at h; rw [List.append_assoc]; exact h, HB4.out⟩
      · have t1 : ¬ ((t : Int) = (l : Int)) := by omega
        have t2 : ((t : Int) == (l : Int)) = false := beq_eq_false_iff_ne.mpr t1
        obtain ⟨P, hP⟩ : ∃ P, (2 * i + 1) * m = P := ⟨_, rfl⟩
        obtain ⟨Q, hQ⟩ : ∃ Q, (2 * t + 1) * r = Q := ⟨_, rfl⟩
        have hP2 : P ≤ 33 * 16 := by rw [← hP]; exact Nat.mul_le_mul (by omega) (by omega)
        have hQ2 : Q ≤ 33 * 16 := by rw [← hQ]; exact Nat.mul_le_mul (by omega) (by omega)
        have wP : IntKind.i64.wrap ((2 * (i : Int) + 1) * (m : Int)) = (P : Int) := by rw [show (2 * (i : Int) + 1) * (m : Int) = (P : Int) by rw [← hP]; simp]; exact IntWalk.i64_in _ (by omega)
        have wQ : IntKind.i64.wrap ((2 * (t : Int) + 1) * (r : Int)) = (Q : Int) := by rw [show (2 * (t : Int) + 1) * (r : Int) = (Q : Int) by rw [← hQ]; simp]; exact IntWalk.i64_in _ (by omega)
        have TO2 := Lib.hid (show takeO R k i t = decide (P ≤ Q) by rw [TO.out, hP, hQ, HLM.out]; simp [hir, htl])
        clear hP hQ
        by_cases hpq : P ≤ Q
        · have p1 : (P : Int) ≤ (Q : Int) := by omega
          have HTO := Lib.hid (show takeO R k i t = true from by rw [TO.out]; rw [← TO.out, TO2.out]; simp [hpq])
          obtain ⟨f, hf⟩ : ∃ f, (r - i) + (m - 1 - t) = f + 1 := ⟨(r - i) + (m - 1 - t) - 1, by have := HLM.out; omega⟩
          have HF := Lib.hid hf
          clear hf
          have O1 := Lib.hid (OA.out i (i : Int) rfl hi)
          have B1 := Lib.hid (BA.out t (t : Int) rfl ⟨ht1, by omega⟩)
          have O2 := Lib.hid (fun ts => OA.out (i + 1) ((i : Int) + 1) (by simp) (by omega) ts)
          go_wp2_with (first
            | (go_at_call 46; ((with_reducible refine (O1.out _ _ HW.out).mono ?_); rintro e w2 ⟨rfl, rfl⟩))
            | (go_at_call 47; ((with_reducible refine (B1.out _ _ HW.out).mono ?_); rintro e w2 ⟨rfl, hB2⟩; have HW2 := Lib.hid (wv_step HW.out hB2); have HB2 := Lib.hid (HB.out.trans (hB2.mono (Nat.le_trans (wv_sz HW.out).1 (Nat.le_of_lt (wv_sz HW.out).2)))); have c42 := wv_most HW2.out; rw [HMM.out] at c42; clear hB2))
            | (go_at_call 46; ((with_reducible refine (O2.out _ _ HW2.out).mono ?_); rintro e w3 ⟨rfl, rfl⟩))
            | (go_at_call 36; ((with_reducible refine (TR.out (ou R k i) (ou R k (i + 1)) (bes R k t) _ _ (Nat.le_trans HLEN.out (by decide)) _ HW2.out).mono ?_); rintro e w4 ⟨rfl, hW4, hB4⟩; have HW4 := Lib.hid hW4; have HB4 := Lib.hid (HB2.out.trans hB4); clear hW4 hB4)))
          go_roundg f
          case measure => have := HG.out; have := HF.out; omega
          case rel => exact ⟨i + 1, t, d ++ [(ou R k i, ou R k (i + 1), bes R k t)], by omega, by omega, by have := HLM.out; omega, by have := HF.out; have := HLM.out; omega, by simp, by simp, by rw [← List.append_assoc]; exact HW4.out, by have h := HD.out; rw [HG.out, HF.out, strip_o HTO.out] at h; rw [List.append_assoc]; exact h, HB4.out⟩
        · have p1 : ¬ (P : Int) ≤ (Q : Int) := by omega
          have HTO := Lib.hid (show takeO R k i t = false from by rw [TO.out]; rw [← TO.out, TO2.out]; simp [hpq])
          obtain ⟨f, hf⟩ : ∃ f, (r - i) + (m - 1 - t) = f + 1 := ⟨(r - i) + (m - 1 - t) - 1, by have := HLM.out; omega⟩
          have HF := Lib.hid hf
          clear hf
          have O1 := Lib.hid (OA.out i (i : Int) rfl hi)
          have B1 := Lib.hid (BA.out t (t : Int) rfl ⟨ht1, by omega⟩)
          have B2 := Lib.hid (fun ts => BA.out (t + 1) ((t : Int) + 1) (by simp) ⟨by omega, by omega⟩ ts)
          go_wp2_with (first
            | (go_at_call 46; ((with_reducible refine (O1.out _ _ HW.out).mono ?_); rintro e w2 ⟨rfl, rfl⟩))
            | (go_at_call 47; ((with_reducible refine (B1.out _ _ HW.out).mono ?_); rintro e w2 ⟨rfl, hB2⟩; have HW2 := Lib.hid (wv_step HW.out hB2); have HB2 := Lib.hid (HB.out.trans (hB2.mono (Nat.le_trans (wv_sz HW.out).1 (Nat.le_of_lt (wv_sz HW.out).2)))); have c42 := wv_most HW2.out; rw [HMM.out] at c42; clear hB2))
            | (go_at_call 47; ((with_reducible refine (B2.out _ _ HW2.out).mono ?_); rintro e w3 ⟨rfl, hB3⟩; have HW3 := Lib.hid (wv_step HW2.out hB3); have HB3 := Lib.hid (HB2.out.trans (hB3.mono (Nat.le_trans (wv_sz HW2.out).1 (Nat.le_of_lt (wv_sz HW2.out).2)))); clear hB3))
            | (go_at_call 36; ((with_reducible refine (TR.out (ou R k i) (bes R k (t + 1)) (bes R k t) _ _ (Nat.le_trans HLEN.out (by decide)) _ HW3.out).mono ?_); rintro e w4 ⟨rfl, hW4, hB4⟩; have HW4 := Lib.hid hW4; have HB4 := Lib.hid (HB3.out.trans hB4); clear hW4 hB4)))
          go_roundg f
          case measure => have := HG.out; have := HF.out; omega
          case rel => exact ⟨i, t + 1, d ++ [(ou R k i, bes R k (t + 1), bes R k t)], by omega, by omega, by have := HLM.out; omega, by have := HF.out; have := HLM.out; omega, by simp, by simp, by rw [← List.append_assoc]; exact HW4.out, by have h := HD.out; rw [HG.out, HF.out, strip_t HTO.out] at h; rw [List.append_assoc]; exact h, HB4.out⟩
    · have i1 : ¬ (i : Int) < (r : Int) := by omega
      by_cases htl : t < l
      · have t1 : (t : Int) < (l : Int) := by omega
        have HTO := Lib.hid (show takeO R k i t = false from by rw [TO.out]; simp [hir])
        obtain ⟨f, hf⟩ : ∃ f, (r - i) + (m - 1 - t) = f + 1 := ⟨(r - i) + (m - 1 - t) - 1, by have := HLM.out; omega⟩
        have HF := Lib.hid hf
        clear hf
        have O1 := Lib.hid (OA.out i (i : Int) rfl hi)
        have B1 := Lib.hid (BA.out t (t : Int) rfl ⟨ht1, by omega⟩)
        have B2 := Lib.hid (fun ts => BA.out (t + 1) ((t : Int) + 1) (by simp) ⟨by omega, by omega⟩ ts)
        go_wp2_with (first
          | (go_at_call 46; ((with_reducible refine (O1.out _ _ HW.out).mono ?_); rintro e w2 ⟨rfl, rfl⟩))
          | (go_at_call 47; ((with_reducible refine (B1.out _ _ HW.out).mono ?_); rintro e w2 ⟨rfl, hB2⟩; have HW2 := Lib.hid (wv_step HW.out hB2); have HB2 := Lib.hid (HB.out.trans (hB2.mono (Nat.le_trans (wv_sz HW.out).1 (Nat.le_of_lt (wv_sz HW.out).2)))); have c42 := wv_most HW2.out; rw [HMM.out] at c42; clear hB2))
          | (go_at_call 47; ((with_reducible refine (B2.out _ _ HW2.out).mono ?_); rintro e w3 ⟨rfl, hB3⟩; have HW3 := Lib.hid (wv_step HW2.out hB3); have HB3 := Lib.hid (HB2.out.trans (hB3.mono (Nat.le_trans (wv_sz HW2.out).1 (Nat.le_of_lt (wv_sz HW2.out).2)))); clear hB3))
          | (go_at_call 36; ((with_reducible refine (TR.out (ou R k i) (bes R k (t + 1)) (bes R k t) _ _ (Nat.le_trans HLEN.out (by decide)) _ HW3.out).mono ?_); rintro e w4 ⟨rfl, hW4, hB4⟩; have HW4 := Lib.hid hW4; have HB4 := Lib.hid (HB3.out.trans hB4); clear hW4 hB4)))
        go_roundg f
        case measure => have := HG.out; have := HF.out; omega
        case rel => exact ⟨i, t + 1, d ++ [(ou R k i, bes R k (t + 1), bes R k t)], by omega, by omega, by have := HLM.out; omega, by have := HF.out; have := HLM.out; omega, by simp, by simp, by rw [← List.append_assoc]; exact HW4.out, by have h := HD.out; rw [HG.out, HF.out, strip_t HTO.out] at h; rw [List.append_assoc]; exact h, HB4.out⟩
      · have t1 : ¬ (t : Int) < (l : Int) := by omega
        have hD : d = stripN R k := by
          have h := HD.out
          rw [HG.out, show (r - i) + (m - 1 - t) = 0 by have := HLM.out; omega, stripF, List.append_nil] at h
          exact h
        have HDD := Lib.hid hD
        clear hD
        go_wp2_with fail
        go_end0
        exact ⟨rfl, by rw [← HDD.out]; exact HW.out, HB.out⟩
end Go.Proofs.Ytoalihdempcbjaa
