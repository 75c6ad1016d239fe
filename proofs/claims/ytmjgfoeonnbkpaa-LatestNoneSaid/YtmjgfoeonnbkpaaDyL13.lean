/- CompactFunc. -/
import Derived.Test.YtmjgfoeonnbkpaaDyL12
set_option linter.unusedSimpArgs false
set_option linter.unusedVariables false
set_option linter.unusedSectionVars false
set_option maxRecDepth 100000
set_option maxHeartbeats 1000000
namespace Go.Proofs
open Go.Dx Go.RowKit

/-- Of neighbours of one sector the first. -/
def ddN (xs : List Pl) : Nat → List Pl
  | 0 => []
  | i + 1 => ddN xs i ++ (if i = 0 ∨ (xs.getD i Pl.zero).pg.se ≠ (xs.getD (i - 1) Pl.zero).pg.se then [xs.getD i Pl.zero] else [])

theorem ddN_take {xs : List Pl} : ∀ k, k ≤ xs.length → (∀ t, 1 ≤ t → t < k → (xs.getD t Pl.zero).pg.se ≠ (xs.getD (t - 1) Pl.zero).pg.se) → ddN xs k = xs.take k
  | 0, _, _ => by simp [ddN]
  | k + 1, hk, h => by
    rw [ddN, ddN_take k (by omega) (fun t h1 h2 => h t h1 (by omega)), take_succ' (getD_some (by omega))]
    congr 1
    by_cases h0 : k = 0
    · simp [h0]
    · rw [if_pos (Or.inr (h k (by omega) (by omega)))]

theorem compact_C (w : World) (b c : Nat) (xs : List Pl) (j : List SV) (hn : xs.length ≤ 100000) (hc : xs.length ≤ c ∧ c ≤ 9223372036854775807)
    (hm : Mem w [b] [⟨101, b, true, .a (rows Pl.f xs ++ j) 29⟩] w) :
    Calls Try.prog 24 #[den (.s 101 b 0 xs.length c), den (.f 25 [])] w fun e w' => ∃ j', e = .returned (den (.s 101 b 0 (ddN xs xs.length).length c)) ∧ Mem w [b] [⟨101, b, true, .a (rows Pl.f (ddN xs xs.length) ++ j') 29⟩] w' := by
  refine calls_of_ex [.s 101 b 0 xs.length c, .f 25 []] _ [b] 3 300 Try.func24 rfl hm (by simp [Try.ntmps24]) fun E hE => ?_
  simp (maxSteps := 2000000) only [go_sem, ↓dxc_true, ↓dxc_false, ↓bxc_true, ↓bxc_false, Nat.zero_add, Nat.add_zero, Nat.zero_mul, Nat.reduceBEq, Nat.reduceAdd, Nat.reduceMul, Nat.reduceSub, Nat.reduceLT, Nat.reduceLeDiff, Nat.reduceEqDiff, Nat.reduceDiv, Nat.reduceMod, Int.reduceAdd, Int.reduceSub, Int.reduceMul, Int.reduceDiv, Int.reduceMod, Int.reduceLT, Int.reduceLE, Int.reduceEq, Int.reduceToNat, Int.reducePow, Int.reduceNeg, ne_eq, not_false_eq_true, not_true_eq_false, decide_true, decide_false, Bool.not_true, Bool.not_false, forall_const, reduceCtorEq, implies_true, beq_self_eq_true, Int.cast_ofNat_Int, reduceIte, if_true, if_false, Bool.false_eq_true, Try.ntmps24, fin_ret hE, Try.results24]
  refine ⟨fun k1 => ?_, fun k1 => ?_⟩
  · have e1 : ddN xs xs.length = xs := by
      rw [ddN_take xs.length (Nat.le_refl _) (fun t h1 h2 => by omega), List.take_length]
    intro w' hm'
    rw [e1]
    exact ⟨j, rfl, hm'⟩
  refine CodeC.loop (γ := { k : Nat // (1 ≤ k ∧ k ≤ xs.length) ∧ ∀ t, 1 ≤ t → t < k → (xs.getD t Pl.zero).pg.se ≠ (xs.getD (t - 1) Pl.zero).pg.se }) (fun g => ⟨66, 3, [(5, .v (.int .i64 (g.1 : Int))), (0, .s 101 b 0 xs.length c), (1, .f 25 [])], [⟨101, b, true, .a (rows Pl.f xs ++ j) 29⟩], []⟩) (fun g => xs.length - g.1)
    ⟨1, ⟨by omega, by omega⟩, by intro t h1 h2; omega⟩ 300 ⟨rfl, rfl, ⟨rfl, rfl, rfl, trivial⟩, SubH.refl _⟩ ?_
  rintro ⟨k, ⟨h1, h2⟩, h3⟩
  simp only
  simp (maxSteps := 2000000) only [go_sem, ↓dxc_true, ↓dxc_false, ↓bxc_true, ↓bxc_false, Nat.zero_add, Nat.add_zero, Nat.zero_mul, Nat.reduceBEq, Nat.reduceAdd, Nat.reduceMul, Nat.reduceSub, Nat.reduceLT, Nat.reduceLeDiff, Nat.reduceEqDiff, Nat.reduceDiv, Nat.reduceMod, Int.reduceAdd, Int.reduceSub, Int.reduceMul, Int.reduceDiv, Int.reduceMod, Int.reduceLT, Int.reduceLE, Int.reduceEq, Int.reduceToNat, Int.reducePow, Int.reduceNeg, ne_eq, not_false_eq_true, not_true_eq_false, decide_true, decide_false, Bool.not_true, Bool.not_false, forall_const, reduceCtorEq, implies_true, beq_self_eq_true, Int.cast_ofNat_Int, reduceIte, if_true, if_false, Bool.false_eq_true, Try.ntmps24, fin_ret hE, Try.results24]
  refine ⟨fun k2 => ?_, fun k2 w' hm' => ?_⟩
  · have hk : k < xs.length := by omega
    have hx1 := getD_some hk
    have hx2 := getD_some (xs := xs) (i := k - 1) (by omega)
    have r1 := rows_ldN Pl.len xs j k _ hx1
    have r2 := rows_ldN Pl.len xs j (k - 1) _ hx2
    have e1 : ((k : Int) - 1).toNat = k - 1 := by omega
    have hlen : (rows Pl.f xs).length = xs.length * 9 := rows_length Pl.len xs
    refine CodeC.lex 300 Try.follows_mixed (by kernel_rfl) ?_
    simp (maxSteps := 2000000) only [go_sem, ↓dxc_true, ↓dxc_false, ↓bxc_true, ↓bxc_false, Nat.zero_add, Nat.add_zero, Nat.zero_mul, Nat.reduceBEq, Nat.reduceAdd, Nat.reduceMul, Nat.reduceSub, Nat.reduceLT, Nat.reduceLeDiff, Nat.reduceEqDiff, Nat.reduceDiv, Nat.reduceMod, Int.reduceAdd, Int.reduceSub, Int.reduceMul, Int.reduceDiv, Int.reduceMod, Int.reduceLT, Int.reduceLE, Int.reduceEq, Int.reduceToNat, Int.reducePow, Int.reduceNeg, ne_eq, not_false_eq_true, not_true_eq_false, decide_true, decide_false, Bool.not_true, Bool.not_false, forall_const, reduceCtorEq, implies_true, beq_self_eq_true, Int.cast_ofNat_Int, reduceIte, if_true, if_false, Bool.false_eq_true, Try.ntmps24, fin_ret hE, Try.results24, Int.toNat_natCast, e1, r1, r2, List.length_append, hlen]
    refine ⟨⟨by omega, by omega⟩, by omega, ⟨by omega, by omega⟩, ⟨by omega, by omega⟩, by omega, ?_⟩
    obtain ⟨x, hxe⟩ : ∃ x, x = xs.getD k Pl.zero := ⟨_, rfl⟩
    obtain ⟨y, hye⟩ : ∃ y, y = xs.getD (k - 1) Pl.zero := ⟨_, rfl⟩
    rw [← hxe, ← hye]
    refine CallD.pur (.v (.bool (decide (x.pg.se = y.pg.se)))) rfl (fun w1 hm1 => same_C w1 x y) ?_
    have hck : ¬ c = k := by omega
    by_cases hxy : x.pg.se = y.pg.se
    · simp (maxSteps := 2000000) only [go_sem, ↓dxc_true, ↓dxc_false, ↓bxc_true, ↓bxc_false, Nat.zero_add, Nat.add_zero, Nat.zero_mul, Nat.reduceBEq, Nat.reduceAdd, Nat.reduceMul, Nat.reduceSub, Nat.reduceLT, Nat.reduceLeDiff, Nat.reduceEqDiff, Nat.reduceDiv, Nat.reduceMod, Int.reduceAdd, Int.reduceSub, Int.reduceMul, Int.reduceDiv, Int.reduceMod, Int.reduceLT, Int.reduceLE, Int.reduceEq, Int.reduceToNat, Int.reducePow, Int.reduceNeg, ne_eq, not_false_eq_true, not_true_eq_false, decide_true, decide_false, Bool.not_true, Bool.not_false, forall_const, reduceCtorEq, implies_true, beq_self_eq_true, Int.cast_ofNat_Int, reduceIte, if_true, if_false, Bool.false_eq_true, Try.ntmps24, fin_ret hE, Try.results24, hxy, Int.toNat_natCast, hck]
      refine ⟨⟨by omega, by omega⟩, ?_⟩
      have d0 : ddN xs (k + 1) = xs.take k := by
        rw [ddN, ddN_take k (by omega) h3, if_neg, List.append_nil]
        rintro (h | h)
        · omega
        · exact h (by rw [← hxe, ← hye]; exact hxy)
      refine CodeC.loop (γ := { g : Nat × Nat × List Pl // (1 ≤ g.1 ∧ k + g.1 ≤ xs.length) ∧ g.2.2.length = xs.length ∧ g.2.1 = (ddN xs (k + g.1)).length ∧ g.2.1 + 1 ≤ k + g.1 ∧ g.2.2.take g.2.1 = ddN xs (k + g.1) ∧ ∀ t, k + g.1 ≤ t + 1 → g.2.2.getD t Pl.zero = xs.getD t Pl.zero })
        (fun g => ⟨66, 3, [(7, .v (.int .i64 (g.1.1 : Int))), (5, .v (.int .i64 (g.1.2.1 : Int))), (6, .s 101 b (k * 9) (xs.length - k) (c - k)), (0, .s 101 b 0 xs.length c), (1, .f 25 [])], [⟨101, b, true, .a (rows Pl.f g.1.2.2 ++ j) 29⟩], []⟩) (fun g => xs.length - g.1.1)
        ⟨(1, k, xs), ⟨by simp only; omega, by simp only; omega⟩, rfl, by simp only; rw [d0]; simp; omega, by simp only; omega, by simp only; rw [d0], fun t _ => rfl⟩ 300 ⟨rfl, rfl, ⟨rfl, rfl, rfl, rfl, rfl, trivial⟩, SubH.refl _⟩ ?_
      rintro ⟨⟨q, kk, ys⟩, ⟨q1, q2⟩, q3, q4, q5, q6, q7⟩
      simp only at q1 q2 q3 q4 q5 q6 q7
      have hly : (rows Pl.f ys).length = xs.length * 9 := by rw [rows_length Pl.len, q3]
      simp (maxSteps := 2000000) only [go_sem, ↓dxc_true, ↓dxc_false, ↓bxc_true, ↓bxc_false, Nat.zero_add, Nat.add_zero, Nat.zero_mul, Nat.reduceBEq, Nat.reduceAdd, Nat.reduceMul, Nat.reduceSub, Nat.reduceLT, Nat.reduceLeDiff, Nat.reduceEqDiff, Nat.reduceDiv, Nat.reduceMod, Int.reduceAdd, Int.reduceSub, Int.reduceMul, Int.reduceDiv, Int.reduceMod, Int.reduceLT, Int.reduceLE, Int.reduceEq, Int.reduceToNat, Int.reducePow, Int.reduceNeg, ne_eq, not_false_eq_true, not_true_eq_false, decide_true, decide_false, Bool.not_true, Bool.not_false, forall_const, reduceCtorEq, implies_true, beq_self_eq_true, Int.cast_ofNat_Int, reduceIte, if_true, if_false, Bool.false_eq_true, Try.ntmps24, fin_ret hE, Try.results24]
      refine ⟨fun u1 => ?_, fun u1 => ?_⟩
      · have hq : k + q < xs.length := by omega
        have s1 := rows_ldN Pl.len ys j (k + q) _ (getD_some (by omega))
        have s2 := rows_ldN Pl.len ys j (k + q - 1) _ (getD_some (by omega))
        rw [q7 _ (by omega)] at s1 s2
        rw [show (k + q) * 9 = k * 9 + q * 9 by omega] at s1
        rw [show (k + q - 1) * 9 = k * 9 + (q - 1) * 9 by omega] at s2
        have f1 : ((q : Int) - 1).toNat = q - 1 := by omega
        refine CodeC.lex 300 Try.follows_mixed (by kernel_rfl) ?_
        simp (maxSteps := 2000000) only [go_sem, ↓dxc_true, ↓dxc_false, ↓bxc_true, ↓bxc_false, Nat.zero_add, Nat.add_zero, Nat.zero_mul, Nat.reduceBEq, Nat.reduceAdd, Nat.reduceMul, Nat.reduceSub, Nat.reduceLT, Nat.reduceLeDiff, Nat.reduceEqDiff, Nat.reduceDiv, Nat.reduceMod, Int.reduceAdd, Int.reduceSub, Int.reduceMul, Int.reduceDiv, Int.reduceMod, Int.reduceLT, Int.reduceLE, Int.reduceEq, Int.reduceToNat, Int.reducePow, Int.reduceNeg, ne_eq, not_false_eq_true, not_true_eq_false, decide_true, decide_false, Bool.not_true, Bool.not_false, forall_const, reduceCtorEq, implies_true, beq_self_eq_true, Int.cast_ofNat_Int, reduceIte, if_true, if_false, Bool.false_eq_true, Try.ntmps24, fin_ret hE, Try.results24, Int.toNat_natCast, f1, s1, s2, List.length_append, hly]
        refine ⟨⟨by omega, by omega⟩, by omega, ⟨by omega, by omega⟩, ⟨by omega, by omega⟩, by omega, ?_⟩
        refine CallD.pur (.v (.bool (decide ((xs.getD (k + q) Pl.zero).pg.se = (xs.getD (k + q - 1) Pl.zero).pg.se)))) rfl (fun w1 hm1 => same_C w1 _ _) ?_
        by_cases hse : (xs.getD (k + q) Pl.zero).pg.se = (xs.getD (k + q - 1) Pl.zero).pg.se
        · simp (maxSteps := 2000000) only [go_sem, ↓dxc_true, ↓dxc_false, ↓bxc_true, ↓bxc_false, Nat.zero_add, Nat.add_zero, Nat.zero_mul, Nat.reduceBEq, Nat.reduceAdd, Nat.reduceMul, Nat.reduceSub, Nat.reduceLT, Nat.reduceLeDiff, Nat.reduceEqDiff, Nat.reduceDiv, Nat.reduceMod, Int.reduceAdd, Int.reduceSub, Int.reduceMul, Int.reduceDiv, Int.reduceMod, Int.reduceLT, Int.reduceLE, Int.reduceEq, Int.reduceToNat, Int.reducePow, Int.reduceNeg, ne_eq, not_false_eq_true, not_true_eq_false, decide_true, decide_false, Bool.not_true, Bool.not_false, forall_const, reduceCtorEq, implies_true, beq_self_eq_true, Int.cast_ofNat_Int, reduceIte, if_true, if_false, Bool.false_eq_true, Try.ntmps24, fin_ret hE, Try.results24, hse]
          have d1 : ddN xs (k + (q + 1)) = ddN xs (k + q) := by
            rw [← Nat.add_assoc, ddN, if_neg, List.append_nil]
            rintro (h | h)
            · omega
            · exact h hse
          refine ⟨⟨by omega, by omega⟩, ⟨(q + 1, kk, ys), ⟨by simp only; omega, by simp only; omega⟩, q3, by simp only; rw [d1]; exact q4, by simp only; omega, by simp only; rw [d1]; exact q6, fun t ht => q7 t (by simp only at ht; omega)⟩, ⟨rfl, rfl, ⟨by simp [lk], rfl, rfl, rfl, rfl, trivial⟩, SubH.refl _⟩, by simp only; omega⟩
        · have s3 := rows_stN Pl.len ys j kk (by omega) (xs.getD (k + q) Pl.zero)
          simp (maxSteps := 2000000) only [go_sem, ↓dxc_true, ↓dxc_false, ↓bxc_true, ↓bxc_false, Nat.zero_add, Nat.add_zero, Nat.zero_mul, Nat.reduceBEq, Nat.reduceAdd, Nat.reduceMul, Nat.reduceSub, Nat.reduceLT, Nat.reduceLeDiff, Nat.reduceEqDiff, Nat.reduceDiv, Nat.reduceMod, Int.reduceAdd, Int.reduceSub, Int.reduceMul, Int.reduceDiv, Int.reduceMod, Int.reduceLT, Int.reduceLE, Int.reduceEq, Int.reduceToNat, Int.reducePow, Int.reduceNeg, ne_eq, not_false_eq_true, not_true_eq_false, decide_true, decide_false, Bool.not_true, Bool.not_false, forall_const, reduceCtorEq, implies_true, beq_self_eq_true, Int.cast_ofNat_Int, reduceIte, if_true, if_false, Bool.false_eq_true, Try.ntmps24, fin_ret hE, Try.results24, hse, Int.toNat_natCast, s1, s3, List.length_append, hly, Pl.len, Pl.one]
          have d1 : ddN xs (k + (q + 1)) = ddN xs (k + q) ++ [xs.getD (k + q) Pl.zero] := by
            rw [← Nat.add_assoc, ddN, if_pos (Or.inr hse)]
          have hkk : kk < ys.length := by omega
          have d2 : (ys.set kk (xs.getD (k + q) Pl.zero)).take (kk + 1) = ddN xs (k + (q + 1)) := by
            rw [d1, ← q6]
            have : (ys.set kk (xs.getD (k + q) Pl.zero))[kk]? = some (xs.getD (k + q) Pl.zero) := by rw [List.getElem?_set]; simp [hkk]
            rw [take_succ' this, List.take_set_of_le (Nat.le_refl _)]
          refine ⟨⟨by omega, by omega⟩, by omega, ⟨by omega, by omega⟩, by omega, ⟨by omega, by omega⟩, ⟨by omega, by omega⟩, ⟨(q + 1, kk + 1, ys.set kk (xs.getD (k + q) Pl.zero)), ⟨by simp only; omega, by simp only; omega⟩, by simp only [List.length_set]; exact q3, by simp only; rw [d1, List.length_append, ← q4]; rfl, by simp only; omega, d2, fun t ht => ?_⟩, ⟨rfl, rfl, ⟨by simp [lk], (by show SV.v (.int .i64 ((kk : Int) + 1)) = _; simp), rfl, rfl, rfl, trivial⟩, SubH.refl _⟩, by simp only; omega⟩
          simp only at ht
          rw [← q7 t (by omega)]
          simp only [List.getD, List.getElem?_set]
          rw [if_neg (by omega)]
      · have hq : k + q = xs.length := by omega
        rw [hq] at q4 q5 q6
        have hck2 : ¬ c = kk := by omega
        simp (maxSteps := 2000000) only [go_sem, ↓dxc_true, ↓dxc_false, ↓bxc_true, ↓bxc_false, Nat.zero_add, Nat.add_zero, Nat.zero_mul, Nat.reduceBEq, Nat.reduceAdd, Nat.reduceMul, Nat.reduceSub, Nat.reduceLT, Nat.reduceLeDiff, Nat.reduceEqDiff, Nat.reduceDiv, Nat.reduceMod, Int.reduceAdd, Int.reduceSub, Int.reduceMul, Int.reduceDiv, Int.reduceMod, Int.reduceLT, Int.reduceLE, Int.reduceEq, Int.reduceToNat, Int.reducePow, Int.reduceNeg, ne_eq, not_false_eq_true, not_true_eq_false, decide_true, decide_false, Bool.not_true, Bool.not_false, forall_const, reduceCtorEq, implies_true, beq_self_eq_true, Int.cast_ofNat_Int, reduceIte, if_true, if_false, Bool.false_eq_true, Try.ntmps24, fin_ret hE, Try.results24, Int.toNat_natCast, hck2]
        refine ⟨⟨by omega, by omega, by omega⟩, ?_⟩
        refine LeafC.clear (T := 32) (e := 29) (sz := 9) Try.ty32 Try.zv29 rfl (by decide) rfl (x := .tmp 61) (t := 101) (b := b) (o := kk * 9) (n := xs.length - kk) (c := c - kk) rfl (l := rows Pl.f ys ++ j) (e' := 29) rfl (Or.inr (by rw [List.length_append, hly]; omega)) 300 ?_
        simp (maxSteps := 2000000) only [go_sem, ↓dxc_true, ↓dxc_false, ↓bxc_true, ↓bxc_false, Nat.zero_add, Nat.add_zero, Nat.zero_mul, Nat.reduceBEq, Nat.reduceAdd, Nat.reduceMul, Nat.reduceSub, Nat.reduceLT, Nat.reduceLeDiff, Nat.reduceEqDiff, Nat.reduceDiv, Nat.reduceMod, Int.reduceAdd, Int.reduceSub, Int.reduceMul, Int.reduceDiv, Int.reduceMod, Int.reduceLT, Int.reduceLE, Int.reduceEq, Int.reduceToNat, Int.reducePow, Int.reduceNeg, ne_eq, not_false_eq_true, not_true_eq_false, decide_true, decide_false, Bool.not_true, Bool.not_false, forall_const, reduceCtorEq, implies_true, beq_self_eq_true, Int.cast_ofNat_Int, reduceIte, if_true, if_false, Bool.false_eq_true, Try.ntmps24, fin_ret hE, Try.results24, Int.toNat_natCast, Nat.sub_zero, ite_self]
        refine ⟨⟨by omega, by omega⟩, fun w' hm' => ?_⟩
        rw [if_neg (by omega)] at hm'
        have hz : (rpt (xs.length - kk) [SV.v (.int .i64 0), .v (.int .i64 0), .v (.int .u32 0), .v (.int .u32 0), .v (.bool false), .v (.int .u32 0), .v (.int .u32 0), .v (.int .u32 0), .v (.int .u32 0)]).length = (xs.length - kk) * 9 := rpt_length _ _
        have ht : (rows Pl.f ys ++ j).take (kk * 9) = rows Pl.f (ddN xs xs.length) := by
          have h4 : ys = ys.take kk ++ ys.drop kk := (List.take_append_drop _ _).symm
          have h5 : (rows Pl.f (ys.take kk)).length = kk * 9 := by rw [rows_length Pl.len, q6, ← q4]
          rw [h4, rows_append, List.append_assoc, List.take_left' h5, q6]
        rw [stN_eq _ _ _ (by rw [hz, List.length_append, hly]; omega), ht, List.append_assoc] at hm'
        exact ⟨_, by rw [← q4], hm'⟩
    · simp (maxSteps := 2000000) only [go_sem, ↓dxc_true, ↓dxc_false, ↓bxc_true, ↓bxc_false, Nat.zero_add, Nat.add_zero, Nat.zero_mul, Nat.reduceBEq, Nat.reduceAdd, Nat.reduceMul, Nat.reduceSub, Nat.reduceLT, Nat.reduceLeDiff, Nat.reduceEqDiff, Nat.reduceDiv, Nat.reduceMod, Int.reduceAdd, Int.reduceSub, Int.reduceMul, Int.reduceDiv, Int.reduceMod, Int.reduceLT, Int.reduceLE, Int.reduceEq, Int.reduceToNat, Int.reducePow, Int.reduceNeg, ne_eq, not_false_eq_true, not_true_eq_false, decide_true, decide_false, Bool.not_true, Bool.not_false, forall_const, reduceCtorEq, implies_true, beq_self_eq_true, Int.cast_ofNat_Int, reduceIte, if_true, if_false, Bool.false_eq_true, Try.ntmps24, fin_ret hE, Try.results24, hxy]
      refine ⟨⟨by omega, by omega⟩, ⟨k + 1, ⟨by omega, by omega⟩, fun t t1 t2 => ?_⟩, ⟨rfl, rfl, ⟨by simp [lk], rfl, rfl, trivial⟩, SubH.refl _⟩, by simp only; omega⟩
      by_cases htk : t = k
      · subst htk
        rw [← hxe, ← hye]
        exact hxy
      · exact h3 t t1 (by omega)
  · have hk : k = xs.length := by omega
    subst hk
    rw [ddN_take xs.length (Nat.le_refl _) h3, List.take_length]
    exact ⟨j, rfl, hm'⟩

end Go.Proofs
