/- The document's device: its registers; the very same sectors. -/
import Derived.Test.YtjljcinpmakhmaaDyS6
import Derived.Test.YtjljcinpmakhmaaDxU
set_option linter.unusedSimpArgs false
set_option linter.unusedVariables false
set_option linter.unusedSectionVars false
set_option maxRecDepth 100000
set_option maxHeartbeats 4000000
namespace Go.Proofs
open Go.Dx Go.RowKit

theorem rget_C (w : World) (rb n c : Nat) (d : DV) (hd : d.Ok n) (reg : Int) (hreg : -9223372036854775808 ≤ reg ∧ reg ≤ 9223372036854775807) :
    Calls Try.prog 11 #[den (.g (refL d (.s 100 rb 0 n c))), .int .i64 reg] w fun e w' =>
      e = .returned (den (.u [.g (refL (getS d n reg).1 (.s 100 rb 0 n c)), .v (.int .u32 (getS d n reg).2.1), .v (.int .i64 (getS d n reg).2.2)])) ∧ Below w.heap.size w w' := by
  have hm : Mem w [] [] w := Mem.reads (by simp) (by simp)
  refine calls_of_ex [.g (refL d (.s 100 rb 0 n c)), .v (.int .i64 reg)] _ [] 3 400 Try.func11 rfl hm (by simp [Try.ntmps11]) fun E hE => ?_
  have hb := hd.buf
  have hp := hd.pl
  have hn := hd.n
  have e1 : ∀ y u r, stN (nums .u32 d.buf ++ y :: r) 16 [u] = nums .u32 d.buf ++ u :: r := fun y u r => stN_end .u32 d.buf y u r 16 hb
  have e0 : ∀ y r, ld1 (nums .u32 d.buf ++ y :: r) 16 = y := fun y r => ld1_end .u32 d.buf y r 16 hb
  have e3 : ∀ y z r, ld1 (nums .u32 d.buf ++ y :: z :: r) 17 = z := fun y z r => ld1_end2 .u32 d.buf y z r 16 hb
  have e4 : ((d.pl : Int) + 1) % 16 = (((d.pl + 1) % 16 : Nat) : Int) := by omega
  have e5 : (n : Int) % 4294967296 = n := by omega
  have e6 : ∀ r, ld1 (nums .u32 d.buf ++ r) d.pl = .v (.int .u32 (d.buf.getD d.pl 0)) := fun r => ld1_own (by omega)
  by_cases r0 : reg = 0
  · subst r0
    simp (maxSteps := 2000000) only [go_sem, ↓dxc_true, ↓dxc_false, ↓bxc_true, ↓bxc_false, Nat.zero_add, Nat.add_zero, Nat.zero_mul, Nat.reduceBEq, Nat.reduceAdd, Nat.reduceMul, Nat.reduceSub, Nat.reduceLT, Nat.reduceLeDiff, Nat.reduceEqDiff, Nat.reduceDiv, Nat.reduceMod, Int.reduceAdd, Int.reduceSub, Int.reduceMul, Int.reduceDiv, Int.reduceMod, Int.reduceLT, Int.reduceLE, Int.reduceEq, Int.reduceToNat, Int.reducePow, Int.reduceNeg, ne_eq, not_false_eq_true, not_true_eq_false, decide_true, decide_false, Bool.not_true, Bool.not_false, forall_const, reduceCtorEq, implies_true, beq_self_eq_true, Int.cast_ofNat_Int, reduceIte, if_true, if_false, Bool.false_eq_true, refL, Try.ntmps11, fin_ret hE, Try.results11, List.length_append, nums_length, hb, allOne_append, allOne_nums]
    exact fun b b1 w' hm' => ⟨rfl, hm'.below⟩
  by_cases r1 : reg = 1
  · subst r1
    simp (maxSteps := 2000000) only [go_sem, ↓dxc_true, ↓dxc_false, ↓bxc_true, ↓bxc_false, Nat.zero_add, Nat.add_zero, Nat.zero_mul, Nat.reduceBEq, Nat.reduceAdd, Nat.reduceMul, Nat.reduceSub, Nat.reduceLT, Nat.reduceLeDiff, Nat.reduceEqDiff, Nat.reduceDiv, Nat.reduceMod, Int.reduceAdd, Int.reduceSub, Int.reduceMul, Int.reduceDiv, Int.reduceMod, Int.reduceLT, Int.reduceLE, Int.reduceEq, Int.reduceToNat, Int.reducePow, Int.reduceNeg, ne_eq, not_false_eq_true, not_true_eq_false, decide_true, decide_false, Bool.not_true, Bool.not_false, forall_const, reduceCtorEq, implies_true, beq_self_eq_true, Int.cast_ofNat_Int, reduceIte, if_true, if_false, Bool.false_eq_true, refL, Try.ntmps11, fin_ret hE, Try.results11, List.length_append, nums_length, hb, allOne_append, allOne_nums]
    refine fun b b1 => CodeC.orders (.b 0 (.b 1 (.b 2 (.b 3 (.b 4 (.b 5 .e .z) .z) .z) (.b 3 (.b 2 (.b 4 (.b 5 .e .z) .z) .z) .z)) (.b 3 (.b 1 (.b 2 (.b 4 (.b 5 .e .z) .z) .z) .z) .z)) (.b 1 (.b 0 (.b 2 (.b 3 (.b 4 (.b 5 .e .z) .z) .z) (.b 3 (.b 2 (.b 4 (.b 5 .e .z) .z) .z) .z)) (.b 2 (.b 0 (.b 3 (.b 4 (.b 5 .e .z) .z) .z) .z) .z)) .z)) 400 Try.follows_mixed (by kernel_rfl) ?_
    simp (maxSteps := 2000000) only [go_sem, ↓dxc_true, ↓dxc_false, ↓bxc_true, ↓bxc_false, Nat.zero_add, Nat.add_zero, Nat.zero_mul, Nat.reduceBEq, Nat.reduceAdd, Nat.reduceMul, Nat.reduceSub, Nat.reduceLT, Nat.reduceLeDiff, Nat.reduceEqDiff, Nat.reduceDiv, Nat.reduceMod, Int.reduceAdd, Int.reduceSub, Int.reduceMul, Int.reduceDiv, Int.reduceMod, Int.reduceLT, Int.reduceLE, Int.reduceEq, Int.reduceToNat, Int.reducePow, Int.reduceNeg, ne_eq, not_false_eq_true, not_true_eq_false, decide_true, decide_false, Bool.not_true, Bool.not_false, forall_const, reduceCtorEq, implies_true, beq_self_eq_true, Int.cast_ofNat_Int, reduceIte, if_true, if_false, Bool.false_eq_true, refL, Try.ntmps11, fin_ret hE, Try.results11, List.length_append, nums_length, hb, allOne_append, allOne_nums]
    repeat' (refine And.intro ?_ ?_)
    all_goals exact fun w' hm' => ⟨rfl, hm'.below⟩
  by_cases r2 : reg = 2
  · subst r2
    simp (maxSteps := 2000000) only [go_sem, ↓dxc_true, ↓dxc_false, ↓bxc_true, ↓bxc_false, Nat.zero_add, Nat.add_zero, Nat.zero_mul, Nat.reduceBEq, Nat.reduceAdd, Nat.reduceMul, Nat.reduceSub, Nat.reduceLT, Nat.reduceLeDiff, Nat.reduceEqDiff, Nat.reduceDiv, Nat.reduceMod, Int.reduceAdd, Int.reduceSub, Int.reduceMul, Int.reduceDiv, Int.reduceMod, Int.reduceLT, Int.reduceLE, Int.reduceEq, Int.reduceToNat, Int.reducePow, Int.reduceNeg, ne_eq, not_false_eq_true, not_true_eq_false, decide_true, decide_false, Bool.not_true, Bool.not_false, forall_const, reduceCtorEq, implies_true, beq_self_eq_true, Int.cast_ofNat_Int, reduceIte, if_true, if_false, Bool.false_eq_true, refL, Try.ntmps11, fin_ret hE, Try.results11, List.length_append, nums_length, hb, allOne_append, allOne_nums]
    refine fun b b1 => CodeC.orders (.b 0 (.b 1 (.b 2 (.b 3 (.b 4 (.b 5 .e .z) .z) .z) (.b 3 (.b 2 (.b 4 (.b 5 .e .z) .z) .z) .z)) (.b 3 (.b 1 (.b 2 (.b 4 (.b 5 .e .z) .z) .z) .z) .z)) (.b 1 (.b 0 (.b 2 (.b 3 (.b 4 (.b 5 .e .z) .z) .z) (.b 3 (.b 2 (.b 4 (.b 5 .e .z) .z) .z) .z)) (.b 2 (.b 0 (.b 3 (.b 4 (.b 5 .e .z) .z) .z) .z) .z)) .z)) 400 Try.follows_mixed (by kernel_rfl) ?_
    simp (maxSteps := 2000000) only [go_sem, ↓dxc_true, ↓dxc_false, ↓bxc_true, ↓bxc_false, Nat.zero_add, Nat.add_zero, Nat.zero_mul, Nat.reduceBEq, Nat.reduceAdd, Nat.reduceMul, Nat.reduceSub, Nat.reduceLT, Nat.reduceLeDiff, Nat.reduceEqDiff, Nat.reduceDiv, Nat.reduceMod, Int.reduceAdd, Int.reduceSub, Int.reduceMul, Int.reduceDiv, Int.reduceMod, Int.reduceLT, Int.reduceLE, Int.reduceEq, Int.reduceToNat, Int.reducePow, Int.reduceNeg, ne_eq, not_false_eq_true, not_true_eq_false, decide_true, decide_false, Bool.not_true, Bool.not_false, forall_const, reduceCtorEq, implies_true, beq_self_eq_true, Int.cast_ofNat_Int, reduceIte, if_true, if_false, Bool.false_eq_true, refL, Try.ntmps11, fin_ret hE, Try.results11, List.length_append, nums_length, hb, allOne_append, allOne_nums]
    repeat' (refine And.intro ?_ ?_)
    all_goals exact fun w' hm' => ⟨rfl, hm'.below⟩
  by_cases r3 : reg = 3
  · subst r3
    simp (maxSteps := 2000000) only [go_sem, ↓dxc_true, ↓dxc_false, ↓bxc_true, ↓bxc_false, Nat.zero_add, Nat.add_zero, Nat.zero_mul, Nat.reduceBEq, Nat.reduceAdd, Nat.reduceMul, Nat.reduceSub, Nat.reduceLT, Nat.reduceLeDiff, Nat.reduceEqDiff, Nat.reduceDiv, Nat.reduceMod, Int.reduceAdd, Int.reduceSub, Int.reduceMul, Int.reduceDiv, Int.reduceMod, Int.reduceLT, Int.reduceLE, Int.reduceEq, Int.reduceToNat, Int.reducePow, Int.reduceNeg, ne_eq, not_false_eq_true, not_true_eq_false, decide_true, decide_false, Bool.not_true, Bool.not_false, forall_const, reduceCtorEq, implies_true, beq_self_eq_true, Int.cast_ofNat_Int, reduceIte, if_true, if_false, Bool.false_eq_true, refL, Try.ntmps11, fin_ret hE, Try.results11, List.length_append, nums_length, hb, allOne_append, allOne_nums]
    refine fun b b1 => ⟨fun k1 w' hm' => ⟨?_, hm'.below⟩, fun k1 w' hm' => ⟨?_, hm'.below⟩⟩
    · rw [show getS d n 3 = (d, 1, 0) from by simp [getS, k1]]
    · rw [show getS d n 3 = (d, 3, 0) from by simp [getS, k1]]
  by_cases r4 : reg = 4
  · subst r4
    simp (maxSteps := 2000000) only [go_sem, ↓dxc_true, ↓dxc_false, ↓bxc_true, ↓bxc_false, Nat.zero_add, Nat.add_zero, Nat.zero_mul, Nat.reduceBEq, Nat.reduceAdd, Nat.reduceMul, Nat.reduceSub, Nat.reduceLT, Nat.reduceLeDiff, Nat.reduceEqDiff, Nat.reduceDiv, Nat.reduceMod, Int.reduceAdd, Int.reduceSub, Int.reduceMul, Int.reduceDiv, Int.reduceMod, Int.reduceLT, Int.reduceLE, Int.reduceEq, Int.reduceToNat, Int.reducePow, Int.reduceNeg, ne_eq, not_false_eq_true, not_true_eq_false, decide_true, decide_false, Bool.not_true, Bool.not_false, forall_const, reduceCtorEq, implies_true, beq_self_eq_true, Int.cast_ofNat_Int, reduceIte, if_true, if_false, Bool.false_eq_true, refL, Try.ntmps11, fin_ret hE, Try.results11, List.length_append, nums_length, hb, allOne_append, allOne_nums]
    refine fun b b1 => CodeC.orders (.b 0 (.b 1 (.b 2 (.b 3 (.b 4 (.b 5 .e .z) .z) .z) (.b 3 (.b 2 (.b 4 (.b 5 .e .z) .z) .z) .z)) (.b 3 (.b 1 (.b 2 (.b 4 (.b 5 .e .z) .z) .z) .z) .z)) (.b 1 (.b 0 (.b 2 (.b 3 (.b 4 (.b 5 .e .z) .z) .z) (.b 3 (.b 2 (.b 4 (.b 5 .e .z) .z) .z) .z)) (.b 2 (.b 0 (.b 3 (.b 4 (.b 5 .e .z) .z) .z) .z) .z)) .z)) 400 Try.follows_mixed (by kernel_rfl) ?_
    simp (maxSteps := 2000000) only [go_sem, ↓dxc_true, ↓dxc_false, ↓bxc_true, ↓bxc_false, Nat.zero_add, Nat.add_zero, Nat.zero_mul, Nat.reduceBEq, Nat.reduceAdd, Nat.reduceMul, Nat.reduceSub, Nat.reduceLT, Nat.reduceLeDiff, Nat.reduceEqDiff, Nat.reduceDiv, Nat.reduceMod, Int.reduceAdd, Int.reduceSub, Int.reduceMul, Int.reduceDiv, Int.reduceMod, Int.reduceLT, Int.reduceLE, Int.reduceEq, Int.reduceToNat, Int.reducePow, Int.reduceNeg, ne_eq, not_false_eq_true, not_true_eq_false, decide_true, decide_false, Bool.not_true, Bool.not_false, forall_const, reduceCtorEq, implies_true, beq_self_eq_true, Int.cast_ofNat_Int, reduceIte, if_true, if_false, Bool.false_eq_true, refL, Try.ntmps11, fin_ret hE, Try.results11, List.length_append, nums_length, hb, allOne_append, allOne_nums]
    repeat' (refine And.intro ?_ ?_)
    all_goals exact fun w' hm' => ⟨rfl, hm'.below⟩
  by_cases r5 : reg = 5
  · subst r5
    simp (maxSteps := 2000000) only [go_sem, ↓dxc_true, ↓dxc_false, ↓bxc_true, ↓bxc_false, Nat.zero_add, Nat.add_zero, Nat.zero_mul, Nat.reduceBEq, Nat.reduceAdd, Nat.reduceMul, Nat.reduceSub, Nat.reduceLT, Nat.reduceLeDiff, Nat.reduceEqDiff, Nat.reduceDiv, Nat.reduceMod, Int.reduceAdd, Int.reduceSub, Int.reduceMul, Int.reduceDiv, Int.reduceMod, Int.reduceLT, Int.reduceLE, Int.reduceEq, Int.reduceToNat, Int.reducePow, Int.reduceNeg, ne_eq, not_false_eq_true, not_true_eq_false, decide_true, decide_false, Bool.not_true, Bool.not_false, forall_const, reduceCtorEq, implies_true, beq_self_eq_true, Int.cast_ofNat_Int, reduceIte, if_true, if_false, Bool.false_eq_true, refL, Try.ntmps11, fin_ret hE, Try.results11, List.length_append, nums_length, hb, allOne_append, allOne_nums, e0, e1, e4, e6, Int.toNat_natCast, Nat.mul_one, ld1_4]
    exact fun b b1 => ⟨by omega, by omega, by omega, by omega, fun w' hm' => ⟨rfl, hm'.below⟩⟩
  by_cases r6 : reg = 6
  · subst r6
    simp (maxSteps := 2000000) only [go_sem, ↓dxc_true, ↓dxc_false, ↓bxc_true, ↓bxc_false, Nat.zero_add, Nat.add_zero, Nat.zero_mul, Nat.reduceBEq, Nat.reduceAdd, Nat.reduceMul, Nat.reduceSub, Nat.reduceLT, Nat.reduceLeDiff, Nat.reduceEqDiff, Nat.reduceDiv, Nat.reduceMod, Int.reduceAdd, Int.reduceSub, Int.reduceMul, Int.reduceDiv, Int.reduceMod, Int.reduceLT, Int.reduceLE, Int.reduceEq, Int.reduceToNat, Int.reducePow, Int.reduceNeg, ne_eq, not_false_eq_true, not_true_eq_false, decide_true, decide_false, Bool.not_true, Bool.not_false, forall_const, reduceCtorEq, implies_true, beq_self_eq_true, Int.cast_ofNat_Int, reduceIte, if_true, if_false, Bool.false_eq_true, refL, Try.ntmps11, fin_ret hE, Try.results11, List.length_append, nums_length, hb, allOne_append, allOne_nums, e3, e5]
    refine fun b b1 => CodeC.orders (.b 0 (.b 1 (.b 2 (.b 3 (.b 4 (.b 5 (.b 6 (.b 7 .e .z) .z) .z) (.b 5 (.b 4 (.b 6 (.b 7 .e .z) .z) .z) .z)) (.b 5 (.b 3 (.b 4 (.b 6 (.b 7 .e .z) .z) .z) .z) .z)) (.b 5 (.b 2 (.b 3 (.b 4 (.b 6 (.b 7 .e .z) .z) .z) .z) .z) .z)) (.b 5 (.b 1 (.b 2 (.b 3 (.b 4 (.b 6 (.b 7 .e .z) .z) .z) .z) .z) .z) .z)) (.b 1 (.b 0 (.b 2 (.b 3 (.b 4 (.b 5 (.b 6 (.b 7 .e .z) .z) .z) (.b 5 (.b 4 (.b 6 (.b 7 .e .z) .z) .z) .z)) (.b 5 (.b 3 (.b 4 (.b 6 (.b 7 .e .z) .z) .z) .z) .z)) (.b 5 (.b 2 (.b 3 (.b 4 (.b 6 (.b 7 .e .z) .z) .z) .z) .z) .z)) (.b 2 (.b 0 (.b 3 (.b 4 (.b 5 (.b 6 (.b 7 .e .z) .z) .z) (.b 5 (.b 4 (.b 6 (.b 7 .e .z) .z) .z) .z)) (.b 5 (.b 3 (.b 4 (.b 6 (.b 7 .e .z) .z) .z) .z) .z)) (.b 3 (.b 0 (.b 4 (.b 5 (.b 6 (.b 7 .e .z) .z) .z) (.b 5 (.b 4 (.b 6 (.b 7 .e .z) .z) .z) .z)) (.b 4 (.b 0 (.b 5 (.b 6 (.b 7 .e .z) .z) .z) .z) .z)) .z)) .z)) .z)) 400 Try.follows_mixed (by kernel_rfl) ?_
    simp (maxSteps := 2000000) only [go_sem, ↓dxc_true, ↓dxc_false, ↓bxc_true, ↓bxc_false, Nat.zero_add, Nat.add_zero, Nat.zero_mul, Nat.reduceBEq, Nat.reduceAdd, Nat.reduceMul, Nat.reduceSub, Nat.reduceLT, Nat.reduceLeDiff, Nat.reduceEqDiff, Nat.reduceDiv, Nat.reduceMod, Int.reduceAdd, Int.reduceSub, Int.reduceMul, Int.reduceDiv, Int.reduceMod, Int.reduceLT, Int.reduceLE, Int.reduceEq, Int.reduceToNat, Int.reducePow, Int.reduceNeg, ne_eq, not_false_eq_true, not_true_eq_false, decide_true, decide_false, Bool.not_true, Bool.not_false, forall_const, reduceCtorEq, implies_true, beq_self_eq_true, Int.cast_ofNat_Int, reduceIte, if_true, if_false, Bool.false_eq_true, refL, Try.ntmps11, fin_ret hE, Try.results11, List.length_append, nums_length, hb, allOne_append, allOne_nums, e3, e5]
    repeat' (refine And.intro ?_ ?_)
    all_goals exact fun w' hm' => ⟨rfl, hm'.below⟩
  by_cases r7 : reg = 7
  · subst r7
    simp (maxSteps := 2000000) only [go_sem, ↓dxc_true, ↓dxc_false, ↓bxc_true, ↓bxc_false, Nat.zero_add, Nat.add_zero, Nat.zero_mul, Nat.reduceBEq, Nat.reduceAdd, Nat.reduceMul, Nat.reduceSub, Nat.reduceLT, Nat.reduceLeDiff, Nat.reduceEqDiff, Nat.reduceDiv, Nat.reduceMod, Int.reduceAdd, Int.reduceSub, Int.reduceMul, Int.reduceDiv, Int.reduceMod, Int.reduceLT, Int.reduceLE, Int.reduceEq, Int.reduceToNat, Int.reducePow, Int.reduceNeg, ne_eq, not_false_eq_true, not_true_eq_false, decide_true, decide_false, Bool.not_true, Bool.not_false, forall_const, reduceCtorEq, implies_true, beq_self_eq_true, Int.cast_ofNat_Int, reduceIte, if_true, if_false, Bool.false_eq_true, refL, Try.ntmps11, fin_ret hE, Try.results11, List.length_append, nums_length, hb, allOne_append, allOne_nums]
    refine fun b b1 => CodeC.orders (.b 0 (.b 1 (.b 2 (.b 3 (.b 4 (.b 5 .e .z) .z) .z) (.b 3 (.b 2 (.b 4 (.b 5 .e .z) .z) .z) .z)) (.b 3 (.b 1 (.b 2 (.b 4 (.b 5 .e .z) .z) .z) .z) .z)) (.b 1 (.b 0 (.b 2 (.b 3 (.b 4 (.b 5 .e .z) .z) .z) (.b 3 (.b 2 (.b 4 (.b 5 .e .z) .z) .z) .z)) (.b 2 (.b 0 (.b 3 (.b 4 (.b 5 .e .z) .z) .z) .z) .z)) .z)) 400 Try.follows_mixed (by kernel_rfl) ?_
    simp (maxSteps := 2000000) only [go_sem, ↓dxc_true, ↓dxc_false, ↓bxc_true, ↓bxc_false, Nat.zero_add, Nat.add_zero, Nat.zero_mul, Nat.reduceBEq, Nat.reduceAdd, Nat.reduceMul, Nat.reduceSub, Nat.reduceLT, Nat.reduceLeDiff, Nat.reduceEqDiff, Nat.reduceDiv, Nat.reduceMod, Int.reduceAdd, Int.reduceSub, Int.reduceMul, Int.reduceDiv, Int.reduceMod, Int.reduceLT, Int.reduceLE, Int.reduceEq, Int.reduceToNat, Int.reducePow, Int.reduceNeg, ne_eq, not_false_eq_true, not_true_eq_false, decide_true, decide_false, Bool.not_true, Bool.not_false, forall_const, reduceCtorEq, implies_true, beq_self_eq_true, Int.cast_ofNat_Int, reduceIte, if_true, if_false, Bool.false_eq_true, refL, Try.ntmps11, fin_ret hE, Try.results11, List.length_append, nums_length, hb, allOne_append, allOne_nums]
    repeat' (refine And.intro ?_ ?_)
    all_goals exact fun w' hm' => ⟨rfl, hm'.below⟩
  · simp (maxSteps := 2000000) only [go_sem, ↓dxc_true, ↓dxc_false, ↓bxc_true, ↓bxc_false, Nat.zero_add, Nat.add_zero, Nat.zero_mul, Nat.reduceBEq, Nat.reduceAdd, Nat.reduceMul, Nat.reduceSub, Nat.reduceLT, Nat.reduceLeDiff, Nat.reduceEqDiff, Nat.reduceDiv, Nat.reduceMod, Int.reduceAdd, Int.reduceSub, Int.reduceMul, Int.reduceDiv, Int.reduceMod, Int.reduceLT, Int.reduceLE, Int.reduceEq, Int.reduceToNat, Int.reducePow, Int.reduceNeg, ne_eq, not_false_eq_true, not_true_eq_false, decide_true, decide_false, Bool.not_true, Bool.not_false, forall_const, reduceCtorEq, implies_true, beq_self_eq_true, Int.cast_ofNat_Int, reduceIte, if_true, if_false, Bool.false_eq_true, refL, Try.ntmps11, fin_ret hE, Try.results11, List.length_append, nums_length, hb, allOne_append, allOne_nums, r0, r1, r2, r3, r4, r5, r6, r7]
    have k1 : getS d n reg = (d, 0, 3) := by simp [getS, r0, r1, r2, r3, r4, r5, r6, r7]
    rw [k1]
    exact fun b b1 w' hm' => ⟨rfl, hm'.below⟩

theorem rset_C (w : World) (rb n c : Nat) (d : DV) (hd : d.Ok n) (reg v : Int) (hreg : -9223372036854775808 ≤ reg ∧ reg ≤ 9223372036854775807) (hv : u32k v) (hr : DiskR w n d.disk rb c) :
    Calls Try.prog 12 #[den (.g (refL d (.s 100 rb 0 n c))), .int .i64 reg, .int .u32 v] w fun e w' =>
      ∃ rb' c', e = .returned (den (.u [.g (refL (setS d n reg v).1 (.s 100 rb' 0 n c')), .v (.int .i64 (setS d n reg v).2)])) ∧ DiskR w' n (setS d n reg v).1.disk rb' c' ∧ (rb' = rb ∨ w.heap.size ≤ rb') ∧ Below w.heap.size w w' := by
  obtain ⟨hc, j, T, fz, hg⟩ := hr
  have hm : Mem w [] [⟨100, rb, false, .z (nums .u32 d.disk ++ j) T fz⟩] w := Mem.reads (by simpa using hg) (by simp)
  refine calls_of_ex [.g (refL d (.s 100 rb 0 n c)), .v (.int .i64 reg), .v (.int .u32 v)] _ [] 3 400 Try.func12 rfl hm (by simp [Try.ntmps12]) fun E hE => ?_
  have hb := hd.buf
  have hp := hd.pl
  have hn := hd.n
  have e1 : ∀ (l : List Int) y u r, l.length = 16 → stN (nums .u32 l ++ y :: r) 16 [u] = nums .u32 l ++ u :: r := fun l y u r hl => stN_end .u32 l y u r 16 hl
  have e0 : ∀ (l : List Int) y r, l.length = 16 → ld1 (nums .u32 l ++ y :: r) 16 = y := fun l y r hl => ld1_end .u32 l y r 16 hl
  have e4 : ((d.pl : Int) + 1) % 16 = (((d.pl + 1) % 16 : Nat) : Int) := by omega
  have e6 : ∀ r x, stN (nums .u32 d.buf ++ r) d.pl [.v (.int .u32 x)] = nums .u32 (d.buf.set d.pl x) ++ r := fun r x => stN_nums .u32 d.buf r d.pl x (by omega)
  have same : ∀ X : DV, (setS d n reg v).1 = X → X.disk = d.disk → ∀ (er : Int), (setS d n reg v).2 = er → ∀ w', w'.heap[rb]? = some (denO (.z (nums .u32 d.disk ++ j) T fz)) → Below w.heap.size w w' →
      ∃ rb' c', Ending.returned (den (.u [.g (refL X (.s 100 rb 0 n c)), .v (.int .i64 er)])) = .returned (den (.u [.g (refL (setS d n reg v).1 (.s 100 rb' 0 n c')), .v (.int .i64 (setS d n reg v).2)])) ∧ DiskR w' n (setS d n reg v).1.disk rb' c' ∧ (rb' = rb ∨ w.heap.size ≤ rb') ∧ Below w.heap.size w w' := by
    rintro X rfl h2 er rfl w' h3 h4
    exact ⟨rb, c, rfl, ⟨hc, j, T, fz, by rw [h2]; exact h3⟩, Or.inl rfl, h4⟩
  by_cases r0 : reg = 0
  · subst r0
    simp (maxSteps := 2000000) only [go_sem, ↓dxc_true, ↓dxc_false, ↓bxc_true, ↓bxc_false, Nat.zero_add, Nat.add_zero, Nat.zero_mul, Nat.reduceBEq, Nat.reduceAdd, Nat.reduceMul, Nat.reduceSub, Nat.reduceLT, Nat.reduceLeDiff, Nat.reduceEqDiff, Nat.reduceDiv, Nat.reduceMod, Int.reduceAdd, Int.reduceSub, Int.reduceMul, Int.reduceDiv, Int.reduceMod, Int.reduceLT, Int.reduceLE, Int.reduceEq, Int.reduceToNat, Int.reducePow, Int.reduceNeg, ne_eq, not_false_eq_true, not_true_eq_false, decide_true, decide_false, Bool.not_true, Bool.not_false, forall_const, reduceCtorEq, implies_true, beq_self_eq_true, Int.cast_ofNat_Int, reduceIte, if_true, if_false, Bool.false_eq_true, refL, Try.ntmps12, fin_ret hE, Try.results12, List.length_append, nums_length, hb, allOne_append, allOne_nums]
    intro b b1
    refine CallC.mut (γ := Nat × Nat × List SV × Nat × (Nat × Nat)) (fun g => .g (refL (setS d n 0 v).1 (.s 100 g.1 0 n g.2.1))) (fun g => [⟨4, b1, true, .c z34 34⟩, ⟨3, b, true, .c (refL d (.s 100 rb 0 n c)) 34⟩, ⟨100, g.1, false, .z (nums .u32 (setS d n 0 v).1.disk ++ g.2.2.1) g.2.2.2.1 g.2.2.2.2⟩])
      (fun g => (n ≤ g.2.1 ∧ g.2.1 ≤ 9223372036854775807) ∧ (g.1 = rb ∨ w.heap.size ≤ g.1)) 400 (fun w1 hm1 => ?_) ?_
    · refine (rcommand_C w1 rb n c d hd v hv ⟨hc, j, T, fz, hm1.at (t := 100) rfl⟩).mono ?_
      rintro e w' ⟨b', c', rfl, ⟨k2, j', T', fz', k3⟩, k4, k5⟩
      have hsz := hm1.size
      rw [hE] at hsz
      exact ⟨(b', c', j', T', fz'), rfl, ⟨k2, k4.imp id (fun h => Nat.le_trans hsz h)⟩, hm1.swap (l := [_, _]) (r := []) k5 k4 k3⟩
    refine ⟨by simp (maxSteps := 2000000) only [go_sem, ↓dxc_true, ↓dxc_false, ↓bxc_true, ↓bxc_false, Nat.zero_add, Nat.add_zero, Nat.zero_mul, Nat.reduceBEq, Nat.reduceAdd, Nat.reduceMul, Nat.reduceSub, Nat.reduceLT, Nat.reduceLeDiff, Nat.reduceEqDiff, Nat.reduceDiv, Nat.reduceMod, Int.reduceAdd, Int.reduceSub, Int.reduceMul, Int.reduceDiv, Int.reduceMod, Int.reduceLT, Int.reduceLE, Int.reduceEq, Int.reduceToNat, Int.reducePow, Int.reduceNeg, ne_eq, not_false_eq_true, not_true_eq_false, decide_true, decide_false, Bool.not_true, Bool.not_false, forall_const, reduceCtorEq, implies_true, beq_self_eq_true, Int.cast_ofNat_Int, reduceIte, if_true, if_false, Bool.false_eq_true, Try.ntmps12], ?_⟩
    rintro ⟨b', c', j', T', fz'⟩ ⟨k2, k3⟩
    simp only at k2 k3
    have ho := setS_ok n 0 v hv hd
    have hbo := ho.buf
    have e7 : (setS d n 0 v).2 = 0 := by simp [setS]
    simp (maxSteps := 2000000) only [go_sem, ↓dxc_true, ↓dxc_false, ↓bxc_true, ↓bxc_false, Nat.zero_add, Nat.add_zero, Nat.zero_mul, Nat.reduceBEq, Nat.reduceAdd, Nat.reduceMul, Nat.reduceSub, Nat.reduceLT, Nat.reduceLeDiff, Nat.reduceEqDiff, Nat.reduceDiv, Nat.reduceMod, Int.reduceAdd, Int.reduceSub, Int.reduceMul, Int.reduceDiv, Int.reduceMod, Int.reduceLT, Int.reduceLE, Int.reduceEq, Int.reduceToNat, Int.reducePow, Int.reduceNeg, ne_eq, not_false_eq_true, not_true_eq_false, decide_true, decide_false, Bool.not_true, Bool.not_false, forall_const, reduceCtorEq, implies_true, beq_self_eq_true, Int.cast_ofNat_Int, reduceIte, if_true, if_false, Bool.false_eq_true, refL, Try.ntmps12, fin_ret hE, Try.results12, List.length_append, nums_length, hbo, allOne_append, allOne_nums]
    exact fun w' hm' => ⟨b', c', by rw [e7], ⟨k2, j', T', fz', hm'.at (t := 100) rfl⟩, k3, hm'.below⟩
  by_cases r1 : reg = 1
  · subst r1
    simp (maxSteps := 2000000) only [go_sem, ↓dxc_true, ↓dxc_false, ↓bxc_true, ↓bxc_false, Nat.zero_add, Nat.add_zero, Nat.zero_mul, Nat.reduceBEq, Nat.reduceAdd, Nat.reduceMul, Nat.reduceSub, Nat.reduceLT, Nat.reduceLeDiff, Nat.reduceEqDiff, Nat.reduceDiv, Nat.reduceMod, Int.reduceAdd, Int.reduceSub, Int.reduceMul, Int.reduceDiv, Int.reduceMod, Int.reduceLT, Int.reduceLE, Int.reduceEq, Int.reduceToNat, Int.reducePow, Int.reduceNeg, ne_eq, not_false_eq_true, not_true_eq_false, decide_true, decide_false, Bool.not_true, Bool.not_false, forall_const, reduceCtorEq, implies_true, beq_self_eq_true, Int.cast_ofNat_Int, reduceIte, if_true, if_false, Bool.false_eq_true, refL, Try.ntmps12, fin_ret hE, Try.results12, List.length_append, nums_length, hb, allOne_append, allOne_nums]
    exact fun b b1 w' hm' => same { d with fi := v } rfl rfl 0 rfl w' (hm'.at (t := 100) rfl) hm'.below
  by_cases r2 : reg = 2
  · subst r2
    simp (maxSteps := 2000000) only [go_sem, ↓dxc_true, ↓dxc_false, ↓bxc_true, ↓bxc_false, Nat.zero_add, Nat.add_zero, Nat.zero_mul, Nat.reduceBEq, Nat.reduceAdd, Nat.reduceMul, Nat.reduceSub, Nat.reduceLT, Nat.reduceLeDiff, Nat.reduceEqDiff, Nat.reduceDiv, Nat.reduceMod, Int.reduceAdd, Int.reduceSub, Int.reduceMul, Int.reduceDiv, Int.reduceMod, Int.reduceLT, Int.reduceLE, Int.reduceEq, Int.reduceToNat, Int.reducePow, Int.reduceNeg, ne_eq, not_false_eq_true, not_true_eq_false, decide_true, decide_false, Bool.not_true, Bool.not_false, forall_const, reduceCtorEq, implies_true, beq_self_eq_true, Int.cast_ofNat_Int, reduceIte, if_true, if_false, Bool.false_eq_true, refL, Try.ntmps12, fin_ret hE, Try.results12, List.length_append, nums_length, hb, allOne_append, allOne_nums]
    exact fun b b1 w' hm' => same { d with ma := v } rfl rfl 0 rfl w' (hm'.at (t := 100) rfl) hm'.below
  by_cases r5 : reg = 5
  · subst r5
    simp (maxSteps := 2000000) only [go_sem, ↓dxc_true, ↓dxc_false, ↓bxc_true, ↓bxc_false, Nat.zero_add, Nat.add_zero, Nat.zero_mul, Nat.reduceBEq, Nat.reduceAdd, Nat.reduceMul, Nat.reduceSub, Nat.reduceLT, Nat.reduceLeDiff, Nat.reduceEqDiff, Nat.reduceDiv, Nat.reduceMod, Int.reduceAdd, Int.reduceSub, Int.reduceMul, Int.reduceDiv, Int.reduceMod, Int.reduceLT, Int.reduceLE, Int.reduceEq, Int.reduceToNat, Int.reducePow, Int.reduceNeg, ne_eq, not_false_eq_true, not_true_eq_false, decide_true, decide_false, Bool.not_true, Bool.not_false, forall_const, reduceCtorEq, implies_true, beq_self_eq_true, Int.cast_ofNat_Int, reduceIte, if_true, if_false, Bool.false_eq_true, refL, Try.ntmps12, fin_ret hE, Try.results12, List.length_append, nums_length, List.length_set, hb, allOne_append, allOne_nums, e0, e1, e4, e6, Int.toNat_natCast, Nat.mul_one, stN_4]
    exact fun b b1 => ⟨by omega, by omega, by omega, by omega, fun w' hm' => same { d with buf := d.buf.set d.pl v, pl := (d.pl + 1) % 16 } rfl rfl 0 rfl w' (hm'.at (t := 100) rfl) hm'.below⟩
  by_cases r7 : reg = 7
  · subst r7
    simp (maxSteps := 2000000) only [go_sem, ↓dxc_true, ↓dxc_false, ↓bxc_true, ↓bxc_false, Nat.zero_add, Nat.add_zero, Nat.zero_mul, Nat.reduceBEq, Nat.reduceAdd, Nat.reduceMul, Nat.reduceSub, Nat.reduceLT, Nat.reduceLeDiff, Nat.reduceEqDiff, Nat.reduceDiv, Nat.reduceMod, Int.reduceAdd, Int.reduceSub, Int.reduceMul, Int.reduceDiv, Int.reduceMod, Int.reduceLT, Int.reduceLE, Int.reduceEq, Int.reduceToNat, Int.reducePow, Int.reduceNeg, ne_eq, not_false_eq_true, not_true_eq_false, decide_true, decide_false, Bool.not_true, Bool.not_false, forall_const, reduceCtorEq, implies_true, beq_self_eq_true, Int.cast_ofNat_Int, reduceIte, if_true, if_false, Bool.false_eq_true, refL, Try.ntmps12, fin_ret hE, Try.results12, List.length_append, nums_length, hb, allOne_append, allOne_nums]
    exact fun b b1 w' hm' => same { d with li := false } rfl rfl 0 rfl w' (hm'.at (t := 100) rfl) hm'.below
  by_cases r3 : reg = 3
  · subst r3
    simp (maxSteps := 2000000) only [go_sem, ↓dxc_true, ↓dxc_false, ↓bxc_true, ↓bxc_false, Nat.zero_add, Nat.add_zero, Nat.zero_mul, Nat.reduceBEq, Nat.reduceAdd, Nat.reduceMul, Nat.reduceSub, Nat.reduceLT, Nat.reduceLeDiff, Nat.reduceEqDiff, Nat.reduceDiv, Nat.reduceMod, Int.reduceAdd, Int.reduceSub, Int.reduceMul, Int.reduceDiv, Int.reduceMod, Int.reduceLT, Int.reduceLE, Int.reduceEq, Int.reduceToNat, Int.reducePow, Int.reduceNeg, ne_eq, not_false_eq_true, not_true_eq_false, decide_true, decide_false, Bool.not_true, Bool.not_false, forall_const, reduceCtorEq, implies_true, beq_self_eq_true, Int.cast_ofNat_Int, reduceIte, if_true, if_false, Bool.false_eq_true, refL, Try.ntmps12, fin_ret hE, Try.results12, List.length_append, nums_length, hb, allOne_append, allOne_nums]
    exact fun b b1 w' hm' => same d rfl rfl 0 rfl w' (hm'.at (t := 100) rfl) hm'.below
  by_cases r4 : reg = 4
  · subst r4
    simp (maxSteps := 2000000) only [go_sem, ↓dxc_true, ↓dxc_false, ↓bxc_true, ↓bxc_false, Nat.zero_add, Nat.add_zero, Nat.zero_mul, Nat.reduceBEq, Nat.reduceAdd, Nat.reduceMul, Nat.reduceSub, Nat.reduceLT, Nat.reduceLeDiff, Nat.reduceEqDiff, Nat.reduceDiv, Nat.reduceMod, Int.reduceAdd, Int.reduceSub, Int.reduceMul, Int.reduceDiv, Int.reduceMod, Int.reduceLT, Int.reduceLE, Int.reduceEq, Int.reduceToNat, Int.reducePow, Int.reduceNeg, ne_eq, not_false_eq_true, not_true_eq_false, decide_true, decide_false, Bool.not_true, Bool.not_false, forall_const, reduceCtorEq, implies_true, beq_self_eq_true, Int.cast_ofNat_Int, reduceIte, if_true, if_false, Bool.false_eq_true, refL, Try.ntmps12, fin_ret hE, Try.results12, List.length_append, nums_length, hb, allOne_append, allOne_nums]
    exact fun b b1 w' hm' => same d rfl rfl 0 rfl w' (hm'.at (t := 100) rfl) hm'.below
  by_cases r6 : reg = 6
  · subst r6
    simp (maxSteps := 2000000) only [go_sem, ↓dxc_true, ↓dxc_false, ↓bxc_true, ↓bxc_false, Nat.zero_add, Nat.add_zero, Nat.zero_mul, Nat.reduceBEq, Nat.reduceAdd, Nat.reduceMul, Nat.reduceSub, Nat.reduceLT, Nat.reduceLeDiff, Nat.reduceEqDiff, Nat.reduceDiv, Nat.reduceMod, Int.reduceAdd, Int.reduceSub, Int.reduceMul, Int.reduceDiv, Int.reduceMod, Int.reduceLT, Int.reduceLE, Int.reduceEq, Int.reduceToNat, Int.reducePow, Int.reduceNeg, ne_eq, not_false_eq_true, not_true_eq_false, decide_true, decide_false, Bool.not_true, Bool.not_false, forall_const, reduceCtorEq, implies_true, beq_self_eq_true, Int.cast_ofNat_Int, reduceIte, if_true, if_false, Bool.false_eq_true, refL, Try.ntmps12, fin_ret hE, Try.results12, List.length_append, nums_length, hb, allOne_append, allOne_nums]
    exact fun b b1 w' hm' => same d rfl rfl 0 rfl w' (hm'.at (t := 100) rfl) hm'.below
  · have k1 : setS d n reg v = (d, 3) := by simp [setS, r0, r1, r2, r3, r4, r5, r6, r7]
    simp (maxSteps := 2000000) only [go_sem, ↓dxc_true, ↓dxc_false, ↓bxc_true, ↓bxc_false, Nat.zero_add, Nat.add_zero, Nat.zero_mul, Nat.reduceBEq, Nat.reduceAdd, Nat.reduceMul, Nat.reduceSub, Nat.reduceLT, Nat.reduceLeDiff, Nat.reduceEqDiff, Nat.reduceDiv, Nat.reduceMod, Int.reduceAdd, Int.reduceSub, Int.reduceMul, Int.reduceDiv, Int.reduceMod, Int.reduceLT, Int.reduceLE, Int.reduceEq, Int.reduceToNat, Int.reducePow, Int.reduceNeg, ne_eq, not_false_eq_true, not_true_eq_false, decide_true, decide_false, Bool.not_true, Bool.not_false, forall_const, reduceCtorEq, implies_true, beq_self_eq_true, Int.cast_ofNat_Int, reduceIte, if_true, if_false, Bool.false_eq_true, refL, Try.ntmps12, fin_ret hE, Try.results12, List.length_append, nums_length, hb, allOne_append, allOne_nums, r0, r1, r2, r3, r4, r5, r6, r7]
    exact fun b b1 w' hm' => same d (by rw [k1]) rfl 3 (by rw [k1]) w' (hm'.at (t := 100) rfl) hm'.below

theorem same_C (w : World) (bk rb n c : Nat) (disk : List Int) (hd : disk.length = n * 4) (hn : n ≤ 100) (h1 : w.heap[bk]? = some (denO (rowO disk))) (hr : DiskR w n disk rb c) :
    Calls Try.prog 7 #[den (.s 0 bk 0 n n), den (.s 100 rb 0 n c)] w fun e w' => e = .returned (.bool true) ∧ Below w.heap.size w w' := by
  obtain ⟨hc, j, T, fz, hg⟩ := hr
  have hm : Mem w [] [⟨0, bk, false, rowO disk⟩, ⟨100, rb, false, .z (nums .u32 disk ++ j) T fz⟩] w := Mem.reads (by simpa using ⟨h1, hg⟩) (by simp)
  refine calls_of_ex [.s 0 bk 0 n n, .s 100 rb 0 n c] _ [] 3 400 Try.func7 rfl hm (by simp [Try.ntmps7]) fun E hE => ?_
  simp (maxSteps := 2000000) only [go_sem, ↓dxc_true, ↓dxc_false, ↓bxc_true, ↓bxc_false, Nat.zero_add, Nat.add_zero, Nat.zero_mul, Nat.reduceBEq, Nat.reduceAdd, Nat.reduceMul, Nat.reduceSub, Nat.reduceLT, Nat.reduceLeDiff, Nat.reduceEqDiff, Nat.reduceDiv, Nat.reduceMod, Int.reduceAdd, Int.reduceSub, Int.reduceMul, Int.reduceDiv, Int.reduceMod, Int.reduceLT, Int.reduceLE, Int.reduceEq, Int.reduceToNat, Int.reducePow, Int.reduceNeg, ne_eq, not_false_eq_true, not_true_eq_false, decide_true, decide_false, Bool.not_true, Bool.not_false, forall_const, reduceCtorEq, implies_true, beq_self_eq_true, Int.cast_ofNat_Int, reduceIte, if_true, if_false, Bool.false_eq_true, Try.ntmps7, fin_ret hE, Try.results7]
  refine CodeC.loop (γ := { g : Nat // g ≤ n }) (fun g => ⟨26, 3, [(5, .v (.int .i64 (g.1 : Int))), (0, .s 0 bk 0 n n), (1, .s 100 rb 0 n c)], [⟨0, bk, false, rowO disk⟩, ⟨100, rb, false, .z (nums .u32 disk ++ j) T fz⟩], []⟩) (fun g => n - g.1)
    ⟨0, by omega⟩ 400 ⟨rfl, rfl, ⟨rfl, rfl, rfl, trivial⟩, SubH.refl _⟩ ?_
  rintro ⟨i, hi⟩
  simp only
  simp (maxSteps := 2000000) only [go_sem, ↓dxc_true, ↓dxc_false, ↓bxc_true, ↓bxc_false, Nat.zero_add, Nat.add_zero, Nat.zero_mul, Nat.reduceBEq, Nat.reduceAdd, Nat.reduceMul, Nat.reduceSub, Nat.reduceLT, Nat.reduceLeDiff, Nat.reduceEqDiff, Nat.reduceDiv, Nat.reduceMod, Int.reduceAdd, Int.reduceSub, Int.reduceMul, Int.reduceDiv, Int.reduceMod, Int.reduceLT, Int.reduceLE, Int.reduceEq, Int.reduceToNat, Int.reducePow, Int.reduceNeg, ne_eq, not_false_eq_true, not_true_eq_false, decide_true, decide_false, Bool.not_true, Bool.not_false, forall_const, reduceCtorEq, implies_true, beq_self_eq_true, Int.cast_ofNat_Int, reduceIte, if_true, if_false, Bool.false_eq_true, Try.ntmps7, fin_ret hE, Try.results7]
  refine ⟨fun k1 => ?_, fun k1 w' hm' => ⟨rfl, hm'.below⟩⟩
  have k2 : i < n := by omega
  refine CodeC.lex 400 Try.follows_mixed (by kernel_rfl) ?_
  simp (maxSteps := 2000000) only [go_sem, ↓dxc_true, ↓dxc_false, ↓bxc_true, ↓bxc_false, Nat.zero_add, Nat.add_zero, Nat.zero_mul, Nat.reduceBEq, Nat.reduceAdd, Nat.reduceMul, Nat.reduceSub, Nat.reduceLT, Nat.reduceLeDiff, Nat.reduceEqDiff, Nat.reduceDiv, Nat.reduceMod, Int.reduceAdd, Int.reduceSub, Int.reduceMul, Int.reduceDiv, Int.reduceMod, Int.reduceLT, Int.reduceLE, Int.reduceEq, Int.reduceToNat, Int.reducePow, Int.reduceNeg, ne_eq, not_false_eq_true, not_true_eq_false, decide_true, decide_false, Bool.not_true, Bool.not_false, forall_const, reduceCtorEq, implies_true, beq_self_eq_true, Int.cast_ofNat_Int, reduceIte, if_true, if_false, Bool.false_eq_true, rowO, Try.ntmps7, fin_ret hE, Try.results7, Int.toNat_natCast, List.length_append, nums_length, ldN4' .u32 disk (i * 4) (by omega), ldN4 .u32 disk j (i * 4) (by omega)]
  refine ⟨by omega, by omega, by omega, by omega, by omega, ⟨⟨i + 1, by omega⟩, ⟨rfl, rfl, ⟨by simp [lk], rfl, rfl, trivial⟩, SubH.refl _⟩, by simp only; omega⟩⟩

end Go.Proofs
