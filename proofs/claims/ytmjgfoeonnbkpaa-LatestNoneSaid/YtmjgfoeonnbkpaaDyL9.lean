/- Comparisons of places. -/
import Derived.Test.YtmjgfoeonnbkpaaDyL8
set_option linter.unusedSimpArgs false
set_option linter.unusedVariables false
set_option linter.unusedSectionVars false
set_option maxRecDepth 100000
set_option maxHeartbeats 1000000
namespace Go.Proofs
open Go.Dx Go.RowKit

def cmpS (a b : Int) : Int := if a < b then -1 else if b < a then 1 else 0

theorem nan32_C (w : World) (x : Int) : Calls Try.prog 45 #[.int .u32 x] w fun e w' => e = .returned (.bool false) ∧ Bel w.heap.size w w' := by
  have hm : Mem w [] [] w := Mem.reads (by simp) (by simp)
  refine calls_of_ex [.v (.int .u32 x)] _ [] 3 300 Try.func45 rfl hm (by simp [Try.ntmps45]) fun E hE => ?_
  simp (maxSteps := 2000000) only [go_sem, ↓dxc_true, ↓dxc_false, ↓bxc_true, ↓bxc_false, Nat.zero_add, Nat.add_zero, Nat.zero_mul, Nat.reduceBEq, Nat.reduceAdd, Nat.reduceMul, Nat.reduceSub, Nat.reduceLT, Nat.reduceLeDiff, Nat.reduceEqDiff, Nat.reduceDiv, Nat.reduceMod, Int.reduceAdd, Int.reduceSub, Int.reduceMul, Int.reduceDiv, Int.reduceMod, Int.reduceLT, Int.reduceLE, Int.reduceEq, Int.reduceToNat, Int.reducePow, Int.reduceNeg, ne_eq, not_false_eq_true, not_true_eq_false, decide_true, decide_false, Bool.not_true, Bool.not_false, forall_const, reduceCtorEq, implies_true, beq_self_eq_true, Int.cast_ofNat_Int, reduceIte, if_true, if_false, Bool.false_eq_true, Try.ntmps45, fin_ret hE, Try.results45]
  exact fun w' hm' => ⟨rfl, hm'.below⟩

theorem nan64_C (w : World) (x : Int) : Calls Try.prog 46 #[.int .i64 x] w fun e w' => e = .returned (.bool false) ∧ Bel w.heap.size w w' := by
  have hm : Mem w [] [] w := Mem.reads (by simp) (by simp)
  refine calls_of_ex [.v (.int .i64 x)] _ [] 3 300 Try.func46 rfl hm (by simp [Try.ntmps46]) fun E hE => ?_
  simp (maxSteps := 2000000) only [go_sem, ↓dxc_true, ↓dxc_false, ↓bxc_true, ↓bxc_false, Nat.zero_add, Nat.add_zero, Nat.zero_mul, Nat.reduceBEq, Nat.reduceAdd, Nat.reduceMul, Nat.reduceSub, Nat.reduceLT, Nat.reduceLeDiff, Nat.reduceEqDiff, Nat.reduceDiv, Nat.reduceMod, Int.reduceAdd, Int.reduceSub, Int.reduceMul, Int.reduceDiv, Int.reduceMod, Int.reduceLT, Int.reduceLE, Int.reduceEq, Int.reduceToNat, Int.reducePow, Int.reduceNeg, ne_eq, not_false_eq_true, not_true_eq_false, decide_true, decide_false, Bool.not_true, Bool.not_false, forall_const, reduceCtorEq, implies_true, beq_self_eq_true, Int.cast_ofNat_Int, reduceIte, if_true, if_false, Bool.false_eq_true, Try.ntmps46, fin_ret hE, Try.results46]
  exact fun w' hm' => ⟨rfl, hm'.below⟩

theorem cmp32_C (w : World) (x y : Int) : Calls Try.prog 36 #[.int .u32 x, .int .u32 y] w fun e w' => e = .returned (.int .i64 (cmpS x y)) ∧ Bel w.heap.size w w' := by
  have hm : Mem w [] [] w := Mem.reads (by simp) (by simp)
  refine calls_of_ex [.v (.int .u32 x), .v (.int .u32 y)] _ [] 3 300 Try.func36 rfl hm (by simp [Try.ntmps36]) fun E hE => ?_
  simp (maxSteps := 2000000) only [go_sem, ↓dxc_true, ↓dxc_false, ↓bxc_true, ↓bxc_false, Nat.zero_add, Nat.add_zero, Nat.zero_mul, Nat.reduceBEq, Nat.reduceAdd, Nat.reduceMul, Nat.reduceSub, Nat.reduceLT, Nat.reduceLeDiff, Nat.reduceEqDiff, Nat.reduceDiv, Nat.reduceMod, Int.reduceAdd, Int.reduceSub, Int.reduceMul, Int.reduceDiv, Int.reduceMod, Int.reduceLT, Int.reduceLE, Int.reduceEq, Int.reduceToNat, Int.reducePow, Int.reduceNeg, ne_eq, not_false_eq_true, not_true_eq_false, decide_true, decide_false, Bool.not_true, Bool.not_false, forall_const, reduceCtorEq, implies_true, beq_self_eq_true, Int.cast_ofNat_Int, reduceIte, if_true, if_false, Bool.false_eq_true, Try.ntmps36, fin_ret hE, Try.results36]
  refine CallC.pur (.v (.bool false)) 300 (fun w1 _ => nan32_C w1 x) ?_
  simp (maxSteps := 2000000) only [go_sem, ↓dxc_true, ↓dxc_false, ↓bxc_true, ↓bxc_false, Nat.zero_add, Nat.add_zero, Nat.zero_mul, Nat.reduceBEq, Nat.reduceAdd, Nat.reduceMul, Nat.reduceSub, Nat.reduceLT, Nat.reduceLeDiff, Nat.reduceEqDiff, Nat.reduceDiv, Nat.reduceMod, Int.reduceAdd, Int.reduceSub, Int.reduceMul, Int.reduceDiv, Int.reduceMod, Int.reduceLT, Int.reduceLE, Int.reduceEq, Int.reduceToNat, Int.reducePow, Int.reduceNeg, ne_eq, not_false_eq_true, not_true_eq_false, decide_true, decide_false, Bool.not_true, Bool.not_false, forall_const, reduceCtorEq, implies_true, beq_self_eq_true, Int.cast_ofNat_Int, reduceIte, if_true, if_false, Bool.false_eq_true, Try.ntmps36, fin_ret hE, Try.results36]
  refine CallC.pur (.v (.bool false)) 300 (fun w1 _ => nan32_C w1 y) ?_
  simp (maxSteps := 2000000) only [go_sem, ↓dxc_true, ↓dxc_false, ↓bxc_true, ↓bxc_false, Nat.zero_add, Nat.add_zero, Nat.zero_mul, Nat.reduceBEq, Nat.reduceAdd, Nat.reduceMul, Nat.reduceSub, Nat.reduceLT, Nat.reduceLeDiff, Nat.reduceEqDiff, Nat.reduceDiv, Nat.reduceMod, Int.reduceAdd, Int.reduceSub, Int.reduceMul, Int.reduceDiv, Int.reduceMod, Int.reduceLT, Int.reduceLE, Int.reduceEq, Int.reduceToNat, Int.reducePow, Int.reduceNeg, ne_eq, not_false_eq_true, not_true_eq_false, decide_true, decide_false, Bool.not_true, Bool.not_false, forall_const, reduceCtorEq, implies_true, beq_self_eq_true, Int.cast_ofNat_Int, reduceIte, if_true, if_false, Bool.false_eq_true, Try.ntmps36, fin_ret hE, Try.results36]
  refine ⟨fun k1 w' hm' => ⟨by rw [cmpS, if_pos k1]; rfl, hm'.below⟩, fun k1 => ⟨fun k2 w' hm' => ⟨by rw [cmpS, if_neg k1, if_pos k2]; rfl, hm'.below⟩, fun k2 w' hm' => ⟨by rw [cmpS, if_neg k1, if_neg k2]; rfl, hm'.below⟩⟩⟩

theorem cmp64_C (w : World) (x y : Int) : Calls Try.prog 37 #[.int .i64 x, .int .i64 y] w fun e w' => e = .returned (.int .i64 (cmpS x y)) ∧ Bel w.heap.size w w' := by
  have hm : Mem w [] [] w := Mem.reads (by simp) (by simp)
  refine calls_of_ex [.v (.int .i64 x), .v (.int .i64 y)] _ [] 3 300 Try.func37 rfl hm (by simp [Try.ntmps37]) fun E hE => ?_
  simp (maxSteps := 2000000) only [go_sem, ↓dxc_true, ↓dxc_false, ↓bxc_true, ↓bxc_false, Nat.zero_add, Nat.add_zero, Nat.zero_mul, Nat.reduceBEq, Nat.reduceAdd, Nat.reduceMul, Nat.reduceSub, Nat.reduceLT, Nat.reduceLeDiff, Nat.reduceEqDiff, Nat.reduceDiv, Nat.reduceMod, Int.reduceAdd, Int.reduceSub, Int.reduceMul, Int.reduceDiv, Int.reduceMod, Int.reduceLT, Int.reduceLE, Int.reduceEq, Int.reduceToNat, Int.reducePow, Int.reduceNeg, ne_eq, not_false_eq_true, not_true_eq_false, decide_true, decide_false, Bool.not_true, Bool.not_false, forall_const, reduceCtorEq, implies_true, beq_self_eq_true, Int.cast_ofNat_Int, reduceIte, if_true, if_false, Bool.false_eq_true, Try.ntmps37, fin_ret hE, Try.results37]
  refine CallC.pur (.v (.bool false)) 300 (fun w1 _ => nan64_C w1 x) ?_
  simp (maxSteps := 2000000) only [go_sem, ↓dxc_true, ↓dxc_false, ↓bxc_true, ↓bxc_false, Nat.zero_add, Nat.add_zero, Nat.zero_mul, Nat.reduceBEq, Nat.reduceAdd, Nat.reduceMul, Nat.reduceSub, Nat.reduceLT, Nat.reduceLeDiff, Nat.reduceEqDiff, Nat.reduceDiv, Nat.reduceMod, Int.reduceAdd, Int.reduceSub, Int.reduceMul, Int.reduceDiv, Int.reduceMod, Int.reduceLT, Int.reduceLE, Int.reduceEq, Int.reduceToNat, Int.reducePow, Int.reduceNeg, ne_eq, not_false_eq_true, not_true_eq_false, decide_true, decide_false, Bool.not_true, Bool.not_false, forall_const, reduceCtorEq, implies_true, beq_self_eq_true, Int.cast_ofNat_Int, reduceIte, if_true, if_false, Bool.false_eq_true, Try.ntmps37, fin_ret hE, Try.results37]
  refine CallC.pur (.v (.bool false)) 300 (fun w1 _ => nan64_C w1 y) ?_
  simp (maxSteps := 2000000) only [go_sem, ↓dxc_true, ↓dxc_false, ↓bxc_true, ↓bxc_false, Nat.zero_add, Nat.add_zero, Nat.zero_mul, Nat.reduceBEq, Nat.reduceAdd, Nat.reduceMul, Nat.reduceSub, Nat.reduceLT, Nat.reduceLeDiff, Nat.reduceEqDiff, Nat.reduceDiv, Nat.reduceMod, Int.reduceAdd, Int.reduceSub, Int.reduceMul, Int.reduceDiv, Int.reduceMod, Int.reduceLT, Int.reduceLE, Int.reduceEq, Int.reduceToNat, Int.reducePow, Int.reduceNeg, ne_eq, not_false_eq_true, not_true_eq_false, decide_true, decide_false, Bool.not_true, Bool.not_false, forall_const, reduceCtorEq, implies_true, beq_self_eq_true, Int.cast_ofNat_Int, reduceIte, if_true, if_false, Bool.false_eq_true, Try.ntmps37, fin_ret hE, Try.results37]
  refine ⟨fun k1 w' hm' => ⟨by rw [cmpS, if_pos k1]; rfl, hm'.below⟩, fun k1 => ⟨fun k2 w' hm' => ⟨by rw [cmpS, if_neg k1, if_pos k2]; rfl, hm'.below⟩, fun k2 w' hm' => ⟨by rw [cmpS, if_neg k1, if_neg k2]; rfl, hm'.below⟩⟩⟩

def or4 (a b c d : Int) : Int := if a ≠ 0 then a else if b ≠ 0 then b else if c ≠ 0 then c else d

theorem or_C (w : World) (b : Nat) (x0 x1 x2 x3 : Int) (h : w.heap[b]? = some (denO (.a [.v (.int .i64 x0), .v (.int .i64 x1), .v (.int .i64 x2), .v (.int .i64 x3)] 3))) :
    Calls Try.prog 35 #[den (.s 101 b 0 4 4)] w fun e w' => e = .returned (.int .i64 (or4 x0 x1 x2 x3)) ∧ Bel w.heap.size w w' := by
  have hm : Mem w [] [⟨101, b, false, .a [.v (.int .i64 x0), .v (.int .i64 x1), .v (.int .i64 x2), .v (.int .i64 x3)] 3⟩] w := Mem.reads (by simpa using h) (by simp)
  refine calls_of_ex [.s 101 b 0 4 4] _ [] 3 300 Try.func35 rfl hm (by simp [Try.ntmps35]) fun E hE => ?_
  simp (maxSteps := 2000000) only [go_sem, ↓dxc_true, ↓dxc_false, ↓bxc_true, ↓bxc_false, Nat.zero_add, Nat.add_zero, Nat.zero_mul, Nat.reduceBEq, Nat.reduceAdd, Nat.reduceMul, Nat.reduceSub, Nat.reduceLT, Nat.reduceLeDiff, Nat.reduceEqDiff, Nat.reduceDiv, Nat.reduceMod, Int.reduceAdd, Int.reduceSub, Int.reduceMul, Int.reduceDiv, Int.reduceMod, Int.reduceLT, Int.reduceLE, Int.reduceEq, Int.reduceToNat, Int.reducePow, Int.reduceNeg, ne_eq, not_false_eq_true, not_true_eq_false, decide_true, decide_false, Bool.not_true, Bool.not_false, forall_const, reduceCtorEq, implies_true, beq_self_eq_true, Int.cast_ofNat_Int, reduceIte, if_true, if_false, Bool.false_eq_true, Try.ntmps35, fin_ret hE, Try.results35]
  refine CodeC.unroll 5 300 ?_
  simp (maxSteps := 2000000) only [go_sem, ↓dxc_true, ↓dxc_false, ↓bxc_true, ↓bxc_false, Nat.zero_add, Nat.add_zero, Nat.zero_mul, Nat.reduceBEq, Nat.reduceAdd, Nat.reduceMul, Nat.reduceSub, Nat.reduceLT, Nat.reduceLeDiff, Nat.reduceEqDiff, Nat.reduceDiv, Nat.reduceMod, Int.reduceAdd, Int.reduceSub, Int.reduceMul, Int.reduceDiv, Int.reduceMod, Int.reduceLT, Int.reduceLE, Int.reduceEq, Int.reduceToNat, Int.reducePow, Int.reduceNeg, ne_eq, not_false_eq_true, not_true_eq_false, decide_true, decide_false, Bool.not_true, Bool.not_false, forall_const, reduceCtorEq, implies_true, beq_self_eq_true, Int.cast_ofNat_Int, reduceIte, if_true, if_false, Bool.false_eq_true, Try.ntmps35, fin_ret hE, Try.results35]
  refine ⟨fun k0 => ⟨fun k1 => ⟨fun k2 => ⟨fun k3 w' hm' => ⟨?_, hm'.below⟩, fun k3 w' hm' => ⟨?_, hm'.below⟩⟩, fun k2 w' hm' => ⟨?_, hm'.below⟩⟩, fun k1 w' hm' => ⟨?_, hm'.below⟩⟩, fun k0 w' hm' => ⟨?_, hm'.below⟩⟩
  all_goals simp [or4, den, *]

/-- How two places stand. -/
def cmpPl (x y : Pl) : Int := or4 (cmpS x.pg.se y.pg.se) (cmpS y.pg.sq x.pg.sq) (cmpS x.bl y.bl) (cmpS x.pa y.pa)

theorem compare_C (w : World) (x y : Pl) : Calls Try.prog 23 #[den (.g x.f), den (.g y.f)] w fun e w' => e = .returned (.int .i64 (cmpPl x y)) ∧ Bel w.heap.size w w' := by
  have hm : Mem w [] [] w := Mem.reads (by simp) (by simp)
  refine calls_of_ex [.g x.f, .g y.f] _ [] 3 300 Try.func23 rfl hm (by simp [Try.ntmps23]) fun E hE => ?_
  simp (maxSteps := 2000000) only [go_sem, ↓dxc_true, ↓dxc_false, ↓bxc_true, ↓bxc_false, Nat.zero_add, Nat.add_zero, Nat.zero_mul, Nat.reduceBEq, Nat.reduceAdd, Nat.reduceMul, Nat.reduceSub, Nat.reduceLT, Nat.reduceLeDiff, Nat.reduceEqDiff, Nat.reduceDiv, Nat.reduceMod, Int.reduceAdd, Int.reduceSub, Int.reduceMul, Int.reduceDiv, Int.reduceMod, Int.reduceLT, Int.reduceLE, Int.reduceEq, Int.reduceToNat, Int.reducePow, Int.reduceNeg, ne_eq, not_false_eq_true, not_true_eq_false, decide_true, decide_false, Bool.not_true, Bool.not_false, forall_const, reduceCtorEq, implies_true, beq_self_eq_true, Int.cast_ofNat_Int, reduceIte, if_true, if_false, Bool.false_eq_true, Try.ntmps23, fin_ret hE, Try.results23, Pl.f, List.length_cons, List.length_nil]
  intro b1 b2
  refine CodeC.lex 300 Try.follows_mixed (by kernel_rfl) ?_
  simp (maxSteps := 2000000) only [go_sem, ↓dxc_true, ↓dxc_false, ↓bxc_true, ↓bxc_false, Nat.zero_add, Nat.add_zero, Nat.zero_mul, Nat.reduceBEq, Nat.reduceAdd, Nat.reduceMul, Nat.reduceSub, Nat.reduceLT, Nat.reduceLeDiff, Nat.reduceEqDiff, Nat.reduceDiv, Nat.reduceMod, Int.reduceAdd, Int.reduceSub, Int.reduceMul, Int.reduceDiv, Int.reduceMod, Int.reduceLT, Int.reduceLE, Int.reduceEq, Int.reduceToNat, Int.reducePow, Int.reduceNeg, ne_eq, not_false_eq_true, not_true_eq_false, decide_true, decide_false, Bool.not_true, Bool.not_false, forall_const, reduceCtorEq, implies_true, beq_self_eq_true, Int.cast_ofNat_Int, reduceIte, if_true, if_false, Bool.false_eq_true, Try.ntmps23, fin_ret hE, Try.results23]
  refine CallD.pur (.v (.int .i64 (cmpS x.pg.se y.pg.se))) rfl (fun w1 _ => cmp32_C w1 _ _) ?_
  simp (maxSteps := 2000000) only [go_sem, ↓dxc_true, ↓dxc_false, ↓bxc_true, ↓bxc_false, Nat.zero_add, Nat.add_zero, Nat.zero_mul, Nat.reduceBEq, Nat.reduceAdd, Nat.reduceMul, Nat.reduceSub, Nat.reduceLT, Nat.reduceLeDiff, Nat.reduceEqDiff, Nat.reduceDiv, Nat.reduceMod, Int.reduceAdd, Int.reduceSub, Int.reduceMul, Int.reduceDiv, Int.reduceMod, Int.reduceLT, Int.reduceLE, Int.reduceEq, Int.reduceToNat, Int.reducePow, Int.reduceNeg, ne_eq, not_false_eq_true, not_true_eq_false, decide_true, decide_false, Bool.not_true, Bool.not_false, forall_const, reduceCtorEq, implies_true, beq_self_eq_true, Int.cast_ofNat_Int, reduceIte, if_true, if_false, Bool.false_eq_true, Try.ntmps23, fin_ret hE, Try.results23]
  refine CallD.pur (.v (.int .i64 (cmpS y.pg.sq x.pg.sq))) rfl (fun w1 _ => cmp32_C w1 _ _) ?_
  simp (maxSteps := 2000000) only [go_sem, ↓dxc_true, ↓dxc_false, ↓bxc_true, ↓bxc_false, Nat.zero_add, Nat.add_zero, Nat.zero_mul, Nat.reduceBEq, Nat.reduceAdd, Nat.reduceMul, Nat.reduceSub, Nat.reduceLT, Nat.reduceLeDiff, Nat.reduceEqDiff, Nat.reduceDiv, Nat.reduceMod, Int.reduceAdd, Int.reduceSub, Int.reduceMul, Int.reduceDiv, Int.reduceMod, Int.reduceLT, Int.reduceLE, Int.reduceEq, Int.reduceToNat, Int.reducePow, Int.reduceNeg, ne_eq, not_false_eq_true, not_true_eq_false, decide_true, decide_false, Bool.not_true, Bool.not_false, forall_const, reduceCtorEq, implies_true, beq_self_eq_true, Int.cast_ofNat_Int, reduceIte, if_true, if_false, Bool.false_eq_true, Try.ntmps23, fin_ret hE, Try.results23]
  refine CallD.pur (.v (.int .i64 (cmpS x.bl y.bl))) rfl (fun w1 _ => cmp64_C w1 _ _) ?_
  simp (maxSteps := 2000000) only [go_sem, ↓dxc_true, ↓dxc_false, ↓bxc_true, ↓bxc_false, Nat.zero_add, Nat.add_zero, Nat.zero_mul, Nat.reduceBEq, Nat.reduceAdd, Nat.reduceMul, Nat.reduceSub, Nat.reduceLT, Nat.reduceLeDiff, Nat.reduceEqDiff, Nat.reduceDiv, Nat.reduceMod, Int.reduceAdd, Int.reduceSub, Int.reduceMul, Int.reduceDiv, Int.reduceMod, Int.reduceLT, Int.reduceLE, Int.reduceEq, Int.reduceToNat, Int.reducePow, Int.reduceNeg, ne_eq, not_false_eq_true, not_true_eq_false, decide_true, decide_false, Bool.not_true, Bool.not_false, forall_const, reduceCtorEq, implies_true, beq_self_eq_true, Int.cast_ofNat_Int, reduceIte, if_true, if_false, Bool.false_eq_true, Try.ntmps23, fin_ret hE, Try.results23]
  refine CallD.pur (.v (.int .i64 (cmpS x.pa y.pa))) rfl (fun w1 _ => cmp64_C w1 _ _) ?_
  simp (maxSteps := 2000000) only [go_sem, ↓dxc_true, ↓dxc_false, ↓bxc_true, ↓bxc_false, Nat.zero_add, Nat.add_zero, Nat.zero_mul, Nat.reduceBEq, Nat.reduceAdd, Nat.reduceMul, Nat.reduceSub, Nat.reduceLT, Nat.reduceLeDiff, Nat.reduceEqDiff, Nat.reduceDiv, Nat.reduceMod, Int.reduceAdd, Int.reduceSub, Int.reduceMul, Int.reduceDiv, Int.reduceMod, Int.reduceLT, Int.reduceLE, Int.reduceEq, Int.reduceToNat, Int.reducePow, Int.reduceNeg, ne_eq, not_false_eq_true, not_true_eq_false, decide_true, decide_false, Bool.not_true, Bool.not_false, forall_const, reduceCtorEq, implies_true, beq_self_eq_true, Int.cast_ofNat_Int, reduceIte, if_true, if_false, Bool.false_eq_true, Try.ntmps23, fin_ret hE, Try.results23]
  intro b3
  refine CallD.pur (.v (.int .i64 (cmpPl x y))) rfl (fun w1 hm1 => or_C w1 b3 _ _ _ _ (hm1.at (t := 5) rfl)) ?_
  simp (maxSteps := 2000000) only [go_sem, ↓dxc_true, ↓dxc_false, ↓bxc_true, ↓bxc_false, Nat.zero_add, Nat.add_zero, Nat.zero_mul, Nat.reduceBEq, Nat.reduceAdd, Nat.reduceMul, Nat.reduceSub, Nat.reduceLT, Nat.reduceLeDiff, Nat.reduceEqDiff, Nat.reduceDiv, Nat.reduceMod, Int.reduceAdd, Int.reduceSub, Int.reduceMul, Int.reduceDiv, Int.reduceMod, Int.reduceLT, Int.reduceLE, Int.reduceEq, Int.reduceToNat, Int.reducePow, Int.reduceNeg, ne_eq, not_false_eq_true, not_true_eq_false, decide_true, decide_false, Bool.not_true, Bool.not_false, forall_const, reduceCtorEq, implies_true, beq_self_eq_true, Int.cast_ofNat_Int, reduceIte, if_true, if_false, Bool.false_eq_true, Try.ntmps23, fin_ret hE, Try.results23]
  exact fun w' hm' => ⟨rfl, hm'.below⟩

theorem same_C (w : World) (x y : Pl) : Calls Try.prog 25 #[den (.g x.f), den (.g y.f)] w fun e w' => e = .returned (.bool (decide (x.pg.se = y.pg.se))) ∧ Bel w.heap.size w w' := by
  have hm : Mem w [] [] w := Mem.reads (by simp) (by simp)
  refine calls_of_ex [.g x.f, .g y.f] _ [] 3 300 Try.func25 rfl hm (by simp [Try.ntmps25]) fun E hE => ?_
  simp (maxSteps := 2000000) only [go_sem, ↓dxc_true, ↓dxc_false, ↓bxc_true, ↓bxc_false, Nat.zero_add, Nat.add_zero, Nat.zero_mul, Nat.reduceBEq, Nat.reduceAdd, Nat.reduceMul, Nat.reduceSub, Nat.reduceLT, Nat.reduceLeDiff, Nat.reduceEqDiff, Nat.reduceDiv, Nat.reduceMod, Int.reduceAdd, Int.reduceSub, Int.reduceMul, Int.reduceDiv, Int.reduceMod, Int.reduceLT, Int.reduceLE, Int.reduceEq, Int.reduceToNat, Int.reducePow, Int.reduceNeg, ne_eq, not_false_eq_true, not_true_eq_false, decide_true, decide_false, Bool.not_true, Bool.not_false, forall_const, reduceCtorEq, implies_true, beq_self_eq_true, Int.cast_ofNat_Int, reduceIte, if_true, if_false, Bool.false_eq_true, Try.ntmps25, fin_ret hE, Try.results25, Pl.f, List.length_cons, List.length_nil]
  exact fun b1 b2 w' hm' => ⟨rfl, hm'.below⟩

/-- Does one page stand for another one? -/
def standsS (x y : Pl) : Bool := decide (x.pg.se = y.pg.se) && !decide (x = y) && (decide (y.pg.sq < x.pg.sq) || (decide (x.pg.sq = y.pg.sq) && (!decide (x.bl = y.bl) || decide (x.pa < y.pa))))

theorem eqPl (x y : Pl) : eqC x.f y.f = decide (x = y) := by
  obtain ⟨a, b, ⟨c, d, e, f, g, h, i⟩⟩ := x
  obtain ⟨a', b', ⟨c', d', e', f', g', h', i'⟩⟩ := y
  simp only [Pl.f, eqC, Bool.and_true, Pl.mk.injEq, Pg.mk.injEq, Bool.decide_and]
  rfl

theorem stands_C (w : World) (x y : Pl) : Calls Try.prog 26 #[den (.g x.f), den (.g y.f)] w fun e w' => e = .returned (.bool (standsS x y)) ∧ Bel w.heap.size w w' := by
  have hm : Mem w [] [] w := Mem.reads (by simp) (by simp)
  refine calls_of_ex [.g x.f, .g y.f] _ [] 3 300 Try.func26 rfl hm (by simp [Try.ntmps26]) fun E hE => ?_
  simp (maxSteps := 2000000) only [go_sem, ↓dxc_true, ↓dxc_false, ↓bxc_true, ↓bxc_false, Nat.zero_add, Nat.add_zero, Nat.zero_mul, Nat.reduceBEq, Nat.reduceAdd, Nat.reduceMul, Nat.reduceSub, Nat.reduceLT, Nat.reduceLeDiff, Nat.reduceEqDiff, Nat.reduceDiv, Nat.reduceMod, Int.reduceAdd, Int.reduceSub, Int.reduceMul, Int.reduceDiv, Int.reduceMod, Int.reduceLT, Int.reduceLE, Int.reduceEq, Int.reduceToNat, Int.reducePow, Int.reduceNeg, ne_eq, not_false_eq_true, not_true_eq_false, decide_true, decide_false, Bool.not_true, Bool.not_false, forall_const, reduceCtorEq, implies_true, beq_self_eq_true, Int.cast_ofNat_Int, reduceIte, if_true, if_false, Bool.false_eq_true, Try.ntmps26, fin_ret hE, Try.results26, Pl.f, List.length_cons, List.length_nil]
  refine fun b1 b2 => ⟨fun k1 => ?_, fun k1 w' hm' => ⟨by simp [standsS, k1, den], hm'.below⟩⟩
  refine LeafC.eqS false 300 Try.fl29 Try.so29 Try.eg29 (x := .tmp 14) (y := .tmp 15) (l := x.f) (r := y.f) rfl rfl rfl rfl ?_
  rw [eqPl]
  by_cases hxy : x = y
  · simp (maxSteps := 2000000) only [go_sem, ↓dxc_true, ↓dxc_false, ↓bxc_true, ↓bxc_false, Nat.zero_add, Nat.add_zero, Nat.zero_mul, Nat.reduceBEq, Nat.reduceAdd, Nat.reduceMul, Nat.reduceSub, Nat.reduceLT, Nat.reduceLeDiff, Nat.reduceEqDiff, Nat.reduceDiv, Nat.reduceMod, Int.reduceAdd, Int.reduceSub, Int.reduceMul, Int.reduceDiv, Int.reduceMod, Int.reduceLT, Int.reduceLE, Int.reduceEq, Int.reduceToNat, Int.reducePow, Int.reduceNeg, ne_eq, not_false_eq_true, not_true_eq_false, decide_true, decide_false, Bool.not_true, Bool.not_false, forall_const, reduceCtorEq, implies_true, beq_self_eq_true, Int.cast_ofNat_Int, reduceIte, if_true, if_false, Bool.false_eq_true, Try.ntmps26, fin_ret hE, Try.results26, hxy]
    exact fun w' hm' => ⟨by simp [standsS, hxy, den], hm'.below⟩
  · simp (maxSteps := 2000000) only [go_sem, ↓dxc_true, ↓dxc_false, ↓bxc_true, ↓bxc_false, Nat.zero_add, Nat.add_zero, Nat.zero_mul, Nat.reduceBEq, Nat.reduceAdd, Nat.reduceMul, Nat.reduceSub, Nat.reduceLT, Nat.reduceLeDiff, Nat.reduceEqDiff, Nat.reduceDiv, Nat.reduceMod, Int.reduceAdd, Int.reduceSub, Int.reduceMul, Int.reduceDiv, Int.reduceMod, Int.reduceLT, Int.reduceLE, Int.reduceEq, Int.reduceToNat, Int.reducePow, Int.reduceNeg, ne_eq, not_false_eq_true, not_true_eq_false, decide_true, decide_false, Bool.not_true, Bool.not_false, forall_const, reduceCtorEq, implies_true, beq_self_eq_true, Int.cast_ofNat_Int, reduceIte, if_true, if_false, Bool.false_eq_true, Try.ntmps26, fin_ret hE, Try.results26, hxy]
    refine CallC.pur (.v (.int .i64 (cmpS x.pg.sq y.pg.sq))) 300 (fun w1 _ => cmp32_C w1 _ _) ?_
    rcases Int.lt_trichotomy x.pg.sq y.pg.sq with h1 | h1 | h1
    · have e1 : cmpS x.pg.sq y.pg.sq = -1 := by rw [cmpS, if_pos h1]
      have e2 : standsS x y = false := by simp [standsS]; intros; omega
      simp (maxSteps := 2000000) only [go_sem, ↓dxc_true, ↓dxc_false, ↓bxc_true, ↓bxc_false, Nat.zero_add, Nat.add_zero, Nat.zero_mul, Nat.reduceBEq, Nat.reduceAdd, Nat.reduceMul, Nat.reduceSub, Nat.reduceLT, Nat.reduceLeDiff, Nat.reduceEqDiff, Nat.reduceDiv, Nat.reduceMod, Int.reduceAdd, Int.reduceSub, Int.reduceMul, Int.reduceDiv, Int.reduceMod, Int.reduceLT, Int.reduceLE, Int.reduceEq, Int.reduceToNat, Int.reducePow, Int.reduceNeg, ne_eq, not_false_eq_true, not_true_eq_false, decide_true, decide_false, Bool.not_true, Bool.not_false, forall_const, reduceCtorEq, implies_true, beq_self_eq_true, Int.cast_ofNat_Int, reduceIte, if_true, if_false, Bool.false_eq_true, Try.ntmps26, fin_ret hE, Try.results26, e1, e2]
      exact fun w' hm' => ⟨rfl, hm'.below⟩
    · have e1 : cmpS x.pg.sq y.pg.sq = 0 := by rw [cmpS, if_neg (by omega), if_neg (by omega)]
      simp (maxSteps := 2000000) only [go_sem, ↓dxc_true, ↓dxc_false, ↓bxc_true, ↓bxc_false, Nat.zero_add, Nat.add_zero, Nat.zero_mul, Nat.reduceBEq, Nat.reduceAdd, Nat.reduceMul, Nat.reduceSub, Nat.reduceLT, Nat.reduceLeDiff, Nat.reduceEqDiff, Nat.reduceDiv, Nat.reduceMod, Int.reduceAdd, Int.reduceSub, Int.reduceMul, Int.reduceDiv, Int.reduceMod, Int.reduceLT, Int.reduceLE, Int.reduceEq, Int.reduceToNat, Int.reducePow, Int.reduceNeg, ne_eq, not_false_eq_true, not_true_eq_false, decide_true, decide_false, Bool.not_true, Bool.not_false, forall_const, reduceCtorEq, implies_true, beq_self_eq_true, Int.cast_ofNat_Int, reduceIte, if_true, if_false, Bool.false_eq_true, Try.ntmps26, fin_ret hE, Try.results26, e1]
      refine ⟨fun k2 w' hm' => ⟨?_, hm'.below⟩, fun k2 w' hm' => ⟨?_, hm'.below⟩⟩
      all_goals simp [standsS, den, k1, hxy, h1, *]
    · have e1 : cmpS x.pg.sq y.pg.sq = 1 := by rw [cmpS, if_neg (by omega), if_pos h1]
      have e2 : standsS x y = true := by simp [standsS, k1, hxy, h1]
      simp (maxSteps := 2000000) only [go_sem, ↓dxc_true, ↓dxc_false, ↓bxc_true, ↓bxc_false, Nat.zero_add, Nat.add_zero, Nat.zero_mul, Nat.reduceBEq, Nat.reduceAdd, Nat.reduceMul, Nat.reduceSub, Nat.reduceLT, Nat.reduceLeDiff, Nat.reduceEqDiff, Nat.reduceDiv, Nat.reduceMod, Int.reduceAdd, Int.reduceSub, Int.reduceMul, Int.reduceDiv, Int.reduceMod, Int.reduceLT, Int.reduceLE, Int.reduceEq, Int.reduceToNat, Int.reducePow, Int.reduceNeg, ne_eq, not_false_eq_true, not_true_eq_false, decide_true, decide_false, Bool.not_true, Bool.not_false, forall_const, reduceCtorEq, implies_true, beq_self_eq_true, Int.cast_ofNat_Int, reduceIte, if_true, if_false, Bool.false_eq_true, Try.ntmps26, fin_ret hE, Try.results26, e1, e2]
      exact fun w' hm' => ⟨rfl, hm'.below⟩

end Go.Proofs
