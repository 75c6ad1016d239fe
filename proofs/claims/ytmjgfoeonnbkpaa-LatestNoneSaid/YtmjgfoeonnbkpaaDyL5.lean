/- Blocks of the flash: what is found in words. -/
import Derived.Test.YtmjgfoeonnbkpaaDyL4
set_option linter.unusedSimpArgs false
set_option linter.unusedVariables false
set_option linter.unusedSectionVars false
set_option maxRecDepth 100000
set_option maxHeartbeats 8000000
namespace Go.Proofs
open Go.Dx Go.RowKit

/-- The pages of a block's words, one by one. -/
theorem pages_I (bb ba oa ca : Nat) (wf : Bool) (hca : 64 ≤ ca) :
    Iter Try.prog 49 [.p 102 bb 0] [⟨102, bb, wf, .c [.s 101 ba oa 64 ca] 62⟩] 8 (fun i => [.v (.int .i64 (i : Int)), .s 101 ba (oa + (4 + i * 7)) 7 (ca - (4 + i * 7))]) := by
  intro l W0 mods γ δ J Jx g0 w hy hm
  refine calls_of_ex_at [.v (.func (.yield l) #[] #[]), .p 102 bb 0] _ mods 3 300 Try.func49 rfl hm (by simp [Try.ntmps49]) fun E hE => ?_
  simp (maxSteps := 2000000) only [go_sem, ↓dxc_true, ↓dxc_false, ↓bxc_true, ↓bxc_false, Nat.zero_add, Nat.add_zero, Nat.zero_mul, Nat.reduceBEq, Nat.reduceAdd, Nat.reduceMul, Nat.reduceSub, Nat.reduceLT, Nat.reduceLeDiff, Nat.reduceEqDiff, Nat.reduceDiv, Nat.reduceMod, Int.reduceAdd, Int.reduceSub, Int.reduceMul, Int.reduceDiv, Int.reduceMod, Int.reduceLT, Int.reduceLE, Int.reduceEq, Int.reduceToNat, Int.reducePow, Int.reduceNeg, ne_eq, not_false_eq_true, not_true_eq_false, decide_true, decide_false, Bool.not_true, Bool.not_false, forall_const, reduceCtorEq, implies_true, beq_self_eq_true, Int.cast_ofNat_Int, reduceIte, if_true, if_false, Bool.false_eq_true, Try.ntmps49, fin_ret hE, Try.results49]
  refine CodeC.loop (γ := { p : (i : Nat) × γ i // p.1 ≤ 8 }) (fun g => ⟨20, 3, [(5, .v (.int .i64 (g.1.1 : Int))), (0, .v (.func (.yield l) #[] #[])), (1, .p 102 bb 0)], ⟨102, bb, wf, .c [.s 101 ba oa 64 ca] 62⟩ :: J g.1.1 g.1.2, []⟩) (fun g => 8 - g.1.1)
    ⟨⟨0, g0⟩, by simp⟩ 300 ⟨rfl, rfl, ⟨rfl, rfl, rfl, trivial⟩, SubH.refl _⟩ ?_
  rintro ⟨⟨i, g⟩, h1⟩
  simp only at h1
  simp (maxSteps := 2000000) only [go_sem, ↓dxc_true, ↓dxc_false, ↓bxc_true, ↓bxc_false, Nat.zero_add, Nat.add_zero, Nat.zero_mul, Nat.reduceBEq, Nat.reduceAdd, Nat.reduceMul, Nat.reduceSub, Nat.reduceLT, Nat.reduceLeDiff, Nat.reduceEqDiff, Nat.reduceDiv, Nat.reduceMod, Int.reduceAdd, Int.reduceSub, Int.reduceMul, Int.reduceDiv, Int.reduceMod, Int.reduceLT, Int.reduceLE, Int.reduceEq, Int.reduceToNat, Int.reducePow, Int.reduceNeg, ne_eq, not_false_eq_true, not_true_eq_false, decide_true, decide_false, Bool.not_true, Bool.not_false, forall_const, reduceCtorEq, implies_true, beq_self_eq_true, Int.cast_ofNat_Int, reduceIte, if_true, if_false, Bool.false_eq_true, Try.ntmps49, fin_ret hE, Try.results49]
  refine ⟨fun k1 => ?_, fun k1 => ?_⟩
  · have hi : i < 8 := by omega
    refine CallC.pur (.v (.int .i64 ((4 + i * 7 : Nat) : Int))) 300 (fun w1 hm1 => at_C w1 i hi) ?_
    have e1 : (((4 + i * 7 : Nat) : Int) + 7).toNat = 4 + i * 7 + 7 := by omega
    have e2 : 4 + i * 7 + 7 - (4 + i * 7) = 7 := by omega
    have e3 : ¬ ca = 4 + i * 7 := by omega
    simp (maxSteps := 2000000) only [go_sem, ↓dxc_true, ↓dxc_false, ↓bxc_true, ↓bxc_false, Nat.zero_add, Nat.add_zero, Nat.zero_mul, Nat.reduceBEq, Nat.reduceAdd, Nat.reduceMul, Nat.reduceSub, Nat.reduceLT, Nat.reduceLeDiff, Nat.reduceEqDiff, Nat.reduceDiv, Nat.reduceMod, Int.reduceAdd, Int.reduceSub, Int.reduceMul, Int.reduceDiv, Int.reduceMod, Int.reduceLT, Int.reduceLE, Int.reduceEq, Int.reduceToNat, Int.reducePow, Int.reduceNeg, ne_eq, not_false_eq_true, not_true_eq_false, decide_true, decide_false, Bool.not_true, Bool.not_false, forall_const, reduceCtorEq, implies_true, beq_self_eq_true, Int.cast_ofNat_Int, reduceIte, if_true, if_false, Bool.false_eq_true, Try.ntmps49, fin_ret hE, Try.results49, Int.toNat_natCast, e1, e2, e3, Nat.mul_one]
    refine ⟨⟨by omega, by omega⟩, ⟨by omega, by omega, by omega⟩, ?_⟩
    refine LeafC.yield (γ := γ (i + 1) ⊕ δ) (f := .tmp 10) (args := [.tmp 11, .tmp 16]) l (fun c => c.isLeft) (fun c => match c with
      | .inl g => ⟨102, bb, wf, .c [.s 101 ba oa 64 ca] 62⟩ :: J (i + 1) g
      | .inr c => ⟨102, bb, wf, .c [.s 101 ba oa 64 ca] 62⟩ :: Jx c) 300 rfl rfl (fun w1 hm1 => ?_) ?_
    · subst hE
      refine (hy i hi g [⟨102, bb, wf, .c [.s 101 ba oa 64 ca] 62⟩] w1 hm1).mono ?_
      rintro e w' (⟨g', rfl, h⟩ | ⟨c, rfl, h⟩)
      · exact ⟨.inl g', rfl, h⟩
      · exact ⟨.inr c, rfl, h⟩
    refine ⟨by simp (maxSteps := 2000000) only [go_sem, ↓dxc_true, ↓dxc_false, ↓bxc_true, ↓bxc_false, Nat.zero_add, Nat.add_zero, Nat.zero_mul, Nat.reduceBEq, Nat.reduceAdd, Nat.reduceMul, Nat.reduceSub, Nat.reduceLT, Nat.reduceLeDiff, Nat.reduceEqDiff, Nat.reduceDiv, Nat.reduceMod, Int.reduceAdd, Int.reduceSub, Int.reduceMul, Int.reduceDiv, Int.reduceMod, Int.reduceLT, Int.reduceLE, Int.reduceEq, Int.reduceToNat, Int.reducePow, Int.reduceNeg, ne_eq, not_false_eq_true, not_true_eq_false, decide_true, decide_false, Bool.not_true, Bool.not_false, forall_const, reduceCtorEq, implies_true, beq_self_eq_true, Int.cast_ofNat_Int, reduceIte, if_true, if_false, Bool.false_eq_true, Try.ntmps49], ?_⟩
    rintro (g' | c)
    · simp (maxSteps := 2000000) only [go_sem, ↓dxc_true, ↓dxc_false, ↓bxc_true, ↓bxc_false, Nat.zero_add, Nat.add_zero, Nat.zero_mul, Nat.reduceBEq, Nat.reduceAdd, Nat.reduceMul, Nat.reduceSub, Nat.reduceLT, Nat.reduceLeDiff, Nat.reduceEqDiff, Nat.reduceDiv, Nat.reduceMod, Int.reduceAdd, Int.reduceSub, Int.reduceMul, Int.reduceDiv, Int.reduceMod, Int.reduceLT, Int.reduceLE, Int.reduceEq, Int.reduceToNat, Int.reducePow, Int.reduceNeg, ne_eq, not_false_eq_true, not_true_eq_false, decide_true, decide_false, Bool.not_true, Bool.not_false, forall_const, reduceCtorEq, implies_true, beq_self_eq_true, Int.cast_ofNat_Int, reduceIte, if_true, if_false, Bool.false_eq_true, Try.ntmps49, fin_ret hE, Try.results49, Sum.isLeft]
      exact ⟨⟨by omega, by omega⟩, ⟨⟨i + 1, g'⟩, by simp only; omega⟩, ⟨rfl, rfl, ⟨by simp [lk], rfl, rfl, trivial⟩, SubH.refl _⟩, by simp only; omega⟩
    · simp (maxSteps := 2000000) only [go_sem, ↓dxc_true, ↓dxc_false, ↓bxc_true, ↓bxc_false, Nat.zero_add, Nat.add_zero, Nat.zero_mul, Nat.reduceBEq, Nat.reduceAdd, Nat.reduceMul, Nat.reduceSub, Nat.reduceLT, Nat.reduceLeDiff, Nat.reduceEqDiff, Nat.reduceDiv, Nat.reduceMod, Int.reduceAdd, Int.reduceSub, Int.reduceMul, Int.reduceDiv, Int.reduceMod, Int.reduceLT, Int.reduceLE, Int.reduceEq, Int.reduceToNat, Int.reducePow, Int.reduceNeg, ne_eq, not_false_eq_true, not_true_eq_false, decide_true, decide_false, Bool.not_true, Bool.not_false, forall_const, reduceCtorEq, implies_true, beq_self_eq_true, Int.cast_ofNat_Int, reduceIte, if_true, if_false, Bool.false_eq_true, Try.ntmps49, fin_ret hE, Try.results49, Sum.isLeft]
      exact fun w' hm' => ⟨_, rfl, Or.inr ⟨c, hm'.sub1⟩⟩
  · have hi : i = 8 := by omega
    subst hi
    simp (maxSteps := 2000000) only [go_sem, ↓dxc_true, ↓dxc_false, ↓bxc_true, ↓bxc_false, Nat.zero_add, Nat.add_zero, Nat.zero_mul, Nat.reduceBEq, Nat.reduceAdd, Nat.reduceMul, Nat.reduceSub, Nat.reduceLT, Nat.reduceLeDiff, Nat.reduceEqDiff, Nat.reduceDiv, Nat.reduceMod, Int.reduceAdd, Int.reduceSub, Int.reduceMul, Int.reduceDiv, Int.reduceMod, Int.reduceLT, Int.reduceLE, Int.reduceEq, Int.reduceToNat, Int.reducePow, Int.reduceNeg, ne_eq, not_false_eq_true, not_true_eq_false, decide_true, decide_false, Bool.not_true, Bool.not_false, forall_const, reduceCtorEq, implies_true, beq_self_eq_true, Int.cast_ofNat_Int, reduceIte, if_true, if_false, Bool.false_eq_true, Try.ntmps49, fin_normal hE, Try.results49]
    exact fun w' hm' => ⟨_, rfl, Or.inl ⟨g, hm'.sub1⟩⟩

/-- The words of each block, one by one. -/
theorem chunk_I (bb bc ba oa ca m : Nat) (wf wg : Bool) (hca : 64 * m ≤ ca ∧ ca ≤ 9223372036854775807) (hm1 : m ≤ 1000) :
    Iter Try.prog 38 [.p 102 bb 0, .p 103 bc 0] [⟨102, bb, wf, .c [.s 101 ba oa (64 * m) ca] 62⟩, ⟨103, bc, wg, .c [.v (.int .i64 64)] 3⟩] m (fun i => [.s 101 ba (oa + 64 * i) 64 64]) := by
  intro l W0 mods γ δ J Jx g0 w hy hm
  refine calls_of_ex_at [.v (.func (.yield l) #[] #[]), .p 102 bb 0, .p 103 bc 0] _ mods 3 300 Try.func38 rfl hm (by simp [Try.ntmps38]) fun E hE => ?_
  simp (maxSteps := 2000000) only [go_sem, ↓dxc_true, ↓dxc_false, ↓bxc_true, ↓bxc_false, Nat.zero_add, Nat.add_zero, Nat.zero_mul, Nat.reduceBEq, Nat.reduceAdd, Nat.reduceMul, Nat.reduceSub, Nat.reduceLT, Nat.reduceLeDiff, Nat.reduceEqDiff, Nat.reduceDiv, Nat.reduceMod, Int.reduceAdd, Int.reduceSub, Int.reduceMul, Int.reduceDiv, Int.reduceMod, Int.reduceLT, Int.reduceLE, Int.reduceEq, Int.reduceToNat, Int.reducePow, Int.reduceNeg, ne_eq, not_false_eq_true, not_true_eq_false, decide_true, decide_false, Bool.not_true, Bool.not_false, forall_const, reduceCtorEq, implies_true, beq_self_eq_true, Int.cast_ofNat_Int, reduceIte, if_true, if_false, Bool.false_eq_true, Try.ntmps38, fin_ret hE, Try.results38]
  refine CodeC.loop (γ := { p : (i : Nat) × γ i // p.1 ≤ m }) (fun g => ⟨31, 3, [(4, .v (.int .i64 ((64 * g.1.1 : Nat) : Int))), (0, .v (.func (.yield l) #[] #[])), (1, .p 102 bb 0), (2, .p 103 bc 0)], ⟨102, bb, wf, .c [.s 101 ba oa (64 * m) ca] 62⟩ :: ⟨103, bc, wg, .c [.v (.int .i64 64)] 3⟩ :: J g.1.1 g.1.2, []⟩) (fun g => m - g.1.1)
    ⟨⟨0, g0⟩, by simp⟩ 300 ⟨rfl, rfl, ⟨rfl, rfl, rfl, rfl, trivial⟩, SubH.refl _⟩ ?_
  rintro ⟨⟨i, g⟩, h1⟩
  simp only at h1
  simp (maxSteps := 2000000) only [go_sem, ↓dxc_true, ↓dxc_false, ↓bxc_true, ↓bxc_false, Nat.zero_add, Nat.add_zero, Nat.zero_mul, Nat.reduceBEq, Nat.reduceAdd, Nat.reduceMul, Nat.reduceSub, Nat.reduceLT, Nat.reduceLeDiff, Nat.reduceEqDiff, Nat.reduceDiv, Nat.reduceMod, Int.reduceAdd, Int.reduceSub, Int.reduceMul, Int.reduceDiv, Int.reduceMod, Int.reduceLT, Int.reduceLE, Int.reduceEq, Int.reduceToNat, Int.reducePow, Int.reduceNeg, ne_eq, not_false_eq_true, not_true_eq_false, decide_true, decide_false, Bool.not_true, Bool.not_false, forall_const, reduceCtorEq, implies_true, beq_self_eq_true, Int.cast_ofNat_Int, reduceIte, if_true, if_false, Bool.false_eq_true, Try.ntmps38, fin_ret hE, Try.results38]
  refine ⟨fun k1 => ?_, fun k1 => ?_⟩
  · have hi : i < m := by omega
    refine CodeC.lex 300 Try.follows_mixed (by kernel_rfl) ?_
    have e1 : min 64 (((64 * m - 64 * i : Nat)) : Int) = 64 := by omega
    have e2 : ∀ (S : St) (x : SV) (l h : Option Operand) (q : Operand), slv Try.prog S 62 x l h (some q) = .leaf := fun _ _ _ _ _ => rfl
    simp (maxSteps := 2000000) only [go_sem, ↓dxc_true, ↓dxc_false, ↓bxc_true, ↓bxc_false, Nat.zero_add, Nat.add_zero, Nat.zero_mul, Nat.reduceBEq, Nat.reduceAdd, Nat.reduceMul, Nat.reduceSub, Nat.reduceLT, Nat.reduceLeDiff, Nat.reduceEqDiff, Nat.reduceDiv, Nat.reduceMod, Int.reduceAdd, Int.reduceSub, Int.reduceMul, Int.reduceDiv, Int.reduceMod, Int.reduceLT, Int.reduceLE, Int.reduceEq, Int.reduceToNat, Int.reducePow, Int.reduceNeg, ne_eq, not_false_eq_true, not_true_eq_false, decide_true, decide_false, Bool.not_true, Bool.not_false, forall_const, reduceCtorEq, implies_true, beq_self_eq_true, Int.cast_ofNat_Int, reduceIte, if_true, if_false, Bool.false_eq_true, Try.ntmps38, fin_ret hE, Try.results38, Int.toNat_natCast, e1, e2]
    refine ⟨⟨by omega, by omega, by omega⟩, ⟨by omega, by omega⟩, ⟨by omega, by omega⟩, ?_⟩
    refine LeafC.val (.s 101 ba (oa + 64 * i) 64 64) 300 (by simp) (fun a w hok => ?_) ?_
    · have := exec_slice3 (P := Try.prog) hok (T := 62) (e := 23) (sz := 1) (by_ := 4) (nn := 1) (ag := false) Try.ty62 (x := .tmp 20) (xl := .tmp 21) (xh := .tmp 24) (xm := .tmp 27) (t := 101) (b := ba) (o := oa) (n := 64 * m) (c := ca) (l := ((64 * i : Nat) : Int)) (h := ((64 * i : Nat) : Int) + 64) (m := ((64 * i : Nat) : Int) + 64) rfl rfl rfl rfl ⟨by omega, by omega, by omega, by omega⟩
      have g1 : (((64 * i : Nat) : Int) + 64).toNat = 64 * i + 64 := by omega
      have g2 : 64 * i + 64 - 64 * i = 64 := by omega
      have g3 : ¬ (64 * i + 64 = 64 * i) := by omega
      simp only [g1, Int.toNat_natCast, g2, g3, if_false, Nat.mul_one] at this
      exact this _ _ _ _ _
    simp (maxSteps := 2000000) only [go_sem, ↓dxc_true, ↓dxc_false, ↓bxc_true, ↓bxc_false, Nat.zero_add, Nat.add_zero, Nat.zero_mul, Nat.reduceBEq, Nat.reduceAdd, Nat.reduceMul, Nat.reduceSub, Nat.reduceLT, Nat.reduceLeDiff, Nat.reduceEqDiff, Nat.reduceDiv, Nat.reduceMod, Int.reduceAdd, Int.reduceSub, Int.reduceMul, Int.reduceDiv, Int.reduceMod, Int.reduceLT, Int.reduceLE, Int.reduceEq, Int.reduceToNat, Int.reducePow, Int.reduceNeg, ne_eq, not_false_eq_true, not_true_eq_false, decide_true, decide_false, Bool.not_true, Bool.not_false, forall_const, reduceCtorEq, implies_true, beq_self_eq_true, Int.cast_ofNat_Int, reduceIte, if_true, if_false, Bool.false_eq_true, Try.ntmps38, fin_ret hE, Try.results38]
    refine LeafC.yield (γ := γ (i + 1) ⊕ δ) (f := .tmp 19) (args := [.tmp 28]) l (fun c => c.isLeft) (fun c => match c with
      | .inl g => ⟨102, bb, wf, .c [.s 101 ba oa (64 * m) ca] 62⟩ :: ⟨103, bc, wg, .c [.v (.int .i64 64)] 3⟩ :: J (i + 1) g
      | .inr c => ⟨102, bb, wf, .c [.s 101 ba oa (64 * m) ca] 62⟩ :: ⟨103, bc, wg, .c [.v (.int .i64 64)] 3⟩ :: Jx c) 300 rfl rfl (fun w1 hm1 => ?_) ?_
    · subst hE
      refine (hy i hi g [⟨102, bb, wf, .c [.s 101 ba oa (64 * m) ca] 62⟩, ⟨103, bc, wg, .c [.v (.int .i64 64)] 3⟩] w1 hm1).mono ?_
      rintro e w' (⟨g', rfl, h⟩ | ⟨c, rfl, h⟩)
      · exact ⟨.inl g', rfl, h⟩
      · exact ⟨.inr c, rfl, h⟩
    refine ⟨by simp (maxSteps := 2000000) only [go_sem, ↓dxc_true, ↓dxc_false, ↓bxc_true, ↓bxc_false, Nat.zero_add, Nat.add_zero, Nat.zero_mul, Nat.reduceBEq, Nat.reduceAdd, Nat.reduceMul, Nat.reduceSub, Nat.reduceLT, Nat.reduceLeDiff, Nat.reduceEqDiff, Nat.reduceDiv, Nat.reduceMod, Int.reduceAdd, Int.reduceSub, Int.reduceMul, Int.reduceDiv, Int.reduceMod, Int.reduceLT, Int.reduceLE, Int.reduceEq, Int.reduceToNat, Int.reducePow, Int.reduceNeg, ne_eq, not_false_eq_true, not_true_eq_false, decide_true, decide_false, Bool.not_true, Bool.not_false, forall_const, reduceCtorEq, implies_true, beq_self_eq_true, Int.cast_ofNat_Int, reduceIte, if_true, if_false, Bool.false_eq_true, Try.ntmps38], ?_⟩
    rintro (g' | c)
    · simp (maxSteps := 2000000) only [go_sem, ↓dxc_true, ↓dxc_false, ↓bxc_true, ↓bxc_false, Nat.zero_add, Nat.add_zero, Nat.zero_mul, Nat.reduceBEq, Nat.reduceAdd, Nat.reduceMul, Nat.reduceSub, Nat.reduceLT, Nat.reduceLeDiff, Nat.reduceEqDiff, Nat.reduceDiv, Nat.reduceMod, Int.reduceAdd, Int.reduceSub, Int.reduceMul, Int.reduceDiv, Int.reduceMod, Int.reduceLT, Int.reduceLE, Int.reduceEq, Int.reduceToNat, Int.reducePow, Int.reduceNeg, ne_eq, not_false_eq_true, not_true_eq_false, decide_true, decide_false, Bool.not_true, Bool.not_false, forall_const, reduceCtorEq, implies_true, beq_self_eq_true, Int.cast_ofNat_Int, reduceIte, if_true, if_false, Bool.false_eq_true, Try.ntmps38, fin_ret hE, Try.results38, Sum.isLeft]
      exact ⟨⟨by omega, by omega⟩, ⟨⟨i + 1, g'⟩, by simp only; omega⟩, ⟨rfl, rfl, ⟨by simp [lk]; omega, rfl, rfl, rfl, trivial⟩, SubH.refl _⟩, by simp only; omega⟩
    · simp (maxSteps := 2000000) only [go_sem, ↓dxc_true, ↓dxc_false, ↓bxc_true, ↓bxc_false, Nat.zero_add, Nat.add_zero, Nat.zero_mul, Nat.reduceBEq, Nat.reduceAdd, Nat.reduceMul, Nat.reduceSub, Nat.reduceLT, Nat.reduceLeDiff, Nat.reduceEqDiff, Nat.reduceDiv, Nat.reduceMod, Int.reduceAdd, Int.reduceSub, Int.reduceMul, Int.reduceDiv, Int.reduceMod, Int.reduceLT, Int.reduceLE, Int.reduceEq, Int.reduceToNat, Int.reducePow, Int.reduceNeg, ne_eq, not_false_eq_true, not_true_eq_false, decide_true, decide_false, Bool.not_true, Bool.not_false, forall_const, reduceCtorEq, implies_true, beq_self_eq_true, Int.cast_ofNat_Int, reduceIte, if_true, if_false, Bool.false_eq_true, Try.ntmps38, fin_ret hE, Try.results38, Sum.isLeft]
      exact fun w' hm' => ⟨_, rfl, Or.inr ⟨c, hm'.sub1.sub1⟩⟩
  · have hi : i = m := by omega
    subst hi
    simp (maxSteps := 2000000) only [go_sem, ↓dxc_true, ↓dxc_false, ↓bxc_true, ↓bxc_false, Nat.zero_add, Nat.add_zero, Nat.zero_mul, Nat.reduceBEq, Nat.reduceAdd, Nat.reduceMul, Nat.reduceSub, Nat.reduceLT, Nat.reduceLeDiff, Nat.reduceEqDiff, Nat.reduceDiv, Nat.reduceMod, Int.reduceAdd, Int.reduceSub, Int.reduceMul, Int.reduceDiv, Int.reduceMod, Int.reduceLT, Int.reduceLE, Int.reduceEq, Int.reduceToNat, Int.reducePow, Int.reduceNeg, ne_eq, not_false_eq_true, not_true_eq_false, decide_true, decide_false, Bool.not_true, Bool.not_false, forall_const, reduceCtorEq, implies_true, beq_self_eq_true, Int.cast_ofNat_Int, reduceIte, if_true, if_false, Bool.false_eq_true, Try.ntmps38, fin_normal hE, Try.results38]
    exact fun w' hm' => ⟨_, rfl, Or.inl ⟨g, hm'.sub1.sub1⟩⟩

end Go.Proofs
