/- alive, over the sort's contract. -/
import Derived.Test.YtmjgfoeonnbkpaaDyL15
set_option linter.unusedSimpArgs false
set_option linter.unusedVariables false
set_option linter.unusedSectionVars false
set_option maxRecDepth 100000
set_option maxHeartbeats 1000000
namespace Go.Proofs
open Go.Dx Go.RowKit Go.Sort

def pA : Pg := ⟨3, 5, false, 0, 0, 0, 0⟩
def pB : Pg := ⟨3, 6, false, 0, 0, 0, 0⟩
def plA : Pl := ⟨0, 0, pA⟩
def plB : Pl := ⟨1, 0, pB⟩
def aWs : List Int := headS 0 ++ inn pA 8 ++ ones 4 ++ headS 1 ++ inn pB 8 ++ ones 4
def aBs : List Bk := scanS aWs 2

theorem aWs_len : aWs.length = 128 := by decide +kernel
theorem aWs_u32 : U32 aWs := by
  have h : ∀ i, i < 128 → 0 ≤ aWs.getD i 0 ∧ aWs.getD i 0 ≤ 4294967295 := by decide +kernel
  intro i hi
  rw [aWs_len] at hi
  exact h i hi
theorem aGood : goodS 0 aBs = [plA, plB] := by decide +kernel
theorem aTop : topN (goodS 0 aBs) (goodS 0 aBs).length = 6 := by decide +kernel
theorem aNeed0 : neededS aBs 0 = [] := by decide +kernel
theorem aNeed1 : neededS aBs 1 = [plB] := by decide +kernel
theorem aOf : ofS [plB, plA] = [plB] := by decide +kernel
theorem aFind : fF 3 [plB] = (plB, true) := by decide +kernel
theorem aLen : aBs.length = 2 := by decide +kernel

theorem aSorted {xs : List Pl} (h1 : xs.Perm (goodS 0 aBs)) (h2 : SortedP xs) : ofS xs = [plB] := by
  rw [aGood] at h1
  have hl := h1.length_eq
  match xs, hl with
  | [x, y], _ =>
    have hx : x = plA ∨ x = plB := by simpa using h1.mem_iff.1 (List.mem_cons_self (a := x))
    rcases hx with rfl | rfl
    · have hy : [y].Perm [plB] := by simpa using h1
      have hy' : y = plB := by simpa using hy
      subst hy'
      exact absurd (h2 0 1 plA plB (by omega) rfl rfl) (by simp [ltP, plA, plB, pA, pB])
    · have h3 : [plB, y].Perm [plB, plA] := h1.trans (List.Perm.swap _ _ _)
      have hy' : y = plA := by simpa using h3
      subst hy'
      exact aOf

theorem aOf_C (hS : SortC) (w : World) (v : SV) (ro : List Ent) (h : Arg v ro aBs) (hm : Mem w [] ro w) :
    Calls Try.prog 13 #[den v] w fun e w' => ∃ b c j, e = .returned (den (.s 100 b 0 1 c)) ∧ (1 ≤ c ∧ c ≤ 9223372036854775807) ∧ w.heap.size ≤ b ∧ w'.heap[b]? = some (denO (.a (plB.f ++ j) 29)) ∧ Bel w.heap.size w w' := by
  refine (of_C hS w v ro aBs h (by rw [aGood]; decide) hm).mono ?_
  rintro e w' ⟨v', xs', rfl, h1, h2, ho⟩
  rw [aSorted h1 h2] at ho
  rcases ho with ⟨h, _⟩ | ⟨_, b, c, j, rfl, q1, q2, q3, q4⟩
  · cases h
  · exact ⟨b, c, j, rfl, q1, q2, by rw [← rows_one (f := Pl.f)]; exact q3, q4⟩

theorem alive_C (hS : SortC) (w : World) : Calls Try.prog 8 #[] w fun e w' => e = .returned (.bool true) ∧ Bel w.heap.size w w' := by
  have hm : Mem w [] [] w := Mem.reads (by simp) (by simp)
  refine calls_of_ex [] _ [] 3 600 Try.func8 rfl hm (by simp [Try.ntmps8]) fun E hE => ?_
  simp (maxSteps := 2000000) only [go_sem, ↓dxc_true, ↓dxc_false, ↓bxc_true, ↓bxc_false, Nat.zero_add, Nat.add_zero, Nat.zero_mul, Nat.reduceBEq, Nat.reduceAdd, Nat.reduceMul, Nat.reduceSub, Nat.reduceLT, Nat.reduceLeDiff, Nat.reduceEqDiff, Nat.reduceDiv, Nat.reduceMod, Int.reduceAdd, Int.reduceSub, Int.reduceMul, Int.reduceDiv, Int.reduceMod, Int.reduceLT, Int.reduceLE, Int.reduceEq, Int.reduceToNat, Int.reducePow, Int.reduceNeg, ne_eq, not_false_eq_true, not_true_eq_false, decide_true, decide_false, Bool.not_true, Bool.not_false, forall_const, reduceCtorEq, implies_true, beq_self_eq_true, Int.cast_ofNat_Int, reduceIte, if_true, if_false, Bool.false_eq_true, Try.ntmps8, fin_ret hE, Try.results8]
  intro b0 b1 b2
  refine CallC.new (γ := { p : Nat × List SV // 128 ≤ p.1 ∧ p.1 ≤ 9223372036854775807 }) (fun c b => .s 6 b 0 128 c.1.1) (fun c => .a (nums .u32 aWs ++ c.1.2) 23) 300 (fun w1 hm1 => ?_) ?_
  · refine (built_C w1 b2 b0 b1 pA pB ⟨rfl, rfl, by refine ⟨⟨?_, ?_⟩, ⟨?_, ?_⟩, ⟨?_, ?_⟩, ⟨?_, ?_⟩, ⟨?_, ?_⟩, ⟨?_, ?_⟩⟩ <;> decide⟩ ⟨rfl, rfl, by refine ⟨⟨?_, ?_⟩, ⟨?_, ?_⟩, ⟨?_, ?_⟩, ⟨?_, ?_⟩, ⟨?_, ?_⟩, ⟨?_, ?_⟩⟩ <;> decide⟩
      (Mem.reads (by simpa using ⟨hm1.at (t := 5) rfl, hm1.at (t := 3) rfl, hm1.at (t := 4) rfl⟩) (by simp))).mono ?_
    rintro e w' ⟨b, c, j, rfl, h1, h2, h3, h4⟩
    exact ⟨⟨(c, j), h1⟩, b, rfl, h2, h3, h4⟩
  refine ⟨by simp (maxSteps := 2000000) only [go_sem, ↓dxc_true, ↓dxc_false, ↓bxc_true, ↓bxc_false, Nat.zero_add, Nat.add_zero, Nat.zero_mul, Nat.reduceBEq, Nat.reduceAdd, Nat.reduceMul, Nat.reduceSub, Nat.reduceLT, Nat.reduceLeDiff, Nat.reduceEqDiff, Nat.reduceDiv, Nat.reduceMod, Int.reduceAdd, Int.reduceSub, Int.reduceMul, Int.reduceDiv, Int.reduceMod, Int.reduceLT, Int.reduceLE, Int.reduceEq, Int.reduceToNat, Int.reducePow, Int.reduceNeg, ne_eq, not_false_eq_true, not_true_eq_false, decide_true, decide_false, Bool.not_true, Bool.not_false, forall_const, reduceCtorEq, implies_true, beq_self_eq_true, Int.cast_ofNat_Int, reduceIte, if_true, if_false, Bool.false_eq_true, Try.ntmps8], ?_⟩
  rintro ⟨⟨c3, j3⟩, hc3⟩ b3
  simp only at hc3
  simp (maxSteps := 2000000) only [go_sem, ↓dxc_true, ↓dxc_false, ↓bxc_true, ↓bxc_false, Nat.zero_add, Nat.add_zero, Nat.zero_mul, Nat.reduceBEq, Nat.reduceAdd, Nat.reduceMul, Nat.reduceSub, Nat.reduceLT, Nat.reduceLeDiff, Nat.reduceEqDiff, Nat.reduceDiv, Nat.reduceMod, Int.reduceAdd, Int.reduceSub, Int.reduceMul, Int.reduceDiv, Int.reduceMod, Int.reduceLT, Int.reduceLE, Int.reduceEq, Int.reduceToNat, Int.reducePow, Int.reduceNeg, ne_eq, not_false_eq_true, not_true_eq_false, decide_true, decide_false, Bool.not_true, Bool.not_false, forall_const, reduceCtorEq, implies_true, beq_self_eq_true, Int.cast_ofNat_Int, reduceIte, if_true, if_false, Bool.false_eq_true, Try.ntmps8, fin_ret hE, Try.results8]
  refine CallC.new (γ := { p : Nat × List SV // 2 ≤ p.1 ∧ p.1 ≤ 9223372036854775807 }) (fun c b => .u [.s 7 b 0 2 c.1.1, .v (.int .i64 0)]) (fun c => .a (rows Bk.f aBs ++ c.1.2) 55) 300 (fun w1 hm1 => ?_) ?_
  · refine (words_S w1 b3 0 c3 2 aWs _ 23 (0, 0) (by decide) aWs_len aWs_u32 hc3 (hm1.at (t := 6) rfl) (Seg.own .u32 aWs j3)).mono ?_
    rintro e w' ⟨b, c, j, rfl, h1, h2, h3, h4⟩
    exact ⟨⟨(c, j), h1.1, h1.2.1⟩, b, rfl, h2, h3, h4⟩
  refine ⟨by simp (maxSteps := 2000000) only [go_sem, ↓dxc_true, ↓dxc_false, ↓bxc_true, ↓bxc_false, Nat.zero_add, Nat.add_zero, Nat.zero_mul, Nat.reduceBEq, Nat.reduceAdd, Nat.reduceMul, Nat.reduceSub, Nat.reduceLT, Nat.reduceLeDiff, Nat.reduceEqDiff, Nat.reduceDiv, Nat.reduceMod, Int.reduceAdd, Int.reduceSub, Int.reduceMul, Int.reduceDiv, Int.reduceMod, Int.reduceLT, Int.reduceLE, Int.reduceEq, Int.reduceToNat, Int.reducePow, Int.reduceNeg, ne_eq, not_false_eq_true, not_true_eq_false, decide_true, decide_false, Bool.not_true, Bool.not_false, forall_const, reduceCtorEq, implies_true, beq_self_eq_true, Int.cast_ofNat_Int, reduceIte, if_true, if_false, Bool.false_eq_true, Try.ntmps8], ?_⟩
  rintro ⟨⟨c4, j4⟩, hc4⟩ b4
  simp only at hc4
  simp (maxSteps := 2000000) only [go_sem, ↓dxc_true, ↓dxc_false, ↓bxc_true, ↓bxc_false, Nat.zero_add, Nat.add_zero, Nat.zero_mul, Nat.reduceBEq, Nat.reduceAdd, Nat.reduceMul, Nat.reduceSub, Nat.reduceLT, Nat.reduceLeDiff, Nat.reduceEqDiff, Nat.reduceDiv, Nat.reduceMod, Int.reduceAdd, Int.reduceSub, Int.reduceMul, Int.reduceDiv, Int.reduceMod, Int.reduceLT, Int.reduceLE, Int.reduceEq, Int.reduceToNat, Int.reducePow, Int.reduceNeg, ne_eq, not_false_eq_true, not_true_eq_false, decide_true, decide_false, Bool.not_true, Bool.not_false, forall_const, reduceCtorEq, implies_true, beq_self_eq_true, Int.cast_ofNat_Int, reduceIte, if_true, if_false, Bool.false_eq_true, Try.ntmps8, fin_ret hE, Try.results8]
  have harg : Arg (.s 101 b4 0 2 c4) [⟨101, b4, false, .z (rows Bk.f aBs ++ j4) 55 (0, 0)⟩] aBs := by
    have := Arg.row b4 0 c4 aBs (rows Bk.f aBs ++ j4) 55 (0, 0) (SegR.own Bk.len aBs j4) (by rw [aLen]; decide)
    rw [aLen] at this
    exact this
  refine CallC.new (γ := { p : Nat × List SV // 1 ≤ p.1 ∧ p.1 ≤ 9223372036854775807 }) (fun c b => .s 8 b 0 1 c.1.1) (fun c => .a (plB.f ++ c.1.2) 29) 300 (fun w1 hm1 => ?_) ?_
  · refine (aOf_C hS w1 _ _ harg (Mem.reads (by intro e he; simp only [List.mem_singleton] at he; subst he; exact hm1.at (t := 7) (e := ⟨7, b4, true, .a (rows Bk.f aBs ++ j4) 55⟩) rfl) (by simp))).mono ?_
    rintro e w' ⟨b, c, j, rfl, h1, h2, h3, h4⟩
    exact ⟨⟨(c, j), h1⟩, b, rfl, h2, h3, h4⟩
  refine ⟨by simp (maxSteps := 2000000) only [go_sem, ↓dxc_true, ↓dxc_false, ↓bxc_true, ↓bxc_false, Nat.zero_add, Nat.add_zero, Nat.zero_mul, Nat.reduceBEq, Nat.reduceAdd, Nat.reduceMul, Nat.reduceSub, Nat.reduceLT, Nat.reduceLeDiff, Nat.reduceEqDiff, Nat.reduceDiv, Nat.reduceMod, Int.reduceAdd, Int.reduceSub, Int.reduceMul, Int.reduceDiv, Int.reduceMod, Int.reduceLT, Int.reduceLE, Int.reduceEq, Int.reduceToNat, Int.reducePow, Int.reduceNeg, ne_eq, not_false_eq_true, not_true_eq_false, decide_true, decide_false, Bool.not_true, Bool.not_false, forall_const, reduceCtorEq, implies_true, beq_self_eq_true, Int.cast_ofNat_Int, reduceIte, if_true, if_false, Bool.false_eq_true, Try.ntmps8], ?_⟩
  rintro ⟨⟨c5, j5⟩, hc5⟩ b5
  simp only at hc5
  simp (maxSteps := 2000000) only [go_sem, ↓dxc_true, ↓dxc_false, ↓bxc_true, ↓bxc_false, Nat.zero_add, Nat.add_zero, Nat.zero_mul, Nat.reduceBEq, Nat.reduceAdd, Nat.reduceMul, Nat.reduceSub, Nat.reduceLT, Nat.reduceLeDiff, Nat.reduceEqDiff, Nat.reduceDiv, Nat.reduceMod, Int.reduceAdd, Int.reduceSub, Int.reduceMul, Int.reduceDiv, Int.reduceMod, Int.reduceLT, Int.reduceLE, Int.reduceEq, Int.reduceToNat, Int.reducePow, Int.reduceNeg, ne_eq, not_false_eq_true, not_true_eq_false, decide_true, decide_false, Bool.not_true, Bool.not_false, forall_const, reduceCtorEq, implies_true, beq_self_eq_true, Int.cast_ofNat_Int, reduceIte, if_true, if_false, Bool.false_eq_true, Try.ntmps8, fin_ret hE, Try.results8]
  refine CallC.pur (.u [.g plB.f, .v (.bool true)]) 300 (fun w1 hm1 => ?_) ?_
  · have := find_C w1 b5 0 c5 3 [plB] (plB.f ++ j5) 29 (0, 0) (by decide) (hm1.at (t := 8) rfl) (SegR.own (f := Pl.f) Pl.len [plB] j5)
    rw [aFind] at this
    exact this
  have hB : plB.f = [.v (.int .i64 1), .v (.int .i64 0), .v (.int .u32 3), .v (.int .u32 6), .v (.bool false), .v (.int .u32 0), .v (.int .u32 0), .v (.int .u32 0), .v (.int .u32 0)] := rfl
  simp (maxSteps := 2000000) only [go_sem, ↓dxc_true, ↓dxc_false, ↓bxc_true, ↓bxc_false, Nat.zero_add, Nat.add_zero, Nat.zero_mul, Nat.reduceBEq, Nat.reduceAdd, Nat.reduceMul, Nat.reduceSub, Nat.reduceLT, Nat.reduceLeDiff, Nat.reduceEqDiff, Nat.reduceDiv, Nat.reduceMod, Int.reduceAdd, Int.reduceSub, Int.reduceMul, Int.reduceDiv, Int.reduceMod, Int.reduceLT, Int.reduceLE, Int.reduceEq, Int.reduceToNat, Int.reducePow, Int.reduceNeg, ne_eq, not_false_eq_true, not_true_eq_false, decide_true, decide_false, Bool.not_true, Bool.not_false, forall_const, reduceCtorEq, implies_true, beq_self_eq_true, Int.cast_ofNat_Int, reduceIte, if_true, if_false, Bool.false_eq_true, Try.ntmps8, fin_ret hE, Try.results8, hB, List.length_cons, List.length_nil]
  intro b6
  refine CallC.pur (.v (.slice none 0 0)) 300 (fun w1 hm1 => ?_) ?_
  · refine (needed_C w1 _ _ aBs 0 harg (by rw [aGood]; decide) (Mem.reads (by intro e he; simp only [List.mem_singleton] at he; subst he; exact hm1.at (t := 7) (e := ⟨7, b4, true, .a (rows Bk.f aBs ++ j4) 55⟩) rfl) (by simp))).mono ?_
    rintro e w' ⟨v, rfl, ho⟩
    rw [aNeed0] at ho
    obtain ⟨rfl, hb⟩ := ho.nil
    exact ⟨rfl, hb⟩
  simp (maxSteps := 2000000) only [go_sem, ↓dxc_true, ↓dxc_false, ↓bxc_true, ↓bxc_false, Nat.zero_add, Nat.add_zero, Nat.zero_mul, Nat.reduceBEq, Nat.reduceAdd, Nat.reduceMul, Nat.reduceSub, Nat.reduceLT, Nat.reduceLeDiff, Nat.reduceEqDiff, Nat.reduceDiv, Nat.reduceMod, Int.reduceAdd, Int.reduceSub, Int.reduceMul, Int.reduceDiv, Int.reduceMod, Int.reduceLT, Int.reduceLE, Int.reduceEq, Int.reduceToNat, Int.reducePow, Int.reduceNeg, ne_eq, not_false_eq_true, not_true_eq_false, decide_true, decide_false, Bool.not_true, Bool.not_false, forall_const, reduceCtorEq, implies_true, beq_self_eq_true, Int.cast_ofNat_Int, reduceIte, if_true, if_false, Bool.false_eq_true, Try.ntmps8, fin_ret hE, Try.results8]
  refine CallC.new (γ := JP 1) (fun c b => .s 10 b 0 1 c.1.1) (fun c => .a (rows Pl.f [plB] ++ c.1.2) 29) 300 (fun w1 hm1 => ?_) ?_
  · refine (needed_C w1 _ _ aBs 1 harg (by rw [aGood]; decide) (Mem.reads (by intro e he; simp only [List.mem_singleton] at he; subst he; exact hm1.at (t := 7) (e := ⟨7, b4, true, .a (rows Bk.f aBs ++ j4) 55⟩) rfl) (by simp))).mono ?_
    rintro e w' ⟨v, rfl, ho⟩
    rw [aNeed1] at ho
    obtain ⟨b, c, j, rfl, h1, h2, h3, h4⟩ := ho.cons (by simp)
    exact ⟨⟨(c, j), h1⟩, b, rfl, h2, h3, h4⟩
  refine ⟨by simp (maxSteps := 2000000) only [go_sem, ↓dxc_true, ↓dxc_false, ↓bxc_true, ↓bxc_false, Nat.zero_add, Nat.add_zero, Nat.zero_mul, Nat.reduceBEq, Nat.reduceAdd, Nat.reduceMul, Nat.reduceSub, Nat.reduceLT, Nat.reduceLeDiff, Nat.reduceEqDiff, Nat.reduceDiv, Nat.reduceMod, Int.reduceAdd, Int.reduceSub, Int.reduceMul, Int.reduceDiv, Int.reduceMod, Int.reduceLT, Int.reduceLE, Int.reduceEq, Int.reduceToNat, Int.reducePow, Int.reduceNeg, ne_eq, not_false_eq_true, not_true_eq_false, decide_true, decide_false, Bool.not_true, Bool.not_false, forall_const, reduceCtorEq, implies_true, beq_self_eq_true, Int.cast_ofNat_Int, reduceIte, if_true, if_false, Bool.false_eq_true, Try.ntmps8], ?_⟩
  rintro ⟨⟨c7, j7⟩, hc7⟩ b7
  simp (maxSteps := 2000000) only [go_sem, ↓dxc_true, ↓dxc_false, ↓bxc_true, ↓bxc_false, Nat.zero_add, Nat.add_zero, Nat.zero_mul, Nat.reduceBEq, Nat.reduceAdd, Nat.reduceMul, Nat.reduceSub, Nat.reduceLT, Nat.reduceLeDiff, Nat.reduceEqDiff, Nat.reduceDiv, Nat.reduceMod, Int.reduceAdd, Int.reduceSub, Int.reduceMul, Int.reduceDiv, Int.reduceMod, Int.reduceLT, Int.reduceLE, Int.reduceEq, Int.reduceToNat, Int.reducePow, Int.reduceNeg, ne_eq, not_false_eq_true, not_true_eq_false, decide_true, decide_false, Bool.not_true, Bool.not_false, forall_const, reduceCtorEq, implies_true, beq_self_eq_true, Int.cast_ofNat_Int, reduceIte, if_true, if_false, Bool.false_eq_true, Try.ntmps8, fin_ret hE, Try.results8]
  refine CallC.pur (.v (.int .u32 6)) 300 (fun w1 hm1 => ?_) ?_
  · have := top_C w1 _ _ aBs harg (Mem.reads (by intro e he; simp only [List.mem_singleton] at he; subst he; exact hm1.at (t := 7) (e := ⟨7, b4, true, .a (rows Bk.f aBs ++ j4) 55⟩) rfl) (by simp))
    rw [aTop] at this
    exact this
  simp (maxSteps := 2000000) only [go_sem, ↓dxc_true, ↓dxc_false, ↓bxc_true, ↓bxc_false, Nat.zero_add, Nat.add_zero, Nat.zero_mul, Nat.reduceBEq, Nat.reduceAdd, Nat.reduceMul, Nat.reduceSub, Nat.reduceLT, Nat.reduceLeDiff, Nat.reduceEqDiff, Nat.reduceDiv, Nat.reduceMod, Int.reduceAdd, Int.reduceSub, Int.reduceMul, Int.reduceDiv, Int.reduceMod, Int.reduceLT, Int.reduceLE, Int.reduceEq, Int.reduceToNat, Int.reducePow, Int.reduceNeg, ne_eq, not_false_eq_true, not_true_eq_false, decide_true, decide_false, Bool.not_true, Bool.not_false, forall_const, reduceCtorEq, implies_true, beq_self_eq_true, Int.cast_ofNat_Int, reduceIte, if_true, if_false, Bool.false_eq_true, Try.ntmps8, fin_ret hE, Try.results8]
  exact fun w' hm' => ⟨rfl, hm'.below⟩

end Go.Proofs
