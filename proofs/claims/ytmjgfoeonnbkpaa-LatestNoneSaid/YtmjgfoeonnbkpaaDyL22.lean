/- Of blocks without a page that counts there is nothing: the law's walk, no block. -/
import Derived.Test.YtmjgfoeonnbkpaaDyL21
set_option linter.unusedSimpArgs false
set_option linter.unusedVariables false
set_option linter.unusedSectionVars false
set_option maxRecDepth 100000
set_option maxHeartbeats 1000000
namespace Go.Proofs
open Go.Dx Go.RowKit

theorem needed_none {w : World} {v : SV} {ro : List Ent} {bs : List Bk} {bl : Int} (h : Arg v ro bs) (hn : (goodS 0 bs).length ≤ 100000) (hm : Mem w [] ro w) (h0 : neededS bs bl = []) :
    Calls Try.prog 16 #[den v, .int .i64 bl] w fun e w' => e = .returned (.slice none 0 0) ∧ Bel w.heap.size w w' := by
  refine (needed_C w v ro bs bl h hn hm).mono ?_
  rintro e w' ⟨v', rfl, ho⟩
  rw [h0] at ho
  obtain ⟨rfl, hb⟩ := ho.nil
  exact ⟨rfl, hb⟩

theorem of_none (hS : SortC) {w : World} {v : SV} {ro : List Ent} {bs : List Bk} (h : Arg v ro bs) (hm : Mem w [] ro w) (h0 : goodS 0 bs = []) :
    Calls Try.prog 13 #[den v] w fun e w' => e = .returned (.slice none 0 0) ∧ Bel w.heap.size w w' := by
  refine (of_C hS w v ro bs h (by rw [h0]; simp) hm).mono ?_
  rintro e w' ⟨v', xs', rfl, hp, _, ho⟩
  rw [h0] at hp
  have : xs' = [] := hp.eq_nil
  subst this
  rcases ho with ⟨_, rfl, hb⟩ | ⟨hne, _⟩
  · exact ⟨rfl, hb⟩
  · exact absurd rfl hne

theorem top_none {w : World} {v : SV} {ro : List Ent} {bs : List Bk} (h : Arg v ro bs) (hm : Mem w [] ro w) (h0 : goodS 0 bs = []) :
    Calls Try.prog 15 #[den v] w fun e w' => e = .returned (.int .u32 0) ∧ Bel w.heap.size w w' := by
  have := top_C w v ro bs h hm
  rw [h0] at this
  exact this

theorem mem0 (w : World) : Mem w [] [] w := Mem.reads (by simp) (by simp)

theorem goodK_le (i : Nat) (b : Bk) : ∀ k, (goodK i b k).length ≤ k
  | 0 => by simp [goodK]
  | k + 1 => by
    have := goodK_le i b k
    rw [goodK, List.length_append]
    split <;> simp <;> omega

theorem goodS_le : ∀ (i : Nat) (bs : List Bk), (goodS i bs).length ≤ 8 * bs.length
  | i, [] => by simp [goodS]
  | i, b :: r => by
    have h1 := goodK_le i b 8
    have h2 := goodS_le (i + 1) r
    rw [goodS, List.length_append, List.length_cons]
    omega

theorem own_arg {w : World} {b n c : Nat} {cs : List Bk} {j : List SV} (hl : cs.length = n) (hn : n ≤ 1000) : Arg (.s 101 b 0 n c) [⟨101, b, false, .z (rows Bk.f cs ++ j) 55 (0, 0)⟩] cs := by
  subst hl
  exact Arg.row b 0 c cs _ 55 (0, 0) (SegR.own Bk.len cs j) hn

theorem own_mem {w : World} {b : Nat} {l : List SV} (h : w.heap[b]? = some (denO (.a l 55))) : Mem w [] [⟨101, b, false, .z l 55 (0, 0)⟩] w :=
  Mem.reads (by intro e he; simp only [List.mem_singleton] at he; subst he; exact h) (by simp)

theorem needO {w : World} {b n c : Nat} {cs : List Bk} {j : List SV} {bl : Int} (hl : cs.length = n) (hn : n ≤ 12) (hg : w.heap[b]? = some (denO (.a (rows Bk.f cs ++ j) 55))) (h0 : neededS cs bl = []) :
    Calls Try.prog 16 #[den (.s 3 b 0 n c), .int .i64 bl] w fun e w' => e = .returned (.slice none 0 0) ∧ Bel w.heap.size w w' :=
  needed_none (v := .s 101 b 0 n c) (own_arg (w := w) (cs := cs) (j := j) hl (by omega)) (by have := goodS_le 0 cs; omega) (own_mem hg) h0

theorem ofO (hS : SortC) {w : World} {b n c : Nat} {cs : List Bk} {j : List SV} (hl : cs.length = n) (hn : n ≤ 12) (hg : w.heap[b]? = some (denO (.a (rows Bk.f cs ++ j) 55))) (h0 : goodS 0 cs = []) :
    Calls Try.prog 13 #[den (.s 3 b 0 n c)] w fun e w' => e = .returned (.slice none 0 0) ∧ Bel w.heap.size w w' :=
  of_none hS (v := .s 101 b 0 n c) (own_arg (w := w) (cs := cs) (j := j) hl (by omega)) (own_mem hg) h0

theorem topO {w : World} {b n c : Nat} {cs : List Bk} {j : List SV} (hl : cs.length = n) (hn : n ≤ 12) (hg : w.heap[b]? = some (denO (.a (rows Bk.f cs ++ j) 55))) (h0 : goodS 0 cs = []) :
    Calls Try.prog 15 #[den (.s 3 b 0 n c)] w fun e w' => e = .returned (.int .u32 0) ∧ Bel w.heap.size w w' :=
  top_none (v := .s 101 b 0 n c) (own_arg (w := w) (cs := cs) (j := j) hl (by omega)) (own_mem hg) h0

theorem none_N (hS : SortC) (w : World) (q : Int) : Calls Try.prog 6 #[den (.v (.slice none 0 0)), .int .i64 q] w fun e w' => e = .returned (.bool true) ∧ Bel w.heap.size w w' := by
  have hm : Mem w [] [] w := mem0 w
  refine calls_of_ex [.v (.slice none 0 0), .v (.int .i64 q)] _ [] 3 600 Try.func6 rfl hm (by simp [Try.ntmps6]) fun E hE => ?_
  simp (maxSteps := 2000000) only [go_sem, ↓dxc_true, ↓dxc_false, ↓bxc_true, ↓bxc_false, Nat.zero_add, Nat.add_zero, Nat.zero_mul, Nat.reduceBEq, Nat.reduceAdd, Nat.reduceMul, Nat.reduceSub, Nat.reduceLT, Nat.reduceLeDiff, Nat.reduceEqDiff, Nat.reduceDiv, Nat.reduceMod, Int.reduceAdd, Int.reduceSub, Int.reduceMul, Int.reduceDiv, Int.reduceMod, Int.reduceLT, Int.reduceLE, Int.reduceEq, Int.reduceToNat, Int.reducePow, Int.reduceNeg, ne_eq, not_false_eq_true, not_true_eq_false, decide_true, decide_false, Bool.not_true, Bool.not_false, forall_const, reduceCtorEq, implies_true, beq_self_eq_true, Int.cast_ofNat_Int, reduceIte, if_true, if_false, Bool.false_eq_true, Try.ntmps6, fin_ret hE, Try.results6]
  refine CallC.pur (.v (.bool true)) 600 (fun w1 hm1 => alive_C hS w1) ?_
  simp (maxSteps := 2000000) only [go_sem, ↓dxc_true, ↓dxc_false, ↓bxc_true, ↓bxc_false, Nat.zero_add, Nat.add_zero, Nat.zero_mul, Nat.reduceBEq, Nat.reduceAdd, Nat.reduceMul, Nat.reduceSub, Nat.reduceLT, Nat.reduceLeDiff, Nat.reduceEqDiff, Nat.reduceDiv, Nat.reduceMod, Int.reduceAdd, Int.reduceSub, Int.reduceMul, Int.reduceDiv, Int.reduceMod, Int.reduceLT, Int.reduceLE, Int.reduceEq, Int.reduceToNat, Int.reducePow, Int.reduceNeg, ne_eq, not_false_eq_true, not_true_eq_false, decide_true, decide_false, Bool.not_true, Bool.not_false, forall_const, reduceCtorEq, implies_true, beq_self_eq_true, Int.cast_ofNat_Int, reduceIte, if_true, if_false, Bool.false_eq_true, Try.ntmps6, fin_ret hE, Try.results6]
  refine CallC.pur (.v (.slice none 0 0)) 600 (fun w1 hm1 => theirsB_N w1) ?_
  simp (maxSteps := 2000000) only [go_sem, ↓dxc_true, ↓dxc_false, ↓bxc_true, ↓bxc_false, Nat.zero_add, Nat.add_zero, Nat.zero_mul, Nat.reduceBEq, Nat.reduceAdd, Nat.reduceMul, Nat.reduceSub, Nat.reduceLT, Nat.reduceLeDiff, Nat.reduceEqDiff, Nat.reduceDiv, Nat.reduceMod, Int.reduceAdd, Int.reduceSub, Int.reduceMul, Int.reduceDiv, Int.reduceMod, Int.reduceLT, Int.reduceLE, Int.reduceEq, Int.reduceToNat, Int.reducePow, Int.reduceNeg, ne_eq, not_false_eq_true, not_true_eq_false, decide_true, decide_false, Bool.not_true, Bool.not_false, forall_const, reduceCtorEq, implies_true, beq_self_eq_true, Int.cast_ofNat_Int, reduceIte, if_true, if_false, Bool.false_eq_true, Try.ntmps6, fin_ret hE, Try.results6]
  refine ⟨fun u0 => ?_, fun u0 => ⟨fun u1 => ?_, fun u1 => by omega⟩⟩
  all_goals refine CallC.pur (.v (.slice none 0 0)) 600 (fun w1 hm1 => needed_none Arg.nil (by decide) (mem0 w1) rfl) ?_
  all_goals simp (maxSteps := 2000000) only [go_sem, ↓dxc_true, ↓dxc_false, ↓bxc_true, ↓bxc_false, Nat.zero_add, Nat.add_zero, Nat.zero_mul, Nat.reduceBEq, Nat.reduceAdd, Nat.reduceMul, Nat.reduceSub, Nat.reduceLT, Nat.reduceLeDiff, Nat.reduceEqDiff, Nat.reduceDiv, Nat.reduceMod, Int.reduceAdd, Int.reduceSub, Int.reduceMul, Int.reduceDiv, Int.reduceMod, Int.reduceLT, Int.reduceLE, Int.reduceEq, Int.reduceToNat, Int.reducePow, Int.reduceNeg, ne_eq, not_false_eq_true, not_true_eq_false, decide_true, decide_false, Bool.not_true, Bool.not_false, forall_const, reduceCtorEq, implies_true, beq_self_eq_true, Int.cast_ofNat_Int, reduceIte, if_true, if_false, Bool.false_eq_true, Try.ntmps6, fin_ret hE, Try.results6]
  all_goals refine CodeC.unroll 1 300 ?_
  all_goals simp (maxSteps := 2000000) only [go_sem, ↓dxc_true, ↓dxc_false, ↓bxc_true, ↓bxc_false, Nat.zero_add, Nat.add_zero, Nat.zero_mul, Nat.reduceBEq, Nat.reduceAdd, Nat.reduceMul, Nat.reduceSub, Nat.reduceLT, Nat.reduceLeDiff, Nat.reduceEqDiff, Nat.reduceDiv, Nat.reduceMod, Int.reduceAdd, Int.reduceSub, Int.reduceMul, Int.reduceDiv, Int.reduceMod, Int.reduceLT, Int.reduceLE, Int.reduceEq, Int.reduceToNat, Int.reducePow, Int.reduceNeg, ne_eq, not_false_eq_true, not_true_eq_false, decide_true, decide_false, Bool.not_true, Bool.not_false, forall_const, reduceCtorEq, implies_true, beq_self_eq_true, Int.cast_ofNat_Int, reduceIte, if_true, if_false, Bool.false_eq_true, Try.ntmps6, fin_ret hE, Try.results6]
  all_goals refine CallC.pur (.u [.g Pl.zero.f, .v (.bool false)]) 600 (fun w1 hm1 => find_N w1 _) ?_
  all_goals simp (maxSteps := 2000000) only [go_sem, ↓dxc_true, ↓dxc_false, ↓bxc_true, ↓bxc_false, Nat.zero_add, Nat.add_zero, Nat.zero_mul, Nat.reduceBEq, Nat.reduceAdd, Nat.reduceMul, Nat.reduceSub, Nat.reduceLT, Nat.reduceLeDiff, Nat.reduceEqDiff, Nat.reduceDiv, Nat.reduceMod, Int.reduceAdd, Int.reduceSub, Int.reduceMul, Int.reduceDiv, Int.reduceMod, Int.reduceLT, Int.reduceLE, Int.reduceEq, Int.reduceToNat, Int.reducePow, Int.reduceNeg, ne_eq, not_false_eq_true, not_true_eq_false, decide_true, decide_false, Bool.not_true, Bool.not_false, forall_const, reduceCtorEq, implies_true, beq_self_eq_true, Int.cast_ofNat_Int, reduceIte, if_true, if_false, Bool.false_eq_true, Try.ntmps6, fin_ret hE, Try.results6, Pl.len, Pl.one, plO, List.length_cons, List.length_nil]
  all_goals intro b1
  all_goals refine CallC.pur (.v (.slice none 0 0)) 600 (fun w1 hm1 => of_none hS Arg.nil (mem0 w1) rfl) ?_
  all_goals simp (maxSteps := 2000000) only [go_sem, ↓dxc_true, ↓dxc_false, ↓bxc_true, ↓bxc_false, Nat.zero_add, Nat.add_zero, Nat.zero_mul, Nat.reduceBEq, Nat.reduceAdd, Nat.reduceMul, Nat.reduceSub, Nat.reduceLT, Nat.reduceLeDiff, Nat.reduceEqDiff, Nat.reduceDiv, Nat.reduceMod, Int.reduceAdd, Int.reduceSub, Int.reduceMul, Int.reduceDiv, Int.reduceMod, Int.reduceLT, Int.reduceLE, Int.reduceEq, Int.reduceToNat, Int.reducePow, Int.reduceNeg, ne_eq, not_false_eq_true, not_true_eq_false, decide_true, decide_false, Bool.not_true, Bool.not_false, forall_const, reduceCtorEq, implies_true, beq_self_eq_true, Int.cast_ofNat_Int, reduceIte, if_true, if_false, Bool.false_eq_true, Try.ntmps6, fin_ret hE, Try.results6]
  all_goals refine CallC.pur (.v (.int .u32 0)) 600 (fun w1 hm1 => top_none Arg.nil (mem0 w1) rfl) ?_
  all_goals simp (maxSteps := 2000000) only [go_sem, ↓dxc_true, ↓dxc_false, ↓bxc_true, ↓bxc_false, Nat.zero_add, Nat.add_zero, Nat.zero_mul, Nat.reduceBEq, Nat.reduceAdd, Nat.reduceMul, Nat.reduceSub, Nat.reduceLT, Nat.reduceLeDiff, Nat.reduceEqDiff, Nat.reduceDiv, Nat.reduceMod, Int.reduceAdd, Int.reduceSub, Int.reduceMul, Int.reduceDiv, Int.reduceMod, Int.reduceLT, Int.reduceLE, Int.reduceEq, Int.reduceToNat, Int.reducePow, Int.reduceNeg, ne_eq, not_false_eq_true, not_true_eq_false, decide_true, decide_false, Bool.not_true, Bool.not_false, forall_const, reduceCtorEq, implies_true, beq_self_eq_true, Int.cast_ofNat_Int, reduceIte, if_true, if_false, Bool.false_eq_true, Try.ntmps6, fin_ret hE, Try.results6]
  all_goals refine CallC.pur (.v (.slice none 0 0)) 600 (fun w1 hm1 => needed_none Arg.nil (by decide) (mem0 w1) rfl) ?_
  all_goals simp (maxSteps := 2000000) only [go_sem, ↓dxc_true, ↓dxc_false, ↓bxc_true, ↓bxc_false, Nat.zero_add, Nat.add_zero, Nat.zero_mul, Nat.reduceBEq, Nat.reduceAdd, Nat.reduceMul, Nat.reduceSub, Nat.reduceLT, Nat.reduceLeDiff, Nat.reduceEqDiff, Nat.reduceDiv, Nat.reduceMod, Int.reduceAdd, Int.reduceSub, Int.reduceMul, Int.reduceDiv, Int.reduceMod, Int.reduceLT, Int.reduceLE, Int.reduceEq, Int.reduceToNat, Int.reducePow, Int.reduceNeg, ne_eq, not_false_eq_true, not_true_eq_false, decide_true, decide_false, Bool.not_true, Bool.not_false, forall_const, reduceCtorEq, implies_true, beq_self_eq_true, Int.cast_ofNat_Int, reduceIte, if_true, if_false, Bool.false_eq_true, Try.ntmps6, fin_ret hE, Try.results6]
  all_goals exact fun w' hm' => ⟨rfl, hm'.below⟩

theorem none_E (hS : SortC) (w : World) (ba oa ca : Nat) (q : Int) : Calls Try.prog 6 #[den (.s 101 ba oa 0 ca), .int .i64 q] w fun e w' => e = .returned (.bool true) ∧ Bel w.heap.size w w' := by
  have hm : Mem w [] [] w := mem0 w
  refine calls_of_ex [.s 101 ba oa 0 ca, .v (.int .i64 q)] _ [] 3 600 Try.func6 rfl hm (by simp [Try.ntmps6]) fun E hE => ?_
  simp (maxSteps := 2000000) only [go_sem, ↓dxc_true, ↓dxc_false, ↓bxc_true, ↓bxc_false, Nat.zero_add, Nat.add_zero, Nat.zero_mul, Nat.reduceBEq, Nat.reduceAdd, Nat.reduceMul, Nat.reduceSub, Nat.reduceLT, Nat.reduceLeDiff, Nat.reduceEqDiff, Nat.reduceDiv, Nat.reduceMod, Int.reduceAdd, Int.reduceSub, Int.reduceMul, Int.reduceDiv, Int.reduceMod, Int.reduceLT, Int.reduceLE, Int.reduceEq, Int.reduceToNat, Int.reducePow, Int.reduceNeg, ne_eq, not_false_eq_true, not_true_eq_false, decide_true, decide_false, Bool.not_true, Bool.not_false, forall_const, reduceCtorEq, implies_true, beq_self_eq_true, Int.cast_ofNat_Int, reduceIte, if_true, if_false, Bool.false_eq_true, Try.ntmps6, fin_ret hE, Try.results6]
  refine CallC.pur (.v (.bool true)) 600 (fun w1 hm1 => alive_C hS w1) ?_
  simp (maxSteps := 2000000) only [go_sem, ↓dxc_true, ↓dxc_false, ↓bxc_true, ↓bxc_false, Nat.zero_add, Nat.add_zero, Nat.zero_mul, Nat.reduceBEq, Nat.reduceAdd, Nat.reduceMul, Nat.reduceSub, Nat.reduceLT, Nat.reduceLeDiff, Nat.reduceEqDiff, Nat.reduceDiv, Nat.reduceMod, Int.reduceAdd, Int.reduceSub, Int.reduceMul, Int.reduceDiv, Int.reduceMod, Int.reduceLT, Int.reduceLE, Int.reduceEq, Int.reduceToNat, Int.reducePow, Int.reduceNeg, ne_eq, not_false_eq_true, not_true_eq_false, decide_true, decide_false, Bool.not_true, Bool.not_false, forall_const, reduceCtorEq, implies_true, beq_self_eq_true, Int.cast_ofNat_Int, reduceIte, if_true, if_false, Bool.false_eq_true, Try.ntmps6, fin_ret hE, Try.results6]
  refine CallC.pur (.v (.slice none 0 0)) 600 (fun w1 hm1 => theirsB_E w1 ba oa ca) ?_
  simp (maxSteps := 2000000) only [go_sem, ↓dxc_true, ↓dxc_false, ↓bxc_true, ↓bxc_false, Nat.zero_add, Nat.add_zero, Nat.zero_mul, Nat.reduceBEq, Nat.reduceAdd, Nat.reduceMul, Nat.reduceSub, Nat.reduceLT, Nat.reduceLeDiff, Nat.reduceEqDiff, Nat.reduceDiv, Nat.reduceMod, Int.reduceAdd, Int.reduceSub, Int.reduceMul, Int.reduceDiv, Int.reduceMod, Int.reduceLT, Int.reduceLE, Int.reduceEq, Int.reduceToNat, Int.reducePow, Int.reduceNeg, ne_eq, not_false_eq_true, not_true_eq_false, decide_true, decide_false, Bool.not_true, Bool.not_false, forall_const, reduceCtorEq, implies_true, beq_self_eq_true, Int.cast_ofNat_Int, reduceIte, if_true, if_false, Bool.false_eq_true, Try.ntmps6, fin_ret hE, Try.results6]
  refine ⟨fun u0 => ?_, fun u0 => ⟨fun u1 => ?_, fun u1 => by omega⟩⟩
  all_goals refine CallC.pur (.v (.slice none 0 0)) 600 (fun w1 hm1 => needed_none Arg.nil (by decide) (mem0 w1) rfl) ?_
  all_goals simp (maxSteps := 2000000) only [go_sem, ↓dxc_true, ↓dxc_false, ↓bxc_true, ↓bxc_false, Nat.zero_add, Nat.add_zero, Nat.zero_mul, Nat.reduceBEq, Nat.reduceAdd, Nat.reduceMul, Nat.reduceSub, Nat.reduceLT, Nat.reduceLeDiff, Nat.reduceEqDiff, Nat.reduceDiv, Nat.reduceMod, Int.reduceAdd, Int.reduceSub, Int.reduceMul, Int.reduceDiv, Int.reduceMod, Int.reduceLT, Int.reduceLE, Int.reduceEq, Int.reduceToNat, Int.reducePow, Int.reduceNeg, ne_eq, not_false_eq_true, not_true_eq_false, decide_true, decide_false, Bool.not_true, Bool.not_false, forall_const, reduceCtorEq, implies_true, beq_self_eq_true, Int.cast_ofNat_Int, reduceIte, if_true, if_false, Bool.false_eq_true, Try.ntmps6, fin_ret hE, Try.results6]
  all_goals refine CodeC.unroll 1 300 ?_
  all_goals simp (maxSteps := 2000000) only [go_sem, ↓dxc_true, ↓dxc_false, ↓bxc_true, ↓bxc_false, Nat.zero_add, Nat.add_zero, Nat.zero_mul, Nat.reduceBEq, Nat.reduceAdd, Nat.reduceMul, Nat.reduceSub, Nat.reduceLT, Nat.reduceLeDiff, Nat.reduceEqDiff, Nat.reduceDiv, Nat.reduceMod, Int.reduceAdd, Int.reduceSub, Int.reduceMul, Int.reduceDiv, Int.reduceMod, Int.reduceLT, Int.reduceLE, Int.reduceEq, Int.reduceToNat, Int.reducePow, Int.reduceNeg, ne_eq, not_false_eq_true, not_true_eq_false, decide_true, decide_false, Bool.not_true, Bool.not_false, forall_const, reduceCtorEq, implies_true, beq_self_eq_true, Int.cast_ofNat_Int, reduceIte, if_true, if_false, Bool.false_eq_true, Try.ntmps6, fin_ret hE, Try.results6]
  all_goals refine CallC.pur (.u [.g Pl.zero.f, .v (.bool false)]) 600 (fun w1 hm1 => find_N w1 _) ?_
  all_goals simp (maxSteps := 2000000) only [go_sem, ↓dxc_true, ↓dxc_false, ↓bxc_true, ↓bxc_false, Nat.zero_add, Nat.add_zero, Nat.zero_mul, Nat.reduceBEq, Nat.reduceAdd, Nat.reduceMul, Nat.reduceSub, Nat.reduceLT, Nat.reduceLeDiff, Nat.reduceEqDiff, Nat.reduceDiv, Nat.reduceMod, Int.reduceAdd, Int.reduceSub, Int.reduceMul, Int.reduceDiv, Int.reduceMod, Int.reduceLT, Int.reduceLE, Int.reduceEq, Int.reduceToNat, Int.reducePow, Int.reduceNeg, ne_eq, not_false_eq_true, not_true_eq_false, decide_true, decide_false, Bool.not_true, Bool.not_false, forall_const, reduceCtorEq, implies_true, beq_self_eq_true, Int.cast_ofNat_Int, reduceIte, if_true, if_false, Bool.false_eq_true, Try.ntmps6, fin_ret hE, Try.results6, Pl.len, Pl.one, plO, List.length_cons, List.length_nil]
  all_goals intro b1
  all_goals refine CallC.pur (.v (.slice none 0 0)) 600 (fun w1 hm1 => of_none hS Arg.nil (mem0 w1) rfl) ?_
  all_goals simp (maxSteps := 2000000) only [go_sem, ↓dxc_true, ↓dxc_false, ↓bxc_true, ↓bxc_false, Nat.zero_add, Nat.add_zero, Nat.zero_mul, Nat.reduceBEq, Nat.reduceAdd, Nat.reduceMul, Nat.reduceSub, Nat.reduceLT, Nat.reduceLeDiff, Nat.reduceEqDiff, Nat.reduceDiv, Nat.reduceMod, Int.reduceAdd, Int.reduceSub, Int.reduceMul, Int.reduceDiv, Int.reduceMod, Int.reduceLT, Int.reduceLE, Int.reduceEq, Int.reduceToNat, Int.reducePow, Int.reduceNeg, ne_eq, not_false_eq_true, not_true_eq_false, decide_true, decide_false, Bool.not_true, Bool.not_false, forall_const, reduceCtorEq, implies_true, beq_self_eq_true, Int.cast_ofNat_Int, reduceIte, if_true, if_false, Bool.false_eq_true, Try.ntmps6, fin_ret hE, Try.results6]
  all_goals refine CallC.pur (.v (.int .u32 0)) 600 (fun w1 hm1 => top_none Arg.nil (mem0 w1) rfl) ?_
  all_goals simp (maxSteps := 2000000) only [go_sem, ↓dxc_true, ↓dxc_false, ↓bxc_true, ↓bxc_false, Nat.zero_add, Nat.add_zero, Nat.zero_mul, Nat.reduceBEq, Nat.reduceAdd, Nat.reduceMul, Nat.reduceSub, Nat.reduceLT, Nat.reduceLeDiff, Nat.reduceEqDiff, Nat.reduceDiv, Nat.reduceMod, Int.reduceAdd, Int.reduceSub, Int.reduceMul, Int.reduceDiv, Int.reduceMod, Int.reduceLT, Int.reduceLE, Int.reduceEq, Int.reduceToNat, Int.reducePow, Int.reduceNeg, ne_eq, not_false_eq_true, not_true_eq_false, decide_true, decide_false, Bool.not_true, Bool.not_false, forall_const, reduceCtorEq, implies_true, beq_self_eq_true, Int.cast_ofNat_Int, reduceIte, if_true, if_false, Bool.false_eq_true, Try.ntmps6, fin_ret hE, Try.results6]
  all_goals refine CallC.pur (.v (.slice none 0 0)) 600 (fun w1 hm1 => needed_none Arg.nil (by decide) (mem0 w1) rfl) ?_
  all_goals simp (maxSteps := 2000000) only [go_sem, ↓dxc_true, ↓dxc_false, ↓bxc_true, ↓bxc_false, Nat.zero_add, Nat.add_zero, Nat.zero_mul, Nat.reduceBEq, Nat.reduceAdd, Nat.reduceMul, Nat.reduceSub, Nat.reduceLT, Nat.reduceLeDiff, Nat.reduceEqDiff, Nat.reduceDiv, Nat.reduceMod, Int.reduceAdd, Int.reduceSub, Int.reduceMul, Int.reduceDiv, Int.reduceMod, Int.reduceLT, Int.reduceLE, Int.reduceEq, Int.reduceToNat, Int.reducePow, Int.reduceNeg, ne_eq, not_false_eq_true, not_true_eq_false, decide_true, decide_false, Bool.not_true, Bool.not_false, forall_const, reduceCtorEq, implies_true, beq_self_eq_true, Int.cast_ofNat_Int, reduceIte, if_true, if_false, Bool.false_eq_true, Try.ntmps6, fin_ret hE, Try.results6]
  all_goals exact fun w' hm' => ⟨rfl, hm'.below⟩

theorem setK_ne (B : Bk) (k : Nat) (hk : k < 8) (h : ∀ t, t < k → B.ks.getD t 0 ≠ 1) : ∀ t, t < k + 1 → (B.setK k 2).ks.getD t 0 ≠ 1 := by
  intro t ht
  simp only [Bk.setK]
  have hl := B.hk
  by_cases e : t = k
  · subst e
    rw [List.getD_eq_getElem?_getD, List.getElem?_set_self (by omega)]
    decide
  · rw [List.getD_eq_getElem?_getD, List.getElem?_set_ne (by omega), ← List.getD_eq_getElem?_getD]
    exact h t (by omega)

/-- The law's outer loop, from its i-th round on. -/
def noneI (ba oa ca b c : Nat) (q : Int) (bs : List Bk) (j la : List SV) (Ta : Nat) (za : Nat × Nat) (cs : List Bk) (i : Nat) : St :=
  ⟨82, 4, [(34, .v (.int .i64 (i : Int))), (33, .v (.int .i64 (bs.length : Int))), (5, .s 3 b 0 bs.length c), (1, .v (.int .i64 q))], [⟨3, b, true, .a (rows Bk.f cs ++ j) 55⟩, ⟨101, ba, false, .z la Ta za⟩], []⟩

theorem none_C (hS : SortC) (w : World) (ba oa ca : Nat) (q : Int) (bs : List Bk) (la : List SV) (Ta : Nat) (za : Nat × Nat) (hx : bs ≠ []) (hn : (bs.length : Int) ≤ 9223372036854775807)
    (h : w.heap[ba]? = some (denO (.z la Ta za))) (hs : SegR la oa Bk.f 66 bs) : Calls Try.prog 6 #[den (.s 101 ba oa bs.length ca), .int .i64 q] w fun e w' => e = .returned (.bool true) ∧ Bel w.heap.size w w' := by
  have hm : Mem w [] [⟨101, ba, false, .z la Ta za⟩] w := Mem.reads (by simpa using h) (by simp)
  refine calls_of_ex [.s 101 ba oa bs.length ca, .v (.int .i64 q)] _ [] 3 600 Try.func6 rfl hm (by simp [Try.ntmps6]) fun E hE => ?_
  simp (maxSteps := 2000000) only [go_sem, ↓dxc_true, ↓dxc_false, ↓bxc_true, ↓bxc_false, Nat.zero_add, Nat.add_zero, Nat.zero_mul, Nat.reduceBEq, Nat.reduceAdd, Nat.reduceMul, Nat.reduceSub, Nat.reduceLT, Nat.reduceLeDiff, Nat.reduceEqDiff, Nat.reduceDiv, Nat.reduceMod, Int.reduceAdd, Int.reduceSub, Int.reduceMul, Int.reduceDiv, Int.reduceMod, Int.reduceLT, Int.reduceLE, Int.reduceEq, Int.reduceToNat, Int.reducePow, Int.reduceNeg, ne_eq, not_false_eq_true, not_true_eq_false, decide_true, decide_false, Bool.not_true, Bool.not_false, forall_const, reduceCtorEq, implies_true, beq_self_eq_true, Int.cast_ofNat_Int, reduceIte, if_true, if_false, Bool.false_eq_true, Try.ntmps6, fin_ret hE, Try.results6]
  refine CallC.pur (.v (.bool true)) 600 (fun w1 hm1 => alive_C hS w1) ?_
  simp (maxSteps := 2000000) only [go_sem, ↓dxc_true, ↓dxc_false, ↓bxc_true, ↓bxc_false, Nat.zero_add, Nat.add_zero, Nat.zero_mul, Nat.reduceBEq, Nat.reduceAdd, Nat.reduceMul, Nat.reduceSub, Nat.reduceLT, Nat.reduceLeDiff, Nat.reduceEqDiff, Nat.reduceDiv, Nat.reduceMod, Int.reduceAdd, Int.reduceSub, Int.reduceMul, Int.reduceDiv, Int.reduceMod, Int.reduceLT, Int.reduceLE, Int.reduceEq, Int.reduceToNat, Int.reducePow, Int.reduceNeg, ne_eq, not_false_eq_true, not_true_eq_false, decide_true, decide_false, Bool.not_true, Bool.not_false, forall_const, reduceCtorEq, implies_true, beq_self_eq_true, Int.cast_ofNat_Int, reduceIte, if_true, if_false, Bool.false_eq_true, Try.ntmps6, fin_ret hE, Try.results6]
  refine ⟨fun k w' hm' => ⟨rfl, hm'.below⟩, fun k => ?_⟩
  have hn2 : bs.length ≤ 12 := by omega
  refine CallC.new (γ := { c : Nat × List SV // bs.length ≤ c.1 ∧ c.1 ≤ 9223372036854775807 ∧ bs.length * 66 + c.2.length = c.1 * 66 }) (fun c b => .s 3 b 0 bs.length c.1.1) (fun c => .a (rows Bk.f bs ++ c.1.2) 55) 600 (fun w1 hm1 => ?_) ?_
  · refine (theirsB_C w1 ba oa ca bs la Ta za hx (by omega) (hm1.at (t := 101) rfl) hs).mono ?_
    rintro e w' ⟨b, c, j, rfl, h1, h2, h3, h4⟩
    exact ⟨⟨(c, j), h1⟩, b, rfl, h2, h3, h4⟩
  refine ⟨by simp (maxSteps := 2000000) only [go_sem, ↓dxc_true, ↓dxc_false, ↓bxc_true, ↓bxc_false, Nat.zero_add, Nat.add_zero, Nat.zero_mul, Nat.reduceBEq, Nat.reduceAdd, Nat.reduceMul, Nat.reduceSub, Nat.reduceLT, Nat.reduceLeDiff, Nat.reduceEqDiff, Nat.reduceDiv, Nat.reduceMod, Int.reduceAdd, Int.reduceSub, Int.reduceMul, Int.reduceDiv, Int.reduceMod, Int.reduceLT, Int.reduceLE, Int.reduceEq, Int.reduceToNat, Int.reducePow, Int.reduceNeg, ne_eq, not_false_eq_true, not_true_eq_false, decide_true, decide_false, Bool.not_true, Bool.not_false, forall_const, reduceCtorEq, implies_true, beq_self_eq_true, Int.cast_ofNat_Int, reduceIte, if_true, if_false, Bool.false_eq_true, Try.ntmps6], ?_⟩
  rintro ⟨⟨c, j⟩, hc⟩ b
  simp only at hc
  simp (maxSteps := 2000000) only [go_sem, ↓dxc_true, ↓dxc_false, ↓bxc_true, ↓bxc_false, Nat.zero_add, Nat.add_zero, Nat.zero_mul, Nat.reduceBEq, Nat.reduceAdd, Nat.reduceMul, Nat.reduceSub, Nat.reduceLT, Nat.reduceLeDiff, Nat.reduceEqDiff, Nat.reduceDiv, Nat.reduceMod, Int.reduceAdd, Int.reduceSub, Int.reduceMul, Int.reduceDiv, Int.reduceMod, Int.reduceLT, Int.reduceLE, Int.reduceEq, Int.reduceToNat, Int.reducePow, Int.reduceNeg, ne_eq, not_false_eq_true, not_true_eq_false, decide_true, decide_false, Bool.not_true, Bool.not_false, forall_const, reduceCtorEq, implies_true, beq_self_eq_true, Int.cast_ofNat_Int, reduceIte, if_true, if_false, Bool.false_eq_true, Try.ntmps6, fin_ret hE, Try.results6]
  refine ⟨fun u0 => ?_, fun u0 => ⟨fun u1 => ?_, fun u1 => ?_⟩⟩
  · refine CallC.pur (.v (.slice none 0 0)) 600 (fun w1 hm1 => needO (cs := bs) (j := j) rfl (by omega) (hm1.at (t := 3) (e := ⟨3, b, true, .a (rows Bk.f bs ++ j) 55⟩) rfl) (needed_out (Or.inl (by omega)))) ?_
    simp (maxSteps := 2000000) only [go_sem, ↓dxc_true, ↓dxc_false, ↓bxc_true, ↓bxc_false, Nat.zero_add, Nat.add_zero, Nat.zero_mul, Nat.reduceBEq, Nat.reduceAdd, Nat.reduceMul, Nat.reduceSub, Nat.reduceLT, Nat.reduceLeDiff, Nat.reduceEqDiff, Nat.reduceDiv, Nat.reduceMod, Int.reduceAdd, Int.reduceSub, Int.reduceMul, Int.reduceDiv, Int.reduceMod, Int.reduceLT, Int.reduceLE, Int.reduceEq, Int.reduceToNat, Int.reducePow, Int.reduceNeg, ne_eq, not_false_eq_true, not_true_eq_false, decide_true, decide_false, Bool.not_true, Bool.not_false, forall_const, reduceCtorEq, implies_true, beq_self_eq_true, Int.cast_ofNat_Int, reduceIte, if_true, if_false, Bool.false_eq_true, Try.ntmps6, fin_ret hE, Try.results6]
    refine ex_weaken (noneI ba oa ca b c q bs j la Ta za bs 0) ⟨rfl, rfl, ⟨rfl, rfl, rfl, rfl, trivial⟩, SubH.refl _⟩ ?_
    refine CodeC.loop (γ := { g : Nat × List Bk // g.1 ≤ bs.length ∧ g.2.length = bs.length ∧ ∀ (t : Nat) (B : Bk), t < g.1 → g.2[t]? = some B → NoG B }) (fun g => noneI ba oa ca b c q bs j la Ta za g.1.2 g.1.1) (fun g => bs.length - g.1.1) ⟨(0, bs), by simp⟩ 600 ⟨rfl, rfl, ⟨rfl, rfl, rfl, rfl, trivial⟩, SubH.refl _⟩ ?_
    rintro ⟨⟨i, cs⟩, g1, g2, g3⟩
    simp only [noneI] at g1 g2 g3 ⊢
    simp (maxSteps := 2000000) only [go_sem, ↓dxc_true, ↓dxc_false, ↓bxc_true, ↓bxc_false, Nat.zero_add, Nat.add_zero, Nat.zero_mul, Nat.reduceBEq, Nat.reduceAdd, Nat.reduceMul, Nat.reduceSub, Nat.reduceLT, Nat.reduceLeDiff, Nat.reduceEqDiff, Nat.reduceDiv, Nat.reduceMod, Int.reduceAdd, Int.reduceSub, Int.reduceMul, Int.reduceDiv, Int.reduceMod, Int.reduceLT, Int.reduceLE, Int.reduceEq, Int.reduceToNat, Int.reducePow, Int.reduceNeg, ne_eq, not_false_eq_true, not_true_eq_false, decide_true, decide_false, Bool.not_true, Bool.not_false, forall_const, reduceCtorEq, implies_true, beq_self_eq_true, Int.cast_ofNat_Int, reduceIte, if_true, if_false, Bool.false_eq_true, Try.ntmps6, fin_ret hE, Try.results6]
    refine ⟨fun u2 => ?_, fun u2 => ?_⟩
    · have hi : i < bs.length := by omega
      refine CodeC.loop (γ := { g : Nat × List Bk // g.1 ≤ 8 ∧ g.2.length = bs.length ∧ (∀ (t : Nat) (B : Bk), t < i → g.2[t]? = some B → NoG B) ∧ ∀ B, g.2[i]? = some B → ∀ t, t < g.1 → B.ks.getD t 0 ≠ 1 })
        (fun g => ⟨82, 4, [(37, .v (.int .i64 (g.1.1 : Int))), (6, .v (.int .i64 (i : Int))), (34, .v (.int .i64 (i : Int))), (33, .v (.int .i64 (bs.length : Int))), (5, .s 3 b 0 bs.length c), (1, .v (.int .i64 q))], [⟨3, b, true, .a (rows Bk.f g.1.2 ++ j) 55⟩, ⟨101, ba, false, .z la Ta za⟩], []⟩)
        (fun g => 8 - g.1.1) ⟨(0, cs), by omega, g2, g3, by intro B _ t ht; omega⟩ 600 ⟨rfl, rfl, ⟨rfl, rfl, rfl, rfl, rfl, rfl, trivial⟩, SubH.refl _⟩ ?_
      rintro ⟨⟨k, ds⟩, f1, f2, f3, f4⟩
      simp only at f1 f2 f3 f4 ⊢
      obtain ⟨B, hB⟩ := ex_at (xs := ds) (i := i) (by omega)
      simp (maxSteps := 2000000) only [go_sem, ↓dxc_true, ↓dxc_false, ↓bxc_true, ↓bxc_false, Nat.zero_add, Nat.add_zero, Nat.zero_mul, Nat.reduceBEq, Nat.reduceAdd, Nat.reduceMul, Nat.reduceSub, Nat.reduceLT, Nat.reduceLeDiff, Nat.reduceEqDiff, Nat.reduceDiv, Nat.reduceMod, Int.reduceAdd, Int.reduceSub, Int.reduceMul, Int.reduceDiv, Int.reduceMod, Int.reduceLT, Int.reduceLE, Int.reduceEq, Int.reduceToNat, Int.reducePow, Int.reduceNeg, ne_eq, not_false_eq_true, not_true_eq_false, decide_true, decide_false, Bool.not_true, Bool.not_false, forall_const, reduceCtorEq, implies_true, beq_self_eq_true, Int.cast_ofNat_Int, reduceIte, if_true, if_false, Bool.false_eq_true, Try.ntmps6, fin_ret hE, Try.results6, Int.toNat_natCast]
      refine ⟨fun u3 => ?_, fun u3 => ?_⟩
      · have k8 : k < 8 := by omega
        have r1 : ld1 (rows Bk.f ds ++ j) (i * 66 + 2 + k * 1) = .v (.int .i64 (B.ks.getD k 0)) := by rw [Nat.mul_one, Nat.add_assoc]; exact ldK_row ds j i k B hB k8
        have s1 : stN (rows Bk.f ds ++ j) (i * 66 + 2 + k * 1) [.v (.int .i64 2)] = rows Bk.f (ds.set i (B.setK k 2)) ++ j := by rw [Nat.mul_one, Nat.add_assoc]; exact stK_row ds j i k B hB k8 2
        have hlen : (rows Bk.f ds ++ j).length = c * 66 := by rw [List.length_append, rows_length Bk.len, f2]; omega
        simp (maxSteps := 2000000) only [go_sem, ↓dxc_true, ↓dxc_false, ↓bxc_true, ↓bxc_false, Nat.zero_add, Nat.add_zero, Nat.zero_mul, Nat.reduceBEq, Nat.reduceAdd, Nat.reduceMul, Nat.reduceSub, Nat.reduceLT, Nat.reduceLeDiff, Nat.reduceEqDiff, Nat.reduceDiv, Nat.reduceMod, Int.reduceAdd, Int.reduceSub, Int.reduceMul, Int.reduceDiv, Int.reduceMod, Int.reduceLT, Int.reduceLE, Int.reduceEq, Int.reduceToNat, Int.reducePow, Int.reduceNeg, ne_eq, not_false_eq_true, not_true_eq_false, decide_true, decide_false, Bool.not_true, Bool.not_false, forall_const, reduceCtorEq, implies_true, beq_self_eq_true, Int.cast_ofNat_Int, reduceIte, if_true, if_false, Bool.false_eq_true, Try.ntmps6, fin_ret hE, Try.results6, Int.toNat_natCast, r1, s1, hlen]
        refine ⟨⟨by omega, by omega⟩, ⟨by omega, by omega⟩, by omega, fun u4 => ⟨⟨by omega, by omega⟩, ⟨by omega, by omega⟩, by omega, ⟨by omega, by omega⟩, ⟨(k + 1, ds.set i (B.setK k 2)), by omega, by simp [f2], ?_, ?_⟩, ⟨rfl, rfl, ⟨by simp [lk], rfl, rfl, rfl, rfl, rfl, trivial⟩, SubH.refl _⟩, by simp only; omega⟩,
          fun u4 => ⟨⟨by omega, by omega⟩, ⟨(k + 1, ds), by omega, f2, f3, ?_⟩, ⟨rfl, rfl, ⟨by simp [lk], rfl, rfl, rfl, rfl, rfl, trivial⟩, SubH.refl _⟩, by simp only; omega⟩⟩
        · intro t A ht hA
          simp only at hA
          rw [List.getElem?_set_ne (by omega)] at hA
          exact f3 t A ht hA
        · intro A hA
          simp only at hA
          rw [List.getElem?_set_self (by omega)] at hA
          cases hA
          exact setK_ne B k k8 (f4 B hB)
        · intro A hA t ht
          simp only at hA ht
          rw [hB] at hA
          cases hA
          by_cases e : t = k
          · subst e; exact u4
          · exact f4 B hB t (by omega)
      · have k8 : k = 8 := by omega
        subst k8
        refine ⟨⟨by omega, by omega⟩, ⟨(i + 1, ds), by simp only; omega, f2, ?_⟩, ⟨rfl, rfl, ⟨by simp [lk], rfl, rfl, rfl, trivial⟩, SubH.refl _⟩, by simp only; omega⟩
        intro t A ht hA
        simp only at hA ht
        by_cases e : t = i
        · subst e; exact f4 A hA
        · exact f3 t A (by omega) hA
    · have g4 : goodS 0 cs = [] := good_none (fun t B ht => g3 t B (by have := rows_lt ht; omega) ht)
      have g5 : neededS cs q = [] := by unfold neededS; rw [g4]; rfl
      refine CallC.pur (.u [.g Pl.zero.f, .v (.bool false)]) 600 (fun w1 hm1 => find_N w1 _) ?_
      simp (maxSteps := 2000000) only [go_sem, ↓dxc_true, ↓dxc_false, ↓bxc_true, ↓bxc_false, Nat.zero_add, Nat.add_zero, Nat.zero_mul, Nat.reduceBEq, Nat.reduceAdd, Nat.reduceMul, Nat.reduceSub, Nat.reduceLT, Nat.reduceLeDiff, Nat.reduceEqDiff, Nat.reduceDiv, Nat.reduceMod, Int.reduceAdd, Int.reduceSub, Int.reduceMul, Int.reduceDiv, Int.reduceMod, Int.reduceLT, Int.reduceLE, Int.reduceEq, Int.reduceToNat, Int.reducePow, Int.reduceNeg, ne_eq, not_false_eq_true, not_true_eq_false, decide_true, decide_false, Bool.not_true, Bool.not_false, forall_const, reduceCtorEq, implies_true, beq_self_eq_true, Int.cast_ofNat_Int, reduceIte, if_true, if_false, Bool.false_eq_true, Try.ntmps6, fin_ret hE, Try.results6, Pl.len, Pl.one, plO, List.length_cons, List.length_nil]
      intro b1
      refine CallC.pur (.v (.slice none 0 0)) 600 (fun w1 hm1 => ofO hS (cs := cs) (j := j) g2 (by omega) (hm1.at (t := 3) (e := ⟨3, b, true, .a (rows Bk.f cs ++ j) 55⟩) rfl) g4) ?_
      simp (maxSteps := 2000000) only [go_sem, ↓dxc_true, ↓dxc_false, ↓bxc_true, ↓bxc_false, Nat.zero_add, Nat.add_zero, Nat.zero_mul, Nat.reduceBEq, Nat.reduceAdd, Nat.reduceMul, Nat.reduceSub, Nat.reduceLT, Nat.reduceLeDiff, Nat.reduceEqDiff, Nat.reduceDiv, Nat.reduceMod, Int.reduceAdd, Int.reduceSub, Int.reduceMul, Int.reduceDiv, Int.reduceMod, Int.reduceLT, Int.reduceLE, Int.reduceEq, Int.reduceToNat, Int.reducePow, Int.reduceNeg, ne_eq, not_false_eq_true, not_true_eq_false, decide_true, decide_false, Bool.not_true, Bool.not_false, forall_const, reduceCtorEq, implies_true, beq_self_eq_true, Int.cast_ofNat_Int, reduceIte, if_true, if_false, Bool.false_eq_true, Try.ntmps6, fin_ret hE, Try.results6]
      refine CallC.pur (.v (.int .u32 0)) 600 (fun w1 hm1 => topO (cs := cs) (j := j) g2 (by omega) (hm1.at (t := 3) (e := ⟨3, b, true, .a (rows Bk.f cs ++ j) 55⟩) rfl) g4) ?_
      simp (maxSteps := 2000000) only [go_sem, ↓dxc_true, ↓dxc_false, ↓bxc_true, ↓bxc_false, Nat.zero_add, Nat.add_zero, Nat.zero_mul, Nat.reduceBEq, Nat.reduceAdd, Nat.reduceMul, Nat.reduceSub, Nat.reduceLT, Nat.reduceLeDiff, Nat.reduceEqDiff, Nat.reduceDiv, Nat.reduceMod, Int.reduceAdd, Int.reduceSub, Int.reduceMul, Int.reduceDiv, Int.reduceMod, Int.reduceLT, Int.reduceLE, Int.reduceEq, Int.reduceToNat, Int.reducePow, Int.reduceNeg, ne_eq, not_false_eq_true, not_true_eq_false, decide_true, decide_false, Bool.not_true, Bool.not_false, forall_const, reduceCtorEq, implies_true, beq_self_eq_true, Int.cast_ofNat_Int, reduceIte, if_true, if_false, Bool.false_eq_true, Try.ntmps6, fin_ret hE, Try.results6]
      refine CallC.pur (.v (.slice none 0 0)) 600 (fun w1 hm1 => needO (cs := cs) (j := j) g2 (by omega) (hm1.at (t := 3) (e := ⟨3, b, true, .a (rows Bk.f cs ++ j) 55⟩) rfl) g5) ?_
      simp (maxSteps := 2000000) only [go_sem, ↓dxc_true, ↓dxc_false, ↓bxc_true, ↓bxc_false, Nat.zero_add, Nat.add_zero, Nat.zero_mul, Nat.reduceBEq, Nat.reduceAdd, Nat.reduceMul, Nat.reduceSub, Nat.reduceLT, Nat.reduceLeDiff, Nat.reduceEqDiff, Nat.reduceDiv, Nat.reduceMod, Int.reduceAdd, Int.reduceSub, Int.reduceMul, Int.reduceDiv, Int.reduceMod, Int.reduceLT, Int.reduceLE, Int.reduceEq, Int.reduceToNat, Int.reducePow, Int.reduceNeg, ne_eq, not_false_eq_true, not_true_eq_false, decide_true, decide_false, Bool.not_true, Bool.not_false, forall_const, reduceCtorEq, implies_true, beq_self_eq_true, Int.cast_ofNat_Int, reduceIte, if_true, if_false, Bool.false_eq_true, Try.ntmps6, fin_ret hE, Try.results6]
      exact fun w' hm' => ⟨rfl, hm'.below⟩
  · refine CallC.pur (.v (.slice none 0 0)) 600 (fun w1 hm1 => needO (cs := bs) (j := j) rfl (by omega) (hm1.at (t := 3) (e := ⟨3, b, true, .a (rows Bk.f bs ++ j) 55⟩) rfl) (needed_out (Or.inr (by omega)))) ?_
    simp (maxSteps := 2000000) only [go_sem, ↓dxc_true, ↓dxc_false, ↓bxc_true, ↓bxc_false, Nat.zero_add, Nat.add_zero, Nat.zero_mul, Nat.reduceBEq, Nat.reduceAdd, Nat.reduceMul, Nat.reduceSub, Nat.reduceLT, Nat.reduceLeDiff, Nat.reduceEqDiff, Nat.reduceDiv, Nat.reduceMod, Int.reduceAdd, Int.reduceSub, Int.reduceMul, Int.reduceDiv, Int.reduceMod, Int.reduceLT, Int.reduceLE, Int.reduceEq, Int.reduceToNat, Int.reducePow, Int.reduceNeg, ne_eq, not_false_eq_true, not_true_eq_false, decide_true, decide_false, Bool.not_true, Bool.not_false, forall_const, reduceCtorEq, implies_true, beq_self_eq_true, Int.cast_ofNat_Int, reduceIte, if_true, if_false, Bool.false_eq_true, Try.ntmps6, fin_ret hE, Try.results6]
    refine ex_weaken (noneI ba oa ca b c q bs j la Ta za bs 0) ⟨rfl, rfl, ⟨rfl, rfl, rfl, rfl, trivial⟩, SubH.refl _⟩ ?_
    refine CodeC.loop (γ := { g : Nat × List Bk // g.1 ≤ bs.length ∧ g.2.length = bs.length ∧ ∀ (t : Nat) (B : Bk), t < g.1 → g.2[t]? = some B → NoG B }) (fun g => noneI ba oa ca b c q bs j la Ta za g.1.2 g.1.1) (fun g => bs.length - g.1.1) ⟨(0, bs), by simp⟩ 600 ⟨rfl, rfl, ⟨rfl, rfl, rfl, rfl, trivial⟩, SubH.refl _⟩ ?_
    rintro ⟨⟨i, cs⟩, g1, g2, g3⟩
    simp only [noneI] at g1 g2 g3 ⊢
    simp (maxSteps := 2000000) only [go_sem, ↓dxc_true, ↓dxc_false, ↓bxc_true, ↓bxc_false, Nat.zero_add, Nat.add_zero, Nat.zero_mul, Nat.reduceBEq, Nat.reduceAdd, Nat.reduceMul, Nat.reduceSub, Nat.reduceLT, Nat.reduceLeDiff, Nat.reduceEqDiff, Nat.reduceDiv, Nat.reduceMod, Int.reduceAdd, Int.reduceSub, Int.reduceMul, Int.reduceDiv, Int.reduceMod, Int.reduceLT, Int.reduceLE, Int.reduceEq, Int.reduceToNat, Int.reducePow, Int.reduceNeg, ne_eq, not_false_eq_true, not_true_eq_false, decide_true, decide_false, Bool.not_true, Bool.not_false, forall_const, reduceCtorEq, implies_true, beq_self_eq_true, Int.cast_ofNat_Int, reduceIte, if_true, if_false, Bool.false_eq_true, Try.ntmps6, fin_ret hE, Try.results6]
    refine ⟨fun u2 => ?_, fun u2 => ?_⟩
    · have hi : i < bs.length := by omega
      refine CodeC.loop (γ := { g : Nat × List Bk // g.1 ≤ 8 ∧ g.2.length = bs.length ∧ (∀ (t : Nat) (B : Bk), t < i → g.2[t]? = some B → NoG B) ∧ ∀ B, g.2[i]? = some B → ∀ t, t < g.1 → B.ks.getD t 0 ≠ 1 })
        (fun g => ⟨82, 4, [(37, .v (.int .i64 (g.1.1 : Int))), (6, .v (.int .i64 (i : Int))), (34, .v (.int .i64 (i : Int))), (33, .v (.int .i64 (bs.length : Int))), (5, .s 3 b 0 bs.length c), (1, .v (.int .i64 q))], [⟨3, b, true, .a (rows Bk.f g.1.2 ++ j) 55⟩, ⟨101, ba, false, .z la Ta za⟩], []⟩)
        (fun g => 8 - g.1.1) ⟨(0, cs), by omega, g2, g3, by intro B _ t ht; omega⟩ 600 ⟨rfl, rfl, ⟨rfl, rfl, rfl, rfl, rfl, rfl, trivial⟩, SubH.refl _⟩ ?_
      rintro ⟨⟨k, ds⟩, f1, f2, f3, f4⟩
      simp only at f1 f2 f3 f4 ⊢
      obtain ⟨B, hB⟩ := ex_at (xs := ds) (i := i) (by omega)
      simp (maxSteps := 2000000) only [go_sem, ↓dxc_true, ↓dxc_false, ↓bxc_true, ↓bxc_false, Nat.zero_add, Nat.add_zero, Nat.zero_mul, Nat.reduceBEq, Nat.reduceAdd, Nat.reduceMul, Nat.reduceSub, Nat.reduceLT, Nat.reduceLeDiff, Nat.reduceEqDiff, Nat.reduceDiv, Nat.reduceMod, Int.reduceAdd, Int.reduceSub, Int.reduceMul, Int.reduceDiv, Int.reduceMod, Int.reduceLT, Int.reduceLE, Int.reduceEq, Int.reduceToNat, Int.reducePow, Int.reduceNeg, ne_eq, not_false_eq_true, not_true_eq_false, decide_true, decide_false, Bool.not_true, Bool.not_false, forall_const, reduceCtorEq, implies_true, beq_self_eq_true, Int.cast_ofNat_Int, reduceIte, if_true, if_false, Bool.false_eq_true, Try.ntmps6, fin_ret hE, Try.results6, Int.toNat_natCast]
      refine ⟨fun u3 => ?_, fun u3 => ?_⟩
      · have k8 : k < 8 := by omega
        have r1 : ld1 (rows Bk.f ds ++ j) (i * 66 + 2 + k * 1) = .v (.int .i64 (B.ks.getD k 0)) := by rw [Nat.mul_one, Nat.add_assoc]; exact ldK_row ds j i k B hB k8
        have s1 : stN (rows Bk.f ds ++ j) (i * 66 + 2 + k * 1) [.v (.int .i64 2)] = rows Bk.f (ds.set i (B.setK k 2)) ++ j := by rw [Nat.mul_one, Nat.add_assoc]; exact stK_row ds j i k B hB k8 2
        have hlen : (rows Bk.f ds ++ j).length = c * 66 := by rw [List.length_append, rows_length Bk.len, f2]; omega
        simp (maxSteps := 2000000) only [go_sem, ↓dxc_true, ↓dxc_false, ↓bxc_true, ↓bxc_false, Nat.zero_add, Nat.add_zero, Nat.zero_mul, Nat.reduceBEq, Nat.reduceAdd, Nat.reduceMul, Nat.reduceSub, Nat.reduceLT, Nat.reduceLeDiff, Nat.reduceEqDiff, Nat.reduceDiv, Nat.reduceMod, Int.reduceAdd, Int.reduceSub, Int.reduceMul, Int.reduceDiv, Int.reduceMod, Int.reduceLT, Int.reduceLE, Int.reduceEq, Int.reduceToNat, Int.reducePow, Int.reduceNeg, ne_eq, not_false_eq_true, not_true_eq_false, decide_true, decide_false, Bool.not_true, Bool.not_false, forall_const, reduceCtorEq, implies_true, beq_self_eq_true, Int.cast_ofNat_Int, reduceIte, if_true, if_false, Bool.false_eq_true, Try.ntmps6, fin_ret hE, Try.results6, Int.toNat_natCast, r1, s1, hlen]
        refine ⟨⟨by omega, by omega⟩, ⟨by omega, by omega⟩, by omega, fun u4 => ⟨⟨by omega, by omega⟩, ⟨by omega, by omega⟩, by omega, ⟨by omega, by omega⟩, ⟨(k + 1, ds.set i (B.setK k 2)), by omega, by simp [f2], ?_, ?_⟩, ⟨rfl, rfl, ⟨by simp [lk], rfl, rfl, rfl, rfl, rfl, trivial⟩, SubH.refl _⟩, by simp only; omega⟩,
          fun u4 => ⟨⟨by omega, by omega⟩, ⟨(k + 1, ds), by omega, f2, f3, ?_⟩, ⟨rfl, rfl, ⟨by simp [lk], rfl, rfl, rfl, rfl, rfl, trivial⟩, SubH.refl _⟩, by simp only; omega⟩⟩
        · intro t A ht hA
          simp only at hA
          rw [List.getElem?_set_ne (by omega)] at hA
          exact f3 t A ht hA
        · intro A hA
          simp only at hA
          rw [List.getElem?_set_self (by omega)] at hA
          cases hA
          exact setK_ne B k k8 (f4 B hB)
        · intro A hA t ht
          simp only at hA ht
          rw [hB] at hA
          cases hA
          by_cases e : t = k
          · subst e; exact u4
          · exact f4 B hB t (by omega)
      · have k8 : k = 8 := by omega
        subst k8
        refine ⟨⟨by omega, by omega⟩, ⟨(i + 1, ds), by simp only; omega, f2, ?_⟩, ⟨rfl, rfl, ⟨by simp [lk], rfl, rfl, rfl, trivial⟩, SubH.refl _⟩, by simp only; omega⟩
        intro t A ht hA
        simp only at hA ht
        by_cases e : t = i
        · subst e; exact f4 A hA
        · exact f3 t A (by omega) hA
    · have g4 : goodS 0 cs = [] := good_none (fun t B ht => g3 t B (by have := rows_lt ht; omega) ht)
      have g5 : neededS cs q = [] := by unfold neededS; rw [g4]; rfl
      refine CallC.pur (.u [.g Pl.zero.f, .v (.bool false)]) 600 (fun w1 hm1 => find_N w1 _) ?_
      simp (maxSteps := 2000000) only [go_sem, ↓dxc_true, ↓dxc_false, ↓bxc_true, ↓bxc_false, Nat.zero_add, Nat.add_zero, Nat.zero_mul, Nat.reduceBEq, Nat.reduceAdd, Nat.reduceMul, Nat.reduceSub, Nat.reduceLT, Nat.reduceLeDiff, Nat.reduceEqDiff, Nat.reduceDiv, Nat.reduceMod, Int.reduceAdd, Int.reduceSub, Int.reduceMul, Int.reduceDiv, Int.reduceMod, Int.reduceLT, Int.reduceLE, Int.reduceEq, Int.reduceToNat, Int.reducePow, Int.reduceNeg, ne_eq, not_false_eq_true, not_true_eq_false, decide_true, decide_false, Bool.not_true, Bool.not_false, forall_const, reduceCtorEq, implies_true, beq_self_eq_true, Int.cast_ofNat_Int, reduceIte, if_true, if_false, Bool.false_eq_true, Try.ntmps6, fin_ret hE, Try.results6, Pl.len, Pl.one, plO, List.length_cons, List.length_nil]
      intro b1
      refine CallC.pur (.v (.slice none 0 0)) 600 (fun w1 hm1 => ofO hS (cs := cs) (j := j) g2 (by omega) (hm1.at (t := 3) (e := ⟨3, b, true, .a (rows Bk.f cs ++ j) 55⟩) rfl) g4) ?_
      simp (maxSteps := 2000000) only [go_sem, ↓dxc_true, ↓dxc_false, ↓bxc_true, ↓bxc_false, Nat.zero_add, Nat.add_zero, Nat.zero_mul, Nat.reduceBEq, Nat.reduceAdd, Nat.reduceMul, Nat.reduceSub, Nat.reduceLT, Nat.reduceLeDiff, Nat.reduceEqDiff, Nat.reduceDiv, Nat.reduceMod, Int.reduceAdd, Int.reduceSub, Int.reduceMul, Int.reduceDiv, Int.reduceMod, Int.reduceLT, Int.reduceLE, Int.reduceEq, Int.reduceToNat, Int.reducePow, Int.reduceNeg, ne_eq, not_false_eq_true, not_true_eq_false, decide_true, decide_false, Bool.not_true, Bool.not_false, forall_const, reduceCtorEq, implies_true, beq_self_eq_true, Int.cast_ofNat_Int, reduceIte, if_true, if_false, Bool.false_eq_true, Try.ntmps6, fin_ret hE, Try.results6]
      refine CallC.pur (.v (.int .u32 0)) 600 (fun w1 hm1 => topO (cs := cs) (j := j) g2 (by omega) (hm1.at (t := 3) (e := ⟨3, b, true, .a (rows Bk.f cs ++ j) 55⟩) rfl) g4) ?_
      simp (maxSteps := 2000000) only [go_sem, ↓dxc_true, ↓dxc_false, ↓bxc_true, ↓bxc_false, Nat.zero_add, Nat.add_zero, Nat.zero_mul, Nat.reduceBEq, Nat.reduceAdd, Nat.reduceMul, Nat.reduceSub, Nat.reduceLT, Nat.reduceLeDiff, Nat.reduceEqDiff, Nat.reduceDiv, Nat.reduceMod, Int.reduceAdd, Int.reduceSub, Int.reduceMul, Int.reduceDiv, Int.reduceMod, Int.reduceLT, Int.reduceLE, Int.reduceEq, Int.reduceToNat, Int.reducePow, Int.reduceNeg, ne_eq, not_false_eq_true, not_true_eq_false, decide_true, decide_false, Bool.not_true, Bool.not_false, forall_const, reduceCtorEq, implies_true, beq_self_eq_true, Int.cast_ofNat_Int, reduceIte, if_true, if_false, Bool.false_eq_true, Try.ntmps6, fin_ret hE, Try.results6]
      refine CallC.pur (.v (.slice none 0 0)) 600 (fun w1 hm1 => needO (cs := cs) (j := j) g2 (by omega) (hm1.at (t := 3) (e := ⟨3, b, true, .a (rows Bk.f cs ++ j) 55⟩) rfl) g5) ?_
      simp (maxSteps := 2000000) only [go_sem, ↓dxc_true, ↓dxc_false, ↓bxc_true, ↓bxc_false, Nat.zero_add, Nat.add_zero, Nat.zero_mul, Nat.reduceBEq, Nat.reduceAdd, Nat.reduceMul, Nat.reduceSub, Nat.reduceLT, Nat.reduceLeDiff, Nat.reduceEqDiff, Nat.reduceDiv, Nat.reduceMod, Int.reduceAdd, Int.reduceSub, Int.reduceMul, Int.reduceDiv, Int.reduceMod, Int.reduceLT, Int.reduceLE, Int.reduceEq, Int.reduceToNat, Int.reducePow, Int.reduceNeg, ne_eq, not_false_eq_true, not_true_eq_false, decide_true, decide_false, Bool.not_true, Bool.not_false, forall_const, reduceCtorEq, implies_true, beq_self_eq_true, Int.cast_ofNat_Int, reduceIte, if_true, if_false, Bool.false_eq_true, Try.ntmps6, fin_ret hE, Try.results6]
      exact fun w' hm' => ⟨rfl, hm'.below⟩
  · refine ex_weaken (noneI ba oa ca b c q bs j la Ta za bs 0) ⟨rfl, rfl, ⟨rfl, rfl, rfl, rfl, trivial⟩, SubH.refl _⟩ ?_
    refine CodeC.loop (γ := { g : Nat × List Bk // g.1 ≤ bs.length ∧ g.2.length = bs.length ∧ ∀ (t : Nat) (B : Bk), t < g.1 → g.2[t]? = some B → NoG B }) (fun g => noneI ba oa ca b c q bs j la Ta za g.1.2 g.1.1) (fun g => bs.length - g.1.1) ⟨(0, bs), by simp⟩ 600 ⟨rfl, rfl, ⟨rfl, rfl, rfl, rfl, trivial⟩, SubH.refl _⟩ ?_
    rintro ⟨⟨i, cs⟩, g1, g2, g3⟩
    simp only [noneI] at g1 g2 g3 ⊢
    simp (maxSteps := 2000000) only [go_sem, ↓dxc_true, ↓dxc_false, ↓bxc_true, ↓bxc_false, Nat.zero_add, Nat.add_zero, Nat.zero_mul, Nat.reduceBEq, Nat.reduceAdd, Nat.reduceMul, Nat.reduceSub, Nat.reduceLT, Nat.reduceLeDiff, Nat.reduceEqDiff, Nat.reduceDiv, Nat.reduceMod, Int.reduceAdd, Int.reduceSub, Int.reduceMul, Int.reduceDiv, Int.reduceMod, Int.reduceLT, Int.reduceLE, Int.reduceEq, Int.reduceToNat, Int.reducePow, Int.reduceNeg, ne_eq, not_false_eq_true, not_true_eq_false, decide_true, decide_false, Bool.not_true, Bool.not_false, forall_const, reduceCtorEq, implies_true, beq_self_eq_true, Int.cast_ofNat_Int, reduceIte, if_true, if_false, Bool.false_eq_true, Try.ntmps6, fin_ret hE, Try.results6]
    refine ⟨fun u2 => ?_, fun u2 => ?_⟩
    · have hi : i < bs.length := by omega
      refine CodeC.loop (γ := { g : Nat × List Bk // g.1 ≤ 8 ∧ g.2.length = bs.length ∧ (∀ (t : Nat) (B : Bk), t < i → g.2[t]? = some B → NoG B) ∧ ∀ B, g.2[i]? = some B → ∀ t, t < g.1 → B.ks.getD t 0 ≠ 1 })
        (fun g => ⟨82, 4, [(37, .v (.int .i64 (g.1.1 : Int))), (6, .v (.int .i64 (i : Int))), (34, .v (.int .i64 (i : Int))), (33, .v (.int .i64 (bs.length : Int))), (5, .s 3 b 0 bs.length c), (1, .v (.int .i64 q))], [⟨3, b, true, .a (rows Bk.f g.1.2 ++ j) 55⟩, ⟨101, ba, false, .z la Ta za⟩], []⟩)
        (fun g => 8 - g.1.1) ⟨(0, cs), by omega, g2, g3, by intro B _ t ht; omega⟩ 600 ⟨rfl, rfl, ⟨rfl, rfl, rfl, rfl, rfl, rfl, trivial⟩, SubH.refl _⟩ ?_
      rintro ⟨⟨k, ds⟩, f1, f2, f3, f4⟩
      simp only at f1 f2 f3 f4 ⊢
      obtain ⟨B, hB⟩ := ex_at (xs := ds) (i := i) (by omega)
      simp (maxSteps := 2000000) only [go_sem, ↓dxc_true, ↓dxc_false, ↓bxc_true, ↓bxc_false, Nat.zero_add, Nat.add_zero, Nat.zero_mul, Nat.reduceBEq, Nat.reduceAdd, Nat.reduceMul, Nat.reduceSub, Nat.reduceLT, Nat.reduceLeDiff, Nat.reduceEqDiff, Nat.reduceDiv, Nat.reduceMod, Int.reduceAdd, Int.reduceSub, Int.reduceMul, Int.reduceDiv, Int.reduceMod, Int.reduceLT, Int.reduceLE, Int.reduceEq, Int.reduceToNat, Int.reducePow, Int.reduceNeg, ne_eq, not_false_eq_true, not_true_eq_false, decide_true, decide_false, Bool.not_true, Bool.not_false, forall_const, reduceCtorEq, implies_true, beq_self_eq_true, Int.cast_ofNat_Int, reduceIte, if_true, if_false, Bool.false_eq_true, Try.ntmps6, fin_ret hE, Try.results6, Int.toNat_natCast]
      refine ⟨fun u3 => ?_, fun u3 => ?_⟩
      · have k8 : k < 8 := by omega
        have r1 : ld1 (rows Bk.f ds ++ j) (i * 66 + 2 + k * 1) = .v (.int .i64 (B.ks.getD k 0)) := by rw [Nat.mul_one, Nat.add_assoc]; exact ldK_row ds j i k B hB k8
        have s1 : stN (rows Bk.f ds ++ j) (i * 66 + 2 + k * 1) [.v (.int .i64 2)] = rows Bk.f (ds.set i (B.setK k 2)) ++ j := by rw [Nat.mul_one, Nat.add_assoc]; exact stK_row ds j i k B hB k8 2
        have hlen : (rows Bk.f ds ++ j).length = c * 66 := by rw [List.length_append, rows_length Bk.len, f2]; omega
        simp (maxSteps := 2000000) only [go_sem, ↓dxc_true, ↓dxc_false, ↓bxc_true, ↓bxc_false, Nat.zero_add, Nat.add_zero, Nat.zero_mul, Nat.reduceBEq, Nat.reduceAdd, Nat.reduceMul, Nat.reduceSub, Nat.reduceLT, Nat.reduceLeDiff, Nat.reduceEqDiff, Nat.reduceDiv, Nat.reduceMod, Int.reduceAdd, Int.reduceSub, Int.reduceMul, Int.reduceDiv, Int.reduceMod, Int.reduceLT, Int.reduceLE, Int.reduceEq, Int.reduceToNat, Int.reducePow, Int.reduceNeg, ne_eq, not_false_eq_true, not_true_eq_false, decide_true, decide_false, Bool.not_true, Bool.not_false, forall_const, reduceCtorEq, implies_true, beq_self_eq_true, Int.cast_ofNat_Int, reduceIte, if_true, if_false, Bool.false_eq_true, Try.ntmps6, fin_ret hE, Try.results6, Int.toNat_natCast, r1, s1, hlen]
        refine ⟨⟨by omega, by omega⟩, ⟨by omega, by omega⟩, by omega, fun u4 => ⟨⟨by omega, by omega⟩, ⟨by omega, by omega⟩, by omega, ⟨by omega, by omega⟩, ⟨(k + 1, ds.set i (B.setK k 2)), by omega, by simp [f2], ?_, ?_⟩, ⟨rfl, rfl, ⟨by simp [lk], rfl, rfl, rfl, rfl, rfl, trivial⟩, SubH.refl _⟩, by simp only; omega⟩,
          fun u4 => ⟨⟨by omega, by omega⟩, ⟨(k + 1, ds), by omega, f2, f3, ?_⟩, ⟨rfl, rfl, ⟨by simp [lk], rfl, rfl, rfl, rfl, rfl, trivial⟩, SubH.refl _⟩, by simp only; omega⟩⟩
        · intro t A ht hA
          simp only at hA
          rw [List.getElem?_set_ne (by omega)] at hA
          exact f3 t A ht hA
        · intro A hA
          simp only at hA
          rw [List.getElem?_set_self (by omega)] at hA
          cases hA
          exact setK_ne B k k8 (f4 B hB)
        · intro A hA t ht
          simp only at hA ht
          rw [hB] at hA
          cases hA
          by_cases e : t = k
          · subst e; exact u4
          · exact f4 B hB t (by omega)
      · have k8 : k = 8 := by omega
        subst k8
        refine ⟨⟨by omega, by omega⟩, ⟨(i + 1, ds), by simp only; omega, f2, ?_⟩, ⟨rfl, rfl, ⟨by simp [lk], rfl, rfl, rfl, trivial⟩, SubH.refl _⟩, by simp only; omega⟩
        intro t A ht hA
        simp only at hA ht
        by_cases e : t = i
        · subst e; exact f4 A hA
        · exact f3 t A (by omega) hA
    · have g4 : goodS 0 cs = [] := good_none (fun t B ht => g3 t B (by have := rows_lt ht; omega) ht)
      have g5 : neededS cs q = [] := by unfold neededS; rw [g4]; rfl
      refine CallC.pur (.u [.g Pl.zero.f, .v (.bool false)]) 600 (fun w1 hm1 => find_N w1 _) ?_
      simp (maxSteps := 2000000) only [go_sem, ↓dxc_true, ↓dxc_false, ↓bxc_true, ↓bxc_false, Nat.zero_add, Nat.add_zero, Nat.zero_mul, Nat.reduceBEq, Nat.reduceAdd, Nat.reduceMul, Nat.reduceSub, Nat.reduceLT, Nat.reduceLeDiff, Nat.reduceEqDiff, Nat.reduceDiv, Nat.reduceMod, Int.reduceAdd, Int.reduceSub, Int.reduceMul, Int.reduceDiv, Int.reduceMod, Int.reduceLT, Int.reduceLE, Int.reduceEq, Int.reduceToNat, Int.reducePow, Int.reduceNeg, ne_eq, not_false_eq_true, not_true_eq_false, decide_true, decide_false, Bool.not_true, Bool.not_false, forall_const, reduceCtorEq, implies_true, beq_self_eq_true, Int.cast_ofNat_Int, reduceIte, if_true, if_false, Bool.false_eq_true, Try.ntmps6, fin_ret hE, Try.results6, Pl.len, Pl.one, plO, List.length_cons, List.length_nil]
      intro b1
      refine CallC.pur (.v (.slice none 0 0)) 600 (fun w1 hm1 => ofO hS (cs := cs) (j := j) g2 (by omega) (hm1.at (t := 3) (e := ⟨3, b, true, .a (rows Bk.f cs ++ j) 55⟩) rfl) g4) ?_
      simp (maxSteps := 2000000) only [go_sem, ↓dxc_true, ↓dxc_false, ↓bxc_true, ↓bxc_false, Nat.zero_add, Nat.add_zero, Nat.zero_mul, Nat.reduceBEq, Nat.reduceAdd, Nat.reduceMul, Nat.reduceSub, Nat.reduceLT, Nat.reduceLeDiff, Nat.reduceEqDiff, Nat.reduceDiv, Nat.reduceMod, Int.reduceAdd, Int.reduceSub, Int.reduceMul, Int.reduceDiv, Int.reduceMod, Int.reduceLT, Int.reduceLE, Int.reduceEq, Int.reduceToNat, Int.reducePow, Int.reduceNeg, ne_eq, not_false_eq_true, not_true_eq_false, decide_true, decide_false, Bool.not_true, Bool.not_false, forall_const, reduceCtorEq, implies_true, beq_self_eq_true, Int.cast_ofNat_Int, reduceIte, if_true, if_false, Bool.false_eq_true, Try.ntmps6, fin_ret hE, Try.results6]
      refine CallC.pur (.v (.int .u32 0)) 600 (fun w1 hm1 => topO (cs := cs) (j := j) g2 (by omega) (hm1.at (t := 3) (e := ⟨3, b, true, .a (rows Bk.f cs ++ j) 55⟩) rfl) g4) ?_
      simp (maxSteps := 2000000) only [go_sem, ↓dxc_true, ↓dxc_false, ↓bxc_true, ↓bxc_false, Nat.zero_add, Nat.add_zero, Nat.zero_mul, Nat.reduceBEq, Nat.reduceAdd, Nat.reduceMul, Nat.reduceSub, Nat.reduceLT, Nat.reduceLeDiff, Nat.reduceEqDiff, Nat.reduceDiv, Nat.reduceMod, Int.reduceAdd, Int.reduceSub, Int.reduceMul, Int.reduceDiv, Int.reduceMod, Int.reduceLT, Int.reduceLE, Int.reduceEq, Int.reduceToNat, Int.reducePow, Int.reduceNeg, ne_eq, not_false_eq_true, not_true_eq_false, decide_true, decide_false, Bool.not_true, Bool.not_false, forall_const, reduceCtorEq, implies_true, beq_self_eq_true, Int.cast_ofNat_Int, reduceIte, if_true, if_false, Bool.false_eq_true, Try.ntmps6, fin_ret hE, Try.results6]
      refine CallC.pur (.v (.slice none 0 0)) 600 (fun w1 hm1 => needO (cs := cs) (j := j) g2 (by omega) (hm1.at (t := 3) (e := ⟨3, b, true, .a (rows Bk.f cs ++ j) 55⟩) rfl) g5) ?_
      simp (maxSteps := 2000000) only [go_sem, ↓dxc_true, ↓dxc_false, ↓bxc_true, ↓bxc_false, Nat.zero_add, Nat.add_zero, Nat.zero_mul, Nat.reduceBEq, Nat.reduceAdd, Nat.reduceMul, Nat.reduceSub, Nat.reduceLT, Nat.reduceLeDiff, Nat.reduceEqDiff, Nat.reduceDiv, Nat.reduceMod, Int.reduceAdd, Int.reduceSub, Int.reduceMul, Int.reduceDiv, Int.reduceMod, Int.reduceLT, Int.reduceLE, Int.reduceEq, Int.reduceToNat, Int.reducePow, Int.reduceNeg, ne_eq, not_false_eq_true, not_true_eq_false, decide_true, decide_false, Bool.not_true, Bool.not_false, forall_const, reduceCtorEq, implies_true, beq_self_eq_true, Int.cast_ofNat_Int, reduceIte, if_true, if_false, Bool.false_eq_true, Try.ntmps6, fin_ret hE, Try.results6]
      exact fun w' hm' => ⟨rfl, hm'.below⟩

end Go.Proofs
