/- The bus's other calls, and the law's own first question. -/
import Derived.Test.YtmmjmgnbffameaaDyB3
set_option linter.unusedSimpArgs false
set_option linter.unusedVariables false
set_option maxRecDepth 100000
namespace Go.Proofs
open Go.Dx Go.RowKit

theorem busWord_C (w : World) (bb t br : Nat) (base a : Int) (sl : SV) (xs : List Int) (hb : u32ok base) (ha : u32ok a)
    (hgb : w.heap[bb]? = some (denO (busO (.p t br 0)))) (hg : w.heap[br]? = some (denO (ramO base sl))) (hw : WordsR w sl xs) :
    Calls Try.prog 13 #[.pointer (some ⟨bb, 0, none⟩), .int .u32 a] w fun e w' =>
      ∃ r : Int × Bool, e = .returned (den (.u [.v (.int .u32 r.1), .v (.bool r.2)])) ∧ (r = (wordR base a xs, true) ∧ inR base a xs.length ∨ r = (0, false) ∧ ¬ inR base a xs.length) ∧ Below w.heap.size w w' := by
  have hm : Mem w [] [⟨0, bb, false, busO (.p 1 br 0)⟩, ⟨1, br, false, ramO base sl⟩] w := Mem.reads (by simpa using ⟨hgb, hg⟩) (by simp)
  refine calls_of_ex [.p 0 bb 0, .v (.int .u32 a)] _ [] 2 300 Try.func13 rfl hm (by simp [Try.ntmps13]) fun E hE => ?_
  simp only [go_sem, Nat.zero_add, Nat.add_zero, Nat.zero_mul, Nat.reduceBEq, Nat.reduceAdd, Nat.reduceMul, Nat.reduceSub, Nat.reduceLT, Nat.reduceLeDiff, Nat.reduceEqDiff, Nat.reduceDiv, Nat.reduceMod, Int.reduceAdd, Int.reduceSub, Int.reduceMul, Int.reduceDiv, Int.reduceMod, Int.reduceLT, Int.reduceLE, Int.reduceEq, Int.reduceToNat, Int.reducePow, Int.reduceNeg, ne_eq, not_false_eq_true, not_true_eq_false, decide_true, decide_false, Bool.not_true, Bool.not_false, forall_const, reduceCtorEq, implies_true, beq_self_eq_true, Int.cast_ofNat_Int, reduceIte, if_true, if_false, Bool.false_eq_true, busO, Try.ntmps13, fin_ret hE, Try.results13]
  refine CallC.pur (.v (.bool true)) 300 (fun w1 hm1 => ?_) ?_
  · subst hE
    exact good_C w1 bb br (hm1.at (t := 0) rfl)
  · simp only [go_sem, Nat.zero_add, Nat.add_zero, Nat.zero_mul, Nat.reduceBEq, Nat.reduceAdd, Nat.reduceMul, Nat.reduceSub, Nat.reduceLT, Nat.reduceLeDiff, Nat.reduceEqDiff, Nat.reduceDiv, Nat.reduceMod, Int.reduceAdd, Int.reduceSub, Int.reduceMul, Int.reduceDiv, Int.reduceMod, Int.reduceLT, Int.reduceLE, Int.reduceEq, Int.reduceToNat, Int.reducePow, Int.reduceNeg, ne_eq, not_false_eq_true, not_true_eq_false, decide_true, decide_false, Bool.not_true, Bool.not_false, forall_const, reduceCtorEq, implies_true, beq_self_eq_true, Int.cast_ofNat_Int, reduceIte, if_true, if_false, Bool.false_eq_true, busO, ramO, Try.ntmps13, fin_ret hE, Try.results13]
    refine CallC.val (γ := Int × Bool) (fun r => .u [.v (.int .u32 r.1), .v (.bool r.2)]) (fun r => r = (wordR base a xs, true) ∧ inR base a xs.length ∨ r = (0, false) ∧ ¬ inR base a xs.length) 300 (fun w1 hm1 => ?_) ?_
    · subst hE
      exact word_C w1 br base a sl xs hb ha (hm1.at (t := 1) rfl) (hw.kept hm1.below)
    · refine ⟨by simp only [go_sem, Nat.zero_add, Nat.add_zero, Nat.zero_mul, Nat.reduceBEq, Nat.reduceAdd, Nat.reduceMul, Nat.reduceSub, Nat.reduceLT, Nat.reduceLeDiff, Nat.reduceEqDiff, Nat.reduceDiv, Nat.reduceMod, Int.reduceAdd, Int.reduceSub, Int.reduceMul, Int.reduceDiv, Int.reduceMod, Int.reduceLT, Int.reduceLE, Int.reduceEq, Int.reduceToNat, Int.reducePow, Int.reduceNeg, ne_eq, not_false_eq_true, not_true_eq_false, decide_true, decide_false, Bool.not_true, Bool.not_false, forall_const, reduceCtorEq, implies_true, beq_self_eq_true, Int.cast_ofNat_Int, reduceIte, if_true, if_false, Bool.false_eq_true, Try.ntmps13], fun r hr => ?_⟩
      simp only [go_sem, Nat.zero_add, Nat.add_zero, Nat.zero_mul, Nat.reduceBEq, Nat.reduceAdd, Nat.reduceMul, Nat.reduceSub, Nat.reduceLT, Nat.reduceLeDiff, Nat.reduceEqDiff, Nat.reduceDiv, Nat.reduceMod, Int.reduceAdd, Int.reduceSub, Int.reduceMul, Int.reduceDiv, Int.reduceMod, Int.reduceLT, Int.reduceLE, Int.reduceEq, Int.reduceToNat, Int.reducePow, Int.reduceNeg, ne_eq, not_false_eq_true, not_true_eq_false, decide_true, decide_false, Bool.not_true, Bool.not_false, forall_const, reduceCtorEq, implies_true, beq_self_eq_true, Int.cast_ofNat_Int, reduceIte, if_true, if_false, Bool.false_eq_true, busO, ramO, Try.ntmps13, fin_ret hE, Try.results13]
      exact fun w' hm' => ⟨r, rfl, hr, hm'.below⟩

theorem busPut_cons (w : World) (bb t br bw c : Nat) (base a v : Int) (xs : List Int) (j : List SV) (hb : u32ok base) (ha : u32ok a) (hn : xs.length ≤ 9223372036854775807)
    (hne : br ≠ bw) (hne2 : bb ≠ bw)
    (hgb : w.heap[bb]? = some (denO (busO (.p t br 0)))) (hg : w.heap[br]? = some (denO (ramO base (.s 1 bw 0 xs.length c)))) (hgw : w.heap[bw]? = some (denO (wordsO xs j))) :
    Calls Try.prog 14 #[.pointer (some ⟨bb, 0, none⟩), .int .u32 a, .int .u32 v] w fun e w' =>
      ∃ r : Bool × List Int, e = .returned (.bool r.1) ∧ (r = (true, xs.set ((a - base) / 4).toNat v) ∧ inR base a xs.length ∨ r = (false, xs) ∧ ¬ inR base a xs.length) ∧ Tch w w' [bw] ∧ w'.heap[bw]? = some (denO (wordsO r.2 j)) := by
  have hm : Mem w [bw] [⟨0, bb, false, busO (.p 1 br 0)⟩, ⟨1, br, false, ramO base (.s 2 bw 0 xs.length c)⟩, ⟨2, bw, true, wordsO xs j⟩] w := Mem.refl _ _ _ (by simpa using ⟨hgb, hg, hgw⟩) (by simp) (by simpa using ⟨hne2, hne⟩)
  refine calls_of_ex [.p 0 bb 0, .v (.int .u32 a), .v (.int .u32 v)] _ [bw] 3 300 Try.func14 rfl hm (by simp [Try.ntmps14]) fun E hE => ?_
  simp only [go_sem, Nat.zero_add, Nat.add_zero, Nat.zero_mul, Nat.reduceBEq, Nat.reduceAdd, Nat.reduceMul, Nat.reduceSub, Nat.reduceLT, Nat.reduceLeDiff, Nat.reduceEqDiff, Nat.reduceDiv, Nat.reduceMod, Int.reduceAdd, Int.reduceSub, Int.reduceMul, Int.reduceDiv, Int.reduceMod, Int.reduceLT, Int.reduceLE, Int.reduceEq, Int.reduceToNat, Int.reducePow, Int.reduceNeg, ne_eq, not_false_eq_true, not_true_eq_false, decide_true, decide_false, Bool.not_true, Bool.not_false, forall_const, reduceCtorEq, implies_true, beq_self_eq_true, Int.cast_ofNat_Int, reduceIte, if_true, if_false, Bool.false_eq_true, busO, wordsO, Try.ntmps14, fin_ret hE, Try.results14]
  refine CallC.pur (.v (.bool true)) 300 (fun w1 hm1 => ?_) ?_
  · subst hE
    exact good_C w1 bb br (hm1.at (t := 0) rfl)
  · simp only [go_sem, Nat.zero_add, Nat.add_zero, Nat.zero_mul, Nat.reduceBEq, Nat.reduceAdd, Nat.reduceMul, Nat.reduceSub, Nat.reduceLT, Nat.reduceLeDiff, Nat.reduceEqDiff, Nat.reduceDiv, Nat.reduceMod, Int.reduceAdd, Int.reduceSub, Int.reduceMul, Int.reduceDiv, Int.reduceMod, Int.reduceLT, Int.reduceLE, Int.reduceEq, Int.reduceToNat, Int.reducePow, Int.reduceNeg, ne_eq, not_false_eq_true, not_true_eq_false, decide_true, decide_false, Bool.not_true, Bool.not_false, forall_const, reduceCtorEq, implies_true, beq_self_eq_true, Int.cast_ofNat_Int, reduceIte, if_true, if_false, Bool.false_eq_true, busO, ramO, wordsO, Try.ntmps14, fin_ret hE, Try.results14]
    refine CallC.mut (γ := Bool × List Int) (fun r => .v (.bool r.1)) (fun r => [⟨0, bb, false, busO (.p 1 br 0)⟩, ⟨1, br, false, ramO base (.s 2 bw 0 xs.length c)⟩, ⟨2, bw, true, wordsO r.2 j⟩])
      (fun r => r = (true, xs.set ((a - base) / 4).toNat v) ∧ inR base a xs.length ∨ r = (false, xs) ∧ ¬ inR base a xs.length) 300 (fun w1 hm1 => ?_) ?_
    · refine (putw_cons w1 br bw c base a v xs j hb ha hne hn (hm1.at (t := 1) rfl) (hm1.at (t := 2) rfl)).mono ?_
      rintro e w' ⟨r, rfl, h1, h2, h3⟩
      exact ⟨r, rfl, h1, hm1.upd1 (t := 2) rfl rfl h2 (wordsO r.2 j) h3⟩
    · refine ⟨by simp only [go_sem, Nat.zero_add, Nat.add_zero, Nat.zero_mul, Nat.reduceBEq, Nat.reduceAdd, Nat.reduceMul, Nat.reduceSub, Nat.reduceLT, Nat.reduceLeDiff, Nat.reduceEqDiff, Nat.reduceDiv, Nat.reduceMod, Int.reduceAdd, Int.reduceSub, Int.reduceMul, Int.reduceDiv, Int.reduceMod, Int.reduceLT, Int.reduceLE, Int.reduceEq, Int.reduceToNat, Int.reducePow, Int.reduceNeg, ne_eq, not_false_eq_true, not_true_eq_false, decide_true, decide_false, Bool.not_true, Bool.not_false, forall_const, reduceCtorEq, implies_true, beq_self_eq_true, Int.cast_ofNat_Int, reduceIte, if_true, if_false, Bool.false_eq_true, Try.ntmps14], fun r hr => ?_⟩
      simp only [go_sem, Nat.zero_add, Nat.add_zero, Nat.zero_mul, Nat.reduceBEq, Nat.reduceAdd, Nat.reduceMul, Nat.reduceSub, Nat.reduceLT, Nat.reduceLeDiff, Nat.reduceEqDiff, Nat.reduceDiv, Nat.reduceMod, Int.reduceAdd, Int.reduceSub, Int.reduceMul, Int.reduceDiv, Int.reduceMod, Int.reduceLT, Int.reduceLE, Int.reduceEq, Int.reduceToNat, Int.reducePow, Int.reduceNeg, ne_eq, not_false_eq_true, not_true_eq_false, decide_true, decide_false, Bool.not_true, Bool.not_false, forall_const, reduceCtorEq, implies_true, beq_self_eq_true, Int.cast_ofNat_Int, reduceIte, if_true, if_false, Bool.false_eq_true, busO, ramO, wordsO, Try.ntmps14, fin_ret hE, Try.results14]
      exact fun w' hm' => ⟨r, rfl, hr, Tch.of hm', hm'.at (t := 2) rfl⟩

theorem apart_C (w : World) (f t g u : Int) :
    Calls Try.prog 27 #[.int .u64 f, .int .u64 t, .int .u64 g, .int .u64 u] w fun e w' => e = .returned (.bool (decide (t ≤ g ∨ u ≤ f))) ∧ Below w.heap.size w w' := by
  have hm : Mem w [] [] w := Mem.reads (by simp) (by simp)
  refine calls_of_ex [.v (.int .u64 f), .v (.int .u64 t), .v (.int .u64 g), .v (.int .u64 u)] _ [] 0 300 Try.func27 rfl hm (by simp [Try.ntmps27]) fun E hE => ?_
  simp only [go_sem, Nat.zero_add, Nat.add_zero, Nat.zero_mul, Nat.reduceBEq, Nat.reduceAdd, Nat.reduceMul, Nat.reduceSub, Nat.reduceLT, Nat.reduceLeDiff, Nat.reduceEqDiff, Nat.reduceDiv, Nat.reduceMod, Int.reduceAdd, Int.reduceSub, Int.reduceMul, Int.reduceDiv, Int.reduceMod, Int.reduceLT, Int.reduceLE, Int.reduceEq, Int.reduceToNat, Int.reducePow, Int.reduceNeg, ne_eq, not_false_eq_true, not_true_eq_false, decide_true, decide_false, Bool.not_true, Bool.not_false, forall_const, reduceCtorEq, implies_true, beq_self_eq_true, Int.cast_ofNat_Int, reduceIte, if_true, if_false, Bool.false_eq_true, Try.ntmps27, fin_ret hE, Try.results27]
  refine ⟨fun h w' hm' => ⟨by simp [den, h], hm'.below⟩, fun h w' hm' => ⟨by simp [den, h], hm'.below⟩⟩

/-- A device that is added right behind a memory of two words. -/
theorem add_one (w : World) (bb t br bw T bd : Nat) (hne : br ≠ bb)
    (hgb : w.heap[bb]? = some (denO (busO (.p t br 0)))) (hg : w.heap[br]? = some (denO (ramO 0 (.s 1 bw 0 2 2)))) :
    Calls Try.prog 15 #[.pointer (some ⟨bb, 0, none⟩), .int .u32 8, .int .u32 4, .iface T (.pointer (some ⟨bd, 0, none⟩))] w fun e w' =>
      ∃ sl : SV, e = .returned (.bool true) ∧ Tch w w' [bb] ∧ w'.heap[bb]? = some (denO (.c [.p 1 br 0, sl] 55)) := by
  have hm : Mem w [bb] [⟨0, bb, true, busO (.p 1 br 0)⟩, ⟨1, br, false, ramO 0 (.s 2 bw 0 2 2)⟩] w := Mem.refl _ _ _ (by simpa using ⟨hgb, hg⟩) (by simp) (by simpa using hne.symm)
  refine calls_of_ex [.p 0 bb 0, .v (.int .u32 8), .v (.int .u32 4), .i T (.p 7 bd 0)] _ [bb] 3 300 Try.func15 rfl hm (by simp [Try.ntmps15]) fun E hE => ?_
  simp only [go_sem, Nat.zero_add, Nat.add_zero, Nat.zero_mul, Nat.reduceBEq, Nat.reduceAdd, Nat.reduceMul, Nat.reduceSub, Nat.reduceLT, Nat.reduceLeDiff, Nat.reduceEqDiff, Nat.reduceDiv, Nat.reduceMod, Int.reduceAdd, Int.reduceSub, Int.reduceMul, Int.reduceDiv, Int.reduceMod, Int.reduceLT, Int.reduceLE, Int.reduceEq, Int.reduceToNat, Int.reducePow, Int.reduceNeg, ne_eq, not_false_eq_true, not_true_eq_false, decide_true, decide_false, Bool.not_true, Bool.not_false, forall_const, reduceCtorEq, implies_true, beq_self_eq_true, Int.cast_ofNat_Int, reduceIte, if_true, if_false, Bool.false_eq_true, busO, Try.ntmps15, fin_ret hE, Try.results15]
  refine CallC.pur (.v (.bool true)) 300 (fun w1 hm1 => ?_) ?_
  · subst hE
    exact good_C w1 bb br (hm1.at (t := 0) rfl)
  · simp only [go_sem, Nat.zero_add, Nat.add_zero, Nat.zero_mul, Nat.reduceBEq, Nat.reduceAdd, Nat.reduceMul, Nat.reduceSub, Nat.reduceLT, Nat.reduceLeDiff, Nat.reduceEqDiff, Nat.reduceDiv, Nat.reduceMod, Int.reduceAdd, Int.reduceSub, Int.reduceMul, Int.reduceDiv, Int.reduceMod, Int.reduceLT, Int.reduceLE, Int.reduceEq, Int.reduceToNat, Int.reducePow, Int.reduceNeg, ne_eq, not_false_eq_true, not_true_eq_false, decide_true, decide_false, Bool.not_true, Bool.not_false, forall_const, reduceCtorEq, implies_true, beq_self_eq_true, Int.cast_ofNat_Int, reduceIte, if_true, if_false, Bool.false_eq_true, busO, ramO, Try.ntmps15, fin_ret hE, Try.results15]
    refine CallC.pur (.v (.bool true)) 300 (fun w1 hm1 => ?_) ?_
    · exact (apart_C w1 8 12 0 8).mono fun e w' h => h
    · simp only [go_sem, Nat.zero_add, Nat.add_zero, Nat.zero_mul, Nat.reduceBEq, Nat.reduceAdd, Nat.reduceMul, Nat.reduceSub, Nat.reduceLT, Nat.reduceLeDiff, Nat.reduceEqDiff, Nat.reduceDiv, Nat.reduceMod, Int.reduceAdd, Int.reduceSub, Int.reduceMul, Int.reduceDiv, Int.reduceMod, Int.reduceLT, Int.reduceLE, Int.reduceEq, Int.reduceToNat, Int.reducePow, Int.reduceNeg, ne_eq, not_false_eq_true, not_true_eq_false, decide_true, decide_false, Bool.not_true, Bool.not_false, forall_const, reduceCtorEq, implies_true, beq_self_eq_true, Int.cast_ofNat_Int, reduceIte, if_true, if_false, Bool.false_eq_true, busO, ramO, Try.ntmps15, fin_ret hE, Try.results15]
      refine CodeC.loop (γ := Unit) (fun _ => ⟨102, 3, [(76, .v (.int .i64 0)), (75, .v (.int .i64 0)), (0, .p 0 bb 0), (3, .i T (.p 7 bd 0)), (9, .v (.int .u64 8)), (10, .v (.int .u64 12))], [⟨0, bb, true, busO (.p 1 br 0)⟩, ⟨1, br, false, ramO 0 (.s 2 bw 0 2 2)⟩], []⟩) (fun _ => 0) () 300 ⟨rfl, rfl, ⟨rfl, rfl, rfl, rfl, rfl, rfl, trivial⟩, by simp only [go_sem, Nat.zero_add, Nat.add_zero, Nat.zero_mul, Nat.reduceBEq, Nat.reduceAdd, Nat.reduceMul, Nat.reduceSub, Nat.reduceLT, Nat.reduceLeDiff, Nat.reduceEqDiff, Nat.reduceDiv, Nat.reduceMod, Int.reduceAdd, Int.reduceSub, Int.reduceMul, Int.reduceDiv, Int.reduceMod, Int.reduceLT, Int.reduceLE, Int.reduceEq, Int.reduceToNat, Int.reducePow, Int.reduceNeg, ne_eq, not_false_eq_true, not_true_eq_false, decide_true, decide_false, Bool.not_true, Bool.not_false, forall_const, reduceCtorEq, implies_true, beq_self_eq_true, Int.cast_ofNat_Int, reduceIte, if_true, if_false, Bool.false_eq_true, busO, ramO, SubH]⟩ fun g => ?_
      simp only [go_sem, Nat.zero_add, Nat.add_zero, Nat.zero_mul, Nat.reduceBEq, Nat.reduceAdd, Nat.reduceMul, Nat.reduceSub, Nat.reduceLT, Nat.reduceLeDiff, Nat.reduceEqDiff, Nat.reduceDiv, Nat.reduceMod, Int.reduceAdd, Int.reduceSub, Int.reduceMul, Int.reduceDiv, Int.reduceMod, Int.reduceLT, Int.reduceLE, Int.reduceEq, Int.reduceToNat, Int.reducePow, Int.reduceNeg, ne_eq, not_false_eq_true, not_true_eq_false, decide_true, decide_false, Bool.not_true, Bool.not_false, forall_const, reduceCtorEq, implies_true, beq_self_eq_true, Int.cast_ofNat_Int, reduceIte, if_true, if_false, Bool.false_eq_true, busO, ramO, Try.ntmps15, fin_ret hE, Try.results15]
      exact fun b => ⟨fun h => h.elim, fun b1 c hc w' hm' => ⟨_, rfl, Tch.of hm', hm'.at (t := 0) rfl⟩⟩

theorem good_G (w : World) (bb br : Nat) (sl : SV) (hg : w.heap[bb]? = some (denO (.c [.p 1 br 0, sl] 55))) :
    Calls Try.prog 26 #[.pointer (some ⟨bb, 0, none⟩)] w fun e w' => e = .returned (.bool true) ∧ Below w.heap.size w w' := by
  have hm : Mem w [] [⟨0, bb, false, .c [.p 1 br 0, sl] 55⟩] w := Mem.reads (by simpa using hg) (by simp)
  refine calls_of_ex [.p 0 bb 0] _ [] 2 200 Try.func26 rfl hm (by simp [Try.ntmps26]) fun E hE => ?_
  simp only [go_sem, Nat.zero_add, Nat.add_zero, Nat.zero_mul, Nat.reduceBEq, Nat.reduceAdd, Nat.reduceMul, Nat.reduceSub, Nat.reduceLT, Nat.reduceLeDiff, Nat.reduceEqDiff, Nat.reduceDiv, Nat.reduceMod, Int.reduceAdd, Int.reduceSub, Int.reduceMul, Int.reduceDiv, Int.reduceMod, Int.reduceLT, Int.reduceLE, Int.reduceEq, Int.reduceToNat, Int.reducePow, Int.reduceNeg, ne_eq, not_false_eq_true, not_true_eq_false, decide_true, decide_false, Bool.not_true, Bool.not_false, forall_const, reduceCtorEq, implies_true, beq_self_eq_true, Int.cast_ofNat_Int, reduceIte, if_true, if_false, Bool.false_eq_true, Try.ntmps26, fin_ret hE, Try.results26]
  exact fun w' hm' => ⟨rfl, hm'.below⟩

/-- A device that would stand on a memory of two words. -/
theorem add_two (w : World) (bb br bw T bd : Nat) (sl : SV)
    (hgb : w.heap[bb]? = some (denO (.c [.p 1 br 0, sl] 55))) (hg : w.heap[br]? = some (denO (ramO 0 (.s 1 bw 0 2 2)))) :
    Calls Try.prog 15 #[.pointer (some ⟨bb, 0, none⟩), .int .u32 4, .int .u32 4, .iface T (.pointer (some ⟨bd, 0, none⟩))] w fun e w' => e = .returned (.bool false) ∧ Below w.heap.size w w' := by
  have hm : Mem w [] [⟨0, bb, false, .c [.p 1 br 0, sl] 55⟩, ⟨1, br, false, ramO 0 (.s 2 bw 0 2 2)⟩] w := Mem.reads (by simpa using ⟨hgb, hg⟩) (by simp)
  refine calls_of_ex [.p 0 bb 0, .v (.int .u32 4), .v (.int .u32 4), .i T (.p 7 bd 0)] _ [] 3 300 Try.func15 rfl hm (by simp [Try.ntmps15]) fun E hE => ?_
  simp only [go_sem, Nat.zero_add, Nat.add_zero, Nat.zero_mul, Nat.reduceBEq, Nat.reduceAdd, Nat.reduceMul, Nat.reduceSub, Nat.reduceLT, Nat.reduceLeDiff, Nat.reduceEqDiff, Nat.reduceDiv, Nat.reduceMod, Int.reduceAdd, Int.reduceSub, Int.reduceMul, Int.reduceDiv, Int.reduceMod, Int.reduceLT, Int.reduceLE, Int.reduceEq, Int.reduceToNat, Int.reducePow, Int.reduceNeg, ne_eq, not_false_eq_true, not_true_eq_false, decide_true, decide_false, Bool.not_true, Bool.not_false, forall_const, reduceCtorEq, implies_true, beq_self_eq_true, Int.cast_ofNat_Int, reduceIte, if_true, if_false, Bool.false_eq_true, Try.ntmps15, fin_ret hE, Try.results15]
  refine CallC.pur (.v (.bool true)) 300 (fun w1 hm1 => ?_) ?_
  · subst hE
    exact good_G w1 bb br sl (hm1.at (t := 0) rfl)
  · simp only [go_sem, Nat.zero_add, Nat.add_zero, Nat.zero_mul, Nat.reduceBEq, Nat.reduceAdd, Nat.reduceMul, Nat.reduceSub, Nat.reduceLT, Nat.reduceLeDiff, Nat.reduceEqDiff, Nat.reduceDiv, Nat.reduceMod, Int.reduceAdd, Int.reduceSub, Int.reduceMul, Int.reduceDiv, Int.reduceMod, Int.reduceLT, Int.reduceLE, Int.reduceEq, Int.reduceToNat, Int.reducePow, Int.reduceNeg, ne_eq, not_false_eq_true, not_true_eq_false, decide_true, decide_false, Bool.not_true, Bool.not_false, forall_const, reduceCtorEq, implies_true, beq_self_eq_true, Int.cast_ofNat_Int, reduceIte, if_true, if_false, Bool.false_eq_true, ramO, Try.ntmps15, fin_ret hE, Try.results15]
    refine CallC.pur (.v (.bool false)) 300 (fun w1 hm1 => ?_) ?_
    · exact (apart_C w1 4 8 0 8).mono fun e w' h => h
    · simp only [go_sem, Nat.zero_add, Nat.add_zero, Nat.zero_mul, Nat.reduceBEq, Nat.reduceAdd, Nat.reduceMul, Nat.reduceSub, Nat.reduceLT, Nat.reduceLeDiff, Nat.reduceEqDiff, Nat.reduceDiv, Nat.reduceMod, Int.reduceAdd, Int.reduceSub, Int.reduceMul, Int.reduceDiv, Int.reduceMod, Int.reduceLT, Int.reduceLE, Int.reduceEq, Int.reduceToNat, Int.reducePow, Int.reduceNeg, ne_eq, not_false_eq_true, not_true_eq_false, decide_true, decide_false, Bool.not_true, Bool.not_false, forall_const, reduceCtorEq, implies_true, beq_self_eq_true, Int.cast_ofNat_Int, reduceIte, if_true, if_false, Bool.false_eq_true, ramO, Try.ntmps15, fin_ret hE, Try.results15]
      exact fun w' hm' => ⟨rfl, hm'.below⟩

theorem alive_store {r : Int × List Int} (h : storeR 0 0 4 16909060 [0, 0] r) : r = (0, [16909060, 0]) := by
  rcases h with ⟨h, _⟩ | ⟨_, h, _⟩ | ⟨_, _, rfl⟩
  · exact absurd (by decide) h
  · exact absurd (by unfold inR; decide) h
  · decide

theorem alive_load1 {r : Int × Int} (h : loadR 0 1 1 [16909060, 0] r) : r = (3, 0) := by
  rcases h with ⟨h, _⟩ | ⟨_, h, _⟩ | ⟨_, _, rfl⟩
  · exact absurd (by decide) h
  · exact absurd (by unfold inR; decide) h
  · decide

theorem alive_load2 {r : Int × Int} (h : loadR 0 1 2 [16909060, 0] r) : r = (0, 1) := by
  rcases h with ⟨h, rfl⟩ | ⟨h, _⟩ | ⟨h, _⟩
  · decide
  · exact absurd h (by decide)
  · exact absurd h (by decide)

theorem alive_load3 {r : Int × Int} (h : loadR 0 8 4 [16909060, 0] r) : r = (0, 2) := by
  rcases h with ⟨h, rfl⟩ | ⟨h, _, rfl⟩ | ⟨h, h1, _⟩
  · exact absurd (by decide) h
  · rfl
  · exact absurd h1 (by unfold inR; decide)

/-- What lies while the law asks its first question. -/
abbrev aliveH (b b1 c : Nat) (xs : List Int) (r : List Ent) : List Ent :=
  ⟨2, c, true, busO (.p 1 b1 0)⟩ :: ⟨1, b1, true, ramO 0 (.s 0 b 0 2 2)⟩ :: ⟨0, b, true, wordsO xs []⟩ :: r

/-- The law's own first question. -/
theorem alive_C (w : World) : Calls Try.prog 6 #[] w fun e w' => e = .returned (.bool true) ∧ Below w.heap.size w w' := by
  have hm : Mem w [] [] w := Mem.reads (by simp) (by simp)
  refine calls_of_ex [] _ [] 0 400 Try.func6 rfl hm (by simp [Try.ntmps6]) fun E hE => ?_
  simp only [go_sem, Nat.zero_add, Nat.add_zero, Nat.zero_mul, Nat.reduceBEq, Nat.reduceAdd, Nat.reduceMul, Nat.reduceSub, Nat.reduceLT, Nat.reduceLeDiff, Nat.reduceEqDiff, Nat.reduceDiv, Nat.reduceMod, Int.reduceAdd, Int.reduceSub, Int.reduceMul, Int.reduceDiv, Int.reduceMod, Int.reduceLT, Int.reduceLE, Int.reduceEq, Int.reduceToNat, Int.reducePow, Int.reduceNeg, ne_eq, not_false_eq_true, not_true_eq_false, decide_true, decide_false, Bool.not_true, Bool.not_false, forall_const, reduceCtorEq, implies_true, beq_self_eq_true, Int.cast_ofNat_Int, reduceIte, if_true, if_false, Bool.false_eq_true, Try.ntmps6, fin_ret hE, Try.results6]
  intro b b_1
  refine CallC.new (γ := Unit) (fun _ b => .p 2 b 0) (fun _ => busO (.p 1 b_1 0)) 400 (fun w1 hm1 => ?_) ?_
  · refine (new_C w1 b_1).mono ?_
    rintro e w' ⟨c, rfl, h1, h2, h3⟩
    exact ⟨(), c, rfl, h1, h2, h3⟩
  · refine ⟨by simp only [go_sem, Nat.zero_add, Nat.add_zero, Nat.zero_mul, Nat.reduceBEq, Nat.reduceAdd, Nat.reduceMul, Nat.reduceSub, Nat.reduceLT, Nat.reduceLeDiff, Nat.reduceEqDiff, Nat.reduceDiv, Nat.reduceMod, Int.reduceAdd, Int.reduceSub, Int.reduceMul, Int.reduceDiv, Int.reduceMod, Int.reduceLT, Int.reduceLE, Int.reduceEq, Int.reduceToNat, Int.reducePow, Int.reduceNeg, ne_eq, not_false_eq_true, not_true_eq_false, decide_true, decide_false, Bool.not_true, Bool.not_false, forall_const, reduceCtorEq, implies_true, beq_self_eq_true, Int.cast_ofNat_Int, reduceIte, if_true, if_false, Bool.false_eq_true, Try.ntmps6], ?_⟩
    intro _ b_2
    simp only [go_sem, Nat.zero_add, Nat.add_zero, Nat.zero_mul, Nat.reduceBEq, Nat.reduceAdd, Nat.reduceMul, Nat.reduceSub, Nat.reduceLT, Nat.reduceLeDiff, Nat.reduceEqDiff, Nat.reduceDiv, Nat.reduceMod, Int.reduceAdd, Int.reduceSub, Int.reduceMul, Int.reduceDiv, Int.reduceMod, Int.reduceLT, Int.reduceLE, Int.reduceEq, Int.reduceToNat, Int.reducePow, Int.reduceNeg, ne_eq, not_false_eq_true, not_true_eq_false, decide_true, decide_false, Bool.not_true, Bool.not_false, forall_const, reduceCtorEq, implies_true, beq_self_eq_true, Int.cast_ofNat_Int, reduceIte, if_true, if_false, Bool.false_eq_true, busO, Try.ntmps6, fin_ret hE, Try.results6]
    -- the store
    refine CallC.mut (γ := Int × List Int) (fun r => .v (.int .i64 r.1)) (fun r => aliveH b b_1 b_2 r.2 []) (fun r => r = (0, [16909060, 0])) 400 (fun w1 hm1 => ?_) ?_
    · have hm2 : Mem E.W0 E.mods (aliveH b b_1 b_2 [0, 0] []) w1 := hm1
      refine (store_cons w1 b_2 1 b_1 b 2 0 0 4 16909060 [0, 0] [] ⟨by decide, by decide⟩ ⟨by decide, by decide⟩ ⟨by decide, by decide⟩ (by intro x hx; simp at hx; subst hx; exact ⟨by decide, by decide⟩) (by decide)
        (hm2.ne (t := 1) (u := 0) rfl rfl (by decide) (Or.inl rfl)) (hm2.ne (t := 2) (u := 0) rfl rfl (by decide) (Or.inl rfl)) (hm2.at (t := 2) rfl) (hm2.at (t := 1) rfl) (hm2.at (t := 0) rfl)).mono ?_
      rintro e w' ⟨r, rfl, h1, h2, h3⟩
      exact ⟨r, rfl, alive_store h1, hm2.upd1 (t := 0) rfl rfl h2 (wordsO r.2 []) h3⟩
    · refine ⟨by simp only [go_sem, Nat.zero_add, Nat.add_zero, Nat.zero_mul, Nat.reduceBEq, Nat.reduceAdd, Nat.reduceMul, Nat.reduceSub, Nat.reduceLT, Nat.reduceLeDiff, Nat.reduceEqDiff, Nat.reduceDiv, Nat.reduceMod, Int.reduceAdd, Int.reduceSub, Int.reduceMul, Int.reduceDiv, Int.reduceMod, Int.reduceLT, Int.reduceLE, Int.reduceEq, Int.reduceToNat, Int.reducePow, Int.reduceNeg, ne_eq, not_false_eq_true, not_true_eq_false, decide_true, decide_false, Bool.not_true, Bool.not_false, forall_const, reduceCtorEq, implies_true, beq_self_eq_true, Int.cast_ofNat_Int, reduceIte, if_true, if_false, Bool.false_eq_true, Try.ntmps6], ?_⟩
      rintro r rfl
      have hx2 : u32s [16909060, 0] := by intro x hx; simp at hx; rcases hx with rfl | rfl <;> exact ⟨by decide, by decide⟩
      have ld : ∀ (a sz : Int) (r0 : Int × Int), u32ok a → (∀ r, loadR 0 a sz [16909060, 0] r → r = r0) → ∀ w1, Mem E.W0 E.mods (aliveH b b_1 b_2 [16909060, 0] []) w1 →
          Calls Try.prog 8 #[.pointer (some ⟨b_2, 0, none⟩), .int .u32 a, .int .i64 sz] w1 fun e w' => e = .returned (den (.u [.v (.int .u32 r0.1), .v (.int .i64 r0.2)])) ∧ Below w1.heap.size w1 w' := by
        intro a sz r0 ha hr w1 hm1
        refine (load_C w1 b_2 1 b_1 0 a sz (.s 0 b 0 2 2) [16909060, 0] ⟨by decide, by decide⟩ ha hx2 (hm1.at (t := 2) rfl) (hm1.at (t := 1) rfl)
          (Or.inr ⟨0, b, 0, 2, _, 22, (0, 0), rfl, by decide, hm1.at (t := 0) rfl, Seg.own _ _ _⟩)).mono ?_
        rintro e w' ⟨r, rfl, h1, h2⟩
        rw [hr r h1]
        exact ⟨rfl, h2⟩
      simp only [go_sem, Nat.zero_add, Nat.add_zero, Nat.zero_mul, Nat.reduceBEq, Nat.reduceAdd, Nat.reduceMul, Nat.reduceSub, Nat.reduceLT, Nat.reduceLeDiff, Nat.reduceEqDiff, Nat.reduceDiv, Nat.reduceMod, Int.reduceAdd, Int.reduceSub, Int.reduceMul, Int.reduceDiv, Int.reduceMod, Int.reduceLT, Int.reduceLE, Int.reduceEq, Int.reduceToNat, Int.reducePow, Int.reduceNeg, ne_eq, not_false_eq_true, not_true_eq_false, decide_true, decide_false, Bool.not_true, Bool.not_false, forall_const, reduceCtorEq, implies_true, beq_self_eq_true, Int.cast_ofNat_Int, reduceIte, if_true, if_false, Bool.false_eq_true, aliveH, Try.ntmps6, fin_ret hE, Try.results6]
      refine CallC.pur (.u [.v (.int .u32 3), .v (.int .i64 0)]) 400 (fun w1 hm1 => ld 1 1 (3, 0) ⟨by decide, by decide⟩ (fun r h => alive_load1 h) w1 hm1) ?_
      simp only [go_sem, Nat.zero_add, Nat.add_zero, Nat.zero_mul, Nat.reduceBEq, Nat.reduceAdd, Nat.reduceMul, Nat.reduceSub, Nat.reduceLT, Nat.reduceLeDiff, Nat.reduceEqDiff, Nat.reduceDiv, Nat.reduceMod, Int.reduceAdd, Int.reduceSub, Int.reduceMul, Int.reduceDiv, Int.reduceMod, Int.reduceLT, Int.reduceLE, Int.reduceEq, Int.reduceToNat, Int.reducePow, Int.reduceNeg, ne_eq, not_false_eq_true, not_true_eq_false, decide_true, decide_false, Bool.not_true, Bool.not_false, forall_const, reduceCtorEq, implies_true, beq_self_eq_true, Int.cast_ofNat_Int, reduceIte, if_true, if_false, Bool.false_eq_true, aliveH, Try.ntmps6, fin_ret hE, Try.results6]
      refine CallC.pur (.u [.v (.int .u32 0), .v (.int .i64 1)]) 400 (fun w1 hm1 => ld 1 2 (0, 1) ⟨by decide, by decide⟩ (fun r h => alive_load2 h) w1 hm1) ?_
      simp only [go_sem, Nat.zero_add, Nat.add_zero, Nat.zero_mul, Nat.reduceBEq, Nat.reduceAdd, Nat.reduceMul, Nat.reduceSub, Nat.reduceLT, Nat.reduceLeDiff, Nat.reduceEqDiff, Nat.reduceDiv, Nat.reduceMod, Int.reduceAdd, Int.reduceSub, Int.reduceMul, Int.reduceDiv, Int.reduceMod, Int.reduceLT, Int.reduceLE, Int.reduceEq, Int.reduceToNat, Int.reducePow, Int.reduceNeg, ne_eq, not_false_eq_true, not_true_eq_false, decide_true, decide_false, Bool.not_true, Bool.not_false, forall_const, reduceCtorEq, implies_true, beq_self_eq_true, Int.cast_ofNat_Int, reduceIte, if_true, if_false, Bool.false_eq_true, aliveH, Try.ntmps6, fin_ret hE, Try.results6]
      refine CallC.pur (.u [.v (.int .u32 0), .v (.int .i64 2)]) 400 (fun w1 hm1 => ld 8 4 (0, 2) ⟨by decide, by decide⟩ (fun r h => alive_load3 h) w1 hm1) ?_
      simp only [go_sem, Nat.zero_add, Nat.add_zero, Nat.zero_mul, Nat.reduceBEq, Nat.reduceAdd, Nat.reduceMul, Nat.reduceSub, Nat.reduceLT, Nat.reduceLeDiff, Nat.reduceEqDiff, Nat.reduceDiv, Nat.reduceMod, Int.reduceAdd, Int.reduceSub, Int.reduceMul, Int.reduceDiv, Int.reduceMod, Int.reduceLT, Int.reduceLE, Int.reduceEq, Int.reduceToNat, Int.reducePow, Int.reduceNeg, ne_eq, not_false_eq_true, not_true_eq_false, decide_true, decide_false, Bool.not_true, Bool.not_false, forall_const, reduceCtorEq, implies_true, beq_self_eq_true, Int.cast_ofNat_Int, reduceIte, if_true, if_false, Bool.false_eq_true, aliveH, Try.ntmps6, fin_ret hE, Try.results6]
      refine CallC.pur (.u [.v (.int .u32 16909060), .v (.bool true)]) 400 (fun w1 hm1 => ?_) ?_
      · have hm2 : Mem E.W0 E.mods (aliveH b b_1 b_2 [16909060, 0] []) w1 := hm1
        refine (busWord_C w1 b_2 1 b_1 0 0 (.s 0 b 0 2 2) [16909060, 0] ⟨by decide, by decide⟩ ⟨by decide, by decide⟩ (hm2.at (t := 2) rfl) (hm2.at (t := 1) rfl)
          (Or.inr ⟨0, b, 0, 2, _, 22, (0, 0), rfl, by decide, hm2.at (t := 0) rfl, Seg.own _ _ _⟩)).mono ?_
        rintro e w' ⟨r, rfl, ⟨rfl, h1⟩ | ⟨rfl, h1⟩, h2⟩
        · exact ⟨rfl, h2⟩
        · exact absurd (by unfold inR; decide) h1
      simp only [go_sem, Nat.zero_add, Nat.add_zero, Nat.zero_mul, Nat.reduceBEq, Nat.reduceAdd, Nat.reduceMul, Nat.reduceSub, Nat.reduceLT, Nat.reduceLeDiff, Nat.reduceEqDiff, Nat.reduceDiv, Nat.reduceMod, Int.reduceAdd, Int.reduceSub, Int.reduceMul, Int.reduceDiv, Int.reduceMod, Int.reduceLT, Int.reduceLE, Int.reduceEq, Int.reduceToNat, Int.reducePow, Int.reduceNeg, ne_eq, not_false_eq_true, not_true_eq_false, decide_true, decide_false, Bool.not_true, Bool.not_false, forall_const, reduceCtorEq, implies_true, beq_self_eq_true, Int.cast_ofNat_Int, reduceIte, if_true, if_false, Bool.false_eq_true, aliveH, Try.ntmps6, fin_ret hE, Try.results6]
      refine CallC.mut (γ := Bool × List Int) (fun r => .v (.bool r.1)) (fun r => aliveH b b_1 b_2 r.2 []) (fun r => r.1 = true) 400 (fun w1 hm1 => ?_) ?_
      · have hm2 : Mem E.W0 E.mods (aliveH b b_1 b_2 [16909060, 0] []) w1 := hm1
        refine (busPut_cons w1 b_2 1 b_1 b 2 0 4 7 [16909060, 0] [] ⟨by decide, by decide⟩ ⟨by decide, by decide⟩ (by decide) (hm2.ne (t := 1) (u := 0) rfl rfl (by decide) (Or.inl rfl)) (hm2.ne (t := 2) (u := 0) rfl rfl (by decide) (Or.inl rfl))
          (hm2.at (t := 2) rfl) (hm2.at (t := 1) rfl) (hm2.at (t := 0) rfl)).mono ?_
        rintro e w' ⟨r, rfl, ⟨rfl, h1⟩ | ⟨rfl, h1⟩, h2, h3⟩
        · exact ⟨_, rfl, rfl, hm2.upd1 (t := 0) rfl rfl h2 (wordsO _ []) h3⟩
        · exact absurd (by unfold inR; decide) h1
      refine ⟨by simp only [go_sem, Nat.zero_add, Nat.add_zero, Nat.zero_mul, Nat.reduceBEq, Nat.reduceAdd, Nat.reduceMul, Nat.reduceSub, Nat.reduceLT, Nat.reduceLeDiff, Nat.reduceEqDiff, Nat.reduceDiv, Nat.reduceMod, Int.reduceAdd, Int.reduceSub, Int.reduceMul, Int.reduceDiv, Int.reduceMod, Int.reduceLT, Int.reduceLE, Int.reduceEq, Int.reduceToNat, Int.reducePow, Int.reduceNeg, ne_eq, not_false_eq_true, not_true_eq_false, decide_true, decide_false, Bool.not_true, Bool.not_false, forall_const, reduceCtorEq, implies_true, beq_self_eq_true, Int.cast_ofNat_Int, reduceIte, if_true, if_false, Bool.false_eq_true, Try.ntmps6], ?_⟩
      rintro ⟨r1, r2⟩ hr
      obtain rfl : r1 = true := hr
      simp only [go_sem, Nat.zero_add, Nat.add_zero, Nat.zero_mul, Nat.reduceBEq, Nat.reduceAdd, Nat.reduceMul, Nat.reduceSub, Nat.reduceLT, Nat.reduceLeDiff, Nat.reduceEqDiff, Nat.reduceDiv, Nat.reduceMod, Int.reduceAdd, Int.reduceSub, Int.reduceMul, Int.reduceDiv, Int.reduceMod, Int.reduceLT, Int.reduceLE, Int.reduceEq, Int.reduceToNat, Int.reducePow, Int.reduceNeg, ne_eq, not_false_eq_true, not_true_eq_false, decide_true, decide_false, Bool.not_true, Bool.not_false, forall_const, reduceCtorEq, implies_true, beq_self_eq_true, Int.cast_ofNat_Int, reduceIte, if_true, if_false, Bool.false_eq_true, aliveH, Try.ntmps6, fin_ret hE, Try.results6]
      intro b_3
      refine CallC.mut (γ := SV) (fun _ => .v (.bool true)) (fun sl => [⟨3, b_3, true, .c [.v (.slice none 0 0), .v (.int .u32 0)] 52⟩, ⟨2, b_2, true, .c [.p 1 b_1 0, sl] 55⟩, ⟨1, b_1, true, ramO 0 (.s 0 b 0 2 2)⟩, ⟨0, b, true, wordsO r2 []⟩]) (fun _ => True) 400 (fun w1 hm1 => ?_) ?_
      · have hm2 : Mem E.W0 E.mods (⟨3, b_3, true, .c [.v (.slice none 0 0), .v (.int .u32 0)] 52⟩ :: aliveH b b_1 b_2 r2 []) w1 := hm1
        refine (add_one w1 b_2 1 b_1 b 50 b_3 (hm2.ne (t := 1) (u := 2) rfl rfl (by decide) (Or.inl rfl)) (hm2.at (t := 2) rfl) (hm2.at (t := 1) rfl)).mono ?_
        rintro e w' ⟨sl, rfl, h2, h3⟩
        exact ⟨sl, rfl, trivial, hm2.upd1 (t := 2) rfl rfl h2 (.c [.p 1 b_1 0, sl] 55) h3⟩
      refine ⟨by simp only [go_sem, Nat.zero_add, Nat.add_zero, Nat.zero_mul, Nat.reduceBEq, Nat.reduceAdd, Nat.reduceMul, Nat.reduceSub, Nat.reduceLT, Nat.reduceLeDiff, Nat.reduceEqDiff, Nat.reduceDiv, Nat.reduceMod, Int.reduceAdd, Int.reduceSub, Int.reduceMul, Int.reduceDiv, Int.reduceMod, Int.reduceLT, Int.reduceLE, Int.reduceEq, Int.reduceToNat, Int.reducePow, Int.reduceNeg, ne_eq, not_false_eq_true, not_true_eq_false, decide_true, decide_false, Bool.not_true, Bool.not_false, forall_const, reduceCtorEq, implies_true, beq_self_eq_true, Int.cast_ofNat_Int, reduceIte, if_true, if_false, Bool.false_eq_true, Try.ntmps6], ?_⟩
      intro sl _
      simp only [go_sem, Nat.zero_add, Nat.add_zero, Nat.zero_mul, Nat.reduceBEq, Nat.reduceAdd, Nat.reduceMul, Nat.reduceSub, Nat.reduceLT, Nat.reduceLeDiff, Nat.reduceEqDiff, Nat.reduceDiv, Nat.reduceMod, Int.reduceAdd, Int.reduceSub, Int.reduceMul, Int.reduceDiv, Int.reduceMod, Int.reduceLT, Int.reduceLE, Int.reduceEq, Int.reduceToNat, Int.reducePow, Int.reduceNeg, ne_eq, not_false_eq_true, not_true_eq_false, decide_true, decide_false, Bool.not_true, Bool.not_false, forall_const, reduceCtorEq, implies_true, beq_self_eq_true, Int.cast_ofNat_Int, reduceIte, if_true, if_false, Bool.false_eq_true, aliveH, Try.ntmps6, fin_ret hE, Try.results6]
      intro b_4
      refine CallC.pur (.v (.bool false)) 400 (fun w1 hm1 => ?_) ?_
      · exact add_two w1 b_2 b_1 b 50 b_4 sl (hm1.at (t := 2) rfl) (hm1.at (t := 1) rfl)
      simp only [go_sem, Nat.zero_add, Nat.add_zero, Nat.zero_mul, Nat.reduceBEq, Nat.reduceAdd, Nat.reduceMul, Nat.reduceSub, Nat.reduceLT, Nat.reduceLeDiff, Nat.reduceEqDiff, Nat.reduceDiv, Nat.reduceMod, Int.reduceAdd, Int.reduceSub, Int.reduceMul, Int.reduceDiv, Int.reduceMod, Int.reduceLT, Int.reduceLE, Int.reduceEq, Int.reduceToNat, Int.reducePow, Int.reduceNeg, ne_eq, not_false_eq_true, not_true_eq_false, decide_true, decide_false, Bool.not_true, Bool.not_false, forall_const, reduceCtorEq, implies_true, beq_self_eq_true, Int.cast_ofNat_Int, reduceIte, if_true, if_false, Bool.false_eq_true, aliveH, Try.ntmps6, fin_ret hE, Try.results6]
      exact fun w' hm' => ⟨rfl, hm'.below⟩

end Go.Proofs
