/- Contracts of what stores into a memory. -/
import Derived.Test.YtmmjmgnbffameaaDyB2
set_option linter.unusedSimpArgs false
set_option linter.unusedVariables false
set_option maxRecDepth 100000
namespace Go.Proofs
open Go.Dx Go.RowKit

/-- The block of the words of a memory of one's own. -/
def wordsO (xs : List Int) (j : List SV) : HObj := .a (nums .u32 xs ++ j) 22

theorem putw_nil (w : World) (br : Nat) (base a v : Int) (hb : u32ok base) (ha : u32ok a) (hg : w.heap[br]? = some (denO (ramO base (.v (.slice none 0 0))))) :
    Calls Try.prog 23 #[.pointer (some ⟨br, 0, none⟩), .int .u32 a, .int .u32 v] w fun e w' => e = .returned (.bool false) ∧ Below w.heap.size w w' := by
  have hm : Mem w [] [⟨0, br, false, ramO base (.v (.slice none 0 0))⟩] w := Mem.reads (by simpa using hg) (by simp)
  refine calls_of_ex [.p 0 br 0, .v (.int .u32 a), .v (.int .u32 v)] _ [] 2 400 Try.func23 rfl hm (by simp [Try.ntmps23]) fun E hE => ?_
  simp only [go_sem, Nat.zero_add, Nat.add_zero, Nat.zero_mul, Nat.reduceBEq, Nat.reduceAdd, Nat.reduceMul, Nat.reduceSub, Nat.reduceLT, Nat.reduceLeDiff, Nat.reduceEqDiff, Nat.reduceDiv, Nat.reduceMod, Int.reduceAdd, Int.reduceSub, Int.reduceMul, Int.reduceDiv, Int.reduceMod, Int.reduceLT, Int.reduceLE, Int.reduceEq, Int.reduceToNat, Int.reducePow, Int.reduceNeg, ne_eq, not_false_eq_true, not_true_eq_false, decide_true, decide_false, Bool.not_true, Bool.not_false, forall_const, reduceCtorEq, implies_true, beq_self_eq_true, Int.cast_ofNat_Int, reduceIte, if_true, if_false, Bool.false_eq_true, ramO, Try.ntmps23, fin_ret hE, Try.results23]
  refine CallC.pur (.u [.v (.pointer none), .v (.bool false)]) 400 (fun w1 hm1 => ?_) ?_
  · subst hE
    exact place_nil w1 br base a hb ha (hm1.at (t := 0) rfl)
  · simp only [go_sem, Nat.zero_add, Nat.add_zero, Nat.zero_mul, Nat.reduceBEq, Nat.reduceAdd, Nat.reduceMul, Nat.reduceSub, Nat.reduceLT, Nat.reduceLeDiff, Nat.reduceEqDiff, Nat.reduceDiv, Nat.reduceMod, Int.reduceAdd, Int.reduceSub, Int.reduceMul, Int.reduceDiv, Int.reduceMod, Int.reduceLT, Int.reduceLE, Int.reduceEq, Int.reduceToNat, Int.reducePow, Int.reduceNeg, ne_eq, not_false_eq_true, not_true_eq_false, decide_true, decide_false, Bool.not_true, Bool.not_false, forall_const, reduceCtorEq, implies_true, beq_self_eq_true, Int.cast_ofNat_Int, reduceIte, if_true, if_false, Bool.false_eq_true, ramO, Try.ntmps23, fin_ret hE, Try.results23]
    exact fun w' hm' => ⟨rfl, hm'.below⟩

theorem putw_cons (w : World) (br bw c : Nat) (base a v : Int) (xs : List Int) (j : List SV) (hb : u32ok base) (ha : u32ok a) (hne : br ≠ bw) (hn : xs.length ≤ 9223372036854775807)
    (hg : w.heap[br]? = some (denO (ramO base (.s 1 bw 0 xs.length c)))) (hgw : w.heap[bw]? = some (denO (wordsO xs j))) :
    Calls Try.prog 23 #[.pointer (some ⟨br, 0, none⟩), .int .u32 a, .int .u32 v] w fun e w' => ∃ r : Bool × List Int, e = .returned (.bool r.1) ∧
      (r = (true, xs.set ((a - base) / 4).toNat v) ∧ inR base a xs.length ∨ r = (false, xs) ∧ ¬ inR base a xs.length) ∧ Tch w w' [bw] ∧ w'.heap[bw]? = some (denO (wordsO r.2 j)) := by
  have hm : Mem w [bw] [⟨0, br, false, ramO base (.s 1 bw 0 xs.length c)⟩, ⟨1, bw, true, wordsO xs j⟩] w := Mem.refl _ _ _ (by simpa using ⟨hg, hgw⟩) (by simp) (by simpa using hne)
  refine calls_of_ex [.p 0 br 0, .v (.int .u32 a), .v (.int .u32 v)] _ [bw] 2 400 Try.func23 rfl hm (by simp [Try.ntmps23]) fun E hE => ?_
  simp only [go_sem, Nat.zero_add, Nat.add_zero, Nat.zero_mul, Nat.reduceBEq, Nat.reduceAdd, Nat.reduceMul, Nat.reduceSub, Nat.reduceLT, Nat.reduceLeDiff, Nat.reduceEqDiff, Nat.reduceDiv, Nat.reduceMod, Int.reduceAdd, Int.reduceSub, Int.reduceMul, Int.reduceDiv, Int.reduceMod, Int.reduceLT, Int.reduceLE, Int.reduceEq, Int.reduceToNat, Int.reducePow, Int.reduceNeg, ne_eq, not_false_eq_true, not_true_eq_false, decide_true, decide_false, Bool.not_true, Bool.not_false, forall_const, reduceCtorEq, implies_true, beq_self_eq_true, Int.cast_ofNat_Int, reduceIte, if_true, if_false, Bool.false_eq_true, ramO, wordsO, Try.ntmps23, fin_ret hE, Try.results23]
  refine CallC.val (γ := Bool × Nat) (fun r => .u [if r.1 then .p 1 bw (0 + r.2) else .v (.pointer none), .v (.bool r.1)]) (fun r => r = (true, ((a - base) / 4).toNat) ∧ inR base a xs.length ∨ r = (false, 0) ∧ ¬ inR base a xs.length) 400 (fun w1 hm1 => ?_) ?_
  · subst hE
    exact place_cons w1 br 1 bw 0 xs.length c base a hb ha hn (hm1.at (t := 0) rfl)
  · refine ⟨by simp only [go_sem, Nat.zero_add, Nat.add_zero, Nat.zero_mul, Nat.reduceBEq, Nat.reduceAdd, Nat.reduceMul, Nat.reduceSub, Nat.reduceLT, Nat.reduceLeDiff, Nat.reduceEqDiff, Nat.reduceDiv, Nat.reduceMod, Int.reduceAdd, Int.reduceSub, Int.reduceMul, Int.reduceDiv, Int.reduceMod, Int.reduceLT, Int.reduceLE, Int.reduceEq, Int.reduceToNat, Int.reducePow, Int.reduceNeg, ne_eq, not_false_eq_true, not_true_eq_false, decide_true, decide_false, Bool.not_true, Bool.not_false, forall_const, reduceCtorEq, implies_true, beq_self_eq_true, Int.cast_ofNat_Int, reduceIte, if_true, if_false, Bool.false_eq_true, Try.ntmps23], ?_⟩
    rintro r (⟨rfl, hr⟩ | ⟨rfl, hr⟩)
    · have hlt : ((a - base) / 4).toNat < xs.length := by unfold inR at hr; omega
      simp only [go_sem, Nat.zero_add, Nat.add_zero, Nat.zero_mul, Nat.reduceBEq, Nat.reduceAdd, Nat.reduceMul, Nat.reduceSub, Nat.reduceLT, Nat.reduceLeDiff, Nat.reduceEqDiff, Nat.reduceDiv, Nat.reduceMod, Int.reduceAdd, Int.reduceSub, Int.reduceMul, Int.reduceDiv, Int.reduceMod, Int.reduceLT, Int.reduceLE, Int.reduceEq, Int.reduceToNat, Int.reducePow, Int.reduceNeg, ne_eq, not_false_eq_true, not_true_eq_false, decide_true, decide_false, Bool.not_true, Bool.not_false, forall_const, reduceCtorEq, implies_true, beq_self_eq_true, Int.cast_ofNat_Int, reduceIte, if_true, if_false, Bool.false_eq_true, ramO, wordsO, Try.ntmps23, fin_ret hE, Try.results23, stN_nums _ _ _ _ _ hlt]
      refine ⟨by simp; omega, fun w' hm' => ⟨(true, _), rfl, Or.inl ⟨rfl, hr⟩, Tch.of hm', hm'.at (t := 1) rfl⟩⟩
    · simp only [go_sem, Nat.zero_add, Nat.add_zero, Nat.zero_mul, Nat.reduceBEq, Nat.reduceAdd, Nat.reduceMul, Nat.reduceSub, Nat.reduceLT, Nat.reduceLeDiff, Nat.reduceEqDiff, Nat.reduceDiv, Nat.reduceMod, Int.reduceAdd, Int.reduceSub, Int.reduceMul, Int.reduceDiv, Int.reduceMod, Int.reduceLT, Int.reduceLE, Int.reduceEq, Int.reduceToNat, Int.reducePow, Int.reduceNeg, ne_eq, not_false_eq_true, not_true_eq_false, decide_true, decide_false, Bool.not_true, Bool.not_false, forall_const, reduceCtorEq, implies_true, beq_self_eq_true, Int.cast_ofNat_Int, reduceIte, if_true, if_false, Bool.false_eq_true, ramO, wordsO, Try.ntmps23, fin_ret hE, Try.results23]
      exact fun w' hm' => ⟨(false, xs), rfl, Or.inr ⟨rfl, hr⟩, Tch.of hm', hm'.at (t := 1) rfl⟩

/-- What a store tells, and what the words are behind it. -/
def storeR (base a sz v : Int) (xs : List Int) (r : Int × List Int) : Prop :=
  (wrongSz a sz ≠ 0 ∧ r = (wrongSz a sz, xs)) ∨
  (wrongSz a sz = 0 ∧ ¬ inR base (a - a % 4) xs.length ∧ r = (2, xs)) ∨
  (wrongSz a sz = 0 ∧ inR base (a - a % 4) xs.length ∧ r = (0, xs.set ((a - a % 4 - base) / 4).toNat (putN (wordR base (a - a % 4) xs).toNat (a % 4 * 8).toNat (sz * 8).toNat v.toNat : Int)))

theorem WordsR.own {w : World} {bw c : Nat} {xs : List Int} {j : List SV} (hn : xs.length ≤ 9223372036854775807) (hg : w.heap[bw]? = some (denO (wordsO xs j))) : WordsR w (.s 1 bw 0 xs.length c) xs :=
  Or.inr ⟨1, bw, 0, c, nums .u32 xs ++ j, 22, (0, 0), rfl, hn, hg, Seg.own _ _ _⟩

theorem store_cons (w : World) (bb t br bw c : Nat) (base a sz v : Int) (xs : List Int) (j : List SV) (hb : u32ok base) (ha : u32ok a) (hv : u32ok v) (hxs : u32s xs) (hn : xs.length ≤ 9223372036854775807)
    (hne : br ≠ bw) (hne2 : bb ≠ bw)
    (hgb : w.heap[bb]? = some (denO (busO (.p t br 0)))) (hg : w.heap[br]? = some (denO (ramO base (.s 1 bw 0 xs.length c)))) (hgw : w.heap[bw]? = some (denO (wordsO xs j))) :
    Calls Try.prog 10 #[.pointer (some ⟨bb, 0, none⟩), .int .u32 a, .int .i64 sz, .int .u32 v] w fun e w' =>
      ∃ r : Int × List Int, e = .returned (.int .i64 r.1) ∧ storeR base a sz v xs r ∧ Tch w w' [bw] ∧ w'.heap[bw]? = some (denO (wordsO r.2 j)) := by
  have hm : Mem w [bw] [⟨0, bb, false, busO (.p 1 br 0)⟩, ⟨1, br, false, ramO base (.s 2 bw 0 xs.length c)⟩, ⟨2, bw, true, wordsO xs j⟩] w := Mem.refl _ _ _ (by simpa using ⟨hgb, hg, hgw⟩) (by simp) (by simpa using ⟨hne2, hne⟩)
  have ha' := ha
  unfold u32ok at ha'
  have ha4 : u32ok (a - a % 4) := ⟨by omega, by omega⟩
  refine calls_of_ex [.p 0 bb 0, .v (.int .u32 a), .v (.int .i64 sz), .v (.int .u32 v)] _ [bw] 3 300 Try.func10 rfl hm (by simp [Try.ntmps10]) fun E hE => ?_
  simp only [go_sem, Nat.zero_add, Nat.add_zero, Nat.zero_mul, Nat.reduceBEq, Nat.reduceAdd, Nat.reduceMul, Nat.reduceSub, Nat.reduceLT, Nat.reduceLeDiff, Nat.reduceEqDiff, Nat.reduceDiv, Nat.reduceMod, Int.reduceAdd, Int.reduceSub, Int.reduceMul, Int.reduceDiv, Int.reduceMod, Int.reduceLT, Int.reduceLE, Int.reduceEq, Int.reduceToNat, Int.reducePow, Int.reduceNeg, ne_eq, not_false_eq_true, not_true_eq_false, decide_true, decide_false, Bool.not_true, Bool.not_false, forall_const, reduceCtorEq, implies_true, beq_self_eq_true, Int.cast_ofNat_Int, reduceIte, if_true, if_false, Bool.false_eq_true, busO, wordsO, Try.ntmps10, fin_ret hE, Try.results10]
  refine CallC.pur (.v (.int .i64 (wrongSz a sz))) 300 (fun w1 hm1 => ?_) ?_
  · subst hE
    exact check_C w1 bb br a sz ha (hm1.at (t := 0) rfl)
  · simp only [go_sem, Nat.zero_add, Nat.add_zero, Nat.zero_mul, Nat.reduceBEq, Nat.reduceAdd, Nat.reduceMul, Nat.reduceSub, Nat.reduceLT, Nat.reduceLeDiff, Nat.reduceEqDiff, Nat.reduceDiv, Nat.reduceMod, Int.reduceAdd, Int.reduceSub, Int.reduceMul, Int.reduceDiv, Int.reduceMod, Int.reduceLT, Int.reduceLE, Int.reduceEq, Int.reduceToNat, Int.reducePow, Int.reduceNeg, ne_eq, not_false_eq_true, not_true_eq_false, decide_true, decide_false, Bool.not_true, Bool.not_false, forall_const, reduceCtorEq, implies_true, beq_self_eq_true, Int.cast_ofNat_Int, reduceIte, if_true, if_false, Bool.false_eq_true, busO, ramO, wordsO, Try.ntmps10, fin_ret hE, Try.results10, iandn3 a ha'.1]
    refine ⟨fun h0 => ⟨by omega, ?_⟩, fun h0 w' hm' => ⟨(wrongSz a sz, xs), rfl, Or.inl ⟨h0, rfl⟩, Tch.of hm', hm'.at (t := 2) rfl⟩⟩
    have hsz : sz = 1 ∨ sz = 2 ∨ sz = 4 := by
      unfold wrongSz at h0
      split at h0
      · assumption
      · omega
    have hal : a % 4 * 8 + sz * 8 ≤ 32 := by
      unfold wrongSz at h0
      rcases hsz with rfl | rfl | rfl <;> simp at h0 <;> omega
    refine CallC.val (γ := Int × Bool) (fun r => .u [.v (.int .u32 r.1), .v (.bool r.2)]) (fun r => r = (wordR base (a - a % 4) xs, true) ∧ inR base (a - a % 4) xs.length ∨ r = (0, false) ∧ ¬ inR base (a - a % 4) xs.length) 300 (fun w1 hm1 => ?_) ?_
    · subst hE
      exact word_C w1 br base (a - a % 4) (.s 1 bw 0 xs.length c) xs hb ha4 (hm1.at (t := 1) rfl) (WordsR.own hn (hm1.at (t := 2) rfl))
    · refine ⟨by simp only [go_sem, Nat.zero_add, Nat.add_zero, Nat.zero_mul, Nat.reduceBEq, Nat.reduceAdd, Nat.reduceMul, Nat.reduceSub, Nat.reduceLT, Nat.reduceLeDiff, Nat.reduceEqDiff, Nat.reduceDiv, Nat.reduceMod, Int.reduceAdd, Int.reduceSub, Int.reduceMul, Int.reduceDiv, Int.reduceMod, Int.reduceLT, Int.reduceLE, Int.reduceEq, Int.reduceToNat, Int.reducePow, Int.reduceNeg, ne_eq, not_false_eq_true, not_true_eq_false, decide_true, decide_false, Bool.not_true, Bool.not_false, forall_const, reduceCtorEq, implies_true, beq_self_eq_true, Int.cast_ofNat_Int, reduceIte, if_true, if_false, Bool.false_eq_true, Try.ntmps10], ?_⟩
      rintro r (⟨rfl, hr⟩ | ⟨rfl, hr⟩)
      · simp only [go_sem, Nat.zero_add, Nat.add_zero, Nat.zero_mul, Nat.reduceBEq, Nat.reduceAdd, Nat.reduceMul, Nat.reduceSub, Nat.reduceLT, Nat.reduceLeDiff, Nat.reduceEqDiff, Nat.reduceDiv, Nat.reduceMod, Int.reduceAdd, Int.reduceSub, Int.reduceMul, Int.reduceDiv, Int.reduceMod, Int.reduceLT, Int.reduceLE, Int.reduceEq, Int.reduceToNat, Int.reducePow, Int.reduceNeg, ne_eq, not_false_eq_true, not_true_eq_false, decide_true, decide_false, Bool.not_true, Bool.not_false, forall_const, reduceCtorEq, implies_true, beq_self_eq_true, Int.cast_ofNat_Int, reduceIte, if_true, if_false, Bool.false_eq_true, busO, ramO, wordsO, Try.ntmps10, fin_ret hE, Try.results10, iand3 a ha'.1]
        refine CodeC.lexb [15] 300 Try.follows_mixed (by kernel_rfl) ?_
        simp only [go_sem, Nat.zero_add, Nat.add_zero, Nat.zero_mul, Nat.reduceBEq, Nat.reduceAdd, Nat.reduceMul, Nat.reduceSub, Nat.reduceLT, Nat.reduceLeDiff, Nat.reduceEqDiff, Nat.reduceDiv, Nat.reduceMod, Int.reduceAdd, Int.reduceSub, Int.reduceMul, Int.reduceDiv, Int.reduceMod, Int.reduceLT, Int.reduceLE, Int.reduceEq, Int.reduceToNat, Int.reducePow, Int.reduceNeg, ne_eq, not_false_eq_true, not_true_eq_false, decide_true, decide_false, Bool.not_true, Bool.not_false, forall_const, reduceCtorEq, implies_true, beq_self_eq_true, Int.cast_ofNat_Int, reduceIte, if_true, if_false, Bool.false_eq_true, busO, ramO, wordsO, Try.ntmps10, fin_ret hE, Try.results10, iand3 a ha'.1, iandn3 a ha'.1]
        refine ⟨by omega, by omega, by omega, by omega, by omega, ?_⟩
        have hx := hxs.get ((a - a % 4 - base) / 4).toNat
        have hv' := hv
        unfold u32ok at hv' hx
        have e1 : wordR base (a - a % 4) xs = ((wordR base (a - a % 4) xs).toNat : Int) := by unfold wordR; omega
        have e2 : a % 4 * 8 = ((a % 4 * 8).toNat : Int) := by omega
        have e3 : sz * 8 = ((sz * 8).toNat : Int) := by omega
        have e4 : v = (v.toNat : Int) := by omega
        have hlt : ((a - a % 4 - base) / 4).toNat < xs.length := by unfold inR at hr; omega
        refine CallD.pur (.v (.int .u32 (putN (wordR base (a - a % 4) xs).toNat (a % 4 * 8).toNat (sz * 8).toNat v.toNat : Int))) rfl (fun w1 hm1 => ?_) ?_
        · have := put_C w1 (wordR base (a - a % 4) xs).toNat (a % 4 * 8).toNat (sz * 8).toNat v.toNat (by unfold wordR; omega) (by omega) (by omega)
          rw [← e1, ← e2, ← e3, ← e4] at this
          exact this
        · simp only [go_sem, Nat.zero_add, Nat.add_zero, Nat.zero_mul, Nat.reduceBEq, Nat.reduceAdd, Nat.reduceMul, Nat.reduceSub, Nat.reduceLT, Nat.reduceLeDiff, Nat.reduceEqDiff, Nat.reduceDiv, Nat.reduceMod, Int.reduceAdd, Int.reduceSub, Int.reduceMul, Int.reduceDiv, Int.reduceMod, Int.reduceLT, Int.reduceLE, Int.reduceEq, Int.reduceToNat, Int.reducePow, Int.reduceNeg, ne_eq, not_false_eq_true, not_true_eq_false, decide_true, decide_false, Bool.not_true, Bool.not_false, forall_const, reduceCtorEq, implies_true, beq_self_eq_true, Int.cast_ofNat_Int, reduceIte, if_true, if_false, Bool.false_eq_true, busO, ramO, wordsO, Try.ntmps10, fin_ret hE, Try.results10]
          refine CallD.mut (γ := Bool × List Int) (fun r => .v (.bool r.1)) (fun r => [⟨0, bb, false, busO (.p 1 br 0)⟩, ⟨1, br, false, ramO base (.s 2 bw 0 xs.length c)⟩, ⟨2, bw, true, wordsO r.2 j⟩])
            (fun r => r = (true, xs.set ((a - a % 4 - base) / 4).toNat (putN (wordR base (a - a % 4) xs).toNat (a % 4 * 8).toNat (sz * 8).toNat v.toNat : Int))) (fun w1 hm1 => ?_) ?_
          · refine (putw_cons w1 br bw c base (a - a % 4) _ xs j hb ha4 hne hn (hm1.at (t := 1) rfl) (hm1.at (t := 2) rfl)).mono ?_
            rintro e w' ⟨r, rfl, h1 | h1, h2, h3⟩
            · refine ⟨r, rfl, h1.1, ?_⟩
              exact hm1.upd1 (t := 2) rfl rfl h2 (wordsO r.2 j) h3
            · exact absurd hr h1.2
          · refine ⟨by simp only [go_sem, Nat.zero_add, Nat.add_zero, Nat.zero_mul, Nat.reduceBEq, Nat.reduceAdd, Nat.reduceMul, Nat.reduceSub, Nat.reduceLT, Nat.reduceLeDiff, Nat.reduceEqDiff, Nat.reduceDiv, Nat.reduceMod, Int.reduceAdd, Int.reduceSub, Int.reduceMul, Int.reduceDiv, Int.reduceMod, Int.reduceLT, Int.reduceLE, Int.reduceEq, Int.reduceToNat, Int.reducePow, Int.reduceNeg, ne_eq, not_false_eq_true, not_true_eq_false, decide_true, decide_false, Bool.not_true, Bool.not_false, forall_const, reduceCtorEq, implies_true, beq_self_eq_true, Int.cast_ofNat_Int, reduceIte, if_true, if_false, Bool.false_eq_true, Try.ntmps10], ?_⟩
            rintro r rfl
            simp only [go_sem, Nat.zero_add, Nat.add_zero, Nat.zero_mul, Nat.reduceBEq, Nat.reduceAdd, Nat.reduceMul, Nat.reduceSub, Nat.reduceLT, Nat.reduceLeDiff, Nat.reduceEqDiff, Nat.reduceDiv, Nat.reduceMod, Int.reduceAdd, Int.reduceSub, Int.reduceMul, Int.reduceDiv, Int.reduceMod, Int.reduceLT, Int.reduceLE, Int.reduceEq, Int.reduceToNat, Int.reducePow, Int.reduceNeg, ne_eq, not_false_eq_true, not_true_eq_false, decide_true, decide_false, Bool.not_true, Bool.not_false, forall_const, reduceCtorEq, implies_true, beq_self_eq_true, Int.cast_ofNat_Int, reduceIte, if_true, if_false, Bool.false_eq_true, busO, ramO, wordsO, Try.ntmps10, fin_ret hE, Try.results10]
            exact fun w' hm' => ⟨(0, _), rfl, Or.inr (Or.inr ⟨h0, hr, rfl⟩), Tch.of hm', hm'.at (t := 2) rfl⟩
      · simp only [go_sem, Nat.zero_add, Nat.add_zero, Nat.zero_mul, Nat.reduceBEq, Nat.reduceAdd, Nat.reduceMul, Nat.reduceSub, Nat.reduceLT, Nat.reduceLeDiff, Nat.reduceEqDiff, Nat.reduceDiv, Nat.reduceMod, Int.reduceAdd, Int.reduceSub, Int.reduceMul, Int.reduceDiv, Int.reduceMod, Int.reduceLT, Int.reduceLE, Int.reduceEq, Int.reduceToNat, Int.reducePow, Int.reduceNeg, ne_eq, not_false_eq_true, not_true_eq_false, decide_true, decide_false, Bool.not_true, Bool.not_false, forall_const, reduceCtorEq, implies_true, beq_self_eq_true, Int.cast_ofNat_Int, reduceIte, if_true, if_false, Bool.false_eq_true, busO, ramO, wordsO, Try.ntmps10, fin_ret hE, Try.results10]
        refine CallC.pur (.u [.v .nilIface, .v (.int .u32 0)]) 300 (fun w1 hm1 => ?_) ?_
        · subst hE
          exact find_C w1 bb (.p 1 br 0) a (hm1.at (t := 0) rfl)
        · simp only [go_sem, Nat.zero_add, Nat.add_zero, Nat.zero_mul, Nat.reduceBEq, Nat.reduceAdd, Nat.reduceMul, Nat.reduceSub, Nat.reduceLT, Nat.reduceLeDiff, Nat.reduceEqDiff, Nat.reduceDiv, Nat.reduceMod, Int.reduceAdd, Int.reduceSub, Int.reduceMul, Int.reduceDiv, Int.reduceMod, Int.reduceLT, Int.reduceLE, Int.reduceEq, Int.reduceToNat, Int.reducePow, Int.reduceNeg, ne_eq, not_false_eq_true, not_true_eq_false, decide_true, decide_false, Bool.not_true, Bool.not_false, forall_const, reduceCtorEq, implies_true, beq_self_eq_true, Int.cast_ofNat_Int, reduceIte, if_true, if_false, Bool.false_eq_true, busO, ramO, wordsO, Try.ntmps10, fin_ret hE, Try.results10]
          exact fun w' hm' => ⟨(2, xs), rfl, Or.inr (Or.inl ⟨h0, hr, rfl⟩), Tch.of hm', hm'.at (t := 2) rfl⟩

theorem store_nil (w : World) (bb t br : Nat) (base a sz v : Int) (hb : u32ok base) (ha : u32ok a)
    (hgb : w.heap[bb]? = some (denO (busO (.p t br 0)))) (hg : w.heap[br]? = some (denO (ramO base (.v (.slice none 0 0))))) :
    Calls Try.prog 10 #[.pointer (some ⟨bb, 0, none⟩), .int .u32 a, .int .i64 sz, .int .u32 v] w fun e w' =>
      ∃ r : Int × List Int, e = .returned (.int .i64 r.1) ∧ storeR base a sz v [] r ∧ r.2 = [] ∧ Below w.heap.size w w' := by
  have hm : Mem w [] [⟨0, bb, false, busO (.p 1 br 0)⟩, ⟨1, br, false, ramO base (.v (.slice none 0 0))⟩] w := Mem.reads (by simpa using ⟨hgb, hg⟩) (by simp)
  have hno : ¬ inR base (a - a % 4) 0 := by unfold inR; omega
  have ha' := ha
  unfold u32ok at ha'
  have ha4 : u32ok (a - a % 4) := ⟨by omega, by omega⟩
  refine calls_of_ex [.p 0 bb 0, .v (.int .u32 a), .v (.int .i64 sz), .v (.int .u32 v)] _ [] 3 300 Try.func10 rfl hm (by simp [Try.ntmps10]) fun E hE => ?_
  simp only [go_sem, Nat.zero_add, Nat.add_zero, Nat.zero_mul, Nat.reduceBEq, Nat.reduceAdd, Nat.reduceMul, Nat.reduceSub, Nat.reduceLT, Nat.reduceLeDiff, Nat.reduceEqDiff, Nat.reduceDiv, Nat.reduceMod, Int.reduceAdd, Int.reduceSub, Int.reduceMul, Int.reduceDiv, Int.reduceMod, Int.reduceLT, Int.reduceLE, Int.reduceEq, Int.reduceToNat, Int.reducePow, Int.reduceNeg, ne_eq, not_false_eq_true, not_true_eq_false, decide_true, decide_false, Bool.not_true, Bool.not_false, forall_const, reduceCtorEq, implies_true, beq_self_eq_true, Int.cast_ofNat_Int, reduceIte, if_true, if_false, Bool.false_eq_true, busO, Try.ntmps10, fin_ret hE, Try.results10]
  refine CallC.pur (.v (.int .i64 (wrongSz a sz))) 300 (fun w1 hm1 => ?_) ?_
  · subst hE
    exact check_C w1 bb br a sz ha (hm1.at (t := 0) rfl)
  · simp only [go_sem, Nat.zero_add, Nat.add_zero, Nat.zero_mul, Nat.reduceBEq, Nat.reduceAdd, Nat.reduceMul, Nat.reduceSub, Nat.reduceLT, Nat.reduceLeDiff, Nat.reduceEqDiff, Nat.reduceDiv, Nat.reduceMod, Int.reduceAdd, Int.reduceSub, Int.reduceMul, Int.reduceDiv, Int.reduceMod, Int.reduceLT, Int.reduceLE, Int.reduceEq, Int.reduceToNat, Int.reducePow, Int.reduceNeg, ne_eq, not_false_eq_true, not_true_eq_false, decide_true, decide_false, Bool.not_true, Bool.not_false, forall_const, reduceCtorEq, implies_true, beq_self_eq_true, Int.cast_ofNat_Int, reduceIte, if_true, if_false, Bool.false_eq_true, busO, ramO, Try.ntmps10, fin_ret hE, Try.results10, iandn3 a ha'.1]
    refine ⟨fun h0 => ⟨by omega, ?_⟩, fun h0 w' hm' => ⟨(wrongSz a sz, []), rfl, Or.inl ⟨h0, rfl⟩, rfl, hm'.below⟩⟩
    refine CallC.pur (.u [.v (.int .u32 0), .v (.bool false)]) 300 (fun w1 hm1 => ?_) ?_
    · subst hE
      refine (word_C w1 br base (a - a % 4) (.v (.slice none 0 0)) [] hb ha4 (hm1.at (t := 1) rfl) (Or.inl ⟨rfl, rfl⟩)).mono ?_
      rintro e w' ⟨r, rfl, ⟨rfl, h⟩ | ⟨rfl, h⟩, h2⟩
      · exact absurd h hno
      · exact ⟨rfl, h2⟩
    · simp only [go_sem, Nat.zero_add, Nat.add_zero, Nat.zero_mul, Nat.reduceBEq, Nat.reduceAdd, Nat.reduceMul, Nat.reduceSub, Nat.reduceLT, Nat.reduceLeDiff, Nat.reduceEqDiff, Nat.reduceDiv, Nat.reduceMod, Int.reduceAdd, Int.reduceSub, Int.reduceMul, Int.reduceDiv, Int.reduceMod, Int.reduceLT, Int.reduceLE, Int.reduceEq, Int.reduceToNat, Int.reducePow, Int.reduceNeg, ne_eq, not_false_eq_true, not_true_eq_false, decide_true, decide_false, Bool.not_true, Bool.not_false, forall_const, reduceCtorEq, implies_true, beq_self_eq_true, Int.cast_ofNat_Int, reduceIte, if_true, if_false, Bool.false_eq_true, busO, ramO, Try.ntmps10, fin_ret hE, Try.results10]
      refine CallC.pur (.u [.v .nilIface, .v (.int .u32 0)]) 300 (fun w1 hm1 => ?_) ?_
      · subst hE
        exact find_C w1 bb (.p 1 br 0) a (hm1.at (t := 0) rfl)
      · simp only [go_sem, Nat.zero_add, Nat.add_zero, Nat.zero_mul, Nat.reduceBEq, Nat.reduceAdd, Nat.reduceMul, Nat.reduceSub, Nat.reduceLT, Nat.reduceLeDiff, Nat.reduceEqDiff, Nat.reduceDiv, Nat.reduceMod, Int.reduceAdd, Int.reduceSub, Int.reduceMul, Int.reduceDiv, Int.reduceMod, Int.reduceLT, Int.reduceLE, Int.reduceEq, Int.reduceToNat, Int.reducePow, Int.reduceNeg, ne_eq, not_false_eq_true, not_true_eq_false, decide_true, decide_false, Bool.not_true, Bool.not_false, forall_const, reduceCtorEq, implies_true, beq_self_eq_true, Int.cast_ofNat_Int, reduceIte, if_true, if_false, Bool.false_eq_true, busO, ramO, Try.ntmps10, fin_ret hE, Try.results10]
        exact fun w' hm' => ⟨(2, []), rfl, Or.inr (Or.inl ⟨h0, hno, rfl⟩), rfl, hm'.below⟩

end Go.Proofs
