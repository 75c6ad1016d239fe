/- Contracts of the reference's store, and of the test whether two rows of words are alike. -/
import Derived.Test.YtmmjmgnbffameaaDyB6
set_option linter.unusedSimpArgs false
set_option linter.unusedVariables false
set_option maxRecDepth 100000
namespace Go.Proofs
open Go.Dx Go.RowKit

theorem rstore_C (w : World) (base a sz v : Int) (sl : SV) (xs : List Int) (hb : u32ok base) (ha : u32ok a) (hv : u32ok v) (hxs : u32s xs) (hn : xs.length ≤ 1000000) (hw : WordsR w sl xs) :
    Calls Try.prog 11 #[den (.g [.v (.int .u32 base), sl]), .int .u32 a, .int .i64 sz, .int .u32 v] w fun e w' => ∃ r : Int × List Int, storeR base a sz v xs r ∧
      ((r.2 = xs ∧ e = .returned (den (.u [.g [.v (.int .u32 base), sl], .v (.int .i64 r.1)]))) ∨
       ∃ b' c' j, inR base (a - a % 4) xs.length ∧ w.heap.size ≤ b' ∧ w'.heap[b']? = some (denO (wordsO r.2 j)) ∧ e = .returned (den (.u [.g [.v (.int .u32 base), .s 0 b' 0 r.2.length c'], .v (.int .i64 r.1)]))) ∧ Below w.heap.size w w' := by
  have hkn : kn sl = true ∧ one sl = true := by rcases hw with ⟨rfl, _⟩ | ⟨u, bw, o, c, l, T, fz, rfl, _⟩ <;> exact ⟨rfl, rfl⟩
  have ha' := ha
  unfold u32ok at ha'
  have hv' := hv
  unfold u32ok at hv'
  have hb' := hb
  unfold u32ok at hb'
  have wr : ∀ w1, Below w.heap.size w w1 → Calls Try.prog 20 #[den (.g [.v (.int .u32 base), sl]), .int .u32 a, .int .i64 sz] w1 fun e w' => ∃ i : Int, e = .returned (den (.v (.int .i64 i))) ∧
      (wrongSz a sz ≠ 0 ∧ i = wrongSz a sz ∨ wrongSz a sz = 0 ∧ inR base (a - a % 4) xs.length ∧ i = 0 ∨ wrongSz a sz = 0 ∧ ¬ inR base (a - a % 4) xs.length ∧ i = 2) ∧ Below w1.heap.size w1 w' := fun w1 h1 =>
    rwrong_C w1 base a sz sl xs hb ha hn (hw.kept h1)
  rcases hw with ⟨rfl, rfl⟩ | ⟨u, bw, o, c, l, T, fz, rfl, hn2, hgw, hseg⟩
  · have hm : Mem w [] [] w := Mem.reads (by simp) (by simp)
    refine calls_of_ex [.g [.v (.int .u32 base), .v (.slice none 0 0)], .v (.int .u32 a), .v (.int .i64 sz), .v (.int .u32 v)] _ [] 3 200 Try.func11 rfl hm (by simp [Try.ntmps11]) fun E hE => ?_
    simp only [go_sem, Nat.zero_add, Nat.add_zero, Nat.zero_mul, Nat.reduceBEq, Nat.reduceAdd, Nat.reduceMul, Nat.reduceSub, Nat.reduceLT, Nat.reduceLeDiff, Nat.reduceEqDiff, Nat.reduceDiv, Nat.reduceMod, Int.reduceAdd, Int.reduceSub, Int.reduceMul, Int.reduceDiv, Int.reduceMod, Int.reduceLT, Int.reduceLE, Int.reduceEq, Int.reduceToNat, Int.reducePow, Int.reduceNeg, ne_eq, not_false_eq_true, not_true_eq_false, decide_true, decide_false, Bool.not_true, Bool.not_false, forall_const, reduceCtorEq, implies_true, beq_self_eq_true, Int.cast_ofNat_Int, reduceIte, if_true, if_false, Bool.false_eq_true, Try.ntmps11, fin_ret hE, Try.results11]
    intro b b_1
    refine CallC.val (γ := Int) (fun i => .v (.int .i64 i)) (fun i => wrongSz a sz ≠ 0 ∧ i = wrongSz a sz ∨ wrongSz a sz = 0 ∧ i = 2) 200 (fun w1 hm1 => ?_) ?_
    · subst hE
      refine (wr w1 (bel1 hm1)).mono ?_
      rintro e w' ⟨i, rfl, h1 | ⟨_, h1, _⟩ | ⟨h1, _, h2⟩, h3⟩
      · exact ⟨i, rfl, Or.inl h1, h3⟩
      · exact absurd h1 (by unfold inR; simp; omega)
      · exact ⟨i, rfl, Or.inr ⟨h1, h2⟩, h3⟩
    · refine ⟨by simp only [go_sem, Nat.zero_add, Nat.add_zero, Nat.zero_mul, Nat.reduceBEq, Nat.reduceAdd, Nat.reduceMul, Nat.reduceSub, Nat.reduceLT, Nat.reduceLeDiff, Nat.reduceEqDiff, Nat.reduceDiv, Nat.reduceMod, Int.reduceAdd, Int.reduceSub, Int.reduceMul, Int.reduceDiv, Int.reduceMod, Int.reduceLT, Int.reduceLE, Int.reduceEq, Int.reduceToNat, Int.reducePow, Int.reduceNeg, ne_eq, not_false_eq_true, not_true_eq_false, decide_true, decide_false, Bool.not_true, Bool.not_false, forall_const, reduceCtorEq, implies_true, beq_self_eq_true, Int.cast_ofNat_Int, reduceIte, if_true, if_false, Bool.false_eq_true, Try.ntmps11], ?_⟩
      rintro i (⟨h0, rfl⟩ | ⟨h0, rfl⟩)
      · simp only [go_sem, Nat.zero_add, Nat.add_zero, Nat.zero_mul, Nat.reduceBEq, Nat.reduceAdd, Nat.reduceMul, Nat.reduceSub, Nat.reduceLT, Nat.reduceLeDiff, Nat.reduceEqDiff, Nat.reduceDiv, Nat.reduceMod, Int.reduceAdd, Int.reduceSub, Int.reduceMul, Int.reduceDiv, Int.reduceMod, Int.reduceLT, Int.reduceLE, Int.reduceEq, Int.reduceToNat, Int.reducePow, Int.reduceNeg, ne_eq, not_false_eq_true, not_true_eq_false, decide_true, decide_false, Bool.not_true, Bool.not_false, forall_const, reduceCtorEq, implies_true, beq_self_eq_true, Int.cast_ofNat_Int, reduceIte, if_true, if_false, Bool.false_eq_true, Try.ntmps11, fin_ret hE, Try.results11, h0]
        exact fun w' hm' => ⟨(_, []), Or.inl ⟨h0, rfl⟩, Or.inl ⟨rfl, rfl⟩, bel1 hm'⟩
      · simp only [go_sem, Nat.zero_add, Nat.add_zero, Nat.zero_mul, Nat.reduceBEq, Nat.reduceAdd, Nat.reduceMul, Nat.reduceSub, Nat.reduceLT, Nat.reduceLeDiff, Nat.reduceEqDiff, Nat.reduceDiv, Nat.reduceMod, Int.reduceAdd, Int.reduceSub, Int.reduceMul, Int.reduceDiv, Int.reduceMod, Int.reduceLT, Int.reduceLE, Int.reduceEq, Int.reduceToNat, Int.reducePow, Int.reduceNeg, ne_eq, not_false_eq_true, not_true_eq_false, decide_true, decide_false, Bool.not_true, Bool.not_false, forall_const, reduceCtorEq, implies_true, beq_self_eq_true, Int.cast_ofNat_Int, reduceIte, if_true, if_false, Bool.false_eq_true, Try.ntmps11, fin_ret hE, Try.results11]
        exact fun w' hm' => ⟨(_, []), Or.inr (Or.inl ⟨h0, by unfold inR; simp; omega, rfl⟩), Or.inl ⟨rfl, rfl⟩, bel1 hm'⟩
  · have hm : Mem w [] [⟨1, bw, false, .z l T fz⟩] w := Mem.reads (by simpa using hgw) (by simp)
    refine calls_of_ex [.g [.v (.int .u32 base), .s 1 bw o xs.length c], .v (.int .u32 a), .v (.int .i64 sz), .v (.int .u32 v)] _ [] 3 200 Try.func11 rfl hm (by simp [Try.ntmps11]) fun E hE => ?_
    simp only [go_sem, Nat.zero_add, Nat.add_zero, Nat.zero_mul, Nat.reduceBEq, Nat.reduceAdd, Nat.reduceMul, Nat.reduceSub, Nat.reduceLT, Nat.reduceLeDiff, Nat.reduceEqDiff, Nat.reduceDiv, Nat.reduceMod, Int.reduceAdd, Int.reduceSub, Int.reduceMul, Int.reduceDiv, Int.reduceMod, Int.reduceLT, Int.reduceLE, Int.reduceEq, Int.reduceToNat, Int.reducePow, Int.reduceNeg, ne_eq, not_false_eq_true, not_true_eq_false, decide_true, decide_false, Bool.not_true, Bool.not_false, forall_const, reduceCtorEq, implies_true, beq_self_eq_true, Int.cast_ofNat_Int, reduceIte, if_true, if_false, Bool.false_eq_true, Try.ntmps11, fin_ret hE, Try.results11]
    intro b b_1
    refine CallC.val (γ := Int) (fun i => .v (.int .i64 i)) (fun i => wrongSz a sz ≠ 0 ∧ i = wrongSz a sz ∨ wrongSz a sz = 0 ∧ inR base (a - a % 4) xs.length ∧ i = 0 ∨ wrongSz a sz = 0 ∧ ¬ inR base (a - a % 4) xs.length ∧ i = 2) 200 (fun w1 hm1 => ?_) ?_
    · subst hE
      exact wr w1 (bel1 hm1)
    · refine ⟨by simp only [go_sem, Nat.zero_add, Nat.add_zero, Nat.zero_mul, Nat.reduceBEq, Nat.reduceAdd, Nat.reduceMul, Nat.reduceSub, Nat.reduceLT, Nat.reduceLeDiff, Nat.reduceEqDiff, Nat.reduceDiv, Nat.reduceMod, Int.reduceAdd, Int.reduceSub, Int.reduceMul, Int.reduceDiv, Int.reduceMod, Int.reduceLT, Int.reduceLE, Int.reduceEq, Int.reduceToNat, Int.reducePow, Int.reduceNeg, ne_eq, not_false_eq_true, not_true_eq_false, decide_true, decide_false, Bool.not_true, Bool.not_false, forall_const, reduceCtorEq, implies_true, beq_self_eq_true, Int.cast_ofNat_Int, reduceIte, if_true, if_false, Bool.false_eq_true, Try.ntmps11], ?_⟩
      rintro i (⟨h0, rfl⟩ | ⟨h0, h1, rfl⟩ | ⟨h0, h1, rfl⟩)
      · simp only [go_sem, Nat.zero_add, Nat.add_zero, Nat.zero_mul, Nat.reduceBEq, Nat.reduceAdd, Nat.reduceMul, Nat.reduceSub, Nat.reduceLT, Nat.reduceLeDiff, Nat.reduceEqDiff, Nat.reduceDiv, Nat.reduceMod, Int.reduceAdd, Int.reduceSub, Int.reduceMul, Int.reduceDiv, Int.reduceMod, Int.reduceLT, Int.reduceLE, Int.reduceEq, Int.reduceToNat, Int.reducePow, Int.reduceNeg, ne_eq, not_false_eq_true, not_true_eq_false, decide_true, decide_false, Bool.not_true, Bool.not_false, forall_const, reduceCtorEq, implies_true, beq_self_eq_true, Int.cast_ofNat_Int, reduceIte, if_true, if_false, Bool.false_eq_true, Try.ntmps11, fin_ret hE, Try.results11, h0]
        exact fun w' hm' => ⟨(_, xs), Or.inl ⟨h0, rfl⟩, Or.inl ⟨rfl, rfl⟩, bel1 hm'⟩
      · have hlt : ((a - a % 4 - base) / 4).toNat < xs.length := by unfold inR at h1; omega
        have hle := hseg.le (by intro e; subst e; simp at hlt)
        have ez : (a - base) % 4294967296 / 4 = (a - a % 4 - base) / 4 := by unfold inR at h1; omega
        have e0 : 0 ≤ (a - a % 4 - base) / 4 := by unfold inR at h1; omega
        have hld : ∀ j, ld1 (nums .u32 xs ++ j) ((a - a % 4 - base) / 4).toNat = .v (.int .u32 (wordR base (a - a % 4) xs)) := fun j => ld1_own hlt
        simp only [go_sem, Nat.zero_add, Nat.add_zero, Nat.zero_mul, Nat.reduceBEq, Nat.reduceAdd, Nat.reduceMul, Nat.reduceSub, Nat.reduceLT, Nat.reduceLeDiff, Nat.reduceEqDiff, Nat.reduceDiv, Nat.reduceMod, Int.reduceAdd, Int.reduceSub, Int.reduceMul, Int.reduceDiv, Int.reduceMod, Int.reduceLT, Int.reduceLE, Int.reduceEq, Int.reduceToNat, Int.reducePow, Int.reduceNeg, ne_eq, not_false_eq_true, not_true_eq_false, decide_true, decide_false, Bool.not_true, Bool.not_false, forall_const, reduceCtorEq, implies_true, beq_self_eq_true, Int.cast_ofNat_Int, reduceIte, if_true, if_false, Bool.false_eq_true, Try.ntmps11, fin_ret hE, Try.results11, Nat.mul_one, hseg.ldN, allOne_nums, ez, hld]
        refine ⟨⟨by omega, by omega⟩, fun b_2 => ⟨Or.inr hle, ⟨by omega, by omega⟩, fun b_3 c_1 j hc => ⟨⟨e0, by omega⟩, by simp; omega, by omega, by omega, ?_⟩⟩⟩
        have hsz : sz = 1 ∨ sz = 2 ∨ sz = 4 := by
          unfold wrongSz at h0
          split at h0
          · assumption
          · omega
        have hal : a % 4 * 8 + sz * 8 ≤ 32 := by
          unfold wrongSz at h0
          rcases hsz with rfl | rfl | rfl <;> simp at h0 <;> omega
        have hx := hxs.get ((a - a % 4 - base) / 4).toNat
        unfold u32ok at hx
        have e1 : wordR base (a - a % 4) xs = ((wordR base (a - a % 4) xs).toNat : Int) := by unfold wordR; omega
        have e2 : 8 * (a % 4) % 4294967296 = ((a % 4 * 8).toNat : Int) := by omega
        have e3 : 8 * sz = ((sz * 8).toNat : Int) := by omega
        have e5 : v = (v.toNat : Int) := by omega
        refine ⟨by omega, ?_⟩
        refine CallC.pur (.v (.int .u32 (putN (wordR base (a - a % 4) xs).toNat (a % 4 * 8).toNat (sz * 8).toNat v.toNat : Int))) 200 (fun w1 hm1 => ?_) ?_
        · have := rput_C w1 (wordR base (a - a % 4) xs).toNat (a % 4 * 8).toNat (sz * 8).toNat v.toNat (by unfold wordR; omega) (by omega) (by omega)
          rw [← e1, ← e2, ← e3, ← e5] at this
          exact this
        · have hst : ∀ j y, stN (nums .u32 xs ++ j) ((a - a % 4 - base) / 4).toNat [.v (.int .u32 y)] = nums .u32 (xs.set ((a - a % 4 - base) / 4).toNat y) ++ j := fun j y => stN_nums _ _ _ _ _ hlt
          simp only [go_sem, Nat.zero_add, Nat.add_zero, Nat.zero_mul, Nat.reduceBEq, Nat.reduceAdd, Nat.reduceMul, Nat.reduceSub, Nat.reduceLT, Nat.reduceLeDiff, Nat.reduceEqDiff, Nat.reduceDiv, Nat.reduceMod, Int.reduceAdd, Int.reduceSub, Int.reduceMul, Int.reduceDiv, Int.reduceMod, Int.reduceLT, Int.reduceLE, Int.reduceEq, Int.reduceToNat, Int.reducePow, Int.reduceNeg, ne_eq, not_false_eq_true, not_true_eq_false, decide_true, decide_false, Bool.not_true, Bool.not_false, forall_const, reduceCtorEq, implies_true, beq_self_eq_true, Int.cast_ofNat_Int, reduceIte, if_true, if_false, Bool.false_eq_true, Try.ntmps11, fin_ret hE, Try.results11, Nat.mul_one, hst]
          refine ⟨⟨e0, by omega⟩, by simp; omega, fun w' hm' => ⟨(0, _), Or.inr (Or.inr ⟨h0, h1, rfl⟩), Or.inr ⟨b_3, c_1, j, h1, ?_, hm'.at (t := 6) rfl, by simp [den, denL]⟩, bel1 hm'⟩⟩
          have := hm'.wr _ List.mem_cons_self rfl
          simpa using this
      · simp only [go_sem, Nat.zero_add, Nat.add_zero, Nat.zero_mul, Nat.reduceBEq, Nat.reduceAdd, Nat.reduceMul, Nat.reduceSub, Nat.reduceLT, Nat.reduceLeDiff, Nat.reduceEqDiff, Nat.reduceDiv, Nat.reduceMod, Int.reduceAdd, Int.reduceSub, Int.reduceMul, Int.reduceDiv, Int.reduceMod, Int.reduceLT, Int.reduceLE, Int.reduceEq, Int.reduceToNat, Int.reducePow, Int.reduceNeg, ne_eq, not_false_eq_true, not_true_eq_false, decide_true, decide_false, Bool.not_true, Bool.not_false, forall_const, reduceCtorEq, implies_true, beq_self_eq_true, Int.cast_ofNat_Int, reduceIte, if_true, if_false, Bool.false_eq_true, Try.ntmps11, fin_ret hE, Try.results11]
        exact fun w' hm' => ⟨(_, xs), Or.inr (Or.inl ⟨h0, h1, rfl⟩), Or.inl ⟨rfl, rfl⟩, bel1 hm'⟩

/-- Two rows of words, to a test whether they are alike. -/
theorem words_cons (w : World) (b1 o1 c1 b2 o2 c2 : Nat) (l1 l2 : List SV) (T1 T2 : Nat) (z1 z2 : Nat × Nat) (xs ys : List Int) (hn1 : xs.length ≤ 9223372036854775807) (hn2 : ys.length ≤ 9223372036854775807)
    (hg1 : w.heap[b1]? = some (denO (.z l1 T1 z1))) (hs1 : Seg l1 o1 .u32 xs) (hg2 : w.heap[b2]? = some (denO (.z l2 T2 z2))) (hs2 : Seg l2 o2 .u32 ys) :
    Calls Try.prog 12 #[.slice (some ⟨b1, o1, none⟩) xs.length c1, .slice (some ⟨b2, o2, none⟩) ys.length c2] w fun e w' => e = .returned (.bool (decide (xs = ys))) ∧ Below w.heap.size w w' := by
  have hm : Mem w [] [⟨1, b1, false, .z l1 T1 z1⟩, ⟨2, b2, false, .z l2 T2 z2⟩] w := Mem.reads (by simpa using ⟨hg1, hg2⟩) (by simp)
  refine calls_of_ex [.s 1 b1 o1 xs.length c1, .s 2 b2 o2 ys.length c2] _ [] 3 200 Try.func12 rfl hm (by simp [Try.ntmps12]) fun E hE => ?_
  simp only [go_sem, Nat.zero_add, Nat.add_zero, Nat.zero_mul, Nat.reduceBEq, Nat.reduceAdd, Nat.reduceMul, Nat.reduceSub, Nat.reduceLT, Nat.reduceLeDiff, Nat.reduceEqDiff, Nat.reduceDiv, Nat.reduceMod, Int.reduceAdd, Int.reduceSub, Int.reduceMul, Int.reduceDiv, Int.reduceMod, Int.reduceLT, Int.reduceLE, Int.reduceEq, Int.reduceToNat, Int.reducePow, Int.reduceNeg, ne_eq, not_false_eq_true, not_true_eq_false, decide_true, decide_false, Bool.not_true, Bool.not_false, forall_const, reduceCtorEq, implies_true, beq_self_eq_true, Int.cast_ofNat_Int, reduceIte, if_true, if_false, Bool.false_eq_true, Try.ntmps12, fin_ret hE, Try.results12]
  refine ⟨fun hlen => ?_, fun hlen w' hm' => ⟨by simp [den]; intro e; subst e; simp at hlen, hm'.below⟩⟩
  have hlen : xs.length = ys.length := by omega
  refine CodeC.loop (γ := { i : Nat // i ≤ xs.length ∧ ∀ t, t < i → xs.getD t 0 = ys.getD t 0 }) (fun g => ⟨26, 3, [(5, .v (.int .i64 (g.1 : Int))), (0, .s 1 b1 o1 xs.length c1), (1, .s 2 b2 o2 ys.length c2)], [⟨1, b1, false, .z l1 T1 z1⟩, ⟨2, b2, false, .z l2 T2 z2⟩], []⟩) (fun g => xs.length - g.1) ⟨0, by omega, by intro t ht; omega⟩ 200
    ⟨rfl, rfl, ⟨rfl, rfl, rfl, trivial⟩, by simp only [go_sem, Nat.zero_add, Nat.add_zero, Nat.zero_mul, Nat.reduceBEq, Nat.reduceAdd, Nat.reduceMul, Nat.reduceSub, Nat.reduceLT, Nat.reduceLeDiff, Nat.reduceEqDiff, Nat.reduceDiv, Nat.reduceMod, Int.reduceAdd, Int.reduceSub, Int.reduceMul, Int.reduceDiv, Int.reduceMod, Int.reduceLT, Int.reduceLE, Int.reduceEq, Int.reduceToNat, Int.reducePow, Int.reduceNeg, ne_eq, not_false_eq_true, not_true_eq_false, decide_true, decide_false, Bool.not_true, Bool.not_false, forall_const, reduceCtorEq, implies_true, beq_self_eq_true, Int.cast_ofNat_Int, reduceIte, if_true, if_false, Bool.false_eq_true, SubH]⟩ fun ⟨i, hi, hsame⟩ => ?_
  simp only [go_sem, Nat.zero_add, Nat.add_zero, Nat.zero_mul, Nat.reduceBEq, Nat.reduceAdd, Nat.reduceMul, Nat.reduceSub, Nat.reduceLT, Nat.reduceLeDiff, Nat.reduceEqDiff, Nat.reduceDiv, Nat.reduceMod, Int.reduceAdd, Int.reduceSub, Int.reduceMul, Int.reduceDiv, Int.reduceMod, Int.reduceLT, Int.reduceLE, Int.reduceEq, Int.reduceToNat, Int.reducePow, Int.reduceNeg, ne_eq, not_false_eq_true, not_true_eq_false, decide_true, decide_false, Bool.not_true, Bool.not_false, forall_const, reduceCtorEq, implies_true, beq_self_eq_true, Int.cast_ofNat_Int, reduceIte, if_true, if_false, Bool.false_eq_true, Try.ntmps12, fin_ret hE, Try.results12]
  refine ⟨fun h1 => ?_, fun h1 w' hm' => ⟨?_, hm'.below⟩⟩
  · have hi1 : i < xs.length := by omega
    have hi2 : i < ys.length := by omega
    refine CodeC.lex 200 Try.follows_mixed (by kernel_rfl) ?_
    simp only [go_sem, Nat.zero_add, Nat.add_zero, Nat.zero_mul, Nat.reduceBEq, Nat.reduceAdd, Nat.reduceMul, Nat.reduceSub, Nat.reduceLT, Nat.reduceLeDiff, Nat.reduceEqDiff, Nat.reduceDiv, Nat.reduceMod, Int.reduceAdd, Int.reduceSub, Int.reduceMul, Int.reduceDiv, Int.reduceMod, Int.reduceLT, Int.reduceLE, Int.reduceEq, Int.reduceToNat, Int.reducePow, Int.reduceNeg, ne_eq, not_false_eq_true, not_true_eq_false, decide_true, decide_false, Bool.not_true, Bool.not_false, forall_const, reduceCtorEq, implies_true, beq_self_eq_true, Int.cast_ofNat_Int, reduceIte, if_true, if_false, Bool.false_eq_true, Try.ntmps12, fin_ret hE, Try.results12, Int.toNat_natCast, Nat.mul_one, hs1.ld1 hi1, hs2.ld1 hi2]
    refine ⟨by omega, hs1.lt hi1, by omega, hs2.lt hi2, fun h2 => ⟨by omega, ⟨i + 1, by omega, ?_⟩, ⟨rfl, rfl, ⟨?_, rfl, rfl, trivial⟩, by simp only [go_sem, Nat.zero_add, Nat.add_zero, Nat.zero_mul, Nat.reduceBEq, Nat.reduceAdd, Nat.reduceMul, Nat.reduceSub, Nat.reduceLT, Nat.reduceLeDiff, Nat.reduceEqDiff, Nat.reduceDiv, Nat.reduceMod, Int.reduceAdd, Int.reduceSub, Int.reduceMul, Int.reduceDiv, Int.reduceMod, Int.reduceLT, Int.reduceLE, Int.reduceEq, Int.reduceToNat, Int.reducePow, Int.reduceNeg, ne_eq, not_false_eq_true, not_true_eq_false, decide_true, decide_false, Bool.not_true, Bool.not_false, forall_const, reduceCtorEq, implies_true, beq_self_eq_true, Int.cast_ofNat_Int, reduceIte, if_true, if_false, Bool.false_eq_true, SubH]⟩, by simp only; omega⟩, fun h2 w' hm' => ⟨?_, hm'.below⟩⟩
    · intro t ht
      rcases Nat.lt_or_ge t i with h' | h'
      · exact hsame t h'
      · rw [show t = i by omega]; exact h2
    · simp only [go_sem, Nat.zero_add, Nat.add_zero, Nat.zero_mul, Nat.reduceBEq, Nat.reduceAdd, Nat.reduceMul, Nat.reduceSub, Nat.reduceLT, Nat.reduceLeDiff, Nat.reduceEqDiff, Nat.reduceDiv, Nat.reduceMod, Int.reduceAdd, Int.reduceSub, Int.reduceMul, Int.reduceDiv, Int.reduceMod, Int.reduceLT, Int.reduceLE, Int.reduceEq, Int.reduceToNat, Int.reducePow, Int.reduceNeg, ne_eq, not_false_eq_true, not_true_eq_false, decide_true, decide_false, Bool.not_true, Bool.not_false, forall_const, reduceCtorEq, implies_true, beq_self_eq_true, Int.cast_ofNat_Int, reduceIte, if_true, if_false, Bool.false_eq_true]
      simp
    · have : ¬ xs = ys := by intro e; subst e; exact h2 rfl
      simp [den, this]
  · have : xs = ys := by
      apply List.ext_getElem hlen
      intro t h2 h3
      have := hsame t (by omega)
      simpa [h2, h3] using this
    simp [den, this]

theorem words_nil (w : World) :
    Calls Try.prog 12 #[.slice none 0 0, .slice none 0 0] w fun e w' => e = .returned (.bool true) ∧ Below w.heap.size w w' := by
  have hm : Mem w [] [] w := Mem.reads (by simp) (by simp)
  refine calls_of_ex [.v (.slice none 0 0), .v (.slice none 0 0)] _ [] 3 200 Try.func12 rfl hm (by simp [Try.ntmps12]) fun E hE => ?_
  simp only [go_sem, Nat.zero_add, Nat.add_zero, Nat.zero_mul, Nat.reduceBEq, Nat.reduceAdd, Nat.reduceMul, Nat.reduceSub, Nat.reduceLT, Nat.reduceLeDiff, Nat.reduceEqDiff, Nat.reduceDiv, Nat.reduceMod, Int.reduceAdd, Int.reduceSub, Int.reduceMul, Int.reduceDiv, Int.reduceMod, Int.reduceLT, Int.reduceLE, Int.reduceEq, Int.reduceToNat, Int.reducePow, Int.reduceNeg, ne_eq, not_false_eq_true, not_true_eq_false, decide_true, decide_false, Bool.not_true, Bool.not_false, forall_const, reduceCtorEq, implies_true, beq_self_eq_true, Int.cast_ofNat_Int, reduceIte, if_true, if_false, Bool.false_eq_true, Try.ntmps12, fin_ret hE, Try.results12]
  refine CodeC.loop (γ := Unit) (fun g => ⟨26, 3, [(5, .v (.int .i64 0)), (0, .v (.slice none 0 0))], [], []⟩) (fun g => 0) () 200 ⟨rfl, rfl, ⟨rfl, rfl, trivial⟩, trivial⟩ fun g => ?_
  simp only [go_sem, Nat.zero_add, Nat.add_zero, Nat.zero_mul, Nat.reduceBEq, Nat.reduceAdd, Nat.reduceMul, Nat.reduceSub, Nat.reduceLT, Nat.reduceLeDiff, Nat.reduceEqDiff, Nat.reduceDiv, Nat.reduceMod, Int.reduceAdd, Int.reduceSub, Int.reduceMul, Int.reduceDiv, Int.reduceMod, Int.reduceLT, Int.reduceLE, Int.reduceEq, Int.reduceToNat, Int.reducePow, Int.reduceNeg, ne_eq, not_false_eq_true, not_true_eq_false, decide_true, decide_false, Bool.not_true, Bool.not_false, forall_const, reduceCtorEq, implies_true, beq_self_eq_true, Int.cast_ofNat_Int, reduceIte, if_true, if_false, Bool.false_eq_true, Try.ntmps12, fin_ret hE, Try.results12]
  exact fun w' hm' => ⟨rfl, hm'.below⟩

end Go.Proofs
