/- Contracts of a device's own functions. -/
import Derived.Test.YtjljcinpmakhmaaDyS1
set_option linter.unusedSimpArgs false
set_option linter.unusedVariables false
set_option maxRecDepth 100000
set_option maxHeartbeats 4000000
namespace Go.Proofs
open Go.Dx Go.RowKit

theorem good_C (w : World) (bd bm : Nat) (fi ma er : Int) (li : Bool) (buf : List Int) (pl : Nat) (hb : buf.length = 16) (h : w.heap[bd]? = some (denO (devO bm fi ma er li buf pl))) :
    Calls Try.prog 13 #[.pointer (some ⟨bd, 0, none⟩)] w fun e w' => e = .returned (.bool true) ∧ Below w.heap.size w w' := by
  have hm : Mem w [] [⟨2, bd, false, devO bm fi ma er li buf pl⟩] w := Mem.reads (by simpa using h) (by simp)
  refine calls_of_ex [.p 2 bd 0] _ [] 3 200 Try.func13 rfl hm (by simp [Try.ntmps13]) fun E hE => ?_
  simp (maxSteps := 2000000) only [go_sem, ↓dxc_true, ↓dxc_false, ↓bxc_true, ↓bxc_false, Nat.zero_add, Nat.add_zero, Nat.zero_mul, Nat.reduceBEq, Nat.reduceAdd, Nat.reduceMul, Nat.reduceSub, Nat.reduceLT, Nat.reduceLeDiff, Nat.reduceEqDiff, Nat.reduceDiv, Nat.reduceMod, Int.reduceAdd, Int.reduceSub, Int.reduceMul, Int.reduceDiv, Int.reduceMod, Int.reduceLT, Int.reduceLE, Int.reduceEq, Int.reduceToNat, Int.reducePow, Int.reduceNeg, ne_eq, not_false_eq_true, not_true_eq_false, decide_true, decide_false, Bool.not_true, Bool.not_false, forall_const, reduceCtorEq, implies_true, beq_self_eq_true, Int.cast_ofNat_Int, reduceIte, if_true, if_false, Bool.false_eq_true, devO, Try.ntmps13, fin_ret hE, Try.results13, List.length_append, nums_length, hb]
  exact fun w' hm' => ⟨rfl, hm'.below⟩

theorem up_C (w : World) (bd bm : Nat) (fi ma er : Int) (li : Bool) (buf : List Int) (pl : Nat) (hb : buf.length = 16) (h : w.heap[bd]? = some (denO (devO bm fi ma er li buf pl))) :
    Calls Try.prog 9 #[.pointer (some ⟨bd, 0, none⟩)] w fun e w' => e = .returned (.bool li) ∧ Below w.heap.size w w' := by
  have hm : Mem w [] [⟨2, bd, false, devO bm fi ma er li buf pl⟩] w := Mem.reads (by simpa using h) (by simp)
  refine calls_of_ex [.p 2 bd 0] _ [] 3 200 Try.func9 rfl hm (by simp [Try.ntmps9]) fun E hE => ?_
  simp (maxSteps := 2000000) only [go_sem, ↓dxc_true, ↓dxc_false, ↓bxc_true, ↓bxc_false, Nat.zero_add, Nat.add_zero, Nat.zero_mul, Nat.reduceBEq, Nat.reduceAdd, Nat.reduceMul, Nat.reduceSub, Nat.reduceLT, Nat.reduceLeDiff, Nat.reduceEqDiff, Nat.reduceDiv, Nat.reduceMod, Int.reduceAdd, Int.reduceSub, Int.reduceMul, Int.reduceDiv, Int.reduceMod, Int.reduceLT, Int.reduceLE, Int.reduceEq, Int.reduceToNat, Int.reducePow, Int.reduceNeg, ne_eq, not_false_eq_true, not_true_eq_false, decide_true, decide_false, Bool.not_true, Bool.not_false, forall_const, reduceCtorEq, implies_true, beq_self_eq_true, Int.cast_ofNat_Int, reduceIte, if_true, if_false, Bool.false_eq_true, devO, Try.ntmps9, fin_ret hE, Try.results9, List.length_append, nums_length, hb]
  refine CallC.pur (.v (.bool true)) 200 (fun w1 hm1 => ?_) ?_
  · subst hE
    exact good_C w1 bd bm fi ma er li buf pl hb (hm1.at (t := 2) rfl)
  simp (maxSteps := 2000000) only [go_sem, ↓dxc_true, ↓dxc_false, ↓bxc_true, ↓bxc_false, Nat.zero_add, Nat.add_zero, Nat.zero_mul, Nat.reduceBEq, Nat.reduceAdd, Nat.reduceMul, Nat.reduceSub, Nat.reduceLT, Nat.reduceLeDiff, Nat.reduceEqDiff, Nat.reduceDiv, Nat.reduceMod, Int.reduceAdd, Int.reduceSub, Int.reduceMul, Int.reduceDiv, Int.reduceMod, Int.reduceLT, Int.reduceLE, Int.reduceEq, Int.reduceToNat, Int.reducePow, Int.reduceNeg, ne_eq, not_false_eq_true, not_true_eq_false, decide_true, decide_false, Bool.not_true, Bool.not_false, forall_const, reduceCtorEq, implies_true, beq_self_eq_true, Int.cast_ofNat_Int, reduceIte, if_true, if_false, Bool.false_eq_true, devO, Try.ntmps9, fin_ret hE, Try.results9, List.length_append, nums_length, hb]
  exact fun w' hm' => ⟨rfl, hm'.below⟩

theorem bit_C (w : World) (b : Bool) :
    Calls Try.prog 16 #[.bool b] w fun e w' => e = .returned (.int .u32 (if b then 1 else 0)) ∧ Below w.heap.size w w' := by
  have hm : Mem w [] [] w := Mem.reads (by simp) (by simp)
  refine calls_of_ex [.v (.bool b)] _ [] 3 200 Try.func16 rfl hm (by simp [Try.ntmps16]) fun E hE => ?_
  cases b
  · simp (maxSteps := 2000000) only [go_sem, ↓dxc_true, ↓dxc_false, ↓bxc_true, ↓bxc_false, Nat.zero_add, Nat.add_zero, Nat.zero_mul, Nat.reduceBEq, Nat.reduceAdd, Nat.reduceMul, Nat.reduceSub, Nat.reduceLT, Nat.reduceLeDiff, Nat.reduceEqDiff, Nat.reduceDiv, Nat.reduceMod, Int.reduceAdd, Int.reduceSub, Int.reduceMul, Int.reduceDiv, Int.reduceMod, Int.reduceLT, Int.reduceLE, Int.reduceEq, Int.reduceToNat, Int.reducePow, Int.reduceNeg, ne_eq, not_false_eq_true, not_true_eq_false, decide_true, decide_false, Bool.not_true, Bool.not_false, forall_const, reduceCtorEq, implies_true, beq_self_eq_true, Int.cast_ofNat_Int, reduceIte, if_true, if_false, Bool.false_eq_true, Try.ntmps16, fin_ret hE, Try.results16]
    exact fun w' hm' => ⟨rfl, hm'.below⟩
  · simp (maxSteps := 2000000) only [go_sem, ↓dxc_true, ↓dxc_false, ↓bxc_true, ↓bxc_false, Nat.zero_add, Nat.add_zero, Nat.zero_mul, Nat.reduceBEq, Nat.reduceAdd, Nat.reduceMul, Nat.reduceSub, Nat.reduceLT, Nat.reduceLeDiff, Nat.reduceEqDiff, Nat.reduceDiv, Nat.reduceMod, Int.reduceAdd, Int.reduceSub, Int.reduceMul, Int.reduceDiv, Int.reduceMod, Int.reduceLT, Int.reduceLE, Int.reduceEq, Int.reduceToNat, Int.reducePow, Int.reduceNeg, ne_eq, not_false_eq_true, not_true_eq_false, decide_true, decide_false, Bool.not_true, Bool.not_false, forall_const, reduceCtorEq, implies_true, beq_self_eq_true, Int.cast_ofNat_Int, reduceIte, if_true, if_false, Bool.false_eq_true, Try.ntmps16, fin_ret hE, Try.results16]
    exact fun w' hm' => ⟨rfl, hm'.below⟩

theorem window_C (w : World) (bd bm : Nat) (fi ma er : Int) (li : Bool) (buf : List Int) (pl : Nat) (hb : buf.length = 16) (hp : pl < 16) (h : Mem w [bd] [⟨2, bd, true, devO bm fi ma er li buf pl⟩] w) :
    Calls Try.prog 15 #[.pointer (some ⟨bd, 0, none⟩)] w fun e w' => e = .returned (den (.p 2 bd (5 + pl))) ∧ Mem w [bd] [⟨2, bd, true, devO bm fi ma er li buf ((pl + 1) % 16)⟩] w' := by
  refine calls_of_ex [.p 2 bd 0] _ [bd] 3 200 Try.func15 rfl h (by simp [Try.ntmps15]) fun E hE => ?_
  have e1 := ld1_end .u32 buf (.v (.int .i64 (pl : Int))) [] 16 hb
  have e2 : ((pl : Int) + 1) % 16 = (((pl + 1) % 16 : Nat) : Int) := by omega
  have e3 := stN_end .u32 buf (.v (.int .i64 (pl : Int))) (.v (.int .i64 (((pl + 1) % 16 : Nat) : Int))) [] 16 hb
  have e4 : 5 + ((pl : Int) / 4).toNat * 4 + ((pl : Int) % 4).toNat * 1 = 5 + pl := by omega
  simp (maxSteps := 2000000) only [go_sem, ↓dxc_true, ↓dxc_false, ↓bxc_true, ↓bxc_false, Nat.zero_add, Nat.add_zero, Nat.zero_mul, Nat.reduceBEq, Nat.reduceAdd, Nat.reduceMul, Nat.reduceSub, Nat.reduceLT, Nat.reduceLeDiff, Nat.reduceEqDiff, Nat.reduceDiv, Nat.reduceMod, Int.reduceAdd, Int.reduceSub, Int.reduceMul, Int.reduceDiv, Int.reduceMod, Int.reduceLT, Int.reduceLE, Int.reduceEq, Int.reduceToNat, Int.reducePow, Int.reduceNeg, ne_eq, not_false_eq_true, not_true_eq_false, decide_true, decide_false, Bool.not_true, Bool.not_false, forall_const, reduceCtorEq, implies_true, beq_self_eq_true, Int.cast_ofNat_Int, reduceIte, if_true, if_false, Bool.false_eq_true, devO, Try.ntmps15, fin_ret hE, Try.results15, e1, List.length_append, nums_length, hb]
  refine CodeC.lex 200 Try.follows_mixed (by kernel_rfl) ?_
  simp (maxSteps := 2000000) only [go_sem, ↓dxc_true, ↓dxc_false, ↓bxc_true, ↓bxc_false, Nat.zero_add, Nat.add_zero, Nat.zero_mul, Nat.reduceBEq, Nat.reduceAdd, Nat.reduceMul, Nat.reduceSub, Nat.reduceLT, Nat.reduceLeDiff, Nat.reduceEqDiff, Nat.reduceDiv, Nat.reduceMod, Int.reduceAdd, Int.reduceSub, Int.reduceMul, Int.reduceDiv, Int.reduceMod, Int.reduceLT, Int.reduceLE, Int.reduceEq, Int.reduceToNat, Int.reducePow, Int.reduceNeg, ne_eq, not_false_eq_true, not_true_eq_false, decide_true, decide_false, Bool.not_true, Bool.not_false, forall_const, reduceCtorEq, implies_true, beq_self_eq_true, Int.cast_ofNat_Int, reduceIte, if_true, if_false, Bool.false_eq_true, devO, Try.ntmps15, fin_ret hE, Try.results15, e1, List.length_append, nums_length, hb, e4, e2, e3]
  refine ⟨by omega, by omega, by omega, by omega, by omega, by omega, fun w' hm' => hm'⟩

/-- Are there the sectors that a command is of? -/
def inS (fi ma : Int) (n : Nat) : Prop := 1 ≤ ma ∧ ma ≤ 4 ∧ fi + ma ≤ (n : Int)
instance instIn (fi ma : Int) (n : Nat) : Decidable (inS fi ma n) := by unfold inS; infer_instance
theorem inS_true {b : Bool} {fi ma : Int} {n : Nat} (h : b = true ↔ (1 ≤ ma ∧ ma ≤ 4 ∧ fi + ma ≤ (n : Int))) : b = decide (inS fi ma n) := by
  rw [Bool.eq_iff_iff, h, decide_eq_true_iff]
  rfl

theorem in_C (w : World) (bd bm bk n : Nat) (left : Int) (d : DV) (hd : d.Ok n) (h1 : w.heap[bd]? = some (denO (devO bm d.fi d.ma d.er d.li d.buf d.pl))) (h2 : w.heap[bm]? = some (denO (memO bk n left))) :
    Calls Try.prog 18 #[.pointer (some ⟨bd, 0, none⟩)] w fun e w' => e = .returned (.bool (decide (inS d.fi d.ma n))) ∧ Below w.heap.size w w' := by
  have hm : Mem w [] [⟨2, bd, false, devO bm d.fi d.ma d.er d.li d.buf d.pl⟩, ⟨1, bm, false, memO bk n left⟩] w := Mem.reads (by simpa using ⟨h1, h2⟩) (by simp)
  refine calls_of_ex [.p 2 bd 0] _ [] 3 200 Try.func18 rfl hm (by simp [Try.ntmps18]) fun E hE => ?_
  have q1 := hd.fi
  have q2 := hd.ma
  have q3 := hd.n
  unfold u32k at q1 q2
  simp (maxSteps := 2000000) only [go_sem, ↓dxc_true, ↓dxc_false, ↓bxc_true, ↓bxc_false, Nat.zero_add, Nat.add_zero, Nat.zero_mul, Nat.reduceBEq, Nat.reduceAdd, Nat.reduceMul, Nat.reduceSub, Nat.reduceLT, Nat.reduceLeDiff, Nat.reduceEqDiff, Nat.reduceDiv, Nat.reduceMod, Int.reduceAdd, Int.reduceSub, Int.reduceMul, Int.reduceDiv, Int.reduceMod, Int.reduceLT, Int.reduceLE, Int.reduceEq, Int.reduceToNat, Int.reducePow, Int.reduceNeg, ne_eq, not_false_eq_true, not_true_eq_false, decide_true, decide_false, Bool.not_true, Bool.not_false, forall_const, reduceCtorEq, implies_true, beq_self_eq_true, Int.cast_ofNat_Int, reduceIte, if_true, if_false, Bool.false_eq_true, devO, memO, Try.ntmps18, fin_ret hE, Try.results18, List.length_append, nums_length, hd.buf]
  refine CodeC.lex 200 Try.follows_mixed (by kernel_rfl) ?_
  simp (maxSteps := 2000000) only [go_sem, ↓dxc_true, ↓dxc_false, ↓bxc_true, ↓bxc_false, Nat.zero_add, Nat.add_zero, Nat.zero_mul, Nat.reduceBEq, Nat.reduceAdd, Nat.reduceMul, Nat.reduceSub, Nat.reduceLT, Nat.reduceLeDiff, Nat.reduceEqDiff, Nat.reduceDiv, Nat.reduceMod, Int.reduceAdd, Int.reduceSub, Int.reduceMul, Int.reduceDiv, Int.reduceMod, Int.reduceLT, Int.reduceLE, Int.reduceEq, Int.reduceToNat, Int.reducePow, Int.reduceNeg, ne_eq, not_false_eq_true, not_true_eq_false, decide_true, decide_false, Bool.not_true, Bool.not_false, forall_const, reduceCtorEq, implies_true, beq_self_eq_true, Int.cast_ofNat_Int, reduceIte, if_true, if_false, Bool.false_eq_true, devO, memO, Try.ntmps18, fin_ret hE, Try.results18, List.length_append, nums_length, hd.buf]
  have key : ∀ b : Bool, b = decide (inS d.fi d.ma n) → ∀ w', Mem w [] [⟨2, bd, false, devO bm d.fi d.ma d.er d.li d.buf d.pl⟩, ⟨1, bm, false, memO bk n left⟩] w' → Ending.returned (.bool b) = .returned (.bool (decide (inS d.fi d.ma n))) ∧ Below w.heap.size w w' := by
    rintro b rfl w' hm'
    exact ⟨rfl, hm'.below⟩
  refine ⟨fun g1 => ⟨fun g2 => ⟨by omega, by omega, ?_⟩, fun g2 => ?_⟩, fun g1 => ?_⟩
  · refine CallD.pur (.v (.int .i64 (n : Int))) rfl (fun w1 hm1 => ?_) ?_
    · subst hE
      exact sectors_C w1 bm bk n left (hm1.at (t := 1) rfl)
    have e1 : (n : Int) % 18446744073709551616 = n := by omega
    have e2 : (d.fi + d.ma) % 18446744073709551616 = d.fi + d.ma := by omega
    simp (maxSteps := 2000000) only [go_sem, ↓dxc_true, ↓dxc_false, ↓bxc_true, ↓bxc_false, Nat.zero_add, Nat.add_zero, Nat.zero_mul, Nat.reduceBEq, Nat.reduceAdd, Nat.reduceMul, Nat.reduceSub, Nat.reduceLT, Nat.reduceLeDiff, Nat.reduceEqDiff, Nat.reduceDiv, Nat.reduceMod, Int.reduceAdd, Int.reduceSub, Int.reduceMul, Int.reduceDiv, Int.reduceMod, Int.reduceLT, Int.reduceLE, Int.reduceEq, Int.reduceToNat, Int.reducePow, Int.reduceNeg, ne_eq, not_false_eq_true, not_true_eq_false, decide_true, decide_false, Bool.not_true, Bool.not_false, forall_const, reduceCtorEq, implies_true, beq_self_eq_true, Int.cast_ofNat_Int, reduceIte, if_true, if_false, Bool.false_eq_true, devO, memO, Try.ntmps18, fin_ret hE, Try.results18, List.length_append, nums_length, hd.buf, e1, e2]
    refine key _ (inS_true ?_)
    simp; omega
  · refine key false (inS_true ?_)
    simp; omega
  · refine key false (inS_true ?_)
    simp; omega

end Go.Proofs
