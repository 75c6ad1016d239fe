/- Pages: what words are. -/
import Derived.Test.YtmjgfoeonnbkpaaDyL2
set_option linter.unusedSimpArgs false
set_option linter.unusedVariables false
set_option linter.unusedSectionVars false
set_option maxRecDepth 100000
set_option maxHeartbeats 8000000
namespace Go.Proofs
open Go.Dx Go.RowKit

/-! ### kind -/

def sX (xs : List Int) : Option Nat := xs.findIdx? (fun x => decide (x ≠ 4294967295))
def sI (xs : List Int) : Int := match sX xs with
  | some i => (i : Int)
  | none => -1
/-- What words are, by those that they would be. -/
def kindS (xs ys : List Int) (many : Nat) : Int := if xs.length ≠ many then 2 else if sX xs = none then 0 else if xs = ys then 1 else 2

theorem getD_lt (xs : List Int) (i : Nat) (h : i < xs.length) : xs.getD i 0 = xs[i] := by simp [h]

theorem sX_hit {xs : List Int} {i : Nat} (hi : i < xs.length) (h : xs.getD i 0 ≠ 4294967295) (hl : ∀ t, t < i → xs.getD t 0 = 4294967295) : sX xs = some i := by
  unfold sX
  rw [List.findIdx?_eq_some_iff_getElem]
  refine ⟨hi, by simpa [hi] using h, fun j hj => ?_⟩
  have := hl j hj
  rw [getD_lt _ _ (by omega)] at this
  simp [this]

theorem sX_miss {xs : List Int} (hl : ∀ t, t < xs.length → xs.getD t 0 = 4294967295) : sX xs = none := by
  unfold sX
  rw [List.findIdx?_eq_none_iff]
  intro x hx
  obtain ⟨i, hi, rfl⟩ := List.getElem_of_mem hx
  have := hl i hi
  rw [getD_lt _ _ hi] at this
  simp [this]

theorem set_C (w : World) (x : Int) : Calls Try.prog 62 #[.int .u32 x] w fun e w' => e = .returned (.bool (decide (x ≠ 4294967295))) ∧ Bel w.heap.size w w' := by
  have hm : Mem w [] [] w := Mem.reads (by simp) (by simp)
  refine calls_of_ex [.v (.int .u32 x)] _ [] 3 300 Try.func62 rfl hm (by simp [Try.ntmps62]) fun E hE => ?_
  simp (maxSteps := 2000000) only [go_sem, ↓dxc_true, ↓dxc_false, ↓bxc_true, ↓bxc_false, Nat.zero_add, Nat.add_zero, Nat.zero_mul, Nat.reduceBEq, Nat.reduceAdd, Nat.reduceMul, Nat.reduceSub, Nat.reduceLT, Nat.reduceLeDiff, Nat.reduceEqDiff, Nat.reduceDiv, Nat.reduceMod, Int.reduceAdd, Int.reduceSub, Int.reduceMul, Int.reduceDiv, Int.reduceMod, Int.reduceLT, Int.reduceLE, Int.reduceEq, Int.reduceToNat, Int.reducePow, Int.reduceNeg, ne_eq, not_false_eq_true, not_true_eq_false, decide_true, decide_false, Bool.not_true, Bool.not_false, forall_const, reduceCtorEq, implies_true, beq_self_eq_true, Int.cast_ofNat_Int, reduceIte, if_true, if_false, Bool.false_eq_true, Try.ntmps62, fin_ret hE, Try.results62]
  exact fun w' hm' => ⟨by simp [den], hm'.below⟩

theorem isIdx_C (w : World) (ba oa ca : Nat) (xs : List Int) (la : List SV) (Ta : Nat) (za : Nat × Nat) (hn : xs.length ≤ 1000000)
    (h : w.heap[ba]? = some (denO (.z la Ta za))) (hs : Seg la oa .u32 xs) :
    Calls Try.prog 72 #[den (.s 101 ba oa xs.length ca), den (.f 62 [])] w fun e w' => e = .returned (.int .i64 (sI xs)) ∧ Bel w.heap.size w w' := by
  have hm : Mem w [] [⟨101, ba, false, .z la Ta za⟩] w := Mem.reads (by simpa using h) (by simp)
  refine calls_of_ex [.s 101 ba oa xs.length ca, .f 62 []] _ [] 3 300 Try.func72 rfl hm (by simp [Try.ntmps72]) fun E hE => ?_
  simp (maxSteps := 2000000) only [go_sem, ↓dxc_true, ↓dxc_false, ↓bxc_true, ↓bxc_false, Nat.zero_add, Nat.add_zero, Nat.zero_mul, Nat.reduceBEq, Nat.reduceAdd, Nat.reduceMul, Nat.reduceSub, Nat.reduceLT, Nat.reduceLeDiff, Nat.reduceEqDiff, Nat.reduceDiv, Nat.reduceMod, Int.reduceAdd, Int.reduceSub, Int.reduceMul, Int.reduceDiv, Int.reduceMod, Int.reduceLT, Int.reduceLE, Int.reduceEq, Int.reduceToNat, Int.reducePow, Int.reduceNeg, ne_eq, not_false_eq_true, not_true_eq_false, decide_true, decide_false, Bool.not_true, Bool.not_false, forall_const, reduceCtorEq, implies_true, beq_self_eq_true, Int.cast_ofNat_Int, reduceIte, if_true, if_false, Bool.false_eq_true, Try.ntmps72, fin_ret hE, Try.results72]
  refine CodeC.loop (γ := { i : Nat // i ≤ xs.length ∧ ∀ t, t < i → xs.getD t 0 = 4294967295 }) (fun g => ⟨19, 3, [(8, .v (.int .i64 (g.1 : Int))), (7, .v (.int .i64 (xs.length : Int))), (0, .s 101 ba oa xs.length ca), (1, .f 62 [])],
      [⟨101, ba, false, .z la Ta za⟩], []⟩) (fun g => xs.length - g.1) ⟨0, by omega, by intro t ht; omega⟩ 300 ⟨rfl, rfl, ⟨rfl, rfl, rfl, rfl, trivial⟩, SubH.refl _⟩ ?_
  rintro ⟨i, h1, h2⟩
  simp only
  simp (maxSteps := 2000000) only [go_sem, ↓dxc_true, ↓dxc_false, ↓bxc_true, ↓bxc_false, Nat.zero_add, Nat.add_zero, Nat.zero_mul, Nat.reduceBEq, Nat.reduceAdd, Nat.reduceMul, Nat.reduceSub, Nat.reduceLT, Nat.reduceLeDiff, Nat.reduceEqDiff, Nat.reduceDiv, Nat.reduceMod, Int.reduceAdd, Int.reduceSub, Int.reduceMul, Int.reduceDiv, Int.reduceMod, Int.reduceLT, Int.reduceLE, Int.reduceEq, Int.reduceToNat, Int.reducePow, Int.reduceNeg, ne_eq, not_false_eq_true, not_true_eq_false, decide_true, decide_false, Bool.not_true, Bool.not_false, forall_const, reduceCtorEq, implies_true, beq_self_eq_true, Int.cast_ofNat_Int, reduceIte, if_true, if_false, Bool.false_eq_true, Try.ntmps72, fin_ret hE, Try.results72]
  refine ⟨fun k1 => ?_, fun k1 w' hm' => ⟨?_, hm'.below⟩⟩
  · have hi : i < xs.length := by omega
    have e1 := hs.ld1 hi
    have q1 := hs.lt hi
    simp (maxSteps := 2000000) only [go_sem, ↓dxc_true, ↓dxc_false, ↓bxc_true, ↓bxc_false, Nat.zero_add, Nat.add_zero, Nat.zero_mul, Nat.reduceBEq, Nat.reduceAdd, Nat.reduceMul, Nat.reduceSub, Nat.reduceLT, Nat.reduceLeDiff, Nat.reduceEqDiff, Nat.reduceDiv, Nat.reduceMod, Int.reduceAdd, Int.reduceSub, Int.reduceMul, Int.reduceDiv, Int.reduceMod, Int.reduceLT, Int.reduceLE, Int.reduceEq, Int.reduceToNat, Int.reducePow, Int.reduceNeg, ne_eq, not_false_eq_true, not_true_eq_false, decide_true, decide_false, Bool.not_true, Bool.not_false, forall_const, reduceCtorEq, implies_true, beq_self_eq_true, Int.cast_ofNat_Int, reduceIte, if_true, if_false, Bool.false_eq_true, Try.ntmps72, fin_ret hE, Try.results72, Int.toNat_natCast, Nat.mul_one, e1]
    refine ⟨⟨by omega, by omega⟩, by omega, ?_⟩
    refine CallC.pur (.v (.bool (decide (xs.getD i 0 ≠ 4294967295)))) 300 (fun w1 hm1 => set_C w1 _) ?_
    simp (maxSteps := 2000000) only [go_sem, ↓dxc_true, ↓dxc_false, ↓bxc_true, ↓bxc_false, Nat.zero_add, Nat.add_zero, Nat.zero_mul, Nat.reduceBEq, Nat.reduceAdd, Nat.reduceMul, Nat.reduceSub, Nat.reduceLT, Nat.reduceLeDiff, Nat.reduceEqDiff, Nat.reduceDiv, Nat.reduceMod, Int.reduceAdd, Int.reduceSub, Int.reduceMul, Int.reduceDiv, Int.reduceMod, Int.reduceLT, Int.reduceLE, Int.reduceEq, Int.reduceToNat, Int.reducePow, Int.reduceNeg, ne_eq, not_false_eq_true, not_true_eq_false, decide_true, decide_false, Bool.not_true, Bool.not_false, forall_const, reduceCtorEq, implies_true, beq_self_eq_true, Int.cast_ofNat_Int, reduceIte, if_true, if_false, Bool.false_eq_true, Try.ntmps72, fin_ret hE, Try.results72]
    refine ⟨fun k2 w' hm' => ⟨?_, hm'.below⟩, fun k2 => ⟨⟨by omega, by omega⟩, ?_⟩⟩
    · rw [sI, sX_hit hi (by simpa using k2) h2]; rfl
    · refine ⟨⟨i + 1, by omega, fun t ht => ?_⟩, ⟨rfl, rfl, ⟨by simp [lk], rfl, rfl, rfl, trivial⟩, SubH.refl _⟩, by simp only; omega⟩
      by_cases hti : t = i
      · subst hti
        simpa using k2
      · exact h2 t (by omega)
  · rw [sI, sX_miss (fun t ht => h2 t (by omega))]; rfl

theorem contains_C (w : World) (ba oa ca : Nat) (xs : List Int) (la : List SV) (Ta : Nat) (za : Nat × Nat) (hn : xs.length ≤ 1000000)
    (h : w.heap[ba]? = some (denO (.z la Ta za))) (hs : Seg la oa .u32 xs) :
    Calls Try.prog 63 #[den (.s 101 ba oa xs.length ca), den (.f 62 [])] w fun e w' => e = .returned (.bool (sX xs).isSome) ∧ Bel w.heap.size w w' := by
  have hm : Mem w [] [⟨101, ba, false, .z la Ta za⟩] w := Mem.reads (by simpa using h) (by simp)
  refine calls_of_ex [.s 101 ba oa xs.length ca, .f 62 []] _ [] 3 300 Try.func63 rfl hm (by simp [Try.ntmps63]) fun E hE => ?_
  simp (maxSteps := 2000000) only [go_sem, ↓dxc_true, ↓dxc_false, ↓bxc_true, ↓bxc_false, Nat.zero_add, Nat.add_zero, Nat.zero_mul, Nat.reduceBEq, Nat.reduceAdd, Nat.reduceMul, Nat.reduceSub, Nat.reduceLT, Nat.reduceLeDiff, Nat.reduceEqDiff, Nat.reduceDiv, Nat.reduceMod, Int.reduceAdd, Int.reduceSub, Int.reduceMul, Int.reduceDiv, Int.reduceMod, Int.reduceLT, Int.reduceLE, Int.reduceEq, Int.reduceToNat, Int.reducePow, Int.reduceNeg, ne_eq, not_false_eq_true, not_true_eq_false, decide_true, decide_false, Bool.not_true, Bool.not_false, forall_const, reduceCtorEq, implies_true, beq_self_eq_true, Int.cast_ofNat_Int, reduceIte, if_true, if_false, Bool.false_eq_true, Try.ntmps63, fin_ret hE, Try.results63]
  refine CallC.pur (.v (.int .i64 (sI xs))) 300 (fun w1 hm1 => isIdx_C w1 ba oa ca xs la Ta za hn (hm1.at (t := 101) rfl) hs) ?_
  cases hX : sX xs with
  | none =>
    have e1 : sI xs = -1 := by rw [sI, hX]
    simp (maxSteps := 2000000) only [go_sem, ↓dxc_true, ↓dxc_false, ↓bxc_true, ↓bxc_false, Nat.zero_add, Nat.add_zero, Nat.zero_mul, Nat.reduceBEq, Nat.reduceAdd, Nat.reduceMul, Nat.reduceSub, Nat.reduceLT, Nat.reduceLeDiff, Nat.reduceEqDiff, Nat.reduceDiv, Nat.reduceMod, Int.reduceAdd, Int.reduceSub, Int.reduceMul, Int.reduceDiv, Int.reduceMod, Int.reduceLT, Int.reduceLE, Int.reduceEq, Int.reduceToNat, Int.reducePow, Int.reduceNeg, ne_eq, not_false_eq_true, not_true_eq_false, decide_true, decide_false, Bool.not_true, Bool.not_false, forall_const, reduceCtorEq, implies_true, beq_self_eq_true, Int.cast_ofNat_Int, reduceIte, if_true, if_false, Bool.false_eq_true, Try.ntmps63, fin_ret hE, Try.results63, e1]
    exact fun w' hm' => ⟨by simp [den, hX], hm'.below⟩
  | some i =>
    have e1 : sI xs = (i : Int) := by rw [sI, hX]
    simp (maxSteps := 2000000) only [go_sem, ↓dxc_true, ↓dxc_false, ↓bxc_true, ↓bxc_false, Nat.zero_add, Nat.add_zero, Nat.zero_mul, Nat.reduceBEq, Nat.reduceAdd, Nat.reduceMul, Nat.reduceSub, Nat.reduceLT, Nat.reduceLeDiff, Nat.reduceEqDiff, Nat.reduceDiv, Nat.reduceMod, Int.reduceAdd, Int.reduceSub, Int.reduceMul, Int.reduceDiv, Int.reduceMod, Int.reduceLT, Int.reduceLE, Int.reduceEq, Int.reduceToNat, Int.reducePow, Int.reduceNeg, ne_eq, not_false_eq_true, not_true_eq_false, decide_true, decide_false, Bool.not_true, Bool.not_false, forall_const, reduceCtorEq, implies_true, beq_self_eq_true, Int.cast_ofNat_Int, reduceIte, if_true, if_false, Bool.false_eq_true, Try.ntmps63, fin_ret hE, Try.results63, e1]
    exact fun w' hm' => ⟨by simp [den, hX], hm'.below⟩

theorem equal_N (w : World) (ba oa ca n : Nat) (hn : 0 < n) :
    Calls Try.prog 64 #[den (.s 101 ba oa n ca), den (.v (.slice none 0 0))] w fun e w' => e = .returned (.bool false) ∧ Bel w.heap.size w w' := by
  have hm : Mem w [] [] w := Mem.reads (by simp) (by simp)
  refine calls_of_ex [.s 101 ba oa n ca, .v (.slice none 0 0)] _ [] 3 300 Try.func64 rfl hm (by simp [Try.ntmps64]) fun E hE => ?_
  simp (maxSteps := 2000000) only [go_sem, ↓dxc_true, ↓dxc_false, ↓bxc_true, ↓bxc_false, Nat.zero_add, Nat.add_zero, Nat.zero_mul, Nat.reduceBEq, Nat.reduceAdd, Nat.reduceMul, Nat.reduceSub, Nat.reduceLT, Nat.reduceLeDiff, Nat.reduceEqDiff, Nat.reduceDiv, Nat.reduceMod, Int.reduceAdd, Int.reduceSub, Int.reduceMul, Int.reduceDiv, Int.reduceMod, Int.reduceLT, Int.reduceLE, Int.reduceEq, Int.reduceToNat, Int.reducePow, Int.reduceNeg, ne_eq, not_false_eq_true, not_true_eq_false, decide_true, decide_false, Bool.not_true, Bool.not_false, forall_const, reduceCtorEq, implies_true, beq_self_eq_true, Int.cast_ofNat_Int, reduceIte, if_true, if_false, Bool.false_eq_true, Try.ntmps64, fin_ret hE, Try.results64]
  exact ⟨fun k => by omega, fun _ w' hm' => ⟨rfl, hm'.below⟩⟩

theorem equal_C (w : World) (ba oa ca bb ob cb : Nat) (xs ys : List Int) (la lb : List SV) (Ta Tb : Nat) (za zb : Nat × Nat) (hn : xs.length ≤ 1000000) (hl : xs.length = ys.length)
    (h : w.heap[ba]? = some (denO (.z la Ta za))) (hs : Seg la oa .u32 xs) (h' : w.heap[bb]? = some (denO (.z lb Tb zb))) (hs' : Seg lb ob .u32 ys) :
    Calls Try.prog 64 #[den (.s 101 ba oa xs.length ca), den (.s 102 bb ob ys.length cb)] w fun e w' => e = .returned (.bool (decide (xs = ys))) ∧ Bel w.heap.size w w' := by
  have hm : Mem w [] [⟨101, ba, false, .z la Ta za⟩, ⟨102, bb, false, .z lb Tb zb⟩] w := Mem.reads (by simpa using ⟨h, h'⟩) (by simp)
  refine calls_of_ex [.s 101 ba oa xs.length ca, .s 102 bb ob ys.length cb] _ [] 3 300 Try.func64 rfl hm (by simp [Try.ntmps64]) fun E hE => ?_
  simp (maxSteps := 2000000) only [go_sem, ↓dxc_true, ↓dxc_false, ↓bxc_true, ↓bxc_false, Nat.zero_add, Nat.add_zero, Nat.zero_mul, Nat.reduceBEq, Nat.reduceAdd, Nat.reduceMul, Nat.reduceSub, Nat.reduceLT, Nat.reduceLeDiff, Nat.reduceEqDiff, Nat.reduceDiv, Nat.reduceMod, Int.reduceAdd, Int.reduceSub, Int.reduceMul, Int.reduceDiv, Int.reduceMod, Int.reduceLT, Int.reduceLE, Int.reduceEq, Int.reduceToNat, Int.reducePow, Int.reduceNeg, ne_eq, not_false_eq_true, not_true_eq_false, decide_true, decide_false, Bool.not_true, Bool.not_false, forall_const, reduceCtorEq, implies_true, beq_self_eq_true, Int.cast_ofNat_Int, reduceIte, if_true, if_false, Bool.false_eq_true, Try.ntmps64, fin_ret hE, Try.results64]
  refine ⟨fun _ => ?_, fun k => by omega⟩
  refine CodeC.loop (γ := { i : Nat // i ≤ xs.length ∧ ∀ t, t < i → xs.getD t 0 = ys.getD t 0 }) (fun g => ⟨26, 3, [(13, .v (.int .i64 (g.1 : Int))), (12, .v (.int .i64 (xs.length : Int))), (0, .s 101 ba oa xs.length ca), (1, .s 102 bb ob ys.length cb)],
      [⟨101, ba, false, .z la Ta za⟩, ⟨102, bb, false, .z lb Tb zb⟩], []⟩) (fun g => xs.length - g.1) ⟨0, by omega, by intro t ht; omega⟩ 300 ⟨rfl, rfl, ⟨rfl, rfl, rfl, rfl, trivial⟩, SubH.refl _⟩ ?_
  rintro ⟨i, h1, h2⟩
  simp only
  simp (maxSteps := 2000000) only [go_sem, ↓dxc_true, ↓dxc_false, ↓bxc_true, ↓bxc_false, Nat.zero_add, Nat.add_zero, Nat.zero_mul, Nat.reduceBEq, Nat.reduceAdd, Nat.reduceMul, Nat.reduceSub, Nat.reduceLT, Nat.reduceLeDiff, Nat.reduceEqDiff, Nat.reduceDiv, Nat.reduceMod, Int.reduceAdd, Int.reduceSub, Int.reduceMul, Int.reduceDiv, Int.reduceMod, Int.reduceLT, Int.reduceLE, Int.reduceEq, Int.reduceToNat, Int.reducePow, Int.reduceNeg, ne_eq, not_false_eq_true, not_true_eq_false, decide_true, decide_false, Bool.not_true, Bool.not_false, forall_const, reduceCtorEq, implies_true, beq_self_eq_true, Int.cast_ofNat_Int, reduceIte, if_true, if_false, Bool.false_eq_true, Try.ntmps64, fin_ret hE, Try.results64]
  refine ⟨fun k1 => ?_, fun k1 w' hm' => ⟨?_, hm'.below⟩⟩
  · have hi : i < xs.length := by omega
    have e1 := hs.ld1 hi
    have q1 := hs.lt hi
    have e2 := hs'.ld1 (i := i) (by omega)
    have q2 := hs'.lt (i := i) (by omega)
    refine CodeC.lex 300 Try.follows_mixed (by kernel_rfl) ?_
    simp (maxSteps := 2000000) only [go_sem, ↓dxc_true, ↓dxc_false, ↓bxc_true, ↓bxc_false, Nat.zero_add, Nat.add_zero, Nat.zero_mul, Nat.reduceBEq, Nat.reduceAdd, Nat.reduceMul, Nat.reduceSub, Nat.reduceLT, Nat.reduceLeDiff, Nat.reduceEqDiff, Nat.reduceDiv, Nat.reduceMod, Int.reduceAdd, Int.reduceSub, Int.reduceMul, Int.reduceDiv, Int.reduceMod, Int.reduceLT, Int.reduceLE, Int.reduceEq, Int.reduceToNat, Int.reducePow, Int.reduceNeg, ne_eq, not_false_eq_true, not_true_eq_false, decide_true, decide_false, Bool.not_true, Bool.not_false, forall_const, reduceCtorEq, implies_true, beq_self_eq_true, Int.cast_ofNat_Int, reduceIte, if_true, if_false, Bool.false_eq_true, Try.ntmps64, fin_ret hE, Try.results64, Int.toNat_natCast, Nat.mul_one, e1, e2]
    refine ⟨⟨by omega, by omega⟩, by omega, ⟨by omega, by omega⟩, by omega, fun k2 => ⟨⟨by omega, by omega⟩, ?_⟩, fun k2 w' hm' => ⟨?_, hm'.below⟩⟩
    rotate_left
    · have : xs ≠ ys := fun hh => k2 (by rw [hh])
      simp [this, den]
    · refine ⟨⟨i + 1, by omega, fun t ht => ?_⟩, ⟨rfl, rfl, ⟨by simp [lk], rfl, rfl, rfl, trivial⟩, SubH.refl _⟩, by simp only; omega⟩
      by_cases hti : t = i
      · subst hti
        simpa using k2
      · exact h2 t (by omega)
  · have : xs = ys := by
      apply List.ext_getElem hl
      intro t t1 t2
      have := h2 t (by omega)
      rwa [getD_lt _ _ t1, getD_lt _ _ t2] at this
    simp [this, den]

/-! ### At -/

theorem at_C (w : World) (k : Nat) (hk : k < 8) : Calls Try.prog 50 #[.int .i64 0, .int .i64 (k : Int)] w fun e w' => e = .returned (.int .i64 ((4 + k * 7 : Nat) : Int)) ∧ Bel w.heap.size w w' := by
  have hm : Mem w [] [] w := Mem.reads (by simp) (by simp)
  refine calls_of_ex [.v (.int .i64 0), .v (.int .i64 (k : Int))] _ [] 3 300 Try.func50 rfl hm (by simp [Try.ntmps50]) fun E hE => ?_
  simp (maxSteps := 2000000) only [go_sem, ↓dxc_true, ↓dxc_false, ↓bxc_true, ↓bxc_false, Nat.zero_add, Nat.add_zero, Nat.zero_mul, Nat.reduceBEq, Nat.reduceAdd, Nat.reduceMul, Nat.reduceSub, Nat.reduceLT, Nat.reduceLeDiff, Nat.reduceEqDiff, Nat.reduceDiv, Nat.reduceMod, Int.reduceAdd, Int.reduceSub, Int.reduceMul, Int.reduceDiv, Int.reduceMod, Int.reduceLT, Int.reduceLE, Int.reduceEq, Int.reduceToNat, Int.reducePow, Int.reduceNeg, ne_eq, not_false_eq_true, not_true_eq_false, decide_true, decide_false, Bool.not_true, Bool.not_false, forall_const, reduceCtorEq, implies_true, beq_self_eq_true, Int.cast_ofNat_Int, reduceIte, if_true, if_false, Bool.false_eq_true, Try.ntmps50, fin_ret hE, Try.results50]
  exact ⟨fun _ => by omega, fun _ => ⟨fun _ => by omega, fun _ => ⟨⟨by omega, by omega⟩, ⟨by omega, by omega⟩, fun w' hm' => ⟨by simp [den], hm'.below⟩⟩⟩⟩

theorem kind_none {xs ys : List Int} {many : Nat} (h1 : xs.length = many) (h2 : sX xs = none) : kindS xs ys many = 0 := by simp [kindS, h1, h2]
theorem kind_some {xs ys : List Int} {many i : Nat} (h1 : xs.length = many) (h2 : sX xs = some i) : kindS xs ys many = if xs = ys then 1 else 2 := by simp [kindS, h1, h2]

theorem kind_N (w : World) (ba oa ca : Nat) (xs : List Int) (la : List SV) (Ta : Nat) (za : Nat × Nat) (hn : 0 < xs.length ∧ xs.length ≤ 1000000)
    (h : w.heap[ba]? = some (denO (.z la Ta za))) (hs : Seg la oa .u32 xs) :
    Calls Try.prog 47 #[den (.s 101 ba oa xs.length ca), den (.v (.slice none 0 0)), .int .i64 (xs.length : Int)] w fun e w' => e = .returned (.int .i64 (kindS xs [] xs.length)) ∧ Bel w.heap.size w w' := by
  have hm : Mem w [] [⟨101, ba, false, .z la Ta za⟩] w := Mem.reads (by simpa using h) (by simp)
  refine calls_of_ex [.s 101 ba oa xs.length ca, .v (.slice none 0 0), .v (.int .i64 (xs.length : Int))] _ [] 3 300 Try.func47 rfl hm (by simp [Try.ntmps47]) fun E hE => ?_
  simp (maxSteps := 2000000) only [go_sem, ↓dxc_true, ↓dxc_false, ↓bxc_true, ↓bxc_false, Nat.zero_add, Nat.add_zero, Nat.zero_mul, Nat.reduceBEq, Nat.reduceAdd, Nat.reduceMul, Nat.reduceSub, Nat.reduceLT, Nat.reduceLeDiff, Nat.reduceEqDiff, Nat.reduceDiv, Nat.reduceMod, Int.reduceAdd, Int.reduceSub, Int.reduceMul, Int.reduceDiv, Int.reduceMod, Int.reduceLT, Int.reduceLE, Int.reduceEq, Int.reduceToNat, Int.reducePow, Int.reduceNeg, ne_eq, not_false_eq_true, not_true_eq_false, decide_true, decide_false, Bool.not_true, Bool.not_false, forall_const, reduceCtorEq, implies_true, beq_self_eq_true, Int.cast_ofNat_Int, reduceIte, if_true, if_false, Bool.false_eq_true, Try.ntmps47, fin_ret hE, Try.results47]
  refine CallC.pur (.v (.bool (sX xs).isSome)) 300 (fun w1 hm1 => contains_C w1 ba oa ca xs la Ta za hn.2 (hm1.at (t := 101) rfl) hs) ?_
  cases hX : sX xs with
  | none =>
    have kk : kindS xs [] xs.length = 0 := kind_none rfl hX
    simp (maxSteps := 2000000) only [go_sem, ↓dxc_true, ↓dxc_false, ↓bxc_true, ↓bxc_false, Nat.zero_add, Nat.add_zero, Nat.zero_mul, Nat.reduceBEq, Nat.reduceAdd, Nat.reduceMul, Nat.reduceSub, Nat.reduceLT, Nat.reduceLeDiff, Nat.reduceEqDiff, Nat.reduceDiv, Nat.reduceMod, Int.reduceAdd, Int.reduceSub, Int.reduceMul, Int.reduceDiv, Int.reduceMod, Int.reduceLT, Int.reduceLE, Int.reduceEq, Int.reduceToNat, Int.reducePow, Int.reduceNeg, ne_eq, not_false_eq_true, not_true_eq_false, decide_true, decide_false, Bool.not_true, Bool.not_false, forall_const, reduceCtorEq, implies_true, beq_self_eq_true, Int.cast_ofNat_Int, reduceIte, if_true, if_false, Bool.false_eq_true, Try.ntmps47, fin_ret hE, Try.results47, kk, Option.isSome_none]
    exact fun w' hm' => ⟨rfl, hm'.below⟩
  | some i =>
    have kk : kindS xs [] xs.length = 2 := by rw [kind_some rfl hX, if_neg (by intro hh; rw [hh] at hn; simp at hn)]
    simp (maxSteps := 2000000) only [go_sem, ↓dxc_true, ↓dxc_false, ↓bxc_true, ↓bxc_false, Nat.zero_add, Nat.add_zero, Nat.zero_mul, Nat.reduceBEq, Nat.reduceAdd, Nat.reduceMul, Nat.reduceSub, Nat.reduceLT, Nat.reduceLeDiff, Nat.reduceEqDiff, Nat.reduceDiv, Nat.reduceMod, Int.reduceAdd, Int.reduceSub, Int.reduceMul, Int.reduceDiv, Int.reduceMod, Int.reduceLT, Int.reduceLE, Int.reduceEq, Int.reduceToNat, Int.reducePow, Int.reduceNeg, ne_eq, not_false_eq_true, not_true_eq_false, decide_true, decide_false, Bool.not_true, Bool.not_false, forall_const, reduceCtorEq, implies_true, beq_self_eq_true, Int.cast_ofNat_Int, reduceIte, if_true, if_false, Bool.false_eq_true, Try.ntmps47, fin_ret hE, Try.results47, kk, Option.isSome_some]
    refine CallC.pur (.v (.bool false)) 300 (fun w1 hm1 => equal_N w1 ba oa ca xs.length hn.1) ?_
    simp (maxSteps := 2000000) only [go_sem, ↓dxc_true, ↓dxc_false, ↓bxc_true, ↓bxc_false, Nat.zero_add, Nat.add_zero, Nat.zero_mul, Nat.reduceBEq, Nat.reduceAdd, Nat.reduceMul, Nat.reduceSub, Nat.reduceLT, Nat.reduceLeDiff, Nat.reduceEqDiff, Nat.reduceDiv, Nat.reduceMod, Int.reduceAdd, Int.reduceSub, Int.reduceMul, Int.reduceDiv, Int.reduceMod, Int.reduceLT, Int.reduceLE, Int.reduceEq, Int.reduceToNat, Int.reducePow, Int.reduceNeg, ne_eq, not_false_eq_true, not_true_eq_false, decide_true, decide_false, Bool.not_true, Bool.not_false, forall_const, reduceCtorEq, implies_true, beq_self_eq_true, Int.cast_ofNat_Int, reduceIte, if_true, if_false, Bool.false_eq_true, Try.ntmps47, fin_ret hE, Try.results47, kk]
    exact fun w' hm' => ⟨rfl, hm'.below⟩

theorem kind_C (w : World) (ba oa ca bb ob cb : Nat) (xs ys : List Int) (la lb : List SV) (Ta Tb : Nat) (za zb : Nat × Nat) (hn : 0 < xs.length ∧ xs.length ≤ 1000000) (hl : xs.length = ys.length)
    (h : w.heap[ba]? = some (denO (.z la Ta za))) (hs : Seg la oa .u32 xs) (h' : w.heap[bb]? = some (denO (.z lb Tb zb))) (hs' : Seg lb ob .u32 ys) :
    Calls Try.prog 47 #[den (.s 101 ba oa xs.length ca), den (.s 102 bb ob ys.length cb), .int .i64 (xs.length : Int)] w fun e w' => e = .returned (.int .i64 (kindS xs ys xs.length)) ∧ Bel w.heap.size w w' := by
  have hm : Mem w [] [⟨101, ba, false, .z la Ta za⟩, ⟨102, bb, false, .z lb Tb zb⟩] w := Mem.reads (by simpa using ⟨h, h'⟩) (by simp)
  refine calls_of_ex [.s 101 ba oa xs.length ca, .s 102 bb ob ys.length cb, .v (.int .i64 (xs.length : Int))] _ [] 3 300 Try.func47 rfl hm (by simp [Try.ntmps47]) fun E hE => ?_
  simp (maxSteps := 2000000) only [go_sem, ↓dxc_true, ↓dxc_false, ↓bxc_true, ↓bxc_false, Nat.zero_add, Nat.add_zero, Nat.zero_mul, Nat.reduceBEq, Nat.reduceAdd, Nat.reduceMul, Nat.reduceSub, Nat.reduceLT, Nat.reduceLeDiff, Nat.reduceEqDiff, Nat.reduceDiv, Nat.reduceMod, Int.reduceAdd, Int.reduceSub, Int.reduceMul, Int.reduceDiv, Int.reduceMod, Int.reduceLT, Int.reduceLE, Int.reduceEq, Int.reduceToNat, Int.reducePow, Int.reduceNeg, ne_eq, not_false_eq_true, not_true_eq_false, decide_true, decide_false, Bool.not_true, Bool.not_false, forall_const, reduceCtorEq, implies_true, beq_self_eq_true, Int.cast_ofNat_Int, reduceIte, if_true, if_false, Bool.false_eq_true, Try.ntmps47, fin_ret hE, Try.results47]
  refine CallC.pur (.v (.bool (sX xs).isSome)) 300 (fun w1 hm1 => contains_C w1 ba oa ca xs la Ta za hn.2 (hm1.at (t := 101) rfl) hs) ?_
  cases hX : sX xs with
  | none =>
    have kk : kindS xs ys xs.length = 0 := kind_none rfl hX
    simp (maxSteps := 2000000) only [go_sem, ↓dxc_true, ↓dxc_false, ↓bxc_true, ↓bxc_false, Nat.zero_add, Nat.add_zero, Nat.zero_mul, Nat.reduceBEq, Nat.reduceAdd, Nat.reduceMul, Nat.reduceSub, Nat.reduceLT, Nat.reduceLeDiff, Nat.reduceEqDiff, Nat.reduceDiv, Nat.reduceMod, Int.reduceAdd, Int.reduceSub, Int.reduceMul, Int.reduceDiv, Int.reduceMod, Int.reduceLT, Int.reduceLE, Int.reduceEq, Int.reduceToNat, Int.reducePow, Int.reduceNeg, ne_eq, not_false_eq_true, not_true_eq_false, decide_true, decide_false, Bool.not_true, Bool.not_false, forall_const, reduceCtorEq, implies_true, beq_self_eq_true, Int.cast_ofNat_Int, reduceIte, if_true, if_false, Bool.false_eq_true, Try.ntmps47, fin_ret hE, Try.results47, kk, Option.isSome_none]
    exact fun w' hm' => ⟨rfl, hm'.below⟩
  | some i =>
    have kk : kindS xs ys xs.length = if xs = ys then 1 else 2 := kind_some rfl hX
    simp (maxSteps := 2000000) only [go_sem, ↓dxc_true, ↓dxc_false, ↓bxc_true, ↓bxc_false, Nat.zero_add, Nat.add_zero, Nat.zero_mul, Nat.reduceBEq, Nat.reduceAdd, Nat.reduceMul, Nat.reduceSub, Nat.reduceLT, Nat.reduceLeDiff, Nat.reduceEqDiff, Nat.reduceDiv, Nat.reduceMod, Int.reduceAdd, Int.reduceSub, Int.reduceMul, Int.reduceDiv, Int.reduceMod, Int.reduceLT, Int.reduceLE, Int.reduceEq, Int.reduceToNat, Int.reducePow, Int.reduceNeg, ne_eq, not_false_eq_true, not_true_eq_false, decide_true, decide_false, Bool.not_true, Bool.not_false, forall_const, reduceCtorEq, implies_true, beq_self_eq_true, Int.cast_ofNat_Int, reduceIte, if_true, if_false, Bool.false_eq_true, Try.ntmps47, fin_ret hE, Try.results47, kk, Option.isSome_some]
    refine CallC.pur (.v (.bool (decide (xs = ys)))) 300 (fun w1 hm1 => equal_C w1 ba oa ca bb ob cb xs ys la lb Ta Tb za zb hn.2 hl (hm1.at (t := 101) rfl) hs (hm1.at (t := 102) rfl) hs') ?_
    simp (maxSteps := 2000000) only [go_sem, ↓dxc_true, ↓dxc_false, ↓bxc_true, ↓bxc_false, Nat.zero_add, Nat.add_zero, Nat.zero_mul, Nat.reduceBEq, Nat.reduceAdd, Nat.reduceMul, Nat.reduceSub, Nat.reduceLT, Nat.reduceLeDiff, Nat.reduceEqDiff, Nat.reduceDiv, Nat.reduceMod, Int.reduceAdd, Int.reduceSub, Int.reduceMul, Int.reduceDiv, Int.reduceMod, Int.reduceLT, Int.reduceLE, Int.reduceEq, Int.reduceToNat, Int.reducePow, Int.reduceNeg, ne_eq, not_false_eq_true, not_true_eq_false, decide_true, decide_false, Bool.not_true, Bool.not_false, forall_const, reduceCtorEq, implies_true, beq_self_eq_true, Int.cast_ofNat_Int, reduceIte, if_true, if_false, Bool.false_eq_true, Try.ntmps47, fin_ret hE, Try.results47, kk]
    refine ⟨fun k w' hm' => ⟨by rw [if_pos k]; rfl, hm'.below⟩, fun k w' hm' => ⟨by rw [if_neg k]; rfl, hm'.below⟩⟩

/-! ### Header, Count -/

def headS (x : Int) : List Int := if x > 2147483648 then [] else [2970353665, x, 4294967295 - x, 1526644958]
def countS (xs : List Int) : Int × Int := let k := kindS xs (headS (xs.getD 1 0)) 4; if k = 1 then (xs.getD 1 0, k) else (0, k)

theorem ixor_ones {x : Int} (h : 0 ≤ x ∧ x ≤ 4294967295) : ixor 4294967295 x = 4294967295 - x := by
  obtain ⟨m, rfl⟩ := Int.eq_ofNat_of_zero_le h.1
  have hm : m < 2 ^ 32 := by omega
  have e : (2 ^ 32 - 1) ^^^ m = 2 ^ 32 - (m + 1) := by
    apply Nat.eq_of_testBit_eq
    intro i
    rw [Nat.testBit_xor, Nat.testBit_two_pow_sub_one, Nat.testBit_two_pow_sub_succ hm]
    by_cases hi : i < 32
    · simp [hi]
    · have : m.testBit i = false := Nat.testBit_lt_two_pow (Nat.lt_of_lt_of_le hm (Nat.pow_le_pow_right (by omega) (by omega)))
      simp [hi, this]
  unfold ixor
  show (((4294967295 ^^^ m : Nat)) : Int) = _
  have e' : (4294967295 : Nat) ^^^ m = 4294967296 - (m + 1) := e
  rw [e']
  omega

theorem and31 {m : Nat} (hm : m < 2 ^ 32) : m &&& 2 ^ 31 = if 2 ^ 31 ≤ m then 2 ^ 31 else 0 := by
  apply Nat.eq_of_testBit_eq
  intro i
  rw [Nat.testBit_and, Nat.testBit_two_pow]
  by_cases hi : 31 = i
  · subst hi
    have : m.testBit 31 = decide (2 ^ 31 ≤ m) := by
      rw [Nat.testBit_eq_decide_div_mod_eq]
      congr 1
      apply propext
      omega
    rw [this]
    split
    · rename_i h; simp only [h, decide_true, Bool.and_self, Nat.testBit_two_pow_self]
    · rename_i h; simp [h]
  · split
    · rw [Nat.testBit_two_pow]; simp [hi]
    · simp [hi]

theorem iand31 {x : Int} (h : 0 ≤ x ∧ x ≤ 4294967295) : iand x 2147483648 = if 2147483648 ≤ x then 2147483648 else 0 := by
  obtain ⟨m, rfl⟩ := Int.eq_ofNat_of_zero_le h.1
  have e : m &&& 2147483648 = if 2147483648 ≤ m then 2147483648 else 0 := and31 (m := m) (by omega)
  unfold iand
  show (((m &&& 2147483648 : Nat)) : Int) = _
  rw [e]
  split <;> split <;> omega

theorem iandn31 {x : Int} (h : 0 ≤ x ∧ x ≤ 4294967295) : iandn x 2147483648 = x % 2147483648 := by
  obtain ⟨m, rfl⟩ := Int.eq_ofNat_of_zero_le h.1
  have e : m &&& 2147483648 = if 2147483648 ≤ m then 2147483648 else 0 := and31 (m := m) (by omega)
  unfold iandn
  show (((m - (m &&& 2147483648) : Nat)) : Int) = _
  rw [e]
  split <;> omega

theorem ior31 {x : Int} (h : 0 ≤ x ∧ x < 2147483648) : ior x 2147483648 = x + 2147483648 := by
  obtain ⟨m, rfl⟩ := Int.eq_ofNat_of_zero_le h.1
  have hm : m < 2 ^ 31 := by omega
  have e := Nat.two_pow_add_eq_or_of_lt hm 1
  unfold ior
  show (((m ||| 2147483648 : Nat)) : Int) = _
  have e' : 2147483648 + m = 2147483648 ||| m := by simpa using e
  rw [Nat.or_comm, ← e']
  omega

theorem header_N (w : World) (x : Int) (hx : x > 2147483648) : Calls Try.prog 48 #[.int .u32 x] w fun e w' => e = .returned (.slice none 0 0) ∧ Bel w.heap.size w w' := by
  have hm : Mem w [] [] w := Mem.reads (by simp) (by simp)
  refine calls_of_ex [.v (.int .u32 x)] _ [] 3 300 Try.func48 rfl hm (by simp [Try.ntmps48]) fun E hE => ?_
  simp (maxSteps := 2000000) only [go_sem, ↓dxc_true, ↓dxc_false, ↓bxc_true, ↓bxc_false, Nat.zero_add, Nat.add_zero, Nat.zero_mul, Nat.reduceBEq, Nat.reduceAdd, Nat.reduceMul, Nat.reduceSub, Nat.reduceLT, Nat.reduceLeDiff, Nat.reduceEqDiff, Nat.reduceDiv, Nat.reduceMod, Int.reduceAdd, Int.reduceSub, Int.reduceMul, Int.reduceDiv, Int.reduceMod, Int.reduceLT, Int.reduceLE, Int.reduceEq, Int.reduceToNat, Int.reducePow, Int.reduceNeg, ne_eq, not_false_eq_true, not_true_eq_false, decide_true, decide_false, Bool.not_true, Bool.not_false, forall_const, reduceCtorEq, implies_true, beq_self_eq_true, Int.cast_ofNat_Int, reduceIte, if_true, if_false, Bool.false_eq_true, Try.ntmps48, fin_ret hE, Try.results48]
  exact ⟨fun _ w' hm' => ⟨rfl, hm'.below⟩, fun _ => by omega⟩

theorem header_C (w : World) (x : Int) (h0 : 0 ≤ x) (hx : ¬ x > 2147483648) : Calls Try.prog 48 #[.int .u32 x] w fun e w' => ∃ b, e = .returned (den (.s 100 b 0 4 4)) ∧ w.heap.size ≤ b ∧ w'.heap[b]? = some (denO (.z (nums .u32 (headS x)) 23 (0, 0))) ∧ Bel w.heap.size w w' := by
  have hm : Mem w [] [] w := Mem.reads (by simp) (by simp)
  refine calls_of_ex [.v (.int .u32 x)] _ [] 3 300 Try.func48 rfl hm (by simp [Try.ntmps48]) fun E hE => ?_
  have e1 := ixor_ones (x := x) ⟨h0, by omega⟩
  simp (maxSteps := 2000000) only [go_sem, ↓dxc_true, ↓dxc_false, ↓bxc_true, ↓bxc_false, Nat.zero_add, Nat.add_zero, Nat.zero_mul, Nat.reduceBEq, Nat.reduceAdd, Nat.reduceMul, Nat.reduceSub, Nat.reduceLT, Nat.reduceLeDiff, Nat.reduceEqDiff, Nat.reduceDiv, Nat.reduceMod, Int.reduceAdd, Int.reduceSub, Int.reduceMul, Int.reduceDiv, Int.reduceMod, Int.reduceLT, Int.reduceLE, Int.reduceEq, Int.reduceToNat, Int.reducePow, Int.reduceNeg, ne_eq, not_false_eq_true, not_true_eq_false, decide_true, decide_false, Bool.not_true, Bool.not_false, forall_const, reduceCtorEq, implies_true, beq_self_eq_true, Int.cast_ofNat_Int, reduceIte, if_true, if_false, Bool.false_eq_true, Try.ntmps48, fin_ret hE, Try.results48, e1]
  refine ⟨fun _ => by omega, fun _ => ⟨⟨by omega, by omega⟩, fun b w' hm' => ⟨b, rfl, ?_, ?_, hm'.below⟩⟩⟩
  · simpa using hm'.wr _ List.mem_cons_self rfl
  · rw [headS, if_neg hx]
    exact hm'.at (t := 3) rfl

/-- Numbers that fit 32 bits. -/
def U32 (xs : List Int) : Prop := ∀ i, i < xs.length → 0 ≤ xs.getD i 0 ∧ xs.getD i 0 ≤ 4294967295

theorem headS_len {x : Int} (hx : ¬ x > 2147483648) : (headS x).length = 4 := by rw [headS, if_neg hx]; rfl

theorem count_C (w : World) (ba oa ca : Nat) (xs : List Int) (la : List SV) (Ta : Nat) (za : Nat × Nat) (hn : xs.length = 4) (hu : U32 xs)
    (h : w.heap[ba]? = some (denO (.z la Ta za))) (hs : Seg la oa .u32 xs) :
    Calls Try.prog 39 #[den (.s 101 ba oa 4 ca)] w fun e w' => e = .returned (den (.u [.v (.int .u32 (countS xs).1), .v (.int .i64 (countS xs).2)])) ∧ Bel w.heap.size w w' := by
  have hm : Mem w [] [⟨101, ba, false, .z la Ta za⟩] w := Mem.reads (by simpa using h) (by simp)
  refine calls_of_ex [.s 101 ba oa 4 ca] _ [] 3 300 Try.func39 rfl hm (by simp [Try.ntmps39]) fun E hE => ?_
  have e1 := hs.ld1 (i := 1) (by omega)
  have q1 := hs.lt (i := 1) (by omega)
  obtain ⟨u1, u2⟩ := hu 1 (by omega)
  obtain ⟨x, hx⟩ : ∃ x, x = xs.getD 1 0 := ⟨_, rfl⟩
  rw [← hx] at e1 u1 u2
  have fin : ∀ k : Int, kindS xs (headS x) 4 = k → (k = 1 → countS xs = (x, 1)) ∧ (k ≠ 1 → countS xs = (0, k)) := by
    intro k hk
    unfold countS
    rw [← hx, hk]
    constructor
    · intro h; simp [h]
    · intro h; simp [h]
  by_cases hb : x > 2147483648
  · simp (maxSteps := 2000000) only [go_sem, ↓dxc_true, ↓dxc_false, ↓bxc_true, ↓bxc_false, Nat.zero_add, Nat.add_zero, Nat.zero_mul, Nat.reduceBEq, Nat.reduceAdd, Nat.reduceMul, Nat.reduceSub, Nat.reduceLT, Nat.reduceLeDiff, Nat.reduceEqDiff, Nat.reduceDiv, Nat.reduceMod, Int.reduceAdd, Int.reduceSub, Int.reduceMul, Int.reduceDiv, Int.reduceMod, Int.reduceLT, Int.reduceLE, Int.reduceEq, Int.reduceToNat, Int.reducePow, Int.reduceNeg, ne_eq, not_false_eq_true, not_true_eq_false, decide_true, decide_false, Bool.not_true, Bool.not_false, forall_const, reduceCtorEq, implies_true, beq_self_eq_true, Int.cast_ofNat_Int, reduceIte, if_true, if_false, Bool.false_eq_true, Try.ntmps39, fin_ret hE, Try.results39, e1]
    refine ⟨by omega, ?_⟩
    refine CallC.pur (.v (.slice none 0 0)) 300 (fun w1 hm1 => header_N w1 x hb) ?_
    simp (maxSteps := 2000000) only [go_sem, ↓dxc_true, ↓dxc_false, ↓bxc_true, ↓bxc_false, Nat.zero_add, Nat.add_zero, Nat.zero_mul, Nat.reduceBEq, Nat.reduceAdd, Nat.reduceMul, Nat.reduceSub, Nat.reduceLT, Nat.reduceLeDiff, Nat.reduceEqDiff, Nat.reduceDiv, Nat.reduceMod, Int.reduceAdd, Int.reduceSub, Int.reduceMul, Int.reduceDiv, Int.reduceMod, Int.reduceLT, Int.reduceLE, Int.reduceEq, Int.reduceToNat, Int.reducePow, Int.reduceNeg, ne_eq, not_false_eq_true, not_true_eq_false, decide_true, decide_false, Bool.not_true, Bool.not_false, forall_const, reduceCtorEq, implies_true, beq_self_eq_true, Int.cast_ofNat_Int, reduceIte, if_true, if_false, Bool.false_eq_true, Try.ntmps39, fin_ret hE, Try.results39]
    have hh : headS x = [] := by rw [headS, if_pos hb]
    obtain ⟨k, hk⟩ : ∃ k, kindS xs [] 4 = k := ⟨_, rfl⟩
    obtain ⟨f1, f2⟩ := fin k (by rw [hh]; exact hk)
    refine CallC.pur (.v (.int .i64 k)) 300 (fun w1 hm1 => ?_) ?_
    · have := kind_N w1 ba oa ca xs la Ta za ⟨by omega, by omega⟩ (hm1.at (t := 101) rfl) hs
      rw [hn, hk] at this
      exact this
    by_cases hk1 : k = 1
    · have f := f1 hk1
      subst hk1
      simp (maxSteps := 2000000) only [go_sem, ↓dxc_true, ↓dxc_false, ↓bxc_true, ↓bxc_false, Nat.zero_add, Nat.add_zero, Nat.zero_mul, Nat.reduceBEq, Nat.reduceAdd, Nat.reduceMul, Nat.reduceSub, Nat.reduceLT, Nat.reduceLeDiff, Nat.reduceEqDiff, Nat.reduceDiv, Nat.reduceMod, Int.reduceAdd, Int.reduceSub, Int.reduceMul, Int.reduceDiv, Int.reduceMod, Int.reduceLT, Int.reduceLE, Int.reduceEq, Int.reduceToNat, Int.reducePow, Int.reduceNeg, ne_eq, not_false_eq_true, not_true_eq_false, decide_true, decide_false, Bool.not_true, Bool.not_false, forall_const, reduceCtorEq, implies_true, beq_self_eq_true, Int.cast_ofNat_Int, reduceIte, if_true, if_false, Bool.false_eq_true, Try.ntmps39, fin_ret hE, Try.results39, e1, f]
      exact ⟨by omega, fun w' hm' => hm'.below⟩
    · have f := f2 hk1
      simp (maxSteps := 2000000) only [go_sem, ↓dxc_true, ↓dxc_false, ↓bxc_true, ↓bxc_false, Nat.zero_add, Nat.add_zero, Nat.zero_mul, Nat.reduceBEq, Nat.reduceAdd, Nat.reduceMul, Nat.reduceSub, Nat.reduceLT, Nat.reduceLeDiff, Nat.reduceEqDiff, Nat.reduceDiv, Nat.reduceMod, Int.reduceAdd, Int.reduceSub, Int.reduceMul, Int.reduceDiv, Int.reduceMod, Int.reduceLT, Int.reduceLE, Int.reduceEq, Int.reduceToNat, Int.reducePow, Int.reduceNeg, ne_eq, not_false_eq_true, not_true_eq_false, decide_true, decide_false, Bool.not_true, Bool.not_false, forall_const, reduceCtorEq, implies_true, beq_self_eq_true, Int.cast_ofNat_Int, reduceIte, if_true, if_false, Bool.false_eq_true, Try.ntmps39, fin_ret hE, Try.results39, e1, f, hk1]
      exact fun w' hm' => hm'.below
  · simp (maxSteps := 2000000) only [go_sem, ↓dxc_true, ↓dxc_false, ↓bxc_true, ↓bxc_false, Nat.zero_add, Nat.add_zero, Nat.zero_mul, Nat.reduceBEq, Nat.reduceAdd, Nat.reduceMul, Nat.reduceSub, Nat.reduceLT, Nat.reduceLeDiff, Nat.reduceEqDiff, Nat.reduceDiv, Nat.reduceMod, Int.reduceAdd, Int.reduceSub, Int.reduceMul, Int.reduceDiv, Int.reduceMod, Int.reduceLT, Int.reduceLE, Int.reduceEq, Int.reduceToNat, Int.reducePow, Int.reduceNeg, ne_eq, not_false_eq_true, not_true_eq_false, decide_true, decide_false, Bool.not_true, Bool.not_false, forall_const, reduceCtorEq, implies_true, beq_self_eq_true, Int.cast_ofNat_Int, reduceIte, if_true, if_false, Bool.false_eq_true, Try.ntmps39, fin_ret hE, Try.results39, e1]
    refine ⟨by omega, ?_⟩
    refine CallC.new (γ := Unit) (fun _ b => .s 3 b 0 4 4) (fun _ => .a (nums .u32 (headS x)) 23) 300 (fun w1 hm1 => ?_) ?_
    · refine (header_C w1 x u1 hb).mono ?_
      rintro e w' ⟨b, rfl, h1, h2, h3⟩
      exact ⟨(), b, rfl, h1, h2, h3⟩
    refine ⟨by simp (maxSteps := 2000000) only [go_sem, ↓dxc_true, ↓dxc_false, ↓bxc_true, ↓bxc_false, Nat.zero_add, Nat.add_zero, Nat.zero_mul, Nat.reduceBEq, Nat.reduceAdd, Nat.reduceMul, Nat.reduceSub, Nat.reduceLT, Nat.reduceLeDiff, Nat.reduceEqDiff, Nat.reduceDiv, Nat.reduceMod, Int.reduceAdd, Int.reduceSub, Int.reduceMul, Int.reduceDiv, Int.reduceMod, Int.reduceLT, Int.reduceLE, Int.reduceEq, Int.reduceToNat, Int.reducePow, Int.reduceNeg, ne_eq, not_false_eq_true, not_true_eq_false, decide_true, decide_false, Bool.not_true, Bool.not_false, forall_const, reduceCtorEq, implies_true, beq_self_eq_true, Int.cast_ofNat_Int, reduceIte, if_true, if_false, Bool.false_eq_true, Try.ntmps39], ?_⟩
    intro _ b
    simp (maxSteps := 2000000) only [go_sem, ↓dxc_true, ↓dxc_false, ↓bxc_true, ↓bxc_false, Nat.zero_add, Nat.add_zero, Nat.zero_mul, Nat.reduceBEq, Nat.reduceAdd, Nat.reduceMul, Nat.reduceSub, Nat.reduceLT, Nat.reduceLeDiff, Nat.reduceEqDiff, Nat.reduceDiv, Nat.reduceMod, Int.reduceAdd, Int.reduceSub, Int.reduceMul, Int.reduceDiv, Int.reduceMod, Int.reduceLT, Int.reduceLE, Int.reduceEq, Int.reduceToNat, Int.reducePow, Int.reduceNeg, ne_eq, not_false_eq_true, not_true_eq_false, decide_true, decide_false, Bool.not_true, Bool.not_false, forall_const, reduceCtorEq, implies_true, beq_self_eq_true, Int.cast_ofNat_Int, reduceIte, if_true, if_false, Bool.false_eq_true, Try.ntmps39, fin_ret hE, Try.results39]
    obtain ⟨k, hk⟩ : ∃ k, kindS xs (headS x) 4 = k := ⟨_, rfl⟩
    obtain ⟨f1, f2⟩ := fin k hk
    refine CallC.pur (.v (.int .i64 k)) 300 (fun w1 hm1 => ?_) ?_
    · have sg : Seg (nums .u32 (headS x)) 0 .u32 (headS x) := by
        have := Seg.own .u32 (headS x) []
        rwa [List.append_nil] at this
      have hl := headS_len hb
      have := kind_C w1 ba oa ca b 0 4 xs (headS x) la (nums .u32 (headS x)) Ta 23 za (0, 0) ⟨by omega, by omega⟩ (by omega) (hm1.at (t := 101) rfl) hs (hm1.at (t := 3) rfl) sg
      rw [hn, hk, hl] at this
      exact this
    by_cases hk1 : k = 1
    · have f := f1 hk1
      subst hk1
      simp (maxSteps := 2000000) only [go_sem, ↓dxc_true, ↓dxc_false, ↓bxc_true, ↓bxc_false, Nat.zero_add, Nat.add_zero, Nat.zero_mul, Nat.reduceBEq, Nat.reduceAdd, Nat.reduceMul, Nat.reduceSub, Nat.reduceLT, Nat.reduceLeDiff, Nat.reduceEqDiff, Nat.reduceDiv, Nat.reduceMod, Int.reduceAdd, Int.reduceSub, Int.reduceMul, Int.reduceDiv, Int.reduceMod, Int.reduceLT, Int.reduceLE, Int.reduceEq, Int.reduceToNat, Int.reducePow, Int.reduceNeg, ne_eq, not_false_eq_true, not_true_eq_false, decide_true, decide_false, Bool.not_true, Bool.not_false, forall_const, reduceCtorEq, implies_true, beq_self_eq_true, Int.cast_ofNat_Int, reduceIte, if_true, if_false, Bool.false_eq_true, Try.ntmps39, fin_ret hE, Try.results39, e1, f]
      exact ⟨by omega, fun w' hm' => hm'.below⟩
    · have f := f2 hk1
      simp (maxSteps := 2000000) only [go_sem, ↓dxc_true, ↓dxc_false, ↓bxc_true, ↓bxc_false, Nat.zero_add, Nat.add_zero, Nat.zero_mul, Nat.reduceBEq, Nat.reduceAdd, Nat.reduceMul, Nat.reduceSub, Nat.reduceLT, Nat.reduceLeDiff, Nat.reduceEqDiff, Nat.reduceDiv, Nat.reduceMod, Int.reduceAdd, Int.reduceSub, Int.reduceMul, Int.reduceDiv, Int.reduceMod, Int.reduceLT, Int.reduceLE, Int.reduceEq, Int.reduceToNat, Int.reducePow, Int.reduceNeg, ne_eq, not_false_eq_true, not_true_eq_false, decide_true, decide_false, Bool.not_true, Bool.not_false, forall_const, reduceCtorEq, implies_true, beq_self_eq_true, Int.cast_ofNat_Int, reduceIte, if_true, if_false, Bool.false_eq_true, Try.ntmps39, fin_ret hE, Try.results39, e1, f, hk1]
      exact fun w' hm' => hm'.below

end Go.Proofs
