/- Contracts of the reference's fields of bits. -/
import Derived.Test.YtmmjmgnbffameaaDyB4
set_option linter.unusedSimpArgs false
set_option linter.unusedVariables false
set_option maxRecDepth 100000
namespace Go.Proofs
open Go.Dx Go.RowKit

theorem power_C (w : World) (n : Nat) (hn : n ≤ 31) :
    Calls Try.prog 33 #[.int .i64 (n : Int)] w fun e w' => e = .returned (.int .u32 ((2 ^ n : Nat) : Int)) ∧ Below w.heap.size w w' := by
  have hm : Mem w [] [] w := Mem.reads (by simp) (by simp)
  refine calls_of_ex [.v (.int .i64 (n : Int))] _ [] 0 100 Try.func33 rfl hm (by simp [Try.ntmps33]) fun E hE => ?_
  simp only [go_sem, Nat.zero_add, Nat.add_zero, Nat.zero_mul, Nat.reduceBEq, Nat.reduceAdd, Nat.reduceMul, Nat.reduceSub, Nat.reduceLT, Nat.reduceLeDiff, Nat.reduceEqDiff, Nat.reduceDiv, Nat.reduceMod, Int.reduceAdd, Int.reduceSub, Int.reduceMul, Int.reduceDiv, Int.reduceMod, Int.reduceLT, Int.reduceLE, Int.reduceEq, Int.reduceToNat, Int.reducePow, Int.reduceNeg, ne_eq, not_false_eq_true, not_true_eq_false, decide_true, decide_false, Bool.not_true, Bool.not_false, forall_const, reduceCtorEq, implies_true, beq_self_eq_true, Int.cast_ofNat_Int, reduceIte, if_true, if_false, Bool.false_eq_true, Try.ntmps33, fin_ret hE, Try.results33]
  refine CodeC.loop (γ := { i : Nat // i ≤ n }) (fun g => ⟨13, 0, [(4, .v (.int .i64 (g.1 : Int))), (3, .v (.int .u32 ((2 ^ g.1 : Nat) : Int))), (0, .v (.int .i64 (n : Int)))], [], []⟩) (fun g => n - g.1) ⟨0, by omega⟩ 200
    ⟨rfl, rfl, ⟨rfl, rfl, rfl, trivial⟩, trivial⟩ fun ⟨i, hi⟩ => ?_
  simp only [go_sem, Nat.zero_add, Nat.add_zero, Nat.zero_mul, Nat.reduceBEq, Nat.reduceAdd, Nat.reduceMul, Nat.reduceSub, Nat.reduceLT, Nat.reduceLeDiff, Nat.reduceEqDiff, Nat.reduceDiv, Nat.reduceMod, Int.reduceAdd, Int.reduceSub, Int.reduceMul, Int.reduceDiv, Int.reduceMod, Int.reduceLT, Int.reduceLE, Int.reduceEq, Int.reduceToNat, Int.reducePow, Int.reduceNeg, ne_eq, not_false_eq_true, not_true_eq_false, decide_true, decide_false, Bool.not_true, Bool.not_false, forall_const, reduceCtorEq, implies_true, beq_self_eq_true, Int.cast_ofNat_Int, reduceIte, if_true, if_false, Bool.false_eq_true, Try.ntmps33, fin_ret hE, Try.results33]
  refine ⟨fun h => ⟨by omega, ⟨i + 1, by omega⟩, ⟨rfl, rfl, ⟨?_, ?_, rfl, trivial⟩, trivial⟩, by simp only; omega⟩, fun h => ?_⟩
  · simp only [go_sem, Nat.zero_add, Nat.add_zero, Nat.zero_mul, Nat.reduceBEq, Nat.reduceAdd, Nat.reduceMul, Nat.reduceSub, Nat.reduceLT, Nat.reduceLeDiff, Nat.reduceEqDiff, Nat.reduceDiv, Nat.reduceMod, Int.reduceAdd, Int.reduceSub, Int.reduceMul, Int.reduceDiv, Int.reduceMod, Int.reduceLT, Int.reduceLE, Int.reduceEq, Int.reduceToNat, Int.reducePow, Int.reduceNeg, ne_eq, not_false_eq_true, not_true_eq_false, decide_true, decide_false, Bool.not_true, Bool.not_false, forall_const, reduceCtorEq, implies_true, beq_self_eq_true, Int.cast_ofNat_Int, reduceIte, if_true, if_false, Bool.false_eq_true]
    simp
  · simp only [go_sem, Nat.zero_add, Nat.add_zero, Nat.zero_mul, Nat.reduceBEq, Nat.reduceAdd, Nat.reduceMul, Nat.reduceSub, Nat.reduceLT, Nat.reduceLeDiff, Nat.reduceEqDiff, Nat.reduceDiv, Nat.reduceMod, Int.reduceAdd, Int.reduceSub, Int.reduceMul, Int.reduceDiv, Int.reduceMod, Int.reduceLT, Int.reduceLE, Int.reduceEq, Int.reduceToNat, Int.reducePow, Int.reduceNeg, ne_eq, not_false_eq_true, not_true_eq_false, decide_true, decide_false, Bool.not_true, Bool.not_false, forall_const, reduceCtorEq, implies_true, beq_self_eq_true, Int.cast_ofNat_Int, reduceIte, if_true, if_false, Bool.false_eq_true]
    have h1 : 2 ^ (i + 1) ≤ 2 ^ 31 := Nat.pow_le_pow_right (by omega) (by omega)
    rw [Nat.pow_succ] at h1 ⊢
    congr 2
    omega
  · have : i = n := by omega
    subst this
    exact fun w' hm' => ⟨rfl, hm'.below⟩

theorem bit_C (w : World) (x n : Nat) (hx : x < 4294967296) (hn : n ≤ 31) :
    Calls Try.prog 32 #[.int .u32 (x : Int), .int .i64 (n : Int)] w fun e w' => e = .returned (.int .u32 ((x / 2 ^ n % 2 : Nat) : Int)) ∧ Below w.heap.size w w' := by
  have hm : Mem w [] [] w := Mem.reads (by simp) (by simp)
  refine calls_of_ex [.v (.int .u32 (x : Int)), .v (.int .i64 (n : Int))] _ [] 0 100 Try.func32 rfl hm (by simp [Try.ntmps32]) fun E hE => ?_
  simp only [go_sem, Nat.zero_add, Nat.add_zero, Nat.zero_mul, Nat.reduceBEq, Nat.reduceAdd, Nat.reduceMul, Nat.reduceSub, Nat.reduceLT, Nat.reduceLeDiff, Nat.reduceEqDiff, Nat.reduceDiv, Nat.reduceMod, Int.reduceAdd, Int.reduceSub, Int.reduceMul, Int.reduceDiv, Int.reduceMod, Int.reduceLT, Int.reduceLE, Int.reduceEq, Int.reduceToNat, Int.reducePow, Int.reduceNeg, ne_eq, not_false_eq_true, not_true_eq_false, decide_true, decide_false, Bool.not_true, Bool.not_false, forall_const, reduceCtorEq, implies_true, beq_self_eq_true, Int.cast_ofNat_Int, reduceIte, if_true, if_false, Bool.false_eq_true, Try.ntmps32, fin_ret hE, Try.results32]
  refine ⟨fun h => absurd h (by omega), fun h => ⟨fun h2 => absurd h2 (by omega), fun h2 => ?_⟩⟩
  refine CallC.pur (.v (.int .u32 ((2 ^ n : Nat) : Int))) 100 (fun w1 hm1 => power_C w1 n hn) ?_
  simp only [go_sem, Nat.zero_add, Nat.add_zero, Nat.zero_mul, Nat.reduceBEq, Nat.reduceAdd, Nat.reduceMul, Nat.reduceSub, Nat.reduceLT, Nat.reduceLeDiff, Nat.reduceEqDiff, Nat.reduceDiv, Nat.reduceMod, Int.reduceAdd, Int.reduceSub, Int.reduceMul, Int.reduceDiv, Int.reduceMod, Int.reduceLT, Int.reduceLE, Int.reduceEq, Int.reduceToNat, Int.reducePow, Int.reduceNeg, ne_eq, not_false_eq_true, not_true_eq_false, decide_true, decide_false, Bool.not_true, Bool.not_false, forall_const, reduceCtorEq, implies_true, beq_self_eq_true, Int.cast_ofNat_Int, reduceIte, if_true, if_false, Bool.false_eq_true, Try.ntmps32, fin_ret hE, Try.results32]
  have hpos := Nat.two_pow_pos n
  have e1 : (x : Int) / ((2 ^ n : Nat) : Int) = ((x / 2 ^ n : Nat) : Int) := (Int.natCast_ediv _ _).symm
  have e2 : ((x / 2 ^ n : Nat) : Int) % 2 = ((x / 2 ^ n % 2 : Nat) : Int) := by omega
  rw [e1, e2]
  exact ⟨⟨by omega, by omega, by omega⟩, Int.natCast_nonneg _, fun w' hm' => ⟨rfl, hm'.below⟩⟩

theorem set_C (w : World) (x n b : Nat) (hx : x < 4294967296) (hn : n ≤ 31) (hb : b ≤ 1) :
    Calls Try.prog 31 #[.int .u32 (x : Int), .int .i64 (n : Int), .int .u32 (b : Int)] w fun e w' => e = .returned (.int .u32 (putN x n 1 b : Int)) ∧ Below w.heap.size w w' := by
  have hm : Mem w [] [] w := Mem.reads (by simp) (by simp)
  refine calls_of_ex [.v (.int .u32 (x : Int)), .v (.int .i64 (n : Int)), .v (.int .u32 (b : Int))] _ [] 0 100 Try.func31 rfl hm (by simp [Try.ntmps31]) fun E hE => ?_
  simp only [go_sem, Nat.zero_add, Nat.add_zero, Nat.zero_mul, Nat.reduceBEq, Nat.reduceAdd, Nat.reduceMul, Nat.reduceSub, Nat.reduceLT, Nat.reduceLeDiff, Nat.reduceEqDiff, Nat.reduceDiv, Nat.reduceMod, Int.reduceAdd, Int.reduceSub, Int.reduceMul, Int.reduceDiv, Int.reduceMod, Int.reduceLT, Int.reduceLE, Int.reduceEq, Int.reduceToNat, Int.reducePow, Int.reduceNeg, ne_eq, not_false_eq_true, not_true_eq_false, decide_true, decide_false, Bool.not_true, Bool.not_false, forall_const, reduceCtorEq, implies_true, beq_self_eq_true, Int.cast_ofNat_Int, reduceIte, if_true, if_false, Bool.false_eq_true, Try.ntmps31, fin_ret hE, Try.results31]
  refine ⟨fun h => absurd h (by omega), fun h => ⟨fun h2 => absurd h2 (by omega), fun h2 => ?_⟩⟩
  refine CallC.pur (.v (.int .u32 ((x / 2 ^ n % 2 : Nat) : Int))) 100 (fun w1 hm1 => bit_C w1 x n hx hn) ?_
  simp only [go_sem, Nat.zero_add, Nat.add_zero, Nat.zero_mul, Nat.reduceBEq, Nat.reduceAdd, Nat.reduceMul, Nat.reduceSub, Nat.reduceLT, Nat.reduceLeDiff, Nat.reduceEqDiff, Nat.reduceDiv, Nat.reduceMod, Int.reduceAdd, Int.reduceSub, Int.reduceMul, Int.reduceDiv, Int.reduceMod, Int.reduceLT, Int.reduceLE, Int.reduceEq, Int.reduceToNat, Int.reducePow, Int.reduceNeg, ne_eq, not_false_eq_true, not_true_eq_false, decide_true, decide_false, Bool.not_true, Bool.not_false, forall_const, reduceCtorEq, implies_true, beq_self_eq_true, Int.cast_ofNat_Int, reduceIte, if_true, if_false, Bool.false_eq_true, Try.ntmps31, fin_ret hE, Try.results31]
  refine CallC.pur (.v (.int .u32 ((2 ^ n : Nat) : Int))) 100 (fun w1 hm1 => power_C w1 n hn) ?_
  simp only [go_sem, Nat.zero_add, Nat.add_zero, Nat.zero_mul, Nat.reduceBEq, Nat.reduceAdd, Nat.reduceMul, Nat.reduceSub, Nat.reduceLT, Nat.reduceLeDiff, Nat.reduceEqDiff, Nat.reduceDiv, Nat.reduceMod, Int.reduceAdd, Int.reduceSub, Int.reduceMul, Int.reduceDiv, Int.reduceMod, Int.reduceLT, Int.reduceLE, Int.reduceEq, Int.reduceToNat, Int.reducePow, Int.reduceNeg, ne_eq, not_false_eq_true, not_true_eq_false, decide_true, decide_false, Bool.not_true, Bool.not_false, forall_const, reduceCtorEq, implies_true, beq_self_eq_true, Int.cast_ofNat_Int, reduceIte, if_true, if_false, Bool.false_eq_true, Try.ntmps31, fin_ret hE, Try.results31]
  refine CallC.pur (.v (.int .u32 ((2 ^ n : Nat) : Int))) 100 (fun w1 hm1 => power_C w1 n hn) ?_
  simp only [go_sem, Nat.zero_add, Nat.add_zero, Nat.zero_mul, Nat.reduceBEq, Nat.reduceAdd, Nat.reduceMul, Nat.reduceSub, Nat.reduceLT, Nat.reduceLeDiff, Nat.reduceEqDiff, Nat.reduceDiv, Nat.reduceMod, Int.reduceAdd, Int.reduceSub, Int.reduceMul, Int.reduceDiv, Int.reduceMod, Int.reduceLT, Int.reduceLE, Int.reduceEq, Int.reduceToNat, Int.reducePow, Int.reduceNeg, ne_eq, not_false_eq_true, not_true_eq_false, decide_true, decide_false, Bool.not_true, Bool.not_false, forall_const, reduceCtorEq, implies_true, beq_self_eq_true, Int.cast_ofNat_Int, reduceIte, if_true, if_false, Bool.false_eq_true, Try.ntmps31, fin_ret hE, Try.results31]
  rw [← two_pow_i, set_eq x n b hx hn hb]
  exact fun w' hm' => ⟨rfl, hm'.below⟩

theorem rfield_C (w : World) (x at_ n : Nat) (hx : x < 4294967296) (h : at_ + n ≤ 32) :
    Calls Try.prog 22 #[.int .u32 (x : Int), .int .i64 (at_ : Int), .int .i64 (n : Int)] w fun e w' => e = .returned (.int .u32 (fieldN x at_ n : Int)) ∧ Below w.heap.size w w' := by
  have hm : Mem w [] [] w := Mem.reads (by simp) (by simp)
  refine calls_of_ex [.v (.int .u32 (x : Int)), .v (.int .i64 (at_ : Int)), .v (.int .i64 (n : Int))] _ [] 0 100 Try.func22 rfl hm (by simp [Try.ntmps22]) fun E hE => ?_
  simp only [go_sem, Nat.zero_add, Nat.add_zero, Nat.zero_mul, Nat.reduceBEq, Nat.reduceAdd, Nat.reduceMul, Nat.reduceSub, Nat.reduceLT, Nat.reduceLeDiff, Nat.reduceEqDiff, Nat.reduceDiv, Nat.reduceMod, Int.reduceAdd, Int.reduceSub, Int.reduceMul, Int.reduceDiv, Int.reduceMod, Int.reduceLT, Int.reduceLE, Int.reduceEq, Int.reduceToNat, Int.reducePow, Int.reduceNeg, ne_eq, not_false_eq_true, not_true_eq_false, decide_true, decide_false, Bool.not_true, Bool.not_false, forall_const, reduceCtorEq, implies_true, beq_self_eq_true, Int.cast_ofNat_Int, reduceIte, if_true, if_false, Bool.false_eq_true, Try.ntmps22, fin_ret hE, Try.results22]
  refine CodeC.loop (γ := { i : Nat // i ≤ n }) (fun g => ⟨29, 0, [(8, .v (.int .i64 (g.1 : Int))), (7, .v (.int .u32 (fieldN x at_ g.1 : Int))), (0, .v (.int .u32 (x : Int))), (1, .v (.int .i64 (at_ : Int))), (2, .v (.int .i64 (n : Int)))], [], []⟩) (fun g => n - g.1) ⟨0, by omega⟩ 200
    ⟨rfl, rfl, ⟨rfl, by rw [fieldN_zero]; rfl, rfl, rfl, rfl, trivial⟩, trivial⟩ fun ⟨i, hi⟩ => ?_
  simp only [go_sem, Nat.zero_add, Nat.add_zero, Nat.zero_mul, Nat.reduceBEq, Nat.reduceAdd, Nat.reduceMul, Nat.reduceSub, Nat.reduceLT, Nat.reduceLeDiff, Nat.reduceEqDiff, Nat.reduceDiv, Nat.reduceMod, Int.reduceAdd, Int.reduceSub, Int.reduceMul, Int.reduceDiv, Int.reduceMod, Int.reduceLT, Int.reduceLE, Int.reduceEq, Int.reduceToNat, Int.reducePow, Int.reduceNeg, ne_eq, not_false_eq_true, not_true_eq_false, decide_true, decide_false, Bool.not_true, Bool.not_false, forall_const, reduceCtorEq, implies_true, beq_self_eq_true, Int.cast_ofNat_Int, reduceIte, if_true, if_false, Bool.false_eq_true, Try.ntmps22, fin_ret hE, Try.results22]
  have hend : i = n → ∀ w', Mem w [] [] w' → Ending.returned (den (.v (.int .u32 (fieldN x at_ i : Int)))) = .returned (.int .u32 (fieldN x at_ n : Int)) ∧ Below w.heap.size w w' := fun e w' hm' => by subst e; exact ⟨rfl, hm'.below⟩
  refine ⟨fun h1 => ⟨fun h2 => ⟨fun h3 => ⟨by omega, ?_⟩, fun h3 => absurd (by omega) h3⟩, fun h2 => absurd (by omega) h2⟩, fun h1 => hend (by omega)⟩
  have e1 : (at_ : Int) + (i : Int) = ((at_ + i : Nat) : Int) := by simp
  rw [e1]
  refine CallC.pur (.v (.int .u32 ((x / 2 ^ (at_ + i) % 2 : Nat) : Int))) 100 (fun w1 hm1 => bit_C w1 x (at_ + i) hx (by omega)) ?_
  simp only [go_sem, Nat.zero_add, Nat.add_zero, Nat.zero_mul, Nat.reduceBEq, Nat.reduceAdd, Nat.reduceMul, Nat.reduceSub, Nat.reduceLT, Nat.reduceLeDiff, Nat.reduceEqDiff, Nat.reduceDiv, Nat.reduceMod, Int.reduceAdd, Int.reduceSub, Int.reduceMul, Int.reduceDiv, Int.reduceMod, Int.reduceLT, Int.reduceLE, Int.reduceEq, Int.reduceToNat, Int.reducePow, Int.reduceNeg, ne_eq, not_false_eq_true, not_true_eq_false, decide_true, decide_false, Bool.not_true, Bool.not_false, forall_const, reduceCtorEq, implies_true, beq_self_eq_true, Int.cast_ofNat_Int, reduceIte, if_true, if_false, Bool.false_eq_true, Try.ntmps22, fin_ret hE, Try.results22]
  have hlt := fieldN_lt x at_ i
  have hp : 2 ^ i ≤ 2 ^ 32 := Nat.pow_le_pow_right (by omega) (by omega)
  refine CallC.pur (.v (.int .u32 (fieldN x at_ (i + 1) : Int))) 100 (fun w1 hm1 => ?_) ?_
  · have := set_C w1 (fieldN x at_ i) i (x / 2 ^ (at_ + i) % 2) (by omega) (by omega) (by omega)
    rw [fieldN_succ] at this
    exact this
  simp only [go_sem, Nat.zero_add, Nat.add_zero, Nat.zero_mul, Nat.reduceBEq, Nat.reduceAdd, Nat.reduceMul, Nat.reduceSub, Nat.reduceLT, Nat.reduceLeDiff, Nat.reduceEqDiff, Nat.reduceDiv, Nat.reduceMod, Int.reduceAdd, Int.reduceSub, Int.reduceMul, Int.reduceDiv, Int.reduceMod, Int.reduceLT, Int.reduceLE, Int.reduceEq, Int.reduceToNat, Int.reducePow, Int.reduceNeg, ne_eq, not_false_eq_true, not_true_eq_false, decide_true, decide_false, Bool.not_true, Bool.not_false, forall_const, reduceCtorEq, implies_true, beq_self_eq_true, Int.cast_ofNat_Int, reduceIte, if_true, if_false, Bool.false_eq_true, Try.ntmps22, fin_ret hE, Try.results22]
  refine ⟨by omega, ⟨i + 1, by omega⟩, ⟨rfl, rfl, ⟨?_, rfl, rfl, rfl, rfl, trivial⟩, trivial⟩, by simp only; omega⟩
  simp only [go_sem, Nat.zero_add, Nat.add_zero, Nat.zero_mul, Nat.reduceBEq, Nat.reduceAdd, Nat.reduceMul, Nat.reduceSub, Nat.reduceLT, Nat.reduceLeDiff, Nat.reduceEqDiff, Nat.reduceDiv, Nat.reduceMod, Int.reduceAdd, Int.reduceSub, Int.reduceMul, Int.reduceDiv, Int.reduceMod, Int.reduceLT, Int.reduceLE, Int.reduceEq, Int.reduceToNat, Int.reducePow, Int.reduceNeg, ne_eq, not_false_eq_true, not_true_eq_false, decide_true, decide_false, Bool.not_true, Bool.not_false, forall_const, reduceCtorEq, implies_true, beq_self_eq_true, Int.cast_ofNat_Int, reduceIte, if_true, if_false, Bool.false_eq_true]
  simp

theorem rput_C (w : World) (x at_ n v : Nat) (hx : x < 4294967296) (hv : v < 4294967296) (h : at_ + n ≤ 32) :
    Calls Try.prog 25 #[.int .u32 (x : Int), .int .i64 (at_ : Int), .int .i64 (n : Int), .int .u32 (v : Int)] w fun e w' => e = .returned (.int .u32 (putN x at_ n v : Int)) ∧ Below w.heap.size w w' := by
  have hm : Mem w [] [] w := Mem.reads (by simp) (by simp)
  refine calls_of_ex [.v (.int .u32 (x : Int)), .v (.int .i64 (at_ : Int)), .v (.int .i64 (n : Int)), .v (.int .u32 (v : Int))] _ [] 0 100 Try.func25 rfl hm (by simp [Try.ntmps25]) fun E hE => ?_
  simp only [go_sem, Nat.zero_add, Nat.add_zero, Nat.zero_mul, Nat.reduceBEq, Nat.reduceAdd, Nat.reduceMul, Nat.reduceSub, Nat.reduceLT, Nat.reduceLeDiff, Nat.reduceEqDiff, Nat.reduceDiv, Nat.reduceMod, Int.reduceAdd, Int.reduceSub, Int.reduceMul, Int.reduceDiv, Int.reduceMod, Int.reduceLT, Int.reduceLE, Int.reduceEq, Int.reduceToNat, Int.reducePow, Int.reduceNeg, ne_eq, not_false_eq_true, not_true_eq_false, decide_true, decide_false, Bool.not_true, Bool.not_false, forall_const, reduceCtorEq, implies_true, beq_self_eq_true, Int.cast_ofNat_Int, reduceIte, if_true, if_false, Bool.false_eq_true, Try.ntmps25, fin_ret hE, Try.results25]
  refine CodeC.loop (γ := { i : Nat // i ≤ n }) (fun g => ⟨30, 0, [(9, .v (.int .i64 (g.1 : Int))), (0, .v (.int .u32 (putN x at_ g.1 v : Int))), (3, .v (.int .u32 (v : Int))), (1, .v (.int .i64 (at_ : Int))), (2, .v (.int .i64 (n : Int)))], [], []⟩) (fun g => n - g.1) ⟨0, by omega⟩ 200
    ⟨rfl, rfl, ⟨rfl, by rw [putN_zero]; rfl, rfl, rfl, rfl, trivial⟩, trivial⟩ fun ⟨i, hi⟩ => ?_
  simp only [go_sem, Nat.zero_add, Nat.add_zero, Nat.zero_mul, Nat.reduceBEq, Nat.reduceAdd, Nat.reduceMul, Nat.reduceSub, Nat.reduceLT, Nat.reduceLeDiff, Nat.reduceEqDiff, Nat.reduceDiv, Nat.reduceMod, Int.reduceAdd, Int.reduceSub, Int.reduceMul, Int.reduceDiv, Int.reduceMod, Int.reduceLT, Int.reduceLE, Int.reduceEq, Int.reduceToNat, Int.reducePow, Int.reduceNeg, ne_eq, not_false_eq_true, not_true_eq_false, decide_true, decide_false, Bool.not_true, Bool.not_false, forall_const, reduceCtorEq, implies_true, beq_self_eq_true, Int.cast_ofNat_Int, reduceIte, if_true, if_false, Bool.false_eq_true, Try.ntmps25, fin_ret hE, Try.results25]
  have hend : i = n → ∀ w', Mem w [] [] w' → Ending.returned (den (.v (.int .u32 (putN x at_ i v : Int)))) = .returned (.int .u32 (putN x at_ n v : Int)) ∧ Below w.heap.size w w' := fun e w' hm' => by subst e; exact ⟨rfl, hm'.below⟩
  refine ⟨fun h1 => ⟨fun h2 => ⟨fun h3 => ⟨by omega, ?_⟩, fun h3 => absurd (by omega) h3⟩, fun h2 => absurd (by omega) h2⟩, fun h1 => hend (by omega)⟩
  refine CallC.pur (.v (.int .u32 ((v / 2 ^ i % 2 : Nat) : Int))) 100 (fun w1 hm1 => bit_C w1 v i hv (by omega)) ?_
  simp only [go_sem, Nat.zero_add, Nat.add_zero, Nat.zero_mul, Nat.reduceBEq, Nat.reduceAdd, Nat.reduceMul, Nat.reduceSub, Nat.reduceLT, Nat.reduceLeDiff, Nat.reduceEqDiff, Nat.reduceDiv, Nat.reduceMod, Int.reduceAdd, Int.reduceSub, Int.reduceMul, Int.reduceDiv, Int.reduceMod, Int.reduceLT, Int.reduceLE, Int.reduceEq, Int.reduceToNat, Int.reducePow, Int.reduceNeg, ne_eq, not_false_eq_true, not_true_eq_false, decide_true, decide_false, Bool.not_true, Bool.not_false, forall_const, reduceCtorEq, implies_true, beq_self_eq_true, Int.cast_ofNat_Int, reduceIte, if_true, if_false, Bool.false_eq_true, Try.ntmps25, fin_ret hE, Try.results25]
  have hlt := putN_lt (w := x) (at_ := at_) (n := i) (v := v) (k := 32) (by omega) (by omega)
  have e1 : (at_ : Int) + (i : Int) = ((at_ + i : Nat) : Int) := by simp
  rw [e1]
  refine CallC.pur (.v (.int .u32 (putN x at_ (i + 1) v : Int))) 100 (fun w1 hm1 => ?_) ?_
  · have := set_C w1 (putN x at_ i v) (at_ + i) (v / 2 ^ i % 2) (by omega) (by omega) (by omega)
    rw [putN_succ] at this
    exact this
  simp only [go_sem, Nat.zero_add, Nat.add_zero, Nat.zero_mul, Nat.reduceBEq, Nat.reduceAdd, Nat.reduceMul, Nat.reduceSub, Nat.reduceLT, Nat.reduceLeDiff, Nat.reduceEqDiff, Nat.reduceDiv, Nat.reduceMod, Int.reduceAdd, Int.reduceSub, Int.reduceMul, Int.reduceDiv, Int.reduceMod, Int.reduceLT, Int.reduceLE, Int.reduceEq, Int.reduceToNat, Int.reducePow, Int.reduceNeg, ne_eq, not_false_eq_true, not_true_eq_false, decide_true, decide_false, Bool.not_true, Bool.not_false, forall_const, reduceCtorEq, implies_true, beq_self_eq_true, Int.cast_ofNat_Int, reduceIte, if_true, if_false, Bool.false_eq_true, Try.ntmps25, fin_ret hE, Try.results25]
  refine ⟨by omega, ⟨i + 1, by omega⟩, ⟨rfl, rfl, ⟨?_, rfl, rfl, rfl, rfl, trivial⟩, trivial⟩, by simp only; omega⟩
  simp only [go_sem, Nat.zero_add, Nat.add_zero, Nat.zero_mul, Nat.reduceBEq, Nat.reduceAdd, Nat.reduceMul, Nat.reduceSub, Nat.reduceLT, Nat.reduceLeDiff, Nat.reduceEqDiff, Nat.reduceDiv, Nat.reduceMod, Int.reduceAdd, Int.reduceSub, Int.reduceMul, Int.reduceDiv, Int.reduceMod, Int.reduceLT, Int.reduceLE, Int.reduceEq, Int.reduceToNat, Int.reducePow, Int.reduceNeg, ne_eq, not_false_eq_true, not_true_eq_false, decide_true, decide_false, Bool.not_true, Bool.not_false, forall_const, reduceCtorEq, implies_true, beq_self_eq_true, Int.cast_ofNat_Int, reduceIte, if_true, if_false, Bool.false_eq_true]
  simp

end Go.Proofs
