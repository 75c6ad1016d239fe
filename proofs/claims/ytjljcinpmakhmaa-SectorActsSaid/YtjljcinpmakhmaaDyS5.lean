/- The document's device: contracts of its functions. -/
import Derived.Test.YtjljcinpmakhmaaDyS4
set_option linter.unusedSimpArgs false
set_option linter.unusedVariables false
set_option linter.unusedSectionVars false
set_option maxRecDepth 100000
set_option maxHeartbeats 4000000
namespace Go.Proofs
open Go.Dx Go.RowKit

theorem put_C (w : World) (rb c n k : Nat) (disk : List Int) (j : List SV) (T : Nat) (fz : Nat × Nat) (x0 x1 x2 x3 : Int) (hk : k < n) (hd : disk.length = n * 4) (hn : n ≤ 100) (hc : n ≤ c ∧ c ≤ 9223372036854775807)
    (h : w.heap[rb]? = some (denO (.z (nums .u32 disk ++ j) T fz))) :
    Calls Try.prog 20 #[den (.s 100 rb 0 n c), .int .i64 (k : Int), den (.g [.v (.int .u32 x0), .v (.int .u32 x1), .v (.int .u32 x2), .v (.int .u32 x3)])] w fun e w' =>
      ∃ b c' j', e = .returned (den (.s 100 b 0 n c')) ∧ (n ≤ c' ∧ c' ≤ 9223372036854775807) ∧ w.heap.size ≤ b ∧ w'.heap[b]? = some (denO (.z (nums .u32 (put4 disk (k * 4) x0 x1 x2 x3) ++ j') 44 (0, 0))) ∧ Below w.heap.size w w' := by
  have hm : Mem w [] [⟨100, rb, false, .z (nums .u32 disk ++ j) T fz⟩] w := Mem.reads (by simpa using h) (by simp)
  refine calls_of_ex [.s 100 rb 0 n c, .v (.int .i64 (k : Int)), .g [.v (.int .u32 x0), .v (.int .u32 x1), .v (.int .u32 x2), .v (.int .u32 x3)]] _ [] 3 300 Try.func20 rfl hm (by simp [Try.ntmps20]) fun E hE => ?_
  have e0 : ((k : Int) + 1).toNat = k + 1 := by omega
  have e5 : k + 1 + (n - (k + 1)) = n := by omega
  have f1 := hdN_own .u32 disk j (k * 4) (by omega)
  have ht : (disk.take (k * 4)).length = k * 4 := by simp; omega
  have f2 : ∀ r, hdN (nums .u32 (disk.take (k * 4)) ++ r) (k * 4) = nums .u32 (disk.take (k * 4)) := fun r => by
    rw [hdN_own _ _ _ _ (by omega), List.take_of_length_le (by omega)]
  have f3 : ∀ r, hdN (nums .u32 (disk.take (k * 4)) ++ .v (.int .u32 x0) :: .v (.int .u32 x1) :: .v (.int .u32 x2) :: .v (.int .u32 x3) :: r) ((k + 1) * 4) = nums .u32 (disk.take (k * 4) ++ [x0, x1, x2, x3]) := fun r => by
    have := hdN_own .u32 (disk.take (k * 4) ++ [x0, x1, x2, x3]) r ((k + 1) * 4) (by rw [List.length_append, ht]; simp; omega)
    have q : List.take ((k + 1) * 4) (List.take (k * 4) disk ++ [x0, x1, x2, x3]) = List.take (k * 4) disk ++ [x0, x1, x2, x3] := List.take_of_length_le (by rw [List.length_append, ht]; simp; omega)
    rw [q] at this
    rw [← this, nums_append]
    simp [nums]
  have hdl : (disk.drop ((k + 1) * 4)).length = (n - (k + 1)) * 4 := by simp; omega
  have f4 : ldN (nums .u32 disk ++ j) (if c = k + 1 then 0 else (k + 1) * 4) ((n - (k + 1)) * 4) = nums .u32 (disk.drop ((k + 1) * 4)) := by
    by_cases hck : c = k + 1
    · have : n - (k + 1) = 0 := by omega
      rw [this, Nat.zero_mul, ldN_len0]
      rw [this] at hdl
      have q : disk.drop ((k + 1) * 4) = [] := List.length_eq_zero_iff.1 (by omega)
      rw [q]
      rfl
    · rw [if_neg hck, ldN_own _ _ _ _ _ (by omega), List.take_of_length_le (by omega)]
  have f5 : (if c = k + 1 then 0 else (k + 1) * 4) + (n - (k + 1)) * 4 ≤ n * 4 := by split <;> omega
  simp (maxSteps := 2000000) only [go_sem, ↓dxc_true, ↓dxc_false, ↓bxc_true, ↓bxc_false, Nat.zero_add, Nat.add_zero, Nat.zero_mul, Nat.reduceBEq, Nat.reduceAdd, Nat.reduceMul, Nat.reduceSub, Nat.reduceLT, Nat.reduceLeDiff, Nat.reduceEqDiff, Nat.reduceDiv, Nat.reduceMod, Int.reduceAdd, Int.reduceSub, Int.reduceMul, Int.reduceDiv, Int.reduceMod, Int.reduceLT, Int.reduceLE, Int.reduceEq, Int.reduceToNat, Int.reducePow, Int.reduceNeg, ne_eq, not_false_eq_true, not_true_eq_false, decide_true, decide_false, Bool.not_true, Bool.not_false, forall_const, reduceCtorEq, implies_true, beq_self_eq_true, Int.cast_ofNat_Int, reduceIte, if_true, if_false, Bool.false_eq_true, Try.ntmps20, fin_ret hE, Try.results20, Int.toNat_natCast, e0, e5, List.length_append, nums_length, allOne_nums, Nat.sub_zero, ldN_zero, f1, f2, f3, f4, ht, hdl, List.nil_append, ite_self, hd]
  refine fun b => ⟨⟨by omega, by omega⟩, by omega, ⟨by omega, by omega⟩, fun c1 j1 h1 b1 => ⟨by omega, fun c2 j2 h2 => ⟨by omega, by omega, by omega, by simp only [List.length_take, hd] at *; omega, fun b2 c3 j3 h3 w' hm' => ?_⟩⟩⟩
  have g1 := hm'.at (t := 8) rfl
  have g2 := hm'.wr _ List.mem_cons_self rfl
  refine ⟨b2, c3, j3, rfl, by omega, by simpa using g2, ?_, hm'.below⟩
  rw [put4_eq _ _ _ _ _ _ (by omega), nums_append, List.append_assoc, show k * 4 + 4 = (k + 1) * 4 by omega]
  exact g1

end Go.Proofs
