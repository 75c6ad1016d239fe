/- The words of blocks that are alive. -/
import Derived.Test.YtmjgfoeonnbkpaaDyL7
set_option linter.unusedSimpArgs false
set_option linter.unusedVariables false
set_option linter.unusedSectionVars false
set_option maxRecDepth 100000
set_option maxHeartbeats 1000000
namespace Go.Proofs
open Go.Dx Go.RowKit

theorem refHeader_C (w : World) (x : Int) (h0 : 0 ≤ x) (hx : ¬ x > 2147483648) : Calls Try.prog 29 #[.int .u32 x] w fun e w' => ∃ b, e = .returned (den (.s 100 b 0 4 4)) ∧ w.heap.size ≤ b ∧ w'.heap[b]? = some (denO (.a (nums .u32 (headS x)) 23)) ∧ Bel w.heap.size w w' := by
  have hm : Mem w [] [] w := Mem.reads (by simp) (by simp)
  refine calls_of_ex [.v (.int .u32 x)] _ [] 3 300 Try.func29 rfl hm (by simp [Try.ntmps29]) fun E hE => ?_
  have e1 : (4294967295 - x) % 4294967296 = 4294967295 - x := by omega
  simp (maxSteps := 2000000) only [go_sem, ↓dxc_true, ↓dxc_false, ↓bxc_true, ↓bxc_false, Nat.zero_add, Nat.add_zero, Nat.zero_mul, Nat.reduceBEq, Nat.reduceAdd, Nat.reduceMul, Nat.reduceSub, Nat.reduceLT, Nat.reduceLeDiff, Nat.reduceEqDiff, Nat.reduceDiv, Nat.reduceMod, Int.reduceAdd, Int.reduceSub, Int.reduceMul, Int.reduceDiv, Int.reduceMod, Int.reduceLT, Int.reduceLE, Int.reduceEq, Int.reduceToNat, Int.reducePow, Int.reduceNeg, ne_eq, not_false_eq_true, not_true_eq_false, decide_true, decide_false, Bool.not_true, Bool.not_false, forall_const, reduceCtorEq, implies_true, beq_self_eq_true, Int.cast_ofNat_Int, reduceIte, if_true, if_false, Bool.false_eq_true, Try.ntmps29, fin_ret hE, Try.results29, e1]
  refine ⟨fun _ => by omega, fun _ => fun b w' hm' => ⟨b, rfl, ?_, ?_, hm'.below⟩⟩
  · simpa using hm'.wr _ List.mem_cons_self rfl
  · rw [headS, if_neg hx]
    exact hm'.at (t := 3) rfl

theorem refRight_C (w : World) (p : Pg) : Calls Try.prog 30 #[den (.g p.f)] w fun e w' => e = .returned (.bool p.right) ∧ Bel w.heap.size w w' := by
  have hm : Mem w [] [] w := Mem.reads (by simp) (by simp)
  refine calls_of_ex [.g p.f] _ [] 3 300 Try.func30 rfl hm (by simp [Try.ntmps30]) fun E hE => ?_
  obtain ⟨se, sq, go, d0, d1, d2, d3⟩ := p
  cases go
  · simp (maxSteps := 2000000) only [go_sem, ↓dxc_true, ↓dxc_false, ↓bxc_true, ↓bxc_false, Nat.zero_add, Nat.add_zero, Nat.zero_mul, Nat.reduceBEq, Nat.reduceAdd, Nat.reduceMul, Nat.reduceSub, Nat.reduceLT, Nat.reduceLeDiff, Nat.reduceEqDiff, Nat.reduceDiv, Nat.reduceMod, Int.reduceAdd, Int.reduceSub, Int.reduceMul, Int.reduceDiv, Int.reduceMod, Int.reduceLT, Int.reduceLE, Int.reduceEq, Int.reduceToNat, Int.reducePow, Int.reduceNeg, ne_eq, not_false_eq_true, not_true_eq_false, decide_true, decide_false, Bool.not_true, Bool.not_false, forall_const, reduceCtorEq, implies_true, beq_self_eq_true, Int.cast_ofNat_Int, reduceIte, if_true, if_false, Bool.false_eq_true, Try.ntmps30, fin_ret hE, Try.results30, Pg.f, List.length_cons, List.length_nil, Pg.right, Bool.not_false, Bool.true_or, Bool.and_true]
    refine fun b => ⟨fun k1 => ⟨fun k2 => ⟨fun k3 w' hm' => ⟨by simp [k1, k2, k3, den], hm'.below⟩, fun k3 w' hm' => ⟨by simp [k1, k2, k3, den], hm'.below⟩⟩, fun k2 w' hm' => ⟨by simp [k1, k2, den], hm'.below⟩⟩, fun k1 w' hm' => ⟨by simp [k1, den], hm'.below⟩⟩
  · simp (maxSteps := 2000000) only [go_sem, ↓dxc_true, ↓dxc_false, ↓bxc_true, ↓bxc_false, Nat.zero_add, Nat.add_zero, Nat.zero_mul, Nat.reduceBEq, Nat.reduceAdd, Nat.reduceMul, Nat.reduceSub, Nat.reduceLT, Nat.reduceLeDiff, Nat.reduceEqDiff, Nat.reduceDiv, Nat.reduceMod, Int.reduceAdd, Int.reduceSub, Int.reduceMul, Int.reduceDiv, Int.reduceMod, Int.reduceLT, Int.reduceLE, Int.reduceEq, Int.reduceToNat, Int.reducePow, Int.reduceNeg, ne_eq, not_false_eq_true, not_true_eq_false, decide_true, decide_false, Bool.not_true, Bool.not_false, forall_const, reduceCtorEq, implies_true, beq_self_eq_true, Int.cast_ofNat_Int, reduceIte, if_true, if_false, Bool.false_eq_true, Try.ntmps30, fin_ret hE, Try.results30, Pg.f, List.length_cons, List.length_nil, Pg.right, Bool.not_true, Bool.false_or]
    refine fun b => ⟨fun k1 => ⟨fun k2 => ⟨fun k3 => ?_, fun k3 w' hm' => ⟨by simp [k1, k2, k3, den], hm'.below⟩⟩, fun k2 w' hm' => ⟨by simp [k1, k2, den], hm'.below⟩⟩, fun k1 w' hm' => ⟨by simp [k1, den], hm'.below⟩⟩
    refine fun w' hm' => ⟨?_, hm'.below⟩
    simp only [den, k1, k2, k3, decide_true, Bool.true_and, Bool.and_assoc]

theorem refWords_C (w : World) (p : Pg) (hp : p.right = true) (hgo : p.go = false) (hok : p.ok) : Calls Try.prog 31 #[den (.g p.f)] w fun e w' => ∃ b, e = .returned (den (.s 100 b 0 7 7)) ∧ w.heap.size ≤ b ∧ w'.heap[b]? = some (denO (.a (nums .u32 p.ws) 23)) ∧ Bel w.heap.size w w' := by
  have hm : Mem w [] [] w := Mem.reads (by simp) (by simp)
  refine calls_of_ex [.g p.f] _ [] 3 300 Try.func31 rfl hm (by simp [Try.ntmps31]) fun E hE => ?_
  obtain ⟨se, sq, go, d0, d1, d2, d3⟩ := p
  simp only at hgo
  subst hgo
  simp (maxSteps := 2000000) only [go_sem, ↓dxc_true, ↓dxc_false, ↓bxc_true, ↓bxc_false, Nat.zero_add, Nat.add_zero, Nat.zero_mul, Nat.reduceBEq, Nat.reduceAdd, Nat.reduceMul, Nat.reduceSub, Nat.reduceLT, Nat.reduceLeDiff, Nat.reduceEqDiff, Nat.reduceDiv, Nat.reduceMod, Int.reduceAdd, Int.reduceSub, Int.reduceMul, Int.reduceDiv, Int.reduceMod, Int.reduceLT, Int.reduceLE, Int.reduceEq, Int.reduceToNat, Int.reducePow, Int.reduceNeg, ne_eq, not_false_eq_true, not_true_eq_false, decide_true, decide_false, Bool.not_true, Bool.not_false, forall_const, reduceCtorEq, implies_true, beq_self_eq_true, Int.cast_ofNat_Int, reduceIte, if_true, if_false, Bool.false_eq_true, Try.ntmps31, fin_ret hE, Try.results31, Pg.f, List.length_cons, List.length_nil]
  intro b
  refine CallC.pur (.v (.bool (Pg.right ⟨se, sq, false, d0, d1, d2, d3⟩))) 300 (fun w1 hm1 => refRight_C w1 ⟨se, sq, false, d0, d1, d2, d3⟩) ?_
  rw [hp]
  simp (maxSteps := 2000000) only [go_sem, ↓dxc_true, ↓dxc_false, ↓bxc_true, ↓bxc_false, Nat.zero_add, Nat.add_zero, Nat.zero_mul, Nat.reduceBEq, Nat.reduceAdd, Nat.reduceMul, Nat.reduceSub, Nat.reduceLT, Nat.reduceLeDiff, Nat.reduceEqDiff, Nat.reduceDiv, Nat.reduceMod, Int.reduceAdd, Int.reduceSub, Int.reduceMul, Int.reduceDiv, Int.reduceMod, Int.reduceLT, Int.reduceLE, Int.reduceEq, Int.reduceToNat, Int.reducePow, Int.reduceNeg, ne_eq, not_false_eq_true, not_true_eq_false, decide_true, decide_false, Bool.not_true, Bool.not_false, forall_const, reduceCtorEq, implies_true, beq_self_eq_true, Int.cast_ofNat_Int, reduceIte, if_true, if_false, Bool.false_eq_true, Try.ntmps31, fin_ret hE, Try.results31]
  intro b2 w' hm'
  exact ⟨b2, rfl, by simpa using hm'.wr _ List.mem_cons_self rfl, hm'.at (t := 4) rfl, hm'.below⟩

def ones (n : Nat) : List Int := List.replicate n 4294967295
/-- The words of a block's pages, of which the first is written. -/
def inn (p : Pg) : Nat → List Int
  | 0 => []
  | k + 1 => inn p k ++ (if k = 0 then p.ws else ones 7)
theorem inn_len (p : Pg) (k : Nat) : (inn p k).length = k * 7 := by
  induction k with
  | zero => rfl
  | succ k ih => rw [inn, List.length_append, ih]; split <;> simp [Pg.ws, ones] <;> omega

theorem hdN_nums (k : IntKind) (xs : List Int) (n : Nat) (h : xs.length = n) : hdN (nums k xs) n = nums k xs := by
  rw [hdN_eq, List.take_of_length_le (by simp; omega)]

theorem built_C (w : World) (b b0 b1 : Nat) (p0 p1 : Pg) (h0 : p0.right = true ∧ p0.go = false ∧ p0.ok) (h1 : p1.right = true ∧ p1.go = false ∧ p1.ok)
    (h : Mem w [] [⟨105, b, false, .a [.s 106 b0 0 1 1, .s 107 b1 0 1 1] 64⟩, ⟨106, b0, false, .a p0.f 34⟩, ⟨107, b1, false, .a p1.f 34⟩] w) :
    Calls Try.prog 18 #[den (.s 105 b 0 2 2)] w fun e w' => ∃ b c j, e = .returned (den (.s 100 b 0 128 c)) ∧ (128 ≤ c ∧ c ≤ 9223372036854775807) ∧ w.heap.size ≤ b ∧ w'.heap[b]? = some (denO (.a (nums .u32 (headS 0 ++ inn p0 8 ++ ones 4 ++ headS 1 ++ inn p1 8 ++ ones 4) ++ j) 23)) ∧ Bel w.heap.size w w' := by
  refine calls_of_ex [.s 105 b 0 2 2] _ [] 3 300 Try.func18 rfl h (by simp [Try.ntmps18]) fun E hE => ?_
  simp (maxSteps := 2000000) only [go_sem, ↓dxc_true, ↓dxc_false, ↓bxc_true, ↓bxc_false, Nat.zero_add, Nat.add_zero, Nat.zero_mul, Nat.reduceBEq, Nat.reduceAdd, Nat.reduceMul, Nat.reduceSub, Nat.reduceLT, Nat.reduceLeDiff, Nat.reduceEqDiff, Nat.reduceDiv, Nat.reduceMod, Int.reduceAdd, Int.reduceSub, Int.reduceMul, Int.reduceDiv, Int.reduceMod, Int.reduceLT, Int.reduceLE, Int.reduceEq, Int.reduceToNat, Int.reducePow, Int.reduceNeg, ne_eq, not_false_eq_true, not_true_eq_false, decide_true, decide_false, Bool.not_true, Bool.not_false, forall_const, reduceCtorEq, implies_true, beq_self_eq_true, Int.cast_ofNat_Int, reduceIte, if_true, if_false, Bool.false_eq_true, Try.ntmps18, fin_ret hE, Try.results18]
  refine CodeC.unroll 3 300 ?_
  simp (maxSteps := 2000000) only [go_sem, ↓dxc_true, ↓dxc_false, ↓bxc_true, ↓bxc_false, Nat.zero_add, Nat.add_zero, Nat.zero_mul, Nat.reduceBEq, Nat.reduceAdd, Nat.reduceMul, Nat.reduceSub, Nat.reduceLT, Nat.reduceLeDiff, Nat.reduceEqDiff, Nat.reduceDiv, Nat.reduceMod, Int.reduceAdd, Int.reduceSub, Int.reduceMul, Int.reduceDiv, Int.reduceMod, Int.reduceLT, Int.reduceLE, Int.reduceEq, Int.reduceToNat, Int.reducePow, Int.reduceNeg, ne_eq, not_false_eq_true, not_true_eq_false, decide_true, decide_false, Bool.not_true, Bool.not_false, forall_const, reduceCtorEq, implies_true, beq_self_eq_true, Int.cast_ofNat_Int, reduceIte, if_true, if_false, Bool.false_eq_true, Try.ntmps18, fin_ret hE, Try.results18]
  refine CallC.new (γ := Unit) (fun _ b => .s 3 b 0 4 4) (fun _ => .a (nums .u32 (headS 0)) 23) 300 (fun w1 hm1 => ?_) ?_
  · refine (refHeader_C w1 0 (by omega) (by omega)).mono ?_
    rintro e w' ⟨b, rfl, h1, h2, h3⟩
    exact ⟨(), b, rfl, h1, h2, h3⟩
  refine ⟨by simp (maxSteps := 2000000) only [go_sem, ↓dxc_true, ↓dxc_false, ↓bxc_true, ↓bxc_false, Nat.zero_add, Nat.add_zero, Nat.zero_mul, Nat.reduceBEq, Nat.reduceAdd, Nat.reduceMul, Nat.reduceSub, Nat.reduceLT, Nat.reduceLeDiff, Nat.reduceEqDiff, Nat.reduceDiv, Nat.reduceMod, Int.reduceAdd, Int.reduceSub, Int.reduceMul, Int.reduceDiv, Int.reduceMod, Int.reduceLT, Int.reduceLE, Int.reduceEq, Int.reduceToNat, Int.reducePow, Int.reduceNeg, ne_eq, not_false_eq_true, not_true_eq_false, decide_true, decide_false, Bool.not_true, Bool.not_false, forall_const, reduceCtorEq, implies_true, beq_self_eq_true, Int.cast_ofNat_Int, reduceIte, if_true, if_false, Bool.false_eq_true, Try.ntmps18], ?_⟩
  intro _ bh
  have hh0 : (headS 0).length = 4 := rfl
  simp (maxSteps := 2000000) only [go_sem, ↓dxc_true, ↓dxc_false, ↓bxc_true, ↓bxc_false, Nat.zero_add, Nat.add_zero, Nat.zero_mul, Nat.reduceBEq, Nat.reduceAdd, Nat.reduceMul, Nat.reduceSub, Nat.reduceLT, Nat.reduceLeDiff, Nat.reduceEqDiff, Nat.reduceDiv, Nat.reduceMod, Int.reduceAdd, Int.reduceSub, Int.reduceMul, Int.reduceDiv, Int.reduceMod, Int.reduceLT, Int.reduceLE, Int.reduceEq, Int.reduceToNat, Int.reducePow, Int.reduceNeg, ne_eq, not_false_eq_true, not_true_eq_false, decide_true, decide_false, Bool.not_true, Bool.not_false, forall_const, reduceCtorEq, implies_true, beq_self_eq_true, Int.cast_ofNat_Int, reduceIte, if_true, if_false, Bool.false_eq_true, Try.ntmps18, fin_ret hE, Try.results18, false_implies, true_and, and_true, nums_length, hh0, allOne_nums, hdN_nums .u32 (headS 0) 4 rfl]
  intro bs cs hcs
  obtain ⟨js, hjs⟩ : ∃ js, js = rpt (cs - 4) [SV.v (.int .u32 0)] := ⟨_, rfl⟩
  have hjl : js.length = cs - 4 := by rw [hjs, rpt_length]; simp
  obtain ⟨P1, hP1⟩ : ∃ P1, P1 = headS 0 := ⟨_, rfl⟩
  have hlen0 : P1.length = 4 := by rw [hP1]; rfl
  refine ex_weaken ⟨49, 9, [(20, .v (.int .i64 0)), (5, .s 106 b0 0 1 1), (3, .s 4 bs 0 4 cs), (8, .s 105 b 0 2 2), (9, .v (.int .i64 2)), (10, .v (.int .i64 0))],
      [⟨4, bs, true, .a (nums .u32 (P1) ++ js) 23⟩, ⟨105, b, false, .a [.s 106 b0 0 1 1, .s 107 b1 0 1 1] 64⟩, ⟨106, b0, false, .a p0.f 34⟩, ⟨107, b1, false, .a p1.f 34⟩], []⟩ ⟨rfl, rfl, ⟨rfl, rfl, rfl, rfl, rfl, rfl, trivial⟩, by rw [hjs, hP1]; simp (maxSteps := 2000000) only [go_sem, ↓dxc_true, ↓dxc_false, ↓bxc_true, ↓bxc_false, Nat.zero_add, Nat.add_zero, Nat.zero_mul, Nat.reduceBEq, Nat.reduceAdd, Nat.reduceMul, Nat.reduceSub, Nat.reduceLT, Nat.reduceLeDiff, Nat.reduceEqDiff, Nat.reduceDiv, Nat.reduceMod, Int.reduceAdd, Int.reduceSub, Int.reduceMul, Int.reduceDiv, Int.reduceMod, Int.reduceLT, Int.reduceLE, Int.reduceEq, Int.reduceToNat, Int.reducePow, Int.reduceNeg, ne_eq, not_false_eq_true, not_true_eq_false, decide_true, decide_false, Bool.not_true, Bool.not_false, forall_const, reduceCtorEq, implies_true, beq_self_eq_true, Int.cast_ofNat_Int, reduceIte, if_true, if_false, Bool.false_eq_true, SubH]⟩ ?_
  refine CodeC.loop1 (γ := { g : Nat × Nat × Nat × List SV // (1 ≤ g.1 ∧ g.1 ≤ 8) ∧ 4 + g.1 * 7 ≤ g.2.2.1 ∧ g.2.2.1 ≤ 9223372036854775807 ∧ 4 + g.1 * 7 + g.2.2.2.length = g.2.2.1 })
    (fun g => ⟨49, 10, [(20, .v (.int .i64 (g.1.1 : Int))), (5, .s 106 b0 0 1 1), (3, .s 11 g.1.2.1 0 (4 + g.1.1 * 7) g.1.2.2.1), (8, .s 105 b 0 2 2), (9, .v (.int .i64 2)), (10, .v (.int .i64 0))],
      [⟨11, g.1.2.1, true, .a (nums .u32 (P1 ++ inn p0 g.1.1) ++ g.1.2.2.2) 23⟩, ⟨105, b, false, .a [.s 106 b0 0 1 1, .s 107 b1 0 1 1] 64⟩, ⟨106, b0, false, .a p0.f 34⟩, ⟨107, b1, false, .a p1.f 34⟩], []⟩) (fun g => 8 - g.1.1) 8 300 ?_ ?_
  · simp (maxSteps := 2000000) only [go_sem, ↓dxc_true, ↓dxc_false, ↓bxc_true, ↓bxc_false, Nat.zero_add, Nat.add_zero, Nat.zero_mul, Nat.reduceBEq, Nat.reduceAdd, Nat.reduceMul, Nat.reduceSub, Nat.reduceLT, Nat.reduceLeDiff, Nat.reduceEqDiff, Nat.reduceDiv, Nat.reduceMod, Int.reduceAdd, Int.reduceSub, Int.reduceMul, Int.reduceDiv, Int.reduceMod, Int.reduceLT, Int.reduceLE, Int.reduceEq, Int.reduceToNat, Int.reducePow, Int.reduceNeg, ne_eq, not_false_eq_true, not_true_eq_false, decide_true, decide_false, Bool.not_true, Bool.not_false, forall_const, reduceCtorEq, implies_true, beq_self_eq_true, Int.cast_ofNat_Int, reduceIte, if_true, if_false, Bool.false_eq_true, Try.ntmps18, fin_ret hE, Try.results18, Pg.len]
    intro c1
    refine CallC.pur (.v (.bool true)) 300 (fun w1 hm1 => by have := refRight_C w1 p0; rw [h0.1] at this; exact this) ?_
    simp (maxSteps := 2000000) only [go_sem, ↓dxc_true, ↓dxc_false, ↓bxc_true, ↓bxc_false, Nat.zero_add, Nat.add_zero, Nat.zero_mul, Nat.reduceBEq, Nat.reduceAdd, Nat.reduceMul, Nat.reduceSub, Nat.reduceLT, Nat.reduceLeDiff, Nat.reduceEqDiff, Nat.reduceDiv, Nat.reduceMod, Int.reduceAdd, Int.reduceSub, Int.reduceMul, Int.reduceDiv, Int.reduceMod, Int.reduceLT, Int.reduceLE, Int.reduceEq, Int.reduceToNat, Int.reducePow, Int.reduceNeg, ne_eq, not_false_eq_true, not_true_eq_false, decide_true, decide_false, Bool.not_true, Bool.not_false, forall_const, reduceCtorEq, implies_true, beq_self_eq_true, Int.cast_ofNat_Int, reduceIte, if_true, if_false, Bool.false_eq_true, Try.ntmps18, fin_ret hE, Try.results18, Pg.len]
    refine CallC.new (γ := Unit) (fun _ b => .s 10 b 0 7 7) (fun _ => .a (nums .u32 (p0).ws) 23) 300 (fun w1 hm1 => ?_) ?_
    · refine (refWords_C w1 p0 h0.1 h0.2.1 h0.2.2).mono ?_
      rintro e w' ⟨b, rfl, h1, h2, h3⟩
      exact ⟨(), b, rfl, h1, h2, h3⟩
    refine ⟨by simp (maxSteps := 2000000) only [go_sem, ↓dxc_true, ↓dxc_false, ↓bxc_true, ↓bxc_false, Nat.zero_add, Nat.add_zero, Nat.zero_mul, Nat.reduceBEq, Nat.reduceAdd, Nat.reduceMul, Nat.reduceSub, Nat.reduceLT, Nat.reduceLeDiff, Nat.reduceEqDiff, Nat.reduceDiv, Nat.reduceMod, Int.reduceAdd, Int.reduceSub, Int.reduceMul, Int.reduceDiv, Int.reduceMod, Int.reduceLT, Int.reduceLE, Int.reduceEq, Int.reduceToNat, Int.reducePow, Int.reduceNeg, ne_eq, not_false_eq_true, not_true_eq_false, decide_true, decide_false, Bool.not_true, Bool.not_false, forall_const, reduceCtorEq, implies_true, beq_self_eq_true, Int.cast_ofNat_Int, reduceIte, if_true, if_false, Bool.false_eq_true, Try.ntmps18], ?_⟩
    intro _ c2
    have hw7 : (p0).ws.length = 7 := rfl
    have hl : (nums IntKind.u32 (P1)).length = 4 := by rw [nums_length]; exact hlen0
    have hd : ∀ r, hdN (nums IntKind.u32 (P1) ++ r) 4 = nums IntKind.u32 (P1) := fun r => by rw [hdN_eq, List.take_left' hl]
    simp (maxSteps := 2000000) only [go_sem, ↓dxc_true, ↓dxc_false, ↓bxc_true, ↓bxc_false, Nat.zero_add, Nat.add_zero, Nat.zero_mul, Nat.reduceBEq, Nat.reduceAdd, Nat.reduceMul, Nat.reduceSub, Nat.reduceLT, Nat.reduceLeDiff, Nat.reduceEqDiff, Nat.reduceDiv, Nat.reduceMod, Int.reduceAdd, Int.reduceSub, Int.reduceMul, Int.reduceDiv, Int.reduceMod, Int.reduceLT, Int.reduceLE, Int.reduceEq, Int.reduceToNat, Int.reducePow, Int.reduceNeg, ne_eq, not_false_eq_true, not_true_eq_false, decide_true, decide_false, Bool.not_true, Bool.not_false, forall_const, reduceCtorEq, implies_true, beq_self_eq_true, Int.cast_ofNat_Int, reduceIte, if_true, if_false, Bool.false_eq_true, Try.ntmps18, fin_ret hE, Try.results18, List.length_append, hl, nums_length, hw7, allOne_append, allOne_nums, hd, hdN_nums .u32 _ 7 hw7, false_implies, true_and, and_true]
    refine ⟨⟨by omega, by omega, by omega⟩, fun c3 c4 j4 h4 => ?_⟩
    refine ⟨⟨(1, c3, c4, j4), ⟨by simp only; omega, by simp only; omega⟩, by simp only; omega, by simp only; omega, by simp only; omega⟩, ⟨rfl, rfl, ⟨rfl, rfl, rfl, rfl, rfl, rfl, trivial⟩, ?_⟩, by simp only; omega⟩
    have e1 : nums IntKind.u32 (P1 ++ inn p0 1) = nums IntKind.u32 (P1) ++ nums IntKind.u32 (p0).ws := by rw [nums_append]; rfl
    simp (maxSteps := 2000000) only [go_sem, ↓dxc_true, ↓dxc_false, ↓bxc_true, ↓bxc_false, Nat.zero_add, Nat.add_zero, Nat.zero_mul, Nat.reduceBEq, Nat.reduceAdd, Nat.reduceMul, Nat.reduceSub, Nat.reduceLT, Nat.reduceLeDiff, Nat.reduceEqDiff, Nat.reduceDiv, Nat.reduceMod, Int.reduceAdd, Int.reduceSub, Int.reduceMul, Int.reduceDiv, Int.reduceMod, Int.reduceLT, Int.reduceLE, Int.reduceEq, Int.reduceToNat, Int.reducePow, Int.reduceNeg, ne_eq, not_false_eq_true, not_true_eq_false, decide_true, decide_false, Bool.not_true, Bool.not_false, forall_const, reduceCtorEq, implies_true, beq_self_eq_true, Int.cast_ofNat_Int, reduceIte, if_true, if_false, Bool.false_eq_true, SubH, e1]
  · rintro ⟨⟨k, bk, ck, jk⟩, ⟨k1, k2⟩, k3, k4, k5⟩
    simp only at k1 k2 k3 k4 k5
    have hl : (nums IntKind.u32 (P1 ++ inn p0 k)).length = 4 + k * 7 := by rw [nums_length, List.length_append, hlen0, inn_len]
    have hd : ∀ r, hdN (nums IntKind.u32 (P1 ++ inn p0 k) ++ r) (4 + k * 7) = nums IntKind.u32 (P1 ++ inn p0 k) := fun r => by rw [hdN_eq, List.take_left' hl]
    simp (maxSteps := 2000000) only [go_sem, ↓dxc_true, ↓dxc_false, ↓bxc_true, ↓bxc_false, Nat.zero_add, Nat.add_zero, Nat.zero_mul, Nat.reduceBEq, Nat.reduceAdd, Nat.reduceMul, Nat.reduceSub, Nat.reduceLT, Nat.reduceLeDiff, Nat.reduceEqDiff, Nat.reduceDiv, Nat.reduceMod, Int.reduceAdd, Int.reduceSub, Int.reduceMul, Int.reduceDiv, Int.reduceMod, Int.reduceLT, Int.reduceLE, Int.reduceEq, Int.reduceToNat, Int.reducePow, Int.reduceNeg, ne_eq, not_false_eq_true, not_true_eq_false, decide_true, decide_false, Bool.not_true, Bool.not_false, forall_const, reduceCtorEq, implies_true, beq_self_eq_true, Int.cast_ofNat_Int, reduceIte, if_true, if_false, Bool.false_eq_true, Try.ntmps18, fin_ret hE, Try.results18]
    refine ⟨fun q1 cb => ⟨fun q2 => by omega, fun q2 => ?_⟩, fun q1 => ?_⟩
    · simp (maxSteps := 2000000) only [go_sem, ↓dxc_true, ↓dxc_false, ↓bxc_true, ↓bxc_false, Nat.zero_add, Nat.add_zero, Nat.zero_mul, Nat.reduceBEq, Nat.reduceAdd, Nat.reduceMul, Nat.reduceSub, Nat.reduceLT, Nat.reduceLeDiff, Nat.reduceEqDiff, Nat.reduceDiv, Nat.reduceMod, Int.reduceAdd, Int.reduceSub, Int.reduceMul, Int.reduceDiv, Int.reduceMod, Int.reduceLT, Int.reduceLE, Int.reduceEq, Int.reduceToNat, Int.reducePow, Int.reduceNeg, ne_eq, not_false_eq_true, not_true_eq_false, decide_true, decide_false, Bool.not_true, Bool.not_false, forall_const, reduceCtorEq, implies_true, beq_self_eq_true, Int.cast_ofNat_Int, reduceIte, if_true, if_false, Bool.false_eq_true, Try.ntmps18, fin_ret hE, Try.results18, List.length_append, hl, nums_length, allOne_append, allOne_nums, hd, Nat.mul_one, List.length_cons, List.length_nil, false_implies, true_and, and_true]
      refine ⟨⟨by omega, by omega, by omega, by omega, by omega⟩, fun b2 c2 j2 hc2 => ⟨⟨by omega, by omega⟩, ?_⟩⟩
      have ek : 4 + (k + 1) * 7 = 4 + k * 7 + 7 := by omega
      refine ⟨⟨(k + 1, b2, c2, j2), ⟨by simp only; omega, by simp only; omega⟩, by simp only; omega, by simp only; omega, by simp only; omega⟩, ⟨rfl, rfl, ⟨by simp [lk], rfl, by simp only [ek]; rfl, rfl, rfl, rfl, trivial⟩, ?_⟩, by simp only; omega⟩
      have e1 : nums IntKind.u32 (P1 ++ inn p0 (k + 1)) = nums IntKind.u32 (P1 ++ inn p0 k) ++ nums IntKind.u32 (ones 7) := by rw [inn, if_neg (by omega), ← List.append_assoc, nums_append]
      simp (maxSteps := 2000000) only [go_sem, ↓dxc_true, ↓dxc_false, ↓bxc_true, ↓bxc_false, Nat.zero_add, Nat.add_zero, Nat.zero_mul, Nat.reduceBEq, Nat.reduceAdd, Nat.reduceMul, Nat.reduceSub, Nat.reduceLT, Nat.reduceLeDiff, Nat.reduceEqDiff, Nat.reduceDiv, Nat.reduceMod, Int.reduceAdd, Int.reduceSub, Int.reduceMul, Int.reduceDiv, Int.reduceMod, Int.reduceLT, Int.reduceLE, Int.reduceEq, Int.reduceToNat, Int.reducePow, Int.reduceNeg, ne_eq, not_false_eq_true, not_true_eq_false, decide_true, decide_false, Bool.not_true, Bool.not_false, forall_const, reduceCtorEq, implies_true, beq_self_eq_true, Int.cast_ofNat_Int, reduceIte, if_true, if_false, Bool.false_eq_true, SubH, e1, List.append_assoc]
      rfl
    · have hk : k = 8 := by omega
      subst hk
      have hl' : (nums IntKind.u32 (P1 ++ inn p0 8)).length = 60 := hl
      have hd' : ∀ r, hdN (nums IntKind.u32 (P1 ++ inn p0 8) ++ r) 60 = nums IntKind.u32 (P1 ++ inn p0 8) := hd
      simp (maxSteps := 2000000) only [go_sem, ↓dxc_true, ↓dxc_false, ↓bxc_true, ↓bxc_false, Nat.zero_add, Nat.add_zero, Nat.zero_mul, Nat.reduceBEq, Nat.reduceAdd, Nat.reduceMul, Nat.reduceSub, Nat.reduceLT, Nat.reduceLeDiff, Nat.reduceEqDiff, Nat.reduceDiv, Nat.reduceMod, Int.reduceAdd, Int.reduceSub, Int.reduceMul, Int.reduceDiv, Int.reduceMod, Int.reduceLT, Int.reduceLE, Int.reduceEq, Int.reduceToNat, Int.reducePow, Int.reduceNeg, ne_eq, not_false_eq_true, not_true_eq_false, decide_true, decide_false, Bool.not_true, Bool.not_false, forall_const, reduceCtorEq, implies_true, beq_self_eq_true, Int.cast_ofNat_Int, reduceIte, if_true, if_false, Bool.false_eq_true, Try.ntmps18, fin_ret hE, Try.results18, List.length_append, hl', hd', allOne_append, allOne_nums, List.length_cons, List.length_nil]
      refine fun cb => ⟨⟨by omega, by omega, by omega⟩, fun b2 c2 j2 hc2 => ?_⟩
      refine CallC.new (γ := Unit) (fun _ b => .s 12 b 0 4 4) (fun _ => .a (nums .u32 (headS 1)) 23) 300 (fun w1 hm1 => ?_) ?_
      · refine (refHeader_C w1 1 (by omega) (by omega)).mono ?_
        rintro e w' ⟨b, rfl, h1, h2, h3⟩
        exact ⟨(), b, rfl, h1, h2, h3⟩
      refine ⟨by simp (maxSteps := 2000000) only [go_sem, ↓dxc_true, ↓dxc_false, ↓bxc_true, ↓bxc_false, Nat.zero_add, Nat.add_zero, Nat.zero_mul, Nat.reduceBEq, Nat.reduceAdd, Nat.reduceMul, Nat.reduceSub, Nat.reduceLT, Nat.reduceLeDiff, Nat.reduceEqDiff, Nat.reduceDiv, Nat.reduceMod, Int.reduceAdd, Int.reduceSub, Int.reduceMul, Int.reduceDiv, Int.reduceMod, Int.reduceLT, Int.reduceLE, Int.reduceEq, Int.reduceToNat, Int.reducePow, Int.reduceNeg, ne_eq, not_false_eq_true, not_true_eq_false, decide_true, decide_false, Bool.not_true, Bool.not_false, forall_const, reduceCtorEq, implies_true, beq_self_eq_true, Int.cast_ofNat_Int, reduceIte, if_true, if_false, Bool.false_eq_true, Try.ntmps18], ?_⟩
      intro _ bh2
      obtain ⟨PA, hPA⟩ : ∃ PA, PA = P1 ++ inn p0 8 ++ ones 4 := ⟨_, rfl⟩
      have hlA : PA.length = 64 := by rw [hPA, List.length_append, List.length_append, inn_len, hlen0]; rfl
      have hq : nums IntKind.u32 (P1 ++ inn p0 8) ++ (SV.v (.int .u32 4294967295) :: .v (.int .u32 4294967295) :: .v (.int .u32 4294967295) :: .v (.int .u32 4294967295) :: j2) = nums .u32 PA ++ j2 := by rw [hPA, nums_append _ _ (ones 4), List.append_assoc]; rfl
      have hl4 : (nums IntKind.u32 PA).length = 64 := by rw [nums_length, hlA]
      have hd4 : ∀ r, hdN (nums IntKind.u32 PA ++ r) 64 = nums IntKind.u32 PA := fun r => by rw [hdN_eq, List.take_left' hl4]
      have hh1 : (nums .u32 (headS 1)).length = 4 := rfl
      simp (maxSteps := 2000000) only [go_sem, ↓dxc_true, ↓dxc_false, ↓bxc_true, ↓bxc_false, Nat.zero_add, Nat.add_zero, Nat.zero_mul, Nat.reduceBEq, Nat.reduceAdd, Nat.reduceMul, Nat.reduceSub, Nat.reduceLT, Nat.reduceLeDiff, Nat.reduceEqDiff, Nat.reduceDiv, Nat.reduceMod, Int.reduceAdd, Int.reduceSub, Int.reduceMul, Int.reduceDiv, Int.reduceMod, Int.reduceLT, Int.reduceLE, Int.reduceEq, Int.reduceToNat, Int.reducePow, Int.reduceNeg, ne_eq, not_false_eq_true, not_true_eq_false, decide_true, decide_false, Bool.not_true, Bool.not_false, forall_const, reduceCtorEq, implies_true, beq_self_eq_true, Int.cast_ofNat_Int, reduceIte, if_true, if_false, Bool.false_eq_true, Try.ntmps18, fin_ret hE, Try.results18, false_implies, true_and, and_true, List.length_append, hq, hl4, hd4, hh1, allOne_append, allOne_nums, hdN_nums .u32 (headS 1) 4 rfl]
      refine ⟨⟨by omega, by omega, by omega⟩, fun b3 c3 j3 hc3 => ?_⟩
      obtain ⟨P2, hP2⟩ : ∃ P2, P2 = PA ++ headS 1 := ⟨_, rfl⟩
      have hlen1 : P2.length = 68 := by rw [hP2, List.length_append, hlA]; rfl
      have hq2 : nums IntKind.u32 PA ++ (nums .u32 (headS 1) ++ j3) = nums .u32 P2 ++ j3 := by rw [hP2, nums_append, List.append_assoc]
      refine ex_weaken ⟨49, 9, [(20, .v (.int .i64 0)), (5, .s 107 b1 0 1 1), (3, .s 13 b3 0 68 c3), (8, .s 105 b 0 2 2), (9, .v (.int .i64 2)), (10, .v (.int .i64 1))],
          [⟨13, b3, true, .a (nums .u32 (P2) ++ j3) 23⟩, ⟨105, b, false, .a [.s 106 b0 0 1 1, .s 107 b1 0 1 1] 64⟩, ⟨106, b0, false, .a p0.f 34⟩, ⟨107, b1, false, .a p1.f 34⟩], []⟩ ⟨rfl, rfl, ⟨rfl, rfl, rfl, rfl, rfl, rfl, trivial⟩, by rw [← hq2]; simp (maxSteps := 2000000) only [go_sem, ↓dxc_true, ↓dxc_false, ↓bxc_true, ↓bxc_false, Nat.zero_add, Nat.add_zero, Nat.zero_mul, Nat.reduceBEq, Nat.reduceAdd, Nat.reduceMul, Nat.reduceSub, Nat.reduceLT, Nat.reduceLeDiff, Nat.reduceEqDiff, Nat.reduceDiv, Nat.reduceMod, Int.reduceAdd, Int.reduceSub, Int.reduceMul, Int.reduceDiv, Int.reduceMod, Int.reduceLT, Int.reduceLE, Int.reduceEq, Int.reduceToNat, Int.reducePow, Int.reduceNeg, ne_eq, not_false_eq_true, not_true_eq_false, decide_true, decide_false, Bool.not_true, Bool.not_false, forall_const, reduceCtorEq, implies_true, beq_self_eq_true, Int.cast_ofNat_Int, reduceIte, if_true, if_false, Bool.false_eq_true, SubH]⟩ ?_
      refine CodeC.loop1 (γ := { g : Nat × Nat × Nat × List SV // (1 ≤ g.1 ∧ g.1 ≤ 8) ∧ 68 + g.1 * 7 ≤ g.2.2.1 ∧ g.2.2.1 ≤ 9223372036854775807 ∧ 68 + g.1 * 7 + g.2.2.2.length = g.2.2.1 })
        (fun g => ⟨49, 10, [(20, .v (.int .i64 (g.1.1 : Int))), (5, .s 107 b1 0 1 1), (3, .s 11 g.1.2.1 0 (68 + g.1.1 * 7) g.1.2.2.1), (8, .s 105 b 0 2 2), (9, .v (.int .i64 2)), (10, .v (.int .i64 1))],
          [⟨11, g.1.2.1, true, .a (nums .u32 (P2 ++ inn p1 g.1.1) ++ g.1.2.2.2) 23⟩, ⟨105, b, false, .a [.s 106 b0 0 1 1, .s 107 b1 0 1 1] 64⟩, ⟨106, b0, false, .a p0.f 34⟩, ⟨107, b1, false, .a p1.f 34⟩], []⟩) (fun g => 8 - g.1.1) 8 300 ?_ ?_
      · simp (maxSteps := 2000000) only [go_sem, ↓dxc_true, ↓dxc_false, ↓bxc_true, ↓bxc_false, Nat.zero_add, Nat.add_zero, Nat.zero_mul, Nat.reduceBEq, Nat.reduceAdd, Nat.reduceMul, Nat.reduceSub, Nat.reduceLT, Nat.reduceLeDiff, Nat.reduceEqDiff, Nat.reduceDiv, Nat.reduceMod, Int.reduceAdd, Int.reduceSub, Int.reduceMul, Int.reduceDiv, Int.reduceMod, Int.reduceLT, Int.reduceLE, Int.reduceEq, Int.reduceToNat, Int.reducePow, Int.reduceNeg, ne_eq, not_false_eq_true, not_true_eq_false, decide_true, decide_false, Bool.not_true, Bool.not_false, forall_const, reduceCtorEq, implies_true, beq_self_eq_true, Int.cast_ofNat_Int, reduceIte, if_true, if_false, Bool.false_eq_true, Try.ntmps18, fin_ret hE, Try.results18, Pg.len]
        intro c1
        refine CallC.pur (.v (.bool true)) 300 (fun w1 hm1 => by have := refRight_C w1 p1; rw [h1.1] at this; exact this) ?_
        simp (maxSteps := 2000000) only [go_sem, ↓dxc_true, ↓dxc_false, ↓bxc_true, ↓bxc_false, Nat.zero_add, Nat.add_zero, Nat.zero_mul, Nat.reduceBEq, Nat.reduceAdd, Nat.reduceMul, Nat.reduceSub, Nat.reduceLT, Nat.reduceLeDiff, Nat.reduceEqDiff, Nat.reduceDiv, Nat.reduceMod, Int.reduceAdd, Int.reduceSub, Int.reduceMul, Int.reduceDiv, Int.reduceMod, Int.reduceLT, Int.reduceLE, Int.reduceEq, Int.reduceToNat, Int.reducePow, Int.reduceNeg, ne_eq, not_false_eq_true, not_true_eq_false, decide_true, decide_false, Bool.not_true, Bool.not_false, forall_const, reduceCtorEq, implies_true, beq_self_eq_true, Int.cast_ofNat_Int, reduceIte, if_true, if_false, Bool.false_eq_true, Try.ntmps18, fin_ret hE, Try.results18, Pg.len]
        refine CallC.new (γ := Unit) (fun _ b => .s 10 b 0 7 7) (fun _ => .a (nums .u32 (p1).ws) 23) 300 (fun w1 hm1 => ?_) ?_
        · refine (refWords_C w1 p1 h1.1 h1.2.1 h1.2.2).mono ?_
          rintro e w' ⟨b, rfl, h1, h2, h3⟩
          exact ⟨(), b, rfl, h1, h2, h3⟩
        refine ⟨by simp (maxSteps := 2000000) only [go_sem, ↓dxc_true, ↓dxc_false, ↓bxc_true, ↓bxc_false, Nat.zero_add, Nat.add_zero, Nat.zero_mul, Nat.reduceBEq, Nat.reduceAdd, Nat.reduceMul, Nat.reduceSub, Nat.reduceLT, Nat.reduceLeDiff, Nat.reduceEqDiff, Nat.reduceDiv, Nat.reduceMod, Int.reduceAdd, Int.reduceSub, Int.reduceMul, Int.reduceDiv, Int.reduceMod, Int.reduceLT, Int.reduceLE, Int.reduceEq, Int.reduceToNat, Int.reducePow, Int.reduceNeg, ne_eq, not_false_eq_true, not_true_eq_false, decide_true, decide_false, Bool.not_true, Bool.not_false, forall_const, reduceCtorEq, implies_true, beq_self_eq_true, Int.cast_ofNat_Int, reduceIte, if_true, if_false, Bool.false_eq_true, Try.ntmps18], ?_⟩
        intro _ c2
        have hw7 : (p1).ws.length = 7 := rfl
        have hl : (nums IntKind.u32 (P2)).length = 68 := by rw [nums_length]; exact hlen1
        have hd : ∀ r, hdN (nums IntKind.u32 (P2) ++ r) 68 = nums IntKind.u32 (P2) := fun r => by rw [hdN_eq, List.take_left' hl]
        simp (maxSteps := 2000000) only [go_sem, ↓dxc_true, ↓dxc_false, ↓bxc_true, ↓bxc_false, Nat.zero_add, Nat.add_zero, Nat.zero_mul, Nat.reduceBEq, Nat.reduceAdd, Nat.reduceMul, Nat.reduceSub, Nat.reduceLT, Nat.reduceLeDiff, Nat.reduceEqDiff, Nat.reduceDiv, Nat.reduceMod, Int.reduceAdd, Int.reduceSub, Int.reduceMul, Int.reduceDiv, Int.reduceMod, Int.reduceLT, Int.reduceLE, Int.reduceEq, Int.reduceToNat, Int.reducePow, Int.reduceNeg, ne_eq, not_false_eq_true, not_true_eq_false, decide_true, decide_false, Bool.not_true, Bool.not_false, forall_const, reduceCtorEq, implies_true, beq_self_eq_true, Int.cast_ofNat_Int, reduceIte, if_true, if_false, Bool.false_eq_true, Try.ntmps18, fin_ret hE, Try.results18, List.length_append, hl, nums_length, hw7, allOne_append, allOne_nums, hd, hdN_nums .u32 _ 7 hw7, false_implies, true_and, and_true]
        refine ⟨⟨by omega, by omega, by omega⟩, fun c3 c4 j4 h4 => ?_⟩
        refine ⟨⟨(1, c3, c4, j4), ⟨by simp only; omega, by simp only; omega⟩, by simp only; omega, by simp only; omega, by simp only; omega⟩, ⟨rfl, rfl, ⟨rfl, rfl, rfl, rfl, rfl, rfl, trivial⟩, ?_⟩, by simp only; omega⟩
        have e1 : nums IntKind.u32 (P2 ++ inn p1 1) = nums IntKind.u32 (P2) ++ nums IntKind.u32 (p1).ws := by rw [nums_append]; rfl
        simp (maxSteps := 2000000) only [go_sem, ↓dxc_true, ↓dxc_false, ↓bxc_true, ↓bxc_false, Nat.zero_add, Nat.add_zero, Nat.zero_mul, Nat.reduceBEq, Nat.reduceAdd, Nat.reduceMul, Nat.reduceSub, Nat.reduceLT, Nat.reduceLeDiff, Nat.reduceEqDiff, Nat.reduceDiv, Nat.reduceMod, Int.reduceAdd, Int.reduceSub, Int.reduceMul, Int.reduceDiv, Int.reduceMod, Int.reduceLT, Int.reduceLE, Int.reduceEq, Int.reduceToNat, Int.reducePow, Int.reduceNeg, ne_eq, not_false_eq_true, not_true_eq_false, decide_true, decide_false, Bool.not_true, Bool.not_false, forall_const, reduceCtorEq, implies_true, beq_self_eq_true, Int.cast_ofNat_Int, reduceIte, if_true, if_false, Bool.false_eq_true, SubH, e1]
      · rintro ⟨⟨k, bk, ck, jk⟩, ⟨k1, k2⟩, k3, k4, k5⟩
        simp only at k1 k2 k3 k4 k5
        have hl : (nums IntKind.u32 (P2 ++ inn p1 k)).length = 68 + k * 7 := by rw [nums_length, List.length_append, hlen1, inn_len]
        have hd : ∀ r, hdN (nums IntKind.u32 (P2 ++ inn p1 k) ++ r) (68 + k * 7) = nums IntKind.u32 (P2 ++ inn p1 k) := fun r => by rw [hdN_eq, List.take_left' hl]
        simp (maxSteps := 2000000) only [go_sem, ↓dxc_true, ↓dxc_false, ↓bxc_true, ↓bxc_false, Nat.zero_add, Nat.add_zero, Nat.zero_mul, Nat.reduceBEq, Nat.reduceAdd, Nat.reduceMul, Nat.reduceSub, Nat.reduceLT, Nat.reduceLeDiff, Nat.reduceEqDiff, Nat.reduceDiv, Nat.reduceMod, Int.reduceAdd, Int.reduceSub, Int.reduceMul, Int.reduceDiv, Int.reduceMod, Int.reduceLT, Int.reduceLE, Int.reduceEq, Int.reduceToNat, Int.reducePow, Int.reduceNeg, ne_eq, not_false_eq_true, not_true_eq_false, decide_true, decide_false, Bool.not_true, Bool.not_false, forall_const, reduceCtorEq, implies_true, beq_self_eq_true, Int.cast_ofNat_Int, reduceIte, if_true, if_false, Bool.false_eq_true, Try.ntmps18, fin_ret hE, Try.results18]
        refine ⟨fun q1 cb => ⟨fun q2 => by omega, fun q2 => ?_⟩, fun q1 => ?_⟩
        · simp (maxSteps := 2000000) only [go_sem, ↓dxc_true, ↓dxc_false, ↓bxc_true, ↓bxc_false, Nat.zero_add, Nat.add_zero, Nat.zero_mul, Nat.reduceBEq, Nat.reduceAdd, Nat.reduceMul, Nat.reduceSub, Nat.reduceLT, Nat.reduceLeDiff, Nat.reduceEqDiff, Nat.reduceDiv, Nat.reduceMod, Int.reduceAdd, Int.reduceSub, Int.reduceMul, Int.reduceDiv, Int.reduceMod, Int.reduceLT, Int.reduceLE, Int.reduceEq, Int.reduceToNat, Int.reducePow, Int.reduceNeg, ne_eq, not_false_eq_true, not_true_eq_false, decide_true, decide_false, Bool.not_true, Bool.not_false, forall_const, reduceCtorEq, implies_true, beq_self_eq_true, Int.cast_ofNat_Int, reduceIte, if_true, if_false, Bool.false_eq_true, Try.ntmps18, fin_ret hE, Try.results18, List.length_append, hl, nums_length, allOne_append, allOne_nums, hd, Nat.mul_one, List.length_cons, List.length_nil, false_implies, true_and, and_true]
          refine ⟨⟨by omega, by omega, by omega, by omega, by omega⟩, fun b2 c2 j2 hc2 => ⟨⟨by omega, by omega⟩, ?_⟩⟩
          have ek : 68 + (k + 1) * 7 = 68 + k * 7 + 7 := by omega
          refine ⟨⟨(k + 1, b2, c2, j2), ⟨by simp only; omega, by simp only; omega⟩, by simp only; omega, by simp only; omega, by simp only; omega⟩, ⟨rfl, rfl, ⟨by simp [lk], rfl, by simp only [ek]; rfl, rfl, rfl, rfl, trivial⟩, ?_⟩, by simp only; omega⟩
          have e1 : nums IntKind.u32 (P2 ++ inn p1 (k + 1)) = nums IntKind.u32 (P2 ++ inn p1 k) ++ nums IntKind.u32 (ones 7) := by rw [inn, if_neg (by omega), ← List.append_assoc, nums_append]
          simp (maxSteps := 2000000) only [go_sem, ↓dxc_true, ↓dxc_false, ↓bxc_true, ↓bxc_false, Nat.zero_add, Nat.add_zero, Nat.zero_mul, Nat.reduceBEq, Nat.reduceAdd, Nat.reduceMul, Nat.reduceSub, Nat.reduceLT, Nat.reduceLeDiff, Nat.reduceEqDiff, Nat.reduceDiv, Nat.reduceMod, Int.reduceAdd, Int.reduceSub, Int.reduceMul, Int.reduceDiv, Int.reduceMod, Int.reduceLT, Int.reduceLE, Int.reduceEq, Int.reduceToNat, Int.reducePow, Int.reduceNeg, ne_eq, not_false_eq_true, not_true_eq_false, decide_true, decide_false, Bool.not_true, Bool.not_false, forall_const, reduceCtorEq, implies_true, beq_self_eq_true, Int.cast_ofNat_Int, reduceIte, if_true, if_false, Bool.false_eq_true, SubH, e1, List.append_assoc]
          rfl
        · have hk : k = 8 := by omega
          subst hk
          have hl' : (nums IntKind.u32 (P2 ++ inn p1 8)).length = 124 := hl
          have hd' : ∀ r, hdN (nums IntKind.u32 (P2 ++ inn p1 8) ++ r) 124 = nums IntKind.u32 (P2 ++ inn p1 8) := hd
          simp (maxSteps := 2000000) only [go_sem, ↓dxc_true, ↓dxc_false, ↓bxc_true, ↓bxc_false, Nat.zero_add, Nat.add_zero, Nat.zero_mul, Nat.reduceBEq, Nat.reduceAdd, Nat.reduceMul, Nat.reduceSub, Nat.reduceLT, Nat.reduceLeDiff, Nat.reduceEqDiff, Nat.reduceDiv, Nat.reduceMod, Int.reduceAdd, Int.reduceSub, Int.reduceMul, Int.reduceDiv, Int.reduceMod, Int.reduceLT, Int.reduceLE, Int.reduceEq, Int.reduceToNat, Int.reducePow, Int.reduceNeg, ne_eq, not_false_eq_true, not_true_eq_false, decide_true, decide_false, Bool.not_true, Bool.not_false, forall_const, reduceCtorEq, implies_true, beq_self_eq_true, Int.cast_ofNat_Int, reduceIte, if_true, if_false, Bool.false_eq_true, Try.ntmps18, fin_ret hE, Try.results18, List.length_append, hl', hd', allOne_append, allOne_nums, List.length_cons, List.length_nil]
          refine fun cb => ⟨⟨by omega, by omega, by omega⟩, fun b5 c5 j5 hc5 w' hm' => ?_⟩
          refine ⟨b5, c5, j5, rfl, ⟨by omega, by omega⟩, by simpa using hm'.wr _ List.mem_cons_self rfl, ?_, hm'.below⟩
          have hq3 : nums IntKind.u32 (P2 ++ inn p1 8) ++ (SV.v (.int .u32 4294967295) :: .v (.int .u32 4294967295) :: .v (.int .u32 4294967295) :: .v (.int .u32 4294967295) :: j5) = nums .u32 (P1 ++ inn p0 8 ++ ones 4 ++ headS 1 ++ inn p1 8 ++ ones 4) ++ j5 := by rw [← hPA, ← hP2, nums_append _ _ (ones 4), List.append_assoc]; rfl
          have g1 := hm'.at (t := 11) rfl
          rw [hq3, hP1] at g1
          exact g1


end Go.Proofs
