/- Pages: Right, Words, Read. -/
import Derived.Test.YtmjgfoeonnbkpaaDyL3
import Derived.Test.YtmjgfoeonnbkpaaDxZ
set_option linter.unusedSimpArgs false
set_option linter.unusedVariables false
set_option linter.unusedSectionVars false
set_option maxRecDepth 100000
set_option maxHeartbeats 8000000
namespace Go.Proofs
open Go.Dx Go.RowKit

def Pg.right (p : Pg) : Bool := decide (p.se < 512) && decide (1 ≤ p.sq) && decide (p.sq ≤ 2147483648) && (!p.go || (decide (p.d0 = 0) && decide (p.d1 = 0) && decide (p.d2 = 0) && decide (p.d3 = 0)))
def Pg.ws (p : Pg) : List Int := [if p.go then p.se + 2147483648 else p.se, p.sq, p.d0, p.d1, p.d2, p.d3, 1526644958]
def Pg.words (p : Pg) : List Int := if p.right then p.ws else []

def fo (x : Int) : Prop := 0 ≤ x ∧ x ≤ 4294967295
structure Pg.ok (p : Pg) : Prop where
  se : fo p.se
  sq : fo p.sq
  d0 : fo p.d0
  d1 : fo p.d1
  d2 : fo p.d2
  d3 : fo p.d3

theorem right_C (w : World) (p : Pg) : Calls Try.prog 65 #[den (.g p.f)] w fun e w' => e = .returned (.bool p.right) ∧ Bel w.heap.size w w' := by
  have hm : Mem w [] [] w := Mem.reads (by simp) (by simp)
  refine calls_of_ex [.g p.f] _ [] 3 300 Try.func65 rfl hm (by simp [Try.ntmps65]) fun E hE => ?_
  obtain ⟨se, sq, go, d0, d1, d2, d3⟩ := p
  cases go
  · simp (maxSteps := 2000000) only [go_sem, ↓dxc_true, ↓dxc_false, ↓bxc_true, ↓bxc_false, Nat.zero_add, Nat.add_zero, Nat.zero_mul, Nat.reduceBEq, Nat.reduceAdd, Nat.reduceMul, Nat.reduceSub, Nat.reduceLT, Nat.reduceLeDiff, Nat.reduceEqDiff, Nat.reduceDiv, Nat.reduceMod, Int.reduceAdd, Int.reduceSub, Int.reduceMul, Int.reduceDiv, Int.reduceMod, Int.reduceLT, Int.reduceLE, Int.reduceEq, Int.reduceToNat, Int.reducePow, Int.reduceNeg, ne_eq, not_false_eq_true, not_true_eq_false, decide_true, decide_false, Bool.not_true, Bool.not_false, forall_const, reduceCtorEq, implies_true, beq_self_eq_true, Int.cast_ofNat_Int, reduceIte, if_true, if_false, Bool.false_eq_true, Try.ntmps65, fin_ret hE, Try.results65, Pg.f, List.length_cons, List.length_nil, Pg.right, Bool.not_false, Bool.true_or, Bool.and_true]
    refine fun b => ⟨fun k1 => ⟨fun k2 => ⟨fun k3 w' hm' => ⟨by simp [k1, k2, k3, den], hm'.below⟩, fun k3 w' hm' => ⟨by simp [k1, k2, k3, den], hm'.below⟩⟩, fun k2 w' hm' => ⟨by simp [k1, k2, den], hm'.below⟩⟩, fun k1 w' hm' => ⟨by simp [k1, den], hm'.below⟩⟩
  · simp (maxSteps := 2000000) only [go_sem, ↓dxc_true, ↓dxc_false, ↓bxc_true, ↓bxc_false, Nat.zero_add, Nat.add_zero, Nat.zero_mul, Nat.reduceBEq, Nat.reduceAdd, Nat.reduceMul, Nat.reduceSub, Nat.reduceLT, Nat.reduceLeDiff, Nat.reduceEqDiff, Nat.reduceDiv, Nat.reduceMod, Int.reduceAdd, Int.reduceSub, Int.reduceMul, Int.reduceDiv, Int.reduceMod, Int.reduceLT, Int.reduceLE, Int.reduceEq, Int.reduceToNat, Int.reducePow, Int.reduceNeg, ne_eq, not_false_eq_true, not_true_eq_false, decide_true, decide_false, Bool.not_true, Bool.not_false, forall_const, reduceCtorEq, implies_true, beq_self_eq_true, Int.cast_ofNat_Int, reduceIte, if_true, if_false, Bool.false_eq_true, Try.ntmps65, fin_ret hE, Try.results65, Pg.f, List.length_cons, List.length_nil, Pg.right, Bool.not_true, Bool.false_or]
    refine fun b => ⟨fun k1 => ⟨fun k2 => ⟨fun k3 => ?_, fun k3 w' hm' => ⟨by simp [k1, k2, k3, den], hm'.below⟩⟩, fun k2 w' hm' => ⟨by simp [k1, k2, den], hm'.below⟩⟩, fun k1 w' hm' => ⟨by simp [k1, den], hm'.below⟩⟩
    refine fun w' hm' => ⟨?_, hm'.below⟩
    simp only [den, k1, k2, k3, decide_true, Bool.true_and, Bool.and_assoc]

theorem grow_C (w : World) (n : Nat) (h0 : 0 < n) (hn : n ≤ 1000000) : Calls Try.prog 73 #[.slice none 0 0, .int .i64 (n : Int)] w fun e w' => ∃ b c, e = .returned (den (.s 100 b 0 0 c)) ∧ (n ≤ c ∧ c ≤ 9223372036854775807) ∧ w.heap.size ≤ b ∧ w'.heap[b]? = some (denO (.a (rpt c [.v (.int .u32 0)]) 23)) ∧ Bel w.heap.size w w' := by
  have hm : Mem w [] [] w := Mem.reads (by simp) (by simp)
  refine calls_of_ex [.v (.slice none 0 0), .v (.int .i64 (n : Int))] _ [] 3 300 Try.func73 rfl hm (by simp [Try.ntmps73]) fun E hE => ?_
  have hb : ∀ hp x y, bul Try.prog hp .append [62, 3].toArray [x, y] = .leaf := fun _ _ _ => rfl
  simp (maxSteps := 2000000) only [go_sem, ↓dxc_true, ↓dxc_false, ↓bxc_true, ↓bxc_false, Nat.zero_add, Nat.add_zero, Nat.zero_mul, Nat.reduceBEq, Nat.reduceAdd, Nat.reduceMul, Nat.reduceSub, Nat.reduceLT, Nat.reduceLeDiff, Nat.reduceEqDiff, Nat.reduceDiv, Nat.reduceMod, Int.reduceAdd, Int.reduceSub, Int.reduceMul, Int.reduceDiv, Int.reduceMod, Int.reduceLT, Int.reduceLE, Int.reduceEq, Int.reduceToNat, Int.reducePow, Int.reduceNeg, ne_eq, not_false_eq_true, not_true_eq_false, decide_true, decide_false, Bool.not_true, Bool.not_false, forall_const, reduceCtorEq, implies_true, beq_self_eq_true, Int.cast_ofNat_Int, reduceIte, if_true, if_false, Bool.false_eq_true, Try.ntmps73, fin_ret hE, Try.results73, Int.sub_zero, hb]
  refine ⟨fun k => by omega, fun _ => ⟨⟨by omega, by omega⟩, fun _ => ?_, fun k => by omega⟩⟩
  refine LeafC.appendN (T := 62) (u := 3) (x := .tmp 20) (y := .tmp 21) (n := n) (ik := .i64) Try.ty62 (by kernel_rfl) Try.zv23 rfl (by decide) rfl rfl h0 (by omega) (by omega) 300 ?_
  simp (maxSteps := 2000000) only [go_sem, ↓dxc_true, ↓dxc_false, ↓bxc_true, ↓bxc_false, Nat.zero_add, Nat.add_zero, Nat.zero_mul, Nat.reduceBEq, Nat.reduceAdd, Nat.reduceMul, Nat.reduceSub, Nat.reduceLT, Nat.reduceLeDiff, Nat.reduceEqDiff, Nat.reduceDiv, Nat.reduceMod, Int.reduceAdd, Int.reduceSub, Int.reduceMul, Int.reduceDiv, Int.reduceMod, Int.reduceLT, Int.reduceLE, Int.reduceEq, Int.reduceToNat, Int.reducePow, Int.reduceNeg, ne_eq, not_false_eq_true, not_true_eq_false, decide_true, decide_false, Bool.not_true, Bool.not_false, forall_const, reduceCtorEq, implies_true, beq_self_eq_true, Int.cast_ofNat_Int, reduceIte, if_true, if_false, Bool.false_eq_true, Try.ntmps73, fin_ret hE, Try.results73, ite_self, Nat.sub_zero]
  refine fun b c hc => ⟨by omega, fun w' hm' => ⟨b, c, rfl, hc, ?_, hm'.at (t := 3) rfl, hm'.below⟩⟩
  simpa using hm'.wr _ List.mem_cons_self rfl

theorem concat_C (w : World) (b b1 b2 b3 : Nat) (x1 x2 y1 y2 y3 y4 z : Int) (se sq : Int) (go : Bool)
    (h : Mem w [] [⟨105, b, false, .a [.s 101 b1 0 2 2, .s 102 b2 3 4 4, .s 103 b3 0 1 1] 62⟩, ⟨101, b1, false, .a (nums .u32 [x1, x2]) 23⟩, ⟨102, b2, false, .c [.v (.int .u32 se), .v (.int .u32 sq), .v (.bool go), .v (.int .u32 y1), .v (.int .u32 y2), .v (.int .u32 y3), .v (.int .u32 y4)] 27⟩, ⟨103, b3, false, .a (nums .u32 [z]) 23⟩] w) :
    Calls Try.prog 66 #[den (.s 105 b 0 3 3)] w fun e w' => ∃ b c j, e = .returned (den (.s 100 b 0 7 c)) ∧ (7 ≤ c ∧ c ≤ 9223372036854775807) ∧ w.heap.size ≤ b ∧ w'.heap[b]? = some (denO (.a (nums .u32 [x1, x2, y1, y2, y3, y4, z] ++ j) 23)) ∧ Bel w.heap.size w w' := by
  refine calls_of_ex [.s 105 b 0 3 3] _ [] 3 300 Try.func66 rfl h (by simp [Try.ntmps66]) fun E hE => ?_
  simp (maxSteps := 2000000) only [go_sem, ↓dxc_true, ↓dxc_false, ↓bxc_true, ↓bxc_false, Nat.zero_add, Nat.add_zero, Nat.zero_mul, Nat.reduceBEq, Nat.reduceAdd, Nat.reduceMul, Nat.reduceSub, Nat.reduceLT, Nat.reduceLeDiff, Nat.reduceEqDiff, Nat.reduceDiv, Nat.reduceMod, Int.reduceAdd, Int.reduceSub, Int.reduceMul, Int.reduceDiv, Int.reduceMod, Int.reduceLT, Int.reduceLE, Int.reduceEq, Int.reduceToNat, Int.reducePow, Int.reduceNeg, ne_eq, not_false_eq_true, not_true_eq_false, decide_true, decide_false, Bool.not_true, Bool.not_false, forall_const, reduceCtorEq, implies_true, beq_self_eq_true, Int.cast_ofNat_Int, reduceIte, if_true, if_false, Bool.false_eq_true, Try.ntmps66, fin_ret hE, Try.results66, nums_cons, nums_nil]
  refine CodeC.unroll 4 300 ?_
  simp (maxSteps := 2000000) only [go_sem, ↓dxc_true, ↓dxc_false, ↓bxc_true, ↓bxc_false, Nat.zero_add, Nat.add_zero, Nat.zero_mul, Nat.reduceBEq, Nat.reduceAdd, Nat.reduceMul, Nat.reduceSub, Nat.reduceLT, Nat.reduceLeDiff, Nat.reduceEqDiff, Nat.reduceDiv, Nat.reduceMod, Int.reduceAdd, Int.reduceSub, Int.reduceMul, Int.reduceDiv, Int.reduceMod, Int.reduceLT, Int.reduceLE, Int.reduceEq, Int.reduceToNat, Int.reducePow, Int.reduceNeg, ne_eq, not_false_eq_true, not_true_eq_false, decide_true, decide_false, Bool.not_true, Bool.not_false, forall_const, reduceCtorEq, implies_true, beq_self_eq_true, Int.cast_ofNat_Int, reduceIte, if_true, if_false, Bool.false_eq_true, Try.ntmps66, fin_ret hE, Try.results66, nums_cons, nums_nil]
  refine CallC.new (γ := { p : Nat × List SV // (7 ≤ p.1 ∧ p.1 ≤ 9223372036854775807) ∧ p.2.length = p.1 }) (fun c b => .s 3 b 0 0 c.1.1) (fun c => .a c.1.2 23) 300 (fun w1 hm1 => ?_) ?_
  · refine (grow_C w1 7 (by omega) (by omega)).mono ?_
    rintro e w' ⟨b, c, rfl, h1, h2, h3, h4⟩
    exact ⟨⟨(c, rpt c [.v (.int .u32 0)]), h1, by rw [rpt_length]; simp⟩, b, rfl, h2, h3, h4⟩
  refine ⟨by simp (maxSteps := 2000000) only [go_sem, ↓dxc_true, ↓dxc_false, ↓bxc_true, ↓bxc_false, Nat.zero_add, Nat.add_zero, Nat.zero_mul, Nat.reduceBEq, Nat.reduceAdd, Nat.reduceMul, Nat.reduceSub, Nat.reduceLT, Nat.reduceLeDiff, Nat.reduceEqDiff, Nat.reduceDiv, Nat.reduceMod, Int.reduceAdd, Int.reduceSub, Int.reduceMul, Int.reduceDiv, Int.reduceMod, Int.reduceLT, Int.reduceLE, Int.reduceEq, Int.reduceToNat, Int.reducePow, Int.reduceNeg, ne_eq, not_false_eq_true, not_true_eq_false, decide_true, decide_false, Bool.not_true, Bool.not_false, forall_const, reduceCtorEq, implies_true, beq_self_eq_true, Int.cast_ofNat_Int, reduceIte, if_true, if_false, Bool.false_eq_true, Try.ntmps66], ?_⟩
  rintro ⟨⟨c0, j0⟩, hc0, hj0⟩ b0
  simp only at hc0 hj0
  simp (maxSteps := 2000000) only [go_sem, ↓dxc_true, ↓dxc_false, ↓bxc_true, ↓bxc_false, Nat.zero_add, Nat.add_zero, Nat.zero_mul, Nat.reduceBEq, Nat.reduceAdd, Nat.reduceMul, Nat.reduceSub, Nat.reduceLT, Nat.reduceLeDiff, Nat.reduceEqDiff, Nat.reduceDiv, Nat.reduceMod, Int.reduceAdd, Int.reduceSub, Int.reduceMul, Int.reduceDiv, Int.reduceMod, Int.reduceLT, Int.reduceLE, Int.reduceEq, Int.reduceToNat, Int.reducePow, Int.reduceNeg, ne_eq, not_false_eq_true, not_true_eq_false, decide_true, decide_false, Bool.not_true, Bool.not_false, forall_const, reduceCtorEq, implies_true, beq_self_eq_true, Int.cast_ofNat_Int, reduceIte, if_true, if_false, Bool.false_eq_true, Try.ntmps66, fin_ret hE, Try.results66, nums_cons, nums_nil]
  refine CodeC.unroll 4 300 ?_
  simp (maxSteps := 2000000) only [go_sem, ↓dxc_true, ↓dxc_false, ↓bxc_true, ↓bxc_false, Nat.zero_add, Nat.add_zero, Nat.zero_mul, Nat.reduceBEq, Nat.reduceAdd, Nat.reduceMul, Nat.reduceSub, Nat.reduceLT, Nat.reduceLeDiff, Nat.reduceEqDiff, Nat.reduceDiv, Nat.reduceMod, Int.reduceAdd, Int.reduceSub, Int.reduceMul, Int.reduceDiv, Int.reduceMod, Int.reduceLT, Int.reduceLE, Int.reduceEq, Int.reduceToNat, Int.reducePow, Int.reduceNeg, ne_eq, not_false_eq_true, not_true_eq_false, decide_true, decide_false, Bool.not_true, Bool.not_false, forall_const, reduceCtorEq, implies_true, beq_self_eq_true, Int.cast_ofNat_Int, reduceIte, if_true, if_false, Bool.false_eq_true, Try.ntmps66, fin_ret hE, Try.results66, nums_cons, nums_nil]
  refine ⟨⟨by omega, by omega, by omega⟩, fun c1 j1 h1 => ⟨⟨by omega, by omega, by omega⟩, fun c2 j2 h2 => ⟨⟨by omega, by omega, by omega⟩, fun b3 c3 j3 h3 w' hm' => ?_⟩⟩⟩
  exact ⟨b3, c3, j3, rfl, ⟨by omega, by omega⟩, by simpa using hm'.wr _ List.mem_cons_self rfl, hm'.at (t := 6) rfl, hm'.below⟩

theorem words_N (w : World) (p : Pg) (hp : p.right = false) : Calls Try.prog 51 #[den (.g p.f)] w fun e w' => e = .returned (.slice none 0 0) ∧ Bel w.heap.size w w' := by
  have hm : Mem w [] [] w := Mem.reads (by simp) (by simp)
  refine calls_of_ex [.g p.f] _ [] 3 300 Try.func51 rfl hm (by simp [Try.ntmps51]) fun E hE => ?_
  simp (maxSteps := 2000000) only [go_sem, ↓dxc_true, ↓dxc_false, ↓bxc_true, ↓bxc_false, Nat.zero_add, Nat.add_zero, Nat.zero_mul, Nat.reduceBEq, Nat.reduceAdd, Nat.reduceMul, Nat.reduceSub, Nat.reduceLT, Nat.reduceLeDiff, Nat.reduceEqDiff, Nat.reduceDiv, Nat.reduceMod, Int.reduceAdd, Int.reduceSub, Int.reduceMul, Int.reduceDiv, Int.reduceMod, Int.reduceLT, Int.reduceLE, Int.reduceEq, Int.reduceToNat, Int.reducePow, Int.reduceNeg, ne_eq, not_false_eq_true, not_true_eq_false, decide_true, decide_false, Bool.not_true, Bool.not_false, forall_const, reduceCtorEq, implies_true, beq_self_eq_true, Int.cast_ofNat_Int, reduceIte, if_true, if_false, Bool.false_eq_true, Try.ntmps51, fin_ret hE, Try.results51, Pg.f, List.length_cons, List.length_nil]
  intro b
  refine CallC.pur (.v (.bool p.right)) 300 (fun w1 hm1 => right_C w1 p) ?_
  simp (maxSteps := 2000000) only [go_sem, ↓dxc_true, ↓dxc_false, ↓bxc_true, ↓bxc_false, Nat.zero_add, Nat.add_zero, Nat.zero_mul, Nat.reduceBEq, Nat.reduceAdd, Nat.reduceMul, Nat.reduceSub, Nat.reduceLT, Nat.reduceLeDiff, Nat.reduceEqDiff, Nat.reduceDiv, Nat.reduceMod, Int.reduceAdd, Int.reduceSub, Int.reduceMul, Int.reduceDiv, Int.reduceMod, Int.reduceLT, Int.reduceLE, Int.reduceEq, Int.reduceToNat, Int.reducePow, Int.reduceNeg, ne_eq, not_false_eq_true, not_true_eq_false, decide_true, decide_false, Bool.not_true, Bool.not_false, forall_const, reduceCtorEq, implies_true, beq_self_eq_true, Int.cast_ofNat_Int, reduceIte, if_true, if_false, Bool.false_eq_true, Try.ntmps51, fin_ret hE, Try.results51, hp]
  exact fun w' hm' => ⟨rfl, hm'.below⟩

theorem words_C (w : World) (p : Pg) (hp : p.right = true) (hok : p.ok) : Calls Try.prog 51 #[den (.g p.f)] w fun e w' => ∃ b c j, e = .returned (den (.s 100 b 0 7 c)) ∧ (7 ≤ c ∧ c ≤ 9223372036854775807) ∧ w.heap.size ≤ b ∧ w'.heap[b]? = some (denO (.a (nums .u32 p.ws ++ j) 23)) ∧ Bel w.heap.size w w' := by
  have hm : Mem w [] [] w := Mem.reads (by simp) (by simp)
  refine calls_of_ex [.g p.f] _ [] 3 300 Try.func51 rfl hm (by simp [Try.ntmps51]) fun E hE => ?_
  have hse : p.se < 512 := by
    simp only [Pg.right, Bool.and_eq_true, decide_eq_true_eq] at hp
    exact hp.1.1.1
  have e1 := ior31 (x := p.se) ⟨hok.se.1, by omega⟩
  have hse0 := hok.se.1
  obtain ⟨se, sq, go, d0, d1, d2, d3⟩ := p
  simp only at hse e1 hse0
  simp (maxSteps := 2000000) only [go_sem, ↓dxc_true, ↓dxc_false, ↓bxc_true, ↓bxc_false, Nat.zero_add, Nat.add_zero, Nat.zero_mul, Nat.reduceBEq, Nat.reduceAdd, Nat.reduceMul, Nat.reduceSub, Nat.reduceLT, Nat.reduceLeDiff, Nat.reduceEqDiff, Nat.reduceDiv, Nat.reduceMod, Int.reduceAdd, Int.reduceSub, Int.reduceMul, Int.reduceDiv, Int.reduceMod, Int.reduceLT, Int.reduceLE, Int.reduceEq, Int.reduceToNat, Int.reducePow, Int.reduceNeg, ne_eq, not_false_eq_true, not_true_eq_false, decide_true, decide_false, Bool.not_true, Bool.not_false, forall_const, reduceCtorEq, implies_true, beq_self_eq_true, Int.cast_ofNat_Int, reduceIte, if_true, if_false, Bool.false_eq_true, Try.ntmps51, fin_ret hE, Try.results51, Pg.f, List.length_cons, List.length_nil]
  intro b
  refine CallC.pur (.v (.bool (Pg.right ⟨se, sq, go, d0, d1, d2, d3⟩))) 300 (fun w1 hm1 => right_C w1 ⟨se, sq, go, d0, d1, d2, d3⟩) ?_
  rw [hp]
  cases go
  · simp (maxSteps := 2000000) only [go_sem, ↓dxc_true, ↓dxc_false, ↓bxc_true, ↓bxc_false, Nat.zero_add, Nat.add_zero, Nat.zero_mul, Nat.reduceBEq, Nat.reduceAdd, Nat.reduceMul, Nat.reduceSub, Nat.reduceLT, Nat.reduceLeDiff, Nat.reduceEqDiff, Nat.reduceDiv, Nat.reduceMod, Int.reduceAdd, Int.reduceSub, Int.reduceMul, Int.reduceDiv, Int.reduceMod, Int.reduceLT, Int.reduceLE, Int.reduceEq, Int.reduceToNat, Int.reducePow, Int.reduceNeg, ne_eq, not_false_eq_true, not_true_eq_false, decide_true, decide_false, Bool.not_true, Bool.not_false, forall_const, reduceCtorEq, implies_true, beq_self_eq_true, Int.cast_ofNat_Int, reduceIte, if_true, if_false, Bool.false_eq_true, Try.ntmps51, fin_ret hE, Try.results51]
    refine CodeC.po (.q 0 (.q 1 (.q 2 (.q 4 (.q 5 (.b 3 (.b 6 (.b 7 (.w 8 (.q 9 .e)) .z) .z) (.b 6 (.b 3 (.b 7 (.w 8 (.q 9 .e)) .z) .z) .z))))))) 300 Try.follows_mixed (by kernel_rfl) ?_
    simp (maxSteps := 2000000) only [go_sem, ↓dxc_true, ↓dxc_false, ↓bxc_true, ↓bxc_false, Nat.zero_add, Nat.add_zero, Nat.zero_mul, Nat.reduceBEq, Nat.reduceAdd, Nat.reduceMul, Nat.reduceSub, Nat.reduceLT, Nat.reduceLeDiff, Nat.reduceEqDiff, Nat.reduceDiv, Nat.reduceMod, Int.reduceAdd, Int.reduceSub, Int.reduceMul, Int.reduceDiv, Int.reduceMod, Int.reduceLT, Int.reduceLE, Int.reduceEq, Int.reduceToNat, Int.reducePow, Int.reduceNeg, ne_eq, not_false_eq_true, not_true_eq_false, decide_true, decide_false, Bool.not_true, Bool.not_false, forall_const, reduceCtorEq, implies_true, beq_self_eq_true, Int.cast_ofNat_Int, reduceIte, if_true, if_false, Bool.false_eq_true, Try.ntmps51, fin_ret hE, Try.results51, Option.elim]
    refine ⟨?_, ?_⟩
    all_goals
      intro b1 b2 b3
      refine CallD.new rfl (γ := { p : Nat × List SV // 7 ≤ p.1 ∧ p.1 ≤ 9223372036854775807 }) (fun c b => .s 7 b 0 7 c.1.1) (fun c => .a (nums .u32 [se, sq, d0, d1, d2, d3, 1526644958] ++ c.1.2) 23) (fun w1 hm1 => ?_) ?_
    · refine (concat_C w1 b3 b1 b b2 se sq d0 d1 d2 d3 1526644958 se sq false (Mem.reads (by simpa using ⟨hm1.at (t := 6) rfl, hm1.at (t := 4) rfl, hm1.at (t := 3) rfl, hm1.at (t := 5) rfl⟩) (by simp))).mono ?_
      rintro e w' ⟨b, c, j, rfl, h1, h2, h3, h4⟩
      exact ⟨⟨(c, j), h1⟩, b, rfl, h2, h3, h4⟩
    · simp (maxSteps := 2000000) only [go_sem, ↓dxc_true, ↓dxc_false, ↓bxc_true, ↓bxc_false, Nat.zero_add, Nat.add_zero, Nat.zero_mul, Nat.reduceBEq, Nat.reduceAdd, Nat.reduceMul, Nat.reduceSub, Nat.reduceLT, Nat.reduceLeDiff, Nat.reduceEqDiff, Nat.reduceDiv, Nat.reduceMod, Int.reduceAdd, Int.reduceSub, Int.reduceMul, Int.reduceDiv, Int.reduceMod, Int.reduceLT, Int.reduceLE, Int.reduceEq, Int.reduceToNat, Int.reducePow, Int.reduceNeg, ne_eq, not_false_eq_true, not_true_eq_false, decide_true, decide_false, Bool.not_true, Bool.not_false, forall_const, reduceCtorEq, implies_true, beq_self_eq_true, Int.cast_ofNat_Int, reduceIte, if_true, if_false, Bool.false_eq_true, Try.ntmps51, fin_ret hE, Try.results51]
      rintro ⟨⟨c, j⟩, hc⟩ b4
      exact fun w' hm' => ⟨b4, c, j, rfl, hc, by simpa using hm'.wr _ List.mem_cons_self rfl, hm'.at (t := 7) rfl, hm'.below⟩
    · refine (concat_C w1 b3 b2 b b1 se sq d0 d1 d2 d3 1526644958 se sq false (Mem.reads (by simpa using ⟨hm1.at (t := 6) rfl, hm1.at (t := 5) rfl, hm1.at (t := 3) rfl, hm1.at (t := 4) rfl⟩) (by simp))).mono ?_
      rintro e w' ⟨b, c, j, rfl, h1, h2, h3, h4⟩
      exact ⟨⟨(c, j), h1⟩, b, rfl, h2, h3, h4⟩
    · simp (maxSteps := 2000000) only [go_sem, ↓dxc_true, ↓dxc_false, ↓bxc_true, ↓bxc_false, Nat.zero_add, Nat.add_zero, Nat.zero_mul, Nat.reduceBEq, Nat.reduceAdd, Nat.reduceMul, Nat.reduceSub, Nat.reduceLT, Nat.reduceLeDiff, Nat.reduceEqDiff, Nat.reduceDiv, Nat.reduceMod, Int.reduceAdd, Int.reduceSub, Int.reduceMul, Int.reduceDiv, Int.reduceMod, Int.reduceLT, Int.reduceLE, Int.reduceEq, Int.reduceToNat, Int.reducePow, Int.reduceNeg, ne_eq, not_false_eq_true, not_true_eq_false, decide_true, decide_false, Bool.not_true, Bool.not_false, forall_const, reduceCtorEq, implies_true, beq_self_eq_true, Int.cast_ofNat_Int, reduceIte, if_true, if_false, Bool.false_eq_true, Try.ntmps51, fin_ret hE, Try.results51]
      rintro ⟨⟨c, j⟩, hc⟩ b4
      exact fun w' hm' => ⟨b4, c, j, rfl, hc, by simpa using hm'.wr _ List.mem_cons_self rfl, hm'.at (t := 7) rfl, hm'.below⟩
  · simp (maxSteps := 2000000) only [go_sem, ↓dxc_true, ↓dxc_false, ↓bxc_true, ↓bxc_false, Nat.zero_add, Nat.add_zero, Nat.zero_mul, Nat.reduceBEq, Nat.reduceAdd, Nat.reduceMul, Nat.reduceSub, Nat.reduceLT, Nat.reduceLeDiff, Nat.reduceEqDiff, Nat.reduceDiv, Nat.reduceMod, Int.reduceAdd, Int.reduceSub, Int.reduceMul, Int.reduceDiv, Int.reduceMod, Int.reduceLT, Int.reduceLE, Int.reduceEq, Int.reduceToNat, Int.reducePow, Int.reduceNeg, ne_eq, not_false_eq_true, not_true_eq_false, decide_true, decide_false, Bool.not_true, Bool.not_false, forall_const, reduceCtorEq, implies_true, beq_self_eq_true, Int.cast_ofNat_Int, reduceIte, if_true, if_false, Bool.false_eq_true, Try.ntmps51, fin_ret hE, Try.results51, e1]
    refine ⟨⟨by omega, by omega⟩, ?_⟩
    refine CodeC.po (.q 0 (.q 1 (.q 2 (.q 4 (.q 5 (.b 3 (.b 6 (.b 7 (.w 8 (.q 9 .e)) .z) .z) (.b 6 (.b 3 (.b 7 (.w 8 (.q 9 .e)) .z) .z) .z))))))) 300 Try.follows_mixed (by kernel_rfl) ?_
    simp (maxSteps := 2000000) only [go_sem, ↓dxc_true, ↓dxc_false, ↓bxc_true, ↓bxc_false, Nat.zero_add, Nat.add_zero, Nat.zero_mul, Nat.reduceBEq, Nat.reduceAdd, Nat.reduceMul, Nat.reduceSub, Nat.reduceLT, Nat.reduceLeDiff, Nat.reduceEqDiff, Nat.reduceDiv, Nat.reduceMod, Int.reduceAdd, Int.reduceSub, Int.reduceMul, Int.reduceDiv, Int.reduceMod, Int.reduceLT, Int.reduceLE, Int.reduceEq, Int.reduceToNat, Int.reducePow, Int.reduceNeg, ne_eq, not_false_eq_true, not_true_eq_false, decide_true, decide_false, Bool.not_true, Bool.not_false, forall_const, reduceCtorEq, implies_true, beq_self_eq_true, Int.cast_ofNat_Int, reduceIte, if_true, if_false, Bool.false_eq_true, Try.ntmps51, fin_ret hE, Try.results51, Option.elim]
    refine ⟨?_, ?_⟩
    all_goals
      intro b1 b2 b3
      refine CallD.new rfl (γ := { p : Nat × List SV // 7 ≤ p.1 ∧ p.1 ≤ 9223372036854775807 }) (fun c b => .s 7 b 0 7 c.1.1) (fun c => .a (nums .u32 [se + 2147483648, sq, d0, d1, d2, d3, 1526644958] ++ c.1.2) 23) (fun w1 hm1 => ?_) ?_
    · refine (concat_C w1 b3 b1 b b2 (se + 2147483648) sq d0 d1 d2 d3 1526644958 se sq true (Mem.reads (by simpa using ⟨hm1.at (t := 6) rfl, hm1.at (t := 4) rfl, hm1.at (t := 3) rfl, hm1.at (t := 5) rfl⟩) (by simp))).mono ?_
      rintro e w' ⟨b, c, j, rfl, h1, h2, h3, h4⟩
      exact ⟨⟨(c, j), h1⟩, b, rfl, h2, h3, h4⟩
    · simp (maxSteps := 2000000) only [go_sem, ↓dxc_true, ↓dxc_false, ↓bxc_true, ↓bxc_false, Nat.zero_add, Nat.add_zero, Nat.zero_mul, Nat.reduceBEq, Nat.reduceAdd, Nat.reduceMul, Nat.reduceSub, Nat.reduceLT, Nat.reduceLeDiff, Nat.reduceEqDiff, Nat.reduceDiv, Nat.reduceMod, Int.reduceAdd, Int.reduceSub, Int.reduceMul, Int.reduceDiv, Int.reduceMod, Int.reduceLT, Int.reduceLE, Int.reduceEq, Int.reduceToNat, Int.reducePow, Int.reduceNeg, ne_eq, not_false_eq_true, not_true_eq_false, decide_true, decide_false, Bool.not_true, Bool.not_false, forall_const, reduceCtorEq, implies_true, beq_self_eq_true, Int.cast_ofNat_Int, reduceIte, if_true, if_false, Bool.false_eq_true, Try.ntmps51, fin_ret hE, Try.results51]
      rintro ⟨⟨c, j⟩, hc⟩ b4
      exact fun w' hm' => ⟨b4, c, j, rfl, hc, by simpa using hm'.wr _ List.mem_cons_self rfl, hm'.at (t := 7) rfl, hm'.below⟩
    · refine (concat_C w1 b3 b2 b b1 (se + 2147483648) sq d0 d1 d2 d3 1526644958 se sq true (Mem.reads (by simpa using ⟨hm1.at (t := 6) rfl, hm1.at (t := 5) rfl, hm1.at (t := 3) rfl, hm1.at (t := 4) rfl⟩) (by simp))).mono ?_
      rintro e w' ⟨b, c, j, rfl, h1, h2, h3, h4⟩
      exact ⟨⟨(c, j), h1⟩, b, rfl, h2, h3, h4⟩
    · simp (maxSteps := 2000000) only [go_sem, ↓dxc_true, ↓dxc_false, ↓bxc_true, ↓bxc_false, Nat.zero_add, Nat.add_zero, Nat.zero_mul, Nat.reduceBEq, Nat.reduceAdd, Nat.reduceMul, Nat.reduceSub, Nat.reduceLT, Nat.reduceLeDiff, Nat.reduceEqDiff, Nat.reduceDiv, Nat.reduceMod, Int.reduceAdd, Int.reduceSub, Int.reduceMul, Int.reduceDiv, Int.reduceMod, Int.reduceLT, Int.reduceLE, Int.reduceEq, Int.reduceToNat, Int.reducePow, Int.reduceNeg, ne_eq, not_false_eq_true, not_true_eq_false, decide_true, decide_false, Bool.not_true, Bool.not_false, forall_const, reduceCtorEq, implies_true, beq_self_eq_true, Int.cast_ofNat_Int, reduceIte, if_true, if_false, Bool.false_eq_true, Try.ntmps51, fin_ret hE, Try.results51]
      rintro ⟨⟨c, j⟩, hc⟩ b4
      exact fun w' hm' => ⟨b4, c, j, rfl, hc, by simpa using hm'.wr _ List.mem_cons_self rfl, hm'.at (t := 7) rfl, hm'.below⟩

/-! ### Read -/

def Pg.of (xs : List Int) : Pg := ⟨xs.getD 0 0 % 2147483648, xs.getD 1 0, decide (2147483648 ≤ xs.getD 0 0), xs.getD 2 0, xs.getD 3 0, xs.getD 4 0, xs.getD 5 0⟩
def readS (xs : List Int) : Pg × Int := let k := kindS xs (Pg.of xs).words 7; if k = 1 then (Pg.of xs, k) else (Pg.zero, k)

theorem read_C (w : World) (ba oa ca : Nat) (xs : List Int) (la : List SV) (Ta : Nat) (za : Nat × Nat) (hn : xs.length = 7) (hu : U32 xs) (hca : 7 ≤ ca)
    (h : w.heap[ba]? = some (denO (.z la Ta za))) (hs : Seg la oa .u32 xs) :
    Calls Try.prog 41 #[den (.s 101 ba oa 7 ca)] w fun e w' => e = .returned (den (.u [.g (readS xs).1.f, .v (.int .i64 (readS xs).2)])) ∧ Bel w.heap.size w w' := by
  have hm : Mem w [] [⟨101, ba, false, .z la Ta za⟩] w := Mem.reads (by simpa using h) (by simp)
  refine calls_of_ex [.s 101 ba oa 7 ca] _ [] 3 300 Try.func41 rfl hm (by simp [Try.ntmps41]) fun E hE => ?_
  have r0 := hs.ld1 (i := 0) (by omega)
  have r1 := hs.ld1 (i := 1) (by omega)
  have r2 : ldN la (oa + 2) 4 = [.v (.int .u32 (xs.getD 2 0)), .v (.int .u32 (xs.getD 3 0)), .v (.int .u32 (xs.getD 4 0)), .v (.int .u32 (xs.getD 5 0))] := by
    rw [ldN_eq]
    apply List.ext_getElem?
    intro t
    have g2 := hs 2 (by omega)
    have g3 := hs 3 (by omega)
    have g4 := hs 4 (by omega)
    have g5 := hs 5 (by omega)
    rcases t with _ | _ | _ | _ | t
    · simpa using g2
    · simpa using g3
    · simpa using g4
    · simpa using g5
    · rw [List.getElem?_eq_none (by simp; omega), List.getElem?_eq_none (by simp)]
  rw [Nat.add_zero] at r0
  have q6 := hs.lt (i := 6) (by omega)
  obtain ⟨u0, u0'⟩ := hu 0 (by omega)
  have a1 := iandn31 (x := xs.getD 0 0) ⟨u0, u0'⟩
  have a2 := iand31 (x := xs.getD 0 0) ⟨u0, u0'⟩
  have hca' : ¬ ca = 2 := by omega
  have a3 : (!decide ((if 2147483648 ≤ xs.getD 0 0 then (2147483648 : Int) else 0) = 0)) = decide (2147483648 ≤ xs.getD 0 0) := by
    split
    · rename_i h; rw [decide_eq_true h]; rfl
    · rename_i h; rw [decide_eq_false h]; rfl
  simp (maxSteps := 2000000) only [go_sem, ↓dxc_true, ↓dxc_false, ↓bxc_true, ↓bxc_false, Nat.zero_add, Nat.add_zero, Nat.zero_mul, Nat.reduceBEq, Nat.reduceAdd, Nat.reduceMul, Nat.reduceSub, Nat.reduceLT, Nat.reduceLeDiff, Nat.reduceEqDiff, Nat.reduceDiv, Nat.reduceMod, Int.reduceAdd, Int.reduceSub, Int.reduceMul, Int.reduceDiv, Int.reduceMod, Int.reduceLT, Int.reduceLE, Int.reduceEq, Int.reduceToNat, Int.reducePow, Int.reduceNeg, ne_eq, not_false_eq_true, not_true_eq_false, decide_true, decide_false, Bool.not_true, Bool.not_false, forall_const, reduceCtorEq, implies_true, beq_self_eq_true, Int.cast_ofNat_Int, reduceIte, if_true, if_false, Bool.false_eq_true, Try.ntmps41, fin_ret hE, Try.results41]
  intro b
  refine CodeC.po (.q 0 (.q 1 (.q 2 (.q 3 (.q 4 (.q 5 (.q 6 (.q 7 (.q 8 (.q 9 (.q 10 (.q 11 (.q 12 (.q 13 (.q 14 (.q 15 (.q 16 (.b 17 (.w 18 .e) .z)))))))))))))))))) 300 Try.follows_mixed (by kernel_rfl) ?_
  simp (maxSteps := 2000000) only [go_sem, ↓dxc_true, ↓dxc_false, ↓bxc_true, ↓bxc_false, Nat.zero_add, Nat.add_zero, Nat.zero_mul, Nat.reduceBEq, Nat.reduceAdd, Nat.reduceMul, Nat.reduceSub, Nat.reduceLT, Nat.reduceLeDiff, Nat.reduceEqDiff, Nat.reduceDiv, Nat.reduceMod, Int.reduceAdd, Int.reduceSub, Int.reduceMul, Int.reduceDiv, Int.reduceMod, Int.reduceLT, Int.reduceLE, Int.reduceEq, Int.reduceToNat, Int.reducePow, Int.reduceNeg, ne_eq, not_false_eq_true, not_true_eq_false, decide_true, decide_false, Bool.not_true, Bool.not_false, forall_const, reduceCtorEq, implies_true, beq_self_eq_true, Int.cast_ofNat_Int, reduceIte, if_true, if_false, Bool.false_eq_true, Try.ntmps41, fin_ret hE, Try.results41, Option.elim, r0, r1, a1, a2, a3, hca']
  refine ⟨by omega, ⟨by omega, by omega⟩, by omega, by omega, ⟨by omega, by omega⟩, by omega, ?_⟩
  refine LeafD.val (.p 101 ba (oa + 2)) rfl (by simp) (fun a w hok => exec_s2a hok (T := 25) (e := 23) (n := 4) (by kernel_rfl) (x := .tmp 23) (t := 101) (b := ba) (o := oa + 2) (m := 5) (c := ca - 2) rfl (by omega) _ _ _ _ _) ?_
  simp (maxSteps := 2000000) only [go_sem, ↓dxc_true, ↓dxc_false, ↓bxc_true, ↓bxc_false, Nat.zero_add, Nat.add_zero, Nat.zero_mul, Nat.reduceBEq, Nat.reduceAdd, Nat.reduceMul, Nat.reduceSub, Nat.reduceLT, Nat.reduceLeDiff, Nat.reduceEqDiff, Nat.reduceDiv, Nat.reduceMod, Int.reduceAdd, Int.reduceSub, Int.reduceMul, Int.reduceDiv, Int.reduceMod, Int.reduceLT, Int.reduceLE, Int.reduceEq, Int.reduceToNat, Int.reducePow, Int.reduceNeg, ne_eq, not_false_eq_true, not_true_eq_false, decide_true, decide_false, Bool.not_true, Bool.not_false, forall_const, reduceCtorEq, implies_true, beq_self_eq_true, Int.cast_ofNat_Int, reduceIte, if_true, if_false, Bool.false_eq_true, Try.ntmps41, fin_ret hE, Try.results41, Option.elim, r2]
  refine ⟨by omega, fun b2 => ?_⟩
  have hP : [SV.v (.int .u32 (xs.getD 0 0 % 2147483648)), .v (.int .u32 (xs.getD 1 0)), .v (.bool (decide (2147483648 ≤ xs.getD 0 0))), .v (.int .u32 (xs.getD 2 0)), .v (.int .u32 (xs.getD 3 0)), .v (.int .u32 (xs.getD 4 0)), .v (.int .u32 (xs.getD 5 0))] = (Pg.of xs).f := rfl
  rw [hP]
  have fin : ∀ k : Int, kindS xs (Pg.of xs).words 7 = k → (k = 1 → readS xs = (Pg.of xs, 1)) ∧ (k ≠ 1 → readS xs = (Pg.zero, k)) := by
    intro k hk
    unfold readS
    rw [hk]
    constructor
    · intro h; simp [h]
    · intro h; simp [h]
  have hok : (Pg.of xs).ok := by
    have v1 := hu 1 (by omega)
    have v2 := hu 2 (by omega)
    have v3 := hu 3 (by omega)
    have v4 := hu 4 (by omega)
    have v5 := hu 5 (by omega)
    refine ⟨⟨?_, ?_⟩, v1, v2, v3, v4, v5⟩ <;> simp only [Pg.of] <;> omega
  clear hP
  generalize hpg : Pg.of xs = p at *
  have zf : Pg.zero.f = [SV.v (.int .u32 0), .v (.int .u32 0), .v (.bool false), .v (.int .u32 0), .v (.int .u32 0), .v (.int .u32 0), .v (.int .u32 0)] := rfl
  cases hr : p.right with
  | false =>
    refine CallC.pur (.v (.slice none 0 0)) 300 (fun w1 hm1 => words_N w1 p hr) ?_
    simp (maxSteps := 2000000) only [go_sem, ↓dxc_true, ↓dxc_false, ↓bxc_true, ↓bxc_false, Nat.zero_add, Nat.add_zero, Nat.zero_mul, Nat.reduceBEq, Nat.reduceAdd, Nat.reduceMul, Nat.reduceSub, Nat.reduceLT, Nat.reduceLeDiff, Nat.reduceEqDiff, Nat.reduceDiv, Nat.reduceMod, Int.reduceAdd, Int.reduceSub, Int.reduceMul, Int.reduceDiv, Int.reduceMod, Int.reduceLT, Int.reduceLE, Int.reduceEq, Int.reduceToNat, Int.reducePow, Int.reduceNeg, ne_eq, not_false_eq_true, not_true_eq_false, decide_true, decide_false, Bool.not_true, Bool.not_false, forall_const, reduceCtorEq, implies_true, beq_self_eq_true, Int.cast_ofNat_Int, reduceIte, if_true, if_false, Bool.false_eq_true, Try.ntmps41, fin_ret hE, Try.results41]
    have hh : p.words = [] := by rw [Pg.words, hr]; rfl
    rw [hh] at fin
    obtain ⟨k, hk⟩ : ∃ k, kindS xs [] 7 = k := ⟨_, rfl⟩
    obtain ⟨f1, f2⟩ := fin k hk
    refine CallC.pur (.v (.int .i64 k)) 300 (fun w1 hm1 => ?_) ?_
    · have := kind_N w1 ba oa ca xs la Ta za ⟨by omega, by omega⟩ (hm1.at (t := 101) rfl) hs
      rw [hn, hk] at this
      exact this
    by_cases hk1 : k = 1
    · have f := f1 hk1
      subst hk1
      simp (maxSteps := 2000000) only [go_sem, ↓dxc_true, ↓dxc_false, ↓bxc_true, ↓bxc_false, Nat.zero_add, Nat.add_zero, Nat.zero_mul, Nat.reduceBEq, Nat.reduceAdd, Nat.reduceMul, Nat.reduceSub, Nat.reduceLT, Nat.reduceLeDiff, Nat.reduceEqDiff, Nat.reduceDiv, Nat.reduceMod, Int.reduceAdd, Int.reduceSub, Int.reduceMul, Int.reduceDiv, Int.reduceMod, Int.reduceLT, Int.reduceLE, Int.reduceEq, Int.reduceToNat, Int.reducePow, Int.reduceNeg, ne_eq, not_false_eq_true, not_true_eq_false, decide_true, decide_false, Bool.not_true, Bool.not_false, forall_const, reduceCtorEq, implies_true, beq_self_eq_true, Int.cast_ofNat_Int, reduceIte, if_true, if_false, Bool.false_eq_true, Try.ntmps41, fin_ret hE, Try.results41, f, Pg.len, Pg.one]
      exact fun w' hm' => hm'.below
    · have f := f2 hk1
      simp (maxSteps := 2000000) only [go_sem, ↓dxc_true, ↓dxc_false, ↓bxc_true, ↓bxc_false, Nat.zero_add, Nat.add_zero, Nat.zero_mul, Nat.reduceBEq, Nat.reduceAdd, Nat.reduceMul, Nat.reduceSub, Nat.reduceLT, Nat.reduceLeDiff, Nat.reduceEqDiff, Nat.reduceDiv, Nat.reduceMod, Int.reduceAdd, Int.reduceSub, Int.reduceMul, Int.reduceDiv, Int.reduceMod, Int.reduceLT, Int.reduceLE, Int.reduceEq, Int.reduceToNat, Int.reducePow, Int.reduceNeg, ne_eq, not_false_eq_true, not_true_eq_false, decide_true, decide_false, Bool.not_true, Bool.not_false, forall_const, reduceCtorEq, implies_true, beq_self_eq_true, Int.cast_ofNat_Int, reduceIte, if_true, if_false, Bool.false_eq_true, Try.ntmps41, fin_ret hE, Try.results41, f, hk1, zf, Pg.len, Pg.one]
      exact fun w' hm' => hm'.below
  | true =>
    refine CallC.new (γ := { p : Nat × List SV // 7 ≤ p.1 ∧ p.1 ≤ 9223372036854775807 }) (fun c b => .s 5 b 0 7 c.1.1) (fun c => .a (nums .u32 p.ws ++ c.1.2) 23) 300 (fun w1 hm1 => ?_) ?_
    · refine (words_C w1 p hr hok).mono ?_
      rintro e w' ⟨b, c, j, rfl, h1, h2, h3, h4⟩
      exact ⟨⟨(c, j), h1⟩, b, rfl, h2, h3, h4⟩
    refine ⟨by simp (maxSteps := 2000000) only [go_sem, ↓dxc_true, ↓dxc_false, ↓bxc_true, ↓bxc_false, Nat.zero_add, Nat.add_zero, Nat.zero_mul, Nat.reduceBEq, Nat.reduceAdd, Nat.reduceMul, Nat.reduceSub, Nat.reduceLT, Nat.reduceLeDiff, Nat.reduceEqDiff, Nat.reduceDiv, Nat.reduceMod, Int.reduceAdd, Int.reduceSub, Int.reduceMul, Int.reduceDiv, Int.reduceMod, Int.reduceLT, Int.reduceLE, Int.reduceEq, Int.reduceToNat, Int.reducePow, Int.reduceNeg, ne_eq, not_false_eq_true, not_true_eq_false, decide_true, decide_false, Bool.not_true, Bool.not_false, forall_const, reduceCtorEq, implies_true, beq_self_eq_true, Int.cast_ofNat_Int, reduceIte, if_true, if_false, Bool.false_eq_true, Try.ntmps41], ?_⟩
    rintro ⟨⟨c, j⟩, hc⟩ b3
    simp only at hc
    simp (maxSteps := 2000000) only [go_sem, ↓dxc_true, ↓dxc_false, ↓bxc_true, ↓bxc_false, Nat.zero_add, Nat.add_zero, Nat.zero_mul, Nat.reduceBEq, Nat.reduceAdd, Nat.reduceMul, Nat.reduceSub, Nat.reduceLT, Nat.reduceLeDiff, Nat.reduceEqDiff, Nat.reduceDiv, Nat.reduceMod, Int.reduceAdd, Int.reduceSub, Int.reduceMul, Int.reduceDiv, Int.reduceMod, Int.reduceLT, Int.reduceLE, Int.reduceEq, Int.reduceToNat, Int.reducePow, Int.reduceNeg, ne_eq, not_false_eq_true, not_true_eq_false, decide_true, decide_false, Bool.not_true, Bool.not_false, forall_const, reduceCtorEq, implies_true, beq_self_eq_true, Int.cast_ofNat_Int, reduceIte, if_true, if_false, Bool.false_eq_true, Try.ntmps41, fin_ret hE, Try.results41]
    have hh : p.words = p.ws := by rw [Pg.words, hr]; rfl
    rw [hh] at fin
    obtain ⟨k, hk⟩ : ∃ k, kindS xs p.ws 7 = k := ⟨_, rfl⟩
    obtain ⟨f1, f2⟩ := fin k hk
    refine CallC.pur (.v (.int .i64 k)) 300 (fun w1 hm1 => ?_) ?_
    · have := kind_C w1 ba oa ca b3 0 c xs p.ws la (nums .u32 p.ws ++ j) Ta 23 za (0, 0) ⟨by omega, by omega⟩ (by rw [hn]; rfl) (hm1.at (t := 101) rfl) hs (hm1.at (t := 5) rfl) (Seg.own .u32 p.ws j)
      rw [hn, hk] at this
      exact this
    by_cases hk1 : k = 1
    · have f := f1 hk1
      subst hk1
      simp (maxSteps := 2000000) only [go_sem, ↓dxc_true, ↓dxc_false, ↓bxc_true, ↓bxc_false, Nat.zero_add, Nat.add_zero, Nat.zero_mul, Nat.reduceBEq, Nat.reduceAdd, Nat.reduceMul, Nat.reduceSub, Nat.reduceLT, Nat.reduceLeDiff, Nat.reduceEqDiff, Nat.reduceDiv, Nat.reduceMod, Int.reduceAdd, Int.reduceSub, Int.reduceMul, Int.reduceDiv, Int.reduceMod, Int.reduceLT, Int.reduceLE, Int.reduceEq, Int.reduceToNat, Int.reducePow, Int.reduceNeg, ne_eq, not_false_eq_true, not_true_eq_false, decide_true, decide_false, Bool.not_true, Bool.not_false, forall_const, reduceCtorEq, implies_true, beq_self_eq_true, Int.cast_ofNat_Int, reduceIte, if_true, if_false, Bool.false_eq_true, Try.ntmps41, fin_ret hE, Try.results41, f, Pg.len, Pg.one]
      exact fun w' hm' => hm'.below
    · have f := f2 hk1
      simp (maxSteps := 2000000) only [go_sem, ↓dxc_true, ↓dxc_false, ↓bxc_true, ↓bxc_false, Nat.zero_add, Nat.add_zero, Nat.zero_mul, Nat.reduceBEq, Nat.reduceAdd, Nat.reduceMul, Nat.reduceSub, Nat.reduceLT, Nat.reduceLeDiff, Nat.reduceEqDiff, Nat.reduceDiv, Nat.reduceMod, Int.reduceAdd, Int.reduceSub, Int.reduceMul, Int.reduceDiv, Int.reduceMod, Int.reduceLT, Int.reduceLE, Int.reduceEq, Int.reduceToNat, Int.reducePow, Int.reduceNeg, ne_eq, not_false_eq_true, not_true_eq_false, decide_true, decide_false, Bool.not_true, Bool.not_false, forall_const, reduceCtorEq, implies_true, beq_self_eq_true, Int.cast_ofNat_Int, reduceIte, if_true, if_false, Bool.false_eq_true, Try.ntmps41, fin_ret hE, Try.results41, f, hk1, zf, Pg.len, Pg.one]
      exact fun w' hm' => hm'.below

end Go.Proofs
