/- Find, ours and the document's. -/
import Derived.Test.YtmjgfoeonnbkpaaDyL1
set_option linter.unusedSimpArgs false
set_option linter.unusedVariables false
set_option linter.unusedSectionVars false
set_option maxRecDepth 100000
set_option maxHeartbeats 8000000
namespace Go.Proofs
open Go.Dx Go.RowKit

def fX (q : Int) (xs : List Pl) : Option Nat := xs.findIdx? (fun x => decide (x.pg.se = q))
def fI (q : Int) (xs : List Pl) : Int := match fX q xs with
  | some i => (i : Int)
  | none => -1
def fF (q : Int) (xs : List Pl) : Pl × Bool := match fX q xs with
  | some i => (xs.getD i Pl.zero, true)
  | none => (Pl.zero, false)

theorem fX_hit {q : Int} {xs : List Pl} {i : Nat} {x : Pl} (hx : xs[i]? = some x) (h : x.pg.se = q) (hl : ∀ t y, t < i → xs[t]? = some y → y.pg.se ≠ q) : fX q xs = some i := by
  unfold fX
  obtain ⟨hi, rfl⟩ := List.getElem?_eq_some_iff.1 hx
  rw [List.findIdx?_eq_some_iff_getElem]
  exact ⟨hi, by simp [h], fun j hj => by simpa using hl j _ hj (List.getElem?_eq_getElem (by omega))⟩

theorem fX_miss {q : Int} {xs : List Pl} (hl : ∀ t y, t < xs.length → xs[t]? = some y → y.pg.se ≠ q) : fX q xs = none := by
  unfold fX
  rw [List.findIdx?_eq_none_iff]
  intro x hx
  obtain ⟨i, hi, rfl⟩ := List.getElem_of_mem hx
  simpa using hl i _ hi (List.getElem?_eq_getElem hi)

theorem fX_some {q : Int} {xs : List Pl} {i : Nat} (h : fX q xs = some i) : ∃ x, xs[i]? = some x := by
  unfold fX at h
  rw [List.findIdx?_eq_some_iff_getElem] at h
  exact ⟨_, List.getElem?_eq_getElem h.1⟩

theorem find1_C (w : World) (b : Nat) (x : Pl) (q : Int) (h : w.heap[b]? = some (denO (.c [.v (.int .u32 q)] 23))) :
    Calls Try.prog 20 #[den (.g x.f), .pointer (some ⟨b, 0, none⟩)] w fun e w' => e = .returned (.bool (decide (x.pg.se = q))) ∧ Bel w.heap.size w w' := by
  have hm : Mem w [] [⟨102, b, false, .c [.v (.int .u32 q)] 23⟩] w := Mem.reads (by simpa using h) (by simp)
  refine calls_of_ex [.g x.f, .p 102 b 0] _ [] 3 300 Try.func20 rfl hm (by simp [Try.ntmps20]) fun E hE => ?_
  simp (maxSteps := 2000000) only [go_sem, ↓dxc_true, ↓dxc_false, ↓bxc_true, ↓bxc_false, Nat.zero_add, Nat.add_zero, Nat.zero_mul, Nat.reduceBEq, Nat.reduceAdd, Nat.reduceMul, Nat.reduceSub, Nat.reduceLT, Nat.reduceLeDiff, Nat.reduceEqDiff, Nat.reduceDiv, Nat.reduceMod, Int.reduceAdd, Int.reduceSub, Int.reduceMul, Int.reduceDiv, Int.reduceMod, Int.reduceLT, Int.reduceLE, Int.reduceEq, Int.reduceToNat, Int.reducePow, Int.reduceNeg, ne_eq, not_false_eq_true, not_true_eq_false, decide_true, decide_false, Bool.not_true, Bool.not_false, forall_const, reduceCtorEq, implies_true, beq_self_eq_true, Int.cast_ofNat_Int, reduceIte, if_true, if_false, Bool.false_eq_true, Try.ntmps20, fin_ret hE, Try.results20, Pl.f, List.length_cons, List.length_nil]
  exact fun b1 w' hm' => ⟨rfl, hm'.below⟩

theorem index_N (w : World) (b : Nat) : Calls Try.prog 19 #[den (.v (.slice none 0 0)), den (.f 20 [.p 102 b 0])] w fun e w' => e = .returned (.int .i64 (-1)) ∧ Bel w.heap.size w w' := by
  have hm : Mem w [] [] w := Mem.reads (by simp) (by simp)
  refine calls_of_ex [.v (.slice none 0 0), .f 20 [.p 102 b 0]] _ [] 3 300 Try.func19 rfl hm (by simp [Try.ntmps19]) fun E hE => ?_
  simp (maxSteps := 2000000) only [go_sem, ↓dxc_true, ↓dxc_false, ↓bxc_true, ↓bxc_false, Nat.zero_add, Nat.add_zero, Nat.zero_mul, Nat.reduceBEq, Nat.reduceAdd, Nat.reduceMul, Nat.reduceSub, Nat.reduceLT, Nat.reduceLeDiff, Nat.reduceEqDiff, Nat.reduceDiv, Nat.reduceMod, Int.reduceAdd, Int.reduceSub, Int.reduceMul, Int.reduceDiv, Int.reduceMod, Int.reduceLT, Int.reduceLE, Int.reduceEq, Int.reduceToNat, Int.reducePow, Int.reduceNeg, ne_eq, not_false_eq_true, not_true_eq_false, decide_true, decide_false, Bool.not_true, Bool.not_false, forall_const, reduceCtorEq, implies_true, beq_self_eq_true, Int.cast_ofNat_Int, reduceIte, if_true, if_false, Bool.false_eq_true, Try.ntmps19, fin_ret hE, Try.results19]
  refine CodeC.unroll 1 300 ?_
  simp (maxSteps := 2000000) only [go_sem, ↓dxc_true, ↓dxc_false, ↓bxc_true, ↓bxc_false, Nat.zero_add, Nat.add_zero, Nat.zero_mul, Nat.reduceBEq, Nat.reduceAdd, Nat.reduceMul, Nat.reduceSub, Nat.reduceLT, Nat.reduceLeDiff, Nat.reduceEqDiff, Nat.reduceDiv, Nat.reduceMod, Int.reduceAdd, Int.reduceSub, Int.reduceMul, Int.reduceDiv, Int.reduceMod, Int.reduceLT, Int.reduceLE, Int.reduceEq, Int.reduceToNat, Int.reducePow, Int.reduceNeg, ne_eq, not_false_eq_true, not_true_eq_false, decide_true, decide_false, Bool.not_true, Bool.not_false, forall_const, reduceCtorEq, implies_true, beq_self_eq_true, Int.cast_ofNat_Int, reduceIte, if_true, if_false, Bool.false_eq_true, Try.ntmps19, fin_ret hE, Try.results19]
  exact fun w' hm' => ⟨rfl, hm'.below⟩

theorem index_C (w : World) (ba oa ca b : Nat) (q : Int) (xs : List Pl) (la : List SV) (Ta : Nat) (za : Nat × Nat) (hn : xs.length ≤ 1000000)
    (h : w.heap[ba]? = some (denO (.z la Ta za))) (hs : SegR la oa Pl.f 9 xs) (hb : w.heap[b]? = some (denO (.c [.v (.int .u32 q)] 23))) :
    Calls Try.prog 19 #[den (.s 101 ba oa xs.length ca), den (.f 20 [.p 102 b 0])] w fun e w' => e = .returned (.int .i64 (fI q xs)) ∧ Bel w.heap.size w w' := by
  have hm : Mem w [] [⟨101, ba, false, .z la Ta za⟩, ⟨102, b, false, .c [.v (.int .u32 q)] 23⟩] w := Mem.reads (by simpa using ⟨h, hb⟩) (by simp)
  refine calls_of_ex [.s 101 ba oa xs.length ca, .f 20 [.p 102 b 0]] _ [] 3 300 Try.func19 rfl hm (by simp [Try.ntmps19]) fun E hE => ?_
  simp (maxSteps := 2000000) only [go_sem, ↓dxc_true, ↓dxc_false, ↓bxc_true, ↓bxc_false, Nat.zero_add, Nat.add_zero, Nat.zero_mul, Nat.reduceBEq, Nat.reduceAdd, Nat.reduceMul, Nat.reduceSub, Nat.reduceLT, Nat.reduceLeDiff, Nat.reduceEqDiff, Nat.reduceDiv, Nat.reduceMod, Int.reduceAdd, Int.reduceSub, Int.reduceMul, Int.reduceDiv, Int.reduceMod, Int.reduceLT, Int.reduceLE, Int.reduceEq, Int.reduceToNat, Int.reducePow, Int.reduceNeg, ne_eq, not_false_eq_true, not_true_eq_false, decide_true, decide_false, Bool.not_true, Bool.not_false, forall_const, reduceCtorEq, implies_true, beq_self_eq_true, Int.cast_ofNat_Int, reduceIte, if_true, if_false, Bool.false_eq_true, Try.ntmps19, fin_ret hE, Try.results19]
  refine CodeC.loop (γ := { i : Nat // i ≤ xs.length ∧ ∀ t y, t < i → xs[t]? = some y → y.pg.se ≠ q }) (fun g => ⟨19, 3, [(8, .v (.int .i64 (g.1 : Int))), (7, .v (.int .i64 (xs.length : Int))), (0, .s 101 ba oa xs.length ca), (1, .f 20 [.p 102 b 0])],
      [⟨101, ba, false, .z la Ta za⟩, ⟨102, b, false, .c [.v (.int .u32 q)] 23⟩], []⟩) (fun g => xs.length - g.1) ⟨0, by omega, by intro t y ht; omega⟩ 300 ⟨rfl, rfl, ⟨rfl, rfl, rfl, rfl, trivial⟩, SubH.refl _⟩ ?_
  rintro ⟨i, h1, h2⟩
  simp only
  simp (maxSteps := 2000000) only [go_sem, ↓dxc_true, ↓dxc_false, ↓bxc_true, ↓bxc_false, Nat.zero_add, Nat.add_zero, Nat.zero_mul, Nat.reduceBEq, Nat.reduceAdd, Nat.reduceMul, Nat.reduceSub, Nat.reduceLT, Nat.reduceLeDiff, Nat.reduceEqDiff, Nat.reduceDiv, Nat.reduceMod, Int.reduceAdd, Int.reduceSub, Int.reduceMul, Int.reduceDiv, Int.reduceMod, Int.reduceLT, Int.reduceLE, Int.reduceEq, Int.reduceToNat, Int.reducePow, Int.reduceNeg, ne_eq, not_false_eq_true, not_true_eq_false, decide_true, decide_false, Bool.not_true, Bool.not_false, forall_const, reduceCtorEq, implies_true, beq_self_eq_true, Int.cast_ofNat_Int, reduceIte, if_true, if_false, Bool.false_eq_true, Try.ntmps19, fin_ret hE, Try.results19]
  refine ⟨fun k1 => ?_, fun k1 w' hm' => ⟨?_, hm'.below⟩⟩
  · obtain ⟨x, hx⟩ := ex_at (xs := xs) (i := i) (by omega)
    have e1 := hs.ldN hx
    have q1 := hs.le hx
    simp (maxSteps := 2000000) only [go_sem, ↓dxc_true, ↓dxc_false, ↓bxc_true, ↓bxc_false, Nat.zero_add, Nat.add_zero, Nat.zero_mul, Nat.reduceBEq, Nat.reduceAdd, Nat.reduceMul, Nat.reduceSub, Nat.reduceLT, Nat.reduceLeDiff, Nat.reduceEqDiff, Nat.reduceDiv, Nat.reduceMod, Int.reduceAdd, Int.reduceSub, Int.reduceMul, Int.reduceDiv, Int.reduceMod, Int.reduceLT, Int.reduceLE, Int.reduceEq, Int.reduceToNat, Int.reducePow, Int.reduceNeg, ne_eq, not_false_eq_true, not_true_eq_false, decide_true, decide_false, Bool.not_true, Bool.not_false, forall_const, reduceCtorEq, implies_true, beq_self_eq_true, Int.cast_ofNat_Int, reduceIte, if_true, if_false, Bool.false_eq_true, Try.ntmps19, fin_ret hE, Try.results19, Int.toNat_natCast, e1]
    refine ⟨⟨by omega, by omega⟩, by omega, ?_⟩
    refine CallC.pur (.v (.bool (decide (x.pg.se = q)))) 300 (fun w1 hm1 => find1_C w1 b x q (hm1.at (t := 102) rfl)) ?_
    simp (maxSteps := 2000000) only [go_sem, ↓dxc_true, ↓dxc_false, ↓bxc_true, ↓bxc_false, Nat.zero_add, Nat.add_zero, Nat.zero_mul, Nat.reduceBEq, Nat.reduceAdd, Nat.reduceMul, Nat.reduceSub, Nat.reduceLT, Nat.reduceLeDiff, Nat.reduceEqDiff, Nat.reduceDiv, Nat.reduceMod, Int.reduceAdd, Int.reduceSub, Int.reduceMul, Int.reduceDiv, Int.reduceMod, Int.reduceLT, Int.reduceLE, Int.reduceEq, Int.reduceToNat, Int.reducePow, Int.reduceNeg, ne_eq, not_false_eq_true, not_true_eq_false, decide_true, decide_false, Bool.not_true, Bool.not_false, forall_const, reduceCtorEq, implies_true, beq_self_eq_true, Int.cast_ofNat_Int, reduceIte, if_true, if_false, Bool.false_eq_true, Try.ntmps19, fin_ret hE, Try.results19]
    refine ⟨fun k2 w' hm' => ⟨?_, hm'.below⟩, fun k2 => ⟨⟨by omega, by omega⟩, ?_⟩⟩
    · rw [fI, fX_hit hx k2 h2]; rfl
    · refine ⟨⟨i + 1, by omega, fun t y ht hy => ?_⟩, ⟨rfl, rfl, ⟨by simp [lk], rfl, rfl, rfl, trivial⟩, SubH.refl _⟩, by simp only; omega⟩
      by_cases hti : t = i
      · subst hti
        rw [hx] at hy
        cases hy
        exact k2
      · exact h2 t y (by omega) hy
  · rw [fI, fX_miss (fun t y ht hy => h2 t y (by omega) hy)]; rfl

theorem find_N (w : World) (q : Int) : Calls Try.prog 9 #[den (.v (.slice none 0 0)), .int .u32 q] w fun e w' => e = .returned (den (.u [.g Pl.zero.f, .v (.bool false)])) ∧ Bel w.heap.size w w' := by
  have hm : Mem w [] [] w := Mem.reads (by simp) (by simp)
  refine calls_of_ex [.v (.slice none 0 0), .v (.int .u32 q)] _ [] 3 300 Try.func9 rfl hm (by simp [Try.ntmps9]) fun E hE => ?_
  simp (maxSteps := 2000000) only [go_sem, ↓dxc_true, ↓dxc_false, ↓bxc_true, ↓bxc_false, Nat.zero_add, Nat.add_zero, Nat.zero_mul, Nat.reduceBEq, Nat.reduceAdd, Nat.reduceMul, Nat.reduceSub, Nat.reduceLT, Nat.reduceLeDiff, Nat.reduceEqDiff, Nat.reduceDiv, Nat.reduceMod, Int.reduceAdd, Int.reduceSub, Int.reduceMul, Int.reduceDiv, Int.reduceMod, Int.reduceLT, Int.reduceLE, Int.reduceEq, Int.reduceToNat, Int.reducePow, Int.reduceNeg, ne_eq, not_false_eq_true, not_true_eq_false, decide_true, decide_false, Bool.not_true, Bool.not_false, forall_const, reduceCtorEq, implies_true, beq_self_eq_true, Int.cast_ofNat_Int, reduceIte, if_true, if_false, Bool.false_eq_true, Try.ntmps9, fin_ret hE, Try.results9]
  intro b1 b2
  refine CallC.pur (.v (.int .i64 (-1))) 300 (fun w1 hm1 => index_N w1 b1) ?_
  simp (maxSteps := 2000000) only [go_sem, ↓dxc_true, ↓dxc_false, ↓bxc_true, ↓bxc_false, Nat.zero_add, Nat.add_zero, Nat.zero_mul, Nat.reduceBEq, Nat.reduceAdd, Nat.reduceMul, Nat.reduceSub, Nat.reduceLT, Nat.reduceLeDiff, Nat.reduceEqDiff, Nat.reduceDiv, Nat.reduceMod, Int.reduceAdd, Int.reduceSub, Int.reduceMul, Int.reduceDiv, Int.reduceMod, Int.reduceLT, Int.reduceLE, Int.reduceEq, Int.reduceToNat, Int.reducePow, Int.reduceNeg, ne_eq, not_false_eq_true, not_true_eq_false, decide_true, decide_false, Bool.not_true, Bool.not_false, forall_const, reduceCtorEq, implies_true, beq_self_eq_true, Int.cast_ofNat_Int, reduceIte, if_true, if_false, Bool.false_eq_true, Try.ntmps9, fin_ret hE, Try.results9]
  exact fun w' hm' => ⟨rfl, hm'.below⟩

theorem find_C (w : World) (ba oa ca : Nat) (q : Int) (xs : List Pl) (la : List SV) (Ta : Nat) (za : Nat × Nat) (hn : xs.length ≤ 1000000)
    (h : w.heap[ba]? = some (denO (.z la Ta za))) (hs : SegR la oa Pl.f 9 xs) :
    Calls Try.prog 9 #[den (.s 101 ba oa xs.length ca), .int .u32 q] w fun e w' => e = .returned (den (.u [.g (fF q xs).1.f, .v (.bool (fF q xs).2)])) ∧ Bel w.heap.size w w' := by
  have hm : Mem w [] [⟨101, ba, false, .z la Ta za⟩] w := Mem.reads (by simpa using h) (by simp)
  refine calls_of_ex [.s 101 ba oa xs.length ca, .v (.int .u32 q)] _ [] 3 300 Try.func9 rfl hm (by simp [Try.ntmps9]) fun E hE => ?_
  simp (maxSteps := 2000000) only [go_sem, ↓dxc_true, ↓dxc_false, ↓bxc_true, ↓bxc_false, Nat.zero_add, Nat.add_zero, Nat.zero_mul, Nat.reduceBEq, Nat.reduceAdd, Nat.reduceMul, Nat.reduceSub, Nat.reduceLT, Nat.reduceLeDiff, Nat.reduceEqDiff, Nat.reduceDiv, Nat.reduceMod, Int.reduceAdd, Int.reduceSub, Int.reduceMul, Int.reduceDiv, Int.reduceMod, Int.reduceLT, Int.reduceLE, Int.reduceEq, Int.reduceToNat, Int.reducePow, Int.reduceNeg, ne_eq, not_false_eq_true, not_true_eq_false, decide_true, decide_false, Bool.not_true, Bool.not_false, forall_const, reduceCtorEq, implies_true, beq_self_eq_true, Int.cast_ofNat_Int, reduceIte, if_true, if_false, Bool.false_eq_true, Try.ntmps9, fin_ret hE, Try.results9]
  intro b1 b2
  refine CallC.pur (.v (.int .i64 (fI q xs))) 300 (fun w1 hm1 => index_C w1 ba oa ca b1 q xs la Ta za hn (hm1.at (t := 101) rfl) hs (hm1.at (t := 3) rfl)) ?_
  cases hX : fX q xs with
  | none =>
    have e1 : fI q xs = -1 := by rw [fI, hX]
    have e2 : fF q xs = (Pl.zero, false) := by rw [fF, hX]
    simp (maxSteps := 2000000) only [go_sem, ↓dxc_true, ↓dxc_false, ↓bxc_true, ↓bxc_false, Nat.zero_add, Nat.add_zero, Nat.zero_mul, Nat.reduceBEq, Nat.reduceAdd, Nat.reduceMul, Nat.reduceSub, Nat.reduceLT, Nat.reduceLeDiff, Nat.reduceEqDiff, Nat.reduceDiv, Nat.reduceMod, Int.reduceAdd, Int.reduceSub, Int.reduceMul, Int.reduceDiv, Int.reduceMod, Int.reduceLT, Int.reduceLE, Int.reduceEq, Int.reduceToNat, Int.reducePow, Int.reduceNeg, ne_eq, not_false_eq_true, not_true_eq_false, decide_true, decide_false, Bool.not_true, Bool.not_false, forall_const, reduceCtorEq, implies_true, beq_self_eq_true, Int.cast_ofNat_Int, reduceIte, if_true, if_false, Bool.false_eq_true, Try.ntmps9, fin_ret hE, Try.results9, e1, e2]
    exact fun w' hm' => ⟨rfl, hm'.below⟩
  | some i =>
    obtain ⟨x, hx⟩ := fX_some hX
    have e1 : fI q xs = (i : Int) := by rw [fI, hX]
    have e2 : fF q xs = (x, true) := by rw [fF, hX]; simp [hx]
    have e3 := hs.ldN hx
    have q1 := hs.le hx
    have q2 := rows_lt hx
    simp (maxSteps := 2000000) only [go_sem, ↓dxc_true, ↓dxc_false, ↓bxc_true, ↓bxc_false, Nat.zero_add, Nat.add_zero, Nat.zero_mul, Nat.reduceBEq, Nat.reduceAdd, Nat.reduceMul, Nat.reduceSub, Nat.reduceLT, Nat.reduceLeDiff, Nat.reduceEqDiff, Nat.reduceDiv, Nat.reduceMod, Int.reduceAdd, Int.reduceSub, Int.reduceMul, Int.reduceDiv, Int.reduceMod, Int.reduceLT, Int.reduceLE, Int.reduceEq, Int.reduceToNat, Int.reducePow, Int.reduceNeg, ne_eq, not_false_eq_true, not_true_eq_false, decide_true, decide_false, Bool.not_true, Bool.not_false, forall_const, reduceCtorEq, implies_true, beq_self_eq_true, Int.cast_ofNat_Int, reduceIte, if_true, if_false, Bool.false_eq_true, Try.ntmps9, fin_ret hE, Try.results9, e1, e2, Int.toNat_natCast, e3, Pl.f, List.length_cons, List.length_nil]
    refine ⟨fun k1 => by omega, fun k1 => ⟨⟨by omega, by omega⟩, by omega, fun w' hm' => hm'.below⟩⟩

theorem refFind_N (w : World) (q : Int) : Calls Try.prog 11 #[den (.v (.slice none 0 0)), .int .u32 q] w fun e w' => e = .returned (den (.u [.g Pl.zero.f, .v (.bool false)])) ∧ Bel w.heap.size w w' := by
  have hm : Mem w [] [] w := Mem.reads (by simp) (by simp)
  refine calls_of_ex [.v (.slice none 0 0), .v (.int .u32 q)] _ [] 3 300 Try.func11 rfl hm (by simp [Try.ntmps11]) fun E hE => ?_
  simp (maxSteps := 2000000) only [go_sem, ↓dxc_true, ↓dxc_false, ↓bxc_true, ↓bxc_false, Nat.zero_add, Nat.add_zero, Nat.zero_mul, Nat.reduceBEq, Nat.reduceAdd, Nat.reduceMul, Nat.reduceSub, Nat.reduceLT, Nat.reduceLeDiff, Nat.reduceEqDiff, Nat.reduceDiv, Nat.reduceMod, Int.reduceAdd, Int.reduceSub, Int.reduceMul, Int.reduceDiv, Int.reduceMod, Int.reduceLT, Int.reduceLE, Int.reduceEq, Int.reduceToNat, Int.reducePow, Int.reduceNeg, ne_eq, not_false_eq_true, not_true_eq_false, decide_true, decide_false, Bool.not_true, Bool.not_false, forall_const, reduceCtorEq, implies_true, beq_self_eq_true, Int.cast_ofNat_Int, reduceIte, if_true, if_false, Bool.false_eq_true, Try.ntmps11, fin_ret hE, Try.results11]
  intro b1
  refine CodeC.unroll 1 300 ?_
  simp (maxSteps := 2000000) only [go_sem, ↓dxc_true, ↓dxc_false, ↓bxc_true, ↓bxc_false, Nat.zero_add, Nat.add_zero, Nat.zero_mul, Nat.reduceBEq, Nat.reduceAdd, Nat.reduceMul, Nat.reduceSub, Nat.reduceLT, Nat.reduceLeDiff, Nat.reduceEqDiff, Nat.reduceDiv, Nat.reduceMod, Int.reduceAdd, Int.reduceSub, Int.reduceMul, Int.reduceDiv, Int.reduceMod, Int.reduceLT, Int.reduceLE, Int.reduceEq, Int.reduceToNat, Int.reducePow, Int.reduceNeg, ne_eq, not_false_eq_true, not_true_eq_false, decide_true, decide_false, Bool.not_true, Bool.not_false, forall_const, reduceCtorEq, implies_true, beq_self_eq_true, Int.cast_ofNat_Int, reduceIte, if_true, if_false, Bool.false_eq_true, Try.ntmps11, fin_ret hE, Try.results11]
  exact fun w' hm' => ⟨rfl, hm'.below⟩

theorem refFind_C (w : World) (ba oa ca : Nat) (q : Int) (xs : List Pl) (la : List SV) (Ta : Nat) (za : Nat × Nat) (hn : xs.length ≤ 1000000)
    (h : w.heap[ba]? = some (denO (.z la Ta za))) (hs : SegR la oa Pl.f 9 xs) :
    Calls Try.prog 11 #[den (.s 101 ba oa xs.length ca), .int .u32 q] w fun e w' => e = .returned (den (.u [.g (fF q xs).1.f, .v (.bool (fF q xs).2)])) ∧ Bel w.heap.size w w' := by
  have hm : Mem w [] [⟨101, ba, false, .z la Ta za⟩] w := Mem.reads (by simpa using h) (by simp)
  refine calls_of_ex [.s 101 ba oa xs.length ca, .v (.int .u32 q)] _ [] 3 300 Try.func11 rfl hm (by simp [Try.ntmps11]) fun E hE => ?_
  simp (maxSteps := 2000000) only [go_sem, ↓dxc_true, ↓dxc_false, ↓bxc_true, ↓bxc_false, Nat.zero_add, Nat.add_zero, Nat.zero_mul, Nat.reduceBEq, Nat.reduceAdd, Nat.reduceMul, Nat.reduceSub, Nat.reduceLT, Nat.reduceLeDiff, Nat.reduceEqDiff, Nat.reduceDiv, Nat.reduceMod, Int.reduceAdd, Int.reduceSub, Int.reduceMul, Int.reduceDiv, Int.reduceMod, Int.reduceLT, Int.reduceLE, Int.reduceEq, Int.reduceToNat, Int.reducePow, Int.reduceNeg, ne_eq, not_false_eq_true, not_true_eq_false, decide_true, decide_false, Bool.not_true, Bool.not_false, forall_const, reduceCtorEq, implies_true, beq_self_eq_true, Int.cast_ofNat_Int, reduceIte, if_true, if_false, Bool.false_eq_true, Try.ntmps11, fin_ret hE, Try.results11]
  intro b1
  refine CodeC.loop (γ := { i : Nat // i ≤ xs.length ∧ ∀ t y, t < i → xs[t]? = some y → y.pg.se ≠ q }) (fun g => ⟨26, 4, [(6, .v (.int .i64 (g.1 : Int))), (0, .s 101 ba oa xs.length ca), (1, .v (.int .u32 q)), (4, .p 3 b1 0)],
      [⟨3, b1, true, .c Pl.zero.f 36⟩, ⟨101, ba, false, .z la Ta za⟩], []⟩) (fun g => xs.length - g.1) ⟨0, by omega, by intro t y ht; omega⟩ 300 ⟨rfl, rfl, ⟨rfl, rfl, rfl, rfl, trivial⟩, SubH.refl _⟩ ?_
  rintro ⟨i, h1, h2⟩
  simp only
  simp (maxSteps := 2000000) only [go_sem, ↓dxc_true, ↓dxc_false, ↓bxc_true, ↓bxc_false, Nat.zero_add, Nat.add_zero, Nat.zero_mul, Nat.reduceBEq, Nat.reduceAdd, Nat.reduceMul, Nat.reduceSub, Nat.reduceLT, Nat.reduceLeDiff, Nat.reduceEqDiff, Nat.reduceDiv, Nat.reduceMod, Int.reduceAdd, Int.reduceSub, Int.reduceMul, Int.reduceDiv, Int.reduceMod, Int.reduceLT, Int.reduceLE, Int.reduceEq, Int.reduceToNat, Int.reducePow, Int.reduceNeg, ne_eq, not_false_eq_true, not_true_eq_false, decide_true, decide_false, Bool.not_true, Bool.not_false, forall_const, reduceCtorEq, implies_true, beq_self_eq_true, Int.cast_ofNat_Int, reduceIte, if_true, if_false, Bool.false_eq_true, Try.ntmps11, fin_ret hE, Try.results11]
  refine ⟨fun k1 => ?_, fun k1 => ?_⟩
  · obtain ⟨x, hx⟩ := ex_at (xs := xs) (i := i) (by omega)
    have e1 := hs.ldN hx
    have q1 := hs.le hx
    have e2 : ld1 la (oa + i * 9 + 2) = .v (.int .u32 x.pg.se) := hs.ld1 hx (by omega)
    simp (maxSteps := 2000000) only [go_sem, ↓dxc_true, ↓dxc_false, ↓bxc_true, ↓bxc_false, Nat.zero_add, Nat.add_zero, Nat.zero_mul, Nat.reduceBEq, Nat.reduceAdd, Nat.reduceMul, Nat.reduceSub, Nat.reduceLT, Nat.reduceLeDiff, Nat.reduceEqDiff, Nat.reduceDiv, Nat.reduceMod, Int.reduceAdd, Int.reduceSub, Int.reduceMul, Int.reduceDiv, Int.reduceMod, Int.reduceLT, Int.reduceLE, Int.reduceEq, Int.reduceToNat, Int.reducePow, Int.reduceNeg, ne_eq, not_false_eq_true, not_true_eq_false, decide_true, decide_false, Bool.not_true, Bool.not_false, forall_const, reduceCtorEq, implies_true, beq_self_eq_true, Int.cast_ofNat_Int, reduceIte, if_true, if_false, Bool.false_eq_true, Try.ntmps11, fin_ret hE, Try.results11, Int.toNat_natCast, e1, e2, Pl.len, Pl.one]
    refine ⟨⟨by omega, by omega⟩, by omega, fun k2 => ⟨⟨by omega, by omega⟩, by omega, fun w' hm' => ⟨?_, hm'.below⟩⟩, fun k2 => ⟨⟨by omega, by omega⟩, ?_⟩⟩
    · have e4 : fF q xs = (x, true) := by rw [fF, fX_hit hx k2 h2]; simp [hx]
      rw [e4]
    · refine ⟨⟨i + 1, by omega, fun t y ht hy => ?_⟩, ⟨rfl, rfl, ⟨by simp [lk], rfl, rfl, rfl, trivial⟩, SubH.refl _⟩, by simp only; omega⟩
      by_cases hti : t = i
      · subst hti
        rw [hx] at hy
        cases hy
        exact k2
      · exact h2 t y (by omega) hy
  · have e3 : fF q xs = (Pl.zero, false) := by rw [fF, fX_miss (fun t y ht hy => h2 t y (by omega) hy)]
    simp (maxSteps := 2000000) only [go_sem, ↓dxc_true, ↓dxc_false, ↓bxc_true, ↓bxc_false, Nat.zero_add, Nat.add_zero, Nat.zero_mul, Nat.reduceBEq, Nat.reduceAdd, Nat.reduceMul, Nat.reduceSub, Nat.reduceLT, Nat.reduceLeDiff, Nat.reduceEqDiff, Nat.reduceDiv, Nat.reduceMod, Int.reduceAdd, Int.reduceSub, Int.reduceMul, Int.reduceDiv, Int.reduceMod, Int.reduceLT, Int.reduceLE, Int.reduceEq, Int.reduceToNat, Int.reducePow, Int.reduceNeg, ne_eq, not_false_eq_true, not_true_eq_false, decide_true, decide_false, Bool.not_true, Bool.not_false, forall_const, reduceCtorEq, implies_true, beq_self_eq_true, Int.cast_ofNat_Int, reduceIte, if_true, if_false, Bool.false_eq_true, Try.ntmps11, fin_ret hE, Try.results11, e3, Pl.zero, Pg.zero, Pl.f]
    exact fun w' hm' => hm'.below

end Go.Proofs
