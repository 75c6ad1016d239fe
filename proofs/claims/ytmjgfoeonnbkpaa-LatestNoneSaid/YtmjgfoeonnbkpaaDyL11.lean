/- Collect, Top. -/
import Derived.Test.YtmjgfoeonnbkpaaDyL10
set_option linter.unusedSimpArgs false
set_option linter.unusedVariables false
set_option linter.unusedSectionVars false
set_option maxRecDepth 100000
set_option maxHeartbeats 1000000
namespace Go.Proofs
open Go.Dx Go.RowKit

/-- Items of an iterator. -/
def itm (xs : List Pl) (i : Nat) : List SV := [.g (xs.getD i Pl.zero).f]

/-- A row of places, laid anew. -/
def OutP (xs : List Pl) (w w' : World) (v : Value) : Prop :=
  (xs = [] ∧ v = .slice none 0 0 ∧ Bel w.heap.size w w') ∨
  (xs ≠ [] ∧ ∃ b c j, v = den (.s 100 b 0 xs.length c) ∧ (xs.length ≤ c ∧ c ≤ 9223372036854775807 ∧ xs.length * 9 + j.length = c * 9) ∧ w.heap.size ≤ b ∧ w'.heap[b]? = some (denO (.a (rows Pl.f xs ++ j) 29)) ∧ Bel w.heap.size w w')

structure PG (i : Nat) where
  b : Nat
  c : Nat
  j : List SV
  h1 : i ≤ c
  h2 : c ≤ 9223372036854775807
  h3 : i * 9 + j.length = c * 9

def pgH (t u bc : Nat) (xs : List Pl) (rest : List Ent) : (i : Nat) → PG i → List Ent
  | 0, _ => ⟨t, bc, true, .c [.v (.slice none 0 0)] 32⟩ :: rest
  | i + 1, g => ⟨u, g.b, true, .a (rows Pl.f (xs.take (i + 1)) ++ g.j) 29⟩ :: ⟨t, bc, true, .c [.s u g.b 0 (i + 1) g.c] 32⟩ :: rest

theorem getD_some {xs : List Pl} {i : Nat} (h : i < xs.length) : xs[i]? = some (xs.getD i Pl.zero) := by simp [h]

theorem plO (z : List SV) (x : Pl) (h : z.length = 9) : ovN z x.f = x.f := by
  rw [ovN_eq _ _ (by rw [h, x.len]; omega), List.drop_of_length_le (by rw [h, x.len]; omega), List.append_nil]
theorem plD (x : Pl) : hdN x.f 9 = x.f := by rw [hdN_eq, List.take_of_length_le (by rw [x.len]; omega)]
theorem subH_refl' (l : List Ent) : SubH l l = True := eq_true (SubH.refl l)

theorem appSeq_C (w : World) (h : Nat) (caps : List SV) (ro : List Ent) (xs : List Pl) (hn : xs.length ≤ 100000) (hit : Iter Try.prog h caps ro xs.length (itm xs)) (he : ent Try.prog h = true) (hm : Mem w [] ro w) :
    Calls Try.prog 42 #[.slice none 0 0, den (.f h caps)] w fun e w' => ∃ v, e = .returned v ∧ OutP xs w w' v := by
  refine calls_of_ex_m [.v (.slice none 0 0), .f h caps] _ [] 3 300 Try.func42 rfl hm (by simp [Try.ntmps42]) fun E hE => ?_
  have hr : E.r = none := by subst hE; rfl
  simp (maxSteps := 2000000) only [go_sem, ↓dxc_true, ↓dxc_false, ↓bxc_true, ↓bxc_false, Nat.zero_add, Nat.add_zero, Nat.zero_mul, Nat.reduceBEq, Nat.reduceAdd, Nat.reduceMul, Nat.reduceSub, Nat.reduceLT, Nat.reduceLeDiff, Nat.reduceEqDiff, Nat.reduceDiv, Nat.reduceMod, Int.reduceAdd, Int.reduceSub, Int.reduceMul, Int.reduceDiv, Int.reduceMod, Int.reduceLT, Int.reduceLE, Int.reduceEq, Int.reduceToNat, Int.reducePow, Int.reduceNeg, ne_eq, not_false_eq_true, not_true_eq_false, decide_true, decide_false, Bool.not_true, Bool.not_false, forall_const, reduceCtorEq, implies_true, beq_self_eq_true, Int.cast_ofNat_Int, reduceIte, if_true, if_false, Bool.false_eq_true, Try.ntmps42, Try.results42]
  intro b
  refine CodeC.rng hr 10 11 20 300 (h := h) (caps := caps) (n := xs.length) rfl hit he (fun i => rfl) (fun p hp => by rcases List.mem_cons.1 hp with rfl | hp; exact (by decide : 7 < 13); cases hp) (γ := PG) (δ := Empty)
    (pgH 3 22 b xs []) (fun c => nomatch c) (fun c => nomatch c) ⟨0, 0, [], by omega, by omega, rfl⟩ (fun w hm => hm.perm (List.perm_append_comm (l₁ := [_]) (l₂ := ro))) ?_ ?_ ?_
  · intro D l L own i hi g E1 hE1
    have hf1 := finR hE1
    have hx := getD_some hi
    cases i with
    | zero =>
      simp (maxSteps := 2000000) only [go_sem, ↓dxc_true, ↓dxc_false, ↓bxc_true, ↓bxc_false, Nat.zero_add, Nat.add_zero, Nat.zero_mul, Nat.reduceBEq, Nat.reduceAdd, Nat.reduceMul, Nat.reduceSub, Nat.reduceLT, Nat.reduceLeDiff, Nat.reduceEqDiff, Nat.reduceDiv, Nat.reduceMod, Int.reduceAdd, Int.reduceSub, Int.reduceMul, Int.reduceDiv, Int.reduceMod, Int.reduceLT, Int.reduceLE, Int.reduceEq, Int.reduceToNat, Int.reducePow, Int.reduceNeg, ne_eq, not_false_eq_true, not_true_eq_false, decide_true, decide_false, Bool.not_true, Bool.not_false, forall_const, reduceCtorEq, implies_true, beq_self_eq_true, Int.cast_ofNat_Int, reduceIte, if_true, if_false, Bool.false_eq_true, psl, hf1, pgH, itm, Pl.len, Pl.one]
      intro b1 E2 hE2
      have hf2 := finR hE2
      simp (maxSteps := 2000000) only [go_sem, ↓dxc_true, ↓dxc_false, ↓bxc_true, ↓bxc_false, Nat.zero_add, Nat.add_zero, Nat.zero_mul, Nat.reduceBEq, Nat.reduceAdd, Nat.reduceMul, Nat.reduceSub, Nat.reduceLT, Nat.reduceLeDiff, Nat.reduceEqDiff, Nat.reduceDiv, Nat.reduceMod, Int.reduceAdd, Int.reduceSub, Int.reduceMul, Int.reduceDiv, Int.reduceMod, Int.reduceLT, Int.reduceLE, Int.reduceEq, Int.reduceToNat, Int.reducePow, Int.reduceNeg, ne_eq, not_false_eq_true, not_true_eq_false, decide_true, decide_false, Bool.not_true, Bool.not_false, forall_const, reduceCtorEq, implies_true, beq_self_eq_true, Int.cast_ofNat_Int, reduceIte, if_true, if_false, Bool.false_eq_true, hf2, pgH, Pl.len, Pl.one, plO, plD, List.length_cons, List.length_nil, false_implies, true_and, and_true]
      refine fun b2 b3 c hc => ⟨PG.mk (i := 1) b3 c (rpt (c - 1) Pl.zero.f) hc.1 hc.2 (by rw [rpt_len _ _ 9 Pl.zero.len]; omega), ?_⟩
      simp (maxSteps := 2000000) only [go_sem, ↓dxc_true, ↓dxc_false, ↓bxc_true, ↓bxc_false, Nat.zero_add, Nat.add_zero, Nat.zero_mul, Nat.reduceBEq, Nat.reduceAdd, Nat.reduceMul, Nat.reduceSub, Nat.reduceLT, Nat.reduceLeDiff, Nat.reduceEqDiff, Nat.reduceDiv, Nat.reduceMod, Int.reduceAdd, Int.reduceSub, Int.reduceMul, Int.reduceDiv, Int.reduceMod, Int.reduceLT, Int.reduceLE, Int.reduceEq, Int.reduceToNat, Int.reducePow, Int.reduceNeg, ne_eq, not_false_eq_true, not_true_eq_false, decide_true, decide_false, Bool.not_true, Bool.not_false, forall_const, reduceCtorEq, implies_true, beq_self_eq_true, Int.cast_ofNat_Int, reduceIte, if_true, if_false, Bool.false_eq_true, SubH, subH_refl', take_one hx, rows_one]
      rfl
    | succ i =>
      obtain ⟨gb, gc, gj, g1, g2, g3⟩ := g
      have l1 : (rows Pl.f (xs.take (i + 1))).length = (i + 1) * 9 := by rw [rows_length Pl.len]; simp; omega
      have l2 := rows_hdN Pl.len (xs.take (i + 1)) gj ((i + 1) * 9) (by simp; omega)
      have o1 := allOne_rows Pl.one (xs.take (i + 1))
      simp (maxSteps := 2000000) only [go_sem, ↓dxc_true, ↓dxc_false, ↓bxc_true, ↓bxc_false, Nat.zero_add, Nat.add_zero, Nat.zero_mul, Nat.reduceBEq, Nat.reduceAdd, Nat.reduceMul, Nat.reduceSub, Nat.reduceLT, Nat.reduceLeDiff, Nat.reduceEqDiff, Nat.reduceDiv, Nat.reduceMod, Int.reduceAdd, Int.reduceSub, Int.reduceMul, Int.reduceDiv, Int.reduceMod, Int.reduceLT, Int.reduceLE, Int.reduceEq, Int.reduceToNat, Int.reducePow, Int.reduceNeg, ne_eq, not_false_eq_true, not_true_eq_false, decide_true, decide_false, Bool.not_true, Bool.not_false, forall_const, reduceCtorEq, implies_true, beq_self_eq_true, Int.cast_ofNat_Int, reduceIte, if_true, if_false, Bool.false_eq_true, psl, hf1, pgH, itm, Pl.len, Pl.one]
      intro b1 E2 hE2
      have hf2 := finR hE2
      simp (maxSteps := 2000000) only [go_sem, ↓dxc_true, ↓dxc_false, ↓bxc_true, ↓bxc_false, Nat.zero_add, Nat.add_zero, Nat.zero_mul, Nat.reduceBEq, Nat.reduceAdd, Nat.reduceMul, Nat.reduceSub, Nat.reduceLT, Nat.reduceLeDiff, Nat.reduceEqDiff, Nat.reduceDiv, Nat.reduceMod, Int.reduceAdd, Int.reduceSub, Int.reduceMul, Int.reduceDiv, Int.reduceMod, Int.reduceLT, Int.reduceLE, Int.reduceEq, Int.reduceToNat, Int.reducePow, Int.reduceNeg, ne_eq, not_false_eq_true, not_true_eq_false, decide_true, decide_false, Bool.not_true, Bool.not_false, forall_const, reduceCtorEq, implies_true, beq_self_eq_true, Int.cast_ofNat_Int, reduceIte, if_true, if_false, Bool.false_eq_true, hf2, pgH, Pl.len, Pl.one, List.length_append, l1, l2, o1, allOne_append, plO, plD, List.length_cons, List.length_nil, false_implies, true_and, and_true]
      clear l1 l2 o1
      refine fun b2 => ⟨⟨g3, g1, by omega, by omega, g2⟩, fun b3 c j hc => ⟨PG.mk (i := i + 1 + 1) b3 c j hc.1 hc.2.1 hc.2.2, ?_⟩⟩
      simp (maxSteps := 2000000) only [go_sem, ↓dxc_true, ↓dxc_false, ↓bxc_true, ↓bxc_false, Nat.zero_add, Nat.add_zero, Nat.zero_mul, Nat.reduceBEq, Nat.reduceAdd, Nat.reduceMul, Nat.reduceSub, Nat.reduceLT, Nat.reduceLeDiff, Nat.reduceEqDiff, Nat.reduceDiv, Nat.reduceMod, Int.reduceAdd, Int.reduceSub, Int.reduceMul, Int.reduceDiv, Int.reduceMod, Int.reduceLT, Int.reduceLE, Int.reduceEq, Int.reduceToNat, Int.reducePow, Int.reduceNeg, ne_eq, not_false_eq_true, not_true_eq_false, decide_true, decide_false, Bool.not_true, Bool.not_false, forall_const, reduceCtorEq, implies_true, beq_self_eq_true, Int.cast_ofNat_Int, reduceIte, if_true, if_false, Bool.false_eq_true, SubH, subH_refl', take_succ' hx, rows_append, rows_one]
  · intro D
    have hall : List.take xs.length xs = xs := List.take_length
    generalize hL : xs.length = m
    intro g
    cases m with
    | zero =>
      have hx : xs = [] := List.length_eq_zero_iff.1 hL
      simp (maxSteps := 2000000) only [go_sem, ↓dxc_true, ↓dxc_false, ↓bxc_true, ↓bxc_false, Nat.zero_add, Nat.add_zero, Nat.zero_mul, Nat.reduceBEq, Nat.reduceAdd, Nat.reduceMul, Nat.reduceSub, Nat.reduceLT, Nat.reduceLeDiff, Nat.reduceEqDiff, Nat.reduceDiv, Nat.reduceMod, Int.reduceAdd, Int.reduceSub, Int.reduceMul, Int.reduceDiv, Int.reduceMod, Int.reduceLT, Int.reduceLE, Int.reduceEq, Int.reduceToNat, Int.reducePow, Int.reduceNeg, ne_eq, not_false_eq_true, not_true_eq_false, decide_true, decide_false, Bool.not_true, Bool.not_false, forall_const, reduceCtorEq, implies_true, beq_self_eq_true, Int.cast_ofNat_Int, reduceIte, if_true, if_false, Bool.false_eq_true, finM_ret hE, Try.results42, pgH]
      refine ⟨11, D, rfl, rfl, ?_⟩
      simp (maxSteps := 2000000) only [go_sem, ↓dxc_true, ↓dxc_false, ↓bxc_true, ↓bxc_false, Nat.zero_add, Nat.add_zero, Nat.zero_mul, Nat.reduceBEq, Nat.reduceAdd, Nat.reduceMul, Nat.reduceSub, Nat.reduceLT, Nat.reduceLeDiff, Nat.reduceEqDiff, Nat.reduceDiv, Nat.reduceMod, Int.reduceAdd, Int.reduceSub, Int.reduceMul, Int.reduceDiv, Int.reduceMod, Int.reduceLT, Int.reduceLE, Int.reduceEq, Int.reduceToNat, Int.reducePow, Int.reduceNeg, ne_eq, not_false_eq_true, not_true_eq_false, decide_true, decide_false, Bool.not_true, Bool.not_false, forall_const, reduceCtorEq, implies_true, beq_self_eq_true, Int.cast_ofNat_Int, reduceIte, if_true, if_false, Bool.false_eq_true]
      exact fun w' hm' => ⟨_, rfl, Or.inl ⟨hx, rfl, hm'.below⟩⟩
    | succ m =>
      rw [hL] at hall
      simp (maxSteps := 2000000) only [go_sem, ↓dxc_true, ↓dxc_false, ↓bxc_true, ↓bxc_false, Nat.zero_add, Nat.add_zero, Nat.zero_mul, Nat.reduceBEq, Nat.reduceAdd, Nat.reduceMul, Nat.reduceSub, Nat.reduceLT, Nat.reduceLeDiff, Nat.reduceEqDiff, Nat.reduceDiv, Nat.reduceMod, Int.reduceAdd, Int.reduceSub, Int.reduceMul, Int.reduceDiv, Int.reduceMod, Int.reduceLT, Int.reduceLE, Int.reduceEq, Int.reduceToNat, Int.reducePow, Int.reduceNeg, ne_eq, not_false_eq_true, not_true_eq_false, decide_true, decide_false, Bool.not_true, Bool.not_false, forall_const, reduceCtorEq, implies_true, beq_self_eq_true, Int.cast_ofNat_Int, reduceIte, if_true, if_false, Bool.false_eq_true, finM_ret hE, Try.results42, pgH, hall]
      refine ⟨11, D, rfl, rfl, ?_⟩
      simp (maxSteps := 2000000) only [go_sem, ↓dxc_true, ↓dxc_false, ↓bxc_true, ↓bxc_false, Nat.zero_add, Nat.add_zero, Nat.zero_mul, Nat.reduceBEq, Nat.reduceAdd, Nat.reduceMul, Nat.reduceSub, Nat.reduceLT, Nat.reduceLeDiff, Nat.reduceEqDiff, Nat.reduceDiv, Nat.reduceMod, Int.reduceAdd, Int.reduceSub, Int.reduceMul, Int.reduceDiv, Int.reduceMod, Int.reduceLT, Int.reduceLE, Int.reduceEq, Int.reduceToNat, Int.reducePow, Int.reduceNeg, ne_eq, not_false_eq_true, not_true_eq_false, decide_true, decide_false, Bool.not_true, Bool.not_false, forall_const, reduceCtorEq, implies_true, beq_self_eq_true, Int.cast_ofNat_Int, reduceIte, if_true, if_false, Bool.false_eq_true]
      refine fun w' hm' => ⟨_, rfl, Or.inr ⟨(by rintro rfl; cases hL), g.b, g.c, g.j, by rw [hL]; rfl, by rw [hL]; exact ⟨g.h1, g.h2, g.h3⟩, by simpa using hm'.wr _ List.mem_cons_self rfl, hm'.at (t := 22) rfl, hm'.below⟩⟩
  · intro D c
    cases c

theorem OutP.nil {w w' : World} {v : Value} (h : OutP [] w w' v) : v = .slice none 0 0 ∧ Bel w.heap.size w w' := by
  rcases h with ⟨_, h1, h2⟩ | ⟨h, _⟩
  · exact ⟨h1, h2⟩
  · exact absurd rfl h

theorem OutP.cons {xs : List Pl} {w w' : World} {v : Value} (hx : xs ≠ []) (h : OutP xs w w' v) :
    ∃ b c j, v = den (.s 100 b 0 xs.length c) ∧ (xs.length ≤ c ∧ c ≤ 9223372036854775807 ∧ xs.length * 9 + j.length = c * 9) ∧ w.heap.size ≤ b ∧ w'.heap[b]? = some (denO (.a (rows Pl.f xs ++ j) 29)) ∧ Bel w.heap.size w w' := by
  rcases h with ⟨h, _⟩ | ⟨_, h⟩
  · exact absurd h hx
  · exact h

/-- What lies behind such a row. -/
def JP (n : Nat) : Type := { p : Nat × List SV // n ≤ p.1 ∧ p.1 ≤ 9223372036854775807 ∧ n * 9 + p.2.length = p.1 * 9 }

theorem collect_C (w : World) (h : Nat) (caps : List SV) (ro : List Ent) (xs : List Pl) (hn : xs.length ≤ 100000) (hit : Iter Try.prog h caps ro xs.length (itm xs)) (he : ent Try.prog h = true) (hm : Mem w [] ro w) (hro : ∀ e ∈ ro, e.w = false) :
    Calls Try.prog 32 #[den (.f h caps)] w fun e w' => ∃ v, e = .returned v ∧ OutP xs w w' v := by
  refine calls_of_ex [.f h caps] _ [] 3 300 Try.func32 rfl hm (by simp [Try.ntmps32]) fun E hE => ?_
  simp (maxSteps := 2000000) only [go_sem, ↓dxc_true, ↓dxc_false, ↓bxc_true, ↓bxc_false, Nat.zero_add, Nat.add_zero, Nat.zero_mul, Nat.reduceBEq, Nat.reduceAdd, Nat.reduceMul, Nat.reduceSub, Nat.reduceLT, Nat.reduceLeDiff, Nat.reduceEqDiff, Nat.reduceDiv, Nat.reduceMod, Int.reduceAdd, Int.reduceSub, Int.reduceMul, Int.reduceDiv, Int.reduceMod, Int.reduceLT, Int.reduceLE, Int.reduceEq, Int.reduceToNat, Int.reducePow, Int.reduceNeg, ne_eq, not_false_eq_true, not_true_eq_false, decide_true, decide_false, Bool.not_true, Bool.not_false, forall_const, reduceCtorEq, implies_true, beq_self_eq_true, Int.cast_ofNat_Int, reduceIte, if_true, if_false, Bool.false_eq_true, Try.ntmps32, fin_ret hE, Try.results32]
  have hreads : ∀ w1, Mem E.W0 E.mods ro w1 → Mem w1 [] ro w1 := fun w1 hm1 => Mem.reads hm1.get hro
  by_cases hx : xs = []
  · refine CallC.pur (.v (.slice none 0 0)) 300 (fun w1 hm1 => ?_) ?_
    · refine (appSeq_C w1 h caps ro xs hn hit he (hreads w1 hm1)).mono ?_
      rintro e w' ⟨v, rfl, ho⟩
      rw [hx] at ho
      obtain ⟨rfl, hb⟩ := ho.nil
      exact ⟨rfl, hb⟩
    simp (maxSteps := 2000000) only [go_sem, ↓dxc_true, ↓dxc_false, ↓bxc_true, ↓bxc_false, Nat.zero_add, Nat.add_zero, Nat.zero_mul, Nat.reduceBEq, Nat.reduceAdd, Nat.reduceMul, Nat.reduceSub, Nat.reduceLT, Nat.reduceLeDiff, Nat.reduceEqDiff, Nat.reduceDiv, Nat.reduceMod, Int.reduceAdd, Int.reduceSub, Int.reduceMul, Int.reduceDiv, Int.reduceMod, Int.reduceLT, Int.reduceLE, Int.reduceEq, Int.reduceToNat, Int.reducePow, Int.reduceNeg, ne_eq, not_false_eq_true, not_true_eq_false, decide_true, decide_false, Bool.not_true, Bool.not_false, forall_const, reduceCtorEq, implies_true, beq_self_eq_true, Int.cast_ofNat_Int, reduceIte, if_true, if_false, Bool.false_eq_true, Try.ntmps32, fin_ret hE, Try.results32]
    exact fun w' hm' => ⟨_, rfl, Or.inl ⟨hx, rfl, hm'.below⟩⟩
  · refine CallC.new (γ := JP xs.length) (fun c b => .s 3 b 0 xs.length c.1.1) (fun c => .a (rows Pl.f xs ++ c.1.2) 29) 300 (fun w1 hm1 => ?_) ?_
    · refine (appSeq_C w1 h caps ro xs hn hit he (hreads w1 hm1)).mono ?_
      rintro e w' ⟨v, rfl, ho⟩
      obtain ⟨b, c, j, rfl, h1, h2, h3, h4⟩ := ho.cons hx
      exact ⟨⟨(c, j), h1⟩, b, rfl, h2, h3, h4⟩
    refine ⟨by simp (maxSteps := 2000000) only [go_sem, ↓dxc_true, ↓dxc_false, ↓bxc_true, ↓bxc_false, Nat.zero_add, Nat.add_zero, Nat.zero_mul, Nat.reduceBEq, Nat.reduceAdd, Nat.reduceMul, Nat.reduceSub, Nat.reduceLT, Nat.reduceLeDiff, Nat.reduceEqDiff, Nat.reduceDiv, Nat.reduceMod, Int.reduceAdd, Int.reduceSub, Int.reduceMul, Int.reduceDiv, Int.reduceMod, Int.reduceLT, Int.reduceLE, Int.reduceEq, Int.reduceToNat, Int.reducePow, Int.reduceNeg, ne_eq, not_false_eq_true, not_true_eq_false, decide_true, decide_false, Bool.not_true, Bool.not_false, forall_const, reduceCtorEq, implies_true, beq_self_eq_true, Int.cast_ofNat_Int, reduceIte, if_true, if_false, Bool.false_eq_true, Try.ntmps32], ?_⟩
    rintro ⟨⟨c, j⟩, hc⟩ b
    simp (maxSteps := 2000000) only [go_sem, ↓dxc_true, ↓dxc_false, ↓bxc_true, ↓bxc_false, Nat.zero_add, Nat.add_zero, Nat.zero_mul, Nat.reduceBEq, Nat.reduceAdd, Nat.reduceMul, Nat.reduceSub, Nat.reduceLT, Nat.reduceLeDiff, Nat.reduceEqDiff, Nat.reduceDiv, Nat.reduceMod, Int.reduceAdd, Int.reduceSub, Int.reduceMul, Int.reduceDiv, Int.reduceMod, Int.reduceLT, Int.reduceLE, Int.reduceEq, Int.reduceToNat, Int.reducePow, Int.reduceNeg, ne_eq, not_false_eq_true, not_true_eq_false, decide_true, decide_false, Bool.not_true, Bool.not_false, forall_const, reduceCtorEq, implies_true, beq_self_eq_true, Int.cast_ofNat_Int, reduceIte, if_true, if_false, Bool.false_eq_true, Try.ntmps32, fin_ret hE, Try.results32]
    exact fun w' hm' => ⟨_, rfl, Or.inr ⟨hx, b, c, j, rfl, hc, by simpa using hm'.wr _ List.mem_cons_self rfl, hm'.at (t := 3) rfl, hm'.below⟩⟩

/-! ### Top -/

def topN (xs : List Pl) : Nat → Int
  | 0 => 0
  | i + 1 => max (topN xs i) (xs.getD i Pl.zero).pg.sq

/-- Blocks that come in. -/
inductive Arg : SV → List Ent → List Bk → Prop where
  | nil : Arg (.v (.slice none 0 0)) [] []
  | row (ba oa ca : Nat) (bs : List Bk) (la : List SV) (Ta : Nat) (za : Nat × Nat) (hs : SegR la oa Bk.f 66 bs) (hn : bs.length ≤ 1000) : Arg (.s 101 ba oa bs.length ca) [⟨101, ba, false, .z la Ta za⟩] bs

theorem Arg.iter {v : SV} {ro : List Ent} {bs : List Bk} (h : Arg v ro bs) (bb : Nat) (wf : Bool) : Iter Try.prog 34 [.p 102 bb 0] (⟨102, bb, wf, .c [v] 43⟩ :: ro) (goodS 0 bs).length (itm (goodS 0 bs)) := by
  cases h with
  | nil => exact all_N bb wf _
  | row ba oa ca bs la Ta za hs hn => exact all_I bb ba oa ca bs la Ta za wf hn hs

theorem Arg.kn {v : SV} {ro : List Ent} {bs : List Bk} (h : Arg v ro bs) : kn v = true := by cases h <;> rfl
theorem Arg.okc {v : SV} {ro : List Ent} {bs : List Bk} (h : Arg v ro bs) : okc v = true := by cases h <;> rfl
theorem Arg.cl {v : SV} {ro : List Ent} {bs : List Bk} (h : Arg v ro bs) : cl v = [v] := by cases h <;> rfl
theorem Arg.ro {v : SV} {ro : List Ent} {bs : List Bk} (h : Arg v ro bs) : ∀ e ∈ ro, e.w = false := by cases h <;> simp
theorem Arg.allK {v : SV} {ro : List Ent} {bs : List Bk} (h : Arg v ro bs) : allK [v] = true := by cases h <;> rfl
theorem Arg.bx {v : SV} {ro : List Ent} {bs : List Bk} (h : Arg v ro bs) (T : Nat) : bxv T v = .obl (one v = true) (.new (.c [v] T)) := by cases h <;> rfl
theorem Arg.one {v : SV} {ro : List Ent} {bs : List Bk} (h : Arg v ro bs) : one v = true := by cases h <;> rfl
theorem Arg.sv {v : SV} {ro : List Ent} {bs : List Bk} (h : Arg v ro bs) : v = .v (.slice none 0 0) ∨ ∃ b o n c, v = .s 101 b o n c := by
  cases h
  · exact Or.inl rfl
  · exact Or.inr ⟨_, _, _, _, rfl⟩

theorem top_C (w : World) (v : SV) (ro : List Ent) (bs : List Bk) (h : Arg v ro bs) (hm : Mem w [] ro w) :
    Calls Try.prog 15 #[den v] w fun e w' => e = .returned (.int .u32 (topN (goodS 0 bs) (goodS 0 bs).length)) ∧ Bel w.heap.size w w' := by
  refine calls_of_ex_m [v] _ [] 3 300 Try.func15 rfl hm (by simp [Try.ntmps15]) fun E hE => ?_
  have hr : E.r = none := by subst hE; rfl
  have k1 := h.kn
  have k2 := h.okc
  have k3 := h.cl
  have k4 := h.allK
  simp (maxSteps := 2000000) only [go_sem, ↓dxc_true, ↓dxc_false, ↓bxc_true, ↓bxc_false, Nat.zero_add, Nat.add_zero, Nat.zero_mul, Nat.reduceBEq, Nat.reduceAdd, Nat.reduceMul, Nat.reduceSub, Nat.reduceLT, Nat.reduceLeDiff, Nat.reduceEqDiff, Nat.reduceDiv, Nat.reduceMod, Int.reduceAdd, Int.reduceSub, Int.reduceMul, Int.reduceDiv, Int.reduceMod, Int.reduceLT, Int.reduceLE, Int.reduceEq, Int.reduceToNat, Int.reducePow, Int.reduceNeg, ne_eq, not_false_eq_true, not_true_eq_false, decide_true, decide_false, Bool.not_true, Bool.not_false, forall_const, reduceCtorEq, implies_true, beq_self_eq_true, Int.cast_ofNat_Int, reduceIte, if_true, if_false, Bool.false_eq_true, Try.ntmps15, Try.results15, k1, k2, k3, k4, true_and]
  intro b
  refine CallC.new (γ := Unit) (fun _ b => .f 34 [.p 4 b 0]) (fun _ => .c [v] 43) 300 (fun w1 hm1 => ?_) ?_
  · refine (all_C w1 v h.sv).mono ?_
    rintro e w' ⟨b, rfl, h1, h2, h3⟩
    exact ⟨(), b, rfl, h1, h2, h3⟩
  refine ⟨by simp (maxSteps := 2000000) only [go_sem, ↓dxc_true, ↓dxc_false, ↓bxc_true, ↓bxc_false, Nat.zero_add, Nat.add_zero, Nat.zero_mul, Nat.reduceBEq, Nat.reduceAdd, Nat.reduceMul, Nat.reduceSub, Nat.reduceLT, Nat.reduceLeDiff, Nat.reduceEqDiff, Nat.reduceDiv, Nat.reduceMod, Int.reduceAdd, Int.reduceSub, Int.reduceMul, Int.reduceDiv, Int.reduceMod, Int.reduceLT, Int.reduceLE, Int.reduceEq, Int.reduceToNat, Int.reducePow, Int.reduceNeg, ne_eq, not_false_eq_true, not_true_eq_false, decide_true, decide_false, Bool.not_true, Bool.not_false, forall_const, reduceCtorEq, implies_true, beq_self_eq_true, Int.cast_ofNat_Int, reduceIte, if_true, if_false, Bool.false_eq_true, Try.ntmps15], ?_⟩
  intro _ b2
  simp (maxSteps := 2000000) only [go_sem, ↓dxc_true, ↓dxc_false, ↓bxc_true, ↓bxc_false, Nat.zero_add, Nat.add_zero, Nat.zero_mul, Nat.reduceBEq, Nat.reduceAdd, Nat.reduceMul, Nat.reduceSub, Nat.reduceLT, Nat.reduceLeDiff, Nat.reduceEqDiff, Nat.reduceDiv, Nat.reduceMod, Int.reduceAdd, Int.reduceSub, Int.reduceMul, Int.reduceDiv, Int.reduceMod, Int.reduceLT, Int.reduceLE, Int.reduceEq, Int.reduceToNat, Int.reducePow, Int.reduceNeg, ne_eq, not_false_eq_true, not_true_eq_false, decide_true, decide_false, Bool.not_true, Bool.not_false, forall_const, reduceCtorEq, implies_true, beq_self_eq_true, Int.cast_ofNat_Int, reduceIte, if_true, if_false, Bool.false_eq_true, Try.ntmps15, Try.results15, k1, k2, k3, k4, true_and]
  refine CodeC.rng hr 10 11 20 300 (h := 34) (caps := [.p 4 b2 0]) (n := (goodS 0 bs).length) rfl (h.iter b2 true) (by kernel_rfl) (fun i => rfl) (fun p hp => by rcases List.mem_cons.1 hp with rfl | hp; exact (by decide : 6 < 13); cases hp) (γ := fun _ => Unit) (δ := Empty)
    (fun i _ => [⟨3, b, true, .c [.v (.int .u32 (topN (goodS 0 bs) i))] 23⟩]) (fun c => nomatch c) (fun c => nomatch c) () (fun w hm => (hm.perm (List.Perm.cons _ (List.perm_append_comm (l₁ := [_]) (l₂ := ro)))).tags rfl) ?_ ?_ ?_
  · intro D l L own i hi _ E1 hE1
    have hf1 := finR hE1
    have e1 : topN (goodS 0 bs) (i + 1) = max (topN (goodS 0 bs) i) ((goodS 0 bs).getD i Pl.zero).pg.sq := rfl
    simp (maxSteps := 2000000) only [go_sem, ↓dxc_true, ↓dxc_false, ↓bxc_true, ↓bxc_false, Nat.zero_add, Nat.add_zero, Nat.zero_mul, Nat.reduceBEq, Nat.reduceAdd, Nat.reduceMul, Nat.reduceSub, Nat.reduceLT, Nat.reduceLeDiff, Nat.reduceEqDiff, Nat.reduceDiv, Nat.reduceMod, Int.reduceAdd, Int.reduceSub, Int.reduceMul, Int.reduceDiv, Int.reduceMod, Int.reduceLT, Int.reduceLE, Int.reduceEq, Int.reduceToNat, Int.reducePow, Int.reduceNeg, ne_eq, not_false_eq_true, not_true_eq_false, decide_true, decide_false, Bool.not_true, Bool.not_false, forall_const, reduceCtorEq, implies_true, beq_self_eq_true, Int.cast_ofNat_Int, reduceIte, if_true, if_false, Bool.false_eq_true, psl, hf1, itm, Pl.f, List.length_cons, List.length_nil, e1]
    intro b1 E2 hE2
    have hf2 := finR hE2
    simp (maxSteps := 2000000) only [go_sem, ↓dxc_true, ↓dxc_false, ↓bxc_true, ↓bxc_false, Nat.zero_add, Nat.add_zero, Nat.zero_mul, Nat.reduceBEq, Nat.reduceAdd, Nat.reduceMul, Nat.reduceSub, Nat.reduceLT, Nat.reduceLeDiff, Nat.reduceEqDiff, Nat.reduceDiv, Nat.reduceMod, Int.reduceAdd, Int.reduceSub, Int.reduceMul, Int.reduceDiv, Int.reduceMod, Int.reduceLT, Int.reduceLE, Int.reduceEq, Int.reduceToNat, Int.reducePow, Int.reduceNeg, ne_eq, not_false_eq_true, not_true_eq_false, decide_true, decide_false, Bool.not_true, Bool.not_false, forall_const, reduceCtorEq, implies_true, beq_self_eq_true, Int.cast_ofNat_Int, reduceIte, if_true, if_false, Bool.false_eq_true, hf2, e1]
    exact ⟨(), by simp (maxSteps := 2000000) only [go_sem, ↓dxc_true, ↓dxc_false, ↓bxc_true, ↓bxc_false, Nat.zero_add, Nat.add_zero, Nat.zero_mul, Nat.reduceBEq, Nat.reduceAdd, Nat.reduceMul, Nat.reduceSub, Nat.reduceLT, Nat.reduceLeDiff, Nat.reduceEqDiff, Nat.reduceDiv, Nat.reduceMod, Int.reduceAdd, Int.reduceSub, Int.reduceMul, Int.reduceDiv, Int.reduceMod, Int.reduceLT, Int.reduceLE, Int.reduceEq, Int.reduceToNat, Int.reducePow, Int.reduceNeg, ne_eq, not_false_eq_true, not_true_eq_false, decide_true, decide_false, Bool.not_true, Bool.not_false, forall_const, reduceCtorEq, implies_true, beq_self_eq_true, Int.cast_ofNat_Int, reduceIte, if_true, if_false, Bool.false_eq_true, SubH, subH_refl']⟩
  · intro D _
    simp (maxSteps := 2000000) only [go_sem, ↓dxc_true, ↓dxc_false, ↓bxc_true, ↓bxc_false, Nat.zero_add, Nat.add_zero, Nat.zero_mul, Nat.reduceBEq, Nat.reduceAdd, Nat.reduceMul, Nat.reduceSub, Nat.reduceLT, Nat.reduceLeDiff, Nat.reduceEqDiff, Nat.reduceDiv, Nat.reduceMod, Int.reduceAdd, Int.reduceSub, Int.reduceMul, Int.reduceDiv, Int.reduceMod, Int.reduceLT, Int.reduceLE, Int.reduceEq, Int.reduceToNat, Int.reducePow, Int.reduceNeg, ne_eq, not_false_eq_true, not_true_eq_false, decide_true, decide_false, Bool.not_true, Bool.not_false, forall_const, reduceCtorEq, implies_true, beq_self_eq_true, Int.cast_ofNat_Int, reduceIte, if_true, if_false, Bool.false_eq_true, finM_ret hE, Try.results15]
    refine ⟨11, D, rfl, rfl, ?_⟩
    simp (maxSteps := 2000000) only [go_sem, ↓dxc_true, ↓dxc_false, ↓bxc_true, ↓bxc_false, Nat.zero_add, Nat.add_zero, Nat.zero_mul, Nat.reduceBEq, Nat.reduceAdd, Nat.reduceMul, Nat.reduceSub, Nat.reduceLT, Nat.reduceLeDiff, Nat.reduceEqDiff, Nat.reduceDiv, Nat.reduceMod, Int.reduceAdd, Int.reduceSub, Int.reduceMul, Int.reduceDiv, Int.reduceMod, Int.reduceLT, Int.reduceLE, Int.reduceEq, Int.reduceToNat, Int.reducePow, Int.reduceNeg, ne_eq, not_false_eq_true, not_true_eq_false, decide_true, decide_false, Bool.not_true, Bool.not_false, forall_const, reduceCtorEq, implies_true, beq_self_eq_true, Int.cast_ofNat_Int, reduceIte, if_true, if_false, Bool.false_eq_true]
    exact fun w' hm' => ⟨rfl, hm'.below⟩
  · intro D c
    cases c

end Go.Proofs
