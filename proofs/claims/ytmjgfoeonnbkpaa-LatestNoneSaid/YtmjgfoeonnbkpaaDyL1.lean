/- Places, pages, blocks; ours, theirs, Find. -/
import Derived.Test.YtmjgfoeonnbkpaaDxX
import Derived.Test.YtmjgfoeonnbkpaaDyLF
set_option linter.unusedSimpArgs false
set_option linter.unusedVariables false
set_option linter.unusedSectionVars false
set_option maxRecDepth 100000
set_option maxHeartbeats 8000000
namespace Go.Proofs
open Go.Dx Go.RowKit

/-- A page. -/
structure Pg where
  se : Int
  sq : Int
  go : Bool
  d0 : Int
  d1 : Int
  d2 : Int
  d3 : Int
deriving DecidableEq

/-- A place. -/
structure Pl where
  bl : Int
  pa : Int
  pg : Pg
deriving DecidableEq

def Pg.f (p : Pg) : List SV := [.v (.int .u32 p.se), .v (.int .u32 p.sq), .v (.bool p.go), .v (.int .u32 p.d0), .v (.int .u32 p.d1), .v (.int .u32 p.d2), .v (.int .u32 p.d3)]
def Pl.f (p : Pl) : List SV := [.v (.int .i64 p.bl), .v (.int .i64 p.pa), .v (.int .u32 p.pg.se), .v (.int .u32 p.pg.sq), .v (.bool p.pg.go), .v (.int .u32 p.pg.d0), .v (.int .u32 p.pg.d1), .v (.int .u32 p.pg.d2), .v (.int .u32 p.pg.d3)]

theorem Pg.len (p : Pg) : p.f.length = 7 := rfl
theorem Pl.len (p : Pl) : p.f.length = 9 := rfl
theorem Pg.one (p : Pg) : allOne p.f = true := rfl
theorem Pl.one (p : Pl) : allOne p.f = true := rfl

def Pg.zero : Pg := ⟨0, 0, false, 0, 0, 0, 0⟩
def Pl.zero : Pl := ⟨0, 0, Pg.zero⟩

/-- A row of places, as a value. -/
def RowOf {α : Type} (f : α → List SV) (T : Nat) (w : World) (lo : Nat) (xs : List α) (v : Value) : Prop :=
  (xs = [] ∧ v = .slice none 0 0) ∨ (xs ≠ [] ∧ ∃ b c j, v = den (.s 100 b 0 xs.length c) ∧ (xs.length ≤ c ∧ c ≤ 9223372036854775807) ∧ lo ≤ b ∧ w.heap[b]? = some (denO (.z (rows f xs ++ j) T (0, 0))))

theorem ex_at {α : Type} {xs : List α} {i : Nat} (h : i < xs.length) : ∃ x, xs[i]? = some x := ⟨xs[i], List.getElem?_eq_getElem h⟩

theorem take_one {α : Type} {xs : List α} {x : α} (h : xs[0]? = some x) : xs.take 1 = [x] := by
  cases xs with
  | nil => simp at h
  | cons a l => simp at h; simp [h]

theorem take_succ' {α : Type} {xs : List α} {i : Nat} {x : α} (h : xs[i]? = some x) : xs.take (i + 1) = xs.take i ++ [x] := by
  rw [List.take_add_one, h]; rfl

theorem rpt_len (n : Nat) (l : List SV) (m : Nat) (h : l.length = m) : (rpt n l).length = n * m := by rw [rpt_length, h]

/-! ### theirs -/

theorem theirs_N (w : World) : Calls Try.prog 10 #[den (.v (.slice none 0 0))] w fun e w' => e = .returned (.slice none 0 0) ∧ Bel w.heap.size w w' := by
  have hm : Mem w [] [] w := Mem.reads (by simp) (by simp)
  refine calls_of_ex [.v (.slice none 0 0)] _ [] 0 300 Try.func10 rfl hm (by simp [Try.ntmps10]) fun E hE => ?_
  simp (maxSteps := 2000000) only [go_sem, ↓dxc_true, ↓dxc_false, ↓bxc_true, ↓bxc_false, Nat.zero_add, Nat.add_zero, Nat.zero_mul, Nat.reduceBEq, Nat.reduceAdd, Nat.reduceMul, Nat.reduceSub, Nat.reduceLT, Nat.reduceLeDiff, Nat.reduceEqDiff, Nat.reduceDiv, Nat.reduceMod, Int.reduceAdd, Int.reduceSub, Int.reduceMul, Int.reduceDiv, Int.reduceMod, Int.reduceLT, Int.reduceLE, Int.reduceEq, Int.reduceToNat, Int.reducePow, Int.reduceNeg, ne_eq, not_false_eq_true, not_true_eq_false, decide_true, decide_false, Bool.not_true, Bool.not_false, forall_const, reduceCtorEq, implies_true, beq_self_eq_true, Int.cast_ofNat_Int, reduceIte, if_true, if_false, Bool.false_eq_true, Try.ntmps10, fin_ret hE, Try.results10]
  refine CodeC.unroll 1 300 ?_
  simp (maxSteps := 2000000) only [go_sem, ↓dxc_true, ↓dxc_false, ↓bxc_true, ↓bxc_false, Nat.zero_add, Nat.add_zero, Nat.zero_mul, Nat.reduceBEq, Nat.reduceAdd, Nat.reduceMul, Nat.reduceSub, Nat.reduceLT, Nat.reduceLeDiff, Nat.reduceEqDiff, Nat.reduceDiv, Nat.reduceMod, Int.reduceAdd, Int.reduceSub, Int.reduceMul, Int.reduceDiv, Int.reduceMod, Int.reduceLT, Int.reduceLE, Int.reduceEq, Int.reduceToNat, Int.reducePow, Int.reduceNeg, ne_eq, not_false_eq_true, not_true_eq_false, decide_true, decide_false, Bool.not_true, Bool.not_false, forall_const, reduceCtorEq, implies_true, beq_self_eq_true, Int.cast_ofNat_Int, reduceIte, if_true, if_false, Bool.false_eq_true, Try.ntmps10, fin_ret hE, Try.results10]
  exact fun w' hm' => ⟨rfl, hm'.below⟩

theorem theirs_C (w : World) (ba oa ca : Nat) (xs : List Pl) (la : List SV) (Ta : Nat) (za : Nat × Nat) (hx : xs ≠ []) (hn : xs.length ≤ 1000)
    (h : w.heap[ba]? = some (denO (.z la Ta za))) (hs : SegR la oa Pl.f 9 xs) :
    Calls Try.prog 10 #[den (.s 101 ba oa xs.length ca)] w fun e w' =>
      ∃ b c j, e = .returned (den (.s 100 b 0 xs.length c)) ∧ (xs.length ≤ c ∧ c ≤ 9223372036854775807) ∧ w.heap.size ≤ b ∧ w'.heap[b]? = some (denO (.z (rows Pl.f xs ++ j) 29 (0, 0))) ∧ Bel w.heap.size w w' := by
  have hm : Mem w [] [⟨101, ba, false, .z la Ta za⟩] w := Mem.reads (by simpa using h) (by simp)
  refine calls_of_ex [.s 101 ba oa xs.length ca] _ [] 3 300 Try.func10 rfl hm (by simp [Try.ntmps10]) fun E hE => ?_
  have h0 : 0 < xs.length := List.length_pos_iff.2 hx
  obtain ⟨x0, hx0⟩ : ∃ x, xs[0]? = some x := ex_at h0
  have e0 := hs.ldN hx0
  have q0 := hs.le hx0
  rw [Nat.zero_mul, Nat.add_zero] at e0 q0
  simp (maxSteps := 2000000) only [go_sem, ↓dxc_true, ↓dxc_false, ↓bxc_true, ↓bxc_false, Nat.zero_add, Nat.add_zero, Nat.zero_mul, Nat.reduceBEq, Nat.reduceAdd, Nat.reduceMul, Nat.reduceSub, Nat.reduceLT, Nat.reduceLeDiff, Nat.reduceEqDiff, Nat.reduceDiv, Nat.reduceMod, Int.reduceAdd, Int.reduceSub, Int.reduceMul, Int.reduceDiv, Int.reduceMod, Int.reduceLT, Int.reduceLE, Int.reduceEq, Int.reduceToNat, Int.reducePow, Int.reduceNeg, ne_eq, not_false_eq_true, not_true_eq_false, decide_true, decide_false, Bool.not_true, Bool.not_false, forall_const, reduceCtorEq, implies_true, beq_self_eq_true, Int.cast_ofNat_Int, reduceIte, if_true, if_false, Bool.false_eq_true, Try.ntmps10, fin_ret hE, Try.results10]
  refine CodeC.loop1 (γ := { g : Nat × Nat × Nat × List SV // g.1 ≤ xs.length ∧ g.1 ≤ g.2.2.1 ∧ g.2.2.1 ≤ 9223372036854775807 ∧ g.1 * 9 + g.2.2.2.length = g.2.2.1 * 9 })
    (fun g => ⟨24, 3, [(8, .v (.int .i64 (g.1.1 : Int))), (7, .v (.int .i64 (xs.length : Int))), (6, .s 101 ba oa xs.length ca), (3, .s 5 g.1.2.1 0 g.1.1 g.1.2.2.1)],
      [⟨5, g.1.2.1, true, .a (rows Pl.f (xs.take g.1.1) ++ g.1.2.2.2) 29⟩, ⟨101, ba, false, .z la Ta za⟩], []⟩) (fun g => xs.length - g.1.1) xs.length 300 ?_ ?_
  · simp (maxSteps := 2000000) only [go_sem, ↓dxc_true, ↓dxc_false, ↓bxc_true, ↓bxc_false, Nat.zero_add, Nat.add_zero, Nat.zero_mul, Nat.reduceBEq, Nat.reduceAdd, Nat.reduceMul, Nat.reduceSub, Nat.reduceLT, Nat.reduceLeDiff, Nat.reduceEqDiff, Nat.reduceDiv, Nat.reduceMod, Int.reduceAdd, Int.reduceSub, Int.reduceMul, Int.reduceDiv, Int.reduceMod, Int.reduceLT, Int.reduceLE, Int.reduceEq, Int.reduceToNat, Int.reducePow, Int.reduceNeg, ne_eq, not_false_eq_true, not_true_eq_false, decide_true, decide_false, Bool.not_true, Bool.not_false, forall_const, reduceCtorEq, implies_true, beq_self_eq_true, Int.cast_ofNat_Int, reduceIte, if_true, if_false, Bool.false_eq_true, Try.ntmps10, fin_ret hE, Try.results10, Int.toNat_natCast, e0, Pl.f, List.length_cons, List.length_nil]
    refine ⟨fun k1 => ⟨by omega, by omega, fun b1 b2 => ⟨fun k2 => k2.elim, fun b3 c1 hc => ?_⟩⟩, fun k1 => by omega⟩
    refine ⟨⟨(1, b3, c1, rpt (c1 - 1) Pl.zero.f), by simp only; omega, by simp only; omega, by simp only; omega, by simp only [rpt_len _ _ 9 (Pl.len Pl.zero)]; omega⟩, ⟨rfl, rfl, ⟨rfl, rfl, rfl, rfl, trivial⟩, ?_⟩, by simp only; omega⟩
    simp (maxSteps := 2000000) only [go_sem, ↓dxc_true, ↓dxc_false, ↓bxc_true, ↓bxc_false, Nat.zero_add, Nat.add_zero, Nat.zero_mul, Nat.reduceBEq, Nat.reduceAdd, Nat.reduceMul, Nat.reduceSub, Nat.reduceLT, Nat.reduceLeDiff, Nat.reduceEqDiff, Nat.reduceDiv, Nat.reduceMod, Int.reduceAdd, Int.reduceSub, Int.reduceMul, Int.reduceDiv, Int.reduceMod, Int.reduceLT, Int.reduceLE, Int.reduceEq, Int.reduceToNat, Int.reducePow, Int.reduceNeg, ne_eq, not_false_eq_true, not_true_eq_false, decide_true, decide_false, Bool.not_true, Bool.not_false, forall_const, reduceCtorEq, implies_true, beq_self_eq_true, Int.cast_ofNat_Int, reduceIte, if_true, if_false, Bool.false_eq_true, SubH, take_one hx0, rows_one, Pl.f, Pl.zero, Pg.zero]
  · rintro ⟨⟨i, b, c, j⟩, h1, h2, h3, h4⟩
    simp only at h1 h2 h3 h4
    simp (maxSteps := 2000000) only [go_sem, ↓dxc_true, ↓dxc_false, ↓bxc_true, ↓bxc_false, Nat.zero_add, Nat.add_zero, Nat.zero_mul, Nat.reduceBEq, Nat.reduceAdd, Nat.reduceMul, Nat.reduceSub, Nat.reduceLT, Nat.reduceLeDiff, Nat.reduceEqDiff, Nat.reduceDiv, Nat.reduceMod, Int.reduceAdd, Int.reduceSub, Int.reduceMul, Int.reduceDiv, Int.reduceMod, Int.reduceLT, Int.reduceLE, Int.reduceEq, Int.reduceToNat, Int.reducePow, Int.reduceNeg, ne_eq, not_false_eq_true, not_true_eq_false, decide_true, decide_false, Bool.not_true, Bool.not_false, forall_const, reduceCtorEq, implies_true, beq_self_eq_true, Int.cast_ofNat_Int, reduceIte, if_true, if_false, Bool.false_eq_true, Try.ntmps10, fin_ret hE, Try.results10]
    refine ⟨fun k1 => ?_, fun k1 w' hm' => ?_⟩
    · obtain ⟨x, hx⟩ : ∃ x, xs[i]? = some x := ex_at (by omega)
      have e1 := hs.ldN hx
      have q1 := hs.le hx
      have l1 : (rows Pl.f (xs.take i)).length = i * 9 := by rw [rows_length Pl.len]; simp; omega
      have l2 := rows_hdN Pl.len (xs.take i) j (i * 9) (by simp; omega)
      have o1 := allOne_rows Pl.one (xs.take i)
      simp (maxSteps := 2000000) only [go_sem, ↓dxc_true, ↓dxc_false, ↓bxc_true, ↓bxc_false, Nat.zero_add, Nat.add_zero, Nat.zero_mul, Nat.reduceBEq, Nat.reduceAdd, Nat.reduceMul, Nat.reduceSub, Nat.reduceLT, Nat.reduceLeDiff, Nat.reduceEqDiff, Nat.reduceDiv, Nat.reduceMod, Int.reduceAdd, Int.reduceSub, Int.reduceMul, Int.reduceDiv, Int.reduceMod, Int.reduceLT, Int.reduceLE, Int.reduceEq, Int.reduceToNat, Int.reducePow, Int.reduceNeg, ne_eq, not_false_eq_true, not_true_eq_false, decide_true, decide_false, Bool.not_true, Bool.not_false, forall_const, reduceCtorEq, implies_true, beq_self_eq_true, Int.cast_ofNat_Int, reduceIte, if_true, if_false, Bool.false_eq_true, Try.ntmps10, fin_ret hE, Try.results10, Int.toNat_natCast, e1, Pl.f, List.length_cons, List.length_nil, List.length_append, l1, l2, o1, allOne_append]
      refine ⟨⟨by omega, by omega⟩, by omega, fun b1 b2 => ⟨⟨by omega, by omega, by omega, by omega, by omega⟩, fun b3 c1 j1 hc => ⟨⟨by omega, by omega⟩, ?_⟩⟩⟩
      refine ⟨⟨(i + 1, b3, c1, j1), by simp only; omega, by simp only; omega, by simp only; omega, by simp only; omega⟩, ⟨rfl, rfl, ⟨by simp [lk], rfl, rfl, rfl, trivial⟩, ?_⟩, by simp only; omega⟩
      simp (maxSteps := 2000000) only [go_sem, ↓dxc_true, ↓dxc_false, ↓bxc_true, ↓bxc_false, Nat.zero_add, Nat.add_zero, Nat.zero_mul, Nat.reduceBEq, Nat.reduceAdd, Nat.reduceMul, Nat.reduceSub, Nat.reduceLT, Nat.reduceLeDiff, Nat.reduceEqDiff, Nat.reduceDiv, Nat.reduceMod, Int.reduceAdd, Int.reduceSub, Int.reduceMul, Int.reduceDiv, Int.reduceMod, Int.reduceLT, Int.reduceLE, Int.reduceEq, Int.reduceToNat, Int.reducePow, Int.reduceNeg, ne_eq, not_false_eq_true, not_true_eq_false, decide_true, decide_false, Bool.not_true, Bool.not_false, forall_const, reduceCtorEq, implies_true, beq_self_eq_true, Int.cast_ofNat_Int, reduceIte, if_true, if_false, Bool.false_eq_true, SubH, take_succ' hx, rows_append, rows_one, Pl.f]
    · have hi : i = xs.length := by omega
      subst hi
      have g1 := hm'.at (t := 5) rfl
      have g2 := hm'.wr _ List.mem_cons_self rfl
      rw [List.take_length] at g1
      exact ⟨b, c, j, rfl, ⟨by omega, by omega⟩, by simpa using g2, g1, hm'.below⟩

/-! ### ours -/

theorem ours_N (w : World) : Calls Try.prog 12 #[den (.v (.slice none 0 0))] w fun e w' => e = .returned (.slice none 0 0) ∧ Bel w.heap.size w w' := by
  have hm : Mem w [] [] w := Mem.reads (by simp) (by simp)
  refine calls_of_ex [.v (.slice none 0 0)] _ [] 0 300 Try.func12 rfl hm (by simp [Try.ntmps12]) fun E hE => ?_
  simp (maxSteps := 2000000) only [go_sem, ↓dxc_true, ↓dxc_false, ↓bxc_true, ↓bxc_false, Nat.zero_add, Nat.add_zero, Nat.zero_mul, Nat.reduceBEq, Nat.reduceAdd, Nat.reduceMul, Nat.reduceSub, Nat.reduceLT, Nat.reduceLeDiff, Nat.reduceEqDiff, Nat.reduceDiv, Nat.reduceMod, Int.reduceAdd, Int.reduceSub, Int.reduceMul, Int.reduceDiv, Int.reduceMod, Int.reduceLT, Int.reduceLE, Int.reduceEq, Int.reduceToNat, Int.reducePow, Int.reduceNeg, ne_eq, not_false_eq_true, not_true_eq_false, decide_true, decide_false, Bool.not_true, Bool.not_false, forall_const, reduceCtorEq, implies_true, beq_self_eq_true, Int.cast_ofNat_Int, reduceIte, if_true, if_false, Bool.false_eq_true, Try.ntmps12, fin_ret hE, Try.results12]
  refine CodeC.unroll 1 300 ?_
  simp (maxSteps := 2000000) only [go_sem, ↓dxc_true, ↓dxc_false, ↓bxc_true, ↓bxc_false, Nat.zero_add, Nat.add_zero, Nat.zero_mul, Nat.reduceBEq, Nat.reduceAdd, Nat.reduceMul, Nat.reduceSub, Nat.reduceLT, Nat.reduceLeDiff, Nat.reduceEqDiff, Nat.reduceDiv, Nat.reduceMod, Int.reduceAdd, Int.reduceSub, Int.reduceMul, Int.reduceDiv, Int.reduceMod, Int.reduceLT, Int.reduceLE, Int.reduceEq, Int.reduceToNat, Int.reducePow, Int.reduceNeg, ne_eq, not_false_eq_true, not_true_eq_false, decide_true, decide_false, Bool.not_true, Bool.not_false, forall_const, reduceCtorEq, implies_true, beq_self_eq_true, Int.cast_ofNat_Int, reduceIte, if_true, if_false, Bool.false_eq_true, Try.ntmps12, fin_ret hE, Try.results12]
  exact fun w' hm' => ⟨rfl, hm'.below⟩

theorem ours_C (w : World) (ba oa ca : Nat) (xs : List Pl) (la : List SV) (Ta : Nat) (za : Nat × Nat) (hx : xs ≠ []) (hn : xs.length ≤ 1000)
    (h : w.heap[ba]? = some (denO (.z la Ta za))) (hs : SegR la oa Pl.f 9 xs) :
    Calls Try.prog 12 #[den (.s 101 ba oa xs.length ca)] w fun e w' =>
      ∃ b c j, e = .returned (den (.s 100 b 0 xs.length c)) ∧ (xs.length ≤ c ∧ c ≤ 9223372036854775807) ∧ w.heap.size ≤ b ∧ w'.heap[b]? = some (denO (.z (rows Pl.f xs ++ j) 36 (0, 0))) ∧ Bel w.heap.size w w' := by
  have hm : Mem w [] [⟨101, ba, false, .z la Ta za⟩] w := Mem.reads (by simpa using h) (by simp)
  refine calls_of_ex [.s 101 ba oa xs.length ca] _ [] 3 300 Try.func12 rfl hm (by simp [Try.ntmps12]) fun E hE => ?_
  have h0 : 0 < xs.length := List.length_pos_iff.2 hx
  obtain ⟨x0, hx0⟩ : ∃ x, xs[0]? = some x := ex_at h0
  have e0 := hs.ldN hx0
  have q0 := hs.le hx0
  rw [Nat.zero_mul, Nat.add_zero] at e0 q0
  simp (maxSteps := 2000000) only [go_sem, ↓dxc_true, ↓dxc_false, ↓bxc_true, ↓bxc_false, Nat.zero_add, Nat.add_zero, Nat.zero_mul, Nat.reduceBEq, Nat.reduceAdd, Nat.reduceMul, Nat.reduceSub, Nat.reduceLT, Nat.reduceLeDiff, Nat.reduceEqDiff, Nat.reduceDiv, Nat.reduceMod, Int.reduceAdd, Int.reduceSub, Int.reduceMul, Int.reduceDiv, Int.reduceMod, Int.reduceLT, Int.reduceLE, Int.reduceEq, Int.reduceToNat, Int.reducePow, Int.reduceNeg, ne_eq, not_false_eq_true, not_true_eq_false, decide_true, decide_false, Bool.not_true, Bool.not_false, forall_const, reduceCtorEq, implies_true, beq_self_eq_true, Int.cast_ofNat_Int, reduceIte, if_true, if_false, Bool.false_eq_true, Try.ntmps12, fin_ret hE, Try.results12]
  refine CodeC.loop1 (γ := { g : Nat × Nat × Nat × List SV // g.1 ≤ xs.length ∧ g.1 ≤ g.2.2.1 ∧ g.2.2.1 ≤ 9223372036854775807 ∧ g.1 * 9 + g.2.2.2.length = g.2.2.1 * 9 })
    (fun g => ⟨24, 3, [(8, .v (.int .i64 (g.1.1 : Int))), (7, .v (.int .i64 (xs.length : Int))), (6, .s 101 ba oa xs.length ca), (3, .s 5 g.1.2.1 0 g.1.1 g.1.2.2.1)],
      [⟨5, g.1.2.1, true, .a (rows Pl.f (xs.take g.1.1) ++ g.1.2.2.2) 36⟩, ⟨101, ba, false, .z la Ta za⟩], []⟩) (fun g => xs.length - g.1.1) xs.length 300 ?_ ?_
  · simp (maxSteps := 2000000) only [go_sem, ↓dxc_true, ↓dxc_false, ↓bxc_true, ↓bxc_false, Nat.zero_add, Nat.add_zero, Nat.zero_mul, Nat.reduceBEq, Nat.reduceAdd, Nat.reduceMul, Nat.reduceSub, Nat.reduceLT, Nat.reduceLeDiff, Nat.reduceEqDiff, Nat.reduceDiv, Nat.reduceMod, Int.reduceAdd, Int.reduceSub, Int.reduceMul, Int.reduceDiv, Int.reduceMod, Int.reduceLT, Int.reduceLE, Int.reduceEq, Int.reduceToNat, Int.reducePow, Int.reduceNeg, ne_eq, not_false_eq_true, not_true_eq_false, decide_true, decide_false, Bool.not_true, Bool.not_false, forall_const, reduceCtorEq, implies_true, beq_self_eq_true, Int.cast_ofNat_Int, reduceIte, if_true, if_false, Bool.false_eq_true, Try.ntmps12, fin_ret hE, Try.results12, Int.toNat_natCast, e0, Pl.f, List.length_cons, List.length_nil]
    refine ⟨fun k1 => ⟨by omega, by omega, fun b1 b2 => ⟨fun k2 => k2.elim, fun b3 c1 hc => ?_⟩⟩, fun k1 => by omega⟩
    refine ⟨⟨(1, b3, c1, rpt (c1 - 1) Pl.zero.f), by simp only; omega, by simp only; omega, by simp only; omega, by simp only [rpt_len _ _ 9 (Pl.len Pl.zero)]; omega⟩, ⟨rfl, rfl, ⟨rfl, rfl, rfl, rfl, trivial⟩, ?_⟩, by simp only; omega⟩
    simp (maxSteps := 2000000) only [go_sem, ↓dxc_true, ↓dxc_false, ↓bxc_true, ↓bxc_false, Nat.zero_add, Nat.add_zero, Nat.zero_mul, Nat.reduceBEq, Nat.reduceAdd, Nat.reduceMul, Nat.reduceSub, Nat.reduceLT, Nat.reduceLeDiff, Nat.reduceEqDiff, Nat.reduceDiv, Nat.reduceMod, Int.reduceAdd, Int.reduceSub, Int.reduceMul, Int.reduceDiv, Int.reduceMod, Int.reduceLT, Int.reduceLE, Int.reduceEq, Int.reduceToNat, Int.reducePow, Int.reduceNeg, ne_eq, not_false_eq_true, not_true_eq_false, decide_true, decide_false, Bool.not_true, Bool.not_false, forall_const, reduceCtorEq, implies_true, beq_self_eq_true, Int.cast_ofNat_Int, reduceIte, if_true, if_false, Bool.false_eq_true, SubH, take_one hx0, rows_one, Pl.f, Pl.zero, Pg.zero]
  · rintro ⟨⟨i, b, c, j⟩, h1, h2, h3, h4⟩
    simp only at h1 h2 h3 h4
    simp (maxSteps := 2000000) only [go_sem, ↓dxc_true, ↓dxc_false, ↓bxc_true, ↓bxc_false, Nat.zero_add, Nat.add_zero, Nat.zero_mul, Nat.reduceBEq, Nat.reduceAdd, Nat.reduceMul, Nat.reduceSub, Nat.reduceLT, Nat.reduceLeDiff, Nat.reduceEqDiff, Nat.reduceDiv, Nat.reduceMod, Int.reduceAdd, Int.reduceSub, Int.reduceMul, Int.reduceDiv, Int.reduceMod, Int.reduceLT, Int.reduceLE, Int.reduceEq, Int.reduceToNat, Int.reducePow, Int.reduceNeg, ne_eq, not_false_eq_true, not_true_eq_false, decide_true, decide_false, Bool.not_true, Bool.not_false, forall_const, reduceCtorEq, implies_true, beq_self_eq_true, Int.cast_ofNat_Int, reduceIte, if_true, if_false, Bool.false_eq_true, Try.ntmps12, fin_ret hE, Try.results12]
    refine ⟨fun k1 => ?_, fun k1 w' hm' => ?_⟩
    · obtain ⟨x, hx⟩ : ∃ x, xs[i]? = some x := ex_at (by omega)
      have e1 := hs.ldN hx
      have q1 := hs.le hx
      have l1 : (rows Pl.f (xs.take i)).length = i * 9 := by rw [rows_length Pl.len]; simp; omega
      have l2 := rows_hdN Pl.len (xs.take i) j (i * 9) (by simp; omega)
      have o1 := allOne_rows Pl.one (xs.take i)
      simp (maxSteps := 2000000) only [go_sem, ↓dxc_true, ↓dxc_false, ↓bxc_true, ↓bxc_false, Nat.zero_add, Nat.add_zero, Nat.zero_mul, Nat.reduceBEq, Nat.reduceAdd, Nat.reduceMul, Nat.reduceSub, Nat.reduceLT, Nat.reduceLeDiff, Nat.reduceEqDiff, Nat.reduceDiv, Nat.reduceMod, Int.reduceAdd, Int.reduceSub, Int.reduceMul, Int.reduceDiv, Int.reduceMod, Int.reduceLT, Int.reduceLE, Int.reduceEq, Int.reduceToNat, Int.reducePow, Int.reduceNeg, ne_eq, not_false_eq_true, not_true_eq_false, decide_true, decide_false, Bool.not_true, Bool.not_false, forall_const, reduceCtorEq, implies_true, beq_self_eq_true, Int.cast_ofNat_Int, reduceIte, if_true, if_false, Bool.false_eq_true, Try.ntmps12, fin_ret hE, Try.results12, Int.toNat_natCast, e1, Pl.f, List.length_cons, List.length_nil, List.length_append, l1, l2, o1, allOne_append]
      refine ⟨⟨by omega, by omega⟩, by omega, fun b1 b2 => ⟨⟨by omega, by omega, by omega, by omega, by omega⟩, fun b3 c1 j1 hc => ⟨⟨by omega, by omega⟩, ?_⟩⟩⟩
      refine ⟨⟨(i + 1, b3, c1, j1), by simp only; omega, by simp only; omega, by simp only; omega, by simp only; omega⟩, ⟨rfl, rfl, ⟨by simp [lk], rfl, rfl, rfl, trivial⟩, ?_⟩, by simp only; omega⟩
      simp (maxSteps := 2000000) only [go_sem, ↓dxc_true, ↓dxc_false, ↓bxc_true, ↓bxc_false, Nat.zero_add, Nat.add_zero, Nat.zero_mul, Nat.reduceBEq, Nat.reduceAdd, Nat.reduceMul, Nat.reduceSub, Nat.reduceLT, Nat.reduceLeDiff, Nat.reduceEqDiff, Nat.reduceDiv, Nat.reduceMod, Int.reduceAdd, Int.reduceSub, Int.reduceMul, Int.reduceDiv, Int.reduceMod, Int.reduceLT, Int.reduceLE, Int.reduceEq, Int.reduceToNat, Int.reducePow, Int.reduceNeg, ne_eq, not_false_eq_true, not_true_eq_false, decide_true, decide_false, Bool.not_true, Bool.not_false, forall_const, reduceCtorEq, implies_true, beq_self_eq_true, Int.cast_ofNat_Int, reduceIte, if_true, if_false, Bool.false_eq_true, SubH, take_succ' hx, rows_append, rows_one, Pl.f]
    · have hi : i = xs.length := by omega
      subst hi
      have g1 := hm'.at (t := 5) rfl
      have g2 := hm'.wr _ List.mem_cons_self rfl
      rw [List.take_length] at g1
      exact ⟨b, c, j, rfl, ⟨by omega, by omega⟩, by simpa using g2, g1, hm'.below⟩

end Go.Proofs
