/- Blocks: Words. -/
import Derived.Test.YtmjgfoeonnbkpaaDyL6
set_option linter.unusedSimpArgs false
set_option linter.unusedVariables false
set_option linter.unusedSectionVars false
set_option maxRecDepth 100000
set_option maxHeartbeats 1000000
namespace Go.Proofs
open Go.Dx Go.RowKit

def bw (ws : List Int) (i : Nat) : List Int := (ws.drop (64 * i)).take 64
def scanS (ws : List Int) (m : Nat) : List Bk := (List.range m).map fun i => foundN (bw ws i) 8

theorem chunk_C (w : World) (ba oa n ca : Nat) : Calls Try.prog 27 #[den (.s 101 ba oa n ca), .int .i64 64] w fun e w' => ∃ b b', e = .returned (den (.f 38 [.p 102 b 0, .p 103 b' 0])) ∧ Mem w [] [⟨103, b', true, .c [.v (.int .i64 64)] 3⟩, ⟨102, b, true, .c [.s 101 ba oa n ca] 62⟩] w' := by
  have hm : Mem w [] [] w := Mem.reads (by simp) (by simp)
  refine calls_of_ex [.s 101 ba oa n ca, .v (.int .i64 64)] _ [] 3 300 Try.func27 rfl hm (by simp [Try.ntmps27]) fun E hE => ?_
  simp (maxSteps := 2000000) only [go_sem, ↓dxc_true, ↓dxc_false, ↓bxc_true, ↓bxc_false, Nat.zero_add, Nat.add_zero, Nat.zero_mul, Nat.reduceBEq, Nat.reduceAdd, Nat.reduceMul, Nat.reduceSub, Nat.reduceLT, Nat.reduceLeDiff, Nat.reduceEqDiff, Nat.reduceDiv, Nat.reduceMod, Int.reduceAdd, Int.reduceSub, Int.reduceMul, Int.reduceDiv, Int.reduceMod, Int.reduceLT, Int.reduceLE, Int.reduceEq, Int.reduceToNat, Int.reducePow, Int.reduceNeg, ne_eq, not_false_eq_true, not_true_eq_false, decide_true, decide_false, Bool.not_true, Bool.not_false, forall_const, reduceCtorEq, implies_true, beq_self_eq_true, Int.cast_ofNat_Int, reduceIte, if_true, if_false, Bool.false_eq_true, Try.ntmps27, fin_ret hE, Try.results27]
  exact fun b b' w' hm' => ⟨b, b', rfl, hm'.tags rfl⟩

/-- The blocks that have been found so far. -/
structure BG (i : Nat) where
  b : Nat
  c : Nat
  j : List SV
  h1 : i ≤ c
  h2 : c ≤ 9223372036854775807
  h3 : i * 66 + j.length = c * 66

def bgH (b5 ba : Nat) (xs : List Int) (la : List SV) (Ta : Nat) (za : Nat × Nat) : (i : Nat) → BG i → List Ent
  | 0, _ => [⟨3, b5, true, .c [.v (.slice none 0 0)] 43⟩, ⟨101, ba, false, .z la Ta za⟩]
  | i + 1, g => [⟨21, g.b, true, .a (rows Bk.f (scanS xs (i + 1)) ++ g.j) 55⟩, ⟨3, b5, true, .c [.s 21 g.b 0 (i + 1) g.c] 43⟩, ⟨101, ba, false, .z la Ta za⟩]

theorem scanS_succ (xs : List Int) (i : Nat) : scanS xs (i + 1) = scanS xs i ++ [foundN (bw xs i) 8] := by simp [scanS, List.range_succ]
theorem scanS_len (xs : List Int) (i : Nat) : (scanS xs i).length = i := by simp [scanS]

theorem ovN_full (z : List SV) (b : Bk) (h : z.length = 66) : ovN z b.f = b.f := by
  rw [ovN_eq _ _ (by rw [h, b.len]; omega), List.drop_of_length_le (by rw [h, b.len]; omega), List.append_nil]

theorem hdN_full (b : Bk) : hdN b.f 66 = b.f := by rw [hdN_eq, List.take_of_length_le (by rw [b.len]; omega)]

theorem subH_refl (l : List Ent) : SubH l l = True := eq_true (SubH.refl l)

theorem words_S (w : World) (ba oa ca m : Nat) (xs : List Int) (la : List SV) (Ta : Nat) (za : Nat × Nat) (hm1 : 1 ≤ m ∧ m ≤ 64) (hn : xs.length = 64 * m) (hu : U32 xs) (hca : 64 * m ≤ ca ∧ ca ≤ 9223372036854775807)
    (h : w.heap[ba]? = some (denO (.z la Ta za))) (hs : Seg la oa .u32 xs) :
    Calls Try.prog 17 #[den (.s 101 ba oa (64 * m) ca)] w fun e w' => ∃ b c j, e = .returned (den (.u [.s 100 b 0 m c, .v (.int .i64 0)])) ∧ (m ≤ c ∧ c ≤ 9223372036854775807 ∧ m * 66 + j.length = c * 66) ∧ w.heap.size ≤ b ∧ w'.heap[b]? = some (denO (.a (rows Bk.f (scanS xs m) ++ j) 55)) ∧ Bel w.heap.size w w' := by
  have hm : Mem w [] [⟨101, ba, false, .z la Ta za⟩] w := Mem.reads (by simpa using h) (by simp)
  refine calls_of_ex_m [.s 101 ba oa (64 * m) ca] _ [] 3 300 Try.func17 rfl hm (by simp [Try.ntmps17]) fun E hE => ?_
  have hr : E.r = none := by subst hE; rfl
  have page : ∀ i, i < m → (bw xs i).length = 64 ∧ U32 (bw xs i) ∧ Seg la (oa + 64 * i) .u32 (bw xs i) := fun i hi => by
    have hl : (bw xs i).length = 64 := by simp [bw]; omega
    have hg : ∀ t, t < 64 → (bw xs i).getD t 0 = xs.getD (64 * i + t) 0 := fun t ht => by
      simp [bw, List.getD, List.getElem?_take, ht]
    refine ⟨hl, fun t ht => ?_, fun t ht => ?_⟩
    · rw [hl] at ht
      rw [hg t ht]
      exact hu _ (by omega)
    · rw [hl] at ht
      rw [hg t ht, Nat.add_assoc]
      exact hs _ (by omega)
  have d1 : ((64 * m : Nat) : Int) % 64 = 0 := by omega
  have d2 : ((64 * m : Nat) : Int) / 64 = (m : Int) := by omega
  have d3 : ¬ ((m : Int) < 1) := by omega
  have d4 : ¬ (64 < (m : Int)) := by omega
  have zle : 0 ≤ ((64 * m : Nat) : Int) := by omega
  have zle' : ((64 * m : Nat) : Int) ≤ 9223372036854775807 := by omega
  simp (maxSteps := 2000000) only [go_sem, ↓dxc_true, ↓dxc_false, ↓bxc_true, ↓bxc_false, Nat.zero_add, Nat.add_zero, Nat.zero_mul, Nat.reduceBEq, Nat.reduceAdd, Nat.reduceMul, Nat.reduceSub, Nat.reduceLT, Nat.reduceLeDiff, Nat.reduceEqDiff, Nat.reduceDiv, Nat.reduceMod, Int.reduceAdd, Int.reduceSub, Int.reduceMul, Int.reduceDiv, Int.reduceMod, Int.reduceLT, Int.reduceLE, Int.reduceEq, Int.reduceToNat, Int.reducePow, Int.reduceNeg, ne_eq, not_false_eq_true, not_true_eq_false, decide_true, decide_false, Bool.not_true, Bool.not_false, forall_const, reduceCtorEq, implies_true, beq_self_eq_true, Int.cast_ofNat_Int, reduceIte, if_true, if_false, Bool.false_eq_true, Try.ntmps17, Try.results17, d1, d2, d3, d4, zle, zle', true_and, and_true, true_implies, false_implies]
  intro b
  refine CallC.mut (γ := Nat × Nat) (fun g => .f 38 [.p 102 g.1 0, .p 103 g.2 0]) (fun g => ⟨103, g.2, true, .c [.v (.int .i64 64)] 3⟩ :: ⟨102, g.1, true, .c [.s 101 ba oa (64 * m) ca] 62⟩ :: ⟨3, b, true, .c [.v (.slice none 0 0)] 43⟩ :: [⟨101, ba, false, .z la Ta za⟩]) (fun _ => True) 300 (fun w1 hm1 => ?_) ?_
  · refine (chunk_C w1 ba oa (64 * m) ca).mono ?_
    rintro e w' ⟨b1, b2, rfl, hm2⟩
    exact ⟨(b1, b2), rfl, trivial, hm1.join hm2 (by simp)⟩
  refine ⟨by simp (maxSteps := 2000000) only [go_sem, ↓dxc_true, ↓dxc_false, ↓bxc_true, ↓bxc_false, Nat.zero_add, Nat.add_zero, Nat.zero_mul, Nat.reduceBEq, Nat.reduceAdd, Nat.reduceMul, Nat.reduceSub, Nat.reduceLT, Nat.reduceLeDiff, Nat.reduceEqDiff, Nat.reduceDiv, Nat.reduceMod, Int.reduceAdd, Int.reduceSub, Int.reduceMul, Int.reduceDiv, Int.reduceMod, Int.reduceLT, Int.reduceLE, Int.reduceEq, Int.reduceToNat, Int.reducePow, Int.reduceNeg, ne_eq, not_false_eq_true, not_true_eq_false, decide_true, decide_false, Bool.not_true, Bool.not_false, forall_const, reduceCtorEq, implies_true, beq_self_eq_true, Int.cast_ofNat_Int, reduceIte, if_true, if_false, Bool.false_eq_true, Try.ntmps17], ?_⟩
  rintro ⟨b1, b2⟩ _
  simp (maxSteps := 2000000) only [go_sem, ↓dxc_true, ↓dxc_false, ↓bxc_true, ↓bxc_false, Nat.zero_add, Nat.add_zero, Nat.zero_mul, Nat.reduceBEq, Nat.reduceAdd, Nat.reduceMul, Nat.reduceSub, Nat.reduceLT, Nat.reduceLeDiff, Nat.reduceEqDiff, Nat.reduceDiv, Nat.reduceMod, Int.reduceAdd, Int.reduceSub, Int.reduceMul, Int.reduceDiv, Int.reduceMod, Int.reduceLT, Int.reduceLE, Int.reduceEq, Int.reduceToNat, Int.reducePow, Int.reduceNeg, ne_eq, not_false_eq_true, not_true_eq_false, decide_true, decide_false, Bool.not_true, Bool.not_false, forall_const, reduceCtorEq, implies_true, beq_self_eq_true, Int.cast_ofNat_Int, reduceIte, if_true, if_false, Bool.false_eq_true, Try.ntmps17, Try.results17]
  refine ex_weaken ⟨31, 6, [(23, .f 38 [.p 102 b1 0, .p 103 b2 0]), (5, .p 3 b 0)], [⟨103, b2, true, .c [.v (.int .i64 64)] 3⟩, ⟨102, b1, true, .c [.s 101 ba oa (64 * m) ca] 62⟩, ⟨3, b, true, .c [.v (.slice none 0 0)] 43⟩, ⟨101, ba, false, .z la Ta za⟩], []⟩ ⟨rfl, rfl, ⟨rfl, rfl, trivial⟩, SubH.refl _⟩ ?_
  refine CodeC.rng hr 10 11 20 300 (h := 38) (caps := [.p 102 b1 0, .p 103 b2 0]) (n := m) rfl (chunk_I b1 b2 ba oa ca m true true hca (by omega)) (by kernel_rfl) (fun i => rfl) (fun p hp => by rcases List.mem_cons.1 hp with rfl | hp; exact (by decide : 24 < 31); cases hp) (γ := BG) (δ := Empty)
    (bgH b ba xs la Ta za) (fun c => nomatch c) (fun c => nomatch c) ⟨0, 0, [], by omega, by omega, rfl⟩ (fun w hm => hm.perm (List.Perm.swap _ _ _)) ?_ ?_ ?_
  · intro D l L own i hi g E1 hE1
    have hf1 := finR hE1
    cases i with
    | zero =>
      simp (maxSteps := 2000000) only [go_sem, ↓dxc_true, ↓dxc_false, ↓bxc_true, ↓bxc_false, Nat.zero_add, Nat.add_zero, Nat.zero_mul, Nat.reduceBEq, Nat.reduceAdd, Nat.reduceMul, Nat.reduceSub, Nat.reduceLT, Nat.reduceLeDiff, Nat.reduceEqDiff, Nat.reduceDiv, Nat.reduceMod, Int.reduceAdd, Int.reduceSub, Int.reduceMul, Int.reduceDiv, Int.reduceMod, Int.reduceLT, Int.reduceLE, Int.reduceEq, Int.reduceToNat, Int.reducePow, Int.reduceNeg, ne_eq, not_false_eq_true, not_true_eq_false, decide_true, decide_false, Bool.not_true, Bool.not_false, forall_const, reduceCtorEq, implies_true, beq_self_eq_true, Int.cast_ofNat_Int, reduceIte, if_true, if_false, Bool.false_eq_true, psl, hf1, bgH]
      intro E2 hE2
      have hf2 := finR hE2
      refine CodeC.lex 300 Try.follows_mixed (by kernel_rfl) ?_
      simp (maxSteps := 2000000) only [go_sem, ↓dxc_true, ↓dxc_false, ↓bxc_true, ↓bxc_false, Nat.zero_add, Nat.add_zero, Nat.zero_mul, Nat.reduceBEq, Nat.reduceAdd, Nat.reduceMul, Nat.reduceSub, Nat.reduceLT, Nat.reduceLeDiff, Nat.reduceEqDiff, Nat.reduceDiv, Nat.reduceMod, Int.reduceAdd, Int.reduceSub, Int.reduceMul, Int.reduceDiv, Int.reduceMod, Int.reduceLT, Int.reduceLE, Int.reduceEq, Int.reduceToNat, Int.reducePow, Int.reduceNeg, ne_eq, not_false_eq_true, not_true_eq_false, decide_true, decide_false, Bool.not_true, Bool.not_false, forall_const, reduceCtorEq, implies_true, beq_self_eq_true, Int.cast_ofNat_Int, reduceIte, if_true, if_false, Bool.false_eq_true, hf2, bgH]
      obtain ⟨p1, p2, p3⟩ := page 0 hi
      refine CallD.pur (.g (foundN (bw xs 0) 8).f) rfl (fun w1 hm1 => found_C w1 ba oa 64 (bw xs 0) la Ta za p1 p2 ⟨by omega, by omega⟩ (hm1.at (t := 101) (e := ⟨101, ba, false, .z la Ta za⟩) rfl) p3) ?_
      simp (maxSteps := 2000000) only [go_sem, ↓dxc_true, ↓dxc_false, ↓bxc_true, ↓bxc_false, Nat.zero_add, Nat.add_zero, Nat.zero_mul, Nat.reduceBEq, Nat.reduceAdd, Nat.reduceMul, Nat.reduceSub, Nat.reduceLT, Nat.reduceLeDiff, Nat.reduceEqDiff, Nat.reduceDiv, Nat.reduceMod, Int.reduceAdd, Int.reduceSub, Int.reduceMul, Int.reduceDiv, Int.reduceMod, Int.reduceLT, Int.reduceLE, Int.reduceEq, Int.reduceToNat, Int.reducePow, Int.reduceNeg, ne_eq, not_false_eq_true, not_true_eq_false, decide_true, decide_false, Bool.not_true, Bool.not_false, forall_const, reduceCtorEq, implies_true, beq_self_eq_true, Int.cast_ofNat_Int, reduceIte, if_true, if_false, Bool.false_eq_true, hf2, Bk.len, Bk.one, List.append_nil, ovN_full, hdN_full, List.length_cons, List.length_nil]
      refine fun b1 => ⟨fun k => k.elim, fun b2 c hc => ?_⟩
      refine ⟨⟨b2, c, rpt (c - 1) Bk.zero.f, by omega, by omega, by rw [rpt_len _ _ 66 (Bk.len Bk.zero)]; omega⟩, ?_⟩
      have e0 : scanS xs 1 = [foundN (bw xs 0) 8] := rfl
      simp (maxSteps := 2000000) only [go_sem, ↓dxc_true, ↓dxc_false, ↓bxc_true, ↓bxc_false, Nat.zero_add, Nat.add_zero, Nat.zero_mul, Nat.reduceBEq, Nat.reduceAdd, Nat.reduceMul, Nat.reduceSub, Nat.reduceLT, Nat.reduceLeDiff, Nat.reduceEqDiff, Nat.reduceDiv, Nat.reduceMod, Int.reduceAdd, Int.reduceSub, Int.reduceMul, Int.reduceDiv, Int.reduceMod, Int.reduceLT, Int.reduceLE, Int.reduceEq, Int.reduceToNat, Int.reducePow, Int.reduceNeg, ne_eq, not_false_eq_true, not_true_eq_false, decide_true, decide_false, Bool.not_true, Bool.not_false, forall_const, reduceCtorEq, implies_true, beq_self_eq_true, Int.cast_ofNat_Int, reduceIte, if_true, if_false, Bool.false_eq_true, bgH, SubH, subH_refl, e0, rows_one]
      rfl
    | succ i =>
      obtain ⟨gb, gc, gj, g1, g2, g3⟩ := g
      simp (maxSteps := 2000000) only [go_sem, ↓dxc_true, ↓dxc_false, ↓bxc_true, ↓bxc_false, Nat.zero_add, Nat.add_zero, Nat.zero_mul, Nat.reduceBEq, Nat.reduceAdd, Nat.reduceMul, Nat.reduceSub, Nat.reduceLT, Nat.reduceLeDiff, Nat.reduceEqDiff, Nat.reduceDiv, Nat.reduceMod, Int.reduceAdd, Int.reduceSub, Int.reduceMul, Int.reduceDiv, Int.reduceMod, Int.reduceLT, Int.reduceLE, Int.reduceEq, Int.reduceToNat, Int.reducePow, Int.reduceNeg, ne_eq, not_false_eq_true, not_true_eq_false, decide_true, decide_false, Bool.not_true, Bool.not_false, forall_const, reduceCtorEq, implies_true, beq_self_eq_true, Int.cast_ofNat_Int, reduceIte, if_true, if_false, Bool.false_eq_true, psl, hf1, bgH]
      intro E2 hE2
      have hf2 := finR hE2
      refine CodeC.lexb [4] 300 Try.follows_mixed (by kernel_rfl) ?_
      simp (maxSteps := 2000000) only [go_sem, ↓dxc_true, ↓dxc_false, ↓bxc_true, ↓bxc_false, Nat.zero_add, Nat.add_zero, Nat.zero_mul, Nat.reduceBEq, Nat.reduceAdd, Nat.reduceMul, Nat.reduceSub, Nat.reduceLT, Nat.reduceLeDiff, Nat.reduceEqDiff, Nat.reduceDiv, Nat.reduceMod, Int.reduceAdd, Int.reduceSub, Int.reduceMul, Int.reduceDiv, Int.reduceMod, Int.reduceLT, Int.reduceLE, Int.reduceEq, Int.reduceToNat, Int.reducePow, Int.reduceNeg, ne_eq, not_false_eq_true, not_true_eq_false, decide_true, decide_false, Bool.not_true, Bool.not_false, forall_const, reduceCtorEq, implies_true, beq_self_eq_true, Int.cast_ofNat_Int, reduceIte, if_true, if_false, Bool.false_eq_true, hf2, bgH]
      obtain ⟨p1, p2, p3⟩ := page (i + 1) hi
      refine CallD.pur (.g (foundN (bw xs (i + 1)) 8).f) rfl (fun w1 hm1 => found_C w1 ba (oa + 64 * (i + 1)) 64 (bw xs (i + 1)) la Ta za p1 p2 ⟨by omega, by omega⟩ (hm1.at (t := 101) (e := ⟨101, ba, false, .z la Ta za⟩) rfl) p3) ?_
      have l1 : (rows Bk.f (scanS xs (i + 1))).length = (i + 1) * 66 := by rw [rows_length Bk.len, scanS_len]
      have l2 := rows_hdN Bk.len (scanS xs (i + 1)) gj ((i + 1) * 66) (by rw [scanS_len])
      have o1 := allOne_rows Bk.one (scanS xs (i + 1))
      simp (maxSteps := 2000000) only [go_sem, ↓dxc_true, ↓dxc_false, ↓bxc_true, ↓bxc_false, Nat.zero_add, Nat.add_zero, Nat.zero_mul, Nat.reduceBEq, Nat.reduceAdd, Nat.reduceMul, Nat.reduceSub, Nat.reduceLT, Nat.reduceLeDiff, Nat.reduceEqDiff, Nat.reduceDiv, Nat.reduceMod, Int.reduceAdd, Int.reduceSub, Int.reduceMul, Int.reduceDiv, Int.reduceMod, Int.reduceLT, Int.reduceLE, Int.reduceEq, Int.reduceToNat, Int.reducePow, Int.reduceNeg, ne_eq, not_false_eq_true, not_true_eq_false, decide_true, decide_false, Bool.not_true, Bool.not_false, forall_const, reduceCtorEq, implies_true, beq_self_eq_true, Int.cast_ofNat_Int, reduceIte, if_true, if_false, Bool.false_eq_true, hf2, Bk.len, Bk.one, List.append_nil, List.length_append, l1, l2, o1, allOne_append, ovN_full, hdN_full, List.length_cons, List.length_nil, false_implies, true_and, and_true]
      clear l1 l2 o1 page hn
      refine fun b1 => ⟨⟨by omega, by omega, by omega, by omega, by omega⟩, fun b2 c j hc => ?_⟩
      refine ⟨BG.mk (i := i + 1 + 1) b2 c j hc.1 hc.2.1 hc.2.2, ?_⟩
      simp (maxSteps := 2000000) only [go_sem, ↓dxc_true, ↓dxc_false, ↓bxc_true, ↓bxc_false, Nat.zero_add, Nat.add_zero, Nat.zero_mul, Nat.reduceBEq, Nat.reduceAdd, Nat.reduceMul, Nat.reduceSub, Nat.reduceLT, Nat.reduceLeDiff, Nat.reduceEqDiff, Nat.reduceDiv, Nat.reduceMod, Int.reduceAdd, Int.reduceSub, Int.reduceMul, Int.reduceDiv, Int.reduceMod, Int.reduceLT, Int.reduceLE, Int.reduceEq, Int.reduceToNat, Int.reducePow, Int.reduceNeg, ne_eq, not_false_eq_true, not_true_eq_false, decide_true, decide_false, Bool.not_true, Bool.not_false, forall_const, reduceCtorEq, implies_true, beq_self_eq_true, Int.cast_ofNat_Int, reduceIte, if_true, if_false, Bool.false_eq_true, bgH, SubH, subH_refl, scanS_succ xs (i + 1), rows_append, rows_one]
  · intro D g
    obtain ⟨m', rfl⟩ : ∃ m', m = m' + 1 := ⟨m - 1, by omega⟩
    simp (maxSteps := 2000000) only [go_sem, ↓dxc_true, ↓dxc_false, ↓bxc_true, ↓bxc_false, Nat.zero_add, Nat.add_zero, Nat.zero_mul, Nat.reduceBEq, Nat.reduceAdd, Nat.reduceMul, Nat.reduceSub, Nat.reduceLT, Nat.reduceLeDiff, Nat.reduceEqDiff, Nat.reduceDiv, Nat.reduceMod, Int.reduceAdd, Int.reduceSub, Int.reduceMul, Int.reduceDiv, Int.reduceMod, Int.reduceLT, Int.reduceLE, Int.reduceEq, Int.reduceToNat, Int.reducePow, Int.reduceNeg, ne_eq, not_false_eq_true, not_true_eq_false, decide_true, decide_false, Bool.not_true, Bool.not_false, forall_const, reduceCtorEq, implies_true, beq_self_eq_true, Int.cast_ofNat_Int, reduceIte, if_true, if_false, Bool.false_eq_true, finM_ret hE, Try.results17, bgH]
    refine ⟨11, D, rfl, rfl, ?_⟩
    simp (maxSteps := 2000000) only [go_sem, ↓dxc_true, ↓dxc_false, ↓bxc_true, ↓bxc_false, Nat.zero_add, Nat.add_zero, Nat.zero_mul, Nat.reduceBEq, Nat.reduceAdd, Nat.reduceMul, Nat.reduceSub, Nat.reduceLT, Nat.reduceLeDiff, Nat.reduceEqDiff, Nat.reduceDiv, Nat.reduceMod, Int.reduceAdd, Int.reduceSub, Int.reduceMul, Int.reduceDiv, Int.reduceMod, Int.reduceLT, Int.reduceLE, Int.reduceEq, Int.reduceToNat, Int.reducePow, Int.reduceNeg, ne_eq, not_false_eq_true, not_true_eq_false, decide_true, decide_false, Bool.not_true, Bool.not_false, forall_const, reduceCtorEq, implies_true, beq_self_eq_true, Int.cast_ofNat_Int, reduceIte, if_true, if_false, Bool.false_eq_true]
    exact fun w' hm' => ⟨g.b, g.c, g.j, rfl, ⟨g.h1, g.h2, g.h3⟩, by simpa using hm'.wr _ List.mem_cons_self rfl, hm'.at (t := 21) rfl, hm'.below⟩
  · intro D c
    cases c

end Go.Proofs
