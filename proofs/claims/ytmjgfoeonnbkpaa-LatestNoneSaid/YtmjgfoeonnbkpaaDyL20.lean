/- Theirs: blocks of the document's as ours. -/
import Derived.Test.YtmjgfoeonnbkpaaDyL17
set_option linter.unusedSimpArgs false
set_option linter.unusedVariables false
set_option linter.unusedSectionVars false
set_option maxRecDepth 100000
set_option maxHeartbeats 1000000
namespace Go.Proofs
open Go.Dx Go.RowKit

/-- A block whose first pages are laid. -/
def pgN (B : Bk) : Nat → Bk
  | 0 => ⟨B.hd, B.ct, B.ks, List.replicate 8 Pg.zero, B.hk, rfl⟩
  | k + 1 => (pgN B k).setP k (B.ps.getD k Pg.zero)

theorem pgN_all (B : Bk) : pgN B 8 = B := by
  obtain ⟨hd, ct, ks, ps, hk, hp⟩ := B
  match ps, hp with
  | [p0, p1, p2, p3, p4, p5, p6, p7], hp => rfl

theorem Bk.ld1' (b : Bk) : ld1 b.f 1 = .v (.int .u32 b.ct) := rfl
theorem Bk.ldPs (b : Bk) : ldN b.f 10 56 = rows Pg.f b.ps := by
  have h1 := b.hk
  have h2 := b.hp
  rw [ldN_eq]
  show List.take 56 (List.drop 8 (nums .i64 b.ks ++ rows Pg.f b.ps)) = _
  rw [List.drop_append, List.drop_of_length_le (by simp [h1])]
  simp only [nums_length, h1, Nat.sub_self, List.drop_zero, List.nil_append]
  rw [List.take_of_length_le (by rw [rows_length Pg.len, h2]; decide)]

theorem eight (ks : List Int) (h : ks.length = 8) : ∃ a b c d e f g i, ks = [a, b, c, d, e, f, g, i] := by
  match ks, h with
  | [a, b, c, d, e, f, g, i], _ => exact ⟨a, b, c, d, e, f, g, i, rfl⟩

theorem theirsB_N (w : World) : Calls Try.prog 14 #[den (.v (.slice none 0 0))] w fun e w' => e = .returned (.slice none 0 0) ∧ Bel w.heap.size w w' := by
  have hm : Mem w [] [] w := Mem.reads (by simp) (by simp)
  refine calls_of_ex [.v (.slice none 0 0)] _ [] 0 300 Try.func14 rfl hm (by simp [Try.ntmps14]) fun E hE => ?_
  simp (maxSteps := 2000000) only [go_sem, ↓dxc_true, ↓dxc_false, ↓bxc_true, ↓bxc_false, Nat.zero_add, Nat.add_zero, Nat.zero_mul, Nat.reduceBEq, Nat.reduceAdd, Nat.reduceMul, Nat.reduceSub, Nat.reduceLT, Nat.reduceLeDiff, Nat.reduceEqDiff, Nat.reduceDiv, Nat.reduceMod, Int.reduceAdd, Int.reduceSub, Int.reduceMul, Int.reduceDiv, Int.reduceMod, Int.reduceLT, Int.reduceLE, Int.reduceEq, Int.reduceToNat, Int.reducePow, Int.reduceNeg, ne_eq, not_false_eq_true, not_true_eq_false, decide_true, decide_false, Bool.not_true, Bool.not_false, forall_const, reduceCtorEq, implies_true, beq_self_eq_true, Int.cast_ofNat_Int, reduceIte, if_true, if_false, Bool.false_eq_true, Try.ntmps14, fin_ret hE, Try.results14]
  refine CodeC.unroll 1 300 ?_
  simp (maxSteps := 2000000) only [go_sem, ↓dxc_true, ↓dxc_false, ↓bxc_true, ↓bxc_false, Nat.zero_add, Nat.add_zero, Nat.zero_mul, Nat.reduceBEq, Nat.reduceAdd, Nat.reduceMul, Nat.reduceSub, Nat.reduceLT, Nat.reduceLeDiff, Nat.reduceEqDiff, Nat.reduceDiv, Nat.reduceMod, Int.reduceAdd, Int.reduceSub, Int.reduceMul, Int.reduceDiv, Int.reduceMod, Int.reduceLT, Int.reduceLE, Int.reduceEq, Int.reduceToNat, Int.reducePow, Int.reduceNeg, ne_eq, not_false_eq_true, not_true_eq_false, decide_true, decide_false, Bool.not_true, Bool.not_false, forall_const, reduceCtorEq, implies_true, beq_self_eq_true, Int.cast_ofNat_Int, reduceIte, if_true, if_false, Bool.false_eq_true, Try.ntmps14, fin_ret hE, Try.results14]
  exact fun w' hm' => ⟨rfl, hm'.below⟩

theorem theirsB_E (w : World) (ba oa ca : Nat) : Calls Try.prog 14 #[den (.s 101 ba oa 0 ca)] w fun e w' => e = .returned (.slice none 0 0) ∧ Bel w.heap.size w w' := by
  have hm : Mem w [] [] w := Mem.reads (by simp) (by simp)
  refine calls_of_ex [.s 101 ba oa 0 ca] _ [] 0 300 Try.func14 rfl hm (by simp [Try.ntmps14]) fun E hE => ?_
  simp (maxSteps := 2000000) only [go_sem, ↓dxc_true, ↓dxc_false, ↓bxc_true, ↓bxc_false, Nat.zero_add, Nat.add_zero, Nat.zero_mul, Nat.reduceBEq, Nat.reduceAdd, Nat.reduceMul, Nat.reduceSub, Nat.reduceLT, Nat.reduceLeDiff, Nat.reduceEqDiff, Nat.reduceDiv, Nat.reduceMod, Int.reduceAdd, Int.reduceSub, Int.reduceMul, Int.reduceDiv, Int.reduceMod, Int.reduceLT, Int.reduceLE, Int.reduceEq, Int.reduceToNat, Int.reducePow, Int.reduceNeg, ne_eq, not_false_eq_true, not_true_eq_false, decide_true, decide_false, Bool.not_true, Bool.not_false, forall_const, reduceCtorEq, implies_true, beq_self_eq_true, Int.cast_ofNat_Int, reduceIte, if_true, if_false, Bool.false_eq_true, Try.ntmps14, fin_ret hE, Try.results14]
  refine CodeC.unroll 1 300 ?_
  simp (maxSteps := 2000000) only [go_sem, ↓dxc_true, ↓dxc_false, ↓bxc_true, ↓bxc_false, Nat.zero_add, Nat.add_zero, Nat.zero_mul, Nat.reduceBEq, Nat.reduceAdd, Nat.reduceMul, Nat.reduceSub, Nat.reduceLT, Nat.reduceLeDiff, Nat.reduceEqDiff, Nat.reduceDiv, Nat.reduceMod, Int.reduceAdd, Int.reduceSub, Int.reduceMul, Int.reduceDiv, Int.reduceMod, Int.reduceLT, Int.reduceLE, Int.reduceEq, Int.reduceToNat, Int.reducePow, Int.reduceNeg, ne_eq, not_false_eq_true, not_true_eq_false, decide_true, decide_false, Bool.not_true, Bool.not_false, forall_const, reduceCtorEq, implies_true, beq_self_eq_true, Int.cast_ofNat_Int, reduceIte, if_true, if_false, Bool.false_eq_true, Try.ntmps14, fin_ret hE, Try.results14]
  exact fun w' hm' => ⟨rfl, hm'.below⟩

theorem theirsB_C (w : World) (ba oa ca : Nat) (bs : List Bk) (la : List SV) (Ta : Nat) (za : Nat × Nat) (hx : bs ≠ []) (hn : bs.length ≤ 1000)
    (h : w.heap[ba]? = some (denO (.z la Ta za))) (hs : SegR la oa Bk.f 66 bs) :
    Calls Try.prog 14 #[den (.s 101 ba oa bs.length ca)] w fun e w' =>
      ∃ b c j, e = .returned (den (.s 100 b 0 bs.length c)) ∧ (bs.length ≤ c ∧ c ≤ 9223372036854775807 ∧ bs.length * 66 + j.length = c * 66) ∧ w.heap.size ≤ b ∧ w'.heap[b]? = some (denO (.a (rows Bk.f bs ++ j) 55)) ∧ Bel w.heap.size w w' := by
  have hm : Mem w [] [⟨101, ba, false, .z la Ta za⟩] w := Mem.reads (by simpa using h) (by simp)
  refine calls_of_ex [.s 101 ba oa bs.length ca] _ [] 3 300 Try.func14 rfl hm (by simp [Try.ntmps14]) fun E hE => ?_
  have h0 : 0 < bs.length := List.length_pos_iff.2 hx
  simp (maxSteps := 2000000) only [go_sem, ↓dxc_true, ↓dxc_false, ↓bxc_true, ↓bxc_false, Nat.zero_add, Nat.add_zero, Nat.zero_mul, Nat.reduceBEq, Nat.reduceAdd, Nat.reduceMul, Nat.reduceSub, Nat.reduceLT, Nat.reduceLeDiff, Nat.reduceEqDiff, Nat.reduceDiv, Nat.reduceMod, Int.reduceAdd, Int.reduceSub, Int.reduceMul, Int.reduceDiv, Int.reduceMod, Int.reduceLT, Int.reduceLE, Int.reduceEq, Int.reduceToNat, Int.reducePow, Int.reduceNeg, ne_eq, not_false_eq_true, not_true_eq_false, decide_true, decide_false, Bool.not_true, Bool.not_false, forall_const, reduceCtorEq, implies_true, beq_self_eq_true, Int.cast_ofNat_Int, reduceIte, if_true, if_false, Bool.false_eq_true, Try.ntmps14, fin_ret hE, Try.results14]
  refine CodeC.loop1 (γ := { g : Nat × Nat × Nat × List SV // g.1 ≤ bs.length ∧ g.1 ≤ g.2.2.1 ∧ g.2.2.1 ≤ 9223372036854775807 ∧ g.1 * 66 + g.2.2.2.length = g.2.2.1 * 66 })
    (fun g => ⟨39, 3, [(11, .v (.int .i64 (g.1.1 : Int))), (10, .v (.int .i64 (bs.length : Int))), (9, .s 101 ba oa bs.length ca), (3, .s 6 g.1.2.1 0 g.1.1 g.1.2.2.1)],
      [⟨6, g.1.2.1, true, .a (rows Bk.f (bs.take g.1.1) ++ g.1.2.2.2) 55⟩, ⟨101, ba, false, .z la Ta za⟩], []⟩) (fun g => bs.length - g.1.1) bs.length 300 ?_ ?_
  · obtain ⟨B, hB⟩ := ex_at (xs := bs) (i := 0) h0
    obtain ⟨a0, a1, a2, a3, a4, a5, a6, a7, hKs⟩ := eight B.ks B.hk
    have hKn : nums .i64 B.ks = [SV.v (.int .i64 a0), .v (.int .i64 a1), .v (.int .i64 a2), .v (.int .i64 a3), .v (.int .i64 a4), .v (.int .i64 a5), .v (.int .i64 a6), .v (.int .i64 a7)] := by rw [hKs]; rfl
    have hK : ldN B.f 2 8 = [SV.v (.int .i64 a0), .v (.int .i64 a1), .v (.int .i64 a2), .v (.int .i64 a3), .v (.int .i64 a4), .v (.int .i64 a5), .v (.int .i64 a6), .v (.int .i64 a7)] := by rw [Bk.ldKs, hKn]
    have e1 := hs.ldN hB
    have q1 := hs.le hB
    rw [Nat.zero_mul, Nat.add_zero] at e1 q1
    simp (maxSteps := 2000000) only [go_sem, ↓dxc_true, ↓dxc_false, ↓bxc_true, ↓bxc_false, Nat.zero_add, Nat.add_zero, Nat.zero_mul, Nat.reduceBEq, Nat.reduceAdd, Nat.reduceMul, Nat.reduceSub, Nat.reduceLT, Nat.reduceLeDiff, Nat.reduceEqDiff, Nat.reduceDiv, Nat.reduceMod, Int.reduceAdd, Int.reduceSub, Int.reduceMul, Int.reduceDiv, Int.reduceMod, Int.reduceLT, Int.reduceLE, Int.reduceEq, Int.reduceToNat, Int.reducePow, Int.reduceNeg, ne_eq, not_false_eq_true, not_true_eq_false, decide_true, decide_false, Bool.not_true, Bool.not_false, forall_const, reduceCtorEq, implies_true, beq_self_eq_true, Int.cast_ofNat_Int, reduceIte, if_true, if_false, Bool.false_eq_true, Try.ntmps14, fin_ret hE, Try.results14, Int.toNat_natCast, e1, Bk.len, Bk.one, Bk.ld0, Bk.ld1', hK, Bk.ldPs]
    refine ⟨fun u0 => ⟨by omega, by omega, fun b3 b4 => ?_⟩, fun u0 => by omega⟩
    obtain ⟨hk0, hp0⟩ : B.ks.length = 8 ∧ B.ps.length = 8 := ⟨B.hk, B.hp⟩
    refine ex_weaken ⟨39, 5, [(24, .v (.int .i64 0)), (23, .g (rows Pg.f B.ps)), (6, .p 4 b4 0), (11, .v (.int .i64 0)), (10, .v (.int .i64 (bs.length : Int))), (9, .s 101 ba oa bs.length ca), (3, .v (.slice none 0 0))],
      [⟨4, b4, true, .c (pgN B 0).f 55⟩, ⟨101, ba, false, .z la Ta za⟩], []⟩ ⟨rfl, rfl, ⟨rfl, rfl, rfl, rfl, rfl, rfl, rfl, trivial⟩, ?_⟩ ?_
    · have : (pgN B 0).f = SV.v (.int .i64 B.hd) :: .v (.int .u32 B.ct) :: ([SV.v (.int .i64 a0), .v (.int .i64 a1), .v (.int .i64 a2), .v (.int .i64 a3), .v (.int .i64 a4), .v (.int .i64 a5), .v (.int .i64 a6), .v (.int .i64 a7)] ++ rows Pg.f (List.replicate 8 Pg.zero)) := by
        rw [← hKn]; rfl
      rw [this]
      simp (maxSteps := 2000000) only [go_sem, ↓dxc_true, ↓dxc_false, ↓bxc_true, ↓bxc_false, Nat.zero_add, Nat.add_zero, Nat.zero_mul, Nat.reduceBEq, Nat.reduceAdd, Nat.reduceMul, Nat.reduceSub, Nat.reduceLT, Nat.reduceLeDiff, Nat.reduceEqDiff, Nat.reduceDiv, Nat.reduceMod, Int.reduceAdd, Int.reduceSub, Int.reduceMul, Int.reduceDiv, Int.reduceMod, Int.reduceLT, Int.reduceLE, Int.reduceEq, Int.reduceToNat, Int.reducePow, Int.reduceNeg, ne_eq, not_false_eq_true, not_true_eq_false, decide_true, decide_false, Bool.not_true, Bool.not_false, forall_const, reduceCtorEq, implies_true, beq_self_eq_true, Int.cast_ofNat_Int, reduceIte, if_true, if_false, Bool.false_eq_true, SubH]
      rfl
    refine CodeC.loop (γ := { k : Nat // k ≤ 8 }) (fun g => ⟨39, 5, [(24, .v (.int .i64 (g.1 : Int))), (23, .g (rows Pg.f B.ps)), (6, .p 4 b4 0), (11, .v (.int .i64 0)), (10, .v (.int .i64 (bs.length : Int))), (9, .s 101 ba oa bs.length ca), (3, .v (.slice none 0 0))],
      [⟨4, b4, true, .c (pgN B g.1).f 55⟩, ⟨101, ba, false, .z la Ta za⟩], []⟩) (fun g => 8 - g.1) ⟨0, by omega⟩ 300 ⟨rfl, rfl, ⟨rfl, rfl, rfl, rfl, rfl, rfl, rfl, trivial⟩, SubH.refl _⟩ ?_
    rintro ⟨k, hk⟩
    simp only
    simp (maxSteps := 2000000) only [go_sem, ↓dxc_true, ↓dxc_false, ↓bxc_true, ↓bxc_false, Nat.zero_add, Nat.add_zero, Nat.zero_mul, Nat.reduceBEq, Nat.reduceAdd, Nat.reduceMul, Nat.reduceSub, Nat.reduceLT, Nat.reduceLeDiff, Nat.reduceEqDiff, Nat.reduceDiv, Nat.reduceMod, Int.reduceAdd, Int.reduceSub, Int.reduceMul, Int.reduceDiv, Int.reduceMod, Int.reduceLT, Int.reduceLE, Int.reduceEq, Int.reduceToNat, Int.reducePow, Int.reduceNeg, ne_eq, not_false_eq_true, not_true_eq_false, decide_true, decide_false, Bool.not_true, Bool.not_false, forall_const, reduceCtorEq, implies_true, beq_self_eq_true, Int.cast_ofNat_Int, reduceIte, if_true, if_false, Bool.false_eq_true, Try.ntmps14, fin_ret hE, Try.results14]
    refine ⟨fun u1 => ?_, fun u1 => ?_⟩
    · have hk8 : k < 8 := by omega
      have r1 := rows_ldN Pg.len B.ps [] k _ (show B.ps[k]? = some (B.ps.getD k Pg.zero) by simp [hp0, hk8])
      rw [List.append_nil] at r1
      have s1 := (pgN B k).stP k hk8 (B.ps.getD k Pg.zero)
      have hlen : (rows Pg.f B.ps).length = 56 := by rw [rows_length Pg.len, hp0]
      simp (maxSteps := 2000000) only [go_sem, ↓dxc_true, ↓dxc_false, ↓bxc_true, ↓bxc_false, Nat.zero_add, Nat.add_zero, Nat.zero_mul, Nat.reduceBEq, Nat.reduceAdd, Nat.reduceMul, Nat.reduceSub, Nat.reduceLT, Nat.reduceLeDiff, Nat.reduceEqDiff, Nat.reduceDiv, Nat.reduceMod, Int.reduceAdd, Int.reduceSub, Int.reduceMul, Int.reduceDiv, Int.reduceMod, Int.reduceLT, Int.reduceLE, Int.reduceEq, Int.reduceToNat, Int.reducePow, Int.reduceNeg, ne_eq, not_false_eq_true, not_true_eq_false, decide_true, decide_false, Bool.not_true, Bool.not_false, forall_const, reduceCtorEq, implies_true, beq_self_eq_true, Int.cast_ofNat_Int, reduceIte, if_true, if_false, Bool.false_eq_true, Try.ntmps14, fin_ret hE, Try.results14, Int.toNat_natCast, r1, s1, hlen, Pg.len, Pg.one, Bk.len]
      have hpk : pgN B (k + 1) = (pgN B k).setP k (B.ps.getD k Pg.zero) := rfl
      refine ⟨⟨by omega, by omega⟩, by omega, fun b5 => ⟨⟨by omega, by omega⟩, by omega, ⟨by omega, by omega⟩, ⟨k + 1, by omega⟩, ⟨rfl, rfl, ⟨by simp [lk], rfl, rfl, rfl, rfl, rfl, rfl, trivial⟩, ?_⟩, by simp only; omega⟩⟩
      simp only
      rw [hpk]
      simp (maxSteps := 2000000) only [go_sem, ↓dxc_true, ↓dxc_false, ↓bxc_true, ↓bxc_false, Nat.zero_add, Nat.add_zero, Nat.zero_mul, Nat.reduceBEq, Nat.reduceAdd, Nat.reduceMul, Nat.reduceSub, Nat.reduceLT, Nat.reduceLeDiff, Nat.reduceEqDiff, Nat.reduceDiv, Nat.reduceMod, Int.reduceAdd, Int.reduceSub, Int.reduceMul, Int.reduceDiv, Int.reduceMod, Int.reduceLT, Int.reduceLE, Int.reduceEq, Int.reduceToNat, Int.reducePow, Int.reduceNeg, ne_eq, not_false_eq_true, not_true_eq_false, decide_true, decide_false, Bool.not_true, Bool.not_false, forall_const, reduceCtorEq, implies_true, beq_self_eq_true, Int.cast_ofNat_Int, reduceIte, if_true, if_false, Bool.false_eq_true, SubH, subH_refl']
    · have hk8 : k = 8 := by omega
      subst hk8
      rw [pgN_all]
      simp (maxSteps := 2000000) only [go_sem, ↓dxc_true, ↓dxc_false, ↓bxc_true, ↓bxc_false, Nat.zero_add, Nat.add_zero, Nat.zero_mul, Nat.reduceBEq, Nat.reduceAdd, Nat.reduceMul, Nat.reduceSub, Nat.reduceLT, Nat.reduceLeDiff, Nat.reduceEqDiff, Nat.reduceDiv, Nat.reduceMod, Int.reduceAdd, Int.reduceSub, Int.reduceMul, Int.reduceDiv, Int.reduceMod, Int.reduceLT, Int.reduceLE, Int.reduceEq, Int.reduceToNat, Int.reducePow, Int.reduceNeg, ne_eq, not_false_eq_true, not_true_eq_false, decide_true, decide_false, Bool.not_true, Bool.not_false, forall_const, reduceCtorEq, implies_true, beq_self_eq_true, Int.cast_ofNat_Int, reduceIte, if_true, if_false, Bool.false_eq_true, Try.ntmps14, fin_ret hE, Try.results14, Bk.len, Bk.one, ovN_full, hdN_full, List.length_cons, List.length_nil, List.append_nil, false_implies, true_and, and_true]
      refine fun b5 b6 c hc => ?_
      refine ⟨⟨(1, b6, c, rpt (c - 1) Bk.zero.f), by simp only; omega, by simp only; omega, by simp only; omega, by simp only [rpt_len _ _ 66 (Bk.len Bk.zero)]; omega⟩, ⟨rfl, rfl, ⟨rfl, rfl, rfl, rfl, trivial⟩, ?_⟩, by simp only; omega⟩
      simp (maxSteps := 2000000) only [go_sem, ↓dxc_true, ↓dxc_false, ↓bxc_true, ↓bxc_false, Nat.zero_add, Nat.add_zero, Nat.zero_mul, Nat.reduceBEq, Nat.reduceAdd, Nat.reduceMul, Nat.reduceSub, Nat.reduceLT, Nat.reduceLeDiff, Nat.reduceEqDiff, Nat.reduceDiv, Nat.reduceMod, Int.reduceAdd, Int.reduceSub, Int.reduceMul, Int.reduceDiv, Int.reduceMod, Int.reduceLT, Int.reduceLE, Int.reduceEq, Int.reduceToNat, Int.reducePow, Int.reduceNeg, ne_eq, not_false_eq_true, not_true_eq_false, decide_true, decide_false, Bool.not_true, Bool.not_false, forall_const, reduceCtorEq, implies_true, beq_self_eq_true, Int.cast_ofNat_Int, reduceIte, if_true, if_false, Bool.false_eq_true, SubH, take_one hB, rows_one]
      rfl
  · rintro ⟨⟨i, b, c, j⟩, h1, h2, h3, h4⟩
    simp only at h1 h2 h3 h4
    simp (maxSteps := 2000000) only [go_sem, ↓dxc_true, ↓dxc_false, ↓bxc_true, ↓bxc_false, Nat.zero_add, Nat.add_zero, Nat.zero_mul, Nat.reduceBEq, Nat.reduceAdd, Nat.reduceMul, Nat.reduceSub, Nat.reduceLT, Nat.reduceLeDiff, Nat.reduceEqDiff, Nat.reduceDiv, Nat.reduceMod, Int.reduceAdd, Int.reduceSub, Int.reduceMul, Int.reduceDiv, Int.reduceMod, Int.reduceLT, Int.reduceLE, Int.reduceEq, Int.reduceToNat, Int.reducePow, Int.reduceNeg, ne_eq, not_false_eq_true, not_true_eq_false, decide_true, decide_false, Bool.not_true, Bool.not_false, forall_const, reduceCtorEq, implies_true, beq_self_eq_true, Int.cast_ofNat_Int, reduceIte, if_true, if_false, Bool.false_eq_true, Try.ntmps14, fin_ret hE, Try.results14]
    refine ⟨fun u0 => ?_, fun u0 w' hm' => ?_⟩
    rotate_left
    · have hi : i = bs.length := by omega
      subst hi
      have g1 := hm'.at (t := 6) rfl
      have g2 := hm'.wr _ List.mem_cons_self rfl
      rw [List.take_length] at g1
      exact ⟨b, c, j, rfl, ⟨h2, h3, h4⟩, by simpa using g2, g1, hm'.below⟩
    obtain ⟨B, hB⟩ := ex_at (xs := bs) (i := i) (by omega)
    have e1 := hs.ldN hB
    have q1 := hs.le hB
    obtain ⟨a0, a1, a2, a3, a4, a5, a6, a7, hKs⟩ := eight B.ks B.hk
    have hKn : nums .i64 B.ks = [SV.v (.int .i64 a0), .v (.int .i64 a1), .v (.int .i64 a2), .v (.int .i64 a3), .v (.int .i64 a4), .v (.int .i64 a5), .v (.int .i64 a6), .v (.int .i64 a7)] := by rw [hKs]; rfl
    have hK : ldN B.f 2 8 = [SV.v (.int .i64 a0), .v (.int .i64 a1), .v (.int .i64 a2), .v (.int .i64 a3), .v (.int .i64 a4), .v (.int .i64 a5), .v (.int .i64 a6), .v (.int .i64 a7)] := by rw [Bk.ldKs, hKn]
    simp (maxSteps := 2000000) only [go_sem, ↓dxc_true, ↓dxc_false, ↓bxc_true, ↓bxc_false, Nat.zero_add, Nat.add_zero, Nat.zero_mul, Nat.reduceBEq, Nat.reduceAdd, Nat.reduceMul, Nat.reduceSub, Nat.reduceLT, Nat.reduceLeDiff, Nat.reduceEqDiff, Nat.reduceDiv, Nat.reduceMod, Int.reduceAdd, Int.reduceSub, Int.reduceMul, Int.reduceDiv, Int.reduceMod, Int.reduceLT, Int.reduceLE, Int.reduceEq, Int.reduceToNat, Int.reducePow, Int.reduceNeg, ne_eq, not_false_eq_true, not_true_eq_false, decide_true, decide_false, Bool.not_true, Bool.not_false, forall_const, reduceCtorEq, implies_true, beq_self_eq_true, Int.cast_ofNat_Int, reduceIte, if_true, if_false, Bool.false_eq_true, Try.ntmps14, fin_ret hE, Try.results14, Int.toNat_natCast, e1, Bk.len, Bk.one, Bk.ld0, Bk.ld1', hK, Bk.ldPs]
    refine ⟨⟨by omega, by omega⟩, by omega, fun b3 b4 => ?_⟩
    obtain ⟨hk0, hp0⟩ : B.ks.length = 8 ∧ B.ps.length = 8 := ⟨B.hk, B.hp⟩
    refine ex_weaken ⟨39, 5, [(24, .v (.int .i64 0)), (23, .g (rows Pg.f B.ps)), (6, .p 4 b4 0), (11, .v (.int .i64 (i : Int))), (10, .v (.int .i64 (bs.length : Int))), (9, .s 101 ba oa bs.length ca), (3, .s 6 b 0 i c)],
      [⟨4, b4, true, .c (pgN B 0).f 55⟩, ⟨6, b, true, .a (rows Bk.f (bs.take i) ++ j) 55⟩, ⟨101, ba, false, .z la Ta za⟩], []⟩ ⟨rfl, rfl, ⟨rfl, rfl, rfl, rfl, rfl, rfl, rfl, trivial⟩, ?_⟩ ?_
    · have : (pgN B 0).f = SV.v (.int .i64 B.hd) :: .v (.int .u32 B.ct) :: ([SV.v (.int .i64 a0), .v (.int .i64 a1), .v (.int .i64 a2), .v (.int .i64 a3), .v (.int .i64 a4), .v (.int .i64 a5), .v (.int .i64 a6), .v (.int .i64 a7)] ++ rows Pg.f (List.replicate 8 Pg.zero)) := by
        rw [← hKn]; rfl
      rw [this]
      simp (maxSteps := 2000000) only [go_sem, ↓dxc_true, ↓dxc_false, ↓bxc_true, ↓bxc_false, Nat.zero_add, Nat.add_zero, Nat.zero_mul, Nat.reduceBEq, Nat.reduceAdd, Nat.reduceMul, Nat.reduceSub, Nat.reduceLT, Nat.reduceLeDiff, Nat.reduceEqDiff, Nat.reduceDiv, Nat.reduceMod, Int.reduceAdd, Int.reduceSub, Int.reduceMul, Int.reduceDiv, Int.reduceMod, Int.reduceLT, Int.reduceLE, Int.reduceEq, Int.reduceToNat, Int.reducePow, Int.reduceNeg, ne_eq, not_false_eq_true, not_true_eq_false, decide_true, decide_false, Bool.not_true, Bool.not_false, forall_const, reduceCtorEq, implies_true, beq_self_eq_true, Int.cast_ofNat_Int, reduceIte, if_true, if_false, Bool.false_eq_true, SubH]
      rfl
    refine CodeC.loop (γ := { k : Nat // k ≤ 8 }) (fun g => ⟨39, 5, [(24, .v (.int .i64 (g.1 : Int))), (23, .g (rows Pg.f B.ps)), (6, .p 4 b4 0), (11, .v (.int .i64 (i : Int))), (10, .v (.int .i64 (bs.length : Int))), (9, .s 101 ba oa bs.length ca), (3, .s 6 b 0 i c)],
      [⟨4, b4, true, .c (pgN B g.1).f 55⟩, ⟨6, b, true, .a (rows Bk.f (bs.take i) ++ j) 55⟩, ⟨101, ba, false, .z la Ta za⟩], []⟩) (fun g => 8 - g.1) ⟨0, by omega⟩ 300 ⟨rfl, rfl, ⟨rfl, rfl, rfl, rfl, rfl, rfl, rfl, trivial⟩, SubH.refl _⟩ ?_
    rintro ⟨k, hk⟩
    simp only
    simp (maxSteps := 2000000) only [go_sem, ↓dxc_true, ↓dxc_false, ↓bxc_true, ↓bxc_false, Nat.zero_add, Nat.add_zero, Nat.zero_mul, Nat.reduceBEq, Nat.reduceAdd, Nat.reduceMul, Nat.reduceSub, Nat.reduceLT, Nat.reduceLeDiff, Nat.reduceEqDiff, Nat.reduceDiv, Nat.reduceMod, Int.reduceAdd, Int.reduceSub, Int.reduceMul, Int.reduceDiv, Int.reduceMod, Int.reduceLT, Int.reduceLE, Int.reduceEq, Int.reduceToNat, Int.reducePow, Int.reduceNeg, ne_eq, not_false_eq_true, not_true_eq_false, decide_true, decide_false, Bool.not_true, Bool.not_false, forall_const, reduceCtorEq, implies_true, beq_self_eq_true, Int.cast_ofNat_Int, reduceIte, if_true, if_false, Bool.false_eq_true, Try.ntmps14, fin_ret hE, Try.results14]
    refine ⟨fun u1 => ?_, fun u1 => ?_⟩
    · have hk8 : k < 8 := by omega
      have r1 := rows_ldN Pg.len B.ps [] k _ (show B.ps[k]? = some (B.ps.getD k Pg.zero) by simp [hp0, hk8])
      rw [List.append_nil] at r1
      have s1 := (pgN B k).stP k hk8 (B.ps.getD k Pg.zero)
      have hlen : (rows Pg.f B.ps).length = 56 := by rw [rows_length Pg.len, hp0]
      simp (maxSteps := 2000000) only [go_sem, ↓dxc_true, ↓dxc_false, ↓bxc_true, ↓bxc_false, Nat.zero_add, Nat.add_zero, Nat.zero_mul, Nat.reduceBEq, Nat.reduceAdd, Nat.reduceMul, Nat.reduceSub, Nat.reduceLT, Nat.reduceLeDiff, Nat.reduceEqDiff, Nat.reduceDiv, Nat.reduceMod, Int.reduceAdd, Int.reduceSub, Int.reduceMul, Int.reduceDiv, Int.reduceMod, Int.reduceLT, Int.reduceLE, Int.reduceEq, Int.reduceToNat, Int.reducePow, Int.reduceNeg, ne_eq, not_false_eq_true, not_true_eq_false, decide_true, decide_false, Bool.not_true, Bool.not_false, forall_const, reduceCtorEq, implies_true, beq_self_eq_true, Int.cast_ofNat_Int, reduceIte, if_true, if_false, Bool.false_eq_true, Try.ntmps14, fin_ret hE, Try.results14, Int.toNat_natCast, r1, s1, hlen, Pg.len, Pg.one, Bk.len]
      have hpk : pgN B (k + 1) = (pgN B k).setP k (B.ps.getD k Pg.zero) := rfl
      refine ⟨⟨by omega, by omega⟩, by omega, fun b5 => ⟨⟨by omega, by omega⟩, by omega, ⟨by omega, by omega⟩, ⟨k + 1, by omega⟩, ⟨rfl, rfl, ⟨by simp [lk], rfl, rfl, rfl, rfl, rfl, rfl, trivial⟩, ?_⟩, by simp only; omega⟩⟩
      simp only
      rw [hpk]
      simp (maxSteps := 2000000) only [go_sem, ↓dxc_true, ↓dxc_false, ↓bxc_true, ↓bxc_false, Nat.zero_add, Nat.add_zero, Nat.zero_mul, Nat.reduceBEq, Nat.reduceAdd, Nat.reduceMul, Nat.reduceSub, Nat.reduceLT, Nat.reduceLeDiff, Nat.reduceEqDiff, Nat.reduceDiv, Nat.reduceMod, Int.reduceAdd, Int.reduceSub, Int.reduceMul, Int.reduceDiv, Int.reduceMod, Int.reduceLT, Int.reduceLE, Int.reduceEq, Int.reduceToNat, Int.reducePow, Int.reduceNeg, ne_eq, not_false_eq_true, not_true_eq_false, decide_true, decide_false, Bool.not_true, Bool.not_false, forall_const, reduceCtorEq, implies_true, beq_self_eq_true, Int.cast_ofNat_Int, reduceIte, if_true, if_false, Bool.false_eq_true, SubH, subH_refl']
    · have hk8 : k = 8 := by omega
      subst hk8
      rw [pgN_all]
      have l1 : (rows Bk.f (bs.take i)).length = i * 66 := by rw [rows_length Bk.len]; simp; omega
      have l2 := rows_hdN Bk.len (bs.take i) j (i * 66) (by simp; omega)
      have o1 := allOne_rows Bk.one (bs.take i)
      simp (maxSteps := 2000000) only [go_sem, ↓dxc_true, ↓dxc_false, ↓bxc_true, ↓bxc_false, Nat.zero_add, Nat.add_zero, Nat.zero_mul, Nat.reduceBEq, Nat.reduceAdd, Nat.reduceMul, Nat.reduceSub, Nat.reduceLT, Nat.reduceLeDiff, Nat.reduceEqDiff, Nat.reduceDiv, Nat.reduceMod, Int.reduceAdd, Int.reduceSub, Int.reduceMul, Int.reduceDiv, Int.reduceMod, Int.reduceLT, Int.reduceLE, Int.reduceEq, Int.reduceToNat, Int.reducePow, Int.reduceNeg, ne_eq, not_false_eq_true, not_true_eq_false, decide_true, decide_false, Bool.not_true, Bool.not_false, forall_const, reduceCtorEq, implies_true, beq_self_eq_true, Int.cast_ofNat_Int, reduceIte, if_true, if_false, Bool.false_eq_true, Try.ntmps14, fin_ret hE, Try.results14, Bk.len, Bk.one, ovN_full, hdN_full, List.length_cons, List.length_nil, List.append_nil, List.length_append, l1, l2, o1, allOne_append, false_implies, true_and, and_true]
      clear l1 l2 o1
      refine fun b5 => ⟨⟨h4, h2, by omega, by omega, h3⟩, fun b6 c1 j1 hc => ⟨⟨by omega, by omega⟩, ?_⟩⟩
      refine ⟨⟨(i + 1, b6, c1, j1), by simp only; omega, hc.1, hc.2.1, hc.2.2⟩, ⟨rfl, rfl, ⟨by simp [lk], rfl, rfl, rfl, trivial⟩, ?_⟩, by simp only; omega⟩
      simp (maxSteps := 2000000) only [go_sem, ↓dxc_true, ↓dxc_false, ↓bxc_true, ↓bxc_false, Nat.zero_add, Nat.add_zero, Nat.zero_mul, Nat.reduceBEq, Nat.reduceAdd, Nat.reduceMul, Nat.reduceSub, Nat.reduceLT, Nat.reduceLeDiff, Nat.reduceEqDiff, Nat.reduceDiv, Nat.reduceMod, Int.reduceAdd, Int.reduceSub, Int.reduceMul, Int.reduceDiv, Int.reduceMod, Int.reduceLT, Int.reduceLE, Int.reduceEq, Int.reduceToNat, Int.reducePow, Int.reduceNeg, ne_eq, not_false_eq_true, not_true_eq_false, decide_true, decide_false, Bool.not_true, Bool.not_false, forall_const, reduceCtorEq, implies_true, beq_self_eq_true, Int.cast_ofNat_Int, reduceIte, if_true, if_false, Bool.false_eq_true, SubH, take_succ' hB, rows_append, rows_one]

end Go.Proofs
