/- The pages that count, one by one. -/
import Derived.Test.YtmjgfoeonnbkpaaDyL9
set_option linter.unusedSimpArgs false
set_option linter.unusedVariables false
set_option linter.unusedSectionVars false
set_option maxRecDepth 100000
set_option maxHeartbeats 1000000
namespace Go.Proofs
open Go.Dx Go.RowKit

def goodK (i : Nat) (b : Bk) : Nat → List Pl
  | 0 => []
  | k + 1 => goodK i b k ++ (if b.ks.getD k 0 = 1 then [⟨(i : Int), (k : Int), b.ps.getD k Pg.zero⟩] else [])

/-- The pages that count. -/
def goodS : Nat → List Bk → List Pl
  | _, [] => []
  | i, b :: r => goodK i b 8 ++ goodS (i + 1) r

theorem goodS_append (l r : List Bk) : ∀ i, goodS i (l ++ r) = goodS i l ++ goodS (i + l.length) r := by
  induction l with
  | nil => intro i; rfl
  | cons b l ih => intro i; simp only [List.cons_append, goodS, ih, List.append_assoc, List.length_cons]; rw [show i + 1 + l.length = i + (l.length + 1) by omega]

theorem goodS_take {bs : List Bk} {i : Nat} {b : Bk} (h : bs[i]? = some b) : goodS 0 (bs.take (i + 1)) = goodS 0 (bs.take i) ++ goodK i b 8 := by
  have hi := rows_lt h
  rw [take_succ' h, goodS_append]
  congr 1
  simp [goodS, Nat.min_eq_left (Nat.le_of_lt hi)]

theorem goodK_pre (i : Nat) (b : Bk) (k : Nat) : ∀ m, ∃ r, goodK i b (k + m) = goodK i b k ++ r
  | 0 => ⟨[], by simp⟩
  | m + 1 => by
    obtain ⟨r, hr⟩ := goodK_pre i b k m
    exact ⟨r ++ _, by rw [← Nat.add_assoc, goodK, hr, List.append_assoc]⟩

theorem good_item {bs : List Bk} {i k : Nat} {b : Bk} (h : bs[i]? = some b) (hk : k < 8) (hg : b.ks.getD k 0 = 1) :
    (goodS 0 bs)[(goodS 0 (bs.take i)).length + (goodK i b k).length]? = some ⟨(i : Int), (k : Int), b.ps.getD k Pg.zero⟩ := by
  have e1 : goodS 0 bs = goodS 0 (bs.take (i + 1)) ++ goodS (0 + (bs.take (i + 1)).length) (bs.drop (i + 1)) := by rw [← goodS_append, List.take_append_drop]
  obtain ⟨r, hr⟩ := goodK_pre i b (k + 1) (8 - (k + 1))
  rw [show k + 1 + (8 - (k + 1)) = 8 by omega] at hr
  rw [e1, goodS_take h, hr, goodK, if_pos hg]
  simp only [List.append_assoc]
  rw [List.getElem?_append_right (by omega), Nat.add_sub_cancel_left, List.getElem?_append_right (by omega), Nat.sub_self]
  rfl

theorem Bk.ldKs (b : Bk) : ldN b.f 2 8 = nums .i64 b.ks := by
  have h1 := b.hk
  rw [ldN_eq]
  show List.take 8 (nums .i64 b.ks ++ rows Pg.f b.ps) = _
  rw [List.take_left' (by simp [h1])]

theorem Bk.ldP (b : Bk) (k : Nat) (hk : k < 8) : ldN b.f (10 + k * 7) 7 = (b.ps.getD k Pg.zero).f := by
  have h1 := b.hk
  have h2 := b.hp
  have hx : b.ps[k]? = some (b.ps.getD k Pg.zero) := by simp [h2, hk]
  have := rows_ldN Pg.len b.ps [] k _ hx
  rw [← this, List.append_nil, ldN_eq, ldN_eq]
  congr 1
  rw [show 10 + k * 7 = (8 + k * 7) + 2 by omega]
  show List.drop (8 + k * 7) (nums .i64 b.ks ++ rows Pg.f b.ps) = _
  rw [List.drop_append, List.drop_of_length_le (by simp; omega)]
  simp [h1]

theorem all_C (w : World) (v : SV) (hv : v = .v (.slice none 0 0) ∨ ∃ b o n c, v = .s 101 b o n c) : Calls Try.prog 22 #[den v] w fun e w' => ∃ b, e = .returned (den (.f 34 [.p 102 b 0])) ∧ w.heap.size ≤ b ∧ w'.heap[b]? = some (denO (.c [v] 43)) ∧ Bel w.heap.size w w' := by
  have hm : Mem w [] [] w := Mem.reads (by simp) (by simp)
  refine calls_of_ex [v] _ [] 3 300 Try.func22 rfl hm (by simp [Try.ntmps22]) fun E hE => ?_
  rcases hv with rfl | ⟨b, o, n, c, rfl⟩
  · simp (maxSteps := 2000000) only [go_sem, ↓dxc_true, ↓dxc_false, ↓bxc_true, ↓bxc_false, Nat.zero_add, Nat.add_zero, Nat.zero_mul, Nat.reduceBEq, Nat.reduceAdd, Nat.reduceMul, Nat.reduceSub, Nat.reduceLT, Nat.reduceLeDiff, Nat.reduceEqDiff, Nat.reduceDiv, Nat.reduceMod, Int.reduceAdd, Int.reduceSub, Int.reduceMul, Int.reduceDiv, Int.reduceMod, Int.reduceLT, Int.reduceLE, Int.reduceEq, Int.reduceToNat, Int.reducePow, Int.reduceNeg, ne_eq, not_false_eq_true, not_true_eq_false, decide_true, decide_false, Bool.not_true, Bool.not_false, forall_const, reduceCtorEq, implies_true, beq_self_eq_true, Int.cast_ofNat_Int, reduceIte, if_true, if_false, Bool.false_eq_true, Try.ntmps22, fin_ret hE, Try.results22]
    exact fun b w' hm' => ⟨b, rfl, by simpa using hm'.wr _ List.mem_cons_self rfl, hm'.at (t := 3) rfl, hm'.below⟩
  · simp (maxSteps := 2000000) only [go_sem, ↓dxc_true, ↓dxc_false, ↓bxc_true, ↓bxc_false, Nat.zero_add, Nat.add_zero, Nat.zero_mul, Nat.reduceBEq, Nat.reduceAdd, Nat.reduceMul, Nat.reduceSub, Nat.reduceLT, Nat.reduceLeDiff, Nat.reduceEqDiff, Nat.reduceDiv, Nat.reduceMod, Int.reduceAdd, Int.reduceSub, Int.reduceMul, Int.reduceDiv, Int.reduceMod, Int.reduceLT, Int.reduceLE, Int.reduceEq, Int.reduceToNat, Int.reducePow, Int.reduceNeg, ne_eq, not_false_eq_true, not_true_eq_false, decide_true, decide_false, Bool.not_true, Bool.not_false, forall_const, reduceCtorEq, implies_true, beq_self_eq_true, Int.cast_ofNat_Int, reduceIte, if_true, if_false, Bool.false_eq_true, Try.ntmps22, fin_ret hE, Try.results22]
    exact fun b w' hm' => ⟨b, rfl, by simpa using hm'.wr _ List.mem_cons_self rfl, hm'.at (t := 3) rfl, hm'.below⟩

theorem all_N (bb : Nat) (wf : Bool) (x : Nat → List SV) : Iter Try.prog 34 [.p 102 bb 0] [⟨102, bb, wf, .c [.v (.slice none 0 0)] 43⟩] 0 x := by
  intro l W0 mods γ δ J Jx g0 w hy hm
  refine calls_of_ex_at [.v (.func (.yield l) #[] #[]), .p 102 bb 0] _ mods 3 300 Try.func34 rfl hm (by simp [Try.ntmps34]) fun E hE => ?_
  simp (maxSteps := 2000000) only [go_sem, ↓dxc_true, ↓dxc_false, ↓bxc_true, ↓bxc_false, Nat.zero_add, Nat.add_zero, Nat.zero_mul, Nat.reduceBEq, Nat.reduceAdd, Nat.reduceMul, Nat.reduceSub, Nat.reduceLT, Nat.reduceLeDiff, Nat.reduceEqDiff, Nat.reduceDiv, Nat.reduceMod, Int.reduceAdd, Int.reduceSub, Int.reduceMul, Int.reduceDiv, Int.reduceMod, Int.reduceLT, Int.reduceLE, Int.reduceEq, Int.reduceToNat, Int.reducePow, Int.reduceNeg, ne_eq, not_false_eq_true, not_true_eq_false, decide_true, decide_false, Bool.not_true, Bool.not_false, forall_const, reduceCtorEq, implies_true, beq_self_eq_true, Int.cast_ofNat_Int, reduceIte, if_true, if_false, Bool.false_eq_true, Try.ntmps34, fin_ret hE, Try.results34]
  refine CodeC.unroll 1 300 ?_
  simp (maxSteps := 2000000) only [go_sem, ↓dxc_true, ↓dxc_false, ↓bxc_true, ↓bxc_false, Nat.zero_add, Nat.add_zero, Nat.zero_mul, Nat.reduceBEq, Nat.reduceAdd, Nat.reduceMul, Nat.reduceSub, Nat.reduceLT, Nat.reduceLeDiff, Nat.reduceEqDiff, Nat.reduceDiv, Nat.reduceMod, Int.reduceAdd, Int.reduceSub, Int.reduceMul, Int.reduceDiv, Int.reduceMod, Int.reduceLT, Int.reduceLE, Int.reduceEq, Int.reduceToNat, Int.reducePow, Int.reduceNeg, ne_eq, not_false_eq_true, not_true_eq_false, decide_true, decide_false, Bool.not_true, Bool.not_false, forall_const, reduceCtorEq, implies_true, beq_self_eq_true, Int.cast_ofNat_Int, reduceIte, if_true, if_false, Bool.false_eq_true, Try.ntmps34, fin_normal hE, Try.results34]
  exact fun w' hm' => ⟨_, rfl, Or.inl ⟨g0, hm'.sub1⟩⟩

theorem all_I (bb ba oa ca : Nat) (bs : List Bk) (la : List SV) (Ta : Nat) (za : Nat × Nat) (wf : Bool) (hn : bs.length ≤ 1000) (hs : SegR la oa Bk.f 66 bs) :
    Iter Try.prog 34 [.p 102 bb 0] [⟨102, bb, wf, .c [.s 101 ba oa bs.length ca] 43⟩, ⟨101, ba, false, .z la Ta za⟩] (goodS 0 bs).length (fun i => [.g ((goodS 0 bs).getD i Pl.zero).f]) := by
  intro l W0 mods γ δ J Jx g0 w hy hm
  refine calls_of_ex_at [.v (.func (.yield l) #[] #[]), .p 102 bb 0] _ mods 3 300 Try.func34 rfl hm (by simp [Try.ntmps34]) fun E hE => ?_
  simp (maxSteps := 2000000) only [go_sem, ↓dxc_true, ↓dxc_false, ↓bxc_true, ↓bxc_false, Nat.zero_add, Nat.add_zero, Nat.zero_mul, Nat.reduceBEq, Nat.reduceAdd, Nat.reduceMul, Nat.reduceSub, Nat.reduceLT, Nat.reduceLeDiff, Nat.reduceEqDiff, Nat.reduceDiv, Nat.reduceMod, Int.reduceAdd, Int.reduceSub, Int.reduceMul, Int.reduceDiv, Int.reduceMod, Int.reduceLT, Int.reduceLE, Int.reduceEq, Int.reduceToNat, Int.reducePow, Int.reduceNeg, ne_eq, not_false_eq_true, not_true_eq_false, decide_true, decide_false, Bool.not_true, Bool.not_false, forall_const, reduceCtorEq, implies_true, beq_self_eq_true, Int.cast_ofNat_Int, reduceIte, if_true, if_false, Bool.false_eq_true, Try.ntmps34, fin_ret hE, Try.results34]
  refine CodeC.loop (γ := { p : ((i : Nat) × γ i) × Nat // p.1.1 = (goodS 0 (bs.take p.2)).length ∧ p.2 ≤ bs.length }) (fun g => ⟨36, 3, [(9, .v (.int .i64 (g.1.2 : Int))), (8, .v (.int .i64 (bs.length : Int))), (7, .s 101 ba oa bs.length ca), (0, .v (.func (.yield l) #[] #[])), (1, .p 102 bb 0)],
    ⟨102, bb, wf, .c [.s 101 ba oa bs.length ca] 43⟩ :: ⟨101, ba, false, .z la Ta za⟩ :: J g.1.1.1 g.1.1.2, []⟩) (fun g => bs.length - g.1.2)
    ⟨(⟨0, g0⟩, 0), rfl, by simp⟩ 300 ⟨rfl, rfl, ⟨rfl, rfl, rfl, rfl, rfl, trivial⟩, SubH.refl _⟩ ?_
  rintro ⟨⟨⟨idx, g⟩, i⟩, h1, h2⟩
  simp only at h1 h2
  simp (maxSteps := 2000000) only [go_sem, ↓dxc_true, ↓dxc_false, ↓bxc_true, ↓bxc_false, Nat.zero_add, Nat.add_zero, Nat.zero_mul, Nat.reduceBEq, Nat.reduceAdd, Nat.reduceMul, Nat.reduceSub, Nat.reduceLT, Nat.reduceLeDiff, Nat.reduceEqDiff, Nat.reduceDiv, Nat.reduceMod, Int.reduceAdd, Int.reduceSub, Int.reduceMul, Int.reduceDiv, Int.reduceMod, Int.reduceLT, Int.reduceLE, Int.reduceEq, Int.reduceToNat, Int.reducePow, Int.reduceNeg, ne_eq, not_false_eq_true, not_true_eq_false, decide_true, decide_false, Bool.not_true, Bool.not_false, forall_const, reduceCtorEq, implies_true, beq_self_eq_true, Int.cast_ofNat_Int, reduceIte, if_true, if_false, Bool.false_eq_true, Try.ntmps34, fin_ret hE, Try.results34]
  refine ⟨fun k1 => ?_, fun k1 => ?_⟩
  · obtain ⟨x, hx⟩ := ex_at (xs := bs) (i := i) (by omega)
    have e1 := hs.ldN hx
    have q1 := hs.le hx
    simp (maxSteps := 2000000) only [go_sem, ↓dxc_true, ↓dxc_false, ↓bxc_true, ↓bxc_false, Nat.zero_add, Nat.add_zero, Nat.zero_mul, Nat.reduceBEq, Nat.reduceAdd, Nat.reduceMul, Nat.reduceSub, Nat.reduceLT, Nat.reduceLeDiff, Nat.reduceEqDiff, Nat.reduceDiv, Nat.reduceMod, Int.reduceAdd, Int.reduceSub, Int.reduceMul, Int.reduceDiv, Int.reduceMod, Int.reduceLT, Int.reduceLE, Int.reduceEq, Int.reduceToNat, Int.reducePow, Int.reduceNeg, ne_eq, not_false_eq_true, not_true_eq_false, decide_true, decide_false, Bool.not_true, Bool.not_false, forall_const, reduceCtorEq, implies_true, beq_self_eq_true, Int.cast_ofNat_Int, reduceIte, if_true, if_false, Bool.false_eq_true, Try.ntmps34, fin_ret hE, Try.results34, Int.toNat_natCast, e1, Bk.len, Bk.one, Bk.ldKs]
    refine ⟨⟨by omega, by omega⟩, by omega, fun b => ?_⟩
    refine CodeC.loop (γ := { p : ((i : Nat) × γ i) × Nat // p.1.1 = (goodS 0 (bs.take i)).length + (goodK i x p.2).length ∧ p.2 ≤ 8 }) (fun g => ⟨36, 4, [(16, .v (.int .i64 (g.1.2 : Int))), (15, .g (nums .i64 x.ks)), (3, .v (.int .i64 (i : Int))), (4, .p 3 b 0), (9, .v (.int .i64 (i : Int))), (8, .v (.int .i64 (bs.length : Int))), (7, .s 101 ba oa bs.length ca), (0, .v (.func (.yield l) #[] #[])), (1, .p 102 bb 0)],
      ⟨3, b, true, .c x.f 55⟩ :: ⟨102, bb, wf, .c [.s 101 ba oa bs.length ca] 43⟩ :: ⟨101, ba, false, .z la Ta za⟩ :: J g.1.1.1 g.1.1.2, []⟩) (fun g => 8 - g.1.2)
      ⟨(⟨idx, g⟩, 0), by simp only [goodK, List.length_nil, Nat.add_zero]; exact h1, by simp⟩ 300 ⟨rfl, rfl, ⟨rfl, rfl, rfl, rfl, rfl, rfl, rfl, rfl, rfl, trivial⟩, SubH.refl _⟩ ?_
    clear h1 g idx
    rintro ⟨⟨⟨idx, g⟩, k⟩, h1, h3⟩
    simp only at h1 h3
    simp (maxSteps := 2000000) only [go_sem, ↓dxc_true, ↓dxc_false, ↓bxc_true, ↓bxc_false, Nat.zero_add, Nat.add_zero, Nat.zero_mul, Nat.reduceBEq, Nat.reduceAdd, Nat.reduceMul, Nat.reduceSub, Nat.reduceLT, Nat.reduceLeDiff, Nat.reduceEqDiff, Nat.reduceDiv, Nat.reduceMod, Int.reduceAdd, Int.reduceSub, Int.reduceMul, Int.reduceDiv, Int.reduceMod, Int.reduceLT, Int.reduceLE, Int.reduceEq, Int.reduceToNat, Int.reducePow, Int.reduceNeg, ne_eq, not_false_eq_true, not_true_eq_false, decide_true, decide_false, Bool.not_true, Bool.not_false, forall_const, reduceCtorEq, implies_true, beq_self_eq_true, Int.cast_ofNat_Int, reduceIte, if_true, if_false, Bool.false_eq_true, Try.ntmps34, fin_ret hE, Try.results34]
    refine ⟨fun k3 => ?_, fun k3 => ?_⟩
    · have hk : k < 8 := by omega
      have e2 : ld1 (nums .i64 x.ks) k = .v (.int .i64 (x.ks.getD k 0)) := nums_getD (by rw [x.hk]; exact hk)
      have e3 := x.ldP k hk
      have e4 := x.hk
      obtain ⟨pg, hpg⟩ : ∃ pg, pg = x.ps.getD k Pg.zero := ⟨_, rfl⟩
      rw [← hpg] at e3
      by_cases hg : x.ks.getD k 0 = 1
      · have hit := good_item hx hk hg
        rw [← h1, ← hpg] at hit
        have hlt := rows_lt hit
        have e5 : (goodS 0 bs).getD idx Pl.zero = ⟨(i : Int), (k : Int), pg⟩ := by simp [List.getD, hit]
        simp (maxSteps := 2000000) only [go_sem, ↓dxc_true, ↓dxc_false, ↓bxc_true, ↓bxc_false, Nat.zero_add, Nat.add_zero, Nat.zero_mul, Nat.reduceBEq, Nat.reduceAdd, Nat.reduceMul, Nat.reduceSub, Nat.reduceLT, Nat.reduceLeDiff, Nat.reduceEqDiff, Nat.reduceDiv, Nat.reduceMod, Int.reduceAdd, Int.reduceSub, Int.reduceMul, Int.reduceDiv, Int.reduceMod, Int.reduceLT, Int.reduceLE, Int.reduceEq, Int.reduceToNat, Int.reducePow, Int.reduceNeg, ne_eq, not_false_eq_true, not_true_eq_false, decide_true, decide_false, Bool.not_true, Bool.not_false, forall_const, reduceCtorEq, implies_true, beq_self_eq_true, Int.cast_ofNat_Int, reduceIte, if_true, if_false, Bool.false_eq_true, Try.ntmps34, fin_ret hE, Try.results34, Int.toNat_natCast, Nat.mul_one, e2, e3, e4, hg, Bk.len, Pg.f, nums_length, List.length_cons, List.length_nil]
        refine ⟨⟨by omega, by omega⟩, by omega, ⟨by omega, by omega⟩, by omega, ?_⟩
        refine LeafC.yield (γ := γ (idx + 1) ⊕ δ) (f := .tmp 23) (args := [.tmp 30]) l (fun c => c.isLeft) (fun c => match c with
          | .inl g => ⟨3, b, true, .c x.f 55⟩ :: ⟨102, bb, wf, .c [.s 101 ba oa bs.length ca] 43⟩ :: ⟨101, ba, false, .z la Ta za⟩ :: J (idx + 1) g
          | .inr c => ⟨3, b, true, .c x.f 55⟩ :: ⟨102, bb, wf, .c [.s 101 ba oa bs.length ca] 43⟩ :: ⟨101, ba, false, .z la Ta za⟩ :: Jx c) 300 rfl rfl (fun w1 hm1 => ?_) ?_
        · have hE1 : E.W0 = W0 ∧ E.mods = mods := by subst hE; exact ⟨rfl, rfl⟩
          rw [hE1.1, hE1.2] at hm1 ⊢
          have := hy idx hlt g [⟨3, b, true, .c x.f 55⟩, ⟨102, bb, wf, .c [.s 101 ba oa bs.length ca] 43⟩, ⟨101, ba, false, .z la Ta za⟩] w1 hm1
          simp only [e5] at this
          refine this.mono ?_
          rintro e w' (⟨g', rfl, h⟩ | ⟨c, rfl, h⟩)
          · exact ⟨.inl g', rfl, h⟩
          · exact ⟨.inr c, rfl, h⟩
        refine ⟨by simp (maxSteps := 2000000) only [go_sem, ↓dxc_true, ↓dxc_false, ↓bxc_true, ↓bxc_false, Nat.zero_add, Nat.add_zero, Nat.zero_mul, Nat.reduceBEq, Nat.reduceAdd, Nat.reduceMul, Nat.reduceSub, Nat.reduceLT, Nat.reduceLeDiff, Nat.reduceEqDiff, Nat.reduceDiv, Nat.reduceMod, Int.reduceAdd, Int.reduceSub, Int.reduceMul, Int.reduceDiv, Int.reduceMod, Int.reduceLT, Int.reduceLE, Int.reduceEq, Int.reduceToNat, Int.reducePow, Int.reduceNeg, ne_eq, not_false_eq_true, not_true_eq_false, decide_true, decide_false, Bool.not_true, Bool.not_false, forall_const, reduceCtorEq, implies_true, beq_self_eq_true, Int.cast_ofNat_Int, reduceIte, if_true, if_false, Bool.false_eq_true, Try.ntmps34], ?_⟩
        rintro (g' | c)
        · simp (maxSteps := 2000000) only [go_sem, ↓dxc_true, ↓dxc_false, ↓bxc_true, ↓bxc_false, Nat.zero_add, Nat.add_zero, Nat.zero_mul, Nat.reduceBEq, Nat.reduceAdd, Nat.reduceMul, Nat.reduceSub, Nat.reduceLT, Nat.reduceLeDiff, Nat.reduceEqDiff, Nat.reduceDiv, Nat.reduceMod, Int.reduceAdd, Int.reduceSub, Int.reduceMul, Int.reduceDiv, Int.reduceMod, Int.reduceLT, Int.reduceLE, Int.reduceEq, Int.reduceToNat, Int.reducePow, Int.reduceNeg, ne_eq, not_false_eq_true, not_true_eq_false, decide_true, decide_false, Bool.not_true, Bool.not_false, forall_const, reduceCtorEq, implies_true, beq_self_eq_true, Int.cast_ofNat_Int, reduceIte, if_true, if_false, Bool.false_eq_true, Try.ntmps34, fin_ret hE, Try.results34, Sum.isLeft]
          refine ⟨⟨by omega, by omega⟩, ⟨(⟨idx + 1, g'⟩, k + 1), ?_, by simp only; omega⟩, ⟨rfl, rfl, ⟨by simp [lk], rfl, rfl, rfl, rfl, rfl, rfl, rfl, rfl, trivial⟩, SubH.refl _⟩, by simp only; omega⟩
          simp only [goodK, hg, if_true, List.length_append, List.length_cons, List.length_nil]
          omega
        · simp (maxSteps := 2000000) only [go_sem, ↓dxc_true, ↓dxc_false, ↓bxc_true, ↓bxc_false, Nat.zero_add, Nat.add_zero, Nat.zero_mul, Nat.reduceBEq, Nat.reduceAdd, Nat.reduceMul, Nat.reduceSub, Nat.reduceLT, Nat.reduceLeDiff, Nat.reduceEqDiff, Nat.reduceDiv, Nat.reduceMod, Int.reduceAdd, Int.reduceSub, Int.reduceMul, Int.reduceDiv, Int.reduceMod, Int.reduceLT, Int.reduceLE, Int.reduceEq, Int.reduceToNat, Int.reducePow, Int.reduceNeg, ne_eq, not_false_eq_true, not_true_eq_false, decide_true, decide_false, Bool.not_true, Bool.not_false, forall_const, reduceCtorEq, implies_true, beq_self_eq_true, Int.cast_ofNat_Int, reduceIte, if_true, if_false, Bool.false_eq_true, Try.ntmps34, fin_ret hE, Try.results34, Sum.isLeft]
          exact fun w' hm' => ⟨_, rfl, Or.inr ⟨c, hm'.sub1.sub1.sub1⟩⟩
      · simp (maxSteps := 2000000) only [go_sem, ↓dxc_true, ↓dxc_false, ↓bxc_true, ↓bxc_false, Nat.zero_add, Nat.add_zero, Nat.zero_mul, Nat.reduceBEq, Nat.reduceAdd, Nat.reduceMul, Nat.reduceSub, Nat.reduceLT, Nat.reduceLeDiff, Nat.reduceEqDiff, Nat.reduceDiv, Nat.reduceMod, Int.reduceAdd, Int.reduceSub, Int.reduceMul, Int.reduceDiv, Int.reduceMod, Int.reduceLT, Int.reduceLE, Int.reduceEq, Int.reduceToNat, Int.reducePow, Int.reduceNeg, ne_eq, not_false_eq_true, not_true_eq_false, decide_true, decide_false, Bool.not_true, Bool.not_false, forall_const, reduceCtorEq, implies_true, beq_self_eq_true, Int.cast_ofNat_Int, reduceIte, if_true, if_false, Bool.false_eq_true, Try.ntmps34, fin_ret hE, Try.results34, Int.toNat_natCast, Nat.mul_one, e2, e4, hg, nums_length]
        refine ⟨⟨by omega, by omega⟩, by omega, ⟨by omega, by omega⟩, ⟨(⟨idx, g⟩, k + 1), ?_, by simp only; omega⟩, ⟨rfl, rfl, ⟨by simp [lk], rfl, rfl, rfl, rfl, rfl, rfl, rfl, rfl, trivial⟩, SubH.refl _⟩, by simp only; omega⟩
        simp only [goodK, hg, if_false, List.append_nil]
        exact h1
    · have hk : k = 8 := by omega
      subst hk
      simp (maxSteps := 2000000) only [go_sem, ↓dxc_true, ↓dxc_false, ↓bxc_true, ↓bxc_false, Nat.zero_add, Nat.add_zero, Nat.zero_mul, Nat.reduceBEq, Nat.reduceAdd, Nat.reduceMul, Nat.reduceSub, Nat.reduceLT, Nat.reduceLeDiff, Nat.reduceEqDiff, Nat.reduceDiv, Nat.reduceMod, Int.reduceAdd, Int.reduceSub, Int.reduceMul, Int.reduceDiv, Int.reduceMod, Int.reduceLT, Int.reduceLE, Int.reduceEq, Int.reduceToNat, Int.reducePow, Int.reduceNeg, ne_eq, not_false_eq_true, not_true_eq_false, decide_true, decide_false, Bool.not_true, Bool.not_false, forall_const, reduceCtorEq, implies_true, beq_self_eq_true, Int.cast_ofNat_Int, reduceIte, if_true, if_false, Bool.false_eq_true, Try.ntmps34, fin_ret hE, Try.results34]
      refine ⟨⟨by omega, by omega⟩, ⟨(⟨idx, g⟩, i + 1), by rw [goodS_take hx, List.length_append]; exact h1, by simp only; omega⟩, ⟨rfl, rfl, ⟨by simp [lk], rfl, rfl, rfl, rfl, trivial⟩, ?_⟩, by simp only; omega⟩
      exact SubH.refl _
  · have hi : i = bs.length := by omega
    subst hi
    rw [List.take_length] at h1
    subst h1
    simp (maxSteps := 2000000) only [go_sem, ↓dxc_true, ↓dxc_false, ↓bxc_true, ↓bxc_false, Nat.zero_add, Nat.add_zero, Nat.zero_mul, Nat.reduceBEq, Nat.reduceAdd, Nat.reduceMul, Nat.reduceSub, Nat.reduceLT, Nat.reduceLeDiff, Nat.reduceEqDiff, Nat.reduceDiv, Nat.reduceMod, Int.reduceAdd, Int.reduceSub, Int.reduceMul, Int.reduceDiv, Int.reduceMod, Int.reduceLT, Int.reduceLE, Int.reduceEq, Int.reduceToNat, Int.reducePow, Int.reduceNeg, ne_eq, not_false_eq_true, not_true_eq_false, decide_true, decide_false, Bool.not_true, Bool.not_false, forall_const, reduceCtorEq, implies_true, beq_self_eq_true, Int.cast_ofNat_Int, reduceIte, if_true, if_false, Bool.false_eq_true, Try.ntmps34, fin_normal hE, Try.results34]
    exact fun w' hm' => ⟨_, rfl, Or.inl ⟨g, hm'.sub1.sub1⟩⟩

end Go.Proofs
