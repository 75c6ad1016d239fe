/- Of, over the sort's contract. -/
import Derived.Test.YtmjgfoeonnbkpaaDyL14
set_option linter.unusedSimpArgs false
set_option linter.unusedVariables false
set_option linter.unusedSectionVars false
set_option maxRecDepth 100000
set_option maxHeartbeats 1000000
namespace Go.Proofs
open Go.Dx Go.RowKit Go.Sort

/-- None stands ahead of one that comes before it. -/
def SortedP (xs : List Pl) : Prop := ∀ (i j : Nat) (x y : Pl), i < j → xs[i]? = some x → xs[j]? = some y → ¬ ltP y x

/-- What is asked of the sort. -/
def SortC : Prop :=
  (∀ w, Calls Try.prog 33 #[.slice none 0 0, den (.f 23 [])] w fun e w' => e = .returned (.tuple #[]) ∧ Bel w.heap.size w w') ∧
  ∀ w b c xs j, xs ≠ [] → xs.length ≤ 100000 → Mem w [b] [⟨101, b, true, .a (rows Pl.f xs ++ j) 29⟩] w →
    Calls Try.prog 33 #[den (.s 101 b 0 xs.length c), den (.f 23 [])] w fun e w' => ∃ xs', e = .returned (.tuple #[]) ∧ xs'.Perm xs ∧ SortedP xs' ∧ Mem w [b] [⟨101, b, true, .a (rows Pl.f xs' ++ j) 29⟩] w'

theorem sorted_C (hS : SortC) (w : World) (h : Nat) (caps : List SV) (ro : List Ent) (xs : List Pl) (hn : xs.length ≤ 100000) (hit : Iter Try.prog h caps ro xs.length (itm xs)) (he : ent Try.prog h = true) (hm : Mem w [] ro w) (hro : ∀ e ∈ ro, e.w = false) :
    Calls Try.prog 21 #[den (.f h caps), den (.f 23 [])] w fun e w' => ∃ v xs', e = .returned v ∧ xs'.Perm xs ∧ SortedP xs' ∧ OutP xs' w w' v := by
  refine calls_of_ex [.f h caps, .f 23 []] _ [] 3 300 Try.func21 rfl hm (by simp [Try.ntmps21]) fun E hE => ?_
  simp (maxSteps := 2000000) only [go_sem, ↓dxc_true, ↓dxc_false, ↓bxc_true, ↓bxc_false, Nat.zero_add, Nat.add_zero, Nat.zero_mul, Nat.reduceBEq, Nat.reduceAdd, Nat.reduceMul, Nat.reduceSub, Nat.reduceLT, Nat.reduceLeDiff, Nat.reduceEqDiff, Nat.reduceDiv, Nat.reduceMod, Int.reduceAdd, Int.reduceSub, Int.reduceMul, Int.reduceDiv, Int.reduceMod, Int.reduceLT, Int.reduceLE, Int.reduceEq, Int.reduceToNat, Int.reducePow, Int.reduceNeg, ne_eq, not_false_eq_true, not_true_eq_false, decide_true, decide_false, Bool.not_true, Bool.not_false, forall_const, reduceCtorEq, implies_true, beq_self_eq_true, Int.cast_ofNat_Int, reduceIte, if_true, if_false, Bool.false_eq_true, Try.ntmps21, fin_ret hE, Try.results21]
  have hreads : ∀ w1, Mem E.W0 E.mods ro w1 → Mem w1 [] ro w1 := fun w1 hm1 => Mem.reads hm1.get hro
  by_cases hx : xs = []
  · refine CallC.pur (.v (.slice none 0 0)) 300 (fun w1 hm1 => ?_) ?_
    · refine (collect_C w1 h caps ro xs hn hit he (hreads w1 hm1) hro).mono ?_
      rintro e w' ⟨v, rfl, ho⟩
      rw [hx] at ho
      obtain ⟨rfl, hb⟩ := ho.nil
      exact ⟨rfl, hb⟩
    simp (maxSteps := 2000000) only [go_sem, ↓dxc_true, ↓dxc_false, ↓bxc_true, ↓bxc_false, Nat.zero_add, Nat.add_zero, Nat.zero_mul, Nat.reduceBEq, Nat.reduceAdd, Nat.reduceMul, Nat.reduceSub, Nat.reduceLT, Nat.reduceLeDiff, Nat.reduceEqDiff, Nat.reduceDiv, Nat.reduceMod, Int.reduceAdd, Int.reduceSub, Int.reduceMul, Int.reduceDiv, Int.reduceMod, Int.reduceLT, Int.reduceLE, Int.reduceEq, Int.reduceToNat, Int.reducePow, Int.reduceNeg, ne_eq, not_false_eq_true, not_true_eq_false, decide_true, decide_false, Bool.not_true, Bool.not_false, forall_const, reduceCtorEq, implies_true, beq_self_eq_true, Int.cast_ofNat_Int, reduceIte, if_true, if_false, Bool.false_eq_true, Try.ntmps21, fin_ret hE, Try.results21]
    refine CallC.pur (.u []) 300 (fun w1 hm1 => hS.1 w1) ?_
    simp (maxSteps := 2000000) only [go_sem, ↓dxc_true, ↓dxc_false, ↓bxc_true, ↓bxc_false, Nat.zero_add, Nat.add_zero, Nat.zero_mul, Nat.reduceBEq, Nat.reduceAdd, Nat.reduceMul, Nat.reduceSub, Nat.reduceLT, Nat.reduceLeDiff, Nat.reduceEqDiff, Nat.reduceDiv, Nat.reduceMod, Int.reduceAdd, Int.reduceSub, Int.reduceMul, Int.reduceDiv, Int.reduceMod, Int.reduceLT, Int.reduceLE, Int.reduceEq, Int.reduceToNat, Int.reducePow, Int.reduceNeg, ne_eq, not_false_eq_true, not_true_eq_false, decide_true, decide_false, Bool.not_true, Bool.not_false, forall_const, reduceCtorEq, implies_true, beq_self_eq_true, Int.cast_ofNat_Int, reduceIte, if_true, if_false, Bool.false_eq_true, Try.ntmps21, fin_ret hE, Try.results21]
    exact fun w' hm' => ⟨_, [], rfl, by rw [hx], by intro i j x y _ h; simp at h, Or.inl ⟨rfl, rfl, hm'.below⟩⟩
  · refine CallC.new (γ := JP xs.length) (fun c b => .s 3 b 0 xs.length c.1.1) (fun c => .a (rows Pl.f xs ++ c.1.2) 29) 300 (fun w1 hm1 => ?_) ?_
    · refine (collect_C w1 h caps ro xs hn hit he (hreads w1 hm1) hro).mono ?_
      rintro e w' ⟨v, rfl, ho⟩
      obtain ⟨b, c, j, rfl, h1, h2, h3, h4⟩ := ho.cons hx
      exact ⟨⟨(c, j), h1⟩, b, rfl, h2, h3, h4⟩
    refine ⟨by simp (maxSteps := 2000000) only [go_sem, ↓dxc_true, ↓dxc_false, ↓bxc_true, ↓bxc_false, Nat.zero_add, Nat.add_zero, Nat.zero_mul, Nat.reduceBEq, Nat.reduceAdd, Nat.reduceMul, Nat.reduceSub, Nat.reduceLT, Nat.reduceLeDiff, Nat.reduceEqDiff, Nat.reduceDiv, Nat.reduceMod, Int.reduceAdd, Int.reduceSub, Int.reduceMul, Int.reduceDiv, Int.reduceMod, Int.reduceLT, Int.reduceLE, Int.reduceEq, Int.reduceToNat, Int.reducePow, Int.reduceNeg, ne_eq, not_false_eq_true, not_true_eq_false, decide_true, decide_false, Bool.not_true, Bool.not_false, forall_const, reduceCtorEq, implies_true, beq_self_eq_true, Int.cast_ofNat_Int, reduceIte, if_true, if_false, Bool.false_eq_true, Try.ntmps21], ?_⟩
    rintro ⟨⟨c, j⟩, hc⟩ b
    simp only at hc
    simp (maxSteps := 2000000) only [go_sem, ↓dxc_true, ↓dxc_false, ↓bxc_true, ↓bxc_false, Nat.zero_add, Nat.add_zero, Nat.zero_mul, Nat.reduceBEq, Nat.reduceAdd, Nat.reduceMul, Nat.reduceSub, Nat.reduceLT, Nat.reduceLeDiff, Nat.reduceEqDiff, Nat.reduceDiv, Nat.reduceMod, Int.reduceAdd, Int.reduceSub, Int.reduceMul, Int.reduceDiv, Int.reduceMod, Int.reduceLT, Int.reduceLE, Int.reduceEq, Int.reduceToNat, Int.reducePow, Int.reduceNeg, ne_eq, not_false_eq_true, not_true_eq_false, decide_true, decide_false, Bool.not_true, Bool.not_false, forall_const, reduceCtorEq, implies_true, beq_self_eq_true, Int.cast_ofNat_Int, reduceIte, if_true, if_false, Bool.false_eq_true, Try.ntmps21, fin_ret hE, Try.results21]
    refine CallC.mut (γ := { xs' : List Pl // xs'.Perm xs ∧ SortedP xs' }) (fun _ => .u []) (fun g => ⟨3, b, true, .a (rows Pl.f g.1 ++ j) 29⟩ :: ro) (fun _ => True) 300 (fun w1 hm1 => ?_) ?_
    · have hh : Mem w1 [b] [⟨3, b, true, .a (rows Pl.f xs ++ j) 29⟩] w1 := Mem.here (l0 := []) (l := [_]) (r := ro) hm1 (by simp)
      refine (hS.2 w1 b c xs j hx hn (hh.tags rfl)).mono ?_
      rintro e w' ⟨xs', rfl, h1, h2, h3⟩
      exact ⟨⟨xs', h1, h2⟩, rfl, trivial, Mem.updS (l0 := []) (l := [_]) (l' := [⟨3, b, true, .a (rows Pl.f xs' ++ j) 29⟩]) (r := ro) hm1 (h3.tags rfl) rfl (by simp)⟩
    refine ⟨by simp (maxSteps := 2000000) only [go_sem, ↓dxc_true, ↓dxc_false, ↓bxc_true, ↓bxc_false, Nat.zero_add, Nat.add_zero, Nat.zero_mul, Nat.reduceBEq, Nat.reduceAdd, Nat.reduceMul, Nat.reduceSub, Nat.reduceLT, Nat.reduceLeDiff, Nat.reduceEqDiff, Nat.reduceDiv, Nat.reduceMod, Int.reduceAdd, Int.reduceSub, Int.reduceMul, Int.reduceDiv, Int.reduceMod, Int.reduceLT, Int.reduceLE, Int.reduceEq, Int.reduceToNat, Int.reducePow, Int.reduceNeg, ne_eq, not_false_eq_true, not_true_eq_false, decide_true, decide_false, Bool.not_true, Bool.not_false, forall_const, reduceCtorEq, implies_true, beq_self_eq_true, Int.cast_ofNat_Int, reduceIte, if_true, if_false, Bool.false_eq_true, Try.ntmps21], ?_⟩
    rintro ⟨xs', h1, h2⟩ _
    simp (maxSteps := 2000000) only [go_sem, ↓dxc_true, ↓dxc_false, ↓bxc_true, ↓bxc_false, Nat.zero_add, Nat.add_zero, Nat.zero_mul, Nat.reduceBEq, Nat.reduceAdd, Nat.reduceMul, Nat.reduceSub, Nat.reduceLT, Nat.reduceLeDiff, Nat.reduceEqDiff, Nat.reduceDiv, Nat.reduceMod, Int.reduceAdd, Int.reduceSub, Int.reduceMul, Int.reduceDiv, Int.reduceMod, Int.reduceLT, Int.reduceLE, Int.reduceEq, Int.reduceToNat, Int.reducePow, Int.reduceNeg, ne_eq, not_false_eq_true, not_true_eq_false, decide_true, decide_false, Bool.not_true, Bool.not_false, forall_const, reduceCtorEq, implies_true, beq_self_eq_true, Int.cast_ofNat_Int, reduceIte, if_true, if_false, Bool.false_eq_true, Try.ntmps21, fin_ret hE, Try.results21]
    have hl := h1.length_eq
    have hne : xs' ≠ [] := by rintro rfl; exact hx (List.length_eq_zero_iff.1 hl.symm)
    exact fun w' hm' => ⟨_, xs', rfl, h1, h2, Or.inr ⟨hne, b, c, j, by rw [hl]; rfl, by rw [hl]; exact hc, by simpa using hm'.wr _ List.mem_cons_self rfl, hm'.at (t := 3) rfl, hm'.below⟩⟩

theorem compact_N (w : World) : Calls Try.prog 24 #[den (.v (.slice none 0 0)), den (.f 25 [])] w fun e w' => e = .returned (.slice none 0 0) ∧ Bel w.heap.size w w' := by
  have hm : Mem w [] [] w := Mem.reads (by simp) (by simp)
  refine calls_of_ex [.v (.slice none 0 0), .f 25 []] _ [] 3 300 Try.func24 rfl hm (by simp [Try.ntmps24]) fun E hE => ?_
  simp (maxSteps := 2000000) only [go_sem, ↓dxc_true, ↓dxc_false, ↓bxc_true, ↓bxc_false, Nat.zero_add, Nat.add_zero, Nat.zero_mul, Nat.reduceBEq, Nat.reduceAdd, Nat.reduceMul, Nat.reduceSub, Nat.reduceLT, Nat.reduceLeDiff, Nat.reduceEqDiff, Nat.reduceDiv, Nat.reduceMod, Int.reduceAdd, Int.reduceSub, Int.reduceMul, Int.reduceDiv, Int.reduceMod, Int.reduceLT, Int.reduceLE, Int.reduceEq, Int.reduceToNat, Int.reducePow, Int.reduceNeg, ne_eq, not_false_eq_true, not_true_eq_false, decide_true, decide_false, Bool.not_true, Bool.not_false, forall_const, reduceCtorEq, implies_true, beq_self_eq_true, Int.cast_ofNat_Int, reduceIte, if_true, if_false, Bool.false_eq_true, Try.ntmps24, fin_ret hE, Try.results24]
  exact fun w' hm' => ⟨rfl, hm'.below⟩

/-- A row of places that has been laid. -/
def OutW (xs : List Pl) (w w' : World) (v : Value) : Prop :=
  (xs = [] ∧ v = .slice none 0 0 ∧ Bel w.heap.size w w') ∨
  (xs ≠ [] ∧ ∃ b c j, v = den (.s 100 b 0 xs.length c) ∧ (xs.length ≤ c ∧ c ≤ 9223372036854775807) ∧ w.heap.size ≤ b ∧ w'.heap[b]? = some (denO (.a (rows Pl.f xs ++ j) 29)) ∧ Bel w.heap.size w w')

/-- The latest page of each sector, of pages by their order. -/
def ofS (xs : List Pl) : List Pl := ddN xs xs.length

theorem ofS_ne {xs : List Pl} (h : xs ≠ []) : ofS xs ≠ [] := by
  cases xs with
  | nil => exact absurd rfl h
  | cons a l =>
    have : ∀ n, 0 < n → ddN (a :: l) n ≠ [] := by
      intro n
      induction n with
      | zero => intro h; omega
      | succ n ih =>
        intro _
        rw [ddN]
        by_cases hn : n = 0
        · subst hn; simp [ddN]
        · have := ih (by omega)
          intro hh
          rw [List.append_eq_nil_iff] at hh
          exact this hh.1
    exact this _ (by simp)

theorem ddN_len (xs : List Pl) : ∀ n, (ddN xs n).length ≤ n
  | 0 => by simp [ddN]
  | n + 1 => by
    rw [ddN, List.length_append]
    have := ddN_len xs n
    split <;> simp <;> omega

theorem of_C (hS : SortC) (w : World) (v : SV) (ro : List Ent) (bs : List Bk) (h : Arg v ro bs) (hn : (goodS 0 bs).length ≤ 100000) (hm : Mem w [] ro w) :
    Calls Try.prog 13 #[den v] w fun e w' => ∃ v' xs', e = .returned v' ∧ xs'.Perm (goodS 0 bs) ∧ SortedP xs' ∧ OutW (ofS xs') w w' v' := by
  refine calls_of_ex [v] _ [] 3 300 Try.func13 rfl hm (by simp [Try.ntmps13]) fun E hE => ?_
  have k1 := h.kn
  have k2 := h.okc
  have k3 := h.cl
  have k4 := h.allK
  simp (maxSteps := 2000000) only [go_sem, ↓dxc_true, ↓dxc_false, ↓bxc_true, ↓bxc_false, Nat.zero_add, Nat.add_zero, Nat.zero_mul, Nat.reduceBEq, Nat.reduceAdd, Nat.reduceMul, Nat.reduceSub, Nat.reduceLT, Nat.reduceLeDiff, Nat.reduceEqDiff, Nat.reduceDiv, Nat.reduceMod, Int.reduceAdd, Int.reduceSub, Int.reduceMul, Int.reduceDiv, Int.reduceMod, Int.reduceLT, Int.reduceLE, Int.reduceEq, Int.reduceToNat, Int.reducePow, Int.reduceNeg, ne_eq, not_false_eq_true, not_true_eq_false, decide_true, decide_false, Bool.not_true, Bool.not_false, forall_const, reduceCtorEq, implies_true, beq_self_eq_true, Int.cast_ofNat_Int, reduceIte, if_true, if_false, Bool.false_eq_true, Try.ntmps13, fin_ret hE, Try.results13, k1, k2, k3, k4, true_and]
  refine CallC.new (γ := Unit) (fun _ b => .f 34 [.p 3 b 0]) (fun _ => .c [v] 43) 300 (fun w1 hm1 => ?_) ?_
  · refine (all_C w1 v h.sv).mono ?_
    rintro e w' ⟨b, rfl, h1, h2, h3⟩
    exact ⟨(), b, rfl, h1, h2, h3⟩
  refine ⟨by simp (maxSteps := 2000000) only [go_sem, ↓dxc_true, ↓dxc_false, ↓bxc_true, ↓bxc_false, Nat.zero_add, Nat.add_zero, Nat.zero_mul, Nat.reduceBEq, Nat.reduceAdd, Nat.reduceMul, Nat.reduceSub, Nat.reduceLT, Nat.reduceLeDiff, Nat.reduceEqDiff, Nat.reduceDiv, Nat.reduceMod, Int.reduceAdd, Int.reduceSub, Int.reduceMul, Int.reduceDiv, Int.reduceMod, Int.reduceLT, Int.reduceLE, Int.reduceEq, Int.reduceToNat, Int.reducePow, Int.reduceNeg, ne_eq, not_false_eq_true, not_true_eq_false, decide_true, decide_false, Bool.not_true, Bool.not_false, forall_const, reduceCtorEq, implies_true, beq_self_eq_true, Int.cast_ofNat_Int, reduceIte, if_true, if_false, Bool.false_eq_true, Try.ntmps13], ?_⟩
  intro _ b2
  simp (maxSteps := 2000000) only [go_sem, ↓dxc_true, ↓dxc_false, ↓bxc_true, ↓bxc_false, Nat.zero_add, Nat.add_zero, Nat.zero_mul, Nat.reduceBEq, Nat.reduceAdd, Nat.reduceMul, Nat.reduceSub, Nat.reduceLT, Nat.reduceLeDiff, Nat.reduceEqDiff, Nat.reduceDiv, Nat.reduceMod, Int.reduceAdd, Int.reduceSub, Int.reduceMul, Int.reduceDiv, Int.reduceMod, Int.reduceLT, Int.reduceLE, Int.reduceEq, Int.reduceToNat, Int.reducePow, Int.reduceNeg, ne_eq, not_false_eq_true, not_true_eq_false, decide_true, decide_false, Bool.not_true, Bool.not_false, forall_const, reduceCtorEq, implies_true, beq_self_eq_true, Int.cast_ofNat_Int, reduceIte, if_true, if_false, Bool.false_eq_true, Try.ntmps13, fin_ret hE, Try.results13, k1, k2, k3, k4, true_and]
  have hreads : ∀ w1, Mem E.W0 E.mods (⟨3, b2, true, .c [v] 43⟩ :: ro) w1 → Mem w1 [] (⟨102, b2, false, .c [v] 43⟩ :: ro) w1 := fun w1 hm1 => Mem.reads (by
    intro e he
    rcases List.mem_cons.1 he with rfl | he
    · exact hm1.get ⟨3, b2, true, .c [v] 43⟩ List.mem_cons_self
    · exact hm1.get e (List.mem_cons_of_mem _ he)) (by
    intro e he
    rcases List.mem_cons.1 he with rfl | he
    · rfl
    · exact h.ro e he)
  have hro' : ∀ e ∈ (⟨102, b2, false, .c [v] 43⟩ :: ro : List Ent), e.w = false := by
    intro e he
    rcases List.mem_cons.1 he with rfl | he
    · rfl
    · exact h.ro e he
  by_cases hx : goodS 0 bs = []
  · refine CallC.pur (.v (.slice none 0 0)) 300 (fun w1 hm1 => ?_) ?_
    · refine (sorted_C hS w1 34 [.p 102 b2 0] _ (goodS 0 bs) hn (h.iter b2 false) (by kernel_rfl) (hreads w1 hm1) hro').mono ?_
      rintro e w' ⟨v', xs', rfl, h1, h2, ho⟩
      rw [hx] at h1
      rw [List.Perm.eq_nil h1] at ho
      obtain ⟨rfl, hb⟩ := ho.nil
      exact ⟨rfl, hb⟩
    simp (maxSteps := 2000000) only [go_sem, ↓dxc_true, ↓dxc_false, ↓bxc_true, ↓bxc_false, Nat.zero_add, Nat.add_zero, Nat.zero_mul, Nat.reduceBEq, Nat.reduceAdd, Nat.reduceMul, Nat.reduceSub, Nat.reduceLT, Nat.reduceLeDiff, Nat.reduceEqDiff, Nat.reduceDiv, Nat.reduceMod, Int.reduceAdd, Int.reduceSub, Int.reduceMul, Int.reduceDiv, Int.reduceMod, Int.reduceLT, Int.reduceLE, Int.reduceEq, Int.reduceToNat, Int.reducePow, Int.reduceNeg, ne_eq, not_false_eq_true, not_true_eq_false, decide_true, decide_false, Bool.not_true, Bool.not_false, forall_const, reduceCtorEq, implies_true, beq_self_eq_true, Int.cast_ofNat_Int, reduceIte, if_true, if_false, Bool.false_eq_true, Try.ntmps13, fin_ret hE, Try.results13]
    refine CallC.pur (.v (.slice none 0 0)) 300 (fun w1 hm1 => compact_N w1) ?_
    simp (maxSteps := 2000000) only [go_sem, ↓dxc_true, ↓dxc_false, ↓bxc_true, ↓bxc_false, Nat.zero_add, Nat.add_zero, Nat.zero_mul, Nat.reduceBEq, Nat.reduceAdd, Nat.reduceMul, Nat.reduceSub, Nat.reduceLT, Nat.reduceLeDiff, Nat.reduceEqDiff, Nat.reduceDiv, Nat.reduceMod, Int.reduceAdd, Int.reduceSub, Int.reduceMul, Int.reduceDiv, Int.reduceMod, Int.reduceLT, Int.reduceLE, Int.reduceEq, Int.reduceToNat, Int.reducePow, Int.reduceNeg, ne_eq, not_false_eq_true, not_true_eq_false, decide_true, decide_false, Bool.not_true, Bool.not_false, forall_const, reduceCtorEq, implies_true, beq_self_eq_true, Int.cast_ofNat_Int, reduceIte, if_true, if_false, Bool.false_eq_true, Try.ntmps13, fin_ret hE, Try.results13]
    exact fun w' hm' => ⟨_, [], rfl, by rw [hx], by intro i j x y _ h; simp at h, Or.inl ⟨rfl, rfl, hm'.below⟩⟩
  · refine CallC.new (γ := { p : List Pl × Nat × List SV // (p.1.Perm (goodS 0 bs) ∧ SortedP p.1) ∧ p.1.length ≤ p.2.1 ∧ p.2.1 ≤ 9223372036854775807 }) (fun c b => .s 4 b 0 (goodS 0 bs).length c.1.2.1) (fun c => .a (rows Pl.f c.1.1 ++ c.1.2.2) 29) 300 (fun w1 hm1 => ?_) ?_
    · refine (sorted_C hS w1 34 [.p 102 b2 0] _ (goodS 0 bs) hn (h.iter b2 false) (by kernel_rfl) (hreads w1 hm1) hro').mono ?_
      rintro e w' ⟨v', xs', rfl, h1, h2, ho⟩
      have hl := h1.length_eq
      have hne : xs' ≠ [] := by rintro rfl; exact hx (List.length_eq_zero_iff.1 hl.symm)
      obtain ⟨b, c, j, rfl, q1, q2, q3, q4⟩ := ho.cons hne
      exact ⟨⟨(xs', c, j), ⟨h1, h2⟩, q1.1, q1.2.1⟩, b, by rw [← hl]; rfl, q2, q3, q4⟩
    refine ⟨by simp (maxSteps := 2000000) only [go_sem, ↓dxc_true, ↓dxc_false, ↓bxc_true, ↓bxc_false, Nat.zero_add, Nat.add_zero, Nat.zero_mul, Nat.reduceBEq, Nat.reduceAdd, Nat.reduceMul, Nat.reduceSub, Nat.reduceLT, Nat.reduceLeDiff, Nat.reduceEqDiff, Nat.reduceDiv, Nat.reduceMod, Int.reduceAdd, Int.reduceSub, Int.reduceMul, Int.reduceDiv, Int.reduceMod, Int.reduceLT, Int.reduceLE, Int.reduceEq, Int.reduceToNat, Int.reducePow, Int.reduceNeg, ne_eq, not_false_eq_true, not_true_eq_false, decide_true, decide_false, Bool.not_true, Bool.not_false, forall_const, reduceCtorEq, implies_true, beq_self_eq_true, Int.cast_ofNat_Int, reduceIte, if_true, if_false, Bool.false_eq_true, Try.ntmps13], ?_⟩
    rintro ⟨⟨xs', c, j⟩, ⟨h1, h2⟩, h3, h4⟩ b
    simp only at h1 h2 h3 h4
    have hl := h1.length_eq
    rw [← hl]
    have hne : xs' ≠ [] := by rintro rfl; exact hx (List.length_eq_zero_iff.1 hl.symm)
    simp (maxSteps := 2000000) only [go_sem, ↓dxc_true, ↓dxc_false, ↓bxc_true, ↓bxc_false, Nat.zero_add, Nat.add_zero, Nat.zero_mul, Nat.reduceBEq, Nat.reduceAdd, Nat.reduceMul, Nat.reduceSub, Nat.reduceLT, Nat.reduceLeDiff, Nat.reduceEqDiff, Nat.reduceDiv, Nat.reduceMod, Int.reduceAdd, Int.reduceSub, Int.reduceMul, Int.reduceDiv, Int.reduceMod, Int.reduceLT, Int.reduceLE, Int.reduceEq, Int.reduceToNat, Int.reducePow, Int.reduceNeg, ne_eq, not_false_eq_true, not_true_eq_false, decide_true, decide_false, Bool.not_true, Bool.not_false, forall_const, reduceCtorEq, implies_true, beq_self_eq_true, Int.cast_ofNat_Int, reduceIte, if_true, if_false, Bool.false_eq_true, Try.ntmps13, fin_ret hE, Try.results13]
    refine CallC.mut (γ := List SV) (fun _ => .s 4 b 0 (ofS xs').length c) (fun j' => ⟨4, b, true, .a (rows Pl.f (ofS xs') ++ j') 29⟩ :: ⟨3, b2, true, .c [v] 43⟩ :: ro) (fun _ => True) 300 (fun w1 hm1 => ?_) ?_
    · have hh : Mem w1 [b] [⟨4, b, true, .a (rows Pl.f xs' ++ j) 29⟩] w1 := Mem.here (l0 := []) (l := [_]) (r := _ :: ro) hm1 (by simp)
      refine (compact_C w1 b c xs' j (by omega) ⟨h3, h4⟩ (hh.tags rfl)).mono ?_
      rintro e w' ⟨j', rfl, q1⟩
      exact ⟨j', rfl, trivial, Mem.updS (l0 := []) (l := [_]) (l' := [⟨4, b, true, .a (rows Pl.f (ofS xs') ++ j') 29⟩]) (r := _ :: ro) hm1 (q1.tags rfl) rfl (by simp)⟩
    refine ⟨by simp (maxSteps := 2000000) only [go_sem, ↓dxc_true, ↓dxc_false, ↓bxc_true, ↓bxc_false, Nat.zero_add, Nat.add_zero, Nat.zero_mul, Nat.reduceBEq, Nat.reduceAdd, Nat.reduceMul, Nat.reduceSub, Nat.reduceLT, Nat.reduceLeDiff, Nat.reduceEqDiff, Nat.reduceDiv, Nat.reduceMod, Int.reduceAdd, Int.reduceSub, Int.reduceMul, Int.reduceDiv, Int.reduceMod, Int.reduceLT, Int.reduceLE, Int.reduceEq, Int.reduceToNat, Int.reducePow, Int.reduceNeg, ne_eq, not_false_eq_true, not_true_eq_false, decide_true, decide_false, Bool.not_true, Bool.not_false, forall_const, reduceCtorEq, implies_true, beq_self_eq_true, Int.cast_ofNat_Int, reduceIte, if_true, if_false, Bool.false_eq_true, Try.ntmps13], ?_⟩
    intro j' _
    simp (maxSteps := 2000000) only [go_sem, ↓dxc_true, ↓dxc_false, ↓bxc_true, ↓bxc_false, Nat.zero_add, Nat.add_zero, Nat.zero_mul, Nat.reduceBEq, Nat.reduceAdd, Nat.reduceMul, Nat.reduceSub, Nat.reduceLT, Nat.reduceLeDiff, Nat.reduceEqDiff, Nat.reduceDiv, Nat.reduceMod, Int.reduceAdd, Int.reduceSub, Int.reduceMul, Int.reduceDiv, Int.reduceMod, Int.reduceLT, Int.reduceLE, Int.reduceEq, Int.reduceToNat, Int.reducePow, Int.reduceNeg, ne_eq, not_false_eq_true, not_true_eq_false, decide_true, decide_false, Bool.not_true, Bool.not_false, forall_const, reduceCtorEq, implies_true, beq_self_eq_true, Int.cast_ofNat_Int, reduceIte, if_true, if_false, Bool.false_eq_true, Try.ntmps13, fin_ret hE, Try.results13]
    have hdl : (ofS xs').length ≤ xs'.length := ddN_len xs' xs'.length
    exact fun w' hm' => ⟨_, xs', rfl, h1, h2, Or.inr ⟨ofS_ne hne, b, c, j', rfl, ⟨by omega, h4⟩, by simpa using hm'.wr _ List.mem_cons_self rfl, hm'.at (t := 4) rfl, hm'.below⟩⟩

end Go.Proofs
