/- Contracts of a memory's functions: where a word stands, and what it is. -/
import Derived.Test.YtmmjmgnbffameaaDxQ
import Derived.Test.YtmmjmgnbffameaaDyBF
set_option linter.unusedSimpArgs false
set_option linter.unusedVariables false
set_option maxRecDepth 100000
namespace Go.Proofs
open Go.Dx Go.RowKit

/-- Is there a word at a, and the how manieth? -/
def inR (base a : Int) (n : Nat) : Prop := base ≤ a ∧ a % 4 = 0 ∧ (a - base) % 4 = 0 ∧ (a - base) / 4 < n

def u32ok (x : Int) : Prop := 0 ≤ x ∧ x < 4294967296

/-- The block of a memory of words. -/
def ramO (base : Int) (sl : SV) : HObj := .c [.v (.int .u32 base), sl] 29

theorem place_cons (w : World) (br u bw o n c : Nat) (base a : Int) (hb : u32ok base) (ha : u32ok a) (hn : n ≤ 9223372036854775807)
    (hg : w.heap[br]? = some (denO (ramO base (.s u bw o n c)))) :
    Calls Try.prog 28 #[.pointer (some ⟨br, 0, none⟩), .int .u32 a] w fun e w' =>
      ∃ r : Bool × Nat, e = .returned (den (.u [if r.1 then .p u bw (o + r.2) else .v (.pointer none), .v (.bool r.1)])) ∧ (r = (true, ((a - base) / 4).toNat) ∧ inR base a n ∨ r = (false, 0) ∧ ¬ inR base a n) ∧ Below w.heap.size w w' := by
  unfold u32ok at hb ha
  have hm : Mem w [] [⟨0, br, false, ramO base (.s u bw o n c)⟩] w := Mem.reads (by simpa using hg) (by simp)
  refine calls_of_ex [.p 0 br 0, .v (.int .u32 a)] _ [] 2 400 Try.func28 rfl hm (by simp [Try.ntmps28]) fun E hE => ?_
  simp only [go_sem, Nat.zero_add, Nat.add_zero, Nat.zero_mul, Nat.reduceBEq, Nat.reduceAdd, Nat.reduceMul, Nat.reduceSub, Nat.reduceLT, Nat.reduceLeDiff, Nat.reduceEqDiff, Nat.reduceDiv, Nat.reduceMod, Int.reduceAdd, Int.reduceSub, Int.reduceMul, Int.reduceDiv, Int.reduceMod, Int.reduceLT, Int.reduceLE, Int.reduceEq, Int.reduceToNat, Int.reducePow, Int.reduceNeg, ne_eq, not_false_eq_true, not_true_eq_false, decide_true, decide_false, Bool.not_true, Bool.not_false, forall_const, reduceCtorEq, implies_true, beq_self_eq_true, Int.cast_ofNat_Int, reduceIte, if_true, if_false, Bool.false_eq_true, ramO, Try.ntmps28, fin_ret hE, Try.results28]
  have no : ¬ inR base a n → ∀ w', Mem w [] [⟨0, br, false, ramO base (.s u bw o n c)⟩] w' → ∃ r : Bool × Nat, Ending.returned (den (.u [.v (.pointer none), .v (.bool false)])) = .returned (den (.u [if r.1 then .p u bw (o + r.2) else .v (.pointer none), .v (.bool r.1)])) ∧ (r = (true, ((a - base) / 4).toNat) ∧ inR base a n ∨ r = (false, 0) ∧ ¬ inR base a n) ∧ Below w.heap.size w w' :=
    fun h w' hm' => ⟨(false, 0), rfl, Or.inr ⟨rfl, h⟩, hm'.below⟩
  unfold ramO at no
  unfold inR at no ⊢
  refine ⟨fun h1 => no (by omega), fun h1 => ⟨by omega, fun h2 => ⟨by omega, fun h3 => ⟨by omega, by omega, fun h4 => no (by omega), fun h4 => ⟨by omega, by omega, ?_⟩⟩, fun h3 => no (by omega)⟩, fun h2 => no (by omega)⟩⟩
  intro w' hm'
  refine ⟨(true, ((a - base) / 4).toNat), ?_, Or.inl ⟨rfl, by omega⟩, hm'.below⟩
  have : ((a - base) % 4294967296 / 4).toNat = ((a - base) / 4).toNat := by omega
  simp [this]

theorem place_nil (w : World) (br : Nat) (base a : Int) (hb : u32ok base) (ha : u32ok a) (hg : w.heap[br]? = some (denO (ramO base (.v (.slice none 0 0))))) :
    Calls Try.prog 28 #[.pointer (some ⟨br, 0, none⟩), .int .u32 a] w fun e w' => e = .returned (den (.u [.v (.pointer none), .v (.bool false)])) ∧ Below w.heap.size w w' := by
  unfold u32ok at hb ha
  have hm : Mem w [] [⟨0, br, false, ramO base (.v (.slice none 0 0))⟩] w := Mem.reads (by simpa using hg) (by simp)
  refine calls_of_ex [.p 0 br 0, .v (.int .u32 a)] _ [] 2 400 Try.func28 rfl hm (by simp [Try.ntmps28]) fun E hE => ?_
  simp only [go_sem, Nat.zero_add, Nat.add_zero, Nat.zero_mul, Nat.reduceBEq, Nat.reduceAdd, Nat.reduceMul, Nat.reduceSub, Nat.reduceLT, Nat.reduceLeDiff, Nat.reduceEqDiff, Nat.reduceDiv, Nat.reduceMod, Int.reduceAdd, Int.reduceSub, Int.reduceMul, Int.reduceDiv, Int.reduceMod, Int.reduceLT, Int.reduceLE, Int.reduceEq, Int.reduceToNat, Int.reducePow, Int.reduceNeg, ne_eq, not_false_eq_true, not_true_eq_false, decide_true, decide_false, Bool.not_true, Bool.not_false, forall_const, reduceCtorEq, implies_true, beq_self_eq_true, Int.cast_ofNat_Int, reduceIte, if_true, if_false, Bool.false_eq_true, ramO, Try.ntmps28, fin_ret hE, Try.results28]
  repeat' (first | refine And.intro ?_ ?_ | intro)
  all_goals first | omega | exact Mem.below (by assumption)

/-- The words that a memory shows, in a world. -/
def WordsR (w : World) (sl : SV) (xs : List Int) : Prop :=
  (sl = .v (.slice none 0 0) ∧ xs = []) ∨ ∃ u bw o c l T fz, sl = .s u bw o xs.length c ∧ xs.length ≤ 9223372036854775807 ∧ w.heap[bw]? = some (denO (.z l T fz)) ∧ Seg l o .u32 xs

theorem WordsR.kept {w w' : World} {sl : SV} {xs : List Int} (h : WordsR w sl xs) (hb : Below w.heap.size w w') : WordsR w' sl xs := by
  rcases h with h | ⟨u, bw, o, c, l, T, fz, h1, h2, h3, h4⟩
  · exact Or.inl h
  · refine Or.inr ⟨u, bw, o, c, l, T, fz, h1, h2, ?_, h4⟩
    rw [hb.block bw (by
      rcases Nat.lt_or_ge bw w.heap.size with h' | h'
      · exact h'
      · rw [Array.getElem?_eq_none h'] at h3; cases h3)]
    exact h3

/-- The word at a. -/
def wordR (base a : Int) (xs : List Int) : Int := xs.getD ((a - base) / 4).toNat 0

theorem word_C (w : World) (br : Nat) (base a : Int) (sl : SV) (xs : List Int) (hb : u32ok base) (ha : u32ok a)
    (hg : w.heap[br]? = some (denO (ramO base sl))) (hw : WordsR w sl xs) :
    Calls Try.prog 17 #[.pointer (some ⟨br, 0, none⟩), .int .u32 a] w fun e w' =>
      ∃ r : Int × Bool, e = .returned (den (.u [.v (.int .u32 r.1), .v (.bool r.2)])) ∧ (r = (wordR base a xs, true) ∧ inR base a xs.length ∨ r = (0, false) ∧ ¬ inR base a xs.length) ∧ Below w.heap.size w w' := by
  rcases hw with ⟨rfl, rfl⟩ | ⟨u, bw, o, c, l, T, fz, rfl, hn, hgw, hseg⟩
  · have hm : Mem w [] [⟨0, br, false, ramO base (.v (.slice none 0 0))⟩] w := Mem.reads (by simpa using hg) (by simp)
    have hno : ¬ inR base a 0 := by unfold inR; omega
    refine calls_of_ex [.p 0 br 0, .v (.int .u32 a)] _ [] 2 400 Try.func17 rfl hm (by simp [Try.ntmps17]) fun E hE => ?_
    simp only [go_sem, Nat.zero_add, Nat.add_zero, Nat.zero_mul, Nat.reduceBEq, Nat.reduceAdd, Nat.reduceMul, Nat.reduceSub, Nat.reduceLT, Nat.reduceLeDiff, Nat.reduceEqDiff, Nat.reduceDiv, Nat.reduceMod, Int.reduceAdd, Int.reduceSub, Int.reduceMul, Int.reduceDiv, Int.reduceMod, Int.reduceLT, Int.reduceLE, Int.reduceEq, Int.reduceToNat, Int.reducePow, Int.reduceNeg, ne_eq, not_false_eq_true, not_true_eq_false, decide_true, decide_false, Bool.not_true, Bool.not_false, forall_const, reduceCtorEq, implies_true, beq_self_eq_true, Int.cast_ofNat_Int, reduceIte, if_true, if_false, Bool.false_eq_true, ramO, Try.ntmps17, fin_ret hE, Try.results17]
    refine CallC.pur (.u [.v (.pointer none), .v (.bool false)]) 400 (fun w1 hm1 => ?_) ?_
    · subst hE
      exact place_nil w1 br base a hb ha (hm1.at (t := 0) rfl)
    · simp only [go_sem, Nat.zero_add, Nat.add_zero, Nat.zero_mul, Nat.reduceBEq, Nat.reduceAdd, Nat.reduceMul, Nat.reduceSub, Nat.reduceLT, Nat.reduceLeDiff, Nat.reduceEqDiff, Nat.reduceDiv, Nat.reduceMod, Int.reduceAdd, Int.reduceSub, Int.reduceMul, Int.reduceDiv, Int.reduceMod, Int.reduceLT, Int.reduceLE, Int.reduceEq, Int.reduceToNat, Int.reducePow, Int.reduceNeg, ne_eq, not_false_eq_true, not_true_eq_false, decide_true, decide_false, Bool.not_true, Bool.not_false, forall_const, reduceCtorEq, implies_true, beq_self_eq_true, Int.cast_ofNat_Int, reduceIte, if_true, if_false, Bool.false_eq_true, ramO, Try.ntmps17, fin_ret hE, Try.results17]
      intro w' hm'
      exact ⟨(0, false), rfl, Or.inr ⟨rfl, hno⟩, hm'.below⟩
  · have hm : Mem w [] [⟨0, br, false, ramO base (.s 1 bw o xs.length c)⟩, ⟨1, bw, false, .z l T fz⟩] w := Mem.reads (by simpa using ⟨hg, hgw⟩) (by simp)
    refine calls_of_ex [.p 0 br 0, .v (.int .u32 a)] _ [] 2 400 Try.func17 rfl hm (by simp [Try.ntmps17]) fun E hE => ?_
    simp only [go_sem, Nat.zero_add, Nat.add_zero, Nat.zero_mul, Nat.reduceBEq, Nat.reduceAdd, Nat.reduceMul, Nat.reduceSub, Nat.reduceLT, Nat.reduceLeDiff, Nat.reduceEqDiff, Nat.reduceDiv, Nat.reduceMod, Int.reduceAdd, Int.reduceSub, Int.reduceMul, Int.reduceDiv, Int.reduceMod, Int.reduceLT, Int.reduceLE, Int.reduceEq, Int.reduceToNat, Int.reducePow, Int.reduceNeg, ne_eq, not_false_eq_true, not_true_eq_false, decide_true, decide_false, Bool.not_true, Bool.not_false, forall_const, reduceCtorEq, implies_true, beq_self_eq_true, Int.cast_ofNat_Int, reduceIte, if_true, if_false, Bool.false_eq_true, ramO, Try.ntmps17, fin_ret hE, Try.results17]
    refine CallC.val (γ := Bool × Nat) (fun r => .u [if r.1 then .p 1 bw (o + r.2) else .v (.pointer none), .v (.bool r.1)]) (fun r => r = (true, ((a - base) / 4).toNat) ∧ inR base a xs.length ∨ r = (false, 0) ∧ ¬ inR base a xs.length) 400 (fun w1 hm1 => ?_) ?_
    · subst hE
      exact place_cons w1 br 1 bw o xs.length c base a hb ha hn (hm1.at (t := 0) rfl)
    · refine ⟨by simp only [go_sem, Nat.zero_add, Nat.add_zero, Nat.zero_mul, Nat.reduceBEq, Nat.reduceAdd, Nat.reduceMul, Nat.reduceSub, Nat.reduceLT, Nat.reduceLeDiff, Nat.reduceEqDiff, Nat.reduceDiv, Nat.reduceMod, Int.reduceAdd, Int.reduceSub, Int.reduceMul, Int.reduceDiv, Int.reduceMod, Int.reduceLT, Int.reduceLE, Int.reduceEq, Int.reduceToNat, Int.reducePow, Int.reduceNeg, ne_eq, not_false_eq_true, not_true_eq_false, decide_true, decide_false, Bool.not_true, Bool.not_false, forall_const, reduceCtorEq, implies_true, beq_self_eq_true, Int.cast_ofNat_Int, reduceIte, if_true, if_false, Bool.false_eq_true, Try.ntmps17], ?_⟩
      rintro r (⟨rfl, hr⟩ | ⟨rfl, hr⟩)
      · have hlt : ((a - base) / 4).toNat < xs.length := by unfold inR at hr; omega
        simp only [go_sem, Nat.zero_add, Nat.add_zero, Nat.zero_mul, Nat.reduceBEq, Nat.reduceAdd, Nat.reduceMul, Nat.reduceSub, Nat.reduceLT, Nat.reduceLeDiff, Nat.reduceEqDiff, Nat.reduceDiv, Nat.reduceMod, Int.reduceAdd, Int.reduceSub, Int.reduceMul, Int.reduceDiv, Int.reduceMod, Int.reduceLT, Int.reduceLE, Int.reduceEq, Int.reduceToNat, Int.reducePow, Int.reduceNeg, ne_eq, not_false_eq_true, not_true_eq_false, decide_true, decide_false, Bool.not_true, Bool.not_false, forall_const, reduceCtorEq, implies_true, beq_self_eq_true, Int.cast_ofNat_Int, reduceIte, if_true, if_false, Bool.false_eq_true, ramO, Try.ntmps17, fin_ret hE, Try.results17, hseg.ld1 hlt]
        refine ⟨hseg.lt hlt, fun w' hm' => ⟨(wordR base a xs, true), rfl, Or.inl ⟨rfl, hr⟩, hm'.below⟩⟩
      · simp only [go_sem, Nat.zero_add, Nat.add_zero, Nat.zero_mul, Nat.reduceBEq, Nat.reduceAdd, Nat.reduceMul, Nat.reduceSub, Nat.reduceLT, Nat.reduceLeDiff, Nat.reduceEqDiff, Nat.reduceDiv, Nat.reduceMod, Int.reduceAdd, Int.reduceSub, Int.reduceMul, Int.reduceDiv, Int.reduceMod, Int.reduceLT, Int.reduceLE, Int.reduceEq, Int.reduceToNat, Int.reducePow, Int.reduceNeg, ne_eq, not_false_eq_true, not_true_eq_false, decide_true, decide_false, Bool.not_true, Bool.not_false, forall_const, reduceCtorEq, implies_true, beq_self_eq_true, Int.cast_ofNat_Int, reduceIte, if_true, if_false, Bool.false_eq_true, ramO, Try.ntmps17, fin_ret hE, Try.results17]
        exact fun w' hm' => ⟨(0, false), rfl, Or.inr ⟨rfl, hr⟩, hm'.below⟩

end Go.Proofs
