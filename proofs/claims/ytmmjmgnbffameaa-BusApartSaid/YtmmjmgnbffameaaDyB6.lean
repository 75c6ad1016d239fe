/- Contracts of the reference's memory. -/
import Derived.Test.YtmmjmgnbffameaaDyB5
set_option linter.unusedSimpArgs false
set_option linter.unusedVariables false
set_option maxRecDepth 100000
namespace Go.Proofs
open Go.Dx Go.RowKit

/-- Where the reference finds a word; -1: nowhere. -/
def placeR (base a : Int) (n : Nat) (i : Int) : Prop := (inR base a n ∧ i = (a - base) / 4) ∨ (¬ inR base a n ∧ i = -1)

theorem rplace_C (w : World) (base a : Int) (sl : SV) (xs : List Int) (hb : u32ok base) (ha : u32ok a) (hn : xs.length ≤ 1000000) (hw : WordsR w sl xs) :
    Calls Try.prog 30 #[den (.g [.v (.int .u32 base), sl]), .int .u64 a] w fun e w' => ∃ i : Int, e = .returned (den (.v (.int .i64 i))) ∧ placeR base a xs.length i ∧ Below w.heap.size w w' := by
  unfold u32ok at hb ha
  have hm : Mem w [] [] w := Mem.reads (by simp) (by simp)
  rcases hw with ⟨rfl, rfl⟩ | ⟨u, bw, o, c, l, T, fz, rfl, hn2, hgw, hseg⟩
  · refine calls_of_ex [.g [.v (.int .u32 base), .v (.slice none 0 0)], .v (.int .u64 a)] _ [] 1 200 Try.func30 rfl hm (by simp [Try.ntmps30]) fun E hE => ?_
    simp only [go_sem, Nat.zero_add, Nat.add_zero, Nat.zero_mul, Nat.reduceBEq, Nat.reduceAdd, Nat.reduceMul, Nat.reduceSub, Nat.reduceLT, Nat.reduceLeDiff, Nat.reduceEqDiff, Nat.reduceDiv, Nat.reduceMod, Int.reduceAdd, Int.reduceSub, Int.reduceMul, Int.reduceDiv, Int.reduceMod, Int.reduceLT, Int.reduceLE, Int.reduceEq, Int.reduceToNat, Int.reducePow, Int.reduceNeg, ne_eq, not_false_eq_true, not_true_eq_false, decide_true, decide_false, Bool.not_true, Bool.not_false, forall_const, reduceCtorEq, implies_true, beq_self_eq_true, Int.cast_ofNat_Int, reduceIte, if_true, if_false, Bool.false_eq_true, Try.ntmps30, fin_ret hE, Try.results30]
    intro b
    refine CodeC.loop (γ := Unit) (fun g => ⟨43, 2, [(5, .v (.int .i64 0)), (2, .p 1 b 0)], [⟨1, b, true, .c [.v (.int .u32 base), .v (.slice none 0 0)] 25⟩], []⟩) (fun g => 0) () 200 ⟨rfl, rfl, ⟨rfl, rfl, trivial⟩, by simp only [go_sem, Nat.zero_add, Nat.add_zero, Nat.zero_mul, Nat.reduceBEq, Nat.reduceAdd, Nat.reduceMul, Nat.reduceSub, Nat.reduceLT, Nat.reduceLeDiff, Nat.reduceEqDiff, Nat.reduceDiv, Nat.reduceMod, Int.reduceAdd, Int.reduceSub, Int.reduceMul, Int.reduceDiv, Int.reduceMod, Int.reduceLT, Int.reduceLE, Int.reduceEq, Int.reduceToNat, Int.reducePow, Int.reduceNeg, ne_eq, not_false_eq_true, not_true_eq_false, decide_true, decide_false, Bool.not_true, Bool.not_false, forall_const, reduceCtorEq, implies_true, beq_self_eq_true, Int.cast_ofNat_Int, reduceIte, if_true, if_false, Bool.false_eq_true, SubH]⟩ fun g => ?_
    simp only [go_sem, Nat.zero_add, Nat.add_zero, Nat.zero_mul, Nat.reduceBEq, Nat.reduceAdd, Nat.reduceMul, Nat.reduceSub, Nat.reduceLT, Nat.reduceLeDiff, Nat.reduceEqDiff, Nat.reduceDiv, Nat.reduceMod, Int.reduceAdd, Int.reduceSub, Int.reduceMul, Int.reduceDiv, Int.reduceMod, Int.reduceLT, Int.reduceLE, Int.reduceEq, Int.reduceToNat, Int.reducePow, Int.reduceNeg, ne_eq, not_false_eq_true, not_true_eq_false, decide_true, decide_false, Bool.not_true, Bool.not_false, forall_const, reduceCtorEq, implies_true, beq_self_eq_true, Int.cast_ofNat_Int, reduceIte, if_true, if_false, Bool.false_eq_true, Try.ntmps30, fin_ret hE, Try.results30]
    exact fun w' hm' => ⟨-1, rfl, Or.inr ⟨by unfold inR; simp; omega, rfl⟩, Below.mk hm'.os hm'.tape hm'.output hm'.size fun k hk => hm'.frame k hk (by simp)⟩
  · refine calls_of_ex [.g [.v (.int .u32 base), .s u bw o xs.length c], .v (.int .u64 a)] _ [] 1 200 Try.func30 rfl hm (by simp [Try.ntmps30]) fun E hE => ?_
    simp only [go_sem, Nat.zero_add, Nat.add_zero, Nat.zero_mul, Nat.reduceBEq, Nat.reduceAdd, Nat.reduceMul, Nat.reduceSub, Nat.reduceLT, Nat.reduceLeDiff, Nat.reduceEqDiff, Nat.reduceDiv, Nat.reduceMod, Int.reduceAdd, Int.reduceSub, Int.reduceMul, Int.reduceDiv, Int.reduceMod, Int.reduceLT, Int.reduceLE, Int.reduceEq, Int.reduceToNat, Int.reducePow, Int.reduceNeg, ne_eq, not_false_eq_true, not_true_eq_false, decide_true, decide_false, Bool.not_true, Bool.not_false, forall_const, reduceCtorEq, implies_true, beq_self_eq_true, Int.cast_ofNat_Int, reduceIte, if_true, if_false, Bool.false_eq_true, Try.ntmps30, fin_ret hE, Try.results30]
    intro b
    refine CodeC.loop (γ := { i : Nat // i ≤ xs.length ∧ ¬ (inR base a xs.length ∧ (a - base) / 4 < i) }) (fun g => ⟨43, 2, [(5, .v (.int .i64 (g.1 : Int))), (2, .p 1 b 0), (1, .v (.int .u64 a))], [⟨1, b, true, .c [.v (.int .u32 base), .s u bw o xs.length c] 25⟩], []⟩) (fun g => xs.length - g.1) ⟨0, by omega, by unfold inR; omega⟩ 200
      ⟨rfl, rfl, ⟨rfl, rfl, rfl, trivial⟩, by simp only [go_sem, Nat.zero_add, Nat.add_zero, Nat.zero_mul, Nat.reduceBEq, Nat.reduceAdd, Nat.reduceMul, Nat.reduceSub, Nat.reduceLT, Nat.reduceLeDiff, Nat.reduceEqDiff, Nat.reduceDiv, Nat.reduceMod, Int.reduceAdd, Int.reduceSub, Int.reduceMul, Int.reduceDiv, Int.reduceMod, Int.reduceLT, Int.reduceLE, Int.reduceEq, Int.reduceToNat, Int.reducePow, Int.reduceNeg, ne_eq, not_false_eq_true, not_true_eq_false, decide_true, decide_false, Bool.not_true, Bool.not_false, forall_const, reduceCtorEq, implies_true, beq_self_eq_true, Int.cast_ofNat_Int, reduceIte, if_true, if_false, Bool.false_eq_true, SubH]⟩ fun ⟨i, hi, hno⟩ => ?_
    simp only [go_sem, Nat.zero_add, Nat.add_zero, Nat.zero_mul, Nat.reduceBEq, Nat.reduceAdd, Nat.reduceMul, Nat.reduceSub, Nat.reduceLT, Nat.reduceLeDiff, Nat.reduceEqDiff, Nat.reduceDiv, Nat.reduceMod, Int.reduceAdd, Int.reduceSub, Int.reduceMul, Int.reduceDiv, Int.reduceMod, Int.reduceLT, Int.reduceLE, Int.reduceEq, Int.reduceToNat, Int.reducePow, Int.reduceNeg, ne_eq, not_false_eq_true, not_true_eq_false, decide_true, decide_false, Bool.not_true, Bool.not_false, forall_const, reduceCtorEq, implies_true, beq_self_eq_true, Int.cast_ofNat_Int, reduceIte, if_true, if_false, Bool.false_eq_true, Try.ntmps30, fin_ret hE, Try.results30]
    have bel : ∀ w', Mem w [] [⟨1, b, true, .c [.v (.int .u32 base), .s u bw o xs.length c] 25⟩] w' → Below w.heap.size w w' := fun w' hm' => Below.mk hm'.os hm'.tape hm'.output hm'.size fun k hk => hm'.frame k hk (by simp)
    have next : ∀ sl' : List (Nat × SV), lk sl' 5 = .v (.int .i64 ((i : Int) + 1)) → lk sl' 2 = .p 1 b 0 → lk sl' 1 = .v (.int .u64 a) → i < xs.length → ¬ (inR base a xs.length ∧ (a - base) / 4 < (i : Int) + 1) →
        ∃ g' : { i : Nat // i ≤ xs.length ∧ ¬ (inR base a xs.length ∧ (a - base) / 4 < i) }, Dx.Sub ⟨43, 2, [(5, .v (.int .i64 (g'.1 : Int))), (2, .p 1 b 0), (1, .v (.int .u64 a))], [⟨1, b, true, .c [.v (.int .u32 base), .s u bw o xs.length c] 25⟩], []⟩
          ⟨43, 2, sl', [⟨1, b, true, .c [.v (.int .u32 base), .s u bw o xs.length c] 25⟩], []⟩ ∧ xs.length - g'.1 < xs.length - i := fun sl' h1 h2 h3 h4 h5 =>
      ⟨⟨i + 1, by omega, by simpa using h5⟩, ⟨rfl, rfl, ⟨by simpa using h1, h2, h3, trivial⟩, by simp only [go_sem, Nat.zero_add, Nat.add_zero, Nat.zero_mul, Nat.reduceBEq, Nat.reduceAdd, Nat.reduceMul, Nat.reduceSub, Nat.reduceLT, Nat.reduceLeDiff, Nat.reduceEqDiff, Nat.reduceDiv, Nat.reduceMod, Int.reduceAdd, Int.reduceSub, Int.reduceMul, Int.reduceDiv, Int.reduceMod, Int.reduceLT, Int.reduceLE, Int.reduceEq, Int.reduceToNat, Int.reducePow, Int.reduceNeg, ne_eq, not_false_eq_true, not_true_eq_false, decide_true, decide_false, Bool.not_true, Bool.not_false, forall_const, reduceCtorEq, implies_true, beq_self_eq_true, Int.cast_ofNat_Int, reduceIte, if_true, if_false, Bool.false_eq_true, SubH]⟩, by simp only; omega⟩
    refine ⟨fun h1 => ⟨fun h2 => ⟨by omega, fun h3 => ⟨by omega, fun h4 => ⟨by omega, by omega, fun h5 w' hm' => ⟨i, rfl, Or.inl ?_, bel w' hm'⟩, fun h5 => ⟨by omega, next _ rfl rfl rfl (by omega) ?_⟩⟩, fun h4 => ⟨by omega, next _ rfl rfl rfl (by omega) ?_⟩⟩, fun h3 => ⟨by omega, next _ rfl rfl rfl (by omega) ?_⟩⟩, fun h2 => absurd (by omega) h2⟩, fun h1 w' hm' => ⟨-1, rfl, Or.inr ?_, bel w' hm'⟩⟩
    all_goals unfold inR at *; omega

theorem rword_C (w : World) (base a : Int) (sl : SV) (xs : List Int) (hb : u32ok base) (ha : u32ok a) (hn : xs.length ≤ 1000000) (hw : WordsR w sl xs) :
    Calls Try.prog 21 #[den (.g [.v (.int .u32 base), sl]), .int .u32 a] w fun e w' => ∃ r : Int × Bool, e = .returned (den (.u [.v (.int .u32 r.1), .v (.bool r.2)])) ∧ (r = (wordR base a xs, true) ∧ inR base a xs.length ∨ r = (0, false) ∧ ¬ inR base a xs.length) ∧ Below w.heap.size w w' := by
  have hkn : kn sl = true ∧ one sl = true := by rcases hw with ⟨rfl, _⟩ | ⟨u, bw, o, c, l, T, fz, rfl, _⟩ <;> exact ⟨rfl, rfl⟩
  have ha' := ha
  unfold u32ok at ha'
  rcases hw with ⟨rfl, rfl⟩ | ⟨u, bw, o, c, l, T, fz, rfl, hn2, hgw, hseg⟩
  · have hm : Mem w [] [] w := Mem.reads (by simp) (by simp)
    refine calls_of_ex [.g [.v (.int .u32 base), .v (.slice none 0 0)], .v (.int .u32 a)] _ [] 3 200 Try.func21 rfl hm (by simp [Try.ntmps21]) fun E hE => ?_
    simp only [go_sem, Nat.zero_add, Nat.add_zero, Nat.zero_mul, Nat.reduceBEq, Nat.reduceAdd, Nat.reduceMul, Nat.reduceSub, Nat.reduceLT, Nat.reduceLeDiff, Nat.reduceEqDiff, Nat.reduceDiv, Nat.reduceMod, Int.reduceAdd, Int.reduceSub, Int.reduceMul, Int.reduceDiv, Int.reduceMod, Int.reduceLT, Int.reduceLE, Int.reduceEq, Int.reduceToNat, Int.reducePow, Int.reduceNeg, ne_eq, not_false_eq_true, not_true_eq_false, decide_true, decide_false, Bool.not_true, Bool.not_false, forall_const, reduceCtorEq, implies_true, beq_self_eq_true, Int.cast_ofNat_Int, reduceIte, if_true, if_false, Bool.false_eq_true, Try.ntmps21, fin_ret hE, Try.results21]
    intro b
    refine ⟨by omega, ?_⟩
    refine CallC.val (γ := Int) (fun i => .v (.int .i64 i)) (fun i => i = -1) 200 (fun w1 hm1 => ?_) ?_
    · refine (rplace_C w1 base a (.v (.slice none 0 0)) [] hb ha hn (Or.inl ⟨rfl, rfl⟩)).mono ?_
      rintro e w' ⟨i, rfl, ⟨h1, _⟩ | ⟨h1, rfl⟩, h2⟩
      · unfold inR at h1; simp at h1; omega
      · exact ⟨-1, rfl, rfl, h2⟩
    · refine ⟨by simp only [go_sem, Nat.zero_add, Nat.add_zero, Nat.zero_mul, Nat.reduceBEq, Nat.reduceAdd, Nat.reduceMul, Nat.reduceSub, Nat.reduceLT, Nat.reduceLeDiff, Nat.reduceEqDiff, Nat.reduceDiv, Nat.reduceMod, Int.reduceAdd, Int.reduceSub, Int.reduceMul, Int.reduceDiv, Int.reduceMod, Int.reduceLT, Int.reduceLE, Int.reduceEq, Int.reduceToNat, Int.reducePow, Int.reduceNeg, ne_eq, not_false_eq_true, not_true_eq_false, decide_true, decide_false, Bool.not_true, Bool.not_false, forall_const, reduceCtorEq, implies_true, beq_self_eq_true, Int.cast_ofNat_Int, reduceIte, if_true, if_false, Bool.false_eq_true, Try.ntmps21], ?_⟩
      rintro i rfl
      simp only [go_sem, Nat.zero_add, Nat.add_zero, Nat.zero_mul, Nat.reduceBEq, Nat.reduceAdd, Nat.reduceMul, Nat.reduceSub, Nat.reduceLT, Nat.reduceLeDiff, Nat.reduceEqDiff, Nat.reduceDiv, Nat.reduceMod, Int.reduceAdd, Int.reduceSub, Int.reduceMul, Int.reduceDiv, Int.reduceMod, Int.reduceLT, Int.reduceLE, Int.reduceEq, Int.reduceToNat, Int.reducePow, Int.reduceNeg, ne_eq, not_false_eq_true, not_true_eq_false, decide_true, decide_false, Bool.not_true, Bool.not_false, forall_const, reduceCtorEq, implies_true, beq_self_eq_true, Int.cast_ofNat_Int, reduceIte, if_true, if_false, Bool.false_eq_true, Try.ntmps21, fin_ret hE, Try.results21]
      exact fun w' hm' => ⟨(0, false), rfl, Or.inr ⟨rfl, by unfold inR; simp; omega⟩, Below.mk hm'.os hm'.tape hm'.output hm'.size fun k hk => hm'.frame k hk (by simp)⟩
  · have hm : Mem w [] [⟨1, bw, false, .z l T fz⟩] w := Mem.reads (by simpa using hgw) (by simp)
    refine calls_of_ex [.g [.v (.int .u32 base), .s 1 bw o xs.length c], .v (.int .u32 a)] _ [] 3 200 Try.func21 rfl hm (by simp [Try.ntmps21]) fun E hE => ?_
    simp only [go_sem, Nat.zero_add, Nat.add_zero, Nat.zero_mul, Nat.reduceBEq, Nat.reduceAdd, Nat.reduceMul, Nat.reduceSub, Nat.reduceLT, Nat.reduceLeDiff, Nat.reduceEqDiff, Nat.reduceDiv, Nat.reduceMod, Int.reduceAdd, Int.reduceSub, Int.reduceMul, Int.reduceDiv, Int.reduceMod, Int.reduceLT, Int.reduceLE, Int.reduceEq, Int.reduceToNat, Int.reducePow, Int.reduceNeg, ne_eq, not_false_eq_true, not_true_eq_false, decide_true, decide_false, Bool.not_true, Bool.not_false, forall_const, reduceCtorEq, implies_true, beq_self_eq_true, Int.cast_ofNat_Int, reduceIte, if_true, if_false, Bool.false_eq_true, Try.ntmps21, fin_ret hE, Try.results21]
    intro b
    refine ⟨by omega, ?_⟩
    refine CallC.val (γ := Int) (fun i => .v (.int .i64 i)) (fun i => placeR base a xs.length i) 200 (fun w1 hm1 => ?_) ?_
    · exact rplace_C w1 base a (.s 1 bw o xs.length c) xs hb ha hn (Or.inr ⟨1, bw, o, c, l, T, fz, rfl, hn2, hm1.at (t := 1) rfl, hseg⟩)
    · refine ⟨by simp only [go_sem, Nat.zero_add, Nat.add_zero, Nat.zero_mul, Nat.reduceBEq, Nat.reduceAdd, Nat.reduceMul, Nat.reduceSub, Nat.reduceLT, Nat.reduceLeDiff, Nat.reduceEqDiff, Nat.reduceDiv, Nat.reduceMod, Int.reduceAdd, Int.reduceSub, Int.reduceMul, Int.reduceDiv, Int.reduceMod, Int.reduceLT, Int.reduceLE, Int.reduceEq, Int.reduceToNat, Int.reducePow, Int.reduceNeg, ne_eq, not_false_eq_true, not_true_eq_false, decide_true, decide_false, Bool.not_true, Bool.not_false, forall_const, reduceCtorEq, implies_true, beq_self_eq_true, Int.cast_ofNat_Int, reduceIte, if_true, if_false, Bool.false_eq_true, Try.ntmps21], ?_⟩
      rintro i (⟨h1, rfl⟩ | ⟨h1, rfl⟩)
      · have hlt : ((a - base) / 4).toNat < xs.length := by unfold inR at h1; omega
        have h0 : 0 ≤ (a - base) / 4 := by unfold inR at h1; omega
        simp only [go_sem, Nat.zero_add, Nat.add_zero, Nat.zero_mul, Nat.reduceBEq, Nat.reduceAdd, Nat.reduceMul, Nat.reduceSub, Nat.reduceLT, Nat.reduceLeDiff, Nat.reduceEqDiff, Nat.reduceDiv, Nat.reduceMod, Int.reduceAdd, Int.reduceSub, Int.reduceMul, Int.reduceDiv, Int.reduceMod, Int.reduceLT, Int.reduceLE, Int.reduceEq, Int.reduceToNat, Int.reducePow, Int.reduceNeg, ne_eq, not_false_eq_true, not_true_eq_false, decide_true, decide_false, Bool.not_true, Bool.not_false, forall_const, reduceCtorEq, implies_true, beq_self_eq_true, Int.cast_ofNat_Int, reduceIte, if_true, if_false, Bool.false_eq_true, Try.ntmps21, fin_ret hE, Try.results21, Nat.mul_one, hseg.ld1 hlt]
        refine ⟨fun h => absurd h (by omega), fun _ => ⟨by omega, hseg.lt hlt, fun w' hm' => ⟨(wordR base a xs, true), rfl, Or.inl ⟨rfl, h1⟩, Below.mk hm'.os hm'.tape hm'.output hm'.size fun k hk => hm'.frame k hk (by simp)⟩⟩⟩
      · simp only [go_sem, Nat.zero_add, Nat.add_zero, Nat.zero_mul, Nat.reduceBEq, Nat.reduceAdd, Nat.reduceMul, Nat.reduceSub, Nat.reduceLT, Nat.reduceLeDiff, Nat.reduceEqDiff, Nat.reduceDiv, Nat.reduceMod, Int.reduceAdd, Int.reduceSub, Int.reduceMul, Int.reduceDiv, Int.reduceMod, Int.reduceLT, Int.reduceLE, Int.reduceEq, Int.reduceToNat, Int.reducePow, Int.reduceNeg, ne_eq, not_false_eq_true, not_true_eq_false, decide_true, decide_false, Bool.not_true, Bool.not_false, forall_const, reduceCtorEq, implies_true, beq_self_eq_true, Int.cast_ofNat_Int, reduceIte, if_true, if_false, Bool.false_eq_true, Try.ntmps21, fin_ret hE, Try.results21]
        exact fun w' hm' => ⟨(0, false), rfl, Or.inr ⟨rfl, h1⟩, Below.mk hm'.os hm'.tape hm'.output hm'.size fun k hk => hm'.frame k hk (by simp)⟩

theorem bel1 {w w' : World} {hp : List Ent} (hm' : Mem w [] hp w') : Below w.heap.size w w' := Below.mk hm'.os hm'.tape hm'.output hm'.size fun k hk => hm'.frame k hk (by simp)

theorem wrongSz_in {a sz : Int} (h : sz = 1 ∨ sz = 2 ∨ sz = 4) : wrongSz a sz = if a % sz = 0 then 0 else 1 := by
  unfold wrongSz
  rw [if_pos h]

theorem rwrong_C (w : World) (base a sz : Int) (sl : SV) (xs : List Int) (hb : u32ok base) (ha : u32ok a) (hn : xs.length ≤ 1000000) (hw : WordsR w sl xs) :
    Calls Try.prog 20 #[den (.g [.v (.int .u32 base), sl]), .int .u32 a, .int .i64 sz] w fun e w' => ∃ i : Int, e = .returned (den (.v (.int .i64 i))) ∧
      (wrongSz a sz ≠ 0 ∧ i = wrongSz a sz ∨ wrongSz a sz = 0 ∧ inR base (a - a % 4) xs.length ∧ i = 0 ∨ wrongSz a sz = 0 ∧ ¬ inR base (a - a % 4) xs.length ∧ i = 2) ∧ Below w.heap.size w w' := by
  have hkn : kn sl = true ∧ one sl = true := by rcases hw with ⟨rfl, _⟩ | ⟨u, bw, o, c, l, T, fz, rfl, _⟩ <;> exact ⟨rfl, rfl⟩
  have ha' := ha
  unfold u32ok at ha'
  have ha4 : u32ok (a - a % 4) := ⟨by omega, by omega⟩
  have hm : Mem w [] [] w := Mem.reads (by simp) (by simp)
  refine calls_of_ex [.g [.v (.int .u32 base), sl], .v (.int .u32 a), .v (.int .i64 sz)] _ [] 3 200 Try.func20 rfl hm (by simp [Try.ntmps20]) fun E hE => ?_
  have e4 : (a - a % 4) % 4294967296 = a - a % 4 := by omega
  have hsz : sz = 1 ∨ sz = 2 ∨ sz = 4 ∨ ¬ (sz = 1 ∨ sz = 2 ∨ sz = 4) := by omega
  rcases hsz with rfl | rfl | rfl | hbad
  case inr.inr.inr =>
    have h1 : ¬ sz = 1 := by omega
    have h2 : ¬ sz = 2 := by omega
    have h4 : ¬ sz = 4 := by omega
    simp only [go_sem, Nat.zero_add, Nat.add_zero, Nat.zero_mul, Nat.reduceBEq, Nat.reduceAdd, Nat.reduceMul, Nat.reduceSub, Nat.reduceLT, Nat.reduceLeDiff, Nat.reduceEqDiff, Nat.reduceDiv, Nat.reduceMod, Int.reduceAdd, Int.reduceSub, Int.reduceMul, Int.reduceDiv, Int.reduceMod, Int.reduceLT, Int.reduceLE, Int.reduceEq, Int.reduceToNat, Int.reducePow, Int.reduceNeg, ne_eq, not_false_eq_true, not_true_eq_false, decide_true, decide_false, Bool.not_true, Bool.not_false, forall_const, reduceCtorEq, implies_true, beq_self_eq_true, Int.cast_ofNat_Int, reduceIte, if_true, if_false, Bool.false_eq_true, Try.ntmps20, fin_ret hE, Try.results20, h1, h2, h4]
    have hw2 : wrongSz a sz = 2 := by unfold wrongSz; rw [if_neg hbad]
    exact fun b w' hm' => ⟨2, rfl, Or.inl ⟨by omega, hw2.symm⟩, bel1 hm'⟩
  all_goals
    simp only [go_sem, Nat.zero_add, Nat.add_zero, Nat.zero_mul, Nat.reduceBEq, Nat.reduceAdd, Nat.reduceMul, Nat.reduceSub, Nat.reduceLT, Nat.reduceLeDiff, Nat.reduceEqDiff, Nat.reduceDiv, Nat.reduceMod, Int.reduceAdd, Int.reduceSub, Int.reduceMul, Int.reduceDiv, Int.reduceMod, Int.reduceLT, Int.reduceLE, Int.reduceEq, Int.reduceToNat, Int.reducePow, Int.reduceNeg, ne_eq, not_false_eq_true, not_true_eq_false, decide_true, decide_false, Bool.not_true, Bool.not_false, forall_const, reduceCtorEq, implies_true, beq_self_eq_true, Int.cast_ofNat_Int, reduceIte, if_true, if_false, Bool.false_eq_true, Try.ntmps20, fin_ret hE, Try.results20, e4]
    intro b
    refine ⟨by omega, fun h0 => ⟨by omega, ?_⟩, fun h0 w' hm' => ⟨1, rfl, Or.inl (by rw [wrongSz_in (by omega), if_neg h0]; omega), bel1 hm'⟩⟩
    have hz : wrongSz a _ = 0 := (wrongSz_in (by first | exact Or.inl rfl | exact Or.inr (Or.inl rfl) | exact Or.inr (Or.inr rfl))).trans (if_pos h0)
    refine CallC.val (γ := Int × Bool) (fun r => .u [.v (.int .u32 r.1), .v (.bool r.2)]) (fun r => r = (wordR base (a - a % 4) xs, true) ∧ inR base (a - a % 4) xs.length ∨ r = (0, false) ∧ ¬ inR base (a - a % 4) xs.length) 200 (fun w1 hm1 => ?_) ?_
    · subst hE
      exact rword_C w1 base (a - a % 4) sl xs hb ha4 hn (hw.kept (bel1 hm1))
    · refine ⟨by simp only [go_sem, Nat.zero_add, Nat.add_zero, Nat.zero_mul, Nat.reduceBEq, Nat.reduceAdd, Nat.reduceMul, Nat.reduceSub, Nat.reduceLT, Nat.reduceLeDiff, Nat.reduceEqDiff, Nat.reduceDiv, Nat.reduceMod, Int.reduceAdd, Int.reduceSub, Int.reduceMul, Int.reduceDiv, Int.reduceMod, Int.reduceLT, Int.reduceLE, Int.reduceEq, Int.reduceToNat, Int.reducePow, Int.reduceNeg, ne_eq, not_false_eq_true, not_true_eq_false, decide_true, decide_false, Bool.not_true, Bool.not_false, forall_const, reduceCtorEq, implies_true, beq_self_eq_true, Int.cast_ofNat_Int, reduceIte, if_true, if_false, Bool.false_eq_true, Try.ntmps20], ?_⟩
      rintro r (⟨rfl, hr⟩ | ⟨rfl, hr⟩)
      · simp only [go_sem, Nat.zero_add, Nat.add_zero, Nat.zero_mul, Nat.reduceBEq, Nat.reduceAdd, Nat.reduceMul, Nat.reduceSub, Nat.reduceLT, Nat.reduceLeDiff, Nat.reduceEqDiff, Nat.reduceDiv, Nat.reduceMod, Int.reduceAdd, Int.reduceSub, Int.reduceMul, Int.reduceDiv, Int.reduceMod, Int.reduceLT, Int.reduceLE, Int.reduceEq, Int.reduceToNat, Int.reducePow, Int.reduceNeg, ne_eq, not_false_eq_true, not_true_eq_false, decide_true, decide_false, Bool.not_true, Bool.not_false, forall_const, reduceCtorEq, implies_true, beq_self_eq_true, Int.cast_ofNat_Int, reduceIte, if_true, if_false, Bool.false_eq_true, Try.ntmps20, fin_ret hE, Try.results20]
        exact fun w' hm' => ⟨0, rfl, Or.inr (Or.inl ⟨hz, hr, rfl⟩), bel1 hm'⟩
      · simp only [go_sem, Nat.zero_add, Nat.add_zero, Nat.zero_mul, Nat.reduceBEq, Nat.reduceAdd, Nat.reduceMul, Nat.reduceSub, Nat.reduceLT, Nat.reduceLeDiff, Nat.reduceEqDiff, Nat.reduceDiv, Nat.reduceMod, Int.reduceAdd, Int.reduceSub, Int.reduceMul, Int.reduceDiv, Int.reduceMod, Int.reduceLT, Int.reduceLE, Int.reduceEq, Int.reduceToNat, Int.reducePow, Int.reduceNeg, ne_eq, not_false_eq_true, not_true_eq_false, decide_true, decide_false, Bool.not_true, Bool.not_false, forall_const, reduceCtorEq, implies_true, beq_self_eq_true, Int.cast_ofNat_Int, reduceIte, if_true, if_false, Bool.false_eq_true, Try.ntmps20, fin_ret hE, Try.results20]
        exact fun w' hm' => ⟨2, rfl, Or.inr (Or.inr ⟨hz, hr, rfl⟩), bel1 hm'⟩

theorem rload_C (w : World) (base a sz : Int) (sl : SV) (xs : List Int) (hb : u32ok base) (ha : u32ok a) (hxs : u32s xs) (hn : xs.length ≤ 1000000) (hw : WordsR w sl xs) :
    Calls Try.prog 9 #[den (.g [.v (.int .u32 base), sl]), .int .u32 a, .int .i64 sz] w fun e w' => ∃ r : Int × Int, e = .returned (den (.u [.v (.int .u32 r.1), .v (.int .i64 r.2)])) ∧ loadR base a sz xs r ∧ Below w.heap.size w w' := by
  have ha' := ha
  unfold u32ok at ha'
  have ha4 : u32ok (a - a % 4) := ⟨by omega, by omega⟩
  have hm : Mem w [] [] w := Mem.reads (by simp) (by simp)
  refine calls_of_ex [.g [.v (.int .u32 base), sl], .v (.int .u32 a), .v (.int .i64 sz)] _ [] 3 200 Try.func9 rfl hm (by simp [Try.ntmps9]) fun E hE => ?_
  have e4 : (a - a % 4) % 4294967296 = a - a % 4 := by omega
  simp only [go_sem, Nat.zero_add, Nat.add_zero, Nat.zero_mul, Nat.reduceBEq, Nat.reduceAdd, Nat.reduceMul, Nat.reduceSub, Nat.reduceLT, Nat.reduceLeDiff, Nat.reduceEqDiff, Nat.reduceDiv, Nat.reduceMod, Int.reduceAdd, Int.reduceSub, Int.reduceMul, Int.reduceDiv, Int.reduceMod, Int.reduceLT, Int.reduceLE, Int.reduceEq, Int.reduceToNat, Int.reducePow, Int.reduceNeg, ne_eq, not_false_eq_true, not_true_eq_false, decide_true, decide_false, Bool.not_true, Bool.not_false, forall_const, reduceCtorEq, implies_true, beq_self_eq_true, Int.cast_ofNat_Int, reduceIte, if_true, if_false, Bool.false_eq_true, Try.ntmps9, fin_ret hE, Try.results9, e4]
  intro b
  refine CallC.val (γ := Int) (fun i => .v (.int .i64 i)) (fun i => wrongSz a sz ≠ 0 ∧ i = wrongSz a sz ∨ wrongSz a sz = 0 ∧ inR base (a - a % 4) xs.length ∧ i = 0 ∨ wrongSz a sz = 0 ∧ ¬ inR base (a - a % 4) xs.length ∧ i = 2) 200 (fun w1 hm1 => ?_) ?_
  · subst hE
    exact rwrong_C w1 base a sz sl xs hb ha hn (hw.kept (bel1 hm1))
  · refine ⟨by simp only [go_sem, Nat.zero_add, Nat.add_zero, Nat.zero_mul, Nat.reduceBEq, Nat.reduceAdd, Nat.reduceMul, Nat.reduceSub, Nat.reduceLT, Nat.reduceLeDiff, Nat.reduceEqDiff, Nat.reduceDiv, Nat.reduceMod, Int.reduceAdd, Int.reduceSub, Int.reduceMul, Int.reduceDiv, Int.reduceMod, Int.reduceLT, Int.reduceLE, Int.reduceEq, Int.reduceToNat, Int.reducePow, Int.reduceNeg, ne_eq, not_false_eq_true, not_true_eq_false, decide_true, decide_false, Bool.not_true, Bool.not_false, forall_const, reduceCtorEq, implies_true, beq_self_eq_true, Int.cast_ofNat_Int, reduceIte, if_true, if_false, Bool.false_eq_true, Try.ntmps9], ?_⟩
    rintro i (⟨h0, rfl⟩ | ⟨h0, h1, rfl⟩ | ⟨h0, h1, rfl⟩)
    · simp only [go_sem, Nat.zero_add, Nat.add_zero, Nat.zero_mul, Nat.reduceBEq, Nat.reduceAdd, Nat.reduceMul, Nat.reduceSub, Nat.reduceLT, Nat.reduceLeDiff, Nat.reduceEqDiff, Nat.reduceDiv, Nat.reduceMod, Int.reduceAdd, Int.reduceSub, Int.reduceMul, Int.reduceDiv, Int.reduceMod, Int.reduceLT, Int.reduceLE, Int.reduceEq, Int.reduceToNat, Int.reducePow, Int.reduceNeg, ne_eq, not_false_eq_true, not_true_eq_false, decide_true, decide_false, Bool.not_true, Bool.not_false, forall_const, reduceCtorEq, implies_true, beq_self_eq_true, Int.cast_ofNat_Int, reduceIte, if_true, if_false, Bool.false_eq_true, Try.ntmps9, fin_ret hE, Try.results9, e4, h0]
      exact fun w' hm' => ⟨(0, _), rfl, Or.inl ⟨h0, rfl⟩, bel1 hm'⟩
    · simp only [go_sem, Nat.zero_add, Nat.add_zero, Nat.zero_mul, Nat.reduceBEq, Nat.reduceAdd, Nat.reduceMul, Nat.reduceSub, Nat.reduceLT, Nat.reduceLeDiff, Nat.reduceEqDiff, Nat.reduceDiv, Nat.reduceMod, Int.reduceAdd, Int.reduceSub, Int.reduceMul, Int.reduceDiv, Int.reduceMod, Int.reduceLT, Int.reduceLE, Int.reduceEq, Int.reduceToNat, Int.reducePow, Int.reduceNeg, ne_eq, not_false_eq_true, not_true_eq_false, decide_true, decide_false, Bool.not_true, Bool.not_false, forall_const, reduceCtorEq, implies_true, beq_self_eq_true, Int.cast_ofNat_Int, reduceIte, if_true, if_false, Bool.false_eq_true, Try.ntmps9, fin_ret hE, Try.results9, e4]
      refine ⟨by omega, ?_⟩
      have hsz : sz = 1 ∨ sz = 2 ∨ sz = 4 := by
        unfold wrongSz at h0
        split at h0
        · assumption
        · omega
      have hal : a % 4 * 8 + sz * 8 ≤ 32 := by
        unfold wrongSz at h0
        rcases hsz with rfl | rfl | rfl <;> simp at h0 <;> omega
      refine CallC.pur (.u [.v (.int .u32 (wordR base (a - a % 4) xs)), .v (.bool true)]) 200 (fun w1 hm1 => ?_) ?_
      · subst hE
        refine (rword_C w1 base (a - a % 4) sl xs hb ha4 hn (hw.kept (bel1 hm1))).mono ?_
        rintro e w' ⟨r, rfl, ⟨rfl, _⟩ | ⟨_, h2⟩, h3⟩
        · exact ⟨rfl, h3⟩
        · exact absurd h1 h2
      · have hx := hxs.get ((a - a % 4 - base) / 4).toNat
        unfold u32ok at hx
        have e1 : wordR base (a - a % 4) xs = ((wordR base (a - a % 4) xs).toNat : Int) := by unfold wordR; omega
        have e2 : 8 * (a % 4) % 4294967296 = ((a % 4 * 8).toNat : Int) := by omega
        have e3 : 8 * sz = ((sz * 8).toNat : Int) := by omega
        simp only [go_sem, Nat.zero_add, Nat.add_zero, Nat.zero_mul, Nat.reduceBEq, Nat.reduceAdd, Nat.reduceMul, Nat.reduceSub, Nat.reduceLT, Nat.reduceLeDiff, Nat.reduceEqDiff, Nat.reduceDiv, Nat.reduceMod, Int.reduceAdd, Int.reduceSub, Int.reduceMul, Int.reduceDiv, Int.reduceMod, Int.reduceLT, Int.reduceLE, Int.reduceEq, Int.reduceToNat, Int.reducePow, Int.reduceNeg, ne_eq, not_false_eq_true, not_true_eq_false, decide_true, decide_false, Bool.not_true, Bool.not_false, forall_const, reduceCtorEq, implies_true, beq_self_eq_true, Int.cast_ofNat_Int, reduceIte, if_true, if_false, Bool.false_eq_true, Try.ntmps9, fin_ret hE, Try.results9, e4]
        refine ⟨by omega, by omega, by omega, ?_⟩
        refine CallC.pur (.v (.int .u32 (fieldN (wordR base (a - a % 4) xs).toNat (a % 4 * 8).toNat (sz * 8).toNat : Int))) 200 (fun w1 hm1 => ?_) ?_
        · have := rfield_C w1 (wordR base (a - a % 4) xs).toNat (a % 4 * 8).toNat (sz * 8).toNat (by unfold wordR; omega) (by omega)
          rw [← e1, ← e2, ← e3] at this
          exact this
        · simp only [go_sem, Nat.zero_add, Nat.add_zero, Nat.zero_mul, Nat.reduceBEq, Nat.reduceAdd, Nat.reduceMul, Nat.reduceSub, Nat.reduceLT, Nat.reduceLeDiff, Nat.reduceEqDiff, Nat.reduceDiv, Nat.reduceMod, Int.reduceAdd, Int.reduceSub, Int.reduceMul, Int.reduceDiv, Int.reduceMod, Int.reduceLT, Int.reduceLE, Int.reduceEq, Int.reduceToNat, Int.reducePow, Int.reduceNeg, ne_eq, not_false_eq_true, not_true_eq_false, decide_true, decide_false, Bool.not_true, Bool.not_false, forall_const, reduceCtorEq, implies_true, beq_self_eq_true, Int.cast_ofNat_Int, reduceIte, if_true, if_false, Bool.false_eq_true, Try.ntmps9, fin_ret hE, Try.results9]
          exact fun w' hm' => ⟨(_, 0), rfl, Or.inr (Or.inr ⟨h0, h1, rfl⟩), bel1 hm'⟩
    · simp only [go_sem, Nat.zero_add, Nat.add_zero, Nat.zero_mul, Nat.reduceBEq, Nat.reduceAdd, Nat.reduceMul, Nat.reduceSub, Nat.reduceLT, Nat.reduceLeDiff, Nat.reduceEqDiff, Nat.reduceDiv, Nat.reduceMod, Int.reduceAdd, Int.reduceSub, Int.reduceMul, Int.reduceDiv, Int.reduceMod, Int.reduceLT, Int.reduceLE, Int.reduceEq, Int.reduceToNat, Int.reducePow, Int.reduceNeg, ne_eq, not_false_eq_true, not_true_eq_false, decide_true, decide_false, Bool.not_true, Bool.not_false, forall_const, reduceCtorEq, implies_true, beq_self_eq_true, Int.cast_ofNat_Int, reduceIte, if_true, if_false, Bool.false_eq_true, Try.ntmps9, fin_ret hE, Try.results9, e4]
      exact fun w' hm' => ⟨(0, 2), rfl, Or.inr (Or.inl ⟨h0, h1, rfl⟩), bel1 hm'⟩

end Go.Proofs
