/- Contracts of the fields of bits, of a word that is put, and of a bus over a memory. -/
import Derived.Test.YtmmjmgnbffameaaDxR
import Derived.Test.YtmmjmgnbffameaaDyB1
set_option linter.unusedSimpArgs false
set_option linter.unusedVariables false
set_option maxRecDepth 100000
namespace Go.Proofs
open Go.Dx Go.RowKit

theorem two_pow_i (k : Nat) : ((2 : Int) ^ k) = ((2 ^ k : Nat) : Int) := by simp

theorem mask_C (w : World) (n : Nat) (hn : n ≤ 32) :
    Calls Try.prog 29 #[.int .i64 (n : Int)] w fun e w' => e = .returned (.int .u64 (2 ^ n - 1)) ∧ Below w.heap.size w w' := by
  have hm : Mem w [] [] w := Mem.reads (by simp) (by simp)
  refine calls_of_ex [.v (.int .i64 (n : Int))] _ [] 0 100 Try.func29 rfl hm (by simp [Try.ntmps29]) fun E hE => ?_
  have h1 : (min (max (n : Int) 0) 32).toNat = n := by omega
  have h2 : (2 : Nat) ^ n ≤ 2 ^ 32 := Nat.pow_le_pow_right (by omega) hn
  have h3 := Nat.two_pow_pos n
  have h4 : ((1 : Int) * 2 ^ n) % 18446744073709551616 = 2 ^ n := by rw [two_pow_i]; omega
  have h5 : ((2 : Int) ^ n - 1) % 18446744073709551616 = 2 ^ n - 1 := by rw [two_pow_i]; omega
  simp only [go_sem, Nat.zero_add, Nat.add_zero, Nat.zero_mul, Nat.reduceBEq, Nat.reduceAdd, Nat.reduceMul, Nat.reduceSub, Nat.reduceLT, Nat.reduceLeDiff, Nat.reduceEqDiff, Nat.reduceDiv, Nat.reduceMod, Int.reduceAdd, Int.reduceSub, Int.reduceMul, Int.reduceDiv, Int.reduceMod, Int.reduceLT, Int.reduceLE, Int.reduceEq, Int.reduceToNat, Int.reducePow, Int.reduceNeg, ne_eq, not_false_eq_true, not_true_eq_false, decide_true, decide_false, Bool.not_true, Bool.not_false, forall_const, reduceCtorEq, implies_true, beq_self_eq_true, Int.cast_ofNat_Int, reduceIte, if_true, if_false, Bool.false_eq_true, Try.ntmps29, fin_ret hE, Try.results29, h1, h4, h5]
  refine ⟨by omega, fun w' hm' => ⟨rfl, hm'.below⟩⟩

theorem field_C (w : World) (x at_ n : Nat) (hx : x < 4294967296) (h : at_ + n ≤ 32) :
    Calls Try.prog 18 #[.int .u32 (x : Int), .int .i64 (at_ : Int), .int .i64 (n : Int)] w fun e w' => e = .returned (.int .u32 (fieldN x at_ n : Int)) ∧ Below w.heap.size w w' := by
  have hm : Mem w [] [] w := Mem.reads (by simp) (by simp)
  refine calls_of_ex [.v (.int .u32 (x : Int)), .v (.int .i64 (at_ : Int)), .v (.int .i64 (n : Int))] _ [] 0 200 Try.func18 rfl hm (by simp [Try.ntmps18]) fun E hE => ?_
  have h1 : (min (at_ : Int) 40).toNat = at_ := by omega
  simp only [go_sem, Nat.zero_add, Nat.add_zero, Nat.zero_mul, Nat.reduceBEq, Nat.reduceAdd, Nat.reduceMul, Nat.reduceSub, Nat.reduceLT, Nat.reduceLeDiff, Nat.reduceEqDiff, Nat.reduceDiv, Nat.reduceMod, Int.reduceAdd, Int.reduceSub, Int.reduceMul, Int.reduceDiv, Int.reduceMod, Int.reduceLT, Int.reduceLE, Int.reduceEq, Int.reduceToNat, Int.reducePow, Int.reduceNeg, ne_eq, not_false_eq_true, not_true_eq_false, decide_true, decide_false, Bool.not_true, Bool.not_false, forall_const, reduceCtorEq, implies_true, beq_self_eq_true, Int.cast_ofNat_Int, reduceIte, if_true, if_false, Bool.false_eq_true, Try.ntmps18, fin_ret hE, Try.results18, h1]
  refine ⟨by omega, fun h0 => absurd h0 (by omega), fun _ => ⟨by omega, ?_⟩⟩
  refine CallC.pur (.v (.int .u64 (2 ^ n - 1))) 200 (fun w1 hm1 => ?_) ?_
  · exact mask_C w1 n (by omega)
  · have h2 : (2 : Nat) ^ n ≤ 2 ^ 32 := Nat.pow_le_pow_right (by omega) (by omega)
    have h3 := Nat.two_pow_pos n
    have h4 : (x : Int) / 2 ^ at_ = ((x / 2 ^ at_ : Nat) : Int) := by simp
    have h5 : x / 2 ^ at_ ≤ x := Nat.div_le_self _ _
    have nn : (0 : Int) ≤ (x : Int) / 2 ^ at_ := Int.ediv_nonneg (by omega) (Int.pow_nonneg (by omega))
    have h6 := fieldN_lt x at_ n
    simp only [go_sem, Nat.zero_add, Nat.add_zero, Nat.zero_mul, Nat.reduceBEq, Nat.reduceAdd, Nat.reduceMul, Nat.reduceSub, Nat.reduceLT, Nat.reduceLeDiff, Nat.reduceEqDiff, Nat.reduceDiv, Nat.reduceMod, Int.reduceAdd, Int.reduceSub, Int.reduceMul, Int.reduceDiv, Int.reduceMod, Int.reduceLT, Int.reduceLE, Int.reduceEq, Int.reduceToNat, Int.reducePow, Int.reduceNeg, ne_eq, not_false_eq_true, not_true_eq_false, decide_true, decide_false, Bool.not_true, Bool.not_false, forall_const, reduceCtorEq, implies_true, beq_self_eq_true, Int.cast_ofNat_Int, reduceIte, if_true, if_false, Bool.false_eq_true, Try.ntmps18, fin_ret hE, Try.results18, h1, iand_mask _ _ nn]
    have e : (x : Int) / 2 ^ at_ % 2 ^ n % 4294967296 = (fieldN x at_ n : Int) := by
      have : (x : Int) / 2 ^ at_ % 2 ^ n = ((x / 2 ^ at_ % 2 ^ n : Nat) : Int) := by simp
      rw [this]
      unfold fieldN at *
      omega
    rw [e]
    rw [h4, two_pow_i]
    refine ⟨by omega, fun w' hm' => ⟨rfl, ?_⟩⟩
    subst hE
    exact hm'.below

theorem put_C (w : World) (x at_ n v : Nat) (hx : x < 4294967296) (hv : v < 4294967296) (h : at_ + n ≤ 32) :
    Calls Try.prog 24 #[.int .u32 (x : Int), .int .i64 (at_ : Int), .int .i64 (n : Int), .int .u32 (v : Int)] w fun e w' => e = .returned (.int .u32 (putN x at_ n v : Int)) ∧ Below w.heap.size w w' := by
  have hm : Mem w [] [] w := Mem.reads (by simp) (by simp)
  refine calls_of_ex [.v (.int .u32 (x : Int)), .v (.int .i64 (at_ : Int)), .v (.int .i64 (n : Int)), .v (.int .u32 (v : Int))] _ [] 0 200 Try.func24 rfl hm (by simp [Try.ntmps24]) fun E hE => ?_
  have h1 : (min (at_ : Int) 40).toNat = at_ := by omega
  simp only [go_sem, Nat.zero_add, Nat.add_zero, Nat.zero_mul, Nat.reduceBEq, Nat.reduceAdd, Nat.reduceMul, Nat.reduceSub, Nat.reduceLT, Nat.reduceLeDiff, Nat.reduceEqDiff, Nat.reduceDiv, Nat.reduceMod, Int.reduceAdd, Int.reduceSub, Int.reduceMul, Int.reduceDiv, Int.reduceMod, Int.reduceLT, Int.reduceLE, Int.reduceEq, Int.reduceToNat, Int.reducePow, Int.reduceNeg, ne_eq, not_false_eq_true, not_true_eq_false, decide_true, decide_false, Bool.not_true, Bool.not_false, forall_const, reduceCtorEq, implies_true, beq_self_eq_true, Int.cast_ofNat_Int, reduceIte, if_true, if_false, Bool.false_eq_true, Try.ntmps24, fin_ret hE, Try.results24, h1]
  refine CallC.pur (.v (.int .u64 (2 ^ n - 1))) 200 (fun w1 hm1 => mask_C w1 n (by omega)) ?_
  simp only [go_sem, Nat.zero_add, Nat.add_zero, Nat.zero_mul, Nat.reduceBEq, Nat.reduceAdd, Nat.reduceMul, Nat.reduceSub, Nat.reduceLT, Nat.reduceLeDiff, Nat.reduceEqDiff, Nat.reduceDiv, Nat.reduceMod, Int.reduceAdd, Int.reduceSub, Int.reduceMul, Int.reduceDiv, Int.reduceMod, Int.reduceLT, Int.reduceLE, Int.reduceEq, Int.reduceToNat, Int.reducePow, Int.reduceNeg, ne_eq, not_false_eq_true, not_true_eq_false, decide_true, decide_false, Bool.not_true, Bool.not_false, forall_const, reduceCtorEq, implies_true, beq_self_eq_true, Int.cast_ofNat_Int, reduceIte, if_true, if_false, Bool.false_eq_true, Try.ntmps24, fin_ret hE, Try.results24, h1]
  refine ⟨by omega, ?_⟩
  refine CallC.pur (.v (.int .u64 (2 ^ n - 1))) 200 (fun w1 hm1 => mask_C w1 n (by omega)) ?_
  have h2 : (2 : Nat) ^ n ≤ 2 ^ 32 := Nat.pow_le_pow_right (by omega) (by omega)
  have h3 := Nat.two_pow_pos n
  simp only [go_sem, Nat.zero_add, Nat.add_zero, Nat.zero_mul, Nat.reduceBEq, Nat.reduceAdd, Nat.reduceMul, Nat.reduceSub, Nat.reduceLT, Nat.reduceLeDiff, Nat.reduceEqDiff, Nat.reduceDiv, Nat.reduceMod, Int.reduceAdd, Int.reduceSub, Int.reduceMul, Int.reduceDiv, Int.reduceMod, Int.reduceLT, Int.reduceLE, Int.reduceEq, Int.reduceToNat, Int.reducePow, Int.reduceNeg, ne_eq, not_false_eq_true, not_true_eq_false, decide_true, decide_false, Bool.not_true, Bool.not_false, forall_const, reduceCtorEq, implies_true, beq_self_eq_true, Int.cast_ofNat_Int, reduceIte, if_true, if_false, Bool.false_eq_true, Try.ntmps24, fin_ret hE, Try.results24, h1, iand_mask _ _ (show (0 : Int) ≤ (v : Int) by omega)]
  refine ⟨by rw [two_pow_i]; omega, fun h0 => absurd h0 (by omega), fun _ => ?_⟩
  refine CodeC.lex 200 Try.follows_mixed (by kernel_rfl) ?_
  simp only [go_sem, Nat.zero_add, Nat.add_zero, Nat.zero_mul, Nat.reduceBEq, Nat.reduceAdd, Nat.reduceMul, Nat.reduceSub, Nat.reduceLT, Nat.reduceLeDiff, Nat.reduceEqDiff, Nat.reduceDiv, Nat.reduceMod, Int.reduceAdd, Int.reduceSub, Int.reduceMul, Int.reduceDiv, Int.reduceMod, Int.reduceLT, Int.reduceLE, Int.reduceEq, Int.reduceToNat, Int.reducePow, Int.reduceNeg, ne_eq, not_false_eq_true, not_true_eq_false, decide_true, decide_false, Bool.not_true, Bool.not_false, forall_const, reduceCtorEq, implies_true, beq_self_eq_true, Int.cast_ofNat_Int, reduceIte, if_true, if_false, Bool.false_eq_true, Try.ntmps24, fin_ret hE, Try.results24, h1, iand_mask _ _ (show (0 : Int) ≤ (v : Int) by omega), put_eq x v at_ n h]
  have bd := iandn_bd (x : Int) ((2 ^ n - 1) * 2 ^ at_ % 18446744073709551616 % 4294967296) (by omega)
  refine ⟨by omega, by omega, ⟨by omega, by omega, by omega, by omega⟩, ⟨by omega, by omega, by omega, by omega⟩, fun w' hm' => ⟨rfl, ?_⟩⟩
  subst hE
  exact hm'.below

/-! ### The bus -/

/-- The block of a bus on which no device stands. -/
def busO (r : SV) : HObj := .c [r, .v (.slice none 0 0)] 55

theorem good_C (w : World) (bb br : Nat) (hg : w.heap[bb]? = some (denO (busO (.p 1 br 0)))) :
    Calls Try.prog 26 #[.pointer (some ⟨bb, 0, none⟩)] w fun e w' => e = .returned (.bool true) ∧ Below w.heap.size w w' := by
  have hm : Mem w [] [⟨0, bb, false, busO (.p 1 br 0)⟩] w := Mem.reads (by simpa using hg) (by simp)
  refine calls_of_ex [.p 0 bb 0] _ [] 2 200 Try.func26 rfl hm (by simp [Try.ntmps26]) fun E hE => ?_
  simp only [go_sem, Nat.zero_add, Nat.add_zero, Nat.zero_mul, Nat.reduceBEq, Nat.reduceAdd, Nat.reduceMul, Nat.reduceSub, Nat.reduceLT, Nat.reduceLeDiff, Nat.reduceEqDiff, Nat.reduceDiv, Nat.reduceMod, Int.reduceAdd, Int.reduceSub, Int.reduceMul, Int.reduceDiv, Int.reduceMod, Int.reduceLT, Int.reduceLE, Int.reduceEq, Int.reduceToNat, Int.reducePow, Int.reduceNeg, ne_eq, not_false_eq_true, not_true_eq_false, decide_true, decide_false, Bool.not_true, Bool.not_false, forall_const, reduceCtorEq, implies_true, beq_self_eq_true, Int.cast_ofNat_Int, reduceIte, if_true, if_false, Bool.false_eq_true, busO, Try.ntmps26, fin_ret hE, Try.results26]
  exact fun w' hm' => ⟨rfl, hm'.below⟩

/-- What is wrong about a place and a size: 0: nothing; 1: it is misaligned; 2: there is no such size. -/
def wrongSz (a sz : Int) : Int := if sz = 1 ∨ sz = 2 ∨ sz = 4 then (if a % sz = 0 then 0 else 1) else 2

theorem check_C (w : World) (bb br : Nat) (a sz : Int) (ha : u32ok a) (hg : w.heap[bb]? = some (denO (busO (.p 1 br 0)))) :
    Calls Try.prog 16 #[.pointer (some ⟨bb, 0, none⟩), .int .u32 a, .int .i64 sz] w fun e w' => e = .returned (.int .i64 (wrongSz a sz)) ∧ Below w.heap.size w w' := by
  unfold u32ok at ha
  have hm : Mem w [] [⟨0, bb, false, busO (.p 1 br 0)⟩] w := Mem.reads (by simpa using hg) (by simp)
  refine calls_of_ex [.p 0 bb 0, .v (.int .u32 a), .v (.int .i64 sz)] _ [] 2 200 Try.func16 rfl hm (by simp [Try.ntmps16]) fun E hE => ?_
  simp only [go_sem, Nat.zero_add, Nat.add_zero, Nat.zero_mul, Nat.reduceBEq, Nat.reduceAdd, Nat.reduceMul, Nat.reduceSub, Nat.reduceLT, Nat.reduceLeDiff, Nat.reduceEqDiff, Nat.reduceDiv, Nat.reduceMod, Int.reduceAdd, Int.reduceSub, Int.reduceMul, Int.reduceDiv, Int.reduceMod, Int.reduceLT, Int.reduceLE, Int.reduceEq, Int.reduceToNat, Int.reducePow, Int.reduceNeg, ne_eq, not_false_eq_true, not_true_eq_false, decide_true, decide_false, Bool.not_true, Bool.not_false, forall_const, reduceCtorEq, implies_true, beq_self_eq_true, Int.cast_ofNat_Int, reduceIte, if_true, if_false, Bool.false_eq_true, busO, Try.ntmps16, fin_ret hE, Try.results16]
  refine CallC.pur (.v (.bool true)) 200 (fun w1 hm1 => ?_) ?_
  · subst hE
    exact good_C w1 bb br (hm1.at (t := 0) rfl)
  · simp only [go_sem, Nat.zero_add, Nat.add_zero, Nat.zero_mul, Nat.reduceBEq, Nat.reduceAdd, Nat.reduceMul, Nat.reduceSub, Nat.reduceLT, Nat.reduceLeDiff, Nat.reduceEqDiff, Nat.reduceDiv, Nat.reduceMod, Int.reduceAdd, Int.reduceSub, Int.reduceMul, Int.reduceDiv, Int.reduceMod, Int.reduceLT, Int.reduceLE, Int.reduceEq, Int.reduceToNat, Int.reducePow, Int.reduceNeg, ne_eq, not_false_eq_true, not_true_eq_false, decide_true, decide_false, Bool.not_true, Bool.not_false, forall_const, reduceCtorEq, implies_true, beq_self_eq_true, Int.cast_ofNat_Int, reduceIte, if_true, if_false, Bool.false_eq_true, busO, Try.ntmps16, fin_ret hE, Try.results16]
    repeat' (first | refine And.intro ?_ ?_ | intro)
    all_goals first
      | omega
      | exact Mem.below (by subst hE; assumption)
      | exact Mem.below (by assumption)
      | (refine congrArg Ending.returned (congrArg (Value.int IntKind.i64) ?_); unfold wrongSz; simp_all; done)
      | (refine congrArg Ending.returned (congrArg (Value.int IntKind.i64) ?_); unfold wrongSz; simp_all; omega)

theorem find_C (w : World) (bb : Nat) (r : SV) (a : Int) (hg : w.heap[bb]? = some (denO (busO r))) :
    Calls Try.prog 19 #[.pointer (some ⟨bb, 0, none⟩), .int .u32 a] w fun e w' => e = .returned (den (.u [.v .nilIface, .v (.int .u32 0)])) ∧ Below w.heap.size w w' := by
  have hm : Mem w [] [⟨0, bb, false, busO r⟩] w := Mem.reads (by simpa using hg) (by simp)
  refine calls_of_ex [.p 0 bb 0, .v (.int .u32 a)] _ [] 2 200 Try.func19 rfl hm (by simp [Try.ntmps19]) fun E hE => ?_
  simp only [go_sem, Nat.zero_add, Nat.add_zero, Nat.zero_mul, Nat.reduceBEq, Nat.reduceAdd, Nat.reduceMul, Nat.reduceSub, Nat.reduceLT, Nat.reduceLeDiff, Nat.reduceEqDiff, Nat.reduceDiv, Nat.reduceMod, Int.reduceAdd, Int.reduceSub, Int.reduceMul, Int.reduceDiv, Int.reduceMod, Int.reduceLT, Int.reduceLE, Int.reduceEq, Int.reduceToNat, Int.reducePow, Int.reduceNeg, ne_eq, not_false_eq_true, not_true_eq_false, decide_true, decide_false, Bool.not_true, Bool.not_false, forall_const, reduceCtorEq, implies_true, beq_self_eq_true, Int.cast_ofNat_Int, reduceIte, if_true, if_false, Bool.false_eq_true, busO, Try.ntmps19, fin_ret hE, Try.results19]
  refine CodeC.loop (γ := Unit) (fun _ => ⟨37, 2, [(13, .v (.int .i64 0)), (12, .v (.int .i64 0))], [⟨0, bb, false, busO r⟩], []⟩) (fun _ => 0) () 200 ⟨rfl, rfl, ⟨rfl, rfl, trivial⟩, by simp only [go_sem, Nat.zero_add, Nat.add_zero, Nat.zero_mul, Nat.reduceBEq, Nat.reduceAdd, Nat.reduceMul, Nat.reduceSub, Nat.reduceLT, Nat.reduceLeDiff, Nat.reduceEqDiff, Nat.reduceDiv, Nat.reduceMod, Int.reduceAdd, Int.reduceSub, Int.reduceMul, Int.reduceDiv, Int.reduceMod, Int.reduceLT, Int.reduceLE, Int.reduceEq, Int.reduceToNat, Int.reducePow, Int.reduceNeg, ne_eq, not_false_eq_true, not_true_eq_false, decide_true, decide_false, Bool.not_true, Bool.not_false, forall_const, reduceCtorEq, implies_true, beq_self_eq_true, Int.cast_ofNat_Int, reduceIte, if_true, if_false, Bool.false_eq_true, busO, SubH]⟩ fun g => ?_
  simp only [go_sem, Nat.zero_add, Nat.add_zero, Nat.zero_mul, Nat.reduceBEq, Nat.reduceAdd, Nat.reduceMul, Nat.reduceSub, Nat.reduceLT, Nat.reduceLeDiff, Nat.reduceEqDiff, Nat.reduceDiv, Nat.reduceMod, Int.reduceAdd, Int.reduceSub, Int.reduceMul, Int.reduceDiv, Int.reduceMod, Int.reduceLT, Int.reduceLE, Int.reduceEq, Int.reduceToNat, Int.reducePow, Int.reduceNeg, ne_eq, not_false_eq_true, not_true_eq_false, decide_true, decide_false, Bool.not_true, Bool.not_false, forall_const, reduceCtorEq, implies_true, beq_self_eq_true, Int.cast_ofNat_Int, reduceIte, if_true, if_false, Bool.false_eq_true, busO, Try.ntmps19, fin_ret hE, Try.results19]
  exact fun w' hm' => hm'.below

theorem new_C (w : World) (br : Nat) :
    Calls Try.prog 7 #[.pointer (some ⟨br, 0, none⟩)] w fun e w' => ∃ b, e = .returned (den (.p 0 b 0)) ∧ w.heap.size ≤ b ∧ w'.heap[b]? = some (denO (busO (.p 0 br 0))) ∧ Below w.heap.size w w' := by
  have hm : Mem w [] [] w := Mem.reads (by simp) (by simp)
  refine calls_of_ex [.p 9 br 0] _ [] 2 200 Try.func7 rfl hm (by simp [Try.ntmps7]) fun E hE => ?_
  simp only [go_sem, Nat.zero_add, Nat.add_zero, Nat.zero_mul, Nat.reduceBEq, Nat.reduceAdd, Nat.reduceMul, Nat.reduceSub, Nat.reduceLT, Nat.reduceLeDiff, Nat.reduceEqDiff, Nat.reduceDiv, Nat.reduceMod, Int.reduceAdd, Int.reduceSub, Int.reduceMul, Int.reduceDiv, Int.reduceMod, Int.reduceLT, Int.reduceLE, Int.reduceEq, Int.reduceToNat, Int.reducePow, Int.reduceNeg, ne_eq, not_false_eq_true, not_true_eq_false, decide_true, decide_false, Bool.not_true, Bool.not_false, forall_const, reduceCtorEq, implies_true, beq_self_eq_true, Int.cast_ofNat_Int, reduceIte, if_true, if_false, Bool.false_eq_true, busO, Try.ntmps7, fin_ret hE, Try.results7]
  intro b w' hm'
  have h1 := hm'.at (t := 2) rfl
  have h2 := hm'.wr _ List.mem_cons_self rfl
  exact ⟨b, rfl, by simpa using h2, h1, Below.mk hm'.os hm'.tape hm'.output hm'.size fun k hk => hm'.frame k hk (by simp)⟩

/-- What a load tells. -/
def loadR (base a sz : Int) (xs : List Int) (r : Int × Int) : Prop :=
  (wrongSz a sz ≠ 0 ∧ r = (0, wrongSz a sz)) ∨
  (wrongSz a sz = 0 ∧ ¬ inR base (a - a % 4) xs.length ∧ r = (0, 2)) ∨
  (wrongSz a sz = 0 ∧ inR base (a - a % 4) xs.length ∧ r = ((fieldN (wordR base (a - a % 4) xs).toNat (a % 4 * 8).toNat (sz * 8).toNat : Int), 0))

def u32s (xs : List Int) : Prop := ∀ x ∈ xs, u32ok x

theorem u32s.get {xs : List Int} (h : u32s xs) (i : Nat) : u32ok (xs.getD i 0) := by
  rw [List.getD_eq_getElem?_getD]
  cases hx : xs[i]? with
  | none => exact ⟨by simp, by simp⟩
  | some x => exact h x (List.mem_of_getElem? hx)

theorem load_C (w : World) (bb t br : Nat) (base a sz : Int) (sl : SV) (xs : List Int) (hb : u32ok base) (ha : u32ok a) (hxs : u32s xs)
    (hgb : w.heap[bb]? = some (denO (busO (.p t br 0)))) (hg : w.heap[br]? = some (denO (ramO base sl))) (hw : WordsR w sl xs) :
    Calls Try.prog 8 #[.pointer (some ⟨bb, 0, none⟩), .int .u32 a, .int .i64 sz] w fun e w' =>
      ∃ r : Int × Int, e = .returned (den (.u [.v (.int .u32 r.1), .v (.int .i64 r.2)])) ∧ loadR base a sz xs r ∧ Below w.heap.size w w' := by
  have hm : Mem w [] [⟨0, bb, false, busO (.p 1 br 0)⟩, ⟨1, br, false, ramO base sl⟩] w := Mem.reads (by simpa using ⟨hgb, hg⟩) (by simp)
  have hw0 : ∀ w1, Mem w [] [⟨0, bb, false, busO (.p 1 br 0)⟩, ⟨1, br, false, ramO base sl⟩] w1 → WordsR w1 sl xs := fun w1 h => hw.kept h.below
  have ha' := ha
  unfold u32ok at ha'
  have ha4 : u32ok (a - a % 4) := ⟨by omega, by omega⟩
  refine calls_of_ex [.p 0 bb 0, .v (.int .u32 a), .v (.int .i64 sz)] _ [] 2 300 Try.func8 rfl hm (by simp [Try.ntmps8]) fun E hE => ?_
  simp only [go_sem, Nat.zero_add, Nat.add_zero, Nat.zero_mul, Nat.reduceBEq, Nat.reduceAdd, Nat.reduceMul, Nat.reduceSub, Nat.reduceLT, Nat.reduceLeDiff, Nat.reduceEqDiff, Nat.reduceDiv, Nat.reduceMod, Int.reduceAdd, Int.reduceSub, Int.reduceMul, Int.reduceDiv, Int.reduceMod, Int.reduceLT, Int.reduceLE, Int.reduceEq, Int.reduceToNat, Int.reducePow, Int.reduceNeg, ne_eq, not_false_eq_true, not_true_eq_false, decide_true, decide_false, Bool.not_true, Bool.not_false, forall_const, reduceCtorEq, implies_true, beq_self_eq_true, Int.cast_ofNat_Int, reduceIte, if_true, if_false, Bool.false_eq_true, busO, Try.ntmps8, fin_ret hE, Try.results8]
  refine CallC.pur (.v (.int .i64 (wrongSz a sz))) 300 (fun w1 hm1 => ?_) ?_
  · subst hE
    exact check_C w1 bb br a sz ha (hm1.at (t := 0) rfl)
  · simp only [go_sem, Nat.zero_add, Nat.add_zero, Nat.zero_mul, Nat.reduceBEq, Nat.reduceAdd, Nat.reduceMul, Nat.reduceSub, Nat.reduceLT, Nat.reduceLeDiff, Nat.reduceEqDiff, Nat.reduceDiv, Nat.reduceMod, Int.reduceAdd, Int.reduceSub, Int.reduceMul, Int.reduceDiv, Int.reduceMod, Int.reduceLT, Int.reduceLE, Int.reduceEq, Int.reduceToNat, Int.reducePow, Int.reduceNeg, ne_eq, not_false_eq_true, not_true_eq_false, decide_true, decide_false, Bool.not_true, Bool.not_false, forall_const, reduceCtorEq, implies_true, beq_self_eq_true, Int.cast_ofNat_Int, reduceIte, if_true, if_false, Bool.false_eq_true, busO, ramO, Try.ntmps8, fin_ret hE, Try.results8, iandn3 a ha'.1]
    refine ⟨fun h0 => ⟨by omega, ?_⟩, fun h0 w' hm' => ⟨(0, wrongSz a sz), rfl, Or.inl ⟨h0, rfl⟩, hm'.below⟩⟩
    have hsz : sz = 1 ∨ sz = 2 ∨ sz = 4 := by
      unfold wrongSz at h0
      split at h0
      · assumption
      · omega
    have hal : a % 4 * 8 + sz * 8 ≤ 32 := by
      unfold wrongSz at h0
      rcases hsz with rfl | rfl | rfl <;> simp at h0 <;> omega
    refine CallC.val (γ := Int × Bool) (fun r => .u [.v (.int .u32 r.1), .v (.bool r.2)]) (fun r => r = (wordR base (a - a % 4) xs, true) ∧ inR base (a - a % 4) xs.length ∨ r = (0, false) ∧ ¬ inR base (a - a % 4) xs.length) 300 (fun w1 hm1 => ?_) ?_
    · subst hE
      exact word_C w1 br base (a - a % 4) sl xs hb ha4 (hm1.at (t := 1) rfl) (hw0 w1 hm1)
    · refine ⟨by simp only [go_sem, Nat.zero_add, Nat.add_zero, Nat.zero_mul, Nat.reduceBEq, Nat.reduceAdd, Nat.reduceMul, Nat.reduceSub, Nat.reduceLT, Nat.reduceLeDiff, Nat.reduceEqDiff, Nat.reduceDiv, Nat.reduceMod, Int.reduceAdd, Int.reduceSub, Int.reduceMul, Int.reduceDiv, Int.reduceMod, Int.reduceLT, Int.reduceLE, Int.reduceEq, Int.reduceToNat, Int.reducePow, Int.reduceNeg, ne_eq, not_false_eq_true, not_true_eq_false, decide_true, decide_false, Bool.not_true, Bool.not_false, forall_const, reduceCtorEq, implies_true, beq_self_eq_true, Int.cast_ofNat_Int, reduceIte, if_true, if_false, Bool.false_eq_true, Try.ntmps8], ?_⟩
      rintro r (⟨rfl, hr⟩ | ⟨rfl, hr⟩)
      · simp only [go_sem, Nat.zero_add, Nat.add_zero, Nat.zero_mul, Nat.reduceBEq, Nat.reduceAdd, Nat.reduceMul, Nat.reduceSub, Nat.reduceLT, Nat.reduceLeDiff, Nat.reduceEqDiff, Nat.reduceDiv, Nat.reduceMod, Int.reduceAdd, Int.reduceSub, Int.reduceMul, Int.reduceDiv, Int.reduceMod, Int.reduceLT, Int.reduceLE, Int.reduceEq, Int.reduceToNat, Int.reducePow, Int.reduceNeg, ne_eq, not_false_eq_true, not_true_eq_false, decide_true, decide_false, Bool.not_true, Bool.not_false, forall_const, reduceCtorEq, implies_true, beq_self_eq_true, Int.cast_ofNat_Int, reduceIte, if_true, if_false, Bool.false_eq_true, busO, ramO, Try.ntmps8, fin_ret hE, Try.results8, iand3 a ha'.1]
        refine ⟨by omega, by omega, by omega, by omega, ?_⟩
        have hx := hxs.get ((a - a % 4 - base) / 4).toNat
        have e1 : wordR base (a - a % 4) xs = ((wordR base (a - a % 4) xs).toNat : Int) := by unfold wordR; unfold u32ok at hx; omega
        have e2 : a % 4 * 8 = ((a % 4 * 8).toNat : Int) := by omega
        have e3 : sz * 8 = ((sz * 8).toNat : Int) := by omega
        refine CallC.pur (.v (.int .u32 (fieldN (wordR base (a - a % 4) xs).toNat (a % 4 * 8).toNat (sz * 8).toNat : Int))) 300 (fun w1 hm1 => ?_) ?_
        · have := field_C w1 (wordR base (a - a % 4) xs).toNat (a % 4 * 8).toNat (sz * 8).toNat (by unfold wordR; unfold u32ok at hx; omega) (by omega)
          rw [← e1, ← e2, ← e3] at this
          exact this
        · simp only [go_sem, Nat.zero_add, Nat.add_zero, Nat.zero_mul, Nat.reduceBEq, Nat.reduceAdd, Nat.reduceMul, Nat.reduceSub, Nat.reduceLT, Nat.reduceLeDiff, Nat.reduceEqDiff, Nat.reduceDiv, Nat.reduceMod, Int.reduceAdd, Int.reduceSub, Int.reduceMul, Int.reduceDiv, Int.reduceMod, Int.reduceLT, Int.reduceLE, Int.reduceEq, Int.reduceToNat, Int.reducePow, Int.reduceNeg, ne_eq, not_false_eq_true, not_true_eq_false, decide_true, decide_false, Bool.not_true, Bool.not_false, forall_const, reduceCtorEq, implies_true, beq_self_eq_true, Int.cast_ofNat_Int, reduceIte, if_true, if_false, Bool.false_eq_true, busO, ramO, Try.ntmps8, fin_ret hE, Try.results8]
          exact fun w' hm' => ⟨(_, 0), rfl, Or.inr (Or.inr ⟨h0, hr, rfl⟩), hm'.below⟩
      · simp only [go_sem, Nat.zero_add, Nat.add_zero, Nat.zero_mul, Nat.reduceBEq, Nat.reduceAdd, Nat.reduceMul, Nat.reduceSub, Nat.reduceLT, Nat.reduceLeDiff, Nat.reduceEqDiff, Nat.reduceDiv, Nat.reduceMod, Int.reduceAdd, Int.reduceSub, Int.reduceMul, Int.reduceDiv, Int.reduceMod, Int.reduceLT, Int.reduceLE, Int.reduceEq, Int.reduceToNat, Int.reducePow, Int.reduceNeg, ne_eq, not_false_eq_true, not_true_eq_false, decide_true, decide_false, Bool.not_true, Bool.not_false, forall_const, reduceCtorEq, implies_true, beq_self_eq_true, Int.cast_ofNat_Int, reduceIte, if_true, if_false, Bool.false_eq_true, busO, ramO, Try.ntmps8, fin_ret hE, Try.results8]
        refine CallC.pur (.u [.v .nilIface, .v (.int .u32 0)]) 300 (fun w1 hm1 => ?_) ?_
        · subst hE
          exact find_C w1 bb (.p 1 br 0) a (hm1.at (t := 0) rfl)
        · simp only [go_sem, Nat.zero_add, Nat.add_zero, Nat.zero_mul, Nat.reduceBEq, Nat.reduceAdd, Nat.reduceMul, Nat.reduceSub, Nat.reduceLT, Nat.reduceLeDiff, Nat.reduceEqDiff, Nat.reduceDiv, Nat.reduceMod, Int.reduceAdd, Int.reduceSub, Int.reduceMul, Int.reduceDiv, Int.reduceMod, Int.reduceLT, Int.reduceLE, Int.reduceEq, Int.reduceToNat, Int.reducePow, Int.reduceNeg, ne_eq, not_false_eq_true, not_true_eq_false, decide_true, decide_false, Bool.not_true, Bool.not_false, forall_const, reduceCtorEq, implies_true, beq_self_eq_true, Int.cast_ofNat_Int, reduceIte, if_true, if_false, Bool.false_eq_true, busO, ramO, Try.ntmps8, fin_ret hE, Try.results8]
          exact fun w' hm' => ⟨(0, 2), rfl, Or.inr (Or.inl ⟨h0, hr, rfl⟩), hm'.below⟩

end Go.Proofs
