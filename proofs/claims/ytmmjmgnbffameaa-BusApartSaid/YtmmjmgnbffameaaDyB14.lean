/- What is stored somewhere changes no byte elsewhere: the statement. -/
import Derived.Test.YtmmjmgnbffameaaDyB13
import Derived.Test.YtmmjmgnbffameaaDyB10
set_option linter.unusedSimpArgs false
set_option linter.unusedVariables false
set_option maxRecDepth 100000
namespace Go.Proofs
open Go.Dx Go.RowKit


theorem busApart_Bn (w : World) (base : Int) (x : BAct) (hb : u32ok base) (hok : x.ok) :
    Calls Try.prog 5 #[den (.g [.v (.int .u32 base), .v (.slice none 0 0)]), den (.g [.v (.int .u8 x.k), .v (.int .u32 x.a), .v (.int .i64 x.s), .v (.int .u32 x.v)])] w fun e w' => e = .returned (.bool true) ∧ Below w.heap.size w w' := by
  have hm : Mem w [] [] w := Mem.reads (by simp) (by simp)
  refine calls_of_ex [.g [.v (.int .u32 base), .v (.slice none 0 0)], .g [.v (.int .u8 x.k), .v (.int .u32 x.a), .v (.int .i64 x.s), .v (.int .u32 x.v)]] _ [] 3 600 Try.func5 rfl hm (by simp [Try.ntmps5]) fun E hE => ?_
  obtain ⟨ok1, ok2, ok3, ok4, ok5, ok6⟩ := hok
  simp only [go_sem, Nat.zero_add, Nat.add_zero, Nat.zero_mul, Nat.reduceBEq, Nat.reduceAdd, Nat.reduceMul, Nat.reduceSub, Nat.reduceLT, Nat.reduceLeDiff, Nat.reduceEqDiff, Nat.reduceDiv, Nat.reduceMod, Int.reduceAdd, Int.reduceSub, Int.reduceMul, Int.reduceDiv, Int.reduceMod, Int.reduceLT, Int.reduceLE, Int.reduceEq, Int.reduceToNat, Int.reducePow, Int.reduceNeg, ne_eq, not_false_eq_true, not_true_eq_false, decide_true, decide_false, Bool.not_true, Bool.not_false, forall_const, reduceCtorEq, implies_true, beq_self_eq_true, Int.cast_ofNat_Int, reduceIte, if_true, if_false, Bool.false_eq_true, Try.ntmps5, fin_ret hE, Try.results5]
  intro b ba
  refine CallC.pur (.v (.bool true)) 600 (fun w1 hm1 => alive_C w1) ?_
  simp only [go_sem, Nat.zero_add, Nat.add_zero, Nat.zero_mul, Nat.reduceBEq, Nat.reduceAdd, Nat.reduceMul, Nat.reduceSub, Nat.reduceLT, Nat.reduceLeDiff, Nat.reduceEqDiff, Nat.reduceDiv, Nat.reduceMod, Int.reduceAdd, Int.reduceSub, Int.reduceMul, Int.reduceDiv, Int.reduceMod, Int.reduceLT, Int.reduceLE, Int.reduceEq, Int.reduceToNat, Int.reducePow, Int.reduceNeg, ne_eq, not_false_eq_true, not_true_eq_false, decide_true, decide_false, Bool.not_true, Bool.not_false, forall_const, reduceCtorEq, implies_true, beq_self_eq_true, Int.cast_ofNat_Int, reduceIte, if_true, if_false, Bool.false_eq_true, Try.ntmps5, fin_ret hE, Try.results5]
  refine CodeC.lex 600 Try.follows_mixed (by kernel_rfl) ?_
  simp only [go_sem, Nat.zero_add, Nat.add_zero, Nat.zero_mul, Nat.reduceBEq, Nat.reduceAdd, Nat.reduceMul, Nat.reduceSub, Nat.reduceLT, Nat.reduceLeDiff, Nat.reduceEqDiff, Nat.reduceDiv, Nat.reduceMod, Int.reduceAdd, Int.reduceSub, Int.reduceMul, Int.reduceDiv, Int.reduceMod, Int.reduceLT, Int.reduceLE, Int.reduceEq, Int.reduceToNat, Int.reducePow, Int.reduceNeg, ne_eq, not_false_eq_true, not_true_eq_false, decide_true, decide_false, Bool.not_true, Bool.not_false, forall_const, reduceCtorEq, implies_true, beq_self_eq_true, Int.cast_ofNat_Int, reduceIte, if_true, if_false, Bool.false_eq_true, Try.ntmps5, fin_ret hE, Try.results5]
  intro bp
  refine CallC.new (γ := Unit) (fun _ b => .p 6 b 0) (fun _ => busO (.p 5 bp 0)) 600 (fun w1 hm1 => ?_) ?_
  · refine (new_C w1 bp).mono ?_
    rintro e w' ⟨c, rfl, h1, h2, h3⟩
    exact ⟨(), c, rfl, h1, h2, h3⟩
  refine ⟨by simp only [go_sem, Nat.zero_add, Nat.add_zero, Nat.zero_mul, Nat.reduceBEq, Nat.reduceAdd, Nat.reduceMul, Nat.reduceSub, Nat.reduceLT, Nat.reduceLeDiff, Nat.reduceEqDiff, Nat.reduceDiv, Nat.reduceMod, Int.reduceAdd, Int.reduceSub, Int.reduceMul, Int.reduceDiv, Int.reduceMod, Int.reduceLT, Int.reduceLE, Int.reduceEq, Int.reduceToNat, Int.reducePow, Int.reduceNeg, ne_eq, not_false_eq_true, not_true_eq_false, decide_true, decide_false, Bool.not_true, Bool.not_false, forall_const, reduceCtorEq, implies_true, beq_self_eq_true, Int.cast_ofNat_Int, reduceIte, if_true, if_false, Bool.false_eq_true, Try.ntmps5], ?_⟩
  intro _ bb
  simp only [go_sem, Nat.zero_add, Nat.add_zero, Nat.zero_mul, Nat.reduceBEq, Nat.reduceAdd, Nat.reduceMul, Nat.reduceSub, Nat.reduceLT, Nat.reduceLeDiff, Nat.reduceEqDiff, Nat.reduceDiv, Nat.reduceMod, Int.reduceAdd, Int.reduceSub, Int.reduceMul, Int.reduceDiv, Int.reduceMod, Int.reduceLT, Int.reduceLE, Int.reduceEq, Int.reduceToNat, Int.reducePow, Int.reduceNeg, ne_eq, not_false_eq_true, not_true_eq_false, decide_true, decide_false, Bool.not_true, Bool.not_false, forall_const, reduceCtorEq, implies_true, beq_self_eq_true, Int.cast_ofNat_Int, reduceIte, if_true, if_false, Bool.false_eq_true, Try.ntmps5, fin_ret hE, Try.results5]
  refine CallC.val (γ := Int × List Int) (fun r => .v (.int .i64 r.1)) (fun r => True) 600 (fun w1 hm1 => ?_) ?_
  · refine (store_nil w1 bb 5 bp base x.a x.s x.v hb ok3 (hm1.at (t := 6) rfl) (hm1.at (t := 5) rfl)).mono ?_
    rintro e w' ⟨r, rfl, h1, h2, h3⟩
    exact ⟨r, rfl, trivial, h3⟩
  refine ⟨by simp only [go_sem, Nat.zero_add, Nat.add_zero, Nat.zero_mul, Nat.reduceBEq, Nat.reduceAdd, Nat.reduceMul, Nat.reduceSub, Nat.reduceLT, Nat.reduceLeDiff, Nat.reduceEqDiff, Nat.reduceDiv, Nat.reduceMod, Int.reduceAdd, Int.reduceSub, Int.reduceMul, Int.reduceDiv, Int.reduceMod, Int.reduceLT, Int.reduceLE, Int.reduceEq, Int.reduceToNat, Int.reducePow, Int.reduceNeg, ne_eq, not_false_eq_true, not_true_eq_false, decide_true, decide_false, Bool.not_true, Bool.not_false, forall_const, reduceCtorEq, implies_true, beq_self_eq_true, Int.cast_ofNat_Int, reduceIte, if_true, if_false, Bool.false_eq_true, Try.ntmps5], fun r _ => ?_⟩
  simp only [go_sem, Nat.zero_add, Nat.add_zero, Nat.zero_mul, Nat.reduceBEq, Nat.reduceAdd, Nat.reduceMul, Nat.reduceSub, Nat.reduceLT, Nat.reduceLeDiff, Nat.reduceEqDiff, Nat.reduceDiv, Nat.reduceMod, Int.reduceAdd, Int.reduceSub, Int.reduceMul, Int.reduceDiv, Int.reduceMod, Int.reduceLT, Int.reduceLE, Int.reduceEq, Int.reduceToNat, Int.reducePow, Int.reduceNeg, ne_eq, not_false_eq_true, not_true_eq_false, decide_true, decide_false, Bool.not_true, Bool.not_false, forall_const, reduceCtorEq, implies_true, beq_self_eq_true, Int.cast_ofNat_Int, reduceIte, if_true, if_false, Bool.false_eq_true, Try.ntmps5, fin_ret hE, Try.results5]
  refine CodeC.loop (γ := Unit) (fun g => ⟨116, 6, [(42, .v (.int .i64 0)), (41, .v (.int .i64 0))], [], []⟩) (fun g => 0) () 600 ⟨rfl, rfl, ⟨rfl, rfl, trivial⟩, trivial⟩ fun g => ?_
  simp only [go_sem, Nat.zero_add, Nat.add_zero, Nat.zero_mul, Nat.reduceBEq, Nat.reduceAdd, Nat.reduceMul, Nat.reduceSub, Nat.reduceLT, Nat.reduceLeDiff, Nat.reduceEqDiff, Nat.reduceDiv, Nat.reduceMod, Int.reduceAdd, Int.reduceSub, Int.reduceMul, Int.reduceDiv, Int.reduceMod, Int.reduceLT, Int.reduceLE, Int.reduceEq, Int.reduceToNat, Int.reducePow, Int.reduceNeg, ne_eq, not_false_eq_true, not_true_eq_false, decide_true, decide_false, Bool.not_true, Bool.not_false, forall_const, reduceCtorEq, implies_true, beq_self_eq_true, Int.cast_ofNat_Int, reduceIte, if_true, if_false, Bool.false_eq_true, Try.ntmps5, fin_ret hE, Try.results5]
  exact fun w' hm' => ⟨rfl, bel1 hm'⟩


theorem busApart_Bs (w : World) (base : Int) (bw o c : Nat) (l : List SV) (T : Nat) (fz : Nat × Nat) (hgw : w.heap[bw]? = some (denO (.z l T fz))) (x : BAct) (hb : u32ok base) (hok : x.ok) :
    Calls Try.prog 5 #[den (.g [.v (.int .u32 base), .s 0 bw o 0 c]), den (.g [.v (.int .u8 x.k), .v (.int .u32 x.a), .v (.int .i64 x.s), .v (.int .u32 x.v)])] w fun e w' => e = .returned (.bool true) ∧ Below w.heap.size w w' := by
  have hm : Mem w [] [⟨0, bw, false, .z l T fz⟩] w := Mem.reads (by simpa using hgw) (by simp)
  refine calls_of_ex [.g [.v (.int .u32 base), .s 0 bw o 0 c], .g [.v (.int .u8 x.k), .v (.int .u32 x.a), .v (.int .i64 x.s), .v (.int .u32 x.v)]] _ [] 3 600 Try.func5 rfl hm (by simp [Try.ntmps5]) fun E hE => ?_
  obtain ⟨ok1, ok2, ok3, ok4, ok5, ok6⟩ := hok
  simp only [go_sem, Nat.zero_add, Nat.add_zero, Nat.zero_mul, Nat.reduceBEq, Nat.reduceAdd, Nat.reduceMul, Nat.reduceSub, Nat.reduceLT, Nat.reduceLeDiff, Nat.reduceEqDiff, Nat.reduceDiv, Nat.reduceMod, Int.reduceAdd, Int.reduceSub, Int.reduceMul, Int.reduceDiv, Int.reduceMod, Int.reduceLT, Int.reduceLE, Int.reduceEq, Int.reduceToNat, Int.reducePow, Int.reduceNeg, ne_eq, not_false_eq_true, not_true_eq_false, decide_true, decide_false, Bool.not_true, Bool.not_false, forall_const, reduceCtorEq, implies_true, beq_self_eq_true, Int.cast_ofNat_Int, reduceIte, if_true, if_false, Bool.false_eq_true, Try.ntmps5, fin_ret hE, Try.results5]
  intro b ba
  refine CallC.pur (.v (.bool true)) 600 (fun w1 hm1 => alive_C w1) ?_
  simp only [go_sem, Nat.zero_add, Nat.add_zero, Nat.zero_mul, Nat.reduceBEq, Nat.reduceAdd, Nat.reduceMul, Nat.reduceSub, Nat.reduceLT, Nat.reduceLeDiff, Nat.reduceEqDiff, Nat.reduceDiv, Nat.reduceMod, Int.reduceAdd, Int.reduceSub, Int.reduceMul, Int.reduceDiv, Int.reduceMod, Int.reduceLT, Int.reduceLE, Int.reduceEq, Int.reduceToNat, Int.reducePow, Int.reduceNeg, ne_eq, not_false_eq_true, not_true_eq_false, decide_true, decide_false, Bool.not_true, Bool.not_false, forall_const, reduceCtorEq, implies_true, beq_self_eq_true, Int.cast_ofNat_Int, reduceIte, if_true, if_false, Bool.false_eq_true, Try.ntmps5, fin_ret hE, Try.results5]
  refine CodeC.lex 600 Try.follows_mixed (by kernel_rfl) ?_
  simp only [go_sem, Nat.zero_add, Nat.add_zero, Nat.zero_mul, Nat.reduceBEq, Nat.reduceAdd, Nat.reduceMul, Nat.reduceSub, Nat.reduceLT, Nat.reduceLeDiff, Nat.reduceEqDiff, Nat.reduceDiv, Nat.reduceMod, Int.reduceAdd, Int.reduceSub, Int.reduceMul, Int.reduceDiv, Int.reduceMod, Int.reduceLT, Int.reduceLE, Int.reduceEq, Int.reduceToNat, Int.reducePow, Int.reduceNeg, ne_eq, not_false_eq_true, not_true_eq_false, decide_true, decide_false, Bool.not_true, Bool.not_false, forall_const, reduceCtorEq, implies_true, beq_self_eq_true, Int.cast_ofNat_Int, reduceIte, if_true, if_false, Bool.false_eq_true, Try.ntmps5, fin_ret hE, Try.results5]
  refine ⟨fun bp => ?_, fun h => h.elim⟩
  refine CallC.new (γ := Unit) (fun _ b => .p 6 b 0) (fun _ => busO (.p 5 bp 0)) 600 (fun w1 hm1 => ?_) ?_
  · refine (new_C w1 bp).mono ?_
    rintro e w' ⟨c, rfl, h1, h2, h3⟩
    exact ⟨(), c, rfl, h1, h2, h3⟩
  refine ⟨by simp only [go_sem, Nat.zero_add, Nat.add_zero, Nat.zero_mul, Nat.reduceBEq, Nat.reduceAdd, Nat.reduceMul, Nat.reduceSub, Nat.reduceLT, Nat.reduceLeDiff, Nat.reduceEqDiff, Nat.reduceDiv, Nat.reduceMod, Int.reduceAdd, Int.reduceSub, Int.reduceMul, Int.reduceDiv, Int.reduceMod, Int.reduceLT, Int.reduceLE, Int.reduceEq, Int.reduceToNat, Int.reducePow, Int.reduceNeg, ne_eq, not_false_eq_true, not_true_eq_false, decide_true, decide_false, Bool.not_true, Bool.not_false, forall_const, reduceCtorEq, implies_true, beq_self_eq_true, Int.cast_ofNat_Int, reduceIte, if_true, if_false, Bool.false_eq_true, Try.ntmps5], ?_⟩
  intro _ bb
  simp only [go_sem, Nat.zero_add, Nat.add_zero, Nat.zero_mul, Nat.reduceBEq, Nat.reduceAdd, Nat.reduceMul, Nat.reduceSub, Nat.reduceLT, Nat.reduceLeDiff, Nat.reduceEqDiff, Nat.reduceDiv, Nat.reduceMod, Int.reduceAdd, Int.reduceSub, Int.reduceMul, Int.reduceDiv, Int.reduceMod, Int.reduceLT, Int.reduceLE, Int.reduceEq, Int.reduceToNat, Int.reducePow, Int.reduceNeg, ne_eq, not_false_eq_true, not_true_eq_false, decide_true, decide_false, Bool.not_true, Bool.not_false, forall_const, reduceCtorEq, implies_true, beq_self_eq_true, Int.cast_ofNat_Int, reduceIte, if_true, if_false, Bool.false_eq_true, Try.ntmps5, fin_ret hE, Try.results5]
  refine CallC.val (γ := Int × List Int) (fun r => .v (.int .i64 r.1)) (fun r => True) 600 (fun w1 hm1 => ?_) ?_
  · refine (store_nil w1 bb 5 bp base x.a x.s x.v hb ok3 (hm1.at (t := 6) rfl) (hm1.at (t := 5) rfl)).mono ?_
    rintro e w' ⟨r, rfl, h1, h2, h3⟩
    exact ⟨r, rfl, trivial, h3⟩
  refine ⟨by simp only [go_sem, Nat.zero_add, Nat.add_zero, Nat.zero_mul, Nat.reduceBEq, Nat.reduceAdd, Nat.reduceMul, Nat.reduceSub, Nat.reduceLT, Nat.reduceLeDiff, Nat.reduceEqDiff, Nat.reduceDiv, Nat.reduceMod, Int.reduceAdd, Int.reduceSub, Int.reduceMul, Int.reduceDiv, Int.reduceMod, Int.reduceLT, Int.reduceLE, Int.reduceEq, Int.reduceToNat, Int.reducePow, Int.reduceNeg, ne_eq, not_false_eq_true, not_true_eq_false, decide_true, decide_false, Bool.not_true, Bool.not_false, forall_const, reduceCtorEq, implies_true, beq_self_eq_true, Int.cast_ofNat_Int, reduceIte, if_true, if_false, Bool.false_eq_true, Try.ntmps5], fun r _ => ?_⟩
  simp only [go_sem, Nat.zero_add, Nat.add_zero, Nat.zero_mul, Nat.reduceBEq, Nat.reduceAdd, Nat.reduceMul, Nat.reduceSub, Nat.reduceLT, Nat.reduceLeDiff, Nat.reduceEqDiff, Nat.reduceDiv, Nat.reduceMod, Int.reduceAdd, Int.reduceSub, Int.reduceMul, Int.reduceDiv, Int.reduceMod, Int.reduceLT, Int.reduceLE, Int.reduceEq, Int.reduceToNat, Int.reducePow, Int.reduceNeg, ne_eq, not_false_eq_true, not_true_eq_false, decide_true, decide_false, Bool.not_true, Bool.not_false, forall_const, reduceCtorEq, implies_true, beq_self_eq_true, Int.cast_ofNat_Int, reduceIte, if_true, if_false, Bool.false_eq_true, Try.ntmps5, fin_ret hE, Try.results5]
  refine CodeC.loop (γ := Unit) (fun g => ⟨116, 6, [(42, .v (.int .i64 0)), (41, .v (.int .i64 0))], [], []⟩) (fun g => 0) () 600 ⟨rfl, rfl, ⟨rfl, rfl, trivial⟩, trivial⟩ fun g => ?_
  simp only [go_sem, Nat.zero_add, Nat.add_zero, Nat.zero_mul, Nat.reduceBEq, Nat.reduceAdd, Nat.reduceMul, Nat.reduceSub, Nat.reduceLT, Nat.reduceLeDiff, Nat.reduceEqDiff, Nat.reduceDiv, Nat.reduceMod, Int.reduceAdd, Int.reduceSub, Int.reduceMul, Int.reduceDiv, Int.reduceMod, Int.reduceLT, Int.reduceLE, Int.reduceEq, Int.reduceToNat, Int.reducePow, Int.reduceNeg, ne_eq, not_false_eq_true, not_true_eq_false, decide_true, decide_false, Bool.not_true, Bool.not_false, forall_const, reduceCtorEq, implies_true, beq_self_eq_true, Int.cast_ofNat_Int, reduceIte, if_true, if_false, Bool.false_eq_true, Try.ntmps5, fin_ret hE, Try.results5]
  exact fun w' hm' => ⟨rfl, bel1 hm'⟩


end Go.Proofs

namespace Go.Proofs.Ytmmjmgnbffameaa.apart
open Go.Dx Go.ChangeShapes Go.WideShapes Go.ChangeAt Go.RowKit

theorem int_arg {W : World} {base : Nat} {t : TypeId} {k : IntKind} {v : Value} (ht : Try.prog.underlying t = some (.int k)) (h : Cell.okWide Try.prog W .any base t v) : ∃ x, v = .int k x ∧ k.min ≤ x ∧ x ≤ k.max := by
  simp only [Cell.okWide, ht] at h
  cases v with
  | int k' x =>
    simp only [Cell.ok, ht] at h
    obtain ⟨rfl, h1, h2⟩ := h
    exact ⟨x, rfl, h1, h2⟩
  | _ => simp_all [Cell.ok]

theorem busApart_calls (H : Type) (enc : TypeId × Value → H) (W : World) (base : Nat) (args : Array Value) (ds : List (DataW H)) (p : List MemPlace)
    (hval : ∀ (j : Nat) t v, Try.f5.params[j]? = some t → args[j]? = some v → Value.okWide Try.prog W .any base t v)
    (hA : DataW.TrodAll enc Try.prog W 0 (fun _ => true) true Try.f5.params.toList args.toList ds p) :
    Calls Try.prog 5 args W fun e W' => e = .returned (.bool true) ∧ Below W.heap.size W W' := by
  rw [Try.params5] at hA hval
  obtain ⟨v0, v1, d0, d1, p0, p1, rfl, rfl, rfl, h0, h1⟩ := trodAll_two hA
  have hv0 := hval 0 25 v0 rfl rfl
  have hv1 := hval 1 33 v1 rfl rfl
  obtain ⟨c0, c1, y0, y1, m, rfl, _, _, t0, t1⟩ := Go.Joins.open_agg2 Try.underlying25 (by kernel_rfl) Try.cells25 hv0 h0
  have hc1 : Cell.okWide Try.prog W .any base 23 c1 := by
    simp only [Value.okWide, Try.underlying25] at hv0
    obtain ⟨cs, hcs, _, ts, hts, _, hrow⟩ := hv0
    have hts' : Try.prog.cellTypes Try.prog.depth 25 = some [22, 23] := by kernel_rfl
    rw [hts'] at hts
    cases hts
    simp only [Value.agg.injEq] at hcs
    subst hcs
    obtain ⟨u, hu, hok⟩ := hrow 1 c1 rfl
    cases hu
    exact hok
  have e1 : IntKind.u32.min = 0 := by decide
  have e2 : IntKind.u32.max = 4294967295 := by decide
  have e3 : IntKind.u8.min = 0 := by decide
  have e4 : IntKind.u8.max = 255 := by decide
  have e5 : IntKind.i64.min = -9223372036854775808 := by decide
  have e6 : IntKind.i64.max = 9223372036854775807 := by decide
  have hx : ∃ x : BAct, x.ok ∧ v1 = den (.g [.v (.int .u8 x.k), .v (.int .u32 x.a), .v (.int .i64 x.s), .v (.int .u32 x.v)]) := by
    simp only [Value.okWide, Try.underlying33] at hv1
    obtain ⟨cs, rfl, hsz, ts, hts, _, hrow⟩ := hv1
    have hts' : Try.prog.cellTypes Try.prog.depth 33 = some [5, 22, 3, 22] := by kernel_rfl
    rw [hts'] at hts
    cases hts
    have hsz4 : cs.size = 4 := hsz.trans Try.cells33
    obtain ⟨u0, hu0, o0⟩ := hrow 0 cs[0] (by simp [hsz4])
    obtain ⟨u1, hu1, o1⟩ := hrow 1 cs[1] (by simp [hsz4])
    obtain ⟨u2, hu2, o2⟩ := hrow 2 cs[2] (by simp [hsz4])
    obtain ⟨u3, hu3, o3⟩ := hrow 3 cs[3] (by simp [hsz4])
    cases hu0
    cases hu1
    cases hu2
    cases hu3
    obtain ⟨k, hk, k1, k2⟩ := int_arg Try.underlying5 o0
    obtain ⟨a, ha, a1, a2⟩ := int_arg Try.underlying22 o1
    obtain ⟨s, hs, s1, s2⟩ := int_arg Try.underlying3 o2
    obtain ⟨v, hv, v1, v2⟩ := int_arg Try.underlying22 o3
    refine ⟨⟨k, a, s, v⟩, ⟨by simp only; omega, by simp only; omega, ⟨by simp only; omega, by simp only; omega⟩, ⟨by simp only; omega, by simp only; omega⟩, by simp only; omega, by simp only; omega⟩, ?_⟩
    have hcs : cs = #[.int .u8 k, .int .u32 a, .int .i64 s, .int .u32 v] := by
      apply Array.ext_getElem?
      intro i
      rcases i with _ | _ | _ | _ | i
      · rw [Array.getElem?_eq_getElem (by omega), hk]; rfl
      · rw [Array.getElem?_eq_getElem (by omega), ha]; rfl
      · rw [Array.getElem?_eq_getElem (by omega), hs]; rfl
      · rw [Array.getElem?_eq_getElem (by omega), hv]; rfl
      · rw [Array.getElem?_eq_none (by omega), Array.getElem?_eq_none (by simp)]
    rw [hcs]
    rfl
  obtain ⟨x, hok, rfl⟩ := hx
  obtain ⟨bb, q0, _, w0⟩ := DataW.trod_int Try.underlying22 t0
  simp only [List.cons.injEq, and_true] at q0
  subst q0
  simp only [Lit.wf, Bool.and_eq_true, decide_eq_true_eq] at w0
  have hb : u32ok bb := by unfold u32ok; omega
  obtain ⟨sl, xs, rfl, hxs, hxl, hsl⟩ := words_arg hc1 t1
  have hxl' : xs.length ≤ 9223372036854775807 := by omega
  rcases hsl with ⟨rfl, rfl⟩ | ⟨b, o, c, l, T, fz, rfl, hg, hseg⟩
  · exact busApart_Bn W bb x hb hok
  · by_cases hne : xs = []
    · subst hne
      exact busApart_Bs W bb b o c l T fz hg x hb hok
    · exact busApart_A W bb b o c l T fz xs x hb hxs hne hxl' hok hg hseg

theorem lifted (os : Os) (started : os.Started) (H : Type) (enc : TypeId × Value → H) :
    ReturnsInHanded {} Try.checked os 5 .any (Rows.busApartSpec.pre6 enc Try.prog Try.f5 Rows.busApartRow.domain false) (Rows.busApartSpec.post enc Try.prog Try.f5 false true false false) := by
  refine returnsInHanded_of_change (C := Try.checked) Try.own started (by kernel_rfl) Try.func5
    (ChangeSpec.witness6 (enc := enc) (C := Try.checked) false ⟨#[], #[.agg #[.int .u32 0, .slice none 0 0], .agg #[.int .u8 0, .int .u32 0, .int .i64 0, .int .u32 0]], []⟩ 8 (by kernel_rfl) (by kernel_rfl) (by kernel_rfl) (by kernel_rfl)) ?_
  intro W base args ds gs before hval0 hW hcnd _
  have hval : ∀ (j : Nat) t v, Try.f5.params[j]? = some t → args[j]? = some v → Value.okWide Try.prog W .any base t v := hval0
  have hW' := hW
  obtain ⟨p, q, hA0, hV, rfl, hfz, hnd⟩ := hW
  have hA : DataW.TrodAll enc Try.prog W 0 (fun _ => true) true Try.f5.params.toList args.toList ds p := hA0
  obtain ⟨rfl, rfl⟩ := trodVars_none hV
  refine (busApart_calls H enc W base args ds p hval hA).mono fun e W' ⟨he, hb⟩ => ?_
  subst he
  refine ⟨_, rfl, post_true Try.laidOut ?_ (by kernel_rfl) (by kernel_rfl) Try.underlying4 rfl ?_ hW' hb⟩
  · rw [Try.params5]
    intro t ht
    simp only [List.mem_cons, List.not_mem_nil, or_false] at ht
    rcases ht with rfl | rfl <;> exact ⟨by kernel_rfl, of_decide_eq_true (by kernel_rfl)⟩
  · rw [Try.params5] at hA
    obtain ⟨v0, v1, d0, d1, p0, p1, _, rfl, _, _, _⟩ := trodAll_two hA
    rfl

theorem holds : Rows.BusApartSaid :=
  OpenClaim.holds_of_wide 5 Try.f5 rfl rfl rfl rfl rfl rfl rfl ⟨rfl, rfl, rfl, rfl, rfl⟩ rfl rfl rfl rfl rfl (by kernel_rfl) Try.func5 (by kernel_rfl)
    (of_decide_eq_true (by kernel_rfl)) (by unfold Func.isWrapper; first | (rw [if_pos (by decide +kernel)]; kernel_rfl) | (rw [if_neg (by decide +kernel)]; exact ⟨rfl, rfl⟩))
    (fun os started H enc _ => lifted os started H enc)

end Go.Proofs.Ytmmjmgnbffameaa.apart
