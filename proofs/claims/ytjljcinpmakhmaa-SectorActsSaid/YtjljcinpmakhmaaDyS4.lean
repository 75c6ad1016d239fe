/- Contracts of a device's registers. -/
import Derived.Test.YtjljcinpmakhmaaDyS3
set_option linter.unusedSimpArgs false
set_option linter.unusedVariables false
set_option linter.unusedSectionVars false
set_option maxRecDepth 100000
set_option maxHeartbeats 4000000
namespace Go.Proofs
open Go.Dx Go.RowKit

/-- What a register tells: the device behind it, the value, the error. -/
def getS (d : DV) (n : Nat) (reg : Int) : DV × Int × Int :=
  if reg = 0 then (d, 0, 0) else if reg = 1 then (d, d.fi, 0) else if reg = 2 then (d, d.ma, 0) else if reg = 3 then (d, if d.er = 0 then 1 else 3, 0)
  else if reg = 4 then (d, d.er, 0) else if reg = 5 then ({ d with pl := (d.pl + 1) % 16 }, d.buf.getD d.pl 0, 0) else if reg = 6 then (d, (n : Int), 0)
  else if reg = 7 then (d, if d.li then 1 else 0, 0) else (d, 0, 3)

/-- What setting a register does. -/
def setS (d : DV) (n : Nat) (reg v : Int) : DV × Int :=
  if reg = 0 then ({ bodyS { d with pl := 0, li := true } n v with er := codeS d n v }, 0) else if reg = 1 then ({ d with fi := v }, 0) else if reg = 2 then ({ d with ma := v }, 0)
  else if reg = 5 then ({ d with buf := d.buf.set d.pl v, pl := (d.pl + 1) % 16 }, 0) else if reg = 7 then ({ d with li := false }, 0) else if reg = 3 ∨ reg = 4 ∨ reg = 6 then (d, 0) else (d, 3)

theorem bodyS_ok (n : Nat) (v : Int) {d : DV} (h : d.Ok n) : (bodyS d n v).Ok n := by
  unfold bodyS
  split
  · exact itS_ok v _ n h _
  · exact h

theorem bodyS_same (d : DV) (n : Nat) (v : Int) : (bodyS d n v).fi = d.fi ∧ (bodyS d n v).ma = d.ma ∧ (bodyS d n v).er = d.er ∧ (bodyS d n v).li = d.li ∧ (bodyS d n v).pl = d.pl := by
  unfold bodyS
  split
  · exact itS_same v _ d _
  · exact ⟨rfl, rfl, rfl, rfl, rfl⟩

theorem getS_ok (n : Nat) (reg : Int) {d : DV} (h : d.Ok n) : (getS d n reg).1.Ok n := by
  unfold getS
  have hp : ({ d with pl := (d.pl + 1) % 16 } : DV).Ok n := ⟨h.fi, h.ma, h.buf, by simp only; omega, h.disk, h.n⟩
  repeat' (first | exact h | exact hp | split)

theorem setS_ok (n : Nat) (reg v : Int) (hv : u32k v) {d : DV} (h : d.Ok n) : (setS d n reg v).1.Ok n := by
  unfold setS
  have h0 : ({ d with pl := 0, li := true } : DV).Ok n := ⟨h.fi, h.ma, h.buf, by simp only; omega, h.disk, h.n⟩
  have h1 := bodyS_ok n v h0
  have a0 : ({ bodyS { d with pl := 0, li := true } n v with er := codeS d n v } : DV).Ok n := ⟨h1.fi, h1.ma, h1.buf, h1.pl, h1.disk, h1.n⟩
  have a1 : ({ d with fi := v } : DV).Ok n := ⟨hv, h.ma, h.buf, h.pl, h.disk, h.n⟩
  have a2 : ({ d with ma := v } : DV).Ok n := ⟨h.fi, hv, h.buf, h.pl, h.disk, h.n⟩
  have a5 : ({ d with buf := d.buf.set d.pl v, pl := (d.pl + 1) % 16 } : DV).Ok n := ⟨h.fi, h.ma, by simpa using h.buf, by simp only; omega, h.disk, h.n⟩
  have a7 : ({ d with li := false } : DV).Ok n := ⟨h.fi, h.ma, h.buf, h.pl, h.disk, h.n⟩
  repeat' (first | exact h | exact a0 | exact a1 | exact a2 | exact a5 | exact a7 | split)

section
variable (w : World) (bd bm bk n : Nat) (left : Int) (d : DV) (hd : d.Ok n) (reg : Int) (h : Mem w [bd, bm, bk] (devH bd bm bk n left d) w)
include hd h

theorem get_C (hr : -9223372036854775808 ≤ reg ∧ reg ≤ 9223372036854775807) : Calls Try.prog 10 #[.pointer (some ⟨bd, 0, none⟩), .int .i64 reg] w fun e w' =>
    e = .returned (den (.u [.v (.int .u32 (getS d n reg).2.1), .v (.int .i64 (getS d n reg).2.2)])) ∧ Mem w [bd, bm, bk] (devH bd bm bk n left (getS d n reg).1) w' := by
  refine calls_of_ex [.p 2 bd 0, .v (.int .i64 reg)] _ [bd, bm, bk] 3 300 Try.func10 rfl h (by simp [Try.ntmps10]) fun E hE => ?_
  have hb := hd.buf
  have hp := hd.pl
  have hn := hd.n
  simp (maxSteps := 2000000) only [go_sem, ↓dxc_true, ↓dxc_false, ↓bxc_true, ↓bxc_false, Nat.zero_add, Nat.add_zero, Nat.zero_mul, Nat.reduceBEq, Nat.reduceAdd, Nat.reduceMul, Nat.reduceSub, Nat.reduceLT, Nat.reduceLeDiff, Nat.reduceEqDiff, Nat.reduceDiv, Nat.reduceMod, Int.reduceAdd, Int.reduceSub, Int.reduceMul, Int.reduceDiv, Int.reduceMod, Int.reduceLT, Int.reduceLE, Int.reduceEq, Int.reduceToNat, Int.reducePow, Int.reduceNeg, ne_eq, not_false_eq_true, not_true_eq_false, decide_true, decide_false, Bool.not_true, Bool.not_false, forall_const, reduceCtorEq, implies_true, beq_self_eq_true, Int.cast_ofNat_Int, reduceIte, if_true, if_false, Bool.false_eq_true, Try.ntmps10, fin_ret hE, Try.results10]
  refine CallC.pur (.v (.bool true)) 300 (fun w1 hm1 => ?_) ?_
  · exact good_C w1 bd bm d.fi d.ma d.er d.li d.buf d.pl hb (hm1.at (t := 2) rfl)
  by_cases r0 : reg = 0
  · subst r0
    simp (maxSteps := 2000000) only [go_sem, ↓dxc_true, ↓dxc_false, ↓bxc_true, ↓bxc_false, Nat.zero_add, Nat.add_zero, Nat.zero_mul, Nat.reduceBEq, Nat.reduceAdd, Nat.reduceMul, Nat.reduceSub, Nat.reduceLT, Nat.reduceLeDiff, Nat.reduceEqDiff, Nat.reduceDiv, Nat.reduceMod, Int.reduceAdd, Int.reduceSub, Int.reduceMul, Int.reduceDiv, Int.reduceMod, Int.reduceLT, Int.reduceLE, Int.reduceEq, Int.reduceToNat, Int.reducePow, Int.reduceNeg, ne_eq, not_false_eq_true, not_true_eq_false, decide_true, decide_false, Bool.not_true, Bool.not_false, forall_const, reduceCtorEq, implies_true, beq_self_eq_true, Int.cast_ofNat_Int, reduceIte, if_true, if_false, Bool.false_eq_true, Try.ntmps10, fin_ret hE, Try.results10]
    exact fun w' hm' => ⟨rfl, hm'⟩
  by_cases r1 : reg = 1
  · subst r1
    simp (maxSteps := 2000000) only [go_sem, ↓dxc_true, ↓dxc_false, ↓bxc_true, ↓bxc_false, Nat.zero_add, Nat.add_zero, Nat.zero_mul, Nat.reduceBEq, Nat.reduceAdd, Nat.reduceMul, Nat.reduceSub, Nat.reduceLT, Nat.reduceLeDiff, Nat.reduceEqDiff, Nat.reduceDiv, Nat.reduceMod, Int.reduceAdd, Int.reduceSub, Int.reduceMul, Int.reduceDiv, Int.reduceMod, Int.reduceLT, Int.reduceLE, Int.reduceEq, Int.reduceToNat, Int.reducePow, Int.reduceNeg, ne_eq, not_false_eq_true, not_true_eq_false, decide_true, decide_false, Bool.not_true, Bool.not_false, forall_const, reduceCtorEq, implies_true, beq_self_eq_true, Int.cast_ofNat_Int, reduceIte, if_true, if_false, Bool.false_eq_true, devH, devO, Try.ntmps10, fin_ret hE, Try.results10, List.length_append, nums_length, hb]
    exact fun w' hm' => ⟨rfl, hm'⟩
  by_cases r2 : reg = 2
  · subst r2
    simp (maxSteps := 2000000) only [go_sem, ↓dxc_true, ↓dxc_false, ↓bxc_true, ↓bxc_false, Nat.zero_add, Nat.add_zero, Nat.zero_mul, Nat.reduceBEq, Nat.reduceAdd, Nat.reduceMul, Nat.reduceSub, Nat.reduceLT, Nat.reduceLeDiff, Nat.reduceEqDiff, Nat.reduceDiv, Nat.reduceMod, Int.reduceAdd, Int.reduceSub, Int.reduceMul, Int.reduceDiv, Int.reduceMod, Int.reduceLT, Int.reduceLE, Int.reduceEq, Int.reduceToNat, Int.reducePow, Int.reduceNeg, ne_eq, not_false_eq_true, not_true_eq_false, decide_true, decide_false, Bool.not_true, Bool.not_false, forall_const, reduceCtorEq, implies_true, beq_self_eq_true, Int.cast_ofNat_Int, reduceIte, if_true, if_false, Bool.false_eq_true, devH, devO, Try.ntmps10, fin_ret hE, Try.results10, List.length_append, nums_length, hb]
    exact fun w' hm' => ⟨rfl, hm'⟩
  by_cases r3 : reg = 3
  · subst r3
    simp (maxSteps := 2000000) only [go_sem, ↓dxc_true, ↓dxc_false, ↓bxc_true, ↓bxc_false, Nat.zero_add, Nat.add_zero, Nat.zero_mul, Nat.reduceBEq, Nat.reduceAdd, Nat.reduceMul, Nat.reduceSub, Nat.reduceLT, Nat.reduceLeDiff, Nat.reduceEqDiff, Nat.reduceDiv, Nat.reduceMod, Int.reduceAdd, Int.reduceSub, Int.reduceMul, Int.reduceDiv, Int.reduceMod, Int.reduceLT, Int.reduceLE, Int.reduceEq, Int.reduceToNat, Int.reducePow, Int.reduceNeg, ne_eq, not_false_eq_true, not_true_eq_false, decide_true, decide_false, Bool.not_true, Bool.not_false, forall_const, reduceCtorEq, implies_true, beq_self_eq_true, Int.cast_ofNat_Int, reduceIte, if_true, if_false, Bool.false_eq_true, devH, devO, Try.ntmps10, fin_ret hE, Try.results10, List.length_append, nums_length, hb]
    obtain ⟨x, hx, hx2⟩ : ∃ x : Int, (if !decide (d.er = 0) then 1 else 0) = x ∧ (x = 0 ∧ d.er = 0 ∨ x = 1 ∧ ¬ d.er = 0) := ⟨_, rfl, by by_cases e0 : d.er = 0 <;> simp [e0]⟩
    refine CallC.pur (.v (.int .u32 x)) 300 (fun w1 hm1 => ?_) ?_
    · have := bit_C w1 (!decide (d.er = 0))
      rw [hx] at this
      exact this
    simp (maxSteps := 2000000) only [go_sem, ↓dxc_true, ↓dxc_false, ↓bxc_true, ↓bxc_false, Nat.zero_add, Nat.add_zero, Nat.zero_mul, Nat.reduceBEq, Nat.reduceAdd, Nat.reduceMul, Nat.reduceSub, Nat.reduceLT, Nat.reduceLeDiff, Nat.reduceEqDiff, Nat.reduceDiv, Nat.reduceMod, Int.reduceAdd, Int.reduceSub, Int.reduceMul, Int.reduceDiv, Int.reduceMod, Int.reduceLT, Int.reduceLE, Int.reduceEq, Int.reduceToNat, Int.reducePow, Int.reduceNeg, ne_eq, not_false_eq_true, not_true_eq_false, decide_true, decide_false, Bool.not_true, Bool.not_false, forall_const, reduceCtorEq, implies_true, beq_self_eq_true, Int.cast_ofNat_Int, reduceIte, if_true, if_false, Bool.false_eq_true, devH, devO, Try.ntmps10, fin_ret hE, Try.results10]
    have e1 : ior 1 (x * 2 % 4294967296) = (getS d n 3).2.1 := by
      rcases hx2 with ⟨rfl, e0⟩ | ⟨rfl, e0⟩
      · simp [getS, e0]; decide
      · simp [getS, e0]; decide
    rw [e1]
    exact ⟨by omega, fun w' hm' => ⟨rfl, hm'⟩⟩
  by_cases r4 : reg = 4
  · subst r4
    simp (maxSteps := 2000000) only [go_sem, ↓dxc_true, ↓dxc_false, ↓bxc_true, ↓bxc_false, Nat.zero_add, Nat.add_zero, Nat.zero_mul, Nat.reduceBEq, Nat.reduceAdd, Nat.reduceMul, Nat.reduceSub, Nat.reduceLT, Nat.reduceLeDiff, Nat.reduceEqDiff, Nat.reduceDiv, Nat.reduceMod, Int.reduceAdd, Int.reduceSub, Int.reduceMul, Int.reduceDiv, Int.reduceMod, Int.reduceLT, Int.reduceLE, Int.reduceEq, Int.reduceToNat, Int.reducePow, Int.reduceNeg, ne_eq, not_false_eq_true, not_true_eq_false, decide_true, decide_false, Bool.not_true, Bool.not_false, forall_const, reduceCtorEq, implies_true, beq_self_eq_true, Int.cast_ofNat_Int, reduceIte, if_true, if_false, Bool.false_eq_true, devH, devO, Try.ntmps10, fin_ret hE, Try.results10, List.length_append, nums_length, hb]
    exact fun w' hm' => ⟨rfl, hm'⟩
  by_cases r5 : reg = 5
  · subst r5
    simp (maxSteps := 2000000) only [go_sem, ↓dxc_true, ↓dxc_false, ↓bxc_true, ↓bxc_false, Nat.zero_add, Nat.add_zero, Nat.zero_mul, Nat.reduceBEq, Nat.reduceAdd, Nat.reduceMul, Nat.reduceSub, Nat.reduceLT, Nat.reduceLeDiff, Nat.reduceEqDiff, Nat.reduceDiv, Nat.reduceMod, Int.reduceAdd, Int.reduceSub, Int.reduceMul, Int.reduceDiv, Int.reduceMod, Int.reduceLT, Int.reduceLE, Int.reduceEq, Int.reduceToNat, Int.reducePow, Int.reduceNeg, ne_eq, not_false_eq_true, not_true_eq_false, decide_true, decide_false, Bool.not_true, Bool.not_false, forall_const, reduceCtorEq, implies_true, beq_self_eq_true, Int.cast_ofNat_Int, reduceIte, if_true, if_false, Bool.false_eq_true, devH, devO, Try.ntmps10, fin_ret hE, Try.results10, List.length_append, nums_length, hb]
    refine CallC.mut (γ := Unit) (fun _ => .p 2 bd (5 + d.pl)) (fun _ => devH bd bm bk n left { d with pl := (d.pl + 1) % 16 }) (fun _ => True) 300 (fun w1 hm1 => ?_) ?_
    · refine (window_C w1 bd bm d.fi d.ma d.er d.li d.buf d.pl hb hp (Mem.here (l0 := []) (l := [_]) (r := [_, _]) hm1 (by simp))).mono ?_
      rintro e w' ⟨rfl, hm'⟩
      exact ⟨(), rfl, trivial, Mem.updS (l0 := []) (l := [_]) (r := [_, _]) hm1 hm' rfl (by simp)⟩
    refine ⟨by simp (maxSteps := 2000000) only [go_sem, ↓dxc_true, ↓dxc_false, ↓bxc_true, ↓bxc_false, Nat.zero_add, Nat.add_zero, Nat.zero_mul, Nat.reduceBEq, Nat.reduceAdd, Nat.reduceMul, Nat.reduceSub, Nat.reduceLT, Nat.reduceLeDiff, Nat.reduceEqDiff, Nat.reduceDiv, Nat.reduceMod, Int.reduceAdd, Int.reduceSub, Int.reduceMul, Int.reduceDiv, Int.reduceMod, Int.reduceLT, Int.reduceLE, Int.reduceEq, Int.reduceToNat, Int.reducePow, Int.reduceNeg, ne_eq, not_false_eq_true, not_true_eq_false, decide_true, decide_false, Bool.not_true, Bool.not_false, forall_const, reduceCtorEq, implies_true, beq_self_eq_true, Int.cast_ofNat_Int, reduceIte, if_true, if_false, Bool.false_eq_true, Try.ntmps10], fun _ _ => ?_⟩
    simp (maxSteps := 2000000) only [go_sem, ↓dxc_true, ↓dxc_false, ↓bxc_true, ↓bxc_false, Nat.zero_add, Nat.add_zero, Nat.zero_mul, Nat.reduceBEq, Nat.reduceAdd, Nat.reduceMul, Nat.reduceSub, Nat.reduceLT, Nat.reduceLeDiff, Nat.reduceEqDiff, Nat.reduceDiv, Nat.reduceMod, Int.reduceAdd, Int.reduceSub, Int.reduceMul, Int.reduceDiv, Int.reduceMod, Int.reduceLT, Int.reduceLE, Int.reduceEq, Int.reduceToNat, Int.reducePow, Int.reduceNeg, ne_eq, not_false_eq_true, not_true_eq_false, decide_true, decide_false, Bool.not_true, Bool.not_false, forall_const, reduceCtorEq, implies_true, beq_self_eq_true, Int.cast_ofNat_Int, reduceIte, if_true, if_false, Bool.false_eq_true, devH, devO, Try.ntmps10, fin_ret hE, Try.results10, List.length_append, nums_length, hb, ld1_5, ld1_own (show d.pl < d.buf.length by omega)]
    exact ⟨by omega, fun w' hm' => ⟨rfl, hm'⟩⟩
  by_cases r6 : reg = 6
  · subst r6
    simp (maxSteps := 2000000) only [go_sem, ↓dxc_true, ↓dxc_false, ↓bxc_true, ↓bxc_false, Nat.zero_add, Nat.add_zero, Nat.zero_mul, Nat.reduceBEq, Nat.reduceAdd, Nat.reduceMul, Nat.reduceSub, Nat.reduceLT, Nat.reduceLeDiff, Nat.reduceEqDiff, Nat.reduceDiv, Nat.reduceMod, Int.reduceAdd, Int.reduceSub, Int.reduceMul, Int.reduceDiv, Int.reduceMod, Int.reduceLT, Int.reduceLE, Int.reduceEq, Int.reduceToNat, Int.reducePow, Int.reduceNeg, ne_eq, not_false_eq_true, not_true_eq_false, decide_true, decide_false, Bool.not_true, Bool.not_false, forall_const, reduceCtorEq, implies_true, beq_self_eq_true, Int.cast_ofNat_Int, reduceIte, if_true, if_false, Bool.false_eq_true, devH, devO, Try.ntmps10, fin_ret hE, Try.results10, List.length_append, nums_length, hb]
    refine CallC.pur (.v (.int .i64 (n : Int))) 300 (fun w1 hm1 => ?_) ?_
    · exact sectors_C w1 bm bk n left (hm1.at (t := 1) rfl)
    have e1 : (n : Int) % 4294967296 = n := by omega
    simp (maxSteps := 2000000) only [go_sem, ↓dxc_true, ↓dxc_false, ↓bxc_true, ↓bxc_false, Nat.zero_add, Nat.add_zero, Nat.zero_mul, Nat.reduceBEq, Nat.reduceAdd, Nat.reduceMul, Nat.reduceSub, Nat.reduceLT, Nat.reduceLeDiff, Nat.reduceEqDiff, Nat.reduceDiv, Nat.reduceMod, Int.reduceAdd, Int.reduceSub, Int.reduceMul, Int.reduceDiv, Int.reduceMod, Int.reduceLT, Int.reduceLE, Int.reduceEq, Int.reduceToNat, Int.reducePow, Int.reduceNeg, ne_eq, not_false_eq_true, not_true_eq_false, decide_true, decide_false, Bool.not_true, Bool.not_false, forall_const, reduceCtorEq, implies_true, beq_self_eq_true, Int.cast_ofNat_Int, reduceIte, if_true, if_false, Bool.false_eq_true, devH, devO, Try.ntmps10, fin_ret hE, Try.results10, e1]
    exact fun w' hm' => ⟨rfl, hm'⟩
  by_cases r7 : reg = 7
  · subst r7
    simp (maxSteps := 2000000) only [go_sem, ↓dxc_true, ↓dxc_false, ↓bxc_true, ↓bxc_false, Nat.zero_add, Nat.add_zero, Nat.zero_mul, Nat.reduceBEq, Nat.reduceAdd, Nat.reduceMul, Nat.reduceSub, Nat.reduceLT, Nat.reduceLeDiff, Nat.reduceEqDiff, Nat.reduceDiv, Nat.reduceMod, Int.reduceAdd, Int.reduceSub, Int.reduceMul, Int.reduceDiv, Int.reduceMod, Int.reduceLT, Int.reduceLE, Int.reduceEq, Int.reduceToNat, Int.reducePow, Int.reduceNeg, ne_eq, not_false_eq_true, not_true_eq_false, decide_true, decide_false, Bool.not_true, Bool.not_false, forall_const, reduceCtorEq, implies_true, beq_self_eq_true, Int.cast_ofNat_Int, reduceIte, if_true, if_false, Bool.false_eq_true, devH, devO, Try.ntmps10, fin_ret hE, Try.results10, List.length_append, nums_length, hb]
    refine CallC.pur (.v (.int .u32 (if d.li then 1 else 0))) 300 (fun w1 hm1 => bit_C w1 _) ?_
    simp (maxSteps := 2000000) only [go_sem, ↓dxc_true, ↓dxc_false, ↓bxc_true, ↓bxc_false, Nat.zero_add, Nat.add_zero, Nat.zero_mul, Nat.reduceBEq, Nat.reduceAdd, Nat.reduceMul, Nat.reduceSub, Nat.reduceLT, Nat.reduceLeDiff, Nat.reduceEqDiff, Nat.reduceDiv, Nat.reduceMod, Int.reduceAdd, Int.reduceSub, Int.reduceMul, Int.reduceDiv, Int.reduceMod, Int.reduceLT, Int.reduceLE, Int.reduceEq, Int.reduceToNat, Int.reducePow, Int.reduceNeg, ne_eq, not_false_eq_true, not_true_eq_false, decide_true, decide_false, Bool.not_true, Bool.not_false, forall_const, reduceCtorEq, implies_true, beq_self_eq_true, Int.cast_ofNat_Int, reduceIte, if_true, if_false, Bool.false_eq_true, devH, devO, Try.ntmps10, fin_ret hE, Try.results10]
    exact fun w' hm' => ⟨rfl, hm'⟩
  · simp (maxSteps := 2000000) only [go_sem, ↓dxc_true, ↓dxc_false, ↓bxc_true, ↓bxc_false, Nat.zero_add, Nat.add_zero, Nat.zero_mul, Nat.reduceBEq, Nat.reduceAdd, Nat.reduceMul, Nat.reduceSub, Nat.reduceLT, Nat.reduceLeDiff, Nat.reduceEqDiff, Nat.reduceDiv, Nat.reduceMod, Int.reduceAdd, Int.reduceSub, Int.reduceMul, Int.reduceDiv, Int.reduceMod, Int.reduceLT, Int.reduceLE, Int.reduceEq, Int.reduceToNat, Int.reducePow, Int.reduceNeg, ne_eq, not_false_eq_true, not_true_eq_false, decide_true, decide_false, Bool.not_true, Bool.not_false, forall_const, reduceCtorEq, implies_true, beq_self_eq_true, Int.cast_ofNat_Int, reduceIte, if_true, if_false, Bool.false_eq_true, devH, devO, Try.ntmps10, fin_ret hE, Try.results10, r0, r1, r2, r3, r4, r5, r6, r7]
    have e1 : getS d n reg = (d, 0, 3) := by simp [getS, r0, r1, r2, r3, r4, r5, r6, r7]
    rw [e1]
    exact fun w' hm' => ⟨rfl, hm'⟩

theorem set_C (v : Int) (hv : u32k v) (hl : -9223372036854775800 < left ∧ left ≤ 0) (hr : -9223372036854775808 ≤ reg ∧ reg ≤ 9223372036854775807) : Calls Try.prog 8 #[.pointer (some ⟨bd, 0, none⟩), .int .i64 reg, .int .u32 v] w fun e w' =>
    ∃ left', e = .returned (.int .i64 (setS d n reg v).2) ∧ (left - 4 ≤ left' ∧ left' ≤ left) ∧ Mem w [bd, bm, bk] (devH bd bm bk n left' (setS d n reg v).1) w' := by
  refine calls_of_ex [.p 2 bd 0, .v (.int .i64 reg), .v (.int .u32 v)] _ [bd, bm, bk] 3 300 Try.func8 rfl h (by simp [Try.ntmps8]) fun E hE => ?_
  have hb := hd.buf
  have hp := hd.pl
  have hn := hd.n
  have hle : left - 4 ≤ left ∧ left ≤ left := ⟨by omega, by omega⟩
  simp (maxSteps := 2000000) only [go_sem, ↓dxc_true, ↓dxc_false, ↓bxc_true, ↓bxc_false, Nat.zero_add, Nat.add_zero, Nat.zero_mul, Nat.reduceBEq, Nat.reduceAdd, Nat.reduceMul, Nat.reduceSub, Nat.reduceLT, Nat.reduceLeDiff, Nat.reduceEqDiff, Nat.reduceDiv, Nat.reduceMod, Int.reduceAdd, Int.reduceSub, Int.reduceMul, Int.reduceDiv, Int.reduceMod, Int.reduceLT, Int.reduceLE, Int.reduceEq, Int.reduceToNat, Int.reducePow, Int.reduceNeg, ne_eq, not_false_eq_true, not_true_eq_false, decide_true, decide_false, Bool.not_true, Bool.not_false, forall_const, reduceCtorEq, implies_true, beq_self_eq_true, Int.cast_ofNat_Int, reduceIte, if_true, if_false, Bool.false_eq_true, Try.ntmps8, fin_ret hE, Try.results8]
  refine CallC.pur (.v (.bool true)) 300 (fun w1 hm1 => ?_) ?_
  · exact good_C w1 bd bm d.fi d.ma d.er d.li d.buf d.pl hb (hm1.at (t := 2) rfl)
  by_cases r0 : reg = 0
  · subst r0
    simp (maxSteps := 2000000) only [go_sem, ↓dxc_true, ↓dxc_false, ↓bxc_true, ↓bxc_false, Nat.zero_add, Nat.add_zero, Nat.zero_mul, Nat.reduceBEq, Nat.reduceAdd, Nat.reduceMul, Nat.reduceSub, Nat.reduceLT, Nat.reduceLeDiff, Nat.reduceEqDiff, Nat.reduceDiv, Nat.reduceMod, Int.reduceAdd, Int.reduceSub, Int.reduceMul, Int.reduceDiv, Int.reduceMod, Int.reduceLT, Int.reduceLE, Int.reduceEq, Int.reduceToNat, Int.reducePow, Int.reduceNeg, ne_eq, not_false_eq_true, not_true_eq_false, decide_true, decide_false, Bool.not_true, Bool.not_false, forall_const, reduceCtorEq, implies_true, beq_self_eq_true, Int.cast_ofNat_Int, reduceIte, if_true, if_false, Bool.false_eq_true, devH, devO, Try.ntmps8, fin_ret hE, Try.results8, List.length_append, nums_length, hb, stN_end .u32 d.buf (.v (.int .i64 (d.pl : Int))) (.v (.int .i64 0)) [] 16 hb]
    have h0 : ({ d with pl := 0, li := true } : DV).Ok n := ⟨hd.fi, hd.ma, hd.buf, by simp only; omega, hd.disk, hd.n⟩
    refine CallC.mut (γ := Int) (fun _ => .v (.int .u32 (codeS d n v))) (fun l' => devH bd bm bk n l' (bodyS { d with pl := 0, li := true } n v)) (fun l' => left - 4 ≤ l' ∧ l' ≤ left) 300 (fun w1 hm1 => ?_) ?_
    · refine (command_C w1 bd bm bk n left { d with pl := 0, li := true } h0 v hv hl (Mem.here (l0 := []) (l := [_, _, _]) (r := []) hm1 (by simp))).mono ?_
      rintro e w' ⟨l', rfl, h3, hm'⟩
      exact ⟨l', rfl, h3, Mem.updS (l0 := []) (l := [_, _, _]) (l' := devH bd bm bk n l' (bodyS { d with pl := 0, li := true } n v)) (r := []) hm1 hm' rfl (by simp)⟩
    refine ⟨by simp (maxSteps := 2000000) only [go_sem, ↓dxc_true, ↓dxc_false, ↓bxc_true, ↓bxc_false, Nat.zero_add, Nat.add_zero, Nat.zero_mul, Nat.reduceBEq, Nat.reduceAdd, Nat.reduceMul, Nat.reduceSub, Nat.reduceLT, Nat.reduceLeDiff, Nat.reduceEqDiff, Nat.reduceDiv, Nat.reduceMod, Int.reduceAdd, Int.reduceSub, Int.reduceMul, Int.reduceDiv, Int.reduceMod, Int.reduceLT, Int.reduceLE, Int.reduceEq, Int.reduceToNat, Int.reducePow, Int.reduceNeg, ne_eq, not_false_eq_true, not_true_eq_false, decide_true, decide_false, Bool.not_true, Bool.not_false, forall_const, reduceCtorEq, implies_true, beq_self_eq_true, Int.cast_ofNat_Int, reduceIte, if_true, if_false, Bool.false_eq_true, Try.ntmps8], fun l' hl' => ?_⟩
    have hbo := bodyS_ok n v h0
    simp (maxSteps := 2000000) only [go_sem, ↓dxc_true, ↓dxc_false, ↓bxc_true, ↓bxc_false, Nat.zero_add, Nat.add_zero, Nat.zero_mul, Nat.reduceBEq, Nat.reduceAdd, Nat.reduceMul, Nat.reduceSub, Nat.reduceLT, Nat.reduceLeDiff, Nat.reduceEqDiff, Nat.reduceDiv, Nat.reduceMod, Int.reduceAdd, Int.reduceSub, Int.reduceMul, Int.reduceDiv, Int.reduceMod, Int.reduceLT, Int.reduceLE, Int.reduceEq, Int.reduceToNat, Int.reducePow, Int.reduceNeg, ne_eq, not_false_eq_true, not_true_eq_false, decide_true, decide_false, Bool.not_true, Bool.not_false, forall_const, reduceCtorEq, implies_true, beq_self_eq_true, Int.cast_ofNat_Int, reduceIte, if_true, if_false, Bool.false_eq_true, devH, devO, Try.ntmps8, fin_ret hE, Try.results8, List.length_append, nums_length, hbo.buf]
    exact fun w' hm' => ⟨l', rfl, hl', hm'⟩
  by_cases r1 : reg = 1
  · subst r1
    simp (maxSteps := 2000000) only [go_sem, ↓dxc_true, ↓dxc_false, ↓bxc_true, ↓bxc_false, Nat.zero_add, Nat.add_zero, Nat.zero_mul, Nat.reduceBEq, Nat.reduceAdd, Nat.reduceMul, Nat.reduceSub, Nat.reduceLT, Nat.reduceLeDiff, Nat.reduceEqDiff, Nat.reduceDiv, Nat.reduceMod, Int.reduceAdd, Int.reduceSub, Int.reduceMul, Int.reduceDiv, Int.reduceMod, Int.reduceLT, Int.reduceLE, Int.reduceEq, Int.reduceToNat, Int.reducePow, Int.reduceNeg, ne_eq, not_false_eq_true, not_true_eq_false, decide_true, decide_false, Bool.not_true, Bool.not_false, forall_const, reduceCtorEq, implies_true, beq_self_eq_true, Int.cast_ofNat_Int, reduceIte, if_true, if_false, Bool.false_eq_true, devH, devO, Try.ntmps8, fin_ret hE, Try.results8, List.length_append, nums_length, hb]
    exact fun w' hm' => ⟨left, rfl, hle, hm'⟩
  by_cases r2 : reg = 2
  · subst r2
    simp (maxSteps := 2000000) only [go_sem, ↓dxc_true, ↓dxc_false, ↓bxc_true, ↓bxc_false, Nat.zero_add, Nat.add_zero, Nat.zero_mul, Nat.reduceBEq, Nat.reduceAdd, Nat.reduceMul, Nat.reduceSub, Nat.reduceLT, Nat.reduceLeDiff, Nat.reduceEqDiff, Nat.reduceDiv, Nat.reduceMod, Int.reduceAdd, Int.reduceSub, Int.reduceMul, Int.reduceDiv, Int.reduceMod, Int.reduceLT, Int.reduceLE, Int.reduceEq, Int.reduceToNat, Int.reducePow, Int.reduceNeg, ne_eq, not_false_eq_true, not_true_eq_false, decide_true, decide_false, Bool.not_true, Bool.not_false, forall_const, reduceCtorEq, implies_true, beq_self_eq_true, Int.cast_ofNat_Int, reduceIte, if_true, if_false, Bool.false_eq_true, devH, devO, Try.ntmps8, fin_ret hE, Try.results8, List.length_append, nums_length, hb]
    exact fun w' hm' => ⟨left, rfl, hle, hm'⟩
  by_cases r5 : reg = 5
  · subst r5
    simp (maxSteps := 2000000) only [go_sem, ↓dxc_true, ↓dxc_false, ↓bxc_true, ↓bxc_false, Nat.zero_add, Nat.add_zero, Nat.zero_mul, Nat.reduceBEq, Nat.reduceAdd, Nat.reduceMul, Nat.reduceSub, Nat.reduceLT, Nat.reduceLeDiff, Nat.reduceEqDiff, Nat.reduceDiv, Nat.reduceMod, Int.reduceAdd, Int.reduceSub, Int.reduceMul, Int.reduceDiv, Int.reduceMod, Int.reduceLT, Int.reduceLE, Int.reduceEq, Int.reduceToNat, Int.reducePow, Int.reduceNeg, ne_eq, not_false_eq_true, not_true_eq_false, decide_true, decide_false, Bool.not_true, Bool.not_false, forall_const, reduceCtorEq, implies_true, beq_self_eq_true, Int.cast_ofNat_Int, reduceIte, if_true, if_false, Bool.false_eq_true, devH, devO, Try.ntmps8, fin_ret hE, Try.results8, List.length_append, nums_length, hb]
    refine CallC.mut (γ := Unit) (fun _ => .p 2 bd (5 + d.pl)) (fun _ => devH bd bm bk n left { d with pl := (d.pl + 1) % 16 }) (fun _ => True) 300 (fun w1 hm1 => ?_) ?_
    · refine (window_C w1 bd bm d.fi d.ma d.er d.li d.buf d.pl hb hp (Mem.here (l0 := []) (l := [_]) (r := [_, _]) hm1 (by simp))).mono ?_
      rintro e w' ⟨rfl, hm'⟩
      exact ⟨(), rfl, trivial, Mem.updS (l0 := []) (l := [_]) (r := [_, _]) hm1 hm' rfl (by simp)⟩
    refine ⟨by simp (maxSteps := 2000000) only [go_sem, ↓dxc_true, ↓dxc_false, ↓bxc_true, ↓bxc_false, Nat.zero_add, Nat.add_zero, Nat.zero_mul, Nat.reduceBEq, Nat.reduceAdd, Nat.reduceMul, Nat.reduceSub, Nat.reduceLT, Nat.reduceLeDiff, Nat.reduceEqDiff, Nat.reduceDiv, Nat.reduceMod, Int.reduceAdd, Int.reduceSub, Int.reduceMul, Int.reduceDiv, Int.reduceMod, Int.reduceLT, Int.reduceLE, Int.reduceEq, Int.reduceToNat, Int.reducePow, Int.reduceNeg, ne_eq, not_false_eq_true, not_true_eq_false, decide_true, decide_false, Bool.not_true, Bool.not_false, forall_const, reduceCtorEq, implies_true, beq_self_eq_true, Int.cast_ofNat_Int, reduceIte, if_true, if_false, Bool.false_eq_true, Try.ntmps8], fun _ _ => ?_⟩
    simp (maxSteps := 2000000) only [go_sem, ↓dxc_true, ↓dxc_false, ↓bxc_true, ↓bxc_false, Nat.zero_add, Nat.add_zero, Nat.zero_mul, Nat.reduceBEq, Nat.reduceAdd, Nat.reduceMul, Nat.reduceSub, Nat.reduceLT, Nat.reduceLeDiff, Nat.reduceEqDiff, Nat.reduceDiv, Nat.reduceMod, Int.reduceAdd, Int.reduceSub, Int.reduceMul, Int.reduceDiv, Int.reduceMod, Int.reduceLT, Int.reduceLE, Int.reduceEq, Int.reduceToNat, Int.reducePow, Int.reduceNeg, ne_eq, not_false_eq_true, not_true_eq_false, decide_true, decide_false, Bool.not_true, Bool.not_false, forall_const, reduceCtorEq, implies_true, beq_self_eq_true, Int.cast_ofNat_Int, reduceIte, if_true, if_false, Bool.false_eq_true, devH, devO, Try.ntmps8, fin_ret hE, Try.results8, List.length_append, nums_length, hb, stN_5, stN_nums .u32 d.buf _ d.pl v (show d.pl < d.buf.length by omega)]
    exact ⟨by omega, fun w' hm' => ⟨left, rfl, hle, hm'⟩⟩
  by_cases r7 : reg = 7
  · subst r7
    simp (maxSteps := 2000000) only [go_sem, ↓dxc_true, ↓dxc_false, ↓bxc_true, ↓bxc_false, Nat.zero_add, Nat.add_zero, Nat.zero_mul, Nat.reduceBEq, Nat.reduceAdd, Nat.reduceMul, Nat.reduceSub, Nat.reduceLT, Nat.reduceLeDiff, Nat.reduceEqDiff, Nat.reduceDiv, Nat.reduceMod, Int.reduceAdd, Int.reduceSub, Int.reduceMul, Int.reduceDiv, Int.reduceMod, Int.reduceLT, Int.reduceLE, Int.reduceEq, Int.reduceToNat, Int.reducePow, Int.reduceNeg, ne_eq, not_false_eq_true, not_true_eq_false, decide_true, decide_false, Bool.not_true, Bool.not_false, forall_const, reduceCtorEq, implies_true, beq_self_eq_true, Int.cast_ofNat_Int, reduceIte, if_true, if_false, Bool.false_eq_true, devH, devO, Try.ntmps8, fin_ret hE, Try.results8, List.length_append, nums_length, hb]
    exact fun w' hm' => ⟨left, rfl, hle, hm'⟩
  by_cases r3 : reg = 3
  · subst r3
    simp (maxSteps := 2000000) only [go_sem, ↓dxc_true, ↓dxc_false, ↓bxc_true, ↓bxc_false, Nat.zero_add, Nat.add_zero, Nat.zero_mul, Nat.reduceBEq, Nat.reduceAdd, Nat.reduceMul, Nat.reduceSub, Nat.reduceLT, Nat.reduceLeDiff, Nat.reduceEqDiff, Nat.reduceDiv, Nat.reduceMod, Int.reduceAdd, Int.reduceSub, Int.reduceMul, Int.reduceDiv, Int.reduceMod, Int.reduceLT, Int.reduceLE, Int.reduceEq, Int.reduceToNat, Int.reducePow, Int.reduceNeg, ne_eq, not_false_eq_true, not_true_eq_false, decide_true, decide_false, Bool.not_true, Bool.not_false, forall_const, reduceCtorEq, implies_true, beq_self_eq_true, Int.cast_ofNat_Int, reduceIte, if_true, if_false, Bool.false_eq_true, devH, devO, Try.ntmps8, fin_ret hE, Try.results8, List.length_append, nums_length, hb]
    exact fun w' hm' => ⟨left, rfl, hle, hm'⟩
  by_cases r4 : reg = 4
  · subst r4
    simp (maxSteps := 2000000) only [go_sem, ↓dxc_true, ↓dxc_false, ↓bxc_true, ↓bxc_false, Nat.zero_add, Nat.add_zero, Nat.zero_mul, Nat.reduceBEq, Nat.reduceAdd, Nat.reduceMul, Nat.reduceSub, Nat.reduceLT, Nat.reduceLeDiff, Nat.reduceEqDiff, Nat.reduceDiv, Nat.reduceMod, Int.reduceAdd, Int.reduceSub, Int.reduceMul, Int.reduceDiv, Int.reduceMod, Int.reduceLT, Int.reduceLE, Int.reduceEq, Int.reduceToNat, Int.reducePow, Int.reduceNeg, ne_eq, not_false_eq_true, not_true_eq_false, decide_true, decide_false, Bool.not_true, Bool.not_false, forall_const, reduceCtorEq, implies_true, beq_self_eq_true, Int.cast_ofNat_Int, reduceIte, if_true, if_false, Bool.false_eq_true, devH, devO, Try.ntmps8, fin_ret hE, Try.results8, List.length_append, nums_length, hb]
    exact fun w' hm' => ⟨left, rfl, hle, hm'⟩
  by_cases r6 : reg = 6
  · subst r6
    simp (maxSteps := 2000000) only [go_sem, ↓dxc_true, ↓dxc_false, ↓bxc_true, ↓bxc_false, Nat.zero_add, Nat.add_zero, Nat.zero_mul, Nat.reduceBEq, Nat.reduceAdd, Nat.reduceMul, Nat.reduceSub, Nat.reduceLT, Nat.reduceLeDiff, Nat.reduceEqDiff, Nat.reduceDiv, Nat.reduceMod, Int.reduceAdd, Int.reduceSub, Int.reduceMul, Int.reduceDiv, Int.reduceMod, Int.reduceLT, Int.reduceLE, Int.reduceEq, Int.reduceToNat, Int.reducePow, Int.reduceNeg, ne_eq, not_false_eq_true, not_true_eq_false, decide_true, decide_false, Bool.not_true, Bool.not_false, forall_const, reduceCtorEq, implies_true, beq_self_eq_true, Int.cast_ofNat_Int, reduceIte, if_true, if_false, Bool.false_eq_true, devH, devO, Try.ntmps8, fin_ret hE, Try.results8, List.length_append, nums_length, hb]
    exact fun w' hm' => ⟨left, rfl, hle, hm'⟩
  · simp (maxSteps := 2000000) only [go_sem, ↓dxc_true, ↓dxc_false, ↓bxc_true, ↓bxc_false, Nat.zero_add, Nat.add_zero, Nat.zero_mul, Nat.reduceBEq, Nat.reduceAdd, Nat.reduceMul, Nat.reduceSub, Nat.reduceLT, Nat.reduceLeDiff, Nat.reduceEqDiff, Nat.reduceDiv, Nat.reduceMod, Int.reduceAdd, Int.reduceSub, Int.reduceMul, Int.reduceDiv, Int.reduceMod, Int.reduceLT, Int.reduceLE, Int.reduceEq, Int.reduceToNat, Int.reducePow, Int.reduceNeg, ne_eq, not_false_eq_true, not_true_eq_false, decide_true, decide_false, Bool.not_true, Bool.not_false, forall_const, reduceCtorEq, implies_true, beq_self_eq_true, Int.cast_ofNat_Int, reduceIte, if_true, if_false, Bool.false_eq_true, devH, devO, Try.ntmps8, fin_ret hE, Try.results8, r0, r1, r2, r3, r4, r5, r6, r7]
    have e1 : setS d n reg v = (d, 3) := by simp [setS, r0, r1, r2, r3, r4, r5, r6, r7]
    rw [e1]
    exact fun w' hm' => ⟨left, rfl, hle, hm'⟩

end

theorem new_C (w : World) (bm : Nat) :
    Calls Try.prog 5 #[.iface 24 (.pointer (some ⟨bm, 0, none⟩))] w fun e w' => ∃ b, e = .returned (den (.p 2 b 0)) ∧ w.heap.size ≤ b ∧ w'.heap[b]? = some (denO (devO bm 0 0 0 false (List.replicate 16 0) 0)) ∧ Below w.heap.size w w' := by
  have hm : Mem w [] [] w := Mem.reads (by simp) (by simp)
  refine calls_of_ex [.i 24 (.p 1 bm 0)] _ [] 2 200 Try.func5 rfl hm (by simp [Try.ntmps5]) fun E hE => ?_
  simp (maxSteps := 2000000) only [go_sem, ↓dxc_true, ↓dxc_false, ↓bxc_true, ↓bxc_false, Nat.zero_add, Nat.add_zero, Nat.zero_mul, Nat.reduceBEq, Nat.reduceAdd, Nat.reduceMul, Nat.reduceSub, Nat.reduceLT, Nat.reduceLeDiff, Nat.reduceEqDiff, Nat.reduceDiv, Nat.reduceMod, Int.reduceAdd, Int.reduceSub, Int.reduceMul, Int.reduceDiv, Int.reduceMod, Int.reduceLT, Int.reduceLE, Int.reduceEq, Int.reduceToNat, Int.reducePow, Int.reduceNeg, ne_eq, not_false_eq_true, not_true_eq_false, decide_true, decide_false, Bool.not_true, Bool.not_false, forall_const, reduceCtorEq, implies_true, beq_self_eq_true, Int.cast_ofNat_Int, reduceIte, if_true, if_false, Bool.false_eq_true, Try.ntmps5, fin_ret hE, Try.results5]
  intro b w' hm'
  have h1 := hm'.at (t := 2) rfl
  have h2 := hm'.wr _ List.mem_cons_self rfl
  exact ⟨b, rfl, by simpa using h2, h1, Below.mk hm'.os hm'.tape hm'.output hm'.size fun k hk => hm'.frame k hk (by simp)⟩

end Go.Proofs
