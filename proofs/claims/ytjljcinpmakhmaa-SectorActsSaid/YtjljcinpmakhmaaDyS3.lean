/- Contracts of a device's commands. -/
import Derived.Test.YtjljcinpmakhmaaDyS2
set_option linter.unusedSimpArgs false
set_option linter.unusedVariables false
set_option linter.unusedSectionVars false
set_option maxRecDepth 100000
set_option maxHeartbeats 4000000
namespace Go.Proofs
open Go.Dx Go.RowKit

/-- One sector of a command: sector k, the buffer's part i. -/
def oneS (v : Int) (k i : Nat) (d : DV) : DV :=
  if v = 2 then { d with disk := put4 d.disk (k * 4) (d.buf.getD (i * 4) 0) (d.buf.getD (i * 4 + 1) 0) (d.buf.getD (i * 4 + 2) 0) (d.buf.getD (i * 4 + 3) 0) }
  else if v = 3 then { d with disk := put4 d.disk (k * 4) 0 0 0 0 }
  else { d with buf := put4 d.buf (i * 4) (d.disk.getD (k * 4) 0) (d.disk.getD (k * 4 + 1) 0) (d.disk.getD (k * 4 + 2) 0) (d.disk.getD (k * 4 + 3) 0) }

theorem oneS_ok (v : Int) (k i n : Nat) {d : DV} (h : d.Ok n) : (oneS v k i d).Ok n := by
  unfold oneS
  split
  · exact ⟨h.fi, h.ma, h.buf, h.pl, by simpa using h.disk, h.n⟩
  · split
    · exact ⟨h.fi, h.ma, h.buf, h.pl, by simpa using h.disk, h.n⟩
    · exact ⟨h.fi, h.ma, by simpa using h.buf, h.pl, h.disk, h.n⟩

theorem oneS_same (v : Int) (k i : Nat) (d : DV) : (oneS v k i d).fi = d.fi ∧ (oneS v k i d).ma = d.ma ∧ (oneS v k i d).er = d.er ∧ (oneS v k i d).li = d.li ∧ (oneS v k i d).pl = d.pl := by
  unfold oneS
  split
  · simp
  · split <;> simp

/-- The first i sectors of a command. -/
def itS (v : Int) (f : Nat) : Nat → DV → DV
  | 0, d => d
  | i + 1, d => oneS v (f + i) i (itS v f i d)

theorem itS_ok (v : Int) (f n : Nat) {d : DV} (h : d.Ok n) : ∀ i, (itS v f i d).Ok n
  | 0 => h
  | i + 1 => oneS_ok v (f + i) i n (itS_ok v f n h i)

theorem itS_same (v : Int) (f : Nat) (d : DV) : ∀ i, (itS v f i d).fi = d.fi ∧ (itS v f i d).ma = d.ma ∧ (itS v f i d).er = d.er ∧ (itS v f i d).li = d.li ∧ (itS v f i d).pl = d.pl
  | 0 => ⟨rfl, rfl, rfl, rfl, rfl⟩
  | i + 1 => by
    obtain ⟨h1, h2, h3, h4, h5⟩ := oneS_same v (f + i) i (itS v f i d)
    obtain ⟨g1, g2, g3, g4, g5⟩ := itS_same v f d i
    exact ⟨h1.trans g1, h2.trans g2, h3.trans g3, h4.trans g4, h5.trans g5⟩

section
variable (w : World) (bd bm bk n : Nat) (left : Int) (d : DV) (hd : d.Ok n) (k i : Nat) (hk : k < n) (hi : i < 4) (hl : -9223372036854775808 < left ∧ left ≤ 0) (h : Mem w [bd, bm, bk] (devH bd bm bk n left d) w)
include hd hk hi hl h

theorem one2_C : Calls Try.prog 19 #[.pointer (some ⟨bd, 0, none⟩), .int .u32 2, .int .i64 (k : Int), .pointer (some ⟨bd, 5 + i * 4, none⟩)] w fun e w' => e = .returned (.int .i64 0) ∧
    Mem w [bd, bm, bk] (devH bd bm bk n (left - 1) (oneS 2 k i d)) w' := by
  refine calls_of_ex [.p 2 bd 0, .v (.int .u32 2), .v (.int .i64 (k : Int)), .p 2 bd (5 + i * 4)] _ [bd, bm, bk] 3 200 Try.func19 rfl h (by simp [Try.ntmps19]) fun E hE => ?_
  have hb := hd.buf
  simp (maxSteps := 2000000) only [go_sem, ↓dxc_true, ↓dxc_false, ↓bxc_true, ↓bxc_false, Nat.zero_add, Nat.add_zero, Nat.zero_mul, Nat.reduceBEq, Nat.reduceAdd, Nat.reduceMul, Nat.reduceSub, Nat.reduceLT, Nat.reduceLeDiff, Nat.reduceEqDiff, Nat.reduceDiv, Nat.reduceMod, Int.reduceAdd, Int.reduceSub, Int.reduceMul, Int.reduceDiv, Int.reduceMod, Int.reduceLT, Int.reduceLE, Int.reduceEq, Int.reduceToNat, Int.reducePow, Int.reduceNeg, ne_eq, not_false_eq_true, not_true_eq_false, decide_true, decide_false, Bool.not_true, Bool.not_false, forall_const, reduceCtorEq, implies_true, beq_self_eq_true, Int.cast_ofNat_Int, reduceIte, if_true, if_false, Bool.false_eq_true, devH, devO, memO, rowO, Try.ntmps19, fin_ret hE, Try.results19]
  refine CodeC.lexb [10] 200 Try.follows_mixed (by kernel_rfl) ?_
  simp (maxSteps := 2000000) only [go_sem, ↓dxc_true, ↓dxc_false, ↓bxc_true, ↓bxc_false, Nat.zero_add, Nat.add_zero, Nat.zero_mul, Nat.reduceBEq, Nat.reduceAdd, Nat.reduceMul, Nat.reduceSub, Nat.reduceLT, Nat.reduceLeDiff, Nat.reduceEqDiff, Nat.reduceDiv, Nat.reduceMod, Int.reduceAdd, Int.reduceSub, Int.reduceMul, Int.reduceDiv, Int.reduceMod, Int.reduceLT, Int.reduceLE, Int.reduceEq, Int.reduceToNat, Int.reducePow, Int.reduceNeg, ne_eq, not_false_eq_true, not_true_eq_false, decide_true, decide_false, Bool.not_true, Bool.not_false, forall_const, reduceCtorEq, implies_true, beq_self_eq_true, Int.cast_ofNat_Int, reduceIte, if_true, if_false, Bool.false_eq_true, devH, devO, memO, rowO, Try.ntmps19, fin_ret hE, Try.results19, List.length_append, nums_length, hb, ldN_5, ldN4 .u32 d.buf [.v (.int .i64 (d.pl : Int))] (i * 4) (by omega)]
  refine ⟨by omega, ?_⟩
  refine CallD.mut (γ := Unit) (fun _ => .v (.int .i64 0)) (fun _ => devH bd bm bk n (left - 1) (oneS 2 k i d)) (fun _ => True) (fun w1 hm1 => ?_) ?_
  · refine (write_C w1 bm bk n left d.disk k _ _ _ _ hk hd.disk hl (Mem.here (l0 := [_]) (l := [_, _]) (r := []) hm1 (by simp))).mono ?_
    rintro e w' ⟨rfl, hm'⟩
    exact ⟨(), rfl, trivial, Mem.updS (l0 := [_]) (l := [_, _]) (r := []) hm1 hm' rfl (by simp)⟩
  refine ⟨by simp (maxSteps := 2000000) only [go_sem, ↓dxc_true, ↓dxc_false, ↓bxc_true, ↓bxc_false, Nat.zero_add, Nat.add_zero, Nat.zero_mul, Nat.reduceBEq, Nat.reduceAdd, Nat.reduceMul, Nat.reduceSub, Nat.reduceLT, Nat.reduceLeDiff, Nat.reduceEqDiff, Nat.reduceDiv, Nat.reduceMod, Int.reduceAdd, Int.reduceSub, Int.reduceMul, Int.reduceDiv, Int.reduceMod, Int.reduceLT, Int.reduceLE, Int.reduceEq, Int.reduceToNat, Int.reducePow, Int.reduceNeg, ne_eq, not_false_eq_true, not_true_eq_false, decide_true, decide_false, Bool.not_true, Bool.not_false, forall_const, reduceCtorEq, implies_true, beq_self_eq_true, Int.cast_ofNat_Int, reduceIte, if_true, if_false, Bool.false_eq_true, Try.ntmps19], fun _ _ => ?_⟩
  simp (maxSteps := 2000000) only [go_sem, ↓dxc_true, ↓dxc_false, ↓bxc_true, ↓bxc_false, Nat.zero_add, Nat.add_zero, Nat.zero_mul, Nat.reduceBEq, Nat.reduceAdd, Nat.reduceMul, Nat.reduceSub, Nat.reduceLT, Nat.reduceLeDiff, Nat.reduceEqDiff, Nat.reduceDiv, Nat.reduceMod, Int.reduceAdd, Int.reduceSub, Int.reduceMul, Int.reduceDiv, Int.reduceMod, Int.reduceLT, Int.reduceLE, Int.reduceEq, Int.reduceToNat, Int.reducePow, Int.reduceNeg, ne_eq, not_false_eq_true, not_true_eq_false, decide_true, decide_false, Bool.not_true, Bool.not_false, forall_const, reduceCtorEq, implies_true, beq_self_eq_true, Int.cast_ofNat_Int, reduceIte, if_true, if_false, Bool.false_eq_true, Try.ntmps19, fin_ret hE, Try.results19]
  exact fun w' hm' => ⟨rfl, hm'⟩

theorem one3_C : Calls Try.prog 19 #[.pointer (some ⟨bd, 0, none⟩), .int .u32 3, .int .i64 (k : Int), .pointer (some ⟨bd, 5 + i * 4, none⟩)] w fun e w' => e = .returned (.int .i64 0) ∧
    Mem w [bd, bm, bk] (devH bd bm bk n (left - 1) (oneS 3 k i d)) w' := by
  refine calls_of_ex [.p 2 bd 0, .v (.int .u32 3), .v (.int .i64 (k : Int)), .p 2 bd (5 + i * 4)] _ [bd, bm, bk] 3 200 Try.func19 rfl h (by simp [Try.ntmps19]) fun E hE => ?_
  have hb := hd.buf
  simp (maxSteps := 2000000) only [go_sem, ↓dxc_true, ↓dxc_false, ↓bxc_true, ↓bxc_false, Nat.zero_add, Nat.add_zero, Nat.zero_mul, Nat.reduceBEq, Nat.reduceAdd, Nat.reduceMul, Nat.reduceSub, Nat.reduceLT, Nat.reduceLeDiff, Nat.reduceEqDiff, Nat.reduceDiv, Nat.reduceMod, Int.reduceAdd, Int.reduceSub, Int.reduceMul, Int.reduceDiv, Int.reduceMod, Int.reduceLT, Int.reduceLE, Int.reduceEq, Int.reduceToNat, Int.reducePow, Int.reduceNeg, ne_eq, not_false_eq_true, not_true_eq_false, decide_true, decide_false, Bool.not_true, Bool.not_false, forall_const, reduceCtorEq, implies_true, beq_self_eq_true, Int.cast_ofNat_Int, reduceIte, if_true, if_false, Bool.false_eq_true, devH, devO, memO, rowO, Try.ntmps19, fin_ret hE, Try.results19, List.length_append, nums_length, hb]
  refine CallC.mut (γ := Unit) (fun _ => .v (.int .i64 0)) (fun _ => devH bd bm bk n (left - 1) (oneS 3 k i d)) (fun _ => True) 200 (fun w1 hm1 => ?_) ?_
  · refine (trim_C w1 bm bk n left d.disk k hk hd.disk hl (Mem.here (l0 := [_]) (l := [_, _]) (r := []) hm1 (by simp))).mono ?_
    rintro e w' ⟨rfl, hm'⟩
    exact ⟨(), rfl, trivial, Mem.updS (l0 := [_]) (l := [_, _]) (r := []) hm1 hm' rfl (by simp)⟩
  refine ⟨by simp (maxSteps := 2000000) only [go_sem, ↓dxc_true, ↓dxc_false, ↓bxc_true, ↓bxc_false, Nat.zero_add, Nat.add_zero, Nat.zero_mul, Nat.reduceBEq, Nat.reduceAdd, Nat.reduceMul, Nat.reduceSub, Nat.reduceLT, Nat.reduceLeDiff, Nat.reduceEqDiff, Nat.reduceDiv, Nat.reduceMod, Int.reduceAdd, Int.reduceSub, Int.reduceMul, Int.reduceDiv, Int.reduceMod, Int.reduceLT, Int.reduceLE, Int.reduceEq, Int.reduceToNat, Int.reducePow, Int.reduceNeg, ne_eq, not_false_eq_true, not_true_eq_false, decide_true, decide_false, Bool.not_true, Bool.not_false, forall_const, reduceCtorEq, implies_true, beq_self_eq_true, Int.cast_ofNat_Int, reduceIte, if_true, if_false, Bool.false_eq_true, Try.ntmps19], fun _ _ => ?_⟩
  simp (maxSteps := 2000000) only [go_sem, ↓dxc_true, ↓dxc_false, ↓bxc_true, ↓bxc_false, Nat.zero_add, Nat.add_zero, Nat.zero_mul, Nat.reduceBEq, Nat.reduceAdd, Nat.reduceMul, Nat.reduceSub, Nat.reduceLT, Nat.reduceLeDiff, Nat.reduceEqDiff, Nat.reduceDiv, Nat.reduceMod, Int.reduceAdd, Int.reduceSub, Int.reduceMul, Int.reduceDiv, Int.reduceMod, Int.reduceLT, Int.reduceLE, Int.reduceEq, Int.reduceToNat, Int.reducePow, Int.reduceNeg, ne_eq, not_false_eq_true, not_true_eq_false, decide_true, decide_false, Bool.not_true, Bool.not_false, forall_const, reduceCtorEq, implies_true, beq_self_eq_true, Int.cast_ofNat_Int, reduceIte, if_true, if_false, Bool.false_eq_true, Try.ntmps19, fin_ret hE, Try.results19]
  exact fun w' hm' => ⟨rfl, hm'⟩

theorem one1_C : Calls Try.prog 19 #[.pointer (some ⟨bd, 0, none⟩), .int .u32 1, .int .i64 (k : Int), .pointer (some ⟨bd, 5 + i * 4, none⟩)] w fun e w' => e = .returned (.int .i64 0) ∧
    Mem w [bd, bm, bk] (devH bd bm bk n (left - 1) (oneS 1 k i d)) w' := by
  refine calls_of_ex [.p 2 bd 0, .v (.int .u32 1), .v (.int .i64 (k : Int)), .p 2 bd (5 + i * 4)] _ [bd, bm, bk] 3 200 Try.func19 rfl h (by simp [Try.ntmps19]) fun E hE => ?_
  have hb := hd.buf
  simp (maxSteps := 2000000) only [go_sem, ↓dxc_true, ↓dxc_false, ↓bxc_true, ↓bxc_false, Nat.zero_add, Nat.add_zero, Nat.zero_mul, Nat.reduceBEq, Nat.reduceAdd, Nat.reduceMul, Nat.reduceSub, Nat.reduceLT, Nat.reduceLeDiff, Nat.reduceEqDiff, Nat.reduceDiv, Nat.reduceMod, Int.reduceAdd, Int.reduceSub, Int.reduceMul, Int.reduceDiv, Int.reduceMod, Int.reduceLT, Int.reduceLE, Int.reduceEq, Int.reduceToNat, Int.reducePow, Int.reduceNeg, ne_eq, not_false_eq_true, not_true_eq_false, decide_true, decide_false, Bool.not_true, Bool.not_false, forall_const, reduceCtorEq, implies_true, beq_self_eq_true, Int.cast_ofNat_Int, reduceIte, if_true, if_false, Bool.false_eq_true, devH, devO, memO, rowO, Try.ntmps19, fin_ret hE, Try.results19, List.length_append, nums_length, hb]
  refine CallC.mut (γ := Unit) (fun _ => .u [.g [.v (.int .u32 (d.disk.getD (k * 4) 0)), .v (.int .u32 (d.disk.getD (k * 4 + 1) 0)), .v (.int .u32 (d.disk.getD (k * 4 + 2) 0)), .v (.int .u32 (d.disk.getD (k * 4 + 3) 0))], .v (.int .i64 0)])
    (fun _ => devH bd bm bk n (left - 1) d) (fun _ => True) 200 (fun w1 hm1 => ?_) ?_
  · refine (read_C w1 bm bk n left d.disk k hk hd.disk hl (Mem.here (l0 := [_]) (l := [_, _]) (r := []) hm1 (by simp))).mono ?_
    rintro e w' ⟨rfl, hm'⟩
    exact ⟨(), rfl, trivial, Mem.updS (l0 := [_]) (l := [_, _]) (r := []) hm1 hm' rfl (by simp)⟩
  refine ⟨by simp (maxSteps := 2000000) only [go_sem, ↓dxc_true, ↓dxc_false, ↓bxc_true, ↓bxc_false, Nat.zero_add, Nat.add_zero, Nat.zero_mul, Nat.reduceBEq, Nat.reduceAdd, Nat.reduceMul, Nat.reduceSub, Nat.reduceLT, Nat.reduceLeDiff, Nat.reduceEqDiff, Nat.reduceDiv, Nat.reduceMod, Int.reduceAdd, Int.reduceSub, Int.reduceMul, Int.reduceDiv, Int.reduceMod, Int.reduceLT, Int.reduceLE, Int.reduceEq, Int.reduceToNat, Int.reducePow, Int.reduceNeg, ne_eq, not_false_eq_true, not_true_eq_false, decide_true, decide_false, Bool.not_true, Bool.not_false, forall_const, reduceCtorEq, implies_true, beq_self_eq_true, Int.cast_ofNat_Int, reduceIte, if_true, if_false, Bool.false_eq_true, Try.ntmps19], fun _ _ => ?_⟩
  simp (maxSteps := 2000000) only [go_sem, ↓dxc_true, ↓dxc_false, ↓bxc_true, ↓bxc_false, Nat.zero_add, Nat.add_zero, Nat.zero_mul, Nat.reduceBEq, Nat.reduceAdd, Nat.reduceMul, Nat.reduceSub, Nat.reduceLT, Nat.reduceLeDiff, Nat.reduceEqDiff, Nat.reduceDiv, Nat.reduceMod, Int.reduceAdd, Int.reduceSub, Int.reduceMul, Int.reduceDiv, Int.reduceMod, Int.reduceLT, Int.reduceLE, Int.reduceEq, Int.reduceToNat, Int.reducePow, Int.reduceNeg, ne_eq, not_false_eq_true, not_true_eq_false, decide_true, decide_false, Bool.not_true, Bool.not_false, forall_const, reduceCtorEq, implies_true, beq_self_eq_true, Int.cast_ofNat_Int, reduceIte, if_true, if_false, Bool.false_eq_true, devH, devO, memO, rowO, Try.ntmps19, fin_ret hE, Try.results19, List.length_append, nums_length, hb, stN_5, stN4 .u32 d.buf [.v (.int .i64 (d.pl : Int))] (i * 4) _ _ _ _ (show i * 4 + 4 ≤ d.buf.length by omega)]
  refine fun b => ⟨by omega, fun w' hm' => ⟨rfl, hm'.sub (List.sublist_cons_self _ _)⟩⟩

end

theorem one_C (w : World) (bd bm bk n : Nat) (left : Int) (d : DV) (hd : d.Ok n) (v : Int) (hv : 1 ≤ v ∧ v ≤ 3) (k i : Nat) (hk : k < n) (hi : i < 4) (hl : -9223372036854775808 < left ∧ left ≤ 0) (h : Mem w [bd, bm, bk] (devH bd bm bk n left d) w) :
    Calls Try.prog 19 #[.pointer (some ⟨bd, 0, none⟩), .int .u32 v, .int .i64 (k : Int), .pointer (some ⟨bd, 5 + i * 4, none⟩)] w fun e w' => e = .returned (.int .i64 0) ∧
      Mem w [bd, bm, bk] (devH bd bm bk n (left - 1) (oneS v k i d)) w' := by
  rcases (show v = 1 ∨ v = 2 ∨ v = 3 by omega) with rfl | rfl | rfl
  · exact one1_C w bd bm bk n left d hd k i hk hi hl h
  · exact one2_C w bd bm bk n left d hd k i hk hi hl h
  · exact one3_C w bd bm bk n left d hd k i hk hi hl h

/-- What a command tells, and what it does. -/
def codeS (d : DV) (n : Nat) (v : Int) : Int := if v < 1 ∨ 4 < v then 1 else if v = 4 then 0 else if inS d.fi d.ma n then 0 else 2
def bodyS (d : DV) (n : Nat) (v : Int) : DV := if 1 ≤ v ∧ v ≤ 3 ∧ inS d.fi d.ma n then itS v d.fi.toNat d.ma.toNat d else d

theorem command_C (w : World) (bd bm bk n : Nat) (left : Int) (d : DV) (hd : d.Ok n) (v : Int) (hv : u32k v) (hl : -9223372036854775800 < left ∧ left ≤ 0) (h : Mem w [bd, bm, bk] (devH bd bm bk n left d) w) :
    Calls Try.prog 14 #[.pointer (some ⟨bd, 0, none⟩), .int .u32 v] w fun e w' => ∃ left', e = .returned (.int .u32 (codeS d n v)) ∧ (left - 4 ≤ left' ∧ left' ≤ left) ∧
      Mem w [bd, bm, bk] (devH bd bm bk n left' (bodyS d n v)) w' := by
  refine calls_of_ex [.p 2 bd 0, .v (.int .u32 v)] _ [bd, bm, bk] 3 300 Try.func14 rfl h (by simp [Try.ntmps14]) fun E hE => ?_
  unfold u32k at hv
  have hb := hd.buf
  have q1 := hd.fi
  have q2 := hd.ma
  unfold u32k at q1 q2
  have none : ∀ c : Int, c = codeS d n v → bodyS d n v = d → ∀ w', Mem w [bd, bm, bk] (devH bd bm bk n left d) w' → ∃ left', Ending.returned (Value.int .u32 c) = .returned (.int .u32 (codeS d n v)) ∧ (left - 4 ≤ left' ∧ left' ≤ left) ∧ Mem w [bd, bm, bk] (devH bd bm bk n left' (bodyS d n v)) w' := by
    rintro c rfl h2 w' hm'
    exact ⟨left, rfl, ⟨by omega, by omega⟩, by rw [h2]; exact hm'⟩
  simp (maxSteps := 2000000) only [go_sem, ↓dxc_true, ↓dxc_false, ↓bxc_true, ↓bxc_false, Nat.zero_add, Nat.add_zero, Nat.zero_mul, Nat.reduceBEq, Nat.reduceAdd, Nat.reduceMul, Nat.reduceSub, Nat.reduceLT, Nat.reduceLeDiff, Nat.reduceEqDiff, Nat.reduceDiv, Nat.reduceMod, Int.reduceAdd, Int.reduceSub, Int.reduceMul, Int.reduceDiv, Int.reduceMod, Int.reduceLT, Int.reduceLE, Int.reduceEq, Int.reduceToNat, Int.reducePow, Int.reduceNeg, ne_eq, not_false_eq_true, not_true_eq_false, decide_true, decide_false, Bool.not_true, Bool.not_false, forall_const, reduceCtorEq, implies_true, beq_self_eq_true, Int.cast_ofNat_Int, reduceIte, if_true, if_false, Bool.false_eq_true, Try.ntmps14, fin_ret hE, Try.results14]
  refine ⟨fun g1 => none 1 (by unfold codeS; rw [if_pos (Or.inl g1)]) (by unfold bodyS; rw [if_neg (by omega)]), fun g1 => ⟨fun g2 => none 1 (by unfold codeS; rw [if_pos (Or.inr g2)]) (by unfold bodyS; rw [if_neg (by omega)]), fun g2 => ⟨fun g3 => none 0 (by unfold codeS; rw [if_neg (by omega), if_pos g3]) (by unfold bodyS; rw [if_neg (by omega)]), fun g3 => ?_⟩⟩⟩
  refine CallC.pur (.v (.bool (decide (inS d.fi d.ma n)))) 300 (fun w1 hm1 => ?_) ?_
  · exact in_C w1 bd bm bk n left d hd (hm1.at (t := 2) rfl) (hm1.at (t := 1) rfl)
  simp (maxSteps := 2000000) only [go_sem, ↓dxc_true, ↓dxc_false, ↓bxc_true, ↓bxc_false, Nat.zero_add, Nat.add_zero, Nat.zero_mul, Nat.reduceBEq, Nat.reduceAdd, Nat.reduceMul, Nat.reduceSub, Nat.reduceLT, Nat.reduceLeDiff, Nat.reduceEqDiff, Nat.reduceDiv, Nat.reduceMod, Int.reduceAdd, Int.reduceSub, Int.reduceMul, Int.reduceDiv, Int.reduceMod, Int.reduceLT, Int.reduceLE, Int.reduceEq, Int.reduceToNat, Int.reducePow, Int.reduceNeg, ne_eq, not_false_eq_true, not_true_eq_false, decide_true, decide_false, Bool.not_true, Bool.not_false, forall_const, reduceCtorEq, implies_true, beq_self_eq_true, Int.cast_ofNat_Int, reduceIte, if_true, if_false, Bool.false_eq_true, Try.ntmps14, fin_ret hE, Try.results14]
  refine ⟨fun g4 => ?_, fun g4 => none 2 (by unfold codeS; rw [if_neg (by omega), if_neg g3, if_neg g4]) (by unfold bodyS; rw [if_neg (fun hh => g4 hh.2.2)])⟩
  have g5 := g4
  unfold inS at g5
  simp (maxSteps := 2000000) only [go_sem, ↓dxc_true, ↓dxc_false, ↓bxc_true, ↓bxc_false, Nat.zero_add, Nat.add_zero, Nat.zero_mul, Nat.reduceBEq, Nat.reduceAdd, Nat.reduceMul, Nat.reduceSub, Nat.reduceLT, Nat.reduceLeDiff, Nat.reduceEqDiff, Nat.reduceDiv, Nat.reduceMod, Int.reduceAdd, Int.reduceSub, Int.reduceMul, Int.reduceDiv, Int.reduceMod, Int.reduceLT, Int.reduceLE, Int.reduceEq, Int.reduceToNat, Int.reducePow, Int.reduceNeg, ne_eq, not_false_eq_true, not_true_eq_false, decide_true, decide_false, Bool.not_true, Bool.not_false, forall_const, reduceCtorEq, implies_true, beq_self_eq_true, Int.cast_ofNat_Int, reduceIte, if_true, if_false, Bool.false_eq_true, devH, devO, Try.ntmps14, fin_ret hE, Try.results14, List.length_append, nums_length, hb]
  refine ⟨⟨by omega, by omega⟩, ?_⟩
  have hs := itS_same v d.fi.toNat d
  have ho := itS_ok v d.fi.toNat n hd
  refine CodeC.loop (γ := { g : Nat × Int // g.1 ≤ d.ma.toNat ∧ left - g.1 = g.2 }) (fun g => ⟨52, 3, [(26, .v (.int .i64 (g.1.1 : Int))), (25, .v (.int .i64 d.ma)), (0, .p 2 bd 0), (1, .v (.int .u32 v))], devH bd bm bk n g.1.2 (itS v d.fi.toNat g.1.1 d), []⟩) (fun g => d.ma.toNat - g.1.1)
    ⟨(0, left), by simp⟩ 300 ⟨rfl, rfl, ⟨rfl, rfl, rfl, rfl, trivial⟩, by simp (maxSteps := 2000000) only [go_sem, ↓dxc_true, ↓dxc_false, ↓bxc_true, ↓bxc_false, Nat.zero_add, Nat.add_zero, Nat.zero_mul, Nat.reduceBEq, Nat.reduceAdd, Nat.reduceMul, Nat.reduceSub, Nat.reduceLT, Nat.reduceLeDiff, Nat.reduceEqDiff, Nat.reduceDiv, Nat.reduceMod, Int.reduceAdd, Int.reduceSub, Int.reduceMul, Int.reduceDiv, Int.reduceMod, Int.reduceLT, Int.reduceLE, Int.reduceEq, Int.reduceToNat, Int.reducePow, Int.reduceNeg, ne_eq, not_false_eq_true, not_true_eq_false, decide_true, decide_false, Bool.not_true, Bool.not_false, forall_const, reduceCtorEq, implies_true, beq_self_eq_true, Int.cast_ofNat_Int, reduceIte, if_true, if_false, Bool.false_eq_true, devH, devO, itS, SubH]⟩ ?_
  rintro ⟨⟨i, l'⟩, hi, hl'⟩
  simp only at hi hl'
  obtain ⟨s1, s2, s3, s4, s5⟩ := hs i
  have hoi := ho i
  simp (maxSteps := 2000000) only [go_sem, ↓dxc_true, ↓dxc_false, ↓bxc_true, ↓bxc_false, Nat.zero_add, Nat.add_zero, Nat.zero_mul, Nat.reduceBEq, Nat.reduceAdd, Nat.reduceMul, Nat.reduceSub, Nat.reduceLT, Nat.reduceLeDiff, Nat.reduceEqDiff, Nat.reduceDiv, Nat.reduceMod, Int.reduceAdd, Int.reduceSub, Int.reduceMul, Int.reduceDiv, Int.reduceMod, Int.reduceLT, Int.reduceLE, Int.reduceEq, Int.reduceToNat, Int.reducePow, Int.reduceNeg, ne_eq, not_false_eq_true, not_true_eq_false, decide_true, decide_false, Bool.not_true, Bool.not_false, forall_const, reduceCtorEq, implies_true, beq_self_eq_true, Int.cast_ofNat_Int, reduceIte, if_true, if_false, Bool.false_eq_true, devH, devO, Try.ntmps14, fin_ret hE, Try.results14, s1, s2, s3, s4, s5, List.length_append, nums_length, hoi.buf]
  refine ⟨fun h1 => ?_, fun h1 => ?_⟩
  · refine CodeC.lexb [14] 300 Try.follows_mixed (by kernel_rfl) ?_
    have e1 : d.fi + (i : Int) = ((d.fi.toNat + i : Nat) : Int) := by omega
    simp (maxSteps := 2000000) only [go_sem, ↓dxc_true, ↓dxc_false, ↓bxc_true, ↓bxc_false, Nat.zero_add, Nat.add_zero, Nat.zero_mul, Nat.reduceBEq, Nat.reduceAdd, Nat.reduceMul, Nat.reduceSub, Nat.reduceLT, Nat.reduceLeDiff, Nat.reduceEqDiff, Nat.reduceDiv, Nat.reduceMod, Int.reduceAdd, Int.reduceSub, Int.reduceMul, Int.reduceDiv, Int.reduceMod, Int.reduceLT, Int.reduceLE, Int.reduceEq, Int.reduceToNat, Int.reducePow, Int.reduceNeg, ne_eq, not_false_eq_true, not_true_eq_false, decide_true, decide_false, Bool.not_true, Bool.not_false, forall_const, reduceCtorEq, implies_true, beq_self_eq_true, Int.cast_ofNat_Int, reduceIte, if_true, if_false, Bool.false_eq_true, devH, devO, Try.ntmps14, fin_ret hE, Try.results14, s1, s2, s3, s4, s5, List.length_append, nums_length, hoi.buf, Int.toNat_natCast, e1]
    refine ⟨⟨by omega, by omega⟩, ⟨by omega, by omega⟩, ⟨by omega, by omega⟩, ?_⟩
    refine CallD.mut (γ := Unit) (fun _ => .v (.int .i64 0)) (fun _ => devH bd bm bk n (l' - 1) (itS v d.fi.toNat (i + 1) d)) (fun _ => True) (fun w1 hm1 => ?_) ?_
    · have hm2 : Mem E.W0 E.mods ([] ++ (devH bd bm bk n l' (itS v d.fi.toNat i d) ++ [])) w1 := by
        simp only [devH, devO, s1, s2, s3, s4, s5]
        exact hm1
      refine (one_C w1 bd bm bk n l' (itS v d.fi.toNat i d) hoi v (by omega) (d.fi.toNat + i) i (by omega) (by omega) (by omega) (hm2.here (by simp [devH]))).mono ?_
      rintro e w' ⟨rfl, hm'⟩
      refine ⟨(), rfl, trivial, ?_⟩
      have := hm2.updS hm' rfl (by simp [devH])
      simpa [itS] using this
    refine ⟨by simp (maxSteps := 2000000) only [go_sem, ↓dxc_true, ↓dxc_false, ↓bxc_true, ↓bxc_false, Nat.zero_add, Nat.add_zero, Nat.zero_mul, Nat.reduceBEq, Nat.reduceAdd, Nat.reduceMul, Nat.reduceSub, Nat.reduceLT, Nat.reduceLeDiff, Nat.reduceEqDiff, Nat.reduceDiv, Nat.reduceMod, Int.reduceAdd, Int.reduceSub, Int.reduceMul, Int.reduceDiv, Int.reduceMod, Int.reduceLT, Int.reduceLE, Int.reduceEq, Int.reduceToNat, Int.reducePow, Int.reduceNeg, ne_eq, not_false_eq_true, not_true_eq_false, decide_true, decide_false, Bool.not_true, Bool.not_false, forall_const, reduceCtorEq, implies_true, beq_self_eq_true, Int.cast_ofNat_Int, reduceIte, if_true, if_false, Bool.false_eq_true, Try.ntmps14], fun _ _ => ?_⟩
    simp (maxSteps := 2000000) only [go_sem, ↓dxc_true, ↓dxc_false, ↓bxc_true, ↓bxc_false, Nat.zero_add, Nat.add_zero, Nat.zero_mul, Nat.reduceBEq, Nat.reduceAdd, Nat.reduceMul, Nat.reduceSub, Nat.reduceLT, Nat.reduceLeDiff, Nat.reduceEqDiff, Nat.reduceDiv, Nat.reduceMod, Int.reduceAdd, Int.reduceSub, Int.reduceMul, Int.reduceDiv, Int.reduceMod, Int.reduceLT, Int.reduceLE, Int.reduceEq, Int.reduceToNat, Int.reducePow, Int.reduceNeg, ne_eq, not_false_eq_true, not_true_eq_false, decide_true, decide_false, Bool.not_true, Bool.not_false, forall_const, reduceCtorEq, implies_true, beq_self_eq_true, Int.cast_ofNat_Int, reduceIte, if_true, if_false, Bool.false_eq_true, Try.ntmps14, fin_ret hE, Try.results14]
    refine ⟨by omega, ⟨⟨(i + 1, l' - 1), by simp only; omega, by simp only; omega⟩, ⟨rfl, rfl, ⟨by simp [lk], rfl, rfl, rfl, trivial⟩, SubH.refl _⟩, by simp only; omega⟩⟩
  · have e1 : i = d.ma.toNat := by omega
    refine fun w' hm' => ⟨l', ?_, ⟨by omega, by omega⟩, ?_⟩
    · unfold codeS
      rw [if_neg (by omega), if_neg g3, if_pos g4]
      rfl
    · unfold bodyS
      rw [if_pos ⟨by omega, by omega, g4⟩, ← e1]
      simp only [devH, devO, s1, s2, s3, s4, s5]
      exact hm'

end Go.Proofs
