/- A disk in memory and a device on it: what lies, and the contracts of the disk's functions. -/
import Derived.Test.YtjljcinpmakhmaaDxT
import Derived.Test.YtjljcinpmakhmaaDySF
set_option linter.unusedSimpArgs false
set_option linter.unusedVariables false
set_option maxRecDepth 100000
set_option maxHeartbeats 4000000
namespace Go.Proofs
open Go.Dx Go.RowKit

/-- A device's state, and its disk's: registers, the line, the buffer, the window's place, the sectors' words. -/
structure DV where
  fi : Int
  ma : Int
  er : Int
  li : Bool
  buf : List Int
  pl : Nat
  disk : List Int

def u32k (x : Int) : Prop := 0 ≤ x ∧ x < 4294967296

structure DV.Ok (d : DV) (n : Nat) : Prop where
  fi : u32k d.fi
  ma : u32k d.ma
  buf : d.buf.length = 16
  pl : d.pl < 16
  disk : d.disk.length = n * 4
  n : n ≤ 100

/-- The disk's block, the row of its sectors, the device's block. -/
def rowO (l : List Int) : HObj := .a (nums .u32 l) 44
def memO (bk n : Nat) (left : Int) : HObj := .c [.s 0 bk 0 n n, .v (.int .i64 0), .v (.int .i64 left)] 28
def devO (bm : Nat) (fi ma er : Int) (li : Bool) (buf : List Int) (pl : Nat) : HObj :=
  .c (.i 24 (.p 1 bm 0) :: .v (.int .u32 fi) :: .v (.int .u32 ma) :: .v (.int .u32 er) :: .v (.bool li) :: (nums .u32 buf ++ [.v (.int .i64 (pl : Int))])) 47

def devH (bd bm bk n : Nat) (left : Int) (d : DV) : List Ent :=
  [⟨2, bd, true, devO bm d.fi d.ma d.er d.li d.buf d.pl⟩, ⟨1, bm, true, memO bk n left⟩, ⟨0, bk, true, rowO d.disk⟩]

abbrev memH (bm bk n : Nat) (left : Int) (disk : List Int) : List Ent := [⟨1, bm, true, memO bk n left⟩, ⟨0, bk, true, rowO disk⟩]

theorem fails_C (w : World) (bm bk n : Nat) (left : Int) (disk : List Int) (hl : -9223372036854775808 < left ∧ left ≤ 0) (h : Mem w [bm] [⟨1, bm, true, memO bk n left⟩] w) :
    Calls Try.prog 40 #[.pointer (some ⟨bm, 0, none⟩)] w fun e w' => e = .returned (.bool false) ∧ Mem w [bm] [⟨1, bm, true, memO bk n (left - 1)⟩] w' := by
  refine calls_of_ex [.p 1 bm 0] _ [bm] 2 200 Try.func40 rfl h (by simp [Try.ntmps40]) fun E hE => ?_
  simp (maxSteps := 2000000) only [go_sem, ↓dxc_true, ↓dxc_false, ↓bxc_true, ↓bxc_false, Nat.zero_add, Nat.add_zero, Nat.zero_mul, Nat.reduceBEq, Nat.reduceAdd, Nat.reduceMul, Nat.reduceSub, Nat.reduceLT, Nat.reduceLeDiff, Nat.reduceEqDiff, Nat.reduceDiv, Nat.reduceMod, Int.reduceAdd, Int.reduceSub, Int.reduceMul, Int.reduceDiv, Int.reduceMod, Int.reduceLT, Int.reduceLE, Int.reduceEq, Int.reduceToNat, Int.reducePow, Int.reduceNeg, ne_eq, not_false_eq_true, not_true_eq_false, decide_true, decide_false, Bool.not_true, Bool.not_false, forall_const, reduceCtorEq, implies_true, beq_self_eq_true, Int.cast_ofNat_Int, reduceIte, if_true, if_false, Bool.false_eq_true, memO, Try.ntmps40, fin_ret hE, Try.results40]
  exact ⟨by omega, fun w' hm' => ⟨rfl, hm'⟩⟩

theorem sectors_C (w : World) (bm bk n : Nat) (left : Int) (h : w.heap[bm]? = some (denO (memO bk n left))) :
    Calls Try.prog 37 #[.pointer (some ⟨bm, 0, none⟩)] w fun e w' => e = .returned (.int .i64 (n : Int)) ∧ Below w.heap.size w w' := by
  have hm : Mem w [] [⟨1, bm, false, memO bk n left⟩] w := Mem.reads (by simpa using h) (by simp)
  refine calls_of_ex [.p 1 bm 0] _ [] 2 200 Try.func37 rfl hm (by simp [Try.ntmps37]) fun E hE => ?_
  simp (maxSteps := 2000000) only [go_sem, ↓dxc_true, ↓dxc_false, ↓bxc_true, ↓bxc_false, Nat.zero_add, Nat.add_zero, Nat.zero_mul, Nat.reduceBEq, Nat.reduceAdd, Nat.reduceMul, Nat.reduceSub, Nat.reduceLT, Nat.reduceLeDiff, Nat.reduceEqDiff, Nat.reduceDiv, Nat.reduceMod, Int.reduceAdd, Int.reduceSub, Int.reduceMul, Int.reduceDiv, Int.reduceMod, Int.reduceLT, Int.reduceLE, Int.reduceEq, Int.reduceToNat, Int.reducePow, Int.reduceNeg, ne_eq, not_false_eq_true, not_true_eq_false, decide_true, decide_false, Bool.not_true, Bool.not_false, forall_const, reduceCtorEq, implies_true, beq_self_eq_true, Int.cast_ofNat_Int, reduceIte, if_true, if_false, Bool.false_eq_true, memO, Try.ntmps37, fin_ret hE, Try.results37]
  exact fun w' hm' => ⟨rfl, hm'.below⟩

theorem read_C (w : World) (bm bk n : Nat) (left : Int) (disk : List Int) (i : Nat) (hi : i < n) (hd : disk.length = n * 4) (hl : -9223372036854775808 < left ∧ left ≤ 0) (h : Mem w [bm, bk] (memH bm bk n left disk) w) :
    Calls Try.prog 36 #[.pointer (some ⟨bm, 0, none⟩), .int .i64 (i : Int)] w fun e w' => e = .returned (den (.u [.g [.v (.int .u32 (disk.getD (i * 4) 0)), .v (.int .u32 (disk.getD (i * 4 + 1) 0)), .v (.int .u32 (disk.getD (i * 4 + 2) 0)), .v (.int .u32 (disk.getD (i * 4 + 3) 0))], .v (.int .i64 0)])) ∧
      Mem w [bm, bk] (memH bm bk n (left - 1) disk) w' := by
  refine calls_of_ex [.p 1 bm 0, .v (.int .i64 (i : Int))] _ [bm, bk] 2 200 Try.func36 rfl h (by simp [Try.ntmps36]) fun E hE => ?_
  simp (maxSteps := 2000000) only [go_sem, ↓dxc_true, ↓dxc_false, ↓bxc_true, ↓bxc_false, Nat.zero_add, Nat.add_zero, Nat.zero_mul, Nat.reduceBEq, Nat.reduceAdd, Nat.reduceMul, Nat.reduceSub, Nat.reduceLT, Nat.reduceLeDiff, Nat.reduceEqDiff, Nat.reduceDiv, Nat.reduceMod, Int.reduceAdd, Int.reduceSub, Int.reduceMul, Int.reduceDiv, Int.reduceMod, Int.reduceLT, Int.reduceLE, Int.reduceEq, Int.reduceToNat, Int.reducePow, Int.reduceNeg, ne_eq, not_false_eq_true, not_true_eq_false, decide_true, decide_false, Bool.not_true, Bool.not_false, forall_const, reduceCtorEq, implies_true, beq_self_eq_true, Int.cast_ofNat_Int, reduceIte, if_true, if_false, Bool.false_eq_true, memO, rowO, Try.ntmps36, fin_ret hE, Try.results36]
  intro b
  refine CallC.mut (γ := Unit) (fun _ => .v (.bool false)) (fun _ => [⟨2, b, true, .c [.v (.int .u32 0), .v (.int .u32 0), .v (.int .u32 0), .v (.int .u32 0)] 44⟩, ⟨1, bm, true, memO bk n (left - 1)⟩, ⟨0, bk, true, rowO disk⟩]) (fun _ => True) 200 (fun w1 hm1 => ?_) ?_
  · refine (fails_C w1 bm bk n left disk hl (Mem.here (l0 := [_]) (l := [_]) (r := [_]) hm1 (by simp))).mono ?_
    rintro e w' ⟨rfl, hm'⟩
    exact ⟨(), rfl, trivial, Mem.updS (l0 := [_]) (l := [_]) (r := [_]) hm1 hm' rfl (by simp)⟩
  refine ⟨by simp (maxSteps := 2000000) only [go_sem, ↓dxc_true, ↓dxc_false, ↓bxc_true, ↓bxc_false, Nat.zero_add, Nat.add_zero, Nat.zero_mul, Nat.reduceBEq, Nat.reduceAdd, Nat.reduceMul, Nat.reduceSub, Nat.reduceLT, Nat.reduceLeDiff, Nat.reduceEqDiff, Nat.reduceDiv, Nat.reduceMod, Int.reduceAdd, Int.reduceSub, Int.reduceMul, Int.reduceDiv, Int.reduceMod, Int.reduceLT, Int.reduceLE, Int.reduceEq, Int.reduceToNat, Int.reducePow, Int.reduceNeg, ne_eq, not_false_eq_true, not_true_eq_false, decide_true, decide_false, Bool.not_true, Bool.not_false, forall_const, reduceCtorEq, implies_true, beq_self_eq_true, Int.cast_ofNat_Int, reduceIte, if_true, if_false, Bool.false_eq_true, Try.ntmps36], fun _ _ => ?_⟩
  have e1 : ((i : Int) < 0) = False := by simp
  have e2 : ((n : Int) ≤ (i : Int)) = False := by simp; omega
  simp (maxSteps := 2000000) only [go_sem, ↓dxc_true, ↓dxc_false, ↓bxc_true, ↓bxc_false, Nat.zero_add, Nat.add_zero, Nat.zero_mul, Nat.reduceBEq, Nat.reduceAdd, Nat.reduceMul, Nat.reduceSub, Nat.reduceLT, Nat.reduceLeDiff, Nat.reduceEqDiff, Nat.reduceDiv, Nat.reduceMod, Int.reduceAdd, Int.reduceSub, Int.reduceMul, Int.reduceDiv, Int.reduceMod, Int.reduceLT, Int.reduceLE, Int.reduceEq, Int.reduceToNat, Int.reducePow, Int.reduceNeg, ne_eq, not_false_eq_true, not_true_eq_false, decide_true, decide_false, Bool.not_true, Bool.not_false, forall_const, reduceCtorEq, implies_true, beq_self_eq_true, Int.cast_ofNat_Int, reduceIte, if_true, if_false, Bool.false_eq_true, memO, rowO, Try.ntmps36, fin_ret hE, Try.results36, e1, e2, Int.toNat_natCast, nums_length, ldN4' .u32 disk (i * 4) (by omega)]
  refine ⟨⟨by omega, by omega⟩, by omega, ?_⟩
  intro w' hm'
  exact hm'.sub (List.sublist_cons_self _ _)

theorem write_C (w : World) (bm bk n : Nat) (left : Int) (disk : List Int) (i : Nat) (a b c d : Int) (hi : i < n) (hd : disk.length = n * 4) (hl : -9223372036854775808 < left ∧ left ≤ 0) (h : Mem w [bm, bk] (memH bm bk n left disk) w) :
    Calls Try.prog 39 #[.pointer (some ⟨bm, 0, none⟩), .int .i64 (i : Int), den (.g [.v (.int .u32 a), .v (.int .u32 b), .v (.int .u32 c), .v (.int .u32 d)])] w fun e w' => e = .returned (.int .i64 0) ∧
      Mem w [bm, bk] (memH bm bk n (left - 1) (put4 disk (i * 4) a b c d)) w' := by
  refine calls_of_ex [.p 1 bm 0, .v (.int .i64 (i : Int)), .g [.v (.int .u32 a), .v (.int .u32 b), .v (.int .u32 c), .v (.int .u32 d)]] _ [bm, bk] 2 200 Try.func39 rfl h (by simp [Try.ntmps39]) fun E hE => ?_
  simp (maxSteps := 2000000) only [go_sem, ↓dxc_true, ↓dxc_false, ↓bxc_true, ↓bxc_false, Nat.zero_add, Nat.add_zero, Nat.zero_mul, Nat.reduceBEq, Nat.reduceAdd, Nat.reduceMul, Nat.reduceSub, Nat.reduceLT, Nat.reduceLeDiff, Nat.reduceEqDiff, Nat.reduceDiv, Nat.reduceMod, Int.reduceAdd, Int.reduceSub, Int.reduceMul, Int.reduceDiv, Int.reduceMod, Int.reduceLT, Int.reduceLE, Int.reduceEq, Int.reduceToNat, Int.reducePow, Int.reduceNeg, ne_eq, not_false_eq_true, not_true_eq_false, decide_true, decide_false, Bool.not_true, Bool.not_false, forall_const, reduceCtorEq, implies_true, beq_self_eq_true, Int.cast_ofNat_Int, reduceIte, if_true, if_false, Bool.false_eq_true, memO, rowO, Try.ntmps39, fin_ret hE, Try.results39]
  intro bb
  refine CallC.mut (γ := Unit) (fun _ => .v (.bool false)) (fun _ => [⟨2, bb, true, .c [.v (.int .u32 a), .v (.int .u32 b), .v (.int .u32 c), .v (.int .u32 d)] 44⟩, ⟨1, bm, true, memO bk n (left - 1)⟩, ⟨0, bk, true, rowO disk⟩]) (fun _ => True) 200 (fun w1 hm1 => ?_) ?_
  · refine (fails_C w1 bm bk n left disk hl (Mem.here (l0 := [_]) (l := [_]) (r := [_]) hm1 (by simp))).mono ?_
    rintro e w' ⟨rfl, hm'⟩
    exact ⟨(), rfl, trivial, Mem.updS (l0 := [_]) (l := [_]) (r := [_]) hm1 hm' rfl (by simp)⟩
  refine ⟨by simp (maxSteps := 2000000) only [go_sem, ↓dxc_true, ↓dxc_false, ↓bxc_true, ↓bxc_false, Nat.zero_add, Nat.add_zero, Nat.zero_mul, Nat.reduceBEq, Nat.reduceAdd, Nat.reduceMul, Nat.reduceSub, Nat.reduceLT, Nat.reduceLeDiff, Nat.reduceEqDiff, Nat.reduceDiv, Nat.reduceMod, Int.reduceAdd, Int.reduceSub, Int.reduceMul, Int.reduceDiv, Int.reduceMod, Int.reduceLT, Int.reduceLE, Int.reduceEq, Int.reduceToNat, Int.reducePow, Int.reduceNeg, ne_eq, not_false_eq_true, not_true_eq_false, decide_true, decide_false, Bool.not_true, Bool.not_false, forall_const, reduceCtorEq, implies_true, beq_self_eq_true, Int.cast_ofNat_Int, reduceIte, if_true, if_false, Bool.false_eq_true, Try.ntmps39], fun _ _ => ?_⟩
  have e1 : ((i : Int) < 0) = False := by simp
  have e2 : ((n : Int) ≤ (i : Int)) = False := by simp; omega
  simp (maxSteps := 2000000) only [go_sem, ↓dxc_true, ↓dxc_false, ↓bxc_true, ↓bxc_false, Nat.zero_add, Nat.add_zero, Nat.zero_mul, Nat.reduceBEq, Nat.reduceAdd, Nat.reduceMul, Nat.reduceSub, Nat.reduceLT, Nat.reduceLeDiff, Nat.reduceEqDiff, Nat.reduceDiv, Nat.reduceMod, Int.reduceAdd, Int.reduceSub, Int.reduceMul, Int.reduceDiv, Int.reduceMod, Int.reduceLT, Int.reduceLE, Int.reduceEq, Int.reduceToNat, Int.reducePow, Int.reduceNeg, ne_eq, not_false_eq_true, not_true_eq_false, decide_true, decide_false, Bool.not_true, Bool.not_false, forall_const, reduceCtorEq, implies_true, beq_self_eq_true, Int.cast_ofNat_Int, reduceIte, if_true, if_false, Bool.false_eq_true, memO, rowO, Try.ntmps39, fin_ret hE, Try.results39, e1, e2]
  refine CodeC.lex 200 Try.follows_mixed (by kernel_rfl) ?_
  simp (maxSteps := 2000000) only [go_sem, ↓dxc_true, ↓dxc_false, ↓bxc_true, ↓bxc_false, Nat.zero_add, Nat.add_zero, Nat.zero_mul, Nat.reduceBEq, Nat.reduceAdd, Nat.reduceMul, Nat.reduceSub, Nat.reduceLT, Nat.reduceLeDiff, Nat.reduceEqDiff, Nat.reduceDiv, Nat.reduceMod, Int.reduceAdd, Int.reduceSub, Int.reduceMul, Int.reduceDiv, Int.reduceMod, Int.reduceLT, Int.reduceLE, Int.reduceEq, Int.reduceToNat, Int.reducePow, Int.reduceNeg, ne_eq, not_false_eq_true, not_true_eq_false, decide_true, decide_false, Bool.not_true, Bool.not_false, forall_const, reduceCtorEq, implies_true, beq_self_eq_true, Int.cast_ofNat_Int, reduceIte, if_true, if_false, Bool.false_eq_true, memO, rowO, Try.ntmps39, fin_ret hE, Try.results39, e1, e2, Int.toNat_natCast, nums_length, stN4' .u32 disk (i * 4) a b c d (by omega)]
  refine ⟨⟨by omega, by omega⟩, by omega, ?_⟩
  intro w' hm'
  exact ⟨rfl, hm'.sub (List.sublist_cons_self _ _)⟩

theorem trim_C (w : World) (bm bk n : Nat) (left : Int) (disk : List Int) (i : Nat) (hi : i < n) (hd : disk.length = n * 4) (hl : -9223372036854775808 < left ∧ left ≤ 0) (h : Mem w [bm, bk] (memH bm bk n left disk) w) :
    Calls Try.prog 38 #[.pointer (some ⟨bm, 0, none⟩), .int .i64 (i : Int)] w fun e w' => e = .returned (.int .i64 0) ∧
      Mem w [bm, bk] (memH bm bk n (left - 1) (put4 disk (i * 4) 0 0 0 0)) w' := by
  refine calls_of_ex [.p 1 bm 0, .v (.int .i64 (i : Int))] _ [bm, bk] 2 200 Try.func38 rfl h (by simp [Try.ntmps38]) fun E hE => ?_
  simp (maxSteps := 2000000) only [go_sem, ↓dxc_true, ↓dxc_false, ↓bxc_true, ↓bxc_false, Nat.zero_add, Nat.add_zero, Nat.zero_mul, Nat.reduceBEq, Nat.reduceAdd, Nat.reduceMul, Nat.reduceSub, Nat.reduceLT, Nat.reduceLeDiff, Nat.reduceEqDiff, Nat.reduceDiv, Nat.reduceMod, Int.reduceAdd, Int.reduceSub, Int.reduceMul, Int.reduceDiv, Int.reduceMod, Int.reduceLT, Int.reduceLE, Int.reduceEq, Int.reduceToNat, Int.reducePow, Int.reduceNeg, ne_eq, not_false_eq_true, not_true_eq_false, decide_true, decide_false, Bool.not_true, Bool.not_false, forall_const, reduceCtorEq, implies_true, beq_self_eq_true, Int.cast_ofNat_Int, reduceIte, if_true, if_false, Bool.false_eq_true, Try.ntmps38, fin_ret hE, Try.results38]
  refine CallC.mut (γ := Unit) (fun _ => .v (.int .i64 0)) (fun _ => memH bm bk n (left - 1) (put4 disk (i * 4) 0 0 0 0)) (fun _ => True) 200 (fun w1 hm1 => ?_) ?_
  · refine (write_C w1 bm bk n left disk i 0 0 0 0 hi hd hl (Mem.here (l0 := []) (l := [_, _]) (r := []) hm1 (by simp))).mono ?_
    rintro e w' ⟨rfl, hm'⟩
    exact ⟨(), rfl, trivial, Mem.updS (l0 := []) (l := [_, _]) (r := []) hm1 hm' rfl (by simp)⟩
  refine ⟨by simp (maxSteps := 2000000) only [go_sem, ↓dxc_true, ↓dxc_false, ↓bxc_true, ↓bxc_false, Nat.zero_add, Nat.add_zero, Nat.zero_mul, Nat.reduceBEq, Nat.reduceAdd, Nat.reduceMul, Nat.reduceSub, Nat.reduceLT, Nat.reduceLeDiff, Nat.reduceEqDiff, Nat.reduceDiv, Nat.reduceMod, Int.reduceAdd, Int.reduceSub, Int.reduceMul, Int.reduceDiv, Int.reduceMod, Int.reduceLT, Int.reduceLE, Int.reduceEq, Int.reduceToNat, Int.reducePow, Int.reduceNeg, ne_eq, not_false_eq_true, not_true_eq_false, decide_true, decide_false, Bool.not_true, Bool.not_false, forall_const, reduceCtorEq, implies_true, beq_self_eq_true, Int.cast_ofNat_Int, reduceIte, if_true, if_false, Bool.false_eq_true, Try.ntmps38], fun _ _ => ?_⟩
  simp (maxSteps := 2000000) only [go_sem, ↓dxc_true, ↓dxc_false, ↓bxc_true, ↓bxc_false, Nat.zero_add, Nat.add_zero, Nat.zero_mul, Nat.reduceBEq, Nat.reduceAdd, Nat.reduceMul, Nat.reduceSub, Nat.reduceLT, Nat.reduceLeDiff, Nat.reduceEqDiff, Nat.reduceDiv, Nat.reduceMod, Int.reduceAdd, Int.reduceSub, Int.reduceMul, Int.reduceDiv, Int.reduceMod, Int.reduceLT, Int.reduceLE, Int.reduceEq, Int.reduceToNat, Int.reducePow, Int.reduceNeg, ne_eq, not_false_eq_true, not_true_eq_false, decide_true, decide_false, Bool.not_true, Bool.not_false, forall_const, reduceCtorEq, implies_true, beq_self_eq_true, Int.cast_ofNat_Int, reduceIte, if_true, if_false, Bool.false_eq_true, Try.ntmps38, fin_ret hE, Try.results38]
  exact fun w' hm' => ⟨rfl, hm'⟩

end Go.Proofs
