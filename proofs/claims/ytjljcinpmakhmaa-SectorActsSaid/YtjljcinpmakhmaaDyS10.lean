/- A device answers every register, in every order, as the document says: the walk of the law. -/
import Derived.Test.YtjljcinpmakhmaaDyS9
set_option linter.unusedSimpArgs false
set_option linter.unusedVariables false
set_option linter.unusedSectionVars false
set_option maxRecDepth 100000
set_option maxHeartbeats 8000000
namespace Go.Proofs
open Go.Dx Go.RowKit

theorem rpt4' (n : Nat) : rpt n [.v (.int .u32 0), .v (.int .u32 0), .v (.int .u32 0), .v (.int .u32 0)] = nums .u32 (dev0 n).disk := rpt4 n

theorem sectorActs_A (w : World) (k : Int) (ba oa ca : Nat) (la : List SV) (Ta : Nat) (za : Nat × Nat) (acts : List SAct) (hk : 0 ≤ k ∧ k < 256) (hacts : ∀ x ∈ acts, x.ok) (hna : acts.length ≤ 9223372036854775807)
    (hga : w.heap[ba]? = some (denO (.z la Ta za))) (hsa : Seg3 la oa acts) :
    Calls Try.prog 3 #[.int .u8 k, den (.s 101 ba oa acts.length ca)] w fun e w' => e = .returned (.bool true) ∧ Below w.heap.size w w' := by
  have hm : Mem w [] [⟨101, ba, false, .z la Ta za⟩] w := Mem.reads (by simpa using hga) (by simp)
  refine calls_of_ex [.v (.int .u8 k), .s 101 ba oa acts.length ca] _ [] 0 600 Try.func3 rfl hm (by simp [Try.ntmps3]) fun E hE => ?_
  simp (maxSteps := 2000000) only [go_sem, ↓dxc_true, ↓dxc_false, ↓bxc_true, ↓bxc_false, Nat.zero_add, Nat.add_zero, Nat.zero_mul, Nat.reduceBEq, Nat.reduceAdd, Nat.reduceMul, Nat.reduceSub, Nat.reduceLT, Nat.reduceLeDiff, Nat.reduceEqDiff, Nat.reduceDiv, Nat.reduceMod, Int.reduceAdd, Int.reduceSub, Int.reduceMul, Int.reduceDiv, Int.reduceMod, Int.reduceLT, Int.reduceLE, Int.reduceEq, Int.reduceToNat, Int.reducePow, Int.reduceNeg, ne_eq, not_false_eq_true, not_true_eq_false, decide_true, decide_false, Bool.not_true, Bool.not_false, forall_const, reduceCtorEq, implies_true, beq_self_eq_true, Int.cast_ofNat_Int, reduceIte, if_true, if_false, Bool.false_eq_true, Try.ntmps3, fin_ret hE, Try.results3]
  refine CallC.pur (.v (.bool true)) 600 (fun w1 hm1 => alive_C w1) ?_
  obtain ⟨n, hn, hn2⟩ : ∃ n : Nat, k % 10 = (n : Int) ∧ n ≤ 9 := ⟨(k % 10).toNat, by omega, by omega⟩
  simp (maxSteps := 2000000) only [go_sem, ↓dxc_true, ↓dxc_false, ↓bxc_true, ↓bxc_false, Nat.zero_add, Nat.add_zero, Nat.zero_mul, Nat.reduceBEq, Nat.reduceAdd, Nat.reduceMul, Nat.reduceSub, Nat.reduceLT, Nat.reduceLeDiff, Nat.reduceEqDiff, Nat.reduceDiv, Nat.reduceMod, Int.reduceAdd, Int.reduceSub, Int.reduceMul, Int.reduceDiv, Int.reduceMod, Int.reduceLT, Int.reduceLE, Int.reduceEq, Int.reduceToNat, Int.reducePow, Int.reduceNeg, ne_eq, not_false_eq_true, not_true_eq_false, decide_true, decide_false, Bool.not_true, Bool.not_false, forall_const, reduceCtorEq, implies_true, beq_self_eq_true, Int.cast_ofNat_Int, reduceIte, if_true, if_false, Bool.false_eq_true, Try.ntmps3, fin_ret hE, Try.results3, hn, Int.toNat_natCast, rpt4']
  refine ⟨fun h1 => fun w' hm' => ⟨rfl, hm'.below⟩, fun h1 => ⟨by omega, by omega, ⟨by omega, by omega, by omega⟩, fun bk bm => ?_⟩⟩
  refine CallC.new (γ := Unit) (fun _ b => .p 2 b 0) (fun _ => devO bm 0 0 0 false (List.replicate 16 0) 0) 600 (fun w1 hm1 => ?_) ?_
  · refine (new_C w1 bm).mono ?_
    rintro e w' ⟨c, rfl, h1, h2, h3⟩
    exact ⟨(), c, rfl, h1, h2, h3⟩
  refine ⟨by simp (maxSteps := 2000000) only [go_sem, ↓dxc_true, ↓dxc_false, ↓bxc_true, ↓bxc_false, Nat.zero_add, Nat.add_zero, Nat.zero_mul, Nat.reduceBEq, Nat.reduceAdd, Nat.reduceMul, Nat.reduceSub, Nat.reduceLT, Nat.reduceLeDiff, Nat.reduceEqDiff, Nat.reduceDiv, Nat.reduceMod, Int.reduceAdd, Int.reduceSub, Int.reduceMul, Int.reduceDiv, Int.reduceMod, Int.reduceLT, Int.reduceLE, Int.reduceEq, Int.reduceToNat, Int.reducePow, Int.reduceNeg, ne_eq, not_false_eq_true, not_true_eq_false, decide_true, decide_false, Bool.not_true, Bool.not_false, forall_const, reduceCtorEq, implies_true, beq_self_eq_true, Int.cast_ofNat_Int, reduceIte, if_true, if_false, Bool.false_eq_true, Try.ntmps3], ?_⟩
  intro _ bd
  simp (maxSteps := 2000000) only [go_sem, ↓dxc_true, ↓dxc_false, ↓bxc_true, ↓bxc_false, Nat.zero_add, Nat.add_zero, Nat.zero_mul, Nat.reduceBEq, Nat.reduceAdd, Nat.reduceMul, Nat.reduceSub, Nat.reduceLT, Nat.reduceLeDiff, Nat.reduceEqDiff, Nat.reduceDiv, Nat.reduceMod, Int.reduceAdd, Int.reduceSub, Int.reduceMul, Int.reduceDiv, Int.reduceMod, Int.reduceLT, Int.reduceLE, Int.reduceEq, Int.reduceToNat, Int.reducePow, Int.reduceNeg, ne_eq, not_false_eq_true, not_true_eq_false, decide_true, decide_false, Bool.not_true, Bool.not_false, forall_const, reduceCtorEq, implies_true, beq_self_eq_true, Int.cast_ofNat_Int, reduceIte, if_true, if_false, Bool.false_eq_true, Try.ntmps3, fin_ret hE, Try.results3, hn, Int.toNat_natCast, rpt4']
  refine ⟨by omega, by omega, ⟨by omega, by omega, by omega⟩, fun b => ?_⟩
  refine CallC.mut (γ := DV × Nat × Nat × Int × List SV × Nat × (Nat × Nat)) (fun g => .u [.g (refL g.1 (.s 100 g.2.1 0 n g.2.2.1)), .v (.bool true)])
    (fun g => ⟨100, g.2.1, false, .z (nums .u32 g.1.disk ++ g.2.2.2.2.1) g.2.2.2.2.2.1 g.2.2.2.2.2.2⟩ :: devH bd bm bk n g.2.2.2.1 g.1) (fun g => g.1.Ok n ∧ n ≤ g.2.2.1 ∧ g.2.2.1 ≤ 9223372036854775807) 600 (fun w1 hm1 => ?_) ?_
  · have hd0 : Mem w1 [bd, bm, bk] (devH bd bm bk n 0 (dev0 n)) w1 := Mem.here (l0 := [_]) (l := [_, _, _]) (r := [_]) hm1 (by simp)
    have n1 : bd ≠ ba := hm1.ne (t := 2) (u := 101) rfl rfl (by decide) (Or.inl rfl)
    have n2 : bm ≠ ba := hm1.ne (t := 1) (u := 101) rfl rfl (by decide) (Or.inl rfl)
    have n3 : bk ≠ ba := hm1.ne (t := 0) (u := 101) rfl rfl (by decide) (Or.inl rfl)
    have m1 : bd ≠ b := hm1.ne (t := 2) (u := 3) rfl rfl (by decide) (Or.inl rfl)
    have m2 : bm ≠ b := hm1.ne (t := 1) (u := 3) rfl rfl (by decide) (Or.inl rfl)
    have m3 : bk ≠ b := hm1.ne (t := 0) (u := 3) rfl rfl (by decide) (Or.inl rfl)
    have l1 : bd < w1.heap.size := hm1.lt (e := ⟨2, bd, true, _⟩) (by simp; rfl)
    have l2 : bm < w1.heap.size := hm1.lt (e := ⟨1, bm, true, _⟩) (by simp; rfl)
    have l3 : bk < w1.heap.size := hm1.lt (e := ⟨0, bk, true, _⟩) (by simp; rfl)
    have h3 : w1.heap[b]? = some (denO (.z (nums .u32 (dev0 n).disk ++ []) 44 (0, 0))) := by
      have := hm1.at (t := 3) rfl
      rw [List.append_nil]
      exact this
    have hd1 := hd0.look 101 ba (.z la Ta za) (hm1.at (t := 101) rfl) (by simp [devH, n1, n2, n3])
    have hd2 := hd1.look 100 b _ h3 (by simp [devH, m1, m2, m3])
    have hd3 := hd2.perm (hp' := devH bd bm bk n 0 (dev0 n) ++ [_, _]) (List.perm_append_comm (l₁ := [_, _]) (l₂ := devH bd bm bk n 0 (dev0 n)))
    refine (run_C w1 bd bm bk b ba oa ca n n 0 (dev0 n) acts [] 44 (0, 0) la Ta za (dev0_ok n (by omega)) hacts (by omega) ⟨by omega, by omega⟩ rfl hsa hd3).mono ?_
    rintro e w' ⟨D, rb', c', left', rfl, hD, ⟨k1, j', T', fz', k2⟩, k3, hm'⟩
    have hu := Mem.updS (l0 := [_]) (l := [_, _, _]) (l' := devH bd bm bk n left' D) (r := [_]) hm1 hm' rfl (by simp)
    have hs := hu.sub (hp' := devH bd bm bk n left' D) ((List.sublist_append_left _ _).trans (List.sublist_append_right _ _))
    refine ⟨(D, rb', c', left', j', T', fz'), rfl, ⟨hD, k1⟩, hs.look 100 rb' _ k2 ?_⟩
    rcases k3 with rfl | k3
    · simp [devH, m1, m2, m3]
    · simp [devH]
      omega
  refine ⟨by simp (maxSteps := 2000000) only [go_sem, ↓dxc_true, ↓dxc_false, ↓bxc_true, ↓bxc_false, Nat.zero_add, Nat.add_zero, Nat.zero_mul, Nat.reduceBEq, Nat.reduceAdd, Nat.reduceMul, Nat.reduceSub, Nat.reduceLT, Nat.reduceLeDiff, Nat.reduceEqDiff, Nat.reduceDiv, Nat.reduceMod, Int.reduceAdd, Int.reduceSub, Int.reduceMul, Int.reduceDiv, Int.reduceMod, Int.reduceLT, Int.reduceLE, Int.reduceEq, Int.reduceToNat, Int.reducePow, Int.reduceNeg, ne_eq, not_false_eq_true, not_true_eq_false, decide_true, decide_false, Bool.not_true, Bool.not_false, forall_const, reduceCtorEq, implies_true, beq_self_eq_true, Int.cast_ofNat_Int, reduceIte, if_true, if_false, Bool.false_eq_true, Try.ntmps3], ?_⟩
  rintro ⟨D, rb', c', left', j', T', fz'⟩ ⟨hD, k1⟩
  simp only at hD k1
  have hbD := hD.buf
  have e3 := ld1_end2 .u32 D.buf (.v (.int .i64 (D.pl : Int))) (.s 100 rb' 0 n c') [] 16 hbD
  simp (maxSteps := 2000000) only [go_sem, ↓dxc_true, ↓dxc_false, ↓bxc_true, ↓bxc_false, Nat.zero_add, Nat.add_zero, Nat.zero_mul, Nat.reduceBEq, Nat.reduceAdd, Nat.reduceMul, Nat.reduceSub, Nat.reduceLT, Nat.reduceLeDiff, Nat.reduceEqDiff, Nat.reduceDiv, Nat.reduceMod, Int.reduceAdd, Int.reduceSub, Int.reduceMul, Int.reduceDiv, Int.reduceMod, Int.reduceLT, Int.reduceLE, Int.reduceEq, Int.reduceToNat, Int.reducePow, Int.reduceNeg, ne_eq, not_false_eq_true, not_true_eq_false, decide_true, decide_false, Bool.not_true, Bool.not_false, forall_const, reduceCtorEq, implies_true, beq_self_eq_true, Int.cast_ofNat_Int, reduceIte, if_true, if_false, Bool.false_eq_true, devH, refL, Try.ntmps3, fin_ret hE, Try.results3, List.length_append, nums_length, hbD, allOne_append, allOne_nums]
  intro b7
  refine CodeC.lex 600 Try.follows_mixed (by kernel_rfl) ?_
  simp (maxSteps := 2000000) only [go_sem, ↓dxc_true, ↓dxc_false, ↓bxc_true, ↓bxc_false, Nat.zero_add, Nat.add_zero, Nat.zero_mul, Nat.reduceBEq, Nat.reduceAdd, Nat.reduceMul, Nat.reduceSub, Nat.reduceLT, Nat.reduceLeDiff, Nat.reduceEqDiff, Nat.reduceDiv, Nat.reduceMod, Int.reduceAdd, Int.reduceSub, Int.reduceMul, Int.reduceDiv, Int.reduceMod, Int.reduceLT, Int.reduceLE, Int.reduceEq, Int.reduceToNat, Int.reducePow, Int.reduceNeg, ne_eq, not_false_eq_true, not_true_eq_false, decide_true, decide_false, Bool.not_true, Bool.not_false, forall_const, reduceCtorEq, implies_true, beq_self_eq_true, Int.cast_ofNat_Int, reduceIte, if_true, if_false, Bool.false_eq_true, devH, memO, refL, Try.ntmps3, fin_ret hE, Try.results3, List.length_append, nums_length, hbD, allOne_append, allOne_nums, e3]
  refine CallD.pur (.v (.bool true)) rfl (fun w1 hm1 => ?_) ?_
  · exact same_C w1 bk rb' n c' D.disk hD.disk hD.n (hm1.at (t := 0) rfl) ⟨k1, j', T', fz', hm1.at (t := 100) rfl⟩
  simp (maxSteps := 2000000) only [go_sem, ↓dxc_true, ↓dxc_false, ↓bxc_true, ↓bxc_false, Nat.zero_add, Nat.add_zero, Nat.zero_mul, Nat.reduceBEq, Nat.reduceAdd, Nat.reduceMul, Nat.reduceSub, Nat.reduceLT, Nat.reduceLeDiff, Nat.reduceEqDiff, Nat.reduceDiv, Nat.reduceMod, Int.reduceAdd, Int.reduceSub, Int.reduceMul, Int.reduceDiv, Int.reduceMod, Int.reduceLT, Int.reduceLE, Int.reduceEq, Int.reduceToNat, Int.reducePow, Int.reduceNeg, ne_eq, not_false_eq_true, not_true_eq_false, decide_true, decide_false, Bool.not_true, Bool.not_false, forall_const, reduceCtorEq, implies_true, beq_self_eq_true, Int.cast_ofNat_Int, reduceIte, if_true, if_false, Bool.false_eq_true, devH, Try.ntmps3, fin_ret hE, Try.results3]
  exact fun w' hm' => ⟨rfl, hm'.below⟩

theorem run_N (w : World) (bd bm bk rb n c : Nat) (left : Int) (d : DV) (j : List SV) (T : Nat) (fz : Nat × Nat) (hd : d.Ok n) (hc : n ≤ c ∧ c ≤ 9223372036854775807)
    (h : Mem w [bd, bm, bk] (devH bd bm bk n left d ++ [⟨100, rb, false, .z (nums .u32 d.disk ++ j) T fz⟩]) w) :
    Calls Try.prog 6 #[.pointer (some ⟨bd, 0, none⟩), den (.g (refL d (.s 100 rb 0 n c))), den (.v (.slice none 0 0))] w fun e w' =>
      ∃ D rb' c' left', e = .returned (den (.u [.g (refL D (.s 100 rb' 0 n c')), .v (.bool true)])) ∧ D.Ok n ∧ DiskR w' n D.disk rb' c' ∧ (rb' = rb ∨ w.heap.size ≤ rb') ∧ Mem w [bd, bm, bk] (devH bd bm bk n left' D) w' := by
  refine calls_of_ex [.p 2 bd 0, .g (refL d (.s 100 rb 0 n c)), .v (.slice none 0 0)] _ [bd, bm, bk] 3 600 Try.func6 rfl h (by simp [Try.ntmps6]) fun E hE => ?_
  have hb := hd.buf
  simp (maxSteps := 2000000) only [go_sem, ↓dxc_true, ↓dxc_false, ↓bxc_true, ↓bxc_false, Nat.zero_add, Nat.add_zero, Nat.zero_mul, Nat.reduceBEq, Nat.reduceAdd, Nat.reduceMul, Nat.reduceSub, Nat.reduceLT, Nat.reduceLeDiff, Nat.reduceEqDiff, Nat.reduceDiv, Nat.reduceMod, Int.reduceAdd, Int.reduceSub, Int.reduceMul, Int.reduceDiv, Int.reduceMod, Int.reduceLT, Int.reduceLE, Int.reduceEq, Int.reduceToNat, Int.reducePow, Int.reduceNeg, ne_eq, not_false_eq_true, not_true_eq_false, decide_true, decide_false, Bool.not_true, Bool.not_false, forall_const, reduceCtorEq, implies_true, beq_self_eq_true, Int.cast_ofNat_Int, reduceIte, if_true, if_false, Bool.false_eq_true, devH, refL, Try.ntmps6, fin_ret hE, Try.results6, List.length_append, nums_length, hb, allOne_append, allOne_nums, List.cons_append, List.nil_append]
  intro b3 b4
  refine CodeC.unroll 1 600 ?_
  simp (maxSteps := 2000000) only [go_sem, ↓dxc_true, ↓dxc_false, ↓bxc_true, ↓bxc_false, Nat.zero_add, Nat.add_zero, Nat.zero_mul, Nat.reduceBEq, Nat.reduceAdd, Nat.reduceMul, Nat.reduceSub, Nat.reduceLT, Nat.reduceLeDiff, Nat.reduceEqDiff, Nat.reduceDiv, Nat.reduceMod, Int.reduceAdd, Int.reduceSub, Int.reduceMul, Int.reduceDiv, Int.reduceMod, Int.reduceLT, Int.reduceLE, Int.reduceEq, Int.reduceToNat, Int.reducePow, Int.reduceNeg, ne_eq, not_false_eq_true, not_true_eq_false, decide_true, decide_false, Bool.not_true, Bool.not_false, forall_const, reduceCtorEq, implies_true, beq_self_eq_true, Int.cast_ofNat_Int, reduceIte, if_true, if_false, Bool.false_eq_true, devH, refL, Try.ntmps6, fin_ret hE, Try.results6, List.length_append, nums_length, hb, allOne_append, allOne_nums, List.cons_append, List.nil_append]
  refine fun w' hm' => ⟨d, rb, c, left, rfl, hd, ⟨hc, j, T, fz, hm'.at (t := 100) rfl⟩, Or.inl rfl, ?_⟩
  refine hm'.sub ?_
  exact ((List.sublist_append_left (devH bd bm bk n left d) [⟨100, rb, false, .z (nums .u32 d.disk ++ j) T fz⟩]).trans (List.sublist_cons_self _ _)).trans (List.sublist_cons_self _ _)

theorem sectorActs_N (w : World) (k : Int) (hk : 0 ≤ k ∧ k < 256) :
    Calls Try.prog 3 #[.int .u8 k, den (.v (.slice none 0 0))] w fun e w' => e = .returned (.bool true) ∧ Below w.heap.size w w' := by
  have hm : Mem w [] [] w := Mem.reads (by simp) (by simp)
  refine calls_of_ex [.v (.int .u8 k), .v (.slice none 0 0)] _ [] 0 600 Try.func3 rfl hm (by simp [Try.ntmps3]) fun E hE => ?_
  simp (maxSteps := 2000000) only [go_sem, ↓dxc_true, ↓dxc_false, ↓bxc_true, ↓bxc_false, Nat.zero_add, Nat.add_zero, Nat.zero_mul, Nat.reduceBEq, Nat.reduceAdd, Nat.reduceMul, Nat.reduceSub, Nat.reduceLT, Nat.reduceLeDiff, Nat.reduceEqDiff, Nat.reduceDiv, Nat.reduceMod, Int.reduceAdd, Int.reduceSub, Int.reduceMul, Int.reduceDiv, Int.reduceMod, Int.reduceLT, Int.reduceLE, Int.reduceEq, Int.reduceToNat, Int.reducePow, Int.reduceNeg, ne_eq, not_false_eq_true, not_true_eq_false, decide_true, decide_false, Bool.not_true, Bool.not_false, forall_const, reduceCtorEq, implies_true, beq_self_eq_true, Int.cast_ofNat_Int, reduceIte, if_true, if_false, Bool.false_eq_true, Try.ntmps3, fin_ret hE, Try.results3]
  refine CallC.pur (.v (.bool true)) 600 (fun w1 hm1 => alive_C w1) ?_
  obtain ⟨n, hn, hn2⟩ : ∃ n : Nat, k % 10 = (n : Int) ∧ n ≤ 9 := ⟨(k % 10).toNat, by omega, by omega⟩
  simp (maxSteps := 2000000) only [go_sem, ↓dxc_true, ↓dxc_false, ↓bxc_true, ↓bxc_false, Nat.zero_add, Nat.add_zero, Nat.zero_mul, Nat.reduceBEq, Nat.reduceAdd, Nat.reduceMul, Nat.reduceSub, Nat.reduceLT, Nat.reduceLeDiff, Nat.reduceEqDiff, Nat.reduceDiv, Nat.reduceMod, Int.reduceAdd, Int.reduceSub, Int.reduceMul, Int.reduceDiv, Int.reduceMod, Int.reduceLT, Int.reduceLE, Int.reduceEq, Int.reduceToNat, Int.reducePow, Int.reduceNeg, ne_eq, not_false_eq_true, not_true_eq_false, decide_true, decide_false, Bool.not_true, Bool.not_false, forall_const, reduceCtorEq, implies_true, beq_self_eq_true, Int.cast_ofNat_Int, reduceIte, if_true, if_false, Bool.false_eq_true, Try.ntmps3, fin_ret hE, Try.results3, hn, Int.toNat_natCast, rpt4']
  refine ⟨by omega, by omega, ⟨by omega, by omega, by omega⟩, fun bk bm => ?_⟩
  refine CallC.new (γ := Unit) (fun _ b => .p 2 b 0) (fun _ => devO bm 0 0 0 false (List.replicate 16 0) 0) 600 (fun w1 hm1 => ?_) ?_
  · refine (new_C w1 bm).mono ?_
    rintro e w' ⟨c, rfl, h1, h2, h3⟩
    exact ⟨(), c, rfl, h1, h2, h3⟩
  refine ⟨by simp (maxSteps := 2000000) only [go_sem, ↓dxc_true, ↓dxc_false, ↓bxc_true, ↓bxc_false, Nat.zero_add, Nat.add_zero, Nat.zero_mul, Nat.reduceBEq, Nat.reduceAdd, Nat.reduceMul, Nat.reduceSub, Nat.reduceLT, Nat.reduceLeDiff, Nat.reduceEqDiff, Nat.reduceDiv, Nat.reduceMod, Int.reduceAdd, Int.reduceSub, Int.reduceMul, Int.reduceDiv, Int.reduceMod, Int.reduceLT, Int.reduceLE, Int.reduceEq, Int.reduceToNat, Int.reducePow, Int.reduceNeg, ne_eq, not_false_eq_true, not_true_eq_false, decide_true, decide_false, Bool.not_true, Bool.not_false, forall_const, reduceCtorEq, implies_true, beq_self_eq_true, Int.cast_ofNat_Int, reduceIte, if_true, if_false, Bool.false_eq_true, Try.ntmps3], ?_⟩
  intro _ bd
  simp (maxSteps := 2000000) only [go_sem, ↓dxc_true, ↓dxc_false, ↓bxc_true, ↓bxc_false, Nat.zero_add, Nat.add_zero, Nat.zero_mul, Nat.reduceBEq, Nat.reduceAdd, Nat.reduceMul, Nat.reduceSub, Nat.reduceLT, Nat.reduceLeDiff, Nat.reduceEqDiff, Nat.reduceDiv, Nat.reduceMod, Int.reduceAdd, Int.reduceSub, Int.reduceMul, Int.reduceDiv, Int.reduceMod, Int.reduceLT, Int.reduceLE, Int.reduceEq, Int.reduceToNat, Int.reducePow, Int.reduceNeg, ne_eq, not_false_eq_true, not_true_eq_false, decide_true, decide_false, Bool.not_true, Bool.not_false, forall_const, reduceCtorEq, implies_true, beq_self_eq_true, Int.cast_ofNat_Int, reduceIte, if_true, if_false, Bool.false_eq_true, Try.ntmps3, fin_ret hE, Try.results3, hn, Int.toNat_natCast, rpt4']
  refine ⟨by omega, by omega, ⟨by omega, by omega, by omega⟩, fun b => ?_⟩
  refine CallC.mut (γ := DV × Nat × Nat × Int × List SV × Nat × (Nat × Nat)) (fun g => .u [.g (refL g.1 (.s 100 g.2.1 0 n g.2.2.1)), .v (.bool true)])
    (fun g => ⟨100, g.2.1, false, .z (nums .u32 g.1.disk ++ g.2.2.2.2.1) g.2.2.2.2.2.1 g.2.2.2.2.2.2⟩ :: devH bd bm bk n g.2.2.2.1 g.1) (fun g => g.1.Ok n ∧ n ≤ g.2.2.1 ∧ g.2.2.1 ≤ 9223372036854775807) 600 (fun w1 hm1 => ?_) ?_
  · have hd0 : Mem w1 [bd, bm, bk] (devH bd bm bk n 0 (dev0 n)) w1 := Mem.here (l0 := [_]) (l := [_, _, _]) (r := []) hm1 (by simp)
    have m1 : bd ≠ b := hm1.ne (t := 2) (u := 3) rfl rfl (by decide) (Or.inl rfl)
    have m2 : bm ≠ b := hm1.ne (t := 1) (u := 3) rfl rfl (by decide) (Or.inl rfl)
    have m3 : bk ≠ b := hm1.ne (t := 0) (u := 3) rfl rfl (by decide) (Or.inl rfl)
    have l1 : bd < w1.heap.size := hm1.lt (e := ⟨2, bd, true, _⟩) (by simp; rfl)
    have l2 : bm < w1.heap.size := hm1.lt (e := ⟨1, bm, true, _⟩) (by simp; rfl)
    have l3 : bk < w1.heap.size := hm1.lt (e := ⟨0, bk, true, _⟩) (by simp; rfl)
    have h3 : w1.heap[b]? = some (denO (.z (nums .u32 (dev0 n).disk ++ []) 44 (0, 0))) := by
      have := hm1.at (t := 3) rfl
      rw [List.append_nil]
      exact this
    have hd2 := hd0.look 100 b _ h3 (by simp [devH, m1, m2, m3])
    have hd3 := hd2.perm (hp' := devH bd bm bk n 0 (dev0 n) ++ [_]) (List.perm_append_comm (l₁ := [_]) (l₂ := devH bd bm bk n 0 (dev0 n)))
    refine (run_N w1 bd bm bk b n n 0 (dev0 n) [] 44 (0, 0) (dev0_ok n (by omega)) ⟨by omega, by omega⟩ hd3).mono ?_
    rintro e w' ⟨D, rb', c', left', rfl, hD, ⟨k1, j', T', fz', k2⟩, k3, hm'⟩
    have hu := Mem.updS (l0 := [_]) (l := [_, _, _]) (l' := devH bd bm bk n left' D) (r := []) hm1 hm' rfl (by simp)
    have hs := hu.sub (hp' := devH bd bm bk n left' D) ((List.sublist_append_left _ _).trans (List.sublist_append_right _ _))
    refine ⟨(D, rb', c', left', j', T', fz'), rfl, ⟨hD, k1⟩, hs.look 100 rb' _ k2 ?_⟩
    rcases k3 with rfl | k3
    · simp [devH, m1, m2, m3]
    · simp [devH]
      omega
  refine ⟨by simp (maxSteps := 2000000) only [go_sem, ↓dxc_true, ↓dxc_false, ↓bxc_true, ↓bxc_false, Nat.zero_add, Nat.add_zero, Nat.zero_mul, Nat.reduceBEq, Nat.reduceAdd, Nat.reduceMul, Nat.reduceSub, Nat.reduceLT, Nat.reduceLeDiff, Nat.reduceEqDiff, Nat.reduceDiv, Nat.reduceMod, Int.reduceAdd, Int.reduceSub, Int.reduceMul, Int.reduceDiv, Int.reduceMod, Int.reduceLT, Int.reduceLE, Int.reduceEq, Int.reduceToNat, Int.reducePow, Int.reduceNeg, ne_eq, not_false_eq_true, not_true_eq_false, decide_true, decide_false, Bool.not_true, Bool.not_false, forall_const, reduceCtorEq, implies_true, beq_self_eq_true, Int.cast_ofNat_Int, reduceIte, if_true, if_false, Bool.false_eq_true, Try.ntmps3], ?_⟩
  rintro ⟨D, rb', c', left', j', T', fz'⟩ ⟨hD, k1⟩
  simp only at hD k1
  have hbD := hD.buf
  have e3 := ld1_end2 .u32 D.buf (.v (.int .i64 (D.pl : Int))) (.s 100 rb' 0 n c') [] 16 hbD
  simp (maxSteps := 2000000) only [go_sem, ↓dxc_true, ↓dxc_false, ↓bxc_true, ↓bxc_false, Nat.zero_add, Nat.add_zero, Nat.zero_mul, Nat.reduceBEq, Nat.reduceAdd, Nat.reduceMul, Nat.reduceSub, Nat.reduceLT, Nat.reduceLeDiff, Nat.reduceEqDiff, Nat.reduceDiv, Nat.reduceMod, Int.reduceAdd, Int.reduceSub, Int.reduceMul, Int.reduceDiv, Int.reduceMod, Int.reduceLT, Int.reduceLE, Int.reduceEq, Int.reduceToNat, Int.reducePow, Int.reduceNeg, ne_eq, not_false_eq_true, not_true_eq_false, decide_true, decide_false, Bool.not_true, Bool.not_false, forall_const, reduceCtorEq, implies_true, beq_self_eq_true, Int.cast_ofNat_Int, reduceIte, if_true, if_false, Bool.false_eq_true, devH, refL, Try.ntmps3, fin_ret hE, Try.results3, List.length_append, nums_length, hbD, allOne_append, allOne_nums]
  intro b7
  refine CodeC.lex 600 Try.follows_mixed (by kernel_rfl) ?_
  simp (maxSteps := 2000000) only [go_sem, ↓dxc_true, ↓dxc_false, ↓bxc_true, ↓bxc_false, Nat.zero_add, Nat.add_zero, Nat.zero_mul, Nat.reduceBEq, Nat.reduceAdd, Nat.reduceMul, Nat.reduceSub, Nat.reduceLT, Nat.reduceLeDiff, Nat.reduceEqDiff, Nat.reduceDiv, Nat.reduceMod, Int.reduceAdd, Int.reduceSub, Int.reduceMul, Int.reduceDiv, Int.reduceMod, Int.reduceLT, Int.reduceLE, Int.reduceEq, Int.reduceToNat, Int.reducePow, Int.reduceNeg, ne_eq, not_false_eq_true, not_true_eq_false, decide_true, decide_false, Bool.not_true, Bool.not_false, forall_const, reduceCtorEq, implies_true, beq_self_eq_true, Int.cast_ofNat_Int, reduceIte, if_true, if_false, Bool.false_eq_true, devH, memO, refL, Try.ntmps3, fin_ret hE, Try.results3, List.length_append, nums_length, hbD, allOne_append, allOne_nums, e3]
  refine CallD.pur (.v (.bool true)) rfl (fun w1 hm1 => ?_) ?_
  · exact same_C w1 bk rb' n c' D.disk hD.disk hD.n (hm1.at (t := 0) rfl) ⟨k1, j', T', fz', hm1.at (t := 100) rfl⟩
  simp (maxSteps := 2000000) only [go_sem, ↓dxc_true, ↓dxc_false, ↓bxc_true, ↓bxc_false, Nat.zero_add, Nat.add_zero, Nat.zero_mul, Nat.reduceBEq, Nat.reduceAdd, Nat.reduceMul, Nat.reduceSub, Nat.reduceLT, Nat.reduceLeDiff, Nat.reduceEqDiff, Nat.reduceDiv, Nat.reduceMod, Int.reduceAdd, Int.reduceSub, Int.reduceMul, Int.reduceDiv, Int.reduceMod, Int.reduceLT, Int.reduceLE, Int.reduceEq, Int.reduceToNat, Int.reducePow, Int.reduceNeg, ne_eq, not_false_eq_true, not_true_eq_false, decide_true, decide_false, Bool.not_true, Bool.not_false, forall_const, reduceCtorEq, implies_true, beq_self_eq_true, Int.cast_ofNat_Int, reduceIte, if_true, if_false, Bool.false_eq_true, devH, Try.ntmps3, fin_ret hE, Try.results3]
  exact fun w' hm' => ⟨rfl, hm'.below⟩

end Go.Proofs
