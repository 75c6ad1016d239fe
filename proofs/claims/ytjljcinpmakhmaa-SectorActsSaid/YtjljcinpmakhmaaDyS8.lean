/- Acts on a device, and on the document's: they answer alike. -/
import Derived.Test.YtjljcinpmakhmaaDyS7
set_option linter.unusedSimpArgs false
set_option linter.unusedVariables false
set_option linter.unusedSectionVars false
set_option maxRecDepth 100000
set_option maxHeartbeats 8000000
namespace Go.Proofs
open Go.Dx Go.RowKit

/-- One act: its kind, its register, its value. -/
structure SAct where
  k : Int
  r : Int
  v : Int

def SAct.ok (x : SAct) : Prop := (0 ≤ x.k ∧ x.k < 256) ∧ (-9223372036854775808 ≤ x.r ∧ x.r ≤ 9223372036854775807) ∧ u32k x.v

/-- From place o on there stand these acts. -/
def Seg3 (l : List SV) (o : Nat) (xs : List SAct) : Prop := ∀ i, (h : i < xs.length) → o + i * 3 + 3 ≤ l.length ∧ ldN l (o + i * 3) 3 = [.v (.int .u8 xs[i].k), .v (.int .i64 xs[i].r), .v (.int .u32 xs[i].v)]

/-- What lies while acts run. -/
abbrev runH (b3 b4 bd bm bk rb ba n : Nat) (left : Int) (D : DV) (sl : SV) (j : List SV) (T : Nat) (fz : Nat × Nat) (la : List SV) (Ta : Nat) (za : Nat × Nat) : List Ent :=
  [⟨4, b4, true, .c z34 34⟩, ⟨3, b3, true, .c (refL D sl) 34⟩, ⟨2, bd, true, devO bm D.fi D.ma D.er D.li D.buf D.pl⟩, ⟨1, bm, true, memO bk n left⟩, ⟨0, bk, true, rowO D.disk⟩,
   ⟨100, rb, false, .z (nums .u32 D.disk ++ j) T fz⟩, ⟨101, ba, false, .z la Ta za⟩]

theorem getS_disk (d : DV) (n : Nat) (reg : Int) : (getS d n reg).1.disk = d.disk := by
  unfold getS
  repeat' (first | rfl | split)

theorem li_same (b : Bool) : (b == decide ((if b = true then (1 : Int) else 0) = 1)) = true := by cases b <;> rfl

theorem run_C (w : World) (bd bm bk rb ba oa ca n c : Nat) (left : Int) (d : DV) (acts : List SAct) (j : List SV) (T : Nat) (fz : Nat × Nat) (la : List SV) (Ta : Nat) (za : Nat × Nat)
    (hd : d.Ok n) (hacts : ∀ x ∈ acts, x.ok) (hna : acts.length ≤ 100) (hc : n ≤ c ∧ c ≤ 9223372036854775807) (hl : left = 0) (hsa : Seg3 la oa acts)
    (h : Mem w [bd, bm, bk] (devH bd bm bk n left d ++ [⟨100, rb, false, .z (nums .u32 d.disk ++ j) T fz⟩, ⟨101, ba, false, .z la Ta za⟩]) w) :
    Calls Try.prog 6 #[.pointer (some ⟨bd, 0, none⟩), den (.g (refL d (.s 100 rb 0 n c))), den (.s 101 ba oa acts.length ca)] w fun e w' =>
      ∃ D rb' c' left', e = .returned (den (.u [.g (refL D (.s 100 rb' 0 n c')), .v (.bool true)])) ∧ D.Ok n ∧ DiskR w' n D.disk rb' c' ∧ (rb' = rb ∨ w.heap.size ≤ rb') ∧ Mem w [bd, bm, bk] (devH bd bm bk n left' D) w' := by
  refine calls_of_ex [.p 2 bd 0, .g (refL d (.s 100 rb 0 n c)), .s 101 ba oa acts.length ca] _ [bd, bm, bk] 3 600 Try.func6 rfl h (by simp [Try.ntmps6]) fun E hE => ?_
  have hb := hd.buf
  simp (maxSteps := 2000000) only [go_sem, ↓dxc_true, ↓dxc_false, ↓bxc_true, ↓bxc_false, Nat.zero_add, Nat.add_zero, Nat.zero_mul, Nat.reduceBEq, Nat.reduceAdd, Nat.reduceMul, Nat.reduceSub, Nat.reduceLT, Nat.reduceLeDiff, Nat.reduceEqDiff, Nat.reduceDiv, Nat.reduceMod, Int.reduceAdd, Int.reduceSub, Int.reduceMul, Int.reduceDiv, Int.reduceMod, Int.reduceLT, Int.reduceLE, Int.reduceEq, Int.reduceToNat, Int.reducePow, Int.reduceNeg, ne_eq, not_false_eq_true, not_true_eq_false, decide_true, decide_false, Bool.not_true, Bool.not_false, forall_const, reduceCtorEq, implies_true, beq_self_eq_true, Int.cast_ofNat_Int, reduceIte, if_true, if_false, Bool.false_eq_true, devH, refL, Try.ntmps6, fin_ret hE, Try.results6, List.length_append, nums_length, hb, allOne_append, allOne_nums, List.cons_append, List.nil_append]
  intro b3 b4
  refine CodeC.loop (γ := { g : Nat × DV × Int × Nat × Nat × List SV × Nat × (Nat × Nat) // g.1 ≤ acts.length ∧ g.2.1.Ok n ∧ (-4 * (g.1 : Int) ≤ g.2.2.1 ∧ g.2.2.1 ≤ 0) ∧ (g.2.2.2.1 = rb ∨ w.heap.size ≤ g.2.2.2.1) ∧ (n ≤ g.2.2.2.2.1 ∧ g.2.2.2.2.1 ≤ 9223372036854775807) })
    (fun g => ⟨82, 5, [(20, .v (.int .i64 (g.1.1 : Int))), (19, .v (.int .i64 (acts.length : Int))), (18, .s 101 ba oa acts.length ca), (0, .p 2 bd 0), (4, .p 3 b3 0), (6, .p 4 b4 0)],
      runH b3 b4 bd bm bk g.1.2.2.2.1 ba n g.1.2.2.1 g.1.2.1 (.s 100 g.1.2.2.2.1 0 n g.1.2.2.2.2.1) g.1.2.2.2.2.2.1 g.1.2.2.2.2.2.2.1 g.1.2.2.2.2.2.2.2 la Ta za, []⟩) (fun g => acts.length - g.1.1)
    ⟨(0, d, left, rb, c, j, T, fz), by simp only; omega, hd, by simp only; omega, Or.inl rfl, hc⟩ 600 ⟨rfl, rfl, ⟨rfl, rfl, rfl, rfl, rfl, rfl, trivial⟩, SubH.refl _⟩ ?_
  rintro ⟨⟨i, D, l, rbi, ci, ji, Ti, fzi⟩, hi, hD, hli, hrb, hci⟩
  simp only at hi hD hli hrb hci
  clear hc hl h hb hd
  simp (maxSteps := 2000000) only [go_sem, ↓dxc_true, ↓dxc_false, ↓bxc_true, ↓bxc_false, Nat.zero_add, Nat.add_zero, Nat.zero_mul, Nat.reduceBEq, Nat.reduceAdd, Nat.reduceMul, Nat.reduceSub, Nat.reduceLT, Nat.reduceLeDiff, Nat.reduceEqDiff, Nat.reduceDiv, Nat.reduceMod, Int.reduceAdd, Int.reduceSub, Int.reduceMul, Int.reduceDiv, Int.reduceMod, Int.reduceLT, Int.reduceLE, Int.reduceEq, Int.reduceToNat, Int.reducePow, Int.reduceNeg, ne_eq, not_false_eq_true, not_true_eq_false, decide_true, decide_false, Bool.not_true, Bool.not_false, forall_const, reduceCtorEq, implies_true, beq_self_eq_true, Int.cast_ofNat_Int, reduceIte, if_true, if_false, Bool.false_eq_true, runH, devH, Try.ntmps6, fin_ret hE, Try.results6]
  refine ⟨fun h1 => ?_, fun h1 => ?_⟩
  · have hi' : i < acts.length := by omega
    obtain ⟨hs1, hs2⟩ := hsa i hi'
    obtain ⟨ok1, ok2, ok3⟩ := hacts _ (List.getElem_mem hi')
    have hbD := hD.buf
    simp (maxSteps := 2000000) only [go_sem, ↓dxc_true, ↓dxc_false, ↓bxc_true, ↓bxc_false, Nat.zero_add, Nat.add_zero, Nat.zero_mul, Nat.reduceBEq, Nat.reduceAdd, Nat.reduceMul, Nat.reduceSub, Nat.reduceLT, Nat.reduceLeDiff, Nat.reduceEqDiff, Nat.reduceDiv, Nat.reduceMod, Int.reduceAdd, Int.reduceSub, Int.reduceMul, Int.reduceDiv, Int.reduceMod, Int.reduceLT, Int.reduceLE, Int.reduceEq, Int.reduceToNat, Int.reducePow, Int.reduceNeg, ne_eq, not_false_eq_true, not_true_eq_false, decide_true, decide_false, Bool.not_true, Bool.not_false, forall_const, reduceCtorEq, implies_true, beq_self_eq_true, Int.cast_ofNat_Int, reduceIte, if_true, if_false, Bool.false_eq_true, runH, devH, Try.ntmps6, fin_ret hE, Try.results6, Int.toNat_natCast, hs2]
    have next : ∀ (sl' : List (Nat × SV)) (hp' : List Ent) (nt' : Nat) (X : DV) (l' : Int) (rb' c' : Nat) (j' : List SV) (T' : Nat) (fz' : Nat × Nat), X.Ok n → (l - 4 ≤ l' ∧ l' ≤ l) → (rb' = rb ∨ w.heap.size ≤ rb') → (n ≤ c' ∧ c' ≤ 9223372036854775807) →
        lk sl' 20 = .v (.int .i64 ((i : Int) + 1)) → lk sl' 19 = .v (.int .i64 (acts.length : Int)) → lk sl' 18 = .s 101 ba oa acts.length ca → lk sl' 0 = .p 2 bd 0 → lk sl' 4 = .p 3 b3 0 → lk sl' 6 = .p 4 b4 0 →
        SubH (runH b3 b4 bd bm bk rb' ba n l' X (.s 100 rb' 0 n c') j' T' fz' la Ta za) hp' →
        ∃ g' : { g : Nat × DV × Int × Nat × Nat × List SV × Nat × (Nat × Nat) // g.1 ≤ acts.length ∧ g.2.1.Ok n ∧ (-4 * (g.1 : Int) ≤ g.2.2.1 ∧ g.2.2.1 ≤ 0) ∧ (g.2.2.2.1 = rb ∨ w.heap.size ≤ g.2.2.2.1) ∧ (n ≤ g.2.2.2.2.1 ∧ g.2.2.2.2.1 ≤ 9223372036854775807) },
          Dx.Sub ⟨82, 5, [(20, .v (.int .i64 (g'.1.1 : Int))), (19, .v (.int .i64 (acts.length : Int))), (18, .s 101 ba oa acts.length ca), (0, .p 2 bd 0), (4, .p 3 b3 0), (6, .p 4 b4 0)],
      runH b3 b4 bd bm bk g'.1.2.2.2.1 ba n g'.1.2.2.1 g'.1.2.1 (.s 100 g'.1.2.2.2.1 0 n g'.1.2.2.2.2.1) g'.1.2.2.2.2.2.1 g'.1.2.2.2.2.2.2.1 g'.1.2.2.2.2.2.2.2 la Ta za, []⟩ ⟨82, nt', sl', hp', []⟩ ∧ acts.length - g'.1.1 < acts.length - i :=
      fun sl' hp' nt' X l' rb' c' j' T' fz' p1 p2 p3 p4 q1 q2 q3 q4 q5 q6 q7 => ⟨⟨(i + 1, X, l', rb', c', j', T', fz'), by simp only; omega, p1, by simp only; omega, p3, p4⟩, ⟨rfl, rfl, ⟨by simpa using q1, q2, q3, q4, q5, q6, trivial⟩, q7⟩, by simp only; omega⟩
    generalize acts[i] = x at *
    refine ⟨⟨by omega, by omega⟩, hs1, fun b9 => ⟨by omega, fun hk => ?_, fun hk => ?_⟩⟩
    · obtain ⟨X, y, e, hg⟩ : ∃ X y e, getS D n x.r = (X, y, e) := ⟨_, _, _, rfl⟩
      have hX : X.Ok n := by have := getS_ok n x.r hD; rw [hg] at this; exact this
      have hXd : X.disk = D.disk := by have := getS_disk D n x.r; rw [hg] at this; exact this
      have hbX := hX.buf
      refine CallC.mut (γ := Unit) (fun _ => .u [.v (.int .u32 y), .v (.int .i64 e)]) (fun _ => [⟨5, b9, true, .c [.v (.int .u8 x.k), .v (.int .i64 x.r), .v (.int .u32 x.v)] 49⟩, ⟨4, b4, true, .c z34 34⟩, ⟨3, b3, true, .c (refL D (.s 100 rbi 0 n ci)) 34⟩] ++ (devH bd bm bk n l X ++ [⟨100, rbi, false, .z (nums .u32 X.disk ++ ji) Ti fzi⟩, ⟨101, ba, false, .z la Ta za⟩])) (fun _ => True) 600 (fun w1 hm1 => ?_) ?_
      · have := get_C w1 bd bm bk n l D hD x.r (Mem.here (l0 := [_, _, _]) (l := [_, _, _]) (r := [_, _]) hm1 (by simp)) ok2
        rw [hg] at this
        refine this.mono ?_
        rintro e' w' ⟨rfl, hm'⟩
        rw [hXd]
        exact ⟨(), rfl, trivial, Mem.updS (l0 := [_, _, _]) (l := [_, _, _]) (r := [_, _]) hm1 hm' rfl (by simp)⟩
      refine ⟨by simp (maxSteps := 2000000) only [go_sem, ↓dxc_true, ↓dxc_false, ↓bxc_true, ↓bxc_false, Nat.zero_add, Nat.add_zero, Nat.zero_mul, Nat.reduceBEq, Nat.reduceAdd, Nat.reduceMul, Nat.reduceSub, Nat.reduceLT, Nat.reduceLeDiff, Nat.reduceEqDiff, Nat.reduceDiv, Nat.reduceMod, Int.reduceAdd, Int.reduceSub, Int.reduceMul, Int.reduceDiv, Int.reduceMod, Int.reduceLT, Int.reduceLE, Int.reduceEq, Int.reduceToNat, Int.reducePow, Int.reduceNeg, ne_eq, not_false_eq_true, not_true_eq_false, decide_true, decide_false, Bool.not_true, Bool.not_false, forall_const, reduceCtorEq, implies_true, beq_self_eq_true, Int.cast_ofNat_Int, reduceIte, if_true, if_false, Bool.false_eq_true, Try.ntmps6], fun _ _ => ?_⟩
      simp (maxSteps := 2000000) only [go_sem, ↓dxc_true, ↓dxc_false, ↓bxc_true, ↓bxc_false, Nat.zero_add, Nat.add_zero, Nat.zero_mul, Nat.reduceBEq, Nat.reduceAdd, Nat.reduceMul, Nat.reduceSub, Nat.reduceLT, Nat.reduceLeDiff, Nat.reduceEqDiff, Nat.reduceDiv, Nat.reduceMod, Int.reduceAdd, Int.reduceSub, Int.reduceMul, Int.reduceDiv, Int.reduceMod, Int.reduceLT, Int.reduceLE, Int.reduceEq, Int.reduceToNat, Int.reducePow, Int.reduceNeg, ne_eq, not_false_eq_true, not_true_eq_false, decide_true, decide_false, Bool.not_true, Bool.not_false, forall_const, reduceCtorEq, implies_true, beq_self_eq_true, Int.cast_ofNat_Int, reduceIte, if_true, if_false, Bool.false_eq_true, runH, refL, devH, Try.ntmps6, fin_ret hE, Try.results6, List.length_append, nums_length, hbD, List.cons_append, List.nil_append]
      refine CallC.pur (.u [.g (refL X (.s 100 rbi 0 n ci)), .v (.int .u32 y), .v (.int .i64 e)]) 600 (fun w1 hm1 => ?_) ?_
      · have := rget_C w1 rbi n ci D hD x.r ok2
        rw [hg] at this
        exact this
      simp (maxSteps := 2000000) only [go_sem, ↓dxc_true, ↓dxc_false, ↓bxc_true, ↓bxc_false, Nat.zero_add, Nat.add_zero, Nat.zero_mul, Nat.reduceBEq, Nat.reduceAdd, Nat.reduceMul, Nat.reduceSub, Nat.reduceLT, Nat.reduceLeDiff, Nat.reduceEqDiff, Nat.reduceDiv, Nat.reduceMod, Int.reduceAdd, Int.reduceSub, Int.reduceMul, Int.reduceDiv, Int.reduceMod, Int.reduceLT, Int.reduceLE, Int.reduceEq, Int.reduceToNat, Int.reducePow, Int.reduceNeg, ne_eq, not_false_eq_true, not_true_eq_false, decide_true, decide_false, Bool.not_true, Bool.not_false, forall_const, reduceCtorEq, implies_true, beq_self_eq_true, Int.cast_ofNat_Int, reduceIte, if_true, if_false, Bool.false_eq_true, runH, refL, devH, Try.ntmps6, fin_ret hE, Try.results6, List.length_append, nums_length, hbD, hbX, allOne_append, allOne_nums]
      intro b10
      refine CodeC.lex 600 Try.follows_mixed (by kernel_rfl) ?_
      simp (maxSteps := 2000000) only [go_sem, ↓dxc_true, ↓dxc_false, ↓bxc_true, ↓bxc_false, Nat.zero_add, Nat.add_zero, Nat.zero_mul, Nat.reduceBEq, Nat.reduceAdd, Nat.reduceMul, Nat.reduceSub, Nat.reduceLT, Nat.reduceLeDiff, Nat.reduceEqDiff, Nat.reduceDiv, Nat.reduceMod, Int.reduceAdd, Int.reduceSub, Int.reduceMul, Int.reduceDiv, Int.reduceMod, Int.reduceLT, Int.reduceLE, Int.reduceEq, Int.reduceToNat, Int.reducePow, Int.reduceNeg, ne_eq, not_false_eq_true, not_true_eq_false, decide_true, decide_false, Bool.not_true, Bool.not_false, forall_const, reduceCtorEq, implies_true, beq_self_eq_true, Int.cast_ofNat_Int, reduceIte, if_true, if_false, Bool.false_eq_true, runH, refL, devH, Try.ntmps6, fin_ret hE, Try.results6, List.length_append, nums_length, hbD, hbX, allOne_append, allOne_nums]
      refine CallD.pur (.v (.bool X.li)) rfl (fun w1 hm1 => ?_) ?_
      · exact up_C w1 bd bm X.fi X.ma X.er X.li X.buf X.pl hbX (hm1.at (t := 2) rfl)
      simp (maxSteps := 2000000) only [go_sem, ↓dxc_true, ↓dxc_false, ↓bxc_true, ↓bxc_false, Nat.zero_add, Nat.add_zero, Nat.zero_mul, Nat.reduceBEq, Nat.reduceAdd, Nat.reduceMul, Nat.reduceSub, Nat.reduceLT, Nat.reduceLeDiff, Nat.reduceEqDiff, Nat.reduceDiv, Nat.reduceMod, Int.reduceAdd, Int.reduceSub, Int.reduceMul, Int.reduceDiv, Int.reduceMod, Int.reduceLT, Int.reduceLE, Int.reduceEq, Int.reduceToNat, Int.reducePow, Int.reduceNeg, ne_eq, not_false_eq_true, not_true_eq_false, decide_true, decide_false, Bool.not_true, Bool.not_false, forall_const, reduceCtorEq, implies_true, beq_self_eq_true, Int.cast_ofNat_Int, reduceIte, if_true, if_false, Bool.false_eq_true, runH, refL, devH, Try.ntmps6, fin_ret hE, Try.results6, List.length_append, nums_length, hbD, hbX, allOne_append, allOne_nums, li_same]
      refine ⟨by omega, next _ _ _ X l rbi ci ji Ti fzi hX ⟨by omega, by omega⟩ hrb hci ?_ ?_ ?_ ?_ ?_ ?_ ?_⟩
      all_goals first | rfl | simp (maxSteps := 2000000) only [go_sem, ↓dxc_true, ↓dxc_false, ↓bxc_true, ↓bxc_false, Nat.zero_add, Nat.add_zero, Nat.zero_mul, Nat.reduceBEq, Nat.reduceAdd, Nat.reduceMul, Nat.reduceSub, Nat.reduceLT, Nat.reduceLeDiff, Nat.reduceEqDiff, Nat.reduceDiv, Nat.reduceMod, Int.reduceAdd, Int.reduceSub, Int.reduceMul, Int.reduceDiv, Int.reduceMod, Int.reduceLT, Int.reduceLE, Int.reduceEq, Int.reduceToNat, Int.reducePow, Int.reduceNeg, ne_eq, not_false_eq_true, not_true_eq_false, decide_true, decide_false, Bool.not_true, Bool.not_false, forall_const, reduceCtorEq, implies_true, beq_self_eq_true, Int.cast_ofNat_Int, reduceIte, if_true, if_false, Bool.false_eq_true, SubH, runH, refL]
    · obtain ⟨X, e, hg⟩ : ∃ X e, setS D n x.r x.v = (X, e) := ⟨_, _, rfl⟩
      have hX : X.Ok n := by have := setS_ok n x.r x.v ok3 hD; rw [hg] at this; exact this
      have hbX := hX.buf
      refine CallC.mut (γ := Int) (fun _ => .v (.int .i64 e)) (fun l' => [⟨5, b9, true, .c [.v (.int .u8 x.k), .v (.int .i64 x.r), .v (.int .u32 x.v)] 49⟩, ⟨4, b4, true, .c z34 34⟩, ⟨3, b3, true, .c (refL D (.s 100 rbi 0 n ci)) 34⟩] ++ (devH bd bm bk n l' X ++ [⟨100, rbi, false, .z (nums .u32 D.disk ++ ji) Ti fzi⟩, ⟨101, ba, false, .z la Ta za⟩])) (fun l' => l - 4 ≤ l' ∧ l' ≤ l) 600 (fun w1 hm1 => ?_) ?_
      · have := set_C w1 bd bm bk n l D hD x.r (Mem.here (l0 := [_, _, _]) (l := [_, _, _]) (r := [_, _]) hm1 (by simp)) x.v ok3 ⟨by omega, by omega⟩ ok2
        rw [hg] at this
        refine this.mono ?_
        rintro e' w' ⟨l', rfl, hl', hm'⟩
        exact ⟨l', rfl, hl', Mem.updS (l0 := [_, _, _]) (l := [_, _, _]) (l' := devH bd bm bk n l' X) (r := [_, _]) hm1 hm' rfl (by simp)⟩
      refine ⟨by simp (maxSteps := 2000000) only [go_sem, ↓dxc_true, ↓dxc_false, ↓bxc_true, ↓bxc_false, Nat.zero_add, Nat.add_zero, Nat.zero_mul, Nat.reduceBEq, Nat.reduceAdd, Nat.reduceMul, Nat.reduceSub, Nat.reduceLT, Nat.reduceLeDiff, Nat.reduceEqDiff, Nat.reduceDiv, Nat.reduceMod, Int.reduceAdd, Int.reduceSub, Int.reduceMul, Int.reduceDiv, Int.reduceMod, Int.reduceLT, Int.reduceLE, Int.reduceEq, Int.reduceToNat, Int.reducePow, Int.reduceNeg, ne_eq, not_false_eq_true, not_true_eq_false, decide_true, decide_false, Bool.not_true, Bool.not_false, forall_const, reduceCtorEq, implies_true, beq_self_eq_true, Int.cast_ofNat_Int, reduceIte, if_true, if_false, Bool.false_eq_true, Try.ntmps6], fun l' hl' => ?_⟩
      simp (maxSteps := 2000000) only [go_sem, ↓dxc_true, ↓dxc_false, ↓bxc_true, ↓bxc_false, Nat.zero_add, Nat.add_zero, Nat.zero_mul, Nat.reduceBEq, Nat.reduceAdd, Nat.reduceMul, Nat.reduceSub, Nat.reduceLT, Nat.reduceLeDiff, Nat.reduceEqDiff, Nat.reduceDiv, Nat.reduceMod, Int.reduceAdd, Int.reduceSub, Int.reduceMul, Int.reduceDiv, Int.reduceMod, Int.reduceLT, Int.reduceLE, Int.reduceEq, Int.reduceToNat, Int.reducePow, Int.reduceNeg, ne_eq, not_false_eq_true, not_true_eq_false, decide_true, decide_false, Bool.not_true, Bool.not_false, forall_const, reduceCtorEq, implies_true, beq_self_eq_true, Int.cast_ofNat_Int, reduceIte, if_true, if_false, Bool.false_eq_true, runH, refL, devH, Try.ntmps6, fin_ret hE, Try.results6, List.length_append, nums_length, hbD, List.cons_append, List.nil_append]
      refine CallC.mut (γ := Nat × Nat × List SV × Nat × (Nat × Nat)) (fun g => .u [.g (refL X (.s 100 g.1 0 n g.2.1)), .v (.int .i64 e)]) (fun g => [⟨5, b9, true, .c [.v (.int .u8 x.k), .v (.int .i64 x.r), .v (.int .u32 x.v)] 49⟩, ⟨4, b4, true, .c z34 34⟩, ⟨3, b3, true, .c (refL D (.s 100 rbi 0 n ci)) 34⟩] ++ (devH bd bm bk n l' X ++ [⟨100, g.1, false, .z (nums .u32 X.disk ++ g.2.2.1) g.2.2.2.1 g.2.2.2.2⟩, ⟨101, ba, false, .z la Ta za⟩]))
        (fun g => (n ≤ g.2.1 ∧ g.2.1 ≤ 9223372036854775807) ∧ (g.1 = rb ∨ w.heap.size ≤ g.1)) 600 (fun w1 hm1 => ?_) ?_
      · have := rset_C w1 rbi n ci D hD x.r x.v ok2 ok3 ⟨hci, ji, Ti, fzi, hm1.at (t := 100) rfl⟩
        rw [hg] at this
        refine this.mono ?_
        rintro e' w' ⟨rb', c', rfl, ⟨k1, j', T', fz', k2⟩, k3, k4⟩
        have hsz := hm1.size
        rw [hE] at hsz
        refine ⟨(rb', c', j', T', fz'), rfl, ⟨k1, ?_⟩, hm1.swap (l := [_, _, _, _, _, _]) (r := [_]) k4 k3 k2⟩
        rcases k3 with rfl | k3
        · exact hrb
        · exact Or.inr (Nat.le_trans hsz k3)
      refine ⟨by simp (maxSteps := 2000000) only [go_sem, ↓dxc_true, ↓dxc_false, ↓bxc_true, ↓bxc_false, Nat.zero_add, Nat.add_zero, Nat.zero_mul, Nat.reduceBEq, Nat.reduceAdd, Nat.reduceMul, Nat.reduceSub, Nat.reduceLT, Nat.reduceLeDiff, Nat.reduceEqDiff, Nat.reduceDiv, Nat.reduceMod, Int.reduceAdd, Int.reduceSub, Int.reduceMul, Int.reduceDiv, Int.reduceMod, Int.reduceLT, Int.reduceLE, Int.reduceEq, Int.reduceToNat, Int.reducePow, Int.reduceNeg, ne_eq, not_false_eq_true, not_true_eq_false, decide_true, decide_false, Bool.not_true, Bool.not_false, forall_const, reduceCtorEq, implies_true, beq_self_eq_true, Int.cast_ofNat_Int, reduceIte, if_true, if_false, Bool.false_eq_true, Try.ntmps6], ?_⟩
      rintro ⟨rb', c', j', T', fz'⟩ ⟨k1, k3⟩
      simp only at k1 k3
      simp (maxSteps := 2000000) only [go_sem, ↓dxc_true, ↓dxc_false, ↓bxc_true, ↓bxc_false, Nat.zero_add, Nat.add_zero, Nat.zero_mul, Nat.reduceBEq, Nat.reduceAdd, Nat.reduceMul, Nat.reduceSub, Nat.reduceLT, Nat.reduceLeDiff, Nat.reduceEqDiff, Nat.reduceDiv, Nat.reduceMod, Int.reduceAdd, Int.reduceSub, Int.reduceMul, Int.reduceDiv, Int.reduceMod, Int.reduceLT, Int.reduceLE, Int.reduceEq, Int.reduceToNat, Int.reducePow, Int.reduceNeg, ne_eq, not_false_eq_true, not_true_eq_false, decide_true, decide_false, Bool.not_true, Bool.not_false, forall_const, reduceCtorEq, implies_true, beq_self_eq_true, Int.cast_ofNat_Int, reduceIte, if_true, if_false, Bool.false_eq_true, runH, refL, devH, Try.ntmps6, fin_ret hE, Try.results6, List.length_append, nums_length, hbD, hbX, allOne_append, allOne_nums, List.cons_append, List.nil_append]
      intro b10
      refine CodeC.lex 600 Try.follows_mixed (by kernel_rfl) ?_
      simp (maxSteps := 2000000) only [go_sem, ↓dxc_true, ↓dxc_false, ↓bxc_true, ↓bxc_false, Nat.zero_add, Nat.add_zero, Nat.zero_mul, Nat.reduceBEq, Nat.reduceAdd, Nat.reduceMul, Nat.reduceSub, Nat.reduceLT, Nat.reduceLeDiff, Nat.reduceEqDiff, Nat.reduceDiv, Nat.reduceMod, Int.reduceAdd, Int.reduceSub, Int.reduceMul, Int.reduceDiv, Int.reduceMod, Int.reduceLT, Int.reduceLE, Int.reduceEq, Int.reduceToNat, Int.reducePow, Int.reduceNeg, ne_eq, not_false_eq_true, not_true_eq_false, decide_true, decide_false, Bool.not_true, Bool.not_false, forall_const, reduceCtorEq, implies_true, beq_self_eq_true, Int.cast_ofNat_Int, reduceIte, if_true, if_false, Bool.false_eq_true, runH, refL, devH, Try.ntmps6, fin_ret hE, Try.results6, List.length_append, nums_length, hbD, hbX, allOne_append, allOne_nums]
      refine CallD.pur (.v (.bool X.li)) rfl (fun w1 hm1 => ?_) ?_
      · exact up_C w1 bd bm X.fi X.ma X.er X.li X.buf X.pl hbX (hm1.at (t := 2) rfl)
      simp (maxSteps := 2000000) only [go_sem, ↓dxc_true, ↓dxc_false, ↓bxc_true, ↓bxc_false, Nat.zero_add, Nat.add_zero, Nat.zero_mul, Nat.reduceBEq, Nat.reduceAdd, Nat.reduceMul, Nat.reduceSub, Nat.reduceLT, Nat.reduceLeDiff, Nat.reduceEqDiff, Nat.reduceDiv, Nat.reduceMod, Int.reduceAdd, Int.reduceSub, Int.reduceMul, Int.reduceDiv, Int.reduceMod, Int.reduceLT, Int.reduceLE, Int.reduceEq, Int.reduceToNat, Int.reducePow, Int.reduceNeg, ne_eq, not_false_eq_true, not_true_eq_false, decide_true, decide_false, Bool.not_true, Bool.not_false, forall_const, reduceCtorEq, implies_true, beq_self_eq_true, Int.cast_ofNat_Int, reduceIte, if_true, if_false, Bool.false_eq_true, runH, refL, devH, Try.ntmps6, fin_ret hE, Try.results6, List.length_append, nums_length, hbD, hbX, allOne_append, allOne_nums, li_same]
      refine ⟨by omega, next _ _ _ X l' rb' c' j' T' fz' hX hl' k3 k1 ?_ ?_ ?_ ?_ ?_ ?_ ?_⟩
      all_goals first | rfl | simp (maxSteps := 2000000) only [go_sem, ↓dxc_true, ↓dxc_false, ↓bxc_true, ↓bxc_false, Nat.zero_add, Nat.add_zero, Nat.zero_mul, Nat.reduceBEq, Nat.reduceAdd, Nat.reduceMul, Nat.reduceSub, Nat.reduceLT, Nat.reduceLeDiff, Nat.reduceEqDiff, Nat.reduceDiv, Nat.reduceMod, Int.reduceAdd, Int.reduceSub, Int.reduceMul, Int.reduceDiv, Int.reduceMod, Int.reduceLT, Int.reduceLE, Int.reduceEq, Int.reduceToNat, Int.reducePow, Int.reduceNeg, ne_eq, not_false_eq_true, not_true_eq_false, decide_true, decide_false, Bool.not_true, Bool.not_false, forall_const, reduceCtorEq, implies_true, beq_self_eq_true, Int.cast_ofNat_Int, reduceIte, if_true, if_false, Bool.false_eq_true, SubH, runH, refL]
  · have hbD := hD.buf
    simp (maxSteps := 2000000) only [go_sem, ↓dxc_true, ↓dxc_false, ↓bxc_true, ↓bxc_false, Nat.zero_add, Nat.add_zero, Nat.zero_mul, Nat.reduceBEq, Nat.reduceAdd, Nat.reduceMul, Nat.reduceSub, Nat.reduceLT, Nat.reduceLeDiff, Nat.reduceEqDiff, Nat.reduceDiv, Nat.reduceMod, Int.reduceAdd, Int.reduceSub, Int.reduceMul, Int.reduceDiv, Int.reduceMod, Int.reduceLT, Int.reduceLE, Int.reduceEq, Int.reduceToNat, Int.reducePow, Int.reduceNeg, ne_eq, not_false_eq_true, not_true_eq_false, decide_true, decide_false, Bool.not_true, Bool.not_false, forall_const, reduceCtorEq, implies_true, beq_self_eq_true, Int.cast_ofNat_Int, reduceIte, if_true, if_false, Bool.false_eq_true, runH, refL, devH, Try.ntmps6, fin_ret hE, Try.results6, List.length_append, nums_length, hbD, allOne_append, allOne_nums]
    refine fun w' hm' => ⟨D, rbi, ci, l, rfl, hD, ⟨hci, ji, Ti, fzi, hm'.at (t := 100) rfl⟩, hrb, ?_⟩
    refine hm'.sub ?_
    exact ((List.sublist_append_left (devH bd bm bk n l D) [⟨100, rbi, false, .z (nums .u32 D.disk ++ ji) Ti fzi⟩, ⟨101, ba, false, .z la Ta za⟩]).trans (List.sublist_cons_self _ _)).trans (List.sublist_cons_self _ _)

end Go.Proofs
