/- What is loaded and stored of a memory is the document's: the walk of the law. -/
import Derived.Test.YtmmjmgnbffameaaDyB7
set_option linter.unusedSimpArgs false
set_option linter.unusedVariables false
set_option maxRecDepth 100000
namespace Go.Proofs
open Go.Dx Go.RowKit

/-- One act: its kind, place, size, value. -/
structure BAct where
  k : Int
  a : Int
  s : Int
  v : Int

def BAct.ok (x : BAct) : Prop := 0 ≤ x.k ∧ x.k < 256 ∧ u32ok x.a ∧ u32ok x.v ∧ -9223372036854775808 ≤ x.s ∧ x.s ≤ 9223372036854775807

/-- From place o on there stand these acts. -/
def SegA (l : List SV) (o : Nat) (xs : List BAct) : Prop := ∀ i, (h : i < xs.length) → o + i * 4 + 4 ≤ l.length ∧ ldN l (o + i * 4) 4 = [.v (.int .u8 xs[i].k), .v (.int .u32 xs[i].a), .v (.int .i64 xs[i].s), .v (.int .u32 xs[i].v)]

theorem loadR_same {base a sz : Int} {xs : List Int} {r s : Int × Int} (h : loadR base a sz xs r) (g : loadR base a sz xs s) : r = s := by
  rcases h with ⟨h1, h2⟩ | ⟨h1, h2, h3⟩ | ⟨h1, h2, h3⟩ <;> rcases g with ⟨g1, g2⟩ | ⟨g1, g2, g3⟩ | ⟨g1, g2, g3⟩ <;> first | exact absurd h1 g1 | exact absurd g1 h1 | exact absurd h2 g2 | exact absurd g2 h2 | simp_all

theorem storeR_same {base a sz v : Int} {xs : List Int} {r s : Int × List Int} (h : storeR base a sz v xs r) (g : storeR base a sz v xs s) : r = s := by
  rcases h with ⟨h1, h2⟩ | ⟨h1, h2, h3⟩ | ⟨h1, h2, h3⟩ <;> rcases g with ⟨g1, g2⟩ | ⟨g1, g2, g3⟩ | ⟨g1, g2, g3⟩ <;> first | exact absurd h1 g1 | exact absurd g1 h1 | exact absurd h2 g2 | exact absurd g2 h2 | simp_all

theorem putI_u32 {x a s v : Nat} (hx : x < 4294967296) (h : a + s ≤ 32) : u32ok ((putN x a s v : Nat) : Int) := by
  have := putN_lt (w := x) (at_ := a) (n := s) (v := v) (k := 32) (by omega) h
  unfold u32ok
  omega

theorem storeR_ok {base a sz v : Int} {xs : List Int} {r : Int × List Int} (ha : u32ok a) (hxs : u32s xs) (h : storeR base a sz v xs r) : u32s r.2 ∧ r.2.length = xs.length := by
  rcases h with ⟨h1, rfl⟩ | ⟨h1, h2, rfl⟩ | ⟨h1, h2, rfl⟩
  · exact ⟨hxs, rfl⟩
  · exact ⟨hxs, rfl⟩
  · refine ⟨?_, by simp⟩
    intro x hx
    rcases List.mem_or_eq_of_mem_set hx with hx | rfl
    · exact hxs x hx
    · have hsz : sz = 1 ∨ sz = 2 ∨ sz = 4 := by
        unfold wrongSz at h1
        split at h1
        · assumption
        · omega
      have hal : a % 4 * 8 + sz * 8 ≤ 32 := by
        unfold wrongSz at h1
        rcases hsz with rfl | rfl | rfl <;> simp at h1 <;> omega
      have := hxs.get ((a - a % 4 - base) / 4).toNat
      unfold u32ok at this ha
      exact putI_u32 (by unfold wordR; omega) (by omega)

theorem busMemory_A (w : World) (base : Int) (bw o c : Nat) (l : List SV) (T : Nat) (fz : Nat × Nat) (xs : List Int) (ba oa ca : Nat) (la : List SV) (Ta : Nat) (za : Nat × Nat) (acts : List BAct)
    (hb : u32ok base) (hxs : u32s xs) (hne : xs ≠ []) (hn : xs.length ≤ 9223372036854775807) (hna : acts.length ≤ 9223372036854775807) (hacts : ∀ x ∈ acts, x.ok)
    (hgw : w.heap[bw]? = some (denO (.z l T fz))) (hseg : Seg l o .u32 xs) (hga : w.heap[ba]? = some (denO (.z la Ta za))) (hsa : SegA la oa acts) :
    Calls Try.prog 3 #[den (.g [.v (.int .u32 base), .s 0 bw o xs.length c]), den (.s 1 ba oa acts.length ca)] w fun e w' => e = .returned (.bool true) ∧ Below w.heap.size w w' := by
  have hm : Mem w [] [⟨0, bw, false, .z l T fz⟩, ⟨1, ba, false, .z la Ta za⟩] w := Mem.reads (by simpa using ⟨hgw, hga⟩) (by simp)
  refine calls_of_ex [.g [.v (.int .u32 base), .s 0 bw o xs.length c], .s 1 ba oa acts.length ca] _ [] 3 600 Try.func3 rfl hm (by simp [Try.ntmps3]) fun E hE => ?_
  simp only [go_sem, Nat.zero_add, Nat.add_zero, Nat.zero_mul, Nat.reduceBEq, Nat.reduceAdd, Nat.reduceMul, Nat.reduceSub, Nat.reduceLT, Nat.reduceLeDiff, Nat.reduceEqDiff, Nat.reduceDiv, Nat.reduceMod, Int.reduceAdd, Int.reduceSub, Int.reduceMul, Int.reduceDiv, Int.reduceMod, Int.reduceLT, Int.reduceLE, Int.reduceEq, Int.reduceToNat, Int.reducePow, Int.reduceNeg, ne_eq, not_false_eq_true, not_true_eq_false, decide_true, decide_false, Bool.not_true, Bool.not_false, forall_const, reduceCtorEq, implies_true, beq_self_eq_true, Int.cast_ofNat_Int, reduceIte, if_true, if_false, Bool.false_eq_true, Try.ntmps3, fin_ret hE, Try.results3]
  intro b
  refine CallC.pur (.v (.bool true)) 600 (fun w1 hm1 => alive_C w1) ?_
  simp only [go_sem, Nat.zero_add, Nat.add_zero, Nat.zero_mul, Nat.reduceBEq, Nat.reduceAdd, Nat.reduceMul, Nat.reduceSub, Nat.reduceLT, Nat.reduceLeDiff, Nat.reduceEqDiff, Nat.reduceDiv, Nat.reduceMod, Int.reduceAdd, Int.reduceSub, Int.reduceMul, Int.reduceDiv, Int.reduceMod, Int.reduceLT, Int.reduceLE, Int.reduceEq, Int.reduceToNat, Int.reducePow, Int.reduceNeg, ne_eq, not_false_eq_true, not_true_eq_false, decide_true, decide_false, Bool.not_true, Bool.not_false, forall_const, reduceCtorEq, implies_true, beq_self_eq_true, Int.cast_ofNat_Int, reduceIte, if_true, if_false, Bool.false_eq_true, Try.ntmps3, fin_ret hE, Try.results3]
  refine ⟨fun h => fun w' hm' => ⟨rfl, bel1 hm'⟩, fun hlen => ⟨fun h => fun w' hm' => ⟨rfl, bel1 hm'⟩, fun hlena => ?_⟩⟩
  refine CodeC.lex 600 Try.follows_mixed (by kernel_rfl) ?_
  have hle := hseg.le hne
  have hpos : 0 < xs.length := by cases xs <;> simp_all
  simp only [go_sem, Nat.zero_add, Nat.add_zero, Nat.zero_mul, Nat.reduceBEq, Nat.reduceAdd, Nat.reduceMul, Nat.reduceSub, Nat.reduceLT, Nat.reduceLeDiff, Nat.reduceEqDiff, Nat.reduceDiv, Nat.reduceMod, Int.reduceAdd, Int.reduceSub, Int.reduceMul, Int.reduceDiv, Int.reduceMod, Int.reduceLT, Int.reduceLE, Int.reduceEq, Int.reduceToNat, Int.reducePow, Int.reduceNeg, ne_eq, not_false_eq_true, not_true_eq_false, decide_true, decide_false, Bool.not_true, Bool.not_false, forall_const, reduceCtorEq, implies_true, beq_self_eq_true, Int.cast_ofNat_Int, reduceIte, if_true, if_false, Bool.false_eq_true, Try.ntmps3, fin_ret hE, Try.results3, Nat.mul_one, hseg.ldN, allOne_nums]
  refine ⟨Or.inr hle, ⟨by omega, by omega⟩, fun h0 => absurd h0 (by omega), fun _ bm cm hc bp => ?_⟩
  generalize hj : rpt (cm - xs.length) [SV.v (Value.int IntKind.u32 0)] = j
  refine CallC.new (γ := Unit) (fun _ b => .p 6 b 0) (fun _ => busO (.p 5 bp 0)) 600 (fun w1 hm1 => ?_) ?_
  · refine (new_C w1 bp).mono ?_
    rintro e w' ⟨c, rfl, h1, h2, h3⟩
    exact ⟨(), c, rfl, h1, h2, h3⟩
  refine ⟨by simp only [go_sem, Nat.zero_add, Nat.add_zero, Nat.zero_mul, Nat.reduceBEq, Nat.reduceAdd, Nat.reduceMul, Nat.reduceSub, Nat.reduceLT, Nat.reduceLeDiff, Nat.reduceEqDiff, Nat.reduceDiv, Nat.reduceMod, Int.reduceAdd, Int.reduceSub, Int.reduceMul, Int.reduceDiv, Int.reduceMod, Int.reduceLT, Int.reduceLE, Int.reduceEq, Int.reduceToNat, Int.reducePow, Int.reduceNeg, ne_eq, not_false_eq_true, not_true_eq_false, decide_true, decide_false, Bool.not_true, Bool.not_false, forall_const, reduceCtorEq, implies_true, beq_self_eq_true, Int.cast_ofNat_Int, reduceIte, if_true, if_false, Bool.false_eq_true, Try.ntmps3], ?_⟩
  intro _ bb
  simp only [go_sem, Nat.zero_add, Nat.add_zero, Nat.zero_mul, Nat.reduceBEq, Nat.reduceAdd, Nat.reduceMul, Nat.reduceSub, Nat.reduceLT, Nat.reduceLeDiff, Nat.reduceEqDiff, Nat.reduceDiv, Nat.reduceMod, Int.reduceAdd, Int.reduceSub, Int.reduceMul, Int.reduceDiv, Int.reduceMod, Int.reduceLT, Int.reduceLE, Int.reduceEq, Int.reduceToNat, Int.reducePow, Int.reduceNeg, ne_eq, not_false_eq_true, not_true_eq_false, decide_true, decide_false, Bool.not_true, Bool.not_false, forall_const, reduceCtorEq, implies_true, beq_self_eq_true, Int.cast_ofNat_Int, reduceIte, if_true, if_false, Bool.false_eq_true, Try.ntmps3, fin_ret hE, Try.results3]
  -- the acts, one by one
  refine CodeC.loop (γ := { g : Nat × List Int × Nat × Nat × Nat × List SV × Nat × (Nat × Nat) // g.1 ≤ acts.length ∧ u32s g.2.1 ∧ g.2.1.length = xs.length ∧ Seg g.2.2.2.2.2.1 g.2.2.2.1 .u32 g.2.1 })
    (fun g => ⟨108, 7, [(40, .v (.int .i64 (g.1.1 : Int))), (39, .v (.int .i64 (acts.length : Int))), (38, .s 1 ba oa acts.length ca), (2, .p 3 b 0), (5, .p 5 bp 0), (6, .p 6 bb 0)],
      [⟨6, bb, true, busO (.p 5 bp 0)⟩, ⟨5, bp, true, ramO base (.s 4 bm 0 xs.length cm)⟩, ⟨4, bm, true, wordsO g.1.2.1 j⟩, ⟨3, b, true, .c [.v (.int .u32 base), .s 0 g.1.2.2.1 g.1.2.2.2.1 xs.length g.1.2.2.2.2.1] 25⟩,
       ⟨0, g.1.2.2.1, false, .z g.1.2.2.2.2.2.1 g.1.2.2.2.2.2.2.1 g.1.2.2.2.2.2.2.2⟩, ⟨1, ba, false, .z la Ta za⟩], []⟩) (fun g => acts.length - g.1.1)
    ⟨(0, xs, bw, o, c, l, T, fz), by omega, hxs, rfl, hseg⟩ 600 ⟨rfl, rfl, ⟨rfl, rfl, rfl, rfl, rfl, rfl, trivial⟩, by subst hj; simp only [go_sem, Nat.zero_add, Nat.add_zero, Nat.zero_mul, Nat.reduceBEq, Nat.reduceAdd, Nat.reduceMul, Nat.reduceSub, Nat.reduceLT, Nat.reduceLeDiff, Nat.reduceEqDiff, Nat.reduceDiv, Nat.reduceMod, Int.reduceAdd, Int.reduceSub, Int.reduceMul, Int.reduceDiv, Int.reduceMod, Int.reduceLT, Int.reduceLE, Int.reduceEq, Int.reduceToNat, Int.reducePow, Int.reduceNeg, ne_eq, not_false_eq_true, not_true_eq_false, decide_true, decide_false, Bool.not_true, Bool.not_false, forall_const, reduceCtorEq, implies_true, beq_self_eq_true, Int.cast_ofNat_Int, reduceIte, if_true, if_false, Bool.false_eq_true, SubH, ramO, busO, wordsO]⟩ ?_
  rintro ⟨⟨i, ys, rb, ro, rc, rl, rT, rz⟩, hi, hys, hyl, hsr⟩
  simp only at hi hys hyl hsr
  simp only [go_sem, Nat.zero_add, Nat.add_zero, Nat.zero_mul, Nat.reduceBEq, Nat.reduceAdd, Nat.reduceMul, Nat.reduceSub, Nat.reduceLT, Nat.reduceLeDiff, Nat.reduceEqDiff, Nat.reduceDiv, Nat.reduceMod, Int.reduceAdd, Int.reduceSub, Int.reduceMul, Int.reduceDiv, Int.reduceMod, Int.reduceLT, Int.reduceLE, Int.reduceEq, Int.reduceToNat, Int.reducePow, Int.reduceNeg, ne_eq, not_false_eq_true, not_true_eq_false, decide_true, decide_false, Bool.not_true, Bool.not_false, forall_const, reduceCtorEq, implies_true, beq_self_eq_true, Int.cast_ofNat_Int, reduceIte, if_true, if_false, Bool.false_eq_true, Try.ntmps3, fin_ret hE, Try.results3, Int.toNat_natCast]
  refine ⟨fun h1 => ?_, fun h1 w' hm' => ⟨rfl, bel1 hm'⟩⟩
  have hi' : i < acts.length := by omega
  obtain ⟨hs1, hs2⟩ := hsa i hi'
  have hok := hacts _ (List.getElem_mem hi')
  obtain ⟨ok1, ok2, ok3, ok4, ok5, ok6⟩ := hok
  simp only [go_sem, Nat.zero_add, Nat.add_zero, Nat.zero_mul, Nat.reduceBEq, Nat.reduceAdd, Nat.reduceMul, Nat.reduceSub, Nat.reduceLT, Nat.reduceLeDiff, Nat.reduceEqDiff, Nat.reduceDiv, Nat.reduceMod, Int.reduceAdd, Int.reduceSub, Int.reduceMul, Int.reduceDiv, Int.reduceMod, Int.reduceLT, Int.reduceLE, Int.reduceEq, Int.reduceToNat, Int.reducePow, Int.reduceNeg, ne_eq, not_false_eq_true, not_true_eq_false, decide_true, decide_false, Bool.not_true, Bool.not_false, forall_const, reduceCtorEq, implies_true, beq_self_eq_true, Int.cast_ofNat_Int, reduceIte, if_true, if_false, Bool.false_eq_true, Try.ntmps3, fin_ret hE, Try.results3, hs2]
  have hyp : 0 < ys.length := by omega
  have next : ∀ (sl' : List (Nat × SV)) (zs : List Int) (rb' ro' rc' : Nat) (rl' : List SV) (rT' : Nat) (rz' : Nat × Nat) (nt' : Nat), u32s zs → zs.length = xs.length → Seg rl' ro' .u32 zs →
      lk sl' 40 = .v (.int .i64 ((i : Int) + 1)) → lk sl' 39 = .v (.int .i64 (acts.length : Int)) → lk sl' 38 = .s 1 ba oa acts.length ca → lk sl' 2 = .p 3 b 0 → lk sl' 5 = .p 5 bp 0 → lk sl' 6 = .p 6 bb 0 →
      ∀ hp' : List Ent, SubH [⟨6, bb, true, busO (.p 5 bp 0)⟩, ⟨5, bp, true, ramO base (.s 4 bm 0 xs.length cm)⟩, ⟨4, bm, true, wordsO zs j⟩, ⟨3, b, true, .c [.v (.int .u32 base), .s 0 rb' ro' xs.length rc'] 25⟩,
       ⟨0, rb', false, .z rl' rT' rz'⟩, ⟨1, ba, false, .z la Ta za⟩] hp' →
      ∃ g' : { g : Nat × List Int × Nat × Nat × Nat × List SV × Nat × (Nat × Nat) // g.1 ≤ acts.length ∧ u32s g.2.1 ∧ g.2.1.length = xs.length ∧ Seg g.2.2.2.2.2.1 g.2.2.2.1 .u32 g.2.1 },
        Dx.Sub ⟨108, 7, [(40, .v (.int .i64 (g'.1.1 : Int))), (39, .v (.int .i64 (acts.length : Int))), (38, .s 1 ba oa acts.length ca), (2, .p 3 b 0), (5, .p 5 bp 0), (6, .p 6 bb 0)],
      [⟨6, bb, true, busO (.p 5 bp 0)⟩, ⟨5, bp, true, ramO base (.s 4 bm 0 xs.length cm)⟩, ⟨4, bm, true, wordsO g'.1.2.1 j⟩, ⟨3, b, true, .c [.v (.int .u32 base), .s 0 g'.1.2.2.1 g'.1.2.2.2.1 xs.length g'.1.2.2.2.2.1] 25⟩,
       ⟨0, g'.1.2.2.1, false, .z g'.1.2.2.2.2.2.1 g'.1.2.2.2.2.2.2.1 g'.1.2.2.2.2.2.2.2⟩, ⟨1, ba, false, .z la Ta za⟩], []⟩ ⟨108, nt', sl', hp', []⟩ ∧ acts.length - g'.1.1 < acts.length - i :=
    fun sl' zs rb' ro' rc' rl' rT' rz' nt' q1 q2 q3 q4 q5 q6 q7 q8 q9 hp' q10 => ⟨⟨(i + 1, zs, rb', ro', rc', rl', rT', rz'), by simp only; omega, q1, q2, q3⟩, ⟨rfl, rfl, ⟨by simpa using q4, q5, q6, q7, q8, q9, trivial⟩, q10⟩, by simp only; omega⟩
  refine ⟨⟨by omega, by omega⟩, hs1, fun b8 => ⟨by omega, ?_, ?_⟩⟩
  · intro hk
    refine CallC.val (γ := Int × Int) (fun r => .u [.v (.int .u32 r.1), .v (.int .i64 r.2)]) (fun r => loadR base acts[i].a acts[i].s ys r) 600 (fun w1 hm1 => ?_) ?_
    · refine (load_C w1 bb 5 bp base acts[i].a acts[i].s (.s 4 bm 0 xs.length cm) ys hb ok3 hys (hm1.at (t := 6) rfl) (hm1.at (t := 5) rfl) (Or.inr ⟨4, bm, 0, cm, _, 22, (0, 0), by rw [hyl], by omega, hm1.at (t := 4) rfl, Seg.own _ _ _⟩))
    refine ⟨by simp only [go_sem, Nat.zero_add, Nat.add_zero, Nat.zero_mul, Nat.reduceBEq, Nat.reduceAdd, Nat.reduceMul, Nat.reduceSub, Nat.reduceLT, Nat.reduceLeDiff, Nat.reduceEqDiff, Nat.reduceDiv, Nat.reduceMod, Int.reduceAdd, Int.reduceSub, Int.reduceMul, Int.reduceDiv, Int.reduceMod, Int.reduceLT, Int.reduceLE, Int.reduceEq, Int.reduceToNat, Int.reducePow, Int.reduceNeg, ne_eq, not_false_eq_true, not_true_eq_false, decide_true, decide_false, Bool.not_true, Bool.not_false, forall_const, reduceCtorEq, implies_true, beq_self_eq_true, Int.cast_ofNat_Int, reduceIte, if_true, if_false, Bool.false_eq_true, Try.ntmps3], fun r hr => ?_⟩
    simp only [go_sem, Nat.zero_add, Nat.add_zero, Nat.zero_mul, Nat.reduceBEq, Nat.reduceAdd, Nat.reduceMul, Nat.reduceSub, Nat.reduceLT, Nat.reduceLeDiff, Nat.reduceEqDiff, Nat.reduceDiv, Nat.reduceMod, Int.reduceAdd, Int.reduceSub, Int.reduceMul, Int.reduceDiv, Int.reduceMod, Int.reduceLT, Int.reduceLE, Int.reduceEq, Int.reduceToNat, Int.reducePow, Int.reduceNeg, ne_eq, not_false_eq_true, not_true_eq_false, decide_true, decide_false, Bool.not_true, Bool.not_false, forall_const, reduceCtorEq, implies_true, beq_self_eq_true, Int.cast_ofNat_Int, reduceIte, if_true, if_false, Bool.false_eq_true, Try.ntmps3, fin_ret hE, Try.results3]
    refine CallC.pur (.u [.v (.int .u32 r.1), .v (.int .i64 r.2)]) 600 (fun w1 hm1 => ?_) ?_
    · refine (rload_C w1 base acts[i].a acts[i].s (.s 0 rb ro xs.length rc) ys hb ok3 hys (by omega) (Or.inr ⟨0, rb, ro, rc, rl, rT, rz, by rw [hyl], by omega, hm1.at (t := 0) rfl, hsr⟩)).mono ?_
      rintro e w' ⟨r', rfl, h2, h3⟩
      rw [loadR_same h2 hr]
      exact ⟨rfl, h3⟩
    simp only [go_sem, Nat.zero_add, Nat.add_zero, Nat.zero_mul, Nat.reduceBEq, Nat.reduceAdd, Nat.reduceMul, Nat.reduceSub, Nat.reduceLT, Nat.reduceLeDiff, Nat.reduceEqDiff, Nat.reduceDiv, Nat.reduceMod, Int.reduceAdd, Int.reduceSub, Int.reduceMul, Int.reduceDiv, Int.reduceMod, Int.reduceLT, Int.reduceLE, Int.reduceEq, Int.reduceToNat, Int.reducePow, Int.reduceNeg, ne_eq, not_false_eq_true, not_true_eq_false, decide_true, decide_false, Bool.not_true, Bool.not_false, forall_const, reduceCtorEq, implies_true, beq_self_eq_true, Int.cast_ofNat_Int, reduceIte, if_true, if_false, Bool.false_eq_true, Try.ntmps3, fin_ret hE, Try.results3]
    refine ⟨by omega, ?_⟩
    refine next _ ys rb ro rc rl rT rz _ hys hyl hsr ?_ ?_ ?_ ?_ ?_ ?_ _ ?_
    all_goals first | rfl | simp only [go_sem, Nat.zero_add, Nat.add_zero, Nat.zero_mul, Nat.reduceBEq, Nat.reduceAdd, Nat.reduceMul, Nat.reduceSub, Nat.reduceLT, Nat.reduceLeDiff, Nat.reduceEqDiff, Nat.reduceDiv, Nat.reduceMod, Int.reduceAdd, Int.reduceSub, Int.reduceMul, Int.reduceDiv, Int.reduceMod, Int.reduceLT, Int.reduceLE, Int.reduceEq, Int.reduceToNat, Int.reducePow, Int.reduceNeg, ne_eq, not_false_eq_true, not_true_eq_false, decide_true, decide_false, Bool.not_true, Bool.not_false, forall_const, reduceCtorEq, implies_true, beq_self_eq_true, Int.cast_ofNat_Int, reduceIte, if_true, if_false, Bool.false_eq_true, SubH]
  · intro hk
    have hx4 := ok4
    refine CallC.mut (γ := Int × List Int) (fun r => .v (.int .i64 r.1)) (fun r => [⟨7, b8, true, .c [.v (.int .u8 acts[i].k), .v (.int .u32 acts[i].a), .v (.int .i64 acts[i].s), .v (.int .u32 acts[i].v)] 33⟩, ⟨6, bb, true, busO (.p 5 bp 0)⟩, ⟨5, bp, true, ramO base (.s 4 bm 0 xs.length cm)⟩, ⟨4, bm, true, wordsO r.2 j⟩, ⟨3, b, true, .c [.v (.int .u32 base), .s 0 rb ro xs.length rc] 25⟩,
       ⟨0, rb, false, .z rl rT rz⟩, ⟨1, ba, false, .z la Ta za⟩]) (fun r => storeR base acts[i].a acts[i].s acts[i].v ys r) 600 (fun w1 hm1 => ?_) ?_
    · have := store_cons w1 bb 5 bp bm cm base acts[i].a acts[i].s acts[i].v ys j hb ok3 ok4 hys (by omega) (hm1.ne (t := 5) (u := 4) rfl rfl (by decide) (Or.inl rfl)) (hm1.ne (t := 6) (u := 4) rfl rfl (by decide) (Or.inl rfl)) (hm1.at (t := 6) rfl)
        (by rw [hyl]; exact hm1.at (t := 5) rfl) (hm1.at (t := 4) rfl)
      refine this.mono ?_
      rintro e w' ⟨r, rfl, h1, h2, h3⟩
      exact ⟨r, rfl, h1, hm1.upd1 (t := 4) rfl rfl h2 (wordsO r.2 j) h3⟩
    refine ⟨by simp only [go_sem, Nat.zero_add, Nat.add_zero, Nat.zero_mul, Nat.reduceBEq, Nat.reduceAdd, Nat.reduceMul, Nat.reduceSub, Nat.reduceLT, Nat.reduceLeDiff, Nat.reduceEqDiff, Nat.reduceDiv, Nat.reduceMod, Int.reduceAdd, Int.reduceSub, Int.reduceMul, Int.reduceDiv, Int.reduceMod, Int.reduceLT, Int.reduceLE, Int.reduceEq, Int.reduceToNat, Int.reducePow, Int.reduceNeg, ne_eq, not_false_eq_true, not_true_eq_false, decide_true, decide_false, Bool.not_true, Bool.not_false, forall_const, reduceCtorEq, implies_true, beq_self_eq_true, Int.cast_ofNat_Int, reduceIte, if_true, if_false, Bool.false_eq_true, Try.ntmps3], fun r hr => ?_⟩
    obtain ⟨hr1, hr2⟩ := storeR_ok ok3 hys hr
    simp only [go_sem, Nat.zero_add, Nat.add_zero, Nat.zero_mul, Nat.reduceBEq, Nat.reduceAdd, Nat.reduceMul, Nat.reduceSub, Nat.reduceLT, Nat.reduceLeDiff, Nat.reduceEqDiff, Nat.reduceDiv, Nat.reduceMod, Int.reduceAdd, Int.reduceSub, Int.reduceMul, Int.reduceDiv, Int.reduceMod, Int.reduceLT, Int.reduceLE, Int.reduceEq, Int.reduceToNat, Int.reducePow, Int.reduceNeg, ne_eq, not_false_eq_true, not_true_eq_false, decide_true, decide_false, Bool.not_true, Bool.not_false, forall_const, reduceCtorEq, implies_true, beq_self_eq_true, Int.cast_ofNat_Int, reduceIte, if_true, if_false, Bool.false_eq_true, Try.ntmps3, fin_ret hE, Try.results3]
    refine CallC.mut (γ := Nat × Nat × Nat × List SV × Nat × (Nat × Nat)) (fun g => .u [.g [.v (.int .u32 base), .s 0 g.1 g.2.1 xs.length g.2.2.1], .v (.int .i64 r.1)])
      (fun g => [⟨7, b8, true, .c [.v (.int .u8 acts[i].k), .v (.int .u32 acts[i].a), .v (.int .i64 acts[i].s), .v (.int .u32 acts[i].v)] 33⟩, ⟨6, bb, true, busO (.p 5 bp 0)⟩, ⟨5, bp, true, ramO base (.s 4 bm 0 xs.length cm)⟩, ⟨4, bm, true, wordsO r.2 j⟩, ⟨3, b, true, .c [.v (.int .u32 base), .s 0 rb ro xs.length rc] 25⟩,
       ⟨0, g.1, false, .z g.2.2.2.1 g.2.2.2.2.1 g.2.2.2.2.2⟩, ⟨1, ba, false, .z la Ta za⟩]) (fun g => Seg g.2.2.2.1 g.2.1 .u32 r.2) 600 (fun w1 hm1 => ?_) ?_
    · have := rstore_C w1 base acts[i].a acts[i].s acts[i].v (.s 0 rb ro xs.length rc) ys hb ok3 ok4 hys (by omega) (Or.inr ⟨0, rb, ro, rc, rl, rT, rz, by rw [hyl], by omega, hm1.at (t := 0) rfl, hsr⟩)
      refine this.mono ?_
      rintro e w' ⟨r', h2, h3, h4⟩
      have e1 := storeR_same h2 hr
      subst e1
      rcases h3 with ⟨h3, rfl⟩ | ⟨b', c', j', _, h5, h6, rfl⟩
      · exact ⟨(rb, ro, rc, rl, rT, rz), rfl, by rw [h3]; exact hsr, hm1.call h4⟩
      · exact ⟨(b', 0, c', nums .u32 r'.2 ++ j', 22, (0, 0)), by rw [hr2, hyl], Seg.own _ _ _, hm1.fresh_ro h4 (l := [_, _, _, _, _]) rfl 0 h5 h6⟩
    refine ⟨by simp only [go_sem, Nat.zero_add, Nat.add_zero, Nat.zero_mul, Nat.reduceBEq, Nat.reduceAdd, Nat.reduceMul, Nat.reduceSub, Nat.reduceLT, Nat.reduceLeDiff, Nat.reduceEqDiff, Nat.reduceDiv, Nat.reduceMod, Int.reduceAdd, Int.reduceSub, Int.reduceMul, Int.reduceDiv, Int.reduceMod, Int.reduceLT, Int.reduceLE, Int.reduceEq, Int.reduceToNat, Int.reducePow, Int.reduceNeg, ne_eq, not_false_eq_true, not_true_eq_false, decide_true, decide_false, Bool.not_true, Bool.not_false, forall_const, reduceCtorEq, implies_true, beq_self_eq_true, Int.cast_ofNat_Int, reduceIte, if_true, if_false, Bool.false_eq_true, Try.ntmps3], ?_⟩
    rintro ⟨rb', ro', rc', rl', rT', rz'⟩ hg
    simp only at hg
    simp only [go_sem, Nat.zero_add, Nat.add_zero, Nat.zero_mul, Nat.reduceBEq, Nat.reduceAdd, Nat.reduceMul, Nat.reduceSub, Nat.reduceLT, Nat.reduceLeDiff, Nat.reduceEqDiff, Nat.reduceDiv, Nat.reduceMod, Int.reduceAdd, Int.reduceSub, Int.reduceMul, Int.reduceDiv, Int.reduceMod, Int.reduceLT, Int.reduceLE, Int.reduceEq, Int.reduceToNat, Int.reducePow, Int.reduceNeg, ne_eq, not_false_eq_true, not_true_eq_false, decide_true, decide_false, Bool.not_true, Bool.not_false, forall_const, reduceCtorEq, implies_true, beq_self_eq_true, Int.cast_ofNat_Int, reduceIte, if_true, if_false, Bool.false_eq_true, Try.ntmps3, fin_ret hE, Try.results3]
    intro b9
    refine CodeC.lex 600 Try.follows_mixed (by kernel_rfl) ?_
    simp only [go_sem, Nat.zero_add, Nat.add_zero, Nat.zero_mul, Nat.reduceBEq, Nat.reduceAdd, Nat.reduceMul, Nat.reduceSub, Nat.reduceLT, Nat.reduceLeDiff, Nat.reduceEqDiff, Nat.reduceDiv, Nat.reduceMod, Int.reduceAdd, Int.reduceSub, Int.reduceMul, Int.reduceDiv, Int.reduceMod, Int.reduceLT, Int.reduceLE, Int.reduceEq, Int.reduceToNat, Int.reducePow, Int.reduceNeg, ne_eq, not_false_eq_true, not_true_eq_false, decide_true, decide_false, Bool.not_true, Bool.not_false, forall_const, reduceCtorEq, implies_true, beq_self_eq_true, Int.cast_ofNat_Int, reduceIte, if_true, if_false, Bool.false_eq_true, Try.ntmps3, fin_ret hE, Try.results3, busO, ramO]
    refine CallD.pur (.v (.bool true)) rfl (fun w1 hm1 => ?_) ?_
    · have := words_cons w1 bm 0 cm rb' ro' rc' (nums .u32 r.2 ++ j) rl' 22 rT' (0, 0) rz' r.2 r.2 (by omega) (by omega) (hm1.at (t := 4) rfl) (Seg.own _ _ _) (hm1.at (t := 0) rfl) hg
      rw [hr2, hyl] at this
      simp only [decide_true] at this
      exact this
    simp only [go_sem, Nat.zero_add, Nat.add_zero, Nat.zero_mul, Nat.reduceBEq, Nat.reduceAdd, Nat.reduceMul, Nat.reduceSub, Nat.reduceLT, Nat.reduceLeDiff, Nat.reduceEqDiff, Nat.reduceDiv, Nat.reduceMod, Int.reduceAdd, Int.reduceSub, Int.reduceMul, Int.reduceDiv, Int.reduceMod, Int.reduceLT, Int.reduceLE, Int.reduceEq, Int.reduceToNat, Int.reducePow, Int.reduceNeg, ne_eq, not_false_eq_true, not_true_eq_false, decide_true, decide_false, Bool.not_true, Bool.not_false, forall_const, reduceCtorEq, implies_true, beq_self_eq_true, Int.cast_ofNat_Int, reduceIte, if_true, if_false, Bool.false_eq_true, Try.ntmps3, fin_ret hE, Try.results3, busO, ramO]
    refine ⟨by omega, ?_⟩
    refine next _ r.2 rb' ro' rc' rl' rT' rz' _ hr1 (by omega) hg ?_ ?_ ?_ ?_ ?_ ?_ _ ?_
    all_goals first | rfl | simp only [go_sem, Nat.zero_add, Nat.add_zero, Nat.zero_mul, Nat.reduceBEq, Nat.reduceAdd, Nat.reduceMul, Nat.reduceSub, Nat.reduceLT, Nat.reduceLeDiff, Nat.reduceEqDiff, Nat.reduceDiv, Nat.reduceMod, Int.reduceAdd, Int.reduceSub, Int.reduceMul, Int.reduceDiv, Int.reduceMod, Int.reduceLT, Int.reduceLE, Int.reduceEq, Int.reduceToNat, Int.reducePow, Int.reduceNeg, ne_eq, not_false_eq_true, not_true_eq_false, decide_true, decide_false, Bool.not_true, Bool.not_false, forall_const, reduceCtorEq, implies_true, beq_self_eq_true, Int.cast_ofNat_Int, reduceIte, if_true, if_false, Bool.false_eq_true, SubH, busO, ramO]

end Go.Proofs
