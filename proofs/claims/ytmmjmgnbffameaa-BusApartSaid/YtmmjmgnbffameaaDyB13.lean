/- What is stored somewhere changes no byte elsewhere: the walk of the law. -/
import Derived.Test.YtmmjmgnbffameaaDyB8
set_option linter.unusedSimpArgs false
set_option linter.unusedVariables false
set_option maxRecDepth 100000
namespace Go.Proofs
open Go.Dx Go.RowKit

/-- The byte at place j of a word in which a field of whole bytes was put. -/
theorem byte_put (w v s z j : Nat) (hj : j < 4) : fieldN (putN w (8 * s) (8 * z) v) (8 * j) 8 = if s ≤ j ∧ j < s + z then fieldN v (8 * (j - s)) 8 else fieldN w (8 * j) 8 := by
  apply Nat.eq_of_testBit_eq
  intro t
  by_cases h : s ≤ j ∧ j < s + z
  · rw [if_pos h, testBit_fieldN, testBit_fieldN, testBit_putN]
    by_cases ht : t < 8
    · rw [if_neg (by omega), if_pos (by omega)]
      simp only [ht, decide_true, Bool.true_and]
      congr 1
      omega
    · simp [ht]
  · rw [if_neg h, testBit_fieldN, testBit_fieldN, testBit_putN]
    by_cases ht : t < 8
    · simp only [ht, decide_true, Bool.true_and]
      by_cases h1 : 8 * j + t < 8 * s
      · rw [if_pos h1]
      · rw [if_neg h1, if_neg (by omega)]
    · simp [ht]

/-- Byte i of a row of words. -/
def byteAt (xs : List Int) (i : Nat) : Nat := fieldN (xs.getD (i / 4) 0).toNat (8 * (i % 4)) 8

theorem byte_iand (x : Int) (hx : 0 ≤ x) (k : Nat) : iand (x / 2 ^ k) 255 = (fieldN x.toNat k 8 : Int) := by
  have := iand_mask (x / 2 ^ k) 8 (Int.ediv_nonneg hx (Int.pow_nonneg (by omega)))
  rw [show ((2 : Int) ^ 8 - 1) = 255 from rfl] at this
  rw [this]
  obtain ⟨m, rfl⟩ := Int.eq_ofNat_of_zero_le hx
  unfold fieldN
  simp

/-- What a store does to each byte. -/
theorem store_bytes {base a sz v : Int} {xs : List Int} {r : Int × List Int} (hb : u32ok base) (ha : u32ok a) (hv : u32ok v) (hn : xs.length ≤ 100) (h : storeR base a sz v xs r) (i : Nat) (hi : i < 4 * xs.length) :
    (r.1 = 0 ∧ a ≤ (base + i) % 4294967296 ∧ ((base + i) % 4294967296 - a) % 4294967296 < sz % 4294967296 → byteAt r.2 i = fieldN v.toNat (8 * ((base + i) % 4294967296 - a)).toNat 8 ∧ (base + i) % 4294967296 - a < 4 ∧ 0 ≤ (base + i) % 4294967296 - a) ∧
    (¬ (r.1 = 0 ∧ a ≤ (base + i) % 4294967296 ∧ ((base + i) % 4294967296 - a) % 4294967296 < sz % 4294967296) → byteAt r.2 i = byteAt xs i) := by
  unfold u32ok at hb ha hv
  rcases h with ⟨h1, rfl⟩ | ⟨h1, h2, rfl⟩ | ⟨h1, h2, rfl⟩
  · refine ⟨fun hh => ?_, fun _ => rfl⟩
    exact absurd hh.1 h1
  · refine ⟨fun hh => ?_, fun _ => rfl⟩
    exact absurd hh.1 (by simp)
  · have hsz : sz = 1 ∨ sz = 2 ∨ sz = 4 := by
      unfold wrongSz at h1
      split at h1
      · assumption
      · omega
    have hal : a % sz = 0 := by
      rw [wrongSz_in hsz] at h1
      split at h1
      · assumption
      · omega
    have hin := h2
    unfold inR at hin
    obtain ⟨q, hq⟩ : ∃ q : Nat, ((a - a % 4 - base) / 4).toNat = q := ⟨_, rfl⟩
    have hqq : a - a % 4 = base + 4 * q := by omega
    have hql : q < xs.length := by omega
    obtain ⟨s, hs⟩ : ∃ s : Nat, a % 4 = (s : Int) := ⟨(a % 4).toNat, by omega⟩
    obtain ⟨z, hz⟩ : ∃ z : Nat, sz = (z : Int) := ⟨sz.toNat, by omega⟩
    have hsz4 : s + z ≤ 4 := by rcases hsz with rfl | rfl | rfl <;> omega
    have e1 : (a % 4 * 8).toNat = 8 * s := by omega
    have e2 : (sz * 8).toNat = 8 * z := by omega
    have hat : (base + (i : Int)) % 4294967296 = base + i ∨ (base + (i : Int)) % 4294967296 = base + i - 4294967296 := by omega
    simp only [hq, e1, e2]
    by_cases hiq : i / 4 = q
    · have hb1 : byteAt (xs.set q (putN (wordR base (a - a % 4) xs).toNat (8 * s) (8 * z) v.toNat : Int)) i = fieldN (putN (wordR base (a - a % 4) xs).toNat (8 * s) (8 * z) v.toNat) (8 * (i % 4)) 8 := by
        unfold byteAt
        rw [hiq, List.getD_eq_getElem?_getD, List.getElem?_set_self hql]
        simp
      have hw : wordR base (a - a % 4) xs = xs.getD (i / 4) 0 := by unfold wordR; rw [hq, hiq]
      rw [hb1, byte_put _ _ _ _ _ (by omega), hw]
      constructor
      · rintro ⟨_, h3, h4⟩
        rw [if_pos (by omega)]
        refine ⟨?_, by omega, by omega⟩
        congr 1
        omega
      · intro h3
        rw [if_neg (by intro h4; apply h3; refine ⟨trivial, by omega, by omega⟩)]
        rfl
    · have hb1 : byteAt (xs.set q (putN (wordR base (a - a % 4) xs).toNat (8 * s) (8 * z) v.toNat : Int)) i = byteAt xs i := by
        unfold byteAt
        rw [List.getD_eq_getElem?_getD, List.getElem?_set_ne (by omega), ← List.getD_eq_getElem?_getD]
      rw [hb1]
      refine ⟨fun hh => ?_, fun _ => rfl⟩
      exfalso
      omega

theorem busApart_A (w : World) (base : Int) (bw o c : Nat) (l : List SV) (T : Nat) (fz : Nat × Nat) (xs : List Int) (x : BAct)
    (hb : u32ok base) (hxs : u32s xs) (hne : xs ≠ []) (hn : xs.length ≤ 9223372036854775807) (hok : x.ok)
    (hgw : w.heap[bw]? = some (denO (.z l T fz))) (hseg : Seg l o .u32 xs) :
    Calls Try.prog 5 #[den (.g [.v (.int .u32 base), .s 0 bw o xs.length c]), den (.g [.v (.int .u8 x.k), .v (.int .u32 x.a), .v (.int .i64 x.s), .v (.int .u32 x.v)])] w fun e w' => e = .returned (.bool true) ∧ Below w.heap.size w w' := by
  have hm : Mem w [] [⟨0, bw, false, .z l T fz⟩] w := Mem.reads (by simpa using hgw) (by simp)
  refine calls_of_ex [.g [.v (.int .u32 base), .s 0 bw o xs.length c], .g [.v (.int .u8 x.k), .v (.int .u32 x.a), .v (.int .i64 x.s), .v (.int .u32 x.v)]] _ [] 3 600 Try.func5 rfl hm (by simp [Try.ntmps5]) fun E hE => ?_
  obtain ⟨ok1, ok2, ok3, ok4, ok5, ok6⟩ := hok
  simp only [go_sem, Nat.zero_add, Nat.add_zero, Nat.zero_mul, Nat.reduceBEq, Nat.reduceAdd, Nat.reduceMul, Nat.reduceSub, Nat.reduceLT, Nat.reduceLeDiff, Nat.reduceEqDiff, Nat.reduceDiv, Nat.reduceMod, Int.reduceAdd, Int.reduceSub, Int.reduceMul, Int.reduceDiv, Int.reduceMod, Int.reduceLT, Int.reduceLE, Int.reduceEq, Int.reduceToNat, Int.reducePow, Int.reduceNeg, ne_eq, not_false_eq_true, not_true_eq_false, decide_true, decide_false, Bool.not_true, Bool.not_false, forall_const, reduceCtorEq, implies_true, beq_self_eq_true, Int.cast_ofNat_Int, reduceIte, if_true, if_false, Bool.false_eq_true, Try.ntmps5, fin_ret hE, Try.results5]
  intro b ba
  refine CallC.pur (.v (.bool true)) 600 (fun w1 hm1 => alive_C w1) ?_
  simp only [go_sem, Nat.zero_add, Nat.add_zero, Nat.zero_mul, Nat.reduceBEq, Nat.reduceAdd, Nat.reduceMul, Nat.reduceSub, Nat.reduceLT, Nat.reduceLeDiff, Nat.reduceEqDiff, Nat.reduceDiv, Nat.reduceMod, Int.reduceAdd, Int.reduceSub, Int.reduceMul, Int.reduceDiv, Int.reduceMod, Int.reduceLT, Int.reduceLE, Int.reduceEq, Int.reduceToNat, Int.reducePow, Int.reduceNeg, ne_eq, not_false_eq_true, not_true_eq_false, decide_true, decide_false, Bool.not_true, Bool.not_false, forall_const, reduceCtorEq, implies_true, beq_self_eq_true, Int.cast_ofNat_Int, reduceIte, if_true, if_false, Bool.false_eq_true, Try.ntmps5, fin_ret hE, Try.results5]
  refine ⟨fun h => fun w' hm' => ⟨rfl, bel1 hm'⟩, fun hlen => ?_⟩
  refine CodeC.lex 600 Try.follows_mixed (by kernel_rfl) ?_
  have hle := hseg.le hne
  have hpos : 0 < xs.length := by cases xs <;> simp_all
  simp only [go_sem, Nat.zero_add, Nat.add_zero, Nat.zero_mul, Nat.reduceBEq, Nat.reduceAdd, Nat.reduceMul, Nat.reduceSub, Nat.reduceLT, Nat.reduceLeDiff, Nat.reduceEqDiff, Nat.reduceDiv, Nat.reduceMod, Int.reduceAdd, Int.reduceSub, Int.reduceMul, Int.reduceDiv, Int.reduceMod, Int.reduceLT, Int.reduceLE, Int.reduceEq, Int.reduceToNat, Int.reducePow, Int.reduceNeg, ne_eq, not_false_eq_true, not_true_eq_false, decide_true, decide_false, Bool.not_true, Bool.not_false, forall_const, reduceCtorEq, implies_true, beq_self_eq_true, Int.cast_ofNat_Int, reduceIte, if_true, if_false, Bool.false_eq_true, Try.ntmps5, fin_ret hE, Try.results5, Nat.mul_one, hseg.ldN, allOne_nums]
  refine ⟨Or.inr hle, ⟨by omega, by omega⟩, fun h0 => absurd h0 (by omega), fun _ bm cm hc bp => ?_⟩
  generalize hj : rpt (cm - xs.length) [SV.v (Value.int IntKind.u32 0)] = j
  refine CallC.new (γ := Unit) (fun _ b => .p 7 b 0) (fun _ => busO (.p 6 bp 0)) 600 (fun w1 hm1 => ?_) ?_
  · refine (new_C w1 bp).mono ?_
    rintro e w' ⟨c, rfl, h1, h2, h3⟩
    exact ⟨(), c, rfl, h1, h2, h3⟩
  refine ⟨by simp only [go_sem, Nat.zero_add, Nat.add_zero, Nat.zero_mul, Nat.reduceBEq, Nat.reduceAdd, Nat.reduceMul, Nat.reduceSub, Nat.reduceLT, Nat.reduceLeDiff, Nat.reduceEqDiff, Nat.reduceDiv, Nat.reduceMod, Int.reduceAdd, Int.reduceSub, Int.reduceMul, Int.reduceDiv, Int.reduceMod, Int.reduceLT, Int.reduceLE, Int.reduceEq, Int.reduceToNat, Int.reducePow, Int.reduceNeg, ne_eq, not_false_eq_true, not_true_eq_false, decide_true, decide_false, Bool.not_true, Bool.not_false, forall_const, reduceCtorEq, implies_true, beq_self_eq_true, Int.cast_ofNat_Int, reduceIte, if_true, if_false, Bool.false_eq_true, Try.ntmps5], ?_⟩
  intro _ bb
  simp only [go_sem, Nat.zero_add, Nat.add_zero, Nat.zero_mul, Nat.reduceBEq, Nat.reduceAdd, Nat.reduceMul, Nat.reduceSub, Nat.reduceLT, Nat.reduceLeDiff, Nat.reduceEqDiff, Nat.reduceDiv, Nat.reduceMod, Int.reduceAdd, Int.reduceSub, Int.reduceMul, Int.reduceDiv, Int.reduceMod, Int.reduceLT, Int.reduceLE, Int.reduceEq, Int.reduceToNat, Int.reducePow, Int.reduceNeg, ne_eq, not_false_eq_true, not_true_eq_false, decide_true, decide_false, Bool.not_true, Bool.not_false, forall_const, reduceCtorEq, implies_true, beq_self_eq_true, Int.cast_ofNat_Int, reduceIte, if_true, if_false, Bool.false_eq_true, Try.ntmps5, fin_ret hE, Try.results5]
  refine CallC.mut (γ := Int × List Int) (fun r => .v (.int .i64 r.1)) (fun r => [⟨7, bb, true, busO (.p 6 bp 0)⟩, ⟨6, bp, true, ramO base (.s 5 bm 0 xs.length cm)⟩, ⟨5, bm, true, wordsO r.2 j⟩, ⟨4, ba, true, .c [.v (.int .u8 x.k), .v (.int .u32 x.a), .v (.int .i64 x.s), .v (.int .u32 x.v)] 33⟩, ⟨3, b, true, .c [.v (.int .u32 base), .s 0 bw o xs.length c] 25⟩, ⟨0, bw, false, .z l T fz⟩])
    (fun r => storeR base x.a x.s x.v xs r) 600 (fun w1 hm1 => ?_) ?_
  · have hm2 : Mem E.W0 E.mods [⟨7, bb, true, busO (.p 6 bp 0)⟩, ⟨6, bp, true, ramO base (.s 5 bm 0 xs.length cm)⟩, ⟨5, bm, true, wordsO xs j⟩, ⟨4, ba, true, .c [.v (.int .u8 x.k), .v (.int .u32 x.a), .v (.int .i64 x.s), .v (.int .u32 x.v)] 33⟩, ⟨3, b, true, .c [.v (.int .u32 base), .s 0 bw o xs.length c] 25⟩, ⟨0, bw, false, .z l T fz⟩] w1 := hm1
    have := store_cons w1 bb 6 bp bm cm base x.a x.s x.v xs j hb ok3 ok4 hxs (by omega) (hm2.ne (t := 6) (u := 5) rfl rfl (by decide) (Or.inl rfl)) (hm2.ne (t := 7) (u := 5) rfl rfl (by decide) (Or.inl rfl)) (hm2.at (t := 7) rfl)
        (hm2.at (t := 6) rfl) (hm2.at (t := 5) rfl)
    refine this.mono ?_
    rintro e w' ⟨r, rfl, h1, h2, h3⟩
    exact ⟨r, rfl, h1, hm2.upd1 (t := 5) rfl rfl h2 (wordsO r.2 j) h3⟩
  refine ⟨by simp only [go_sem, Nat.zero_add, Nat.add_zero, Nat.zero_mul, Nat.reduceBEq, Nat.reduceAdd, Nat.reduceMul, Nat.reduceSub, Nat.reduceLT, Nat.reduceLeDiff, Nat.reduceEqDiff, Nat.reduceDiv, Nat.reduceMod, Int.reduceAdd, Int.reduceSub, Int.reduceMul, Int.reduceDiv, Int.reduceMod, Int.reduceLT, Int.reduceLE, Int.reduceEq, Int.reduceToNat, Int.reducePow, Int.reduceNeg, ne_eq, not_false_eq_true, not_true_eq_false, decide_true, decide_false, Bool.not_true, Bool.not_false, forall_const, reduceCtorEq, implies_true, beq_self_eq_true, Int.cast_ofNat_Int, reduceIte, if_true, if_false, Bool.false_eq_true, Try.ntmps5], fun r hr => ?_⟩
  obtain ⟨hr1, hr2⟩ := storeR_ok ok3 hxs hr
  simp only [go_sem, Nat.zero_add, Nat.add_zero, Nat.zero_mul, Nat.reduceBEq, Nat.reduceAdd, Nat.reduceMul, Nat.reduceSub, Nat.reduceLT, Nat.reduceLeDiff, Nat.reduceEqDiff, Nat.reduceDiv, Nat.reduceMod, Int.reduceAdd, Int.reduceSub, Int.reduceMul, Int.reduceDiv, Int.reduceMod, Int.reduceLT, Int.reduceLE, Int.reduceEq, Int.reduceToNat, Int.reducePow, Int.reduceNeg, ne_eq, not_false_eq_true, not_true_eq_false, decide_true, decide_false, Bool.not_true, Bool.not_false, forall_const, reduceCtorEq, implies_true, beq_self_eq_true, Int.cast_ofNat_Int, reduceIte, if_true, if_false, Bool.false_eq_true, Try.ntmps5, fin_ret hE, Try.results5]
  refine ⟨by omega, ?_⟩
  refine CodeC.loop (γ := { i : Nat // i ≤ 4 * xs.length }) (fun g => ⟨116, 8, [(42, .v (.int .i64 (g.1 : Int))), (41, .v (.int .i64 (4 * (xs.length : Int)))), (7, .v (.int .i64 r.1)), (2, .p 3 b 0), (3, .p 4 ba 0), (5, .p 6 bp 0)],
      [⟨6, bp, true, ramO base (.s 5 bm 0 xs.length cm)⟩, ⟨5, bm, true, wordsO r.2 j⟩, ⟨4, ba, true, .c [.v (.int .u8 x.k), .v (.int .u32 x.a), .v (.int .i64 x.s), .v (.int .u32 x.v)] 33⟩, ⟨3, b, true, .c [.v (.int .u32 base), .s 0 bw o xs.length c] 25⟩, ⟨0, bw, false, .z l T fz⟩], []⟩) (fun g => 4 * xs.length - g.1) ⟨0, by omega⟩ 600
    ⟨rfl, rfl, ⟨rfl, rfl, rfl, rfl, rfl, rfl, trivial⟩, by simp only [go_sem, Nat.zero_add, Nat.add_zero, Nat.zero_mul, Nat.reduceBEq, Nat.reduceAdd, Nat.reduceMul, Nat.reduceSub, Nat.reduceLT, Nat.reduceLeDiff, Nat.reduceEqDiff, Nat.reduceDiv, Nat.reduceMod, Int.reduceAdd, Int.reduceSub, Int.reduceMul, Int.reduceDiv, Int.reduceMod, Int.reduceLT, Int.reduceLE, Int.reduceEq, Int.reduceToNat, Int.reducePow, Int.reduceNeg, ne_eq, not_false_eq_true, not_true_eq_false, decide_true, decide_false, Bool.not_true, Bool.not_false, forall_const, reduceCtorEq, implies_true, beq_self_eq_true, Int.cast_ofNat_Int, reduceIte, if_true, if_false, Bool.false_eq_true, SubH]⟩ ?_
  rintro ⟨i, hi⟩
  have next : ∀ (sl' : List (Nat × SV)) (nt' : Nat), i < 4 * xs.length →
      lk sl' 42 = .v (.int .i64 ((i : Int) + 1)) → lk sl' 41 = .v (.int .i64 (4 * (xs.length : Int))) → lk sl' 7 = .v (.int .i64 r.1) → lk sl' 2 = .p 3 b 0 → lk sl' 3 = .p 4 ba 0 → lk sl' 5 = .p 6 bp 0 →
      ∀ hp' : List Ent, SubH [⟨6, bp, true, ramO base (.s 5 bm 0 xs.length cm)⟩, ⟨5, bm, true, wordsO r.2 j⟩, ⟨4, ba, true, .c [.v (.int .u8 x.k), .v (.int .u32 x.a), .v (.int .i64 x.s), .v (.int .u32 x.v)] 33⟩, ⟨3, b, true, .c [.v (.int .u32 base), .s 0 bw o xs.length c] 25⟩, ⟨0, bw, false, .z l T fz⟩] hp' →
      ∃ g' : { i : Nat // i ≤ 4 * xs.length }, Dx.Sub ⟨116, 8, [(42, .v (.int .i64 (g'.1 : Int))), (41, .v (.int .i64 (4 * (xs.length : Int)))), (7, .v (.int .i64 r.1)), (2, .p 3 b 0), (3, .p 4 ba 0), (5, .p 6 bp 0)],
      [⟨6, bp, true, ramO base (.s 5 bm 0 xs.length cm)⟩, ⟨5, bm, true, wordsO r.2 j⟩, ⟨4, ba, true, .c [.v (.int .u8 x.k), .v (.int .u32 x.a), .v (.int .i64 x.s), .v (.int .u32 x.v)] 33⟩, ⟨3, b, true, .c [.v (.int .u32 base), .s 0 bw o xs.length c] 25⟩, ⟨0, bw, false, .z l T fz⟩], []⟩ ⟨116, nt', sl', hp', []⟩ ∧ 4 * xs.length - g'.1 < 4 * xs.length - i :=
    fun sl' nt' q3 q4 q5 q6 q7 q8 q9 hp' q10 => ⟨⟨i + 1, by omega⟩, ⟨rfl, rfl, ⟨by simpa using q4, q5, q6, q7, q8, q9, trivial⟩, q10⟩, by simp only; omega⟩
  by_cases h1 : i < 4 * xs.length
  · have hlt : i / 4 < xs.length := by omega
    have hlt2 : i / 4 < r.2.length := by omega
    have ei : ((i : Int) / 4).toNat = i / 4 := by omega
    have ei2 : (8 * ((i : Int) % 4)).toNat = 8 * (i % 4) := by omega
    have hx0 := hxs.get (i / 4)
    have hr0 := hr1.get (i / 4)
    unfold u32ok at hx0 hr0
    have eO : iand (xs.getD (i / 4) 0 / 2 ^ (8 * (i % 4))) 255 = (byteAt xs i : Int) := byte_iand _ hx0.1 _
    have eN : iand (r.2.getD (i / 4) 0 / 2 ^ (8 * (i % 4))) 255 = (byteAt r.2 i : Int) := byte_iand _ hr0.1 _
    have hv0 := ok4
    unfold u32ok at hv0
    have eV : ∀ k : Nat, iand (x.v / 2 ^ k) 255 = (fieldN x.v.toNat k 8 : Int) := fun k => byte_iand _ hv0.1 k
    have hsb := store_bytes hb ok3 ok4 (by omega) hr i h1
    have ew : (base + (i : Int) % 4294967296) % 4294967296 = (base + i) % 4294967296 := by omega
    simp only [go_sem, Nat.zero_add, Nat.add_zero, Nat.zero_mul, Nat.reduceBEq, Nat.reduceAdd, Nat.reduceMul, Nat.reduceSub, Nat.reduceLT, Nat.reduceLeDiff, Nat.reduceEqDiff, Nat.reduceDiv, Nat.reduceMod, Int.reduceAdd, Int.reduceSub, Int.reduceMul, Int.reduceDiv, Int.reduceMod, Int.reduceLT, Int.reduceLE, Int.reduceEq, Int.reduceToNat, Int.reducePow, Int.reduceNeg, ne_eq, not_false_eq_true, not_true_eq_false, decide_true, decide_false, Bool.not_true, Bool.not_false, forall_const, reduceCtorEq, implies_true, beq_self_eq_true, Int.cast_ofNat_Int, reduceIte, if_true, if_false, Bool.false_eq_true, wordsO, ramO, Try.ntmps5, fin_ret hE, Try.results5, ei, ei2, Nat.mul_one, hseg.ld1 hlt, ld1_own hlt2, eO, eN, eV, ew]
    have p1 : 0 ≤ xs.getD (i / 4) 0 / 2 ^ (8 * (i % 4)) := Int.ediv_nonneg hx0.1 (Int.pow_nonneg (by omega))
    have p2 : xs.getD (i / 4) 0 / 2 ^ (8 * (i % 4)) ≤ xs.getD (i / 4) 0 := Int.ediv_le_self _ hx0.1
    have p3 : 0 ≤ r.2.getD (i / 4) 0 / 2 ^ (8 * (i % 4)) := Int.ediv_nonneg hr0.1 (Int.pow_nonneg (by omega))
    have p4 : r.2.getD (i / 4) 0 / 2 ^ (8 * (i % 4)) ≤ r.2.getD (i / 4) 0 := Int.ediv_le_self _ hr0.1
    have p5 : ∀ k : Nat, 0 ≤ x.v / 2 ^ k ∧ x.v / 2 ^ k ≤ 4294967295 := fun k => ⟨Int.ediv_nonneg hv0.1 (Int.pow_nonneg (by omega)), Int.le_trans (Int.ediv_le_self _ hv0.1) (by omega)⟩
    have p5a := fun k => (p5 k).1
    have p5b := fun k => (p5 k).2
    have hs1 := hseg.lt hlt
    have hs2 : i / 4 < (nums .u32 r.2 ++ j).length := by simp; omega
    by_cases hin : r.1 = 0 ∧ x.a ≤ (base + i) % 4294967296 ∧ ((base + i) % 4294967296 - x.a) % 4294967296 < x.s % 4294967296
    · obtain ⟨hB, hB2, hB3⟩ := hsb.1 hin
      have eK : (8 * (((base + i) % 4294967296 - x.a) % 4294967296) % 4294967296).toNat = (8 * ((base + i) % 4294967296 - x.a)).toNat := by omega
      simp only [eK]
      obtain ⟨n1, n2, n3⟩ := hin
      clear hsb
      repeat' (first | refine And.intro ?_ ?_ | intro)
      all_goals first
        | omega
        | exact p5a _
        | exact p5b _
        | exact bel1 (by assumption)
        | (exfalso; omega)
        | (refine next _ _ h1 ?_ ?_ ?_ ?_ ?_ ?_ _ ?_ <;> first | rfl | simp only [go_sem, Nat.zero_add, Nat.add_zero, Nat.zero_mul, Nat.reduceBEq, Nat.reduceAdd, Nat.reduceMul, Nat.reduceSub, Nat.reduceLT, Nat.reduceLeDiff, Nat.reduceEqDiff, Nat.reduceDiv, Nat.reduceMod, Int.reduceAdd, Int.reduceSub, Int.reduceMul, Int.reduceDiv, Int.reduceMod, Int.reduceLT, Int.reduceLE, Int.reduceEq, Int.reduceToNat, Int.reducePow, Int.reduceNeg, ne_eq, not_false_eq_true, not_true_eq_false, decide_true, decide_false, Bool.not_true, Bool.not_false, forall_const, reduceCtorEq, implies_true, beq_self_eq_true, Int.cast_ofNat_Int, reduceIte, if_true, if_false, Bool.false_eq_true, SubH, ramO, wordsO])
    · have hB := hsb.2 hin
      clear hsb
      repeat' (first | refine And.intro ?_ ?_ | intro)
      all_goals first
        | omega
        | exact p5a _
        | exact p5b _
        | exact bel1 (by assumption)
        | (exfalso; omega)
        | (refine next _ _ h1 ?_ ?_ ?_ ?_ ?_ ?_ _ ?_ <;> first | rfl | simp only [go_sem, Nat.zero_add, Nat.add_zero, Nat.zero_mul, Nat.reduceBEq, Nat.reduceAdd, Nat.reduceMul, Nat.reduceSub, Nat.reduceLT, Nat.reduceLeDiff, Nat.reduceEqDiff, Nat.reduceDiv, Nat.reduceMod, Int.reduceAdd, Int.reduceSub, Int.reduceMul, Int.reduceDiv, Int.reduceMod, Int.reduceLT, Int.reduceLE, Int.reduceEq, Int.reduceToNat, Int.reducePow, Int.reduceNeg, ne_eq, not_false_eq_true, not_true_eq_false, decide_true, decide_false, Bool.not_true, Bool.not_false, forall_const, reduceCtorEq, implies_true, beq_self_eq_true, Int.cast_ofNat_Int, reduceIte, if_true, if_false, Bool.false_eq_true, SubH, ramO, wordsO])
  · have h1' : ¬ (i : Int) < 4 * (xs.length : Int) := by omega
    simp only [go_sem, Nat.zero_add, Nat.add_zero, Nat.zero_mul, Nat.reduceBEq, Nat.reduceAdd, Nat.reduceMul, Nat.reduceSub, Nat.reduceLT, Nat.reduceLeDiff, Nat.reduceEqDiff, Nat.reduceDiv, Nat.reduceMod, Int.reduceAdd, Int.reduceSub, Int.reduceMul, Int.reduceDiv, Int.reduceMod, Int.reduceLT, Int.reduceLE, Int.reduceEq, Int.reduceToNat, Int.reducePow, Int.reduceNeg, ne_eq, not_false_eq_true, not_true_eq_false, decide_true, decide_false, Bool.not_true, Bool.not_false, forall_const, reduceCtorEq, implies_true, beq_self_eq_true, Int.cast_ofNat_Int, reduceIte, if_true, if_false, Bool.false_eq_true, Try.ntmps5, fin_ret hE, Try.results5, h1']
    exact fun w' hm' => ⟨rfl, bel1 hm'⟩

end Go.Proofs
