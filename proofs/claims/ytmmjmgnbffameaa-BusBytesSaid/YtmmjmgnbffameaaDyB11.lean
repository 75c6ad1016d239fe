/- A word is its four bytes, the lowest one first, and its two halves, however they were stored: the walk of the law. -/
import Derived.Test.YtmmjmgnbffameaaDyB7
set_option linter.unusedSimpArgs false
set_option linter.unusedVariables false
set_option maxRecDepth 100000
namespace Go.Proofs
open Go.Dx Go.RowKit

theorem storeB {xs : List Int} {q i : Nat} {sz v : Int} {r : Int × List Int} (hw : wrongSz ((4 * q + i : Nat) : Int) sz = 0) (hq : q < xs.length) (hi : i < 4) (h : storeR 0 ((4 * q + i : Nat) : Int) sz v xs r) :
    r = (0, xs.set q (putN (xs.getD q 0).toNat (8 * i) (sz * 8).toNat v.toNat : Int)) := by
  have e1 : ((4 * q + i : Nat) : Int) % 4 = i := by omega
  have e2 : ((((4 * q + i : Nat) : Int) - i - 0) / 4).toNat = q := by omega
  have e3 : ((i : Int) * 8).toNat = 8 * i := by omega
  have hin : inR 0 (((4 * q + i : Nat) : Int) - i) xs.length := by unfold inR; omega
  rcases h with ⟨h1, _⟩ | ⟨_, h1, _⟩ | ⟨_, _, h1⟩
  · exact absurd hw h1
  · rw [e1] at h1; exact absurd hin h1
  · rw [h1, e1, e2, e3]
    simp only [wordR, e2]

theorem loadB {xs : List Int} {q i : Nat} {sz : Int} {r : Int × Int} (hw : wrongSz ((4 * q + i : Nat) : Int) sz = 0) (hq : q < xs.length) (hi : i < 4) (h : loadR 0 ((4 * q + i : Nat) : Int) sz xs r) :
    r = ((fieldN (xs.getD q 0).toNat (8 * i) (sz * 8).toNat : Int), 0) := by
  have e1 : ((4 * q + i : Nat) : Int) % 4 = i := by omega
  have e2 : ((((4 * q + i : Nat) : Int) - i - 0) / 4).toNat = q := by omega
  have e3 : ((i : Int) * 8).toNat = 8 * i := by omega
  have hin : inR 0 (((4 * q + i : Nat) : Int) - i) xs.length := by unfold inR; omega
  rcases h with ⟨h1, _⟩ | ⟨_, h1, _⟩ | ⟨_, _, h1⟩
  · exact absurd hw h1
  · rw [e1] at h1; exact absurd hin h1
  · rw [h1, e1, e3]
    simp only [wordR, e2]

/-- The word whose first i bytes have been put. -/
def wbs (w : Nat) (l : Nat → Nat) : Nat → Nat
  | 0 => w
  | i + 1 => putN (wbs w l i) (8 * i) 8 (l i)

theorem wbs_lt (w : Nat) (l : Nat → Nat) (hw : w < 4294967296) : ∀ i, i ≤ 4 → wbs w l i < 4294967296
  | 0, _ => hw
  | i + 1, h => putN_lt (k := 32) (wbs_lt w l hw i (by omega)) (by omega)

theorem wbs_byte (w : Nat) (l : Nat → Nat) : ∀ i j, i ≤ j → fieldN (wbs w l i) (8 * j) 8 = fieldN w (8 * j) 8
  | 0, _, _ => rfl
  | i + 1, j, h => by
    rw [← wbs_byte w l i j (by omega)]
    apply Nat.eq_of_testBit_eq
    intro t
    rw [testBit_fieldN, testBit_fieldN]
    by_cases ht : t < 8
    · simp only [ht, decide_true, Bool.true_and, wbs, testBit_putN]
      rw [if_neg (by omega), if_neg (by omega)]
    · simp [ht]

theorem wbs_four (w : Nat) (l : Nat → Nat) (hw : w < 4294967296) : wbs w l 4 = l 0 % 256 + 256 * (l 1 % 256) + 65536 * (l 2 % 256) + 16777216 * (l 3 % 256) := by
  have h1 : wbs w l 1 = 256 * (w / 256) + l 0 % 256 := by
    show putN w 0 8 (l 0) = _
    unfold putN
    omega
  have h2 : wbs w l 2 = 256 * (256 * (wbs w l 1 / 65536) + l 1 % 256) + wbs w l 1 % 256 := rfl
  have h3 : wbs w l 3 = 65536 * (256 * (wbs w l 2 / 16777216) + l 2 % 256) + wbs w l 2 % 65536 := rfl
  have h4 : wbs w l 4 = 16777216 * (256 * (wbs w l 3 / 4294967296) + l 3 % 256) + wbs w l 3 % 16777216 := rfl
  have b1 := wbs_lt w l hw 1 (by omega)
  have b2 := wbs_lt w l hw 2 (by omega)
  have b3 := wbs_lt w l hw 3 (by omega)
  omega

/-- The bytes of an array of four. -/
def arr4 (l : Nat → Nat) : List SV := [.v (.int .u8 (l 0 : Int)), .v (.int .u8 (l 1 : Int)), .v (.int .u8 (l 2 : Int)), .v (.int .u8 (l 3 : Int))]

theorem ld1_arr4 (l : Nat → Nat) (i : Nat) (hi : i < 4) : ld1 (arr4 l) i = .v (.int .u8 (l i : Int)) := by
  rcases (show i = 0 ∨ i = 1 ∨ i = 2 ∨ i = 3 by omega) with rfl | rfl | rfl | rfl <;> rfl

theorem or_abc (x : Nat) (h : x < 256) : ior (x : Int) 703488 = ((x + 703488 : Nat) : Int) := by
  unfold ior
  simp only [Int.toNat_natCast]
  have e : (703488 : Int).toNat = 2 ^ 8 * 2748 := by decide
  rw [e, Nat.or_comm, ← Nat.two_pow_add_eq_or_of_lt (show x < 2 ^ 8 from h)]
  congr 1
  omega

/-- The words, the q-th being this. -/
def xsq (q ws : Nat) : List Int := ([0, 0, 0, 0] : List Int).set q (ws : Int)

theorem xsq_get {q ws : Nat} (hq : q < 4) : (xsq q ws).getD q 0 = ws := by
  unfold xsq
  rw [List.getD_eq_getElem?_getD, List.getElem?_set_self (by simpa using hq)]
  rfl

theorem xsq_set (q ws : Nat) (y : Nat) : (xsq q ws).set q (y : Int) = xsq q y := by simp [xsq]

theorem xsq_u32 {q ws : Nat} (h : ws < 4294967296) : u32s (xsq q ws) := by
  intro x hx
  rcases List.mem_or_eq_of_mem_set hx with hx | rfl
  · simp at hx; subst hx; exact ⟨by decide, by decide⟩
  · unfold u32ok; omega

theorem xsq_len (q ws : Nat) : (xsq q ws).length = 4 := by simp [xsq]

/-- What lies while the law runs. -/
def bH (bb br bw b : Nat) (l : Nat → Nat) (xs : List Int) : List Ent :=
  [⟨3, bb, true, busO (.p 2 br 0)⟩, ⟨2, br, true, ramO 0 (.s 1 bw 0 4 4)⟩, ⟨1, bw, true, wordsO xs []⟩, ⟨0, b, true, .c (arr4 l) 42⟩]

theorem bstore {W0 : World} {bb br bw b q ws i v : Nat} {sz : Int} {l : Nat → Nat} (hq : q < 4) (hws : ws < 4294967296) (hi : i < 4) (hv : v < 4294967296) (hw : wrongSz ((4 * q + i : Nat) : Int) sz = 0) (w1 : World) (hm1 : Mem W0 [] (bH bb br bw b l (xsq q ws)) w1) :
    Calls Try.prog 10 #[.pointer (some ⟨bb, 0, none⟩), .int .u32 ((4 * q + i : Nat) : Int), .int .i64 sz, .int .u32 (v : Int)] w1 fun e w' => ∃ c : Unit, e = .returned (den (.v (.int .i64 0))) ∧ True ∧ Mem W0 [] (bH bb br bw b l (xsq q (putN ws (8 * i) (sz * 8).toNat v))) w' := by
  have hl := xsq_len q ws
  have := store_cons w1 bb 2 br bw 4 0 ((4 * q + i : Nat) : Int) sz (v : Int) (xsq q ws) [] ⟨by decide, by decide⟩ (by unfold u32ok; omega) (by unfold u32ok; omega) (xsq_u32 hws) (by omega)
    (hm1.ne (t := 2) (u := 1) rfl rfl (by decide) (Or.inl rfl)) (hm1.ne (t := 3) (u := 1) rfl rfl (by decide) (Or.inl rfl)) (hm1.at (t := 3) rfl) (by rw [hl]; exact hm1.at (t := 2) rfl) (hm1.at (t := 1) rfl)
  refine this.mono ?_
  rintro e w' ⟨r, rfl, h1, h2, h3⟩
  have e1 := storeB hw (by omega) hi h1
  rw [xsq_get hq, xsq_set] at e1
  subst e1
  exact ⟨(), rfl, trivial, hm1.upd1 (t := 1) rfl rfl h2 _ h3⟩

theorem bload {W0 : World} {bb br bw b q ws i : Nat} {sz : Int} {l : Nat → Nat} (hq : q < 4) (hws : ws < 4294967296) (hi : i < 4) (hw : wrongSz ((4 * q + i : Nat) : Int) sz = 0) (w1 : World) (hm1 : Mem W0 [] (bH bb br bw b l (xsq q ws)) w1) :
    Calls Try.prog 8 #[.pointer (some ⟨bb, 0, none⟩), .int .u32 ((4 * q + i : Nat) : Int), .int .i64 sz] w1 fun e w' => e = .returned (den (.u [.v (.int .u32 (fieldN ws (8 * i) (sz * 8).toNat : Int)), .v (.int .i64 0)])) ∧ Below w1.heap.size w1 w' := by
  have hl := xsq_len q ws
  have := load_C w1 bb 2 br 0 ((4 * q + i : Nat) : Int) sz (.s 1 bw 0 4 4) (xsq q ws) ⟨by decide, by decide⟩ (by unfold u32ok; omega) (xsq_u32 hws) (hm1.at (t := 3) rfl) (hm1.at (t := 2) rfl)
    (Or.inr ⟨1, bw, 0, 4, _, 22, (0, 0), by rw [hl], by omega, hm1.at (t := 1) rfl, Seg.own _ _ _⟩)
  refine this.mono ?_
  rintro e w' ⟨r, rfl, h1, h2⟩
  have e1 := loadB hw (by omega) hi h1
  rw [xsq_get hq] at e1
  subst e1
  exact ⟨rfl, h2⟩

theorem wr1 (a : Int) : wrongSz a 1 = 0 := by
  rw [wrongSz_in (Or.inl rfl), if_pos (by omega)]
theorem wr4 (q : Nat) : wrongSz ((4 * q + 0 : Nat) : Int) 4 = 0 := by unfold wrongSz; simp
theorem wr2 (q i : Nat) (h : i = 0 ∨ i = 2) : wrongSz ((4 * q + i : Nat) : Int) 2 = 0 := by
  unfold wrongSz
  rcases h with rfl | rfl <;> simp <;> omega

theorem or_lo (a b k : Nat) (h : a < 2 ^ k) : ior (a : Int) ((b * 2 ^ k : Nat) : Int) = ((a + b * 2 ^ k : Nat) : Int) := by
  unfold ior
  simp only [Int.toNat_natCast]
  rw [Nat.or_comm, Nat.mul_comm b, ← Nat.two_pow_add_eq_or_of_lt h]
  congr 1
  omega

theorem busBytes_C (w : World) (x at_ : Nat) (l : Nat → Nat) (hx : x < 4294967296) (hat : at_ < 256) (hl : ∀ i, l i < 256) :
    Calls Try.prog 4 #[.int .u32 (x : Int), den (.g (arr4 l)), .int .u8 (at_ : Int)] w fun e w' => e = .returned (.bool true) ∧ Below w.heap.size w w' := by
  have hm : Mem w [] [] w := Mem.reads (by simp) (by simp)
  refine calls_of_ex [.v (.int .u32 (x : Int)), .g (arr4 l), .v (.int .u8 (at_ : Int))] _ [] 0 600 Try.func4 rfl hm (by simp [Try.ntmps4]) fun E hE => ?_
  have hE0 : E.mods = [] := by rw [hE]
  simp only [go_sem, Nat.zero_add, Nat.add_zero, Nat.zero_mul, Nat.reduceBEq, Nat.reduceAdd, Nat.reduceMul, Nat.reduceSub, Nat.reduceLT, Nat.reduceLeDiff, Nat.reduceEqDiff, Nat.reduceDiv, Nat.reduceMod, Int.reduceAdd, Int.reduceSub, Int.reduceMul, Int.reduceDiv, Int.reduceMod, Int.reduceLT, Int.reduceLE, Int.reduceEq, Int.reduceToNat, Int.reducePow, Int.reduceNeg, ne_eq, not_false_eq_true, not_true_eq_false, decide_true, decide_false, Bool.not_true, Bool.not_false, forall_const, reduceCtorEq, implies_true, beq_self_eq_true, Int.cast_ofNat_Int, reduceIte, if_true, if_false, Bool.false_eq_true, Try.ntmps4, fin_ret hE, Try.results4]
  intro b
  refine CallC.pur (.v (.bool true)) 600 (fun w1 hm1 => alive_C w1) ?_
  simp only [go_sem, Nat.zero_add, Nat.add_zero, Nat.zero_mul, Nat.reduceBEq, Nat.reduceAdd, Nat.reduceMul, Nat.reduceSub, Nat.reduceLT, Nat.reduceLeDiff, Nat.reduceEqDiff, Nat.reduceDiv, Nat.reduceMod, Int.reduceAdd, Int.reduceSub, Int.reduceMul, Int.reduceDiv, Int.reduceMod, Int.reduceLT, Int.reduceLE, Int.reduceEq, Int.reduceToNat, Int.reducePow, Int.reduceNeg, ne_eq, not_false_eq_true, not_true_eq_false, decide_true, decide_false, Bool.not_true, Bool.not_false, forall_const, reduceCtorEq, implies_true, beq_self_eq_true, Int.cast_ofNat_Int, reduceIte, if_true, if_false, Bool.false_eq_true, Try.ntmps4, fin_ret hE, Try.results4]
  intro bw br
  refine CallC.new (γ := Unit) (fun _ b => .p 3 b 0) (fun _ => busO (.p 2 br 0)) 600 (fun w1 hm1 => ?_) ?_
  · refine (new_C w1 br).mono ?_
    rintro e w' ⟨c, rfl, h1, h2, h3⟩
    exact ⟨(), c, rfl, h1, h2, h3⟩
  refine ⟨by simp only [go_sem, Nat.zero_add, Nat.add_zero, Nat.zero_mul, Nat.reduceBEq, Nat.reduceAdd, Nat.reduceMul, Nat.reduceSub, Nat.reduceLT, Nat.reduceLeDiff, Nat.reduceEqDiff, Nat.reduceDiv, Nat.reduceMod, Int.reduceAdd, Int.reduceSub, Int.reduceMul, Int.reduceDiv, Int.reduceMod, Int.reduceLT, Int.reduceLE, Int.reduceEq, Int.reduceToNat, Int.reducePow, Int.reduceNeg, ne_eq, not_false_eq_true, not_true_eq_false, decide_true, decide_false, Bool.not_true, Bool.not_false, forall_const, reduceCtorEq, implies_true, beq_self_eq_true, Int.cast_ofNat_Int, reduceIte, if_true, if_false, Bool.false_eq_true, Try.ntmps4], ?_⟩
  intro _ bb
  obtain ⟨q, hq, e8⟩ : ∃ q : Nat, q < 4 ∧ (at_ : Int) % 4 * 4 % 4294967296 = ((4 * q + 0 : Nat) : Int) := ⟨at_ % 4, by omega, by omega⟩
  simp only [go_sem, Nat.zero_add, Nat.add_zero, Nat.zero_mul, Nat.reduceBEq, Nat.reduceAdd, Nat.reduceMul, Nat.reduceSub, Nat.reduceLT, Nat.reduceLeDiff, Nat.reduceEqDiff, Nat.reduceDiv, Nat.reduceMod, Int.reduceAdd, Int.reduceSub, Int.reduceMul, Int.reduceDiv, Int.reduceMod, Int.reduceLT, Int.reduceLE, Int.reduceEq, Int.reduceToNat, Int.reducePow, Int.reduceNeg, ne_eq, not_false_eq_true, not_true_eq_false, decide_true, decide_false, Bool.not_true, Bool.not_false, forall_const, reduceCtorEq, implies_true, beq_self_eq_true, Int.cast_ofNat_Int, reduceIte, if_true, if_false, Bool.false_eq_true, Try.ntmps4, fin_ret hE, Try.results4, e8]
  refine ⟨⟨by omega, by omega⟩, by omega, ?_⟩
  refine CallC.mut (γ := Unit) (fun _ => .v (.int .i64 0)) (fun _ => bH bb br bw b l (xsq q x)) (fun _ => True) 600 (fun w1 hm1 => ?_) ?_
  · have hm2 : Mem E.W0 [] (bH bb br bw b l (xsq q 0)) w1 := by
      have e0 : xsq q 0 = [0, 0, 0, 0] := by
        rcases (show q = 0 ∨ q = 1 ∨ q = 2 ∨ q = 3 by omega) with rfl | rfl | rfl | rfl <;> rfl
      rw [e0, ← hE0]
      exact hm1
    have := bstore (sz := 4) (v := x) hq (by omega) (show 0 < 4 by omega) hx (wr4 q) w1 hm2
    have e1 : putN 0 (8 * 0) ((4 : Int) * 8).toNat x = x := by
      show putN 0 0 32 x = x
      unfold putN
      simp
      omega
    rw [e1, ← hE0] at this
    exact this
  refine ⟨by simp only [go_sem, Nat.zero_add, Nat.add_zero, Nat.zero_mul, Nat.reduceBEq, Nat.reduceAdd, Nat.reduceMul, Nat.reduceSub, Nat.reduceLT, Nat.reduceLeDiff, Nat.reduceEqDiff, Nat.reduceDiv, Nat.reduceMod, Int.reduceAdd, Int.reduceSub, Int.reduceMul, Int.reduceDiv, Int.reduceMod, Int.reduceLT, Int.reduceLE, Int.reduceEq, Int.reduceToNat, Int.reducePow, Int.reduceNeg, ne_eq, not_false_eq_true, not_true_eq_false, decide_true, decide_false, Bool.not_true, Bool.not_false, forall_const, reduceCtorEq, implies_true, beq_self_eq_true, Int.cast_ofNat_Int, reduceIte, if_true, if_false, Bool.false_eq_true, Try.ntmps4], ?_⟩
  intro _ _
  simp only [go_sem, Nat.zero_add, Nat.add_zero, Nat.zero_mul, Nat.reduceBEq, Nat.reduceAdd, Nat.reduceMul, Nat.reduceSub, Nat.reduceLT, Nat.reduceLeDiff, Nat.reduceEqDiff, Nat.reduceDiv, Nat.reduceMod, Int.reduceAdd, Int.reduceSub, Int.reduceMul, Int.reduceDiv, Int.reduceMod, Int.reduceLT, Int.reduceLE, Int.reduceEq, Int.reduceToNat, Int.reducePow, Int.reduceNeg, ne_eq, not_false_eq_true, not_true_eq_false, decide_true, decide_false, Bool.not_true, Bool.not_false, forall_const, reduceCtorEq, implies_true, beq_self_eq_true, Int.cast_ofNat_Int, reduceIte, if_true, if_false, Bool.false_eq_true, bH, Try.ntmps4, fin_ret hE, Try.results4]
  refine CodeC.loop (γ := { i : Nat // i ≤ 4 }) (fun g => ⟨124, 4, [(36, .v (.int .u32 (g.1 : Int))), (7, .p 3 bb 0), (8, .v (.int .u32 ((4 * q + 0 : Nat) : Int))), (0, .v (.int .u32 (x : Int))), (4, .p 0 b 0)], bH bb br bw b l (xsq q (wbs x (fun t => l t + 703488) g.1)), []⟩) (fun g => 4 - g.1) ⟨0, by omega⟩ 600
    ⟨rfl, rfl, ⟨rfl, rfl, rfl, rfl, rfl, trivial⟩, by simp only [go_sem, Nat.zero_add, Nat.add_zero, Nat.zero_mul, Nat.reduceBEq, Nat.reduceAdd, Nat.reduceMul, Nat.reduceSub, Nat.reduceLT, Nat.reduceLeDiff, Nat.reduceEqDiff, Nat.reduceDiv, Nat.reduceMod, Int.reduceAdd, Int.reduceSub, Int.reduceMul, Int.reduceDiv, Int.reduceMod, Int.reduceLT, Int.reduceLE, Int.reduceEq, Int.reduceToNat, Int.reducePow, Int.reduceNeg, ne_eq, not_false_eq_true, not_true_eq_false, decide_true, decide_false, Bool.not_true, Bool.not_false, forall_const, reduceCtorEq, implies_true, beq_self_eq_true, Int.cast_ofNat_Int, reduceIte, if_true, if_false, Bool.false_eq_true, SubH, bH, wbs]⟩ ?_
  rintro ⟨i, hi⟩
  have hwl := wbs_lt x (fun t => l t + 703488) hx i hi
  have e2 : (((4 * q : Nat) : Int) + (i : Int)) % 4294967296 = ((4 * q + i : Nat) : Int) := by omega
  have e22 : (((4 * q : Nat) : Int) + 2) % 4294967296 = ((4 * q + 2 : Nat) : Int) := by omega
  have e3 : iand ((x : Int) / 2 ^ (8 * (i : Int) % 4294967296).toNat) 255 = (fieldN x (8 * i) 8 : Int) := by
    rw [show (8 * (i : Int) % 4294967296).toNat = 8 * i by omega]
    have := iand_mask ((x : Int) / 2 ^ (8 * i)) 8 (Int.ediv_nonneg (by omega) (Int.pow_nonneg (by omega)))
    rw [show ((2 : Int) ^ 8 - 1) = 255 from rfl] at this
    rw [this]
    unfold fieldN
    simp
  have nn : (0 : Int) ≤ (x : Int) / 2 ^ (8 * (i : Int) % 4294967296).toNat := Int.ediv_nonneg (by omega) (Int.pow_nonneg (by omega))
  have nx : (x : Int) / 2 ^ (8 * (i : Int) % 4294967296).toNat ≤ (x : Int) := Int.ediv_le_self _ (by omega)
  simp only [go_sem, Nat.zero_add, Nat.add_zero, Nat.zero_mul, Nat.reduceBEq, Nat.reduceAdd, Nat.reduceMul, Nat.reduceSub, Nat.reduceLT, Nat.reduceLeDiff, Nat.reduceEqDiff, Nat.reduceDiv, Nat.reduceMod, Int.reduceAdd, Int.reduceSub, Int.reduceMul, Int.reduceDiv, Int.reduceMod, Int.reduceLT, Int.reduceLE, Int.reduceEq, Int.reduceToNat, Int.reducePow, Int.reduceNeg, ne_eq, not_false_eq_true, not_true_eq_false, decide_true, decide_false, Bool.not_true, Bool.not_false, forall_const, reduceCtorEq, implies_true, beq_self_eq_true, Int.cast_ofNat_Int, reduceIte, if_true, if_false, Bool.false_eq_true, bH, Try.ntmps4, fin_ret hE, Try.results4, e2, e22]
  refine ⟨fun h1 => ?_, fun h1 => ?_⟩
  · have hi' : i < 4 := by omega
    refine CallC.pur (.u [.v (.int .u32 (fieldN x (8 * i) 8 : Int)), .v (.int .i64 0)]) 600 (fun w1 hm1 => ?_) ?_
    · have hm2 : Mem E.W0 [] (bH bb br bw b l (xsq q (wbs x (fun t => l t + 703488) i))) w1 := by rw [← hE0]; exact hm1
      have := bload (sz := 1) hq hwl hi' (wr1 _) w1 hm2
      rw [show ((1 : Int) * 8).toNat = 8 from rfl, wbs_byte x _ i i (Nat.le_refl _)] at this
      exact this
    simp only [go_sem, Nat.zero_add, Nat.add_zero, Nat.zero_mul, Nat.reduceBEq, Nat.reduceAdd, Nat.reduceMul, Nat.reduceSub, Nat.reduceLT, Nat.reduceLeDiff, Nat.reduceEqDiff, Nat.reduceDiv, Nat.reduceMod, Int.reduceAdd, Int.reduceSub, Int.reduceMul, Int.reduceDiv, Int.reduceMod, Int.reduceLT, Int.reduceLE, Int.reduceEq, Int.reduceToNat, Int.reducePow, Int.reduceNeg, ne_eq, not_false_eq_true, not_true_eq_false, decide_true, decide_false, Bool.not_true, Bool.not_false, forall_const, reduceCtorEq, implies_true, beq_self_eq_true, Int.cast_ofNat_Int, reduceIte, if_true, if_false, Bool.false_eq_true, Try.ntmps4, fin_ret hE, Try.results4, e2, e3, Int.toNat_natCast, Nat.mul_one, ld1_arr4 l i hi', or_abc (l i) (hl i)]
    have hli := hl i
    refine ⟨⟨by omega, by omega, by omega⟩, ⟨nn, by omega⟩, ⟨by omega, by omega⟩, by simp [arr4]; omega, ⟨by omega, by omega⟩, ⟨by omega, by omega⟩, ?_⟩
    refine CallC.mut (γ := Unit) (fun _ => .v (.int .i64 0)) (fun _ => bH bb br bw b l (xsq q (wbs x (fun t => l t + 703488) (i + 1)))) (fun _ => True) 600 (fun w1 hm1 => ?_) ?_
    · have hm2 : Mem E.W0 [] (bH bb br bw b l (xsq q (wbs x (fun t => l t + 703488) i))) w1 := by rw [← hE0]; exact hm1
      have := bstore (sz := 1) (v := l i + 703488) hq hwl hi' (by omega) (wr1 _) w1 hm2
      rw [← hE0] at this
      exact this
    refine ⟨by simp only [go_sem, Nat.zero_add, Nat.add_zero, Nat.zero_mul, Nat.reduceBEq, Nat.reduceAdd, Nat.reduceMul, Nat.reduceSub, Nat.reduceLT, Nat.reduceLeDiff, Nat.reduceEqDiff, Nat.reduceDiv, Nat.reduceMod, Int.reduceAdd, Int.reduceSub, Int.reduceMul, Int.reduceDiv, Int.reduceMod, Int.reduceLT, Int.reduceLE, Int.reduceEq, Int.reduceToNat, Int.reducePow, Int.reduceNeg, ne_eq, not_false_eq_true, not_true_eq_false, decide_true, decide_false, Bool.not_true, Bool.not_false, forall_const, reduceCtorEq, implies_true, beq_self_eq_true, Int.cast_ofNat_Int, reduceIte, if_true, if_false, Bool.false_eq_true, Try.ntmps4], ?_⟩
    intro _ _
    simp only [go_sem, Nat.zero_add, Nat.add_zero, Nat.zero_mul, Nat.reduceBEq, Nat.reduceAdd, Nat.reduceMul, Nat.reduceSub, Nat.reduceLT, Nat.reduceLeDiff, Nat.reduceEqDiff, Nat.reduceDiv, Nat.reduceMod, Int.reduceAdd, Int.reduceSub, Int.reduceMul, Int.reduceDiv, Int.reduceMod, Int.reduceLT, Int.reduceLE, Int.reduceEq, Int.reduceToNat, Int.reducePow, Int.reduceNeg, ne_eq, not_false_eq_true, not_true_eq_false, decide_true, decide_false, Bool.not_true, Bool.not_false, forall_const, reduceCtorEq, implies_true, beq_self_eq_true, Int.cast_ofNat_Int, reduceIte, if_true, if_false, Bool.false_eq_true, bH, Try.ntmps4, fin_ret hE, Try.results4]
    refine ⟨⟨i + 1, by omega⟩, ⟨rfl, rfl, ⟨?_, rfl, rfl, rfl, rfl, trivial⟩, by simp only [go_sem, Nat.zero_add, Nat.add_zero, Nat.zero_mul, Nat.reduceBEq, Nat.reduceAdd, Nat.reduceMul, Nat.reduceSub, Nat.reduceLT, Nat.reduceLeDiff, Nat.reduceEqDiff, Nat.reduceDiv, Nat.reduceMod, Int.reduceAdd, Int.reduceSub, Int.reduceMul, Int.reduceDiv, Int.reduceMod, Int.reduceLT, Int.reduceLE, Int.reduceEq, Int.reduceToNat, Int.reducePow, Int.reduceNeg, ne_eq, not_false_eq_true, not_true_eq_false, decide_true, decide_false, Bool.not_true, Bool.not_false, forall_const, reduceCtorEq, implies_true, beq_self_eq_true, Int.cast_ofNat_Int, reduceIte, if_true, if_false, Bool.false_eq_true, SubH]⟩, by simp only; omega⟩
    simp only [go_sem, Nat.zero_add, Nat.add_zero, Nat.zero_mul, Nat.reduceBEq, Nat.reduceAdd, Nat.reduceMul, Nat.reduceSub, Nat.reduceLT, Nat.reduceLeDiff, Nat.reduceEqDiff, Nat.reduceDiv, Nat.reduceMod, Int.reduceAdd, Int.reduceSub, Int.reduceMul, Int.reduceDiv, Int.reduceMod, Int.reduceLT, Int.reduceLE, Int.reduceEq, Int.reduceToNat, Int.reducePow, Int.reduceNeg, ne_eq, not_false_eq_true, not_true_eq_false, decide_true, decide_false, Bool.not_true, Bool.not_false, forall_const, reduceCtorEq, implies_true, beq_self_eq_true, Int.cast_ofNat_Int, reduceIte, if_true, if_false, Bool.false_eq_true]
    congr 2
    omega
  · have hi4 : i = 4 := by omega
    subst hi4
    have hm2 : ∀ w1, Mem E.W0 E.mods (bH bb br bw b l (xsq q (wbs x (fun t => l t + 703488) 4))) w1 → Mem E.W0 [] (bH bb br bw b l (xsq q (wbs x (fun t => l t + 703488) 4))) w1 := fun w1 h => by rw [hE0] at h; exact h
    have hf := wbs_four x (fun t => l t + 703488) hx
    generalize wbs x (fun t => l t + 703488) 4 = W4 at *
    refine CallC.pur (.u [.v (.int .u32 (W4 : Int)), .v (.int .i64 0)]) 600 (fun w1 hm1 => ?_) ?_
    · have := bload (sz := 4) hq hwl (show 0 < 4 by omega) (wr4 q) w1 (hm2 w1 hm1)
      rw [show fieldN W4 (8 * 0) ((4 : Int) * 8).toNat = W4 by unfold fieldN; simp; omega] at this
      exact this
    simp only [go_sem, Nat.zero_add, Nat.add_zero, Nat.zero_mul, Nat.reduceBEq, Nat.reduceAdd, Nat.reduceMul, Nat.reduceSub, Nat.reduceLT, Nat.reduceLeDiff, Nat.reduceEqDiff, Nat.reduceDiv, Nat.reduceMod, Int.reduceAdd, Int.reduceSub, Int.reduceMul, Int.reduceDiv, Int.reduceMod, Int.reduceLT, Int.reduceLE, Int.reduceEq, Int.reduceToNat, Int.reducePow, Int.reduceNeg, ne_eq, not_false_eq_true, not_true_eq_false, decide_true, decide_false, Bool.not_true, Bool.not_false, forall_const, reduceCtorEq, implies_true, beq_self_eq_true, Int.cast_ofNat_Int, reduceIte, if_true, if_false, Bool.false_eq_true, Try.ntmps4, fin_ret hE, Try.results4, e22]
    refine CallC.pur (.u [.v (.int .u32 ((W4 % 65536 : Nat) : Int)), .v (.int .i64 0)]) 600 (fun w1 hm1 => ?_) ?_
    · have := bload (sz := 2) hq hwl (show 0 < 4 by omega) (wr2 q 0 (Or.inl rfl)) w1 (hm2 w1 hm1)
      rw [show fieldN W4 (8 * 0) ((2 : Int) * 8).toNat = W4 % 65536 by unfold fieldN; simp] at this
      exact this
    simp only [go_sem, Nat.zero_add, Nat.add_zero, Nat.zero_mul, Nat.reduceBEq, Nat.reduceAdd, Nat.reduceMul, Nat.reduceSub, Nat.reduceLT, Nat.reduceLeDiff, Nat.reduceEqDiff, Nat.reduceDiv, Nat.reduceMod, Int.reduceAdd, Int.reduceSub, Int.reduceMul, Int.reduceDiv, Int.reduceMod, Int.reduceLT, Int.reduceLE, Int.reduceEq, Int.reduceToNat, Int.reducePow, Int.reduceNeg, ne_eq, not_false_eq_true, not_true_eq_false, decide_true, decide_false, Bool.not_true, Bool.not_false, forall_const, reduceCtorEq, implies_true, beq_self_eq_true, Int.cast_ofNat_Int, reduceIte, if_true, if_false, Bool.false_eq_true, Try.ntmps4, fin_ret hE, Try.results4, e22]
    refine CallC.pur (.u [.v (.int .u32 ((W4 / 65536 : Nat) : Int)), .v (.int .i64 0)]) 600 (fun w1 hm1 => ?_) ?_
    · have := bload (sz := 2) hq hwl (show 2 < 4 by omega) (wr2 q 2 (Or.inr rfl)) w1 (hm2 w1 hm1)
      rw [show fieldN W4 (8 * 2) ((2 : Int) * 8).toNat = W4 / 65536 by unfold fieldN; simp; omega] at this
      exact this
    simp only [go_sem, Nat.zero_add, Nat.add_zero, Nat.zero_mul, Nat.reduceBEq, Nat.reduceAdd, Nat.reduceMul, Nat.reduceSub, Nat.reduceLT, Nat.reduceLeDiff, Nat.reduceEqDiff, Nat.reduceDiv, Nat.reduceMod, Int.reduceAdd, Int.reduceSub, Int.reduceMul, Int.reduceDiv, Int.reduceMod, Int.reduceLT, Int.reduceLE, Int.reduceEq, Int.reduceToNat, Int.reducePow, Int.reduceNeg, ne_eq, not_false_eq_true, not_true_eq_false, decide_true, decide_false, Bool.not_true, Bool.not_false, forall_const, reduceCtorEq, implies_true, beq_self_eq_true, Int.cast_ofNat_Int, reduceIte, if_true, if_false, Bool.false_eq_true, Try.ntmps4, fin_ret hE, Try.results4, e22, arr4]
    have b0 := hl 0
    have b1 := hl 1
    have b2 := hl 2
    have b3 := hl 3
    have o1 : ior (l 0 : Int) ((l 1 : Int) * 256 % 4294967296) = ((l 0 + l 1 * 2 ^ 8 : Nat) : Int) := by
      rw [show (l 1 : Int) * 256 % 4294967296 = ((l 1 * 2 ^ 8 : Nat) : Int) by omega]
      exact or_lo _ _ 8 (by omega)
    have o2 : ior ((l 0 + l 1 * 2 ^ 8 : Nat) : Int) ((l 2 : Int) * 65536 % 4294967296) = ((l 0 + l 1 * 2 ^ 8 + l 2 * 2 ^ 16 : Nat) : Int) := by
      rw [show (l 2 : Int) * 65536 % 4294967296 = ((l 2 * 2 ^ 16 : Nat) : Int) by omega]
      exact or_lo _ _ 16 (by omega)
    have o3 : ior ((l 0 + l 1 * 2 ^ 8 + l 2 * 2 ^ 16 : Nat) : Int) ((l 3 : Int) * 16777216 % 4294967296) = ((l 0 + l 1 * 2 ^ 8 + l 2 * 2 ^ 16 + l 3 * 2 ^ 24 : Nat) : Int) := by
      rw [show (l 3 : Int) * 16777216 % 4294967296 = ((l 3 * 2 ^ 24 : Nat) : Int) by omega]
      exact or_lo _ _ 24 (by omega)
    rw [o1, o2, o3]
    have hW : W4 = l 0 + l 1 * 2 ^ 8 + l 2 * 2 ^ 16 + l 3 * 2 ^ 24 := by omega
    rw [← hW]
    have o4 : iand (W4 : Int) 65535 = (W4 : Int) % 65536 := iand_mask (W4 : Int) 16 (by omega)
    rw [o4]
    have e5 : ((W4 / 65536 : Nat) : Int) = (W4 : Int) / 65536 := by omega
    have bel : ∀ w', Mem w [] (bH bb br bw b l (xsq q W4)) w' → Below w.heap.size w w' := fun w' hm' => bel1 hm'
    repeat' (first | refine And.intro ?_ ?_ | intro)
    all_goals first | omega | exact bel1 (by assumption) | rfl | simp [den, e5]

end Go.Proofs
