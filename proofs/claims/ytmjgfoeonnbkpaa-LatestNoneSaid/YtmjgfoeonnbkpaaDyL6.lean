/- Blocks: found, Words. -/
import Derived.Test.YtmjgfoeonnbkpaaDyL5
set_option linter.unusedSimpArgs false
set_option linter.unusedVariables false
set_option linter.unusedSectionVars false
set_option maxRecDepth 100000
set_option maxHeartbeats 1000000
namespace Go.Proofs
open Go.Dx Go.RowKit

/-- A block. -/
structure Bk where
  hd : Int
  ct : Int
  ks : List Int
  ps : List Pg
  hk : ks.length = 8
  hp : ps.length = 8

def Bk.f (b : Bk) : List SV := .v (.int .i64 b.hd) :: .v (.int .u32 b.ct) :: (nums .i64 b.ks ++ rows Pg.f b.ps)
theorem Bk.len (b : Bk) : b.f.length = 66 := by simp [Bk.f, rows_length Pg.len, b.hk, b.hp]
theorem Bk.one (b : Bk) : allOne b.f = true := by
  simp only [Bk.f]
  show allOne (nums .i64 b.ks ++ rows Pg.f b.ps) = true
  rw [allOne_append, allOne_nums, allOne_rows Pg.one]; rfl

def Bk.setK (b : Bk) (i : Nat) (k : Int) : Bk := ⟨b.hd, b.ct, b.ks.set i k, b.ps, by simp [b.hk], b.hp⟩
def Bk.setP (b : Bk) (i : Nat) (p : Pg) : Bk := ⟨b.hd, b.ct, b.ks, b.ps.set i p, b.hk, by simp [b.hp]⟩

theorem stN_cons (a : SV) (l : List SV) (o : Nat) (xs : List SV) (h : o + xs.length ≤ l.length) : stN (a :: l) (o + 1) xs = a :: stN l o xs := by
  rw [stN_eq _ _ _ (by simp; omega), stN_eq _ _ _ h]
  simp only [List.take_succ_cons, List.cons_append]
  congr 2
  rw [show o + 1 + xs.length = (o + xs.length) + 1 by omega, List.drop_succ_cons]

theorem stN_left (l r : List SV) (o : Nat) (xs : List SV) (h : o + xs.length ≤ l.length) : stN (l ++ r) o xs = stN l o xs ++ r := by
  rw [stN_eq _ _ _ (by simp; omega), stN_eq _ _ _ h, List.take_append_of_le_length (by omega), List.drop_append_of_le_length (by omega)]
  simp

theorem stN_right (l r : List SV) (o : Nat) (xs : List SV) (h : o + xs.length ≤ r.length) : stN (l ++ r) (l.length + o) xs = l ++ stN r o xs := by
  rw [stN_eq _ _ _ (by simp; omega), stN_eq _ _ _ h, List.take_append, List.drop_append]
  rw [List.take_of_length_le (by omega), List.drop_of_length_le (by omega)]
  simp only [Nat.add_sub_cancel_left, List.nil_append, List.append_assoc]
  rw [show l.length + o + xs.length - l.length = o + xs.length by omega]

theorem Bk.stK (b : Bk) (i : Nat) (hi : i < 8) (k : Int) : stN b.f (2 + i) [.v (.int .i64 k)] = (b.setK i k).f := by
  have h1 := b.hk
  have h2 := b.hp
  simp only [Bk.f, Bk.setK]
  rw [show 2 + i = (i + 1) + 1 by omega, stN_cons _ _ _ _ (by simp [rows_length Pg.len]; omega), stN_cons _ _ _ _ (by simp [rows_length Pg.len]; omega), stN_left _ _ _ _ (by simp; omega)]
  have := stN_nums .i64 b.ks [] i k (by omega)
  rw [List.append_nil, List.append_nil] at this
  rw [this]

theorem Bk.stP (b : Bk) (i : Nat) (hi : i < 8) (p : Pg) : stN b.f (10 + i * 7) p.f = (b.setP i p).f := by
  have h1 := b.hk
  have h2 := b.hp
  simp only [Bk.f, Bk.setP]
  rw [show 10 + i * 7 = ((8 + i * 7) + 1) + 1 by omega, stN_cons _ _ _ _ (by simp [rows_length Pg.len, Pg.len]; omega), stN_cons _ _ _ _ (by simp [rows_length Pg.len, Pg.len]; omega)]
  have := stN_right (nums .i64 b.ks) (rows Pg.f b.ps) (i * 7) p.f (by rw [rows_length Pg.len, Pg.len]; omega)
  rw [nums_length, h1] at this
  rw [this]
  have := rows_stN Pg.len b.ps [] i (by omega) p
  rw [List.append_nil, List.append_nil] at this
  rw [this]

def Bk.zero : Bk := ⟨0, 0, List.replicate 8 0, List.replicate 8 Pg.zero, rfl, rfl⟩

/-- The words of a page. -/
def pw (ws : List Int) (i : Nat) : List Int := (ws.drop (4 + i * 7)).take 7
/-- What is found in the words of a block, page by page. -/
def foundN (ws : List Int) : Nat → Bk
  | 0 => ⟨(countS (ws.take 4)).2, (countS (ws.take 4)).1, List.replicate 8 0, List.replicate 8 Pg.zero, rfl, rfl⟩
  | n + 1 => if (countS (ws.take 4)).2 = 1 then ((foundN ws n).setP n (readS (pw ws n)).1).setK n (readS (pw ws n)).2 else (foundN ws n).setK n 2

theorem Bk.ld0 (b : Bk) : ld1 b.f 0 = .v (.int .i64 b.hd) := rfl
theorem Bk.setKPK (b : Bk) (i : Nat) (x k : Int) (p : Pg) : ((b.setK i x).setP i p).setK i k = (b.setP i p).setK i k := by simp [Bk.setK, Bk.setP]

theorem foundN_hd (ws : List Int) (n : Nat) : (foundN ws n).hd = (countS (ws.take 4)).2 := by
  induction n with
  | zero => rfl
  | succ n ih => rw [foundN]; split <;> simpa [Bk.setK, Bk.setP] using ih

theorem pages_C (w : World) (ba oa n ca : Nat) : Calls Try.prog 40 #[den (.s 101 ba oa n ca)] w fun e w' => ∃ b, e = .returned (den (.f 49 [.p 102 b 0])) ∧ w.heap.size ≤ b ∧ w'.heap[b]? = some (denO (.c [.s 101 ba oa n ca] 62)) ∧ Bel w.heap.size w w' := by
  have hm : Mem w [] [] w := Mem.reads (by simp) (by simp)
  refine calls_of_ex [.s 101 ba oa n ca] _ [] 3 300 Try.func40 rfl hm (by simp [Try.ntmps40]) fun E hE => ?_
  simp (maxSteps := 2000000) only [go_sem, ↓dxc_true, ↓dxc_false, ↓bxc_true, ↓bxc_false, Nat.zero_add, Nat.add_zero, Nat.zero_mul, Nat.reduceBEq, Nat.reduceAdd, Nat.reduceMul, Nat.reduceSub, Nat.reduceLT, Nat.reduceLeDiff, Nat.reduceEqDiff, Nat.reduceDiv, Nat.reduceMod, Int.reduceAdd, Int.reduceSub, Int.reduceMul, Int.reduceDiv, Int.reduceMod, Int.reduceLT, Int.reduceLE, Int.reduceEq, Int.reduceToNat, Int.reducePow, Int.reduceNeg, ne_eq, not_false_eq_true, not_true_eq_false, decide_true, decide_false, Bool.not_true, Bool.not_false, forall_const, reduceCtorEq, implies_true, beq_self_eq_true, Int.cast_ofNat_Int, reduceIte, if_true, if_false, Bool.false_eq_true, Try.ntmps40, fin_ret hE, Try.results40]
  refine fun b w' hm' => ⟨b, rfl, ?_, hm'.at (t := 3) rfl, hm'.below⟩
  simpa using hm'.wr _ List.mem_cons_self rfl

theorem found_C (w : World) (ba oa ca : Nat) (xs : List Int) (la : List SV) (Ta : Nat) (za : Nat × Nat) (hn : xs.length = 64) (hu : U32 xs) (hca : 64 ≤ ca ∧ ca ≤ 9223372036854775807)
    (h : w.heap[ba]? = some (denO (.z la Ta za))) (hs : Seg la oa .u32 xs) :
    Calls Try.prog 28 #[den (.s 101 ba oa 64 ca)] w fun e w' => e = .returned (den (.g (foundN xs 8).f)) ∧ Bel w.heap.size w w' := by
  have hm : Mem w [] [⟨101, ba, false, .z la Ta za⟩] w := Mem.reads (by simpa using h) (by simp)
  refine calls_of_ex_m [.s 101 ba oa 64 ca] _ [] 3 300 Try.func28 rfl hm (by simp [Try.ntmps28]) fun E hE => ?_
  have hr : E.r = none := by subst hE; rfl
  have hca0 : ¬ ca = 4 := by omega
  have hl4 : (xs.take 4).length = 4 := by simp; omega
  obtain ⟨cnt, hcnt⟩ : ∃ c, countS (xs.take 4) = c := ⟨_, rfl⟩
  have hs4 : Seg la oa .u32 (xs.take 4) := fun i hi => by
    rw [hl4] at hi
    have := hs i (by omega)
    rw [this]
    simp [List.getD, List.getElem?_take, hi]
  have hu4 : U32 (xs.take 4) := fun i hi => by
    rw [hl4] at hi
    have := hu i (by omega)
    simpa [List.getD, List.getElem?_take, hi] using this
  simp (maxSteps := 2000000) only [go_sem, ↓dxc_true, ↓dxc_false, ↓bxc_true, ↓bxc_false, Nat.zero_add, Nat.add_zero, Nat.zero_mul, Nat.reduceBEq, Nat.reduceAdd, Nat.reduceMul, Nat.reduceSub, Nat.reduceLT, Nat.reduceLeDiff, Nat.reduceEqDiff, Nat.reduceDiv, Nat.reduceMod, Int.reduceAdd, Int.reduceSub, Int.reduceMul, Int.reduceDiv, Int.reduceMod, Int.reduceLT, Int.reduceLE, Int.reduceEq, Int.reduceToNat, Int.reducePow, Int.reduceNeg, ne_eq, not_false_eq_true, not_true_eq_false, decide_true, decide_false, Bool.not_true, Bool.not_false, forall_const, reduceCtorEq, implies_true, beq_self_eq_true, Int.cast_ofNat_Int, reduceIte, if_true, if_false, Bool.false_eq_true, Try.ntmps28, Try.results28, ite_self, Nat.sub_zero]
  refine fun b => ⟨by omega, ?_⟩
  refine CallC.pur (.u [.v (.int .u32 cnt.1), .v (.int .i64 cnt.2)]) 300 (fun w1 hm1 => ?_) ?_
  · have := count_C w1 ba oa ca (xs.take 4) la Ta za hl4 hu4 (hm1.at (t := 101) rfl) hs4
    rw [hcnt] at this
    exact this
  simp (maxSteps := 2000000) only [go_sem, ↓dxc_true, ↓dxc_false, ↓bxc_true, ↓bxc_false, Nat.zero_add, Nat.add_zero, Nat.zero_mul, Nat.reduceBEq, Nat.reduceAdd, Nat.reduceMul, Nat.reduceSub, Nat.reduceLT, Nat.reduceLeDiff, Nat.reduceEqDiff, Nat.reduceDiv, Nat.reduceMod, Int.reduceAdd, Int.reduceSub, Int.reduceMul, Int.reduceDiv, Int.reduceMod, Int.reduceLT, Int.reduceLE, Int.reduceEq, Int.reduceToNat, Int.reducePow, Int.reduceNeg, ne_eq, not_false_eq_true, not_true_eq_false, decide_true, decide_false, Bool.not_true, Bool.not_false, forall_const, reduceCtorEq, implies_true, beq_self_eq_true, Int.cast_ofNat_Int, reduceIte, if_true, if_false, Bool.false_eq_true, Try.ntmps28, Try.results28]
  refine CallC.new (γ := Unit) (fun _ b => .f 49 [.p 4 b 0]) (fun _ => .c [.s 101 ba oa 64 ca] 62) 300 (fun w1 hm1 => ?_) ?_
  · refine (pages_C w1 ba oa 64 ca).mono ?_
    rintro e w' ⟨b, rfl, h1, h2, h3⟩
    exact ⟨(), b, rfl, h1, h2, h3⟩
  refine ⟨by simp (maxSteps := 2000000) only [go_sem, ↓dxc_true, ↓dxc_false, ↓bxc_true, ↓bxc_false, Nat.zero_add, Nat.add_zero, Nat.zero_mul, Nat.reduceBEq, Nat.reduceAdd, Nat.reduceMul, Nat.reduceSub, Nat.reduceLT, Nat.reduceLeDiff, Nat.reduceEqDiff, Nat.reduceDiv, Nat.reduceMod, Int.reduceAdd, Int.reduceSub, Int.reduceMul, Int.reduceDiv, Int.reduceMod, Int.reduceLT, Int.reduceLE, Int.reduceEq, Int.reduceToNat, Int.reducePow, Int.reduceNeg, ne_eq, not_false_eq_true, not_true_eq_false, decide_true, decide_false, Bool.not_true, Bool.not_false, forall_const, reduceCtorEq, implies_true, beq_self_eq_true, Int.cast_ofNat_Int, reduceIte, if_true, if_false, Bool.false_eq_true, Try.ntmps28], ?_⟩
  rintro _ b2
  simp (maxSteps := 2000000) only [go_sem, ↓dxc_true, ↓dxc_false, ↓bxc_true, ↓bxc_false, Nat.zero_add, Nat.add_zero, Nat.zero_mul, Nat.reduceBEq, Nat.reduceAdd, Nat.reduceMul, Nat.reduceSub, Nat.reduceLT, Nat.reduceLeDiff, Nat.reduceEqDiff, Nat.reduceDiv, Nat.reduceMod, Int.reduceAdd, Int.reduceSub, Int.reduceMul, Int.reduceDiv, Int.reduceMod, Int.reduceLT, Int.reduceLE, Int.reduceEq, Int.reduceToNat, Int.reducePow, Int.reduceNeg, ne_eq, not_false_eq_true, not_true_eq_false, decide_true, decide_false, Bool.not_true, Bool.not_false, forall_const, reduceCtorEq, implies_true, beq_self_eq_true, Int.cast_ofNat_Int, reduceIte, if_true, if_false, Bool.false_eq_true, Try.ntmps28, Try.results28]
  have h00 : (foundN xs 0).f = SV.v (.int .i64 cnt.2) :: .v (.int .u32 cnt.1) :: (nums .i64 (List.replicate 8 0) ++ rows Pg.f (List.replicate 8 Pg.zero)) := by rw [← hcnt]; rfl
  refine ex_weaken ⟨35, 5, [(14, .f 49 [.p 4 b2 0]), (2, .p 3 b 0)], [⟨4, b2, true, .c [.s 101 ba oa 64 ca] 62⟩, ⟨3, b, true, .c (foundN xs 0).f 55⟩, ⟨101, ba, false, .z la Ta za⟩], []⟩ ⟨rfl, rfl, ⟨rfl, rfl, trivial⟩, by rw [h00]; exact SubH.refl _⟩ ?_
  refine CodeC.rng hr 10 11 12 300 (h := 49) (caps := [.p 4 b2 0]) (n := 8) rfl (pages_I b2 ba oa ca true hca.1) (by kernel_rfl) (fun i => rfl) (fun p hp => by rcases List.mem_cons.1 hp with rfl | hp; exact (by decide : 15 < 35); rcases List.mem_cons.1 hp with rfl | hp; exact (by decide : 16 < 35); cases hp) (γ := fun _ => Unit) (δ := Empty)
    (fun i _ => [⟨3, b, true, .c (foundN xs i).f 55⟩, ⟨101, ba, false, .z la Ta za⟩]) (fun c => nomatch c) (fun c => nomatch c) () (fun w hm => hm.tags rfl) ?_ ?_ ?_
  · intro D l L own i hi _ E1 hE1
    have hf1 := finR hE1
    have hf0 := foundN_hd xs i
    rw [hcnt] at hf0
    have s1 := (foundN xs i).stK i hi 2
    simp (maxSteps := 2000000) only [go_sem, ↓dxc_true, ↓dxc_false, ↓bxc_true, ↓bxc_false, Nat.zero_add, Nat.add_zero, Nat.zero_mul, Nat.reduceBEq, Nat.reduceAdd, Nat.reduceMul, Nat.reduceSub, Nat.reduceLT, Nat.reduceLeDiff, Nat.reduceEqDiff, Nat.reduceDiv, Nat.reduceMod, Int.reduceAdd, Int.reduceSub, Int.reduceMul, Int.reduceDiv, Int.reduceMod, Int.reduceLT, Int.reduceLE, Int.reduceEq, Int.reduceToNat, Int.reducePow, Int.reduceNeg, ne_eq, not_false_eq_true, not_true_eq_false, decide_true, decide_false, Bool.not_true, Bool.not_false, forall_const, reduceCtorEq, implies_true, beq_self_eq_true, Int.cast_ofNat_Int, reduceIte, if_true, if_false, Bool.false_eq_true, psl, hf1, Int.toNat_natCast, Nat.mul_one, s1, Bk.len, Bk.ld0]
    intro E2 hE2
    have hf2 := finR hE2
    have hd2 : ((foundN xs i).setK i 2).hd = cnt.2 := hf0
    by_cases hc : cnt.2 = 1
    · have e1 : foundN xs (i + 1) = ((foundN xs i).setP i (readS (pw xs i)).1).setK i (readS (pw xs i)).2 := by rw [foundN, hcnt, if_pos hc]
      have s2 := ((foundN xs i).setK i 2).stP i hi (readS (pw xs i)).1
      have s3 := (((foundN xs i).setK i 2).setP i (readS (pw xs i)).1).stK i hi (readS (pw xs i)).2
      rw [Bk.setKPK, ← e1] at s3
      have hpl : (pw xs i).length = 7 := by simp [pw]; omega
      have hpg : ∀ t, t < 7 → (pw xs i).getD t 0 = xs.getD (4 + i * 7 + t) 0 := fun t ht => by
        simp [pw, List.getD, List.getElem?_take, ht, Nat.add_assoc]
      have hps : Seg la (oa + (4 + i * 7)) .u32 (pw xs i) := fun t ht => by
        rw [hpl] at ht
        have := hs (4 + i * 7 + t) (by omega)
        rw [hpg t ht, Nat.add_assoc]
        exact this
      have hpu : U32 (pw xs i) := fun t ht => by
        rw [hpl] at ht
        rw [hpg t ht]
        exact hu _ (by omega)
      have hlen := Pg.len (readS (pw xs i)).1
      have hone := Pg.one (readS (pw xs i)).1
      simp (maxSteps := 2000000) only [go_sem, ↓dxc_true, ↓dxc_false, ↓bxc_true, ↓bxc_false, Nat.zero_add, Nat.add_zero, Nat.zero_mul, Nat.reduceBEq, Nat.reduceAdd, Nat.reduceMul, Nat.reduceSub, Nat.reduceLT, Nat.reduceLeDiff, Nat.reduceEqDiff, Nat.reduceDiv, Nat.reduceMod, Int.reduceAdd, Int.reduceSub, Int.reduceMul, Int.reduceDiv, Int.reduceMod, Int.reduceLT, Int.reduceLE, Int.reduceEq, Int.reduceToNat, Int.reducePow, Int.reduceNeg, ne_eq, not_false_eq_true, not_true_eq_false, decide_true, decide_false, Bool.not_true, Bool.not_false, forall_const, reduceCtorEq, implies_true, beq_self_eq_true, Int.cast_ofNat_Int, reduceIte, if_true, if_false, Bool.false_eq_true, hd2, hc, false_implies, and_true]
      refine ⟨by omega, by omega, ?_⟩
      refine CallC.pur (.u [.g (readS (pw xs i)).1.f, .v (.int .i64 (readS (pw xs i)).2)]) 300 (fun w1 hm1 => ?_) ?_
      · have h1 := hm1.at (t := 101) (e := ⟨101, ba, false, .z la Ta za⟩) rfl
        exact read_C w1 ba (oa + (4 + i * 7)) (ca - (4 + i * 7)) (pw xs i) la Ta za hpl hpu (by omega) h1 hps
      simp (maxSteps := 2000000) only [go_sem, ↓dxc_true, ↓dxc_false, ↓bxc_true, ↓bxc_false, Nat.zero_add, Nat.add_zero, Nat.zero_mul, Nat.reduceBEq, Nat.reduceAdd, Nat.reduceMul, Nat.reduceSub, Nat.reduceLT, Nat.reduceLeDiff, Nat.reduceEqDiff, Nat.reduceDiv, Nat.reduceMod, Int.reduceAdd, Int.reduceSub, Int.reduceMul, Int.reduceDiv, Int.reduceMod, Int.reduceLT, Int.reduceLE, Int.reduceEq, Int.reduceToNat, Int.reducePow, Int.reduceNeg, ne_eq, not_false_eq_true, not_true_eq_false, decide_true, decide_false, Bool.not_true, Bool.not_false, forall_const, reduceCtorEq, implies_true, beq_self_eq_true, Int.cast_ofNat_Int, reduceIte, if_true, if_false, Bool.false_eq_true, hf2, Int.toNat_natCast, Nat.mul_one, s2, s3, Bk.len, hlen, hone]
      refine ⟨⟨by omega, by omega⟩, by omega, ⟨by omega, by omega⟩, by omega, ?_⟩
      exact ⟨(), SubH.refl _⟩
    · have e1 : foundN xs (i + 1) = (foundN xs i).setK i 2 := by rw [foundN, hcnt, if_neg hc]
      simp (maxSteps := 2000000) only [go_sem, ↓dxc_true, ↓dxc_false, ↓bxc_true, ↓bxc_false, Nat.zero_add, Nat.add_zero, Nat.zero_mul, Nat.reduceBEq, Nat.reduceAdd, Nat.reduceMul, Nat.reduceSub, Nat.reduceLT, Nat.reduceLeDiff, Nat.reduceEqDiff, Nat.reduceDiv, Nat.reduceMod, Int.reduceAdd, Int.reduceSub, Int.reduceMul, Int.reduceDiv, Int.reduceMod, Int.reduceLT, Int.reduceLE, Int.reduceEq, Int.reduceToNat, Int.reducePow, Int.reduceNeg, ne_eq, not_false_eq_true, not_true_eq_false, decide_true, decide_false, Bool.not_true, Bool.not_false, forall_const, reduceCtorEq, implies_true, beq_self_eq_true, Int.cast_ofNat_Int, reduceIte, if_true, if_false, Bool.false_eq_true, hd2, hc, hf2, false_implies, true_and]
      refine ⟨by omega, by omega, (), ?_⟩
      rw [e1]
      exact SubH.refl _
  · intro D _
    simp (maxSteps := 2000000) only [go_sem, ↓dxc_true, ↓dxc_false, ↓bxc_true, ↓bxc_false, Nat.zero_add, Nat.add_zero, Nat.zero_mul, Nat.reduceBEq, Nat.reduceAdd, Nat.reduceMul, Nat.reduceSub, Nat.reduceLT, Nat.reduceLeDiff, Nat.reduceEqDiff, Nat.reduceDiv, Nat.reduceMod, Int.reduceAdd, Int.reduceSub, Int.reduceMul, Int.reduceDiv, Int.reduceMod, Int.reduceLT, Int.reduceLE, Int.reduceEq, Int.reduceToNat, Int.reducePow, Int.reduceNeg, ne_eq, not_false_eq_true, not_true_eq_false, decide_true, decide_false, Bool.not_true, Bool.not_false, forall_const, reduceCtorEq, implies_true, beq_self_eq_true, Int.cast_ofNat_Int, reduceIte, if_true, if_false, Bool.false_eq_true, finM_ret hE, Try.results28, Bk.len, Bk.one]
    refine ⟨11, D, rfl, rfl, ?_⟩
    simp (maxSteps := 2000000) only [go_sem, ↓dxc_true, ↓dxc_false, ↓bxc_true, ↓bxc_false, Nat.zero_add, Nat.add_zero, Nat.zero_mul, Nat.reduceBEq, Nat.reduceAdd, Nat.reduceMul, Nat.reduceSub, Nat.reduceLT, Nat.reduceLeDiff, Nat.reduceEqDiff, Nat.reduceDiv, Nat.reduceMod, Int.reduceAdd, Int.reduceSub, Int.reduceMul, Int.reduceDiv, Int.reduceMod, Int.reduceLT, Int.reduceLE, Int.reduceEq, Int.reduceToNat, Int.reducePow, Int.reduceNeg, ne_eq, not_false_eq_true, not_true_eq_false, decide_true, decide_false, Bool.not_true, Bool.not_false, forall_const, reduceCtorEq, implies_true, beq_self_eq_true, Int.cast_ofNat_Int, reduceIte, if_true, if_false, Bool.false_eq_true]
    exact ⟨Bk.len _, fun w' hm' => hm'.below⟩
  · intro D c
    cases c

end Go.Proofs
