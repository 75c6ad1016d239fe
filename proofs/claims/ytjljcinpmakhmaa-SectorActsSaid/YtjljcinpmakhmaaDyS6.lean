/- The document's device: its commands. -/
import Derived.Test.YtjljcinpmakhmaaDyS5
set_option linter.unusedSimpArgs false
set_option linter.unusedVariables false
set_option linter.unusedSectionVars false
set_option maxRecDepth 100000
set_option maxHeartbeats 4000000
namespace Go.Proofs
open Go.Dx Go.RowKit

/-- The document's device, as it stands in cells. -/
def refL (d : DV) (sl : SV) : List SV :=
  .v (.int .u32 d.fi) :: .v (.int .u32 d.ma) :: .v (.int .u32 d.er) :: .v (.int .u32 (if d.li then 1 else 0)) :: (nums .u32 d.buf ++ [.v (.int .i64 (d.pl : Int)), sl])

/-- Its sectors. -/
def DiskR (w : World) (n : Nat) (disk : List Int) (b c : Nat) : Prop := (n ≤ c ∧ c ≤ 9223372036854775807) ∧ ∃ j T fz, w.heap[b]? = some (denO (.z (nums .u32 disk ++ j) T fz))

abbrev z34 : List SV := [.v (.int .u32 0), .v (.int .u32 0), .v (.int .u32 0), .v (.int .u32 0), .v (.int .u32 0), .v (.int .u32 0), .v (.int .u32 0), .v (.int .u32 0), .v (.int .u32 0), .v (.int .u32 0), .v (.int .u32 0), .v (.int .u32 0), .v (.int .u32 0), .v (.int .u32 0), .v (.int .u32 0), .v (.int .u32 0), .v (.int .u32 0), .v (.int .u32 0), .v (.int .u32 0), .v (.int .u32 0), .v (.int .i64 0), .v (.slice none 0 0)]

theorem ld1_end2 (k : IntKind) (l : List Int) (y z : SV) (r : List SV) (n : Nat) (h : l.length = n) : ld1 (nums k l ++ y :: z :: r) (n + 1) = z := by
  subst h
  rw [ld1_eq, List.getElem?_append_right (by simp)]
  simp

theorem stN_end2 (k : IntKind) (l : List Int) (y z u : SV) (r : List SV) (n : Nat) (h : l.length = n) : stN (nums k l ++ y :: z :: r) (n + 1) [u] = nums k l ++ y :: u :: r := by
  subst h
  rw [stN_eq _ _ _ (by simp; omega)]
  rw [List.take_append, List.drop_append]
  have e1 : List.take (l.length + 1) (nums k l) = nums k l := List.take_of_length_le (by simp)
  have e2 : List.drop (l.length + 1 + [u].length) (nums k l) = [] := List.drop_of_length_le (by simp; omega)
  have e3 : l.length + 1 + [u].length - (nums k l).length = 2 := by simp; omega
  have e4 : l.length + 1 - (nums k l).length = 1 := by simp
  rw [e1, e2, e3, e4]
  simp

theorem oneS_er (v : Int) (k i : Nat) (d : DV) (e : Int) : oneS v k i { d with er := e } = { oneS v k i d with er := e } := by
  unfold oneS
  split
  · rfl
  · split <;> rfl

theorem itS_er (v : Int) (f : Nat) (d : DV) (e : Int) : ∀ i, itS v f i { d with er := e } = { itS v f i d with er := e }
  | 0 => rfl
  | i + 1 => by
    simp only [itS]
    rw [itS_er v f d e i, oneS_er]

theorem rcommand_C (w : World) (rb n c : Nat) (d : DV) (hd : d.Ok n) (v : Int) (hv : u32k v) (hr : DiskR w n d.disk rb c) :
    Calls Try.prog 17 #[den (.g (refL d (.s 100 rb 0 n c))), .int .u32 v] w fun e w' =>
      ∃ rb' c', e = .returned (den (.g (refL (setS d n 0 v).1 (.s 100 rb' 0 n c')))) ∧ DiskR w' n (setS d n 0 v).1.disk rb' c' ∧ (rb' = rb ∨ w.heap.size ≤ rb') ∧ Below w.heap.size w w' := by
  obtain ⟨hc, j, T, fz, hg⟩ := hr
  have hm : Mem w [] [⟨100, rb, false, .z (nums .u32 d.disk ++ j) T fz⟩] w := Mem.reads (by simpa using hg) (by simp)
  refine calls_of_ex [.g (refL d (.s 100 rb 0 n c)), .v (.int .u32 v)] _ [] 3 400 Try.func17 rfl hm (by simp [Try.ntmps17]) fun E hE => ?_
  unfold u32k at hv
  have hb := hd.buf
  have q1 := hd.fi
  have q2 := hd.ma
  have q3 := hd.n
  unfold u32k at q1 q2
  have e1 : ∀ y u r, stN (nums .u32 d.buf ++ y :: r) 16 [u] = nums .u32 d.buf ++ u :: r := fun y u r => stN_end .u32 d.buf y u r 16 hb
  have e3 : ∀ y z r, ld1 (nums .u32 d.buf ++ y :: z :: r) 17 = z := fun y z r => ld1_end2 .u32 d.buf y z r 16 hb
  have e4 : (n : Int) % 18446744073709551616 = n := by omega
  have e5 : (d.fi + d.ma) % 18446744073709551616 = d.fi + d.ma := by omega
  have fin : ∀ (X : DV) (rb1 c1 : Nat) (j1 : List SV) (T1 : Nat) (fz1 : Nat × Nat) (w' : World), (setS d n 0 v).1 = X → (n ≤ c1 ∧ c1 ≤ 9223372036854775807) → (rb1 = rb ∨ w.heap.size ≤ rb1) → w'.heap[rb1]? = some (denO (.z (nums .u32 X.disk ++ j1) T1 fz1)) → Below w.heap.size w w' →
      ∃ rb' c', Ending.returned (den (.g (refL X (.s 100 rb1 0 n c1)))) = .returned (den (.g (refL (setS d n 0 v).1 (.s 100 rb' 0 n c')))) ∧ DiskR w' n (setS d n 0 v).1.disk rb' c' ∧ (rb' = rb ∨ w.heap.size ≤ rb') ∧ Below w.heap.size w w' := by
    rintro X rb1 c1 j1 T1 fz1 w' rfl h2 h3 h4 h5
    exact ⟨rb1, c1, rfl, ⟨h2, j1, T1, fz1, h4⟩, h3, h5⟩
  simp (maxSteps := 2000000) only [go_sem, ↓dxc_true, ↓dxc_false, ↓bxc_true, ↓bxc_false, Nat.zero_add, Nat.add_zero, Nat.zero_mul, Nat.reduceBEq, Nat.reduceAdd, Nat.reduceMul, Nat.reduceSub, Nat.reduceLT, Nat.reduceLeDiff, Nat.reduceEqDiff, Nat.reduceDiv, Nat.reduceMod, Int.reduceAdd, Int.reduceSub, Int.reduceMul, Int.reduceDiv, Int.reduceMod, Int.reduceLT, Int.reduceLE, Int.reduceEq, Int.reduceToNat, Int.reducePow, Int.reduceNeg, ne_eq, not_false_eq_true, not_true_eq_false, decide_true, decide_false, Bool.not_true, Bool.not_false, forall_const, reduceCtorEq, implies_true, beq_self_eq_true, Int.cast_ofNat_Int, reduceIte, if_true, if_false, Bool.false_eq_true, refL, Try.ntmps17, fin_ret hE, Try.results17, List.length_append, nums_length, hb, e1, e3, e4, e5, allOne_append, allOne_nums]
  intro b b1
  refine ⟨fun g1 w' hm' => fin ⟨d.fi, d.ma, 1, true, d.buf, 0, d.disk⟩ rb c j T fz w' ?_ hc (Or.inl rfl) (hm'.at (t := 100) rfl) hm'.below, fun g1 => ⟨fun g2 w' hm' => fin ⟨d.fi, d.ma, 1, true, d.buf, 0, d.disk⟩ rb c j T fz w' ?_ hc (Or.inl rfl) (hm'.at (t := 100) rfl) hm'.below, fun g2 => ⟨fun g3 => ?_, fun g3 => ?_⟩⟩⟩
  · have : ¬ (1 ≤ v) := by omega
    simp [setS, bodyS, codeS, g1, this]
  · have : ¬ (v ≤ 3) := by omega
    simp [setS, bodyS, codeS, g2, this]
  · subst g3
    refine CodeC.unroll 1 400 ?_
    simp (maxSteps := 2000000) only [go_sem, ↓dxc_true, ↓dxc_false, ↓bxc_true, ↓bxc_false, Nat.zero_add, Nat.add_zero, Nat.zero_mul, Nat.reduceBEq, Nat.reduceAdd, Nat.reduceMul, Nat.reduceSub, Nat.reduceLT, Nat.reduceLeDiff, Nat.reduceEqDiff, Nat.reduceDiv, Nat.reduceMod, Int.reduceAdd, Int.reduceSub, Int.reduceMul, Int.reduceDiv, Int.reduceMod, Int.reduceLT, Int.reduceLE, Int.reduceEq, Int.reduceToNat, Int.reducePow, Int.reduceNeg, ne_eq, not_false_eq_true, not_true_eq_false, decide_true, decide_false, Bool.not_true, Bool.not_false, forall_const, reduceCtorEq, implies_true, beq_self_eq_true, Int.cast_ofNat_Int, reduceIte, if_true, if_false, Bool.false_eq_true, refL, Try.ntmps17, fin_ret hE, Try.results17, List.length_append, nums_length, hb, e1, e3, e4, e5, allOne_append, allOne_nums]
    have key : ∀ w', Mem w [] [⟨4, b1, true, .c (refL ⟨d.fi, d.ma, 0, true, d.buf, 0, d.disk⟩ (.s 100 rb 0 n c)) 34⟩, ⟨3, b, true, .c (refL ⟨d.fi, d.ma, 0, true, d.buf, 0, d.disk⟩ (.s 100 rb 0 n c)) 34⟩, ⟨100, rb, false, .z (nums .u32 d.disk ++ j) T fz⟩] w' → _ := fun w' hm' =>
      fin ⟨d.fi, d.ma, 0, true, d.buf, 0, d.disk⟩ rb c j T fz w' (by simp [setS, bodyS, codeS]) hc (Or.inl rfl) (hm'.at (t := 100) rfl) hm'.below
    refine ⟨by omega, fun h1 => key, fun h1 => key⟩
  · have hD0 : (⟨d.fi, d.ma, 0, true, d.buf, 0, d.disk⟩ : DV).Ok n := ⟨hd.fi, hd.ma, hd.buf, by simp only; omega, hd.disk, hd.n⟩
    have bad : ¬ inS d.fi d.ma n → ∀ w', Mem w [] [⟨4, b1, true, .c (refL ⟨d.fi, d.ma, 2, true, d.buf, 0, d.disk⟩ (.s 100 rb 0 n c)) 34⟩, ⟨3, b, true, .c (refL ⟨d.fi, d.ma, 2, true, d.buf, 0, d.disk⟩ (.s 100 rb 0 n c)) 34⟩, ⟨100, rb, false, .z (nums .u32 d.disk ++ j) T fz⟩] w' → _ := fun hin w' hm' =>
      fin ⟨d.fi, d.ma, 2, true, d.buf, 0, d.disk⟩ rb c j T fz w' (by
        have a1 : ¬ v < 1 := g1
        have a2 : ¬ 4 < v := g2
        simp [setS, bodyS, codeS, g1, g2, g3, hin]) hc (Or.inl rfl) (hm'.at (t := 100) rfl) hm'.below
    refine ⟨fun h1 => bad (by unfold inS; omega), fun h1 => ⟨fun h2 => bad (by unfold inS; omega), fun h2 => ⟨⟨by omega, by omega⟩, ⟨by omega, by omega⟩, fun h3 => bad (by unfold inS; omega), fun h3 => ?_⟩⟩⟩
    have hin : inS d.fi d.ma n := by unfold inS; omega
    have good : (setS d n 0 v).1 = itS v d.fi.toNat d.ma.toNat ⟨d.fi, d.ma, 0, true, d.buf, 0, d.disk⟩ := by
      have a3 : 1 ≤ v ∧ v ≤ 3 := by omega
      have := itS_er v d.fi.toNat ⟨d.fi, d.ma, d.er, true, d.buf, 0, d.disk⟩ 0 d.ma.toNat
      simp only at this
      rw [this]
      simp [setS, bodyS, codeS, g1, g2, g3, hin, a3]
    clear bad
    refine CodeC.loop (γ := { g : Nat × Nat × Nat × List SV × Nat × (Nat × Nat) // g.1 ≤ d.ma.toNat ∧ (n ≤ g.2.2.1 ∧ g.2.2.1 ≤ 9223372036854775807) ∧ (g.2.1 = rb ∨ w.heap.size ≤ g.2.1) })
      (fun g => ⟨125, 5, [(5, .v (.int .i64 (g.1.1 : Int))), (2, .p 3 b 0), (4, .p 4 b1 0), (1, .v (.int .u32 v))],
        [⟨4, b1, true, .c z34 34⟩, ⟨3, b, true, .c (refL (itS v d.fi.toNat g.1.1 ⟨d.fi, d.ma, 0, true, d.buf, 0, d.disk⟩) (.s 100 g.1.2.1 0 n g.1.2.2.1)) 34⟩,
         ⟨100, g.1.2.1, false, .z (nums .u32 (itS v d.fi.toNat g.1.1 ⟨d.fi, d.ma, 0, true, d.buf, 0, d.disk⟩).disk ++ g.1.2.2.2.1) g.1.2.2.2.2.1 g.1.2.2.2.2.2⟩], []⟩) (fun g => d.ma.toNat - g.1.1)
      ⟨(0, rb, c, j, T, fz), by omega, hc, Or.inl rfl⟩ 400 ⟨rfl, rfl, ⟨rfl, rfl, rfl, rfl, trivial⟩, SubH.refl _⟩ ?_
    rintro ⟨⟨i, rbi, ci, ji, Ti, fzi⟩, hi, hci, hrb⟩
    simp only at hi hci hrb
    obtain ⟨s1, s2, s3, s4, s5⟩ := itS_same v d.fi.toNat ⟨d.fi, d.ma, 0, true, d.buf, 0, d.disk⟩ i
    have hoD := itS_ok v d.fi.toNat n hD0 i
    have next : ∀ (sl' : List (Nat × SV)) (rb' c' : Nat) (j' : List SV) (T' : Nat) (fz' : Nat × Nat) (hp' : List Ent) (nt' : Nat), i < d.ma.toNat → (n ≤ c' ∧ c' ≤ 9223372036854775807) → (rb' = rb ∨ w.heap.size ≤ rb') →
        lk sl' 5 = .v (.int .i64 ((i : Int) + 1)) → lk sl' 2 = .p 3 b 0 → lk sl' 4 = .p 4 b1 0 → lk sl' 1 = .v (.int .u32 v) →
        SubH [⟨4, b1, true, .c z34 34⟩, ⟨3, b, true, .c (refL (oneS v (d.fi.toNat + i) i (itS v d.fi.toNat i ⟨d.fi, d.ma, 0, true, d.buf, 0, d.disk⟩)) (.s 100 rb' 0 n c')) 34⟩,
         ⟨100, rb', false, .z (nums .u32 (oneS v (d.fi.toNat + i) i (itS v d.fi.toNat i ⟨d.fi, d.ma, 0, true, d.buf, 0, d.disk⟩)).disk ++ j') T' fz'⟩] hp' →
        ∃ g' : { g : Nat × Nat × Nat × List SV × Nat × (Nat × Nat) // g.1 ≤ d.ma.toNat ∧ (n ≤ g.2.2.1 ∧ g.2.2.1 ≤ 9223372036854775807) ∧ (g.2.1 = rb ∨ w.heap.size ≤ g.2.1) },
          Dx.Sub ⟨125, 5, [(5, .v (.int .i64 (g'.1.1 : Int))), (2, .p 3 b 0), (4, .p 4 b1 0), (1, .v (.int .u32 v))],
        [⟨4, b1, true, .c z34 34⟩, ⟨3, b, true, .c (refL (itS v d.fi.toNat g'.1.1 ⟨d.fi, d.ma, 0, true, d.buf, 0, d.disk⟩) (.s 100 g'.1.2.1 0 n g'.1.2.2.1)) 34⟩,
         ⟨100, g'.1.2.1, false, .z (nums .u32 (itS v d.fi.toNat g'.1.1 ⟨d.fi, d.ma, 0, true, d.buf, 0, d.disk⟩).disk ++ g'.1.2.2.2.1) g'.1.2.2.2.2.1 g'.1.2.2.2.2.2⟩], []⟩ ⟨125, nt', sl', hp', []⟩ ∧ d.ma.toNat - g'.1.1 < d.ma.toNat - i :=
      fun sl' rb' c' j' T' fz' hp' nt' p1 p2 p3 p4 p5 p6 p7 p8 => ⟨⟨(i + 1, rb', c', j', T', fz'), by simp only; omega, p2, p3⟩, ⟨rfl, rfl, ⟨by simpa using p4, p5, p6, p7, trivial⟩, p8⟩, by simp only; omega⟩
    have last : i = d.ma.toNat → ∀ w', Mem w [] [⟨4, b1, true, .c (refL (itS v d.fi.toNat i ⟨d.fi, d.ma, 0, true, d.buf, 0, d.disk⟩) (.s 100 rbi 0 n ci)) 34⟩, ⟨3, b, true, .c (refL (itS v d.fi.toNat i ⟨d.fi, d.ma, 0, true, d.buf, 0, d.disk⟩) (.s 100 rbi 0 n ci)) 34⟩,
         ⟨100, rbi, false, .z (nums .u32 (itS v d.fi.toNat i ⟨d.fi, d.ma, 0, true, d.buf, 0, d.disk⟩).disk ++ ji) Ti fzi⟩] w' → _ := fun hl w' hm' =>
      fin (itS v d.fi.toNat i ⟨d.fi, d.ma, 0, true, d.buf, 0, d.disk⟩) rbi ci ji Ti fzi w' (by rw [good, hl]) hci hrb (hm'.at (t := 100) rfl) hm'.below
    generalize itS v d.fi.toNat i ⟨d.fi, d.ma, 0, true, d.buf, 0, d.disk⟩ = D at *
    simp only at s1 s2
    have hbD := hoD.buf
    have hdD := hoD.disk
    have e6 : D.fi + (i : Int) = ((d.fi.toNat + i : Nat) : Int) := by omega
    have p0 : (4 * (i : Int) + 0).toNat = i * 4 := by omega
    have pz : (4 * (i : Int)).toNat = i * 4 := by omega
    have p1 : (4 * (i : Int) + 1).toNat = i * 4 + 1 := by omega
    have p2 : (4 * (i : Int) + 2).toNat = i * 4 + 2 := by omega
    have p3 : (4 * (i : Int) + 3).toNat = i * 4 + 3 := by omega
    have e1 : ∀ y u r, stN (nums .u32 D.buf ++ y :: r) 16 [u] = nums .u32 D.buf ++ u :: r := fun y u r => stN_end .u32 D.buf y u r 16 hbD
    have e2 : ∀ y z u r, stN (nums .u32 D.buf ++ y :: z :: r) 17 [u] = nums .u32 D.buf ++ y :: u :: r := fun y z u r => stN_end2 .u32 D.buf y z u r 16 hbD
    have e3 : ∀ (l : List Int) y z r, l.length = 16 → ld1 (nums .u32 l ++ y :: z :: r) 17 = z := fun l y z r hl => ld1_end2 .u32 l y z r 16 hl
    rcases (show v = 1 ∨ v = 2 ∨ v = 3 by omega) with rfl | rfl | rfl
    · have eo : oneS 1 (d.fi.toNat + i) i D = { D with buf := put4 D.buf (i * 4) (D.disk.getD ((d.fi.toNat + i) * 4) 0) (D.disk.getD ((d.fi.toNat + i) * 4 + 1) 0) (D.disk.getD ((d.fi.toNat + i) * 4 + 2) 0) (D.disk.getD ((d.fi.toNat + i) * 4 + 3) 0) } := by simp [oneS]
      rw [eo] at next
      simp (maxSteps := 2000000) only [go_sem, ↓dxc_true, ↓dxc_false, ↓bxc_true, ↓bxc_false, Nat.zero_add, Nat.add_zero, Nat.zero_mul, Nat.reduceBEq, Nat.reduceAdd, Nat.reduceMul, Nat.reduceSub, Nat.reduceLT, Nat.reduceLeDiff, Nat.reduceEqDiff, Nat.reduceDiv, Nat.reduceMod, Int.reduceAdd, Int.reduceSub, Int.reduceMul, Int.reduceDiv, Int.reduceMod, Int.reduceLT, Int.reduceLE, Int.reduceEq, Int.reduceToNat, Int.reducePow, Int.reduceNeg, ne_eq, not_false_eq_true, not_true_eq_false, decide_true, decide_false, Bool.not_true, Bool.not_false, forall_const, reduceCtorEq, implies_true, beq_self_eq_true, Int.cast_ofNat_Int, reduceIte, if_true, if_false, Bool.false_eq_true, refL, Try.ntmps17, fin_ret hE, Try.results17, List.length_append, nums_length, hbD, e1, e2, e3, allOne_append, allOne_nums, e6]
      refine ⟨by omega, fun h4 => ⟨by omega, by omega, ?_⟩, fun h4 => last (by omega)⟩
      refine CodeC.unroll 5 400 ?_
      have l0 : ld1 (nums .u32 D.disk ++ ji) ((d.fi.toNat + i) * 4) = .v (.int .u32 (D.disk.getD ((d.fi.toNat + i) * 4) 0)) := ld1_own (by omega)
      have l1 : ld1 (nums .u32 D.disk ++ ji) ((d.fi.toNat + i) * 4 + 1) = .v (.int .u32 (D.disk.getD ((d.fi.toNat + i) * 4 + 1) 0)) := ld1_own (by omega)
      have l2 : ld1 (nums .u32 D.disk ++ ji) ((d.fi.toNat + i) * 4 + 2) = .v (.int .u32 (D.disk.getD ((d.fi.toNat + i) * 4 + 2) 0)) := ld1_own (by omega)
      have l3 : ld1 (nums .u32 D.disk ++ ji) ((d.fi.toNat + i) * 4 + 3) = .v (.int .u32 (D.disk.getD ((d.fi.toNat + i) * 4 + 3) 0)) := ld1_own (by omega)
      have t0 : ∀ (l : List Int) r x, l.length = 16 → stN (nums .u32 l ++ r) (i * 4) [.v (.int .u32 x)] = nums .u32 (l.set (i * 4) x) ++ r := fun l r x hl => stN_nums .u32 l r (i * 4) x (by omega)
      have t1 : ∀ (l : List Int) r x, l.length = 16 → stN (nums .u32 l ++ r) (i * 4 + 1) [.v (.int .u32 x)] = nums .u32 (l.set (i * 4 + 1) x) ++ r := fun l r x hl => stN_nums .u32 l r (i * 4 + 1) x (by omega)
      have t2 : ∀ (l : List Int) r x, l.length = 16 → stN (nums .u32 l ++ r) (i * 4 + 2) [.v (.int .u32 x)] = nums .u32 (l.set (i * 4 + 2) x) ++ r := fun l r x hl => stN_nums .u32 l r (i * 4 + 2) x (by omega)
      have t3 : ∀ (l : List Int) r x, l.length = 16 → stN (nums .u32 l ++ r) (i * 4 + 3) [.v (.int .u32 x)] = nums .u32 (l.set (i * 4 + 3) x) ++ r := fun l r x hl => stN_nums .u32 l r (i * 4 + 3) x (by omega)
      simp (maxSteps := 2000000) only [go_sem, ↓dxc_true, ↓dxc_false, ↓bxc_true, ↓bxc_false, Nat.zero_add, Nat.add_zero, Nat.zero_mul, Nat.reduceBEq, Nat.reduceAdd, Nat.reduceMul, Nat.reduceSub, Nat.reduceLT, Nat.reduceLeDiff, Nat.reduceEqDiff, Nat.reduceDiv, Nat.reduceMod, Int.reduceAdd, Int.reduceSub, Int.reduceMul, Int.reduceDiv, Int.reduceMod, Int.reduceLT, Int.reduceLE, Int.reduceEq, Int.reduceToNat, Int.reducePow, Int.reduceNeg, ne_eq, not_false_eq_true, not_true_eq_false, decide_true, decide_false, Bool.not_true, Bool.not_false, forall_const, reduceCtorEq, implies_true, beq_self_eq_true, Int.cast_ofNat_Int, reduceIte, if_true, if_false, Bool.false_eq_true, refL, Try.ntmps17, fin_ret hE, Try.results17, List.length_append, nums_length, List.length_set, hbD, hdD, e1, e2, e3, e6, p0, pz, p1, p2, p3, Int.toNat_natCast, Nat.mul_one, l0, l1, l2, l3, t0, t1, t2, t3, stN_4]
      repeat (refine And.intro (by omega) ?_)
      refine next _ rbi ci ji Ti fzi _ _ (by omega) hci hrb ?_ ?_ ?_ ?_ (SubH.refl _)
      all_goals rfl
    · have eo : oneS 2 (d.fi.toNat + i) i D = { D with disk := put4 D.disk ((d.fi.toNat + i) * 4) (D.buf.getD (i * 4) 0) (D.buf.getD (i * 4 + 1) 0) (D.buf.getD (i * 4 + 2) 0) (D.buf.getD (i * 4 + 3) 0) } := by simp [oneS]
      rw [eo] at next
      simp (maxSteps := 2000000) only [go_sem, ↓dxc_true, ↓dxc_false, ↓bxc_true, ↓bxc_false, Nat.zero_add, Nat.add_zero, Nat.zero_mul, Nat.reduceBEq, Nat.reduceAdd, Nat.reduceMul, Nat.reduceSub, Nat.reduceLT, Nat.reduceLeDiff, Nat.reduceEqDiff, Nat.reduceDiv, Nat.reduceMod, Int.reduceAdd, Int.reduceSub, Int.reduceMul, Int.reduceDiv, Int.reduceMod, Int.reduceLT, Int.reduceLE, Int.reduceEq, Int.reduceToNat, Int.reducePow, Int.reduceNeg, ne_eq, not_false_eq_true, not_true_eq_false, decide_true, decide_false, Bool.not_true, Bool.not_false, forall_const, reduceCtorEq, implies_true, beq_self_eq_true, Int.cast_ofNat_Int, reduceIte, if_true, if_false, Bool.false_eq_true, refL, Try.ntmps17, fin_ret hE, Try.results17, List.length_append, nums_length, hbD, e1, e2, e3, allOne_append, allOne_nums, e6]
      refine ⟨by omega, fun h4 => ⟨by omega, by omega, ?_⟩, fun h4 => last (by omega)⟩
      refine CodeC.lexb [27] 400 Try.follows_mixed (by kernel_rfl) ?_
      have l0 : ∀ r, ld1 (nums .u32 D.buf ++ r) (i * 4) = .v (.int .u32 (D.buf.getD (i * 4) 0)) := fun r => ld1_own (by omega)
      have l1 : ∀ r, ld1 (nums .u32 D.buf ++ r) (i * 4 + 1) = .v (.int .u32 (D.buf.getD (i * 4 + 1) 0)) := fun r => ld1_own (by omega)
      have l2 : ∀ r, ld1 (nums .u32 D.buf ++ r) (i * 4 + 2) = .v (.int .u32 (D.buf.getD (i * 4 + 2) 0)) := fun r => ld1_own (by omega)
      have l3 : ∀ r, ld1 (nums .u32 D.buf ++ r) (i * 4 + 3) = .v (.int .u32 (D.buf.getD (i * 4 + 3) 0)) := fun r => ld1_own (by omega)
      simp (maxSteps := 2000000) only [go_sem, ↓dxc_true, ↓dxc_false, ↓bxc_true, ↓bxc_false, Nat.zero_add, Nat.add_zero, Nat.zero_mul, Nat.reduceBEq, Nat.reduceAdd, Nat.reduceMul, Nat.reduceSub, Nat.reduceLT, Nat.reduceLeDiff, Nat.reduceEqDiff, Nat.reduceDiv, Nat.reduceMod, Int.reduceAdd, Int.reduceSub, Int.reduceMul, Int.reduceDiv, Int.reduceMod, Int.reduceLT, Int.reduceLE, Int.reduceEq, Int.reduceToNat, Int.reducePow, Int.reduceNeg, ne_eq, not_false_eq_true, not_true_eq_false, decide_true, decide_false, Bool.not_true, Bool.not_false, forall_const, reduceCtorEq, implies_true, beq_self_eq_true, Int.cast_ofNat_Int, reduceIte, if_true, if_false, Bool.false_eq_true, refL, Try.ntmps17, fin_ret hE, Try.results17, List.length_append, nums_length, hbD, e1, e2, e3, allOne_append, allOne_nums, e6, p0, pz, p1, p2, p3, ld1_4, Nat.mul_one, l0, l1, l2, l3]
      repeat (refine And.intro (by omega) ?_)
      refine CallD.mut (γ := Nat × Nat × List SV) (fun g => .s 100 g.1 0 n g.2.1) (fun g => [⟨4, b1, true, .c z34 34⟩, ⟨3, b, true, .c (refL D (.s 100 rbi 0 n ci)) 34⟩, ⟨100, g.1, false, .z (nums .u32 (put4 D.disk ((d.fi.toNat + i) * 4) (D.buf.getD (i * 4) 0) (D.buf.getD (i * 4 + 1) 0) (D.buf.getD (i * 4 + 2) 0) (D.buf.getD (i * 4 + 3) 0)) ++ g.2.2) 44 (0, 0)⟩])
        (fun g => (n ≤ g.2.1 ∧ g.2.1 ≤ 9223372036854775807) ∧ w.heap.size ≤ g.1) (fun w1 hm1 => ?_) ?_
      · refine (put_C w1 rbi ci n (d.fi.toNat + i) D.disk ji Ti fzi _ _ _ _ (by omega) hdD (by omega) hci (hm1.at (t := 100) rfl)).mono ?_
        rintro e w' ⟨b', c', j', rfl, k2, k3, k4, k5⟩
        have hsz := hm1.size
        rw [hE] at hsz
        exact ⟨(b', c', j'), rfl, ⟨k2, Nat.le_trans hsz k3⟩, hm1.swap (l := [_, _]) (r := []) k5 (Or.inr k3) k4⟩
      refine ⟨by simp (maxSteps := 2000000) only [go_sem, ↓dxc_true, ↓dxc_false, ↓bxc_true, ↓bxc_false, Nat.zero_add, Nat.add_zero, Nat.zero_mul, Nat.reduceBEq, Nat.reduceAdd, Nat.reduceMul, Nat.reduceSub, Nat.reduceLT, Nat.reduceLeDiff, Nat.reduceEqDiff, Nat.reduceDiv, Nat.reduceMod, Int.reduceAdd, Int.reduceSub, Int.reduceMul, Int.reduceDiv, Int.reduceMod, Int.reduceLT, Int.reduceLE, Int.reduceEq, Int.reduceToNat, Int.reducePow, Int.reduceNeg, ne_eq, not_false_eq_true, not_true_eq_false, decide_true, decide_false, Bool.not_true, Bool.not_false, forall_const, reduceCtorEq, implies_true, beq_self_eq_true, Int.cast_ofNat_Int, reduceIte, if_true, if_false, Bool.false_eq_true, Try.ntmps17], ?_⟩
      rintro ⟨b', c', j'⟩ ⟨k2, k3⟩
      simp only at k2 k3
      simp (maxSteps := 2000000) only [go_sem, ↓dxc_true, ↓dxc_false, ↓bxc_true, ↓bxc_false, Nat.zero_add, Nat.add_zero, Nat.zero_mul, Nat.reduceBEq, Nat.reduceAdd, Nat.reduceMul, Nat.reduceSub, Nat.reduceLT, Nat.reduceLeDiff, Nat.reduceEqDiff, Nat.reduceDiv, Nat.reduceMod, Int.reduceAdd, Int.reduceSub, Int.reduceMul, Int.reduceDiv, Int.reduceMod, Int.reduceLT, Int.reduceLE, Int.reduceEq, Int.reduceToNat, Int.reducePow, Int.reduceNeg, ne_eq, not_false_eq_true, not_true_eq_false, decide_true, decide_false, Bool.not_true, Bool.not_false, forall_const, reduceCtorEq, implies_true, beq_self_eq_true, Int.cast_ofNat_Int, reduceIte, if_true, if_false, Bool.false_eq_true, refL, Try.ntmps17, fin_ret hE, Try.results17, List.length_append, nums_length, hbD, e1, e2, e3]
      refine ⟨by omega, next _ b' c' j' 44 (0, 0) _ _ (by omega) k2 (Or.inr k3) ?_ ?_ ?_ ?_ (SubH.refl _)⟩
      all_goals rfl
    · have eo : oneS 3 (d.fi.toNat + i) i D = { D with disk := put4 D.disk ((d.fi.toNat + i) * 4) 0 0 0 0 } := by simp [oneS]
      rw [eo] at next
      simp (maxSteps := 2000000) only [go_sem, ↓dxc_true, ↓dxc_false, ↓bxc_true, ↓bxc_false, Nat.zero_add, Nat.add_zero, Nat.zero_mul, Nat.reduceBEq, Nat.reduceAdd, Nat.reduceMul, Nat.reduceSub, Nat.reduceLT, Nat.reduceLeDiff, Nat.reduceEqDiff, Nat.reduceDiv, Nat.reduceMod, Int.reduceAdd, Int.reduceSub, Int.reduceMul, Int.reduceDiv, Int.reduceMod, Int.reduceLT, Int.reduceLE, Int.reduceEq, Int.reduceToNat, Int.reducePow, Int.reduceNeg, ne_eq, not_false_eq_true, not_true_eq_false, decide_true, decide_false, Bool.not_true, Bool.not_false, forall_const, reduceCtorEq, implies_true, beq_self_eq_true, Int.cast_ofNat_Int, reduceIte, if_true, if_false, Bool.false_eq_true, refL, Try.ntmps17, fin_ret hE, Try.results17, List.length_append, nums_length, hbD, e1, e2, e3, allOne_append, allOne_nums, e6]
      refine ⟨by omega, fun h4 => ⟨by omega, by omega, ?_⟩, fun h4 => last (by omega)⟩
      refine CallC.mut (γ := Nat × Nat × List SV) (fun g => .s 100 g.1 0 n g.2.1) (fun g => [⟨4, b1, true, .c z34 34⟩, ⟨3, b, true, .c (refL D (.s 100 rbi 0 n ci)) 34⟩, ⟨100, g.1, false, .z (nums .u32 (put4 D.disk ((d.fi.toNat + i) * 4) 0 0 0 0) ++ g.2.2) 44 (0, 0)⟩])
        (fun g => (n ≤ g.2.1 ∧ g.2.1 ≤ 9223372036854775807) ∧ w.heap.size ≤ g.1) 400 (fun w1 hm1 => ?_) ?_
      · refine (put_C w1 rbi ci n (d.fi.toNat + i) D.disk ji Ti fzi 0 0 0 0 (by omega) hdD (by omega) hci (hm1.at (t := 100) rfl)).mono ?_
        rintro e w' ⟨b', c', j', rfl, k2, k3, k4, k5⟩
        have hsz := hm1.size
        rw [hE] at hsz
        exact ⟨(b', c', j'), rfl, ⟨k2, Nat.le_trans hsz k3⟩, hm1.swap (l := [_, _]) (r := []) k5 (Or.inr k3) k4⟩
      refine ⟨by simp (maxSteps := 2000000) only [go_sem, ↓dxc_true, ↓dxc_false, ↓bxc_true, ↓bxc_false, Nat.zero_add, Nat.add_zero, Nat.zero_mul, Nat.reduceBEq, Nat.reduceAdd, Nat.reduceMul, Nat.reduceSub, Nat.reduceLT, Nat.reduceLeDiff, Nat.reduceEqDiff, Nat.reduceDiv, Nat.reduceMod, Int.reduceAdd, Int.reduceSub, Int.reduceMul, Int.reduceDiv, Int.reduceMod, Int.reduceLT, Int.reduceLE, Int.reduceEq, Int.reduceToNat, Int.reducePow, Int.reduceNeg, ne_eq, not_false_eq_true, not_true_eq_false, decide_true, decide_false, Bool.not_true, Bool.not_false, forall_const, reduceCtorEq, implies_true, beq_self_eq_true, Int.cast_ofNat_Int, reduceIte, if_true, if_false, Bool.false_eq_true, Try.ntmps17], ?_⟩
      rintro ⟨b', c', j'⟩ ⟨k2, k3⟩
      simp only at k2 k3
      simp (maxSteps := 2000000) only [go_sem, ↓dxc_true, ↓dxc_false, ↓bxc_true, ↓bxc_false, Nat.zero_add, Nat.add_zero, Nat.zero_mul, Nat.reduceBEq, Nat.reduceAdd, Nat.reduceMul, Nat.reduceSub, Nat.reduceLT, Nat.reduceLeDiff, Nat.reduceEqDiff, Nat.reduceDiv, Nat.reduceMod, Int.reduceAdd, Int.reduceSub, Int.reduceMul, Int.reduceDiv, Int.reduceMod, Int.reduceLT, Int.reduceLE, Int.reduceEq, Int.reduceToNat, Int.reducePow, Int.reduceNeg, ne_eq, not_false_eq_true, not_true_eq_false, decide_true, decide_false, Bool.not_true, Bool.not_false, forall_const, reduceCtorEq, implies_true, beq_self_eq_true, Int.cast_ofNat_Int, reduceIte, if_true, if_false, Bool.false_eq_true, refL, Try.ntmps17, fin_ret hE, Try.results17, List.length_append, nums_length, hbD, e1, e2, e3]
      refine ⟨by omega, next _ b' c' j' 44 (0, 0) _ _ (by omega) k2 (Or.inr k3) ?_ ?_ ?_ ?_ (SubH.refl _)⟩
      all_goals rfl

end Go.Proofs
