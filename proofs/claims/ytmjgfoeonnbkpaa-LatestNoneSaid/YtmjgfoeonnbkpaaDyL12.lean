/- Needed. -/
import Derived.Test.YtmjgfoeonnbkpaaDyL11
set_option linter.unusedSimpArgs false
set_option linter.unusedVariables false
set_option linter.unusedSectionVars false
set_option maxRecDepth 100000
set_option maxHeartbeats 1000000
namespace Go.Proofs
open Go.Dx Go.RowKit

theorem Mem.apart {W0 : World} {mods : List Nat} {hp : List Ent} {w : World} (h : Mem W0 mods hp w) {e x : Ent} (he : e ∈ hp) (hx : x ∈ hp) (hw : x.w = true) (hew : e.w = false) : x.b ≠ e.b := by
  have key : ∀ (l : List Ent), l.Pairwise (fun x y => x.w = true ∨ y.w = true → x.b ≠ y.b) → ∀ x ∈ l, ∀ y ∈ l, x ≠ y → (x.w = true ∨ y.w = true) → x.b ≠ y.b := by
    intro l hl
    induction hl with
    | nil => intro x hx; cases hx
    | cons h1 _ ih =>
      intro x hx y hy hxy hxw
      rcases List.mem_cons.1 hx with ex | hx'
      · rcases List.mem_cons.1 hy with ey | hy'
        · exact absurd (ex.trans ey.symm) hxy
        · rw [ex] at hxw ⊢
          exact h1 y hy' hxw
      · rcases List.mem_cons.1 hy with ey | hy'
        · rw [ey] at hxw ⊢
          exact fun hh => h1 x hx' hxw.symm hh.symm
        · exact ih x hx' y hy' hxy hxw
  exact key hp h.sep x hx e he (by rintro rfl; rw [hw] at hew; cases hew) (Or.inl hw)

/-- What is only read, once more. -/
theorem Mem.dup {W0 : World} {mods : List Nat} {hp : List Ent} {w : World} (h : Mem W0 mods hp w) : ∀ (ro : List Ent), (∀ e ∈ ro, e ∈ hp ∧ e.w = false) → Mem W0 mods (ro ++ hp) w
  | [], _ => h
  | e :: ro, hro => by
    obtain ⟨t, b, f, o⟩ := e
    obtain ⟨he, hw⟩ := hro _ List.mem_cons_self
    simp only at hw
    subst hw
    refine (Mem.dup h ro fun x hx => hro x (List.mem_cons_of_mem _ hx)).look t b o (h.get _ he) fun x hx hxw => ?_
    rcases List.mem_append.1 hx with hx | hx
    · rw [(hro x (List.mem_cons_of_mem _ hx)).2] at hxw; cases hxw
    · exact Mem.apart h he hx hxw rfl

/-- Is a page of a block needed? -/
def nbS (xs : List Pl) (bl : Int) (x : Pl) : Bool := decide (x.bl = bl) && !xs.any (fun y => standsS y x)
def ndN (xs : List Pl) (bl : Int) (i : Nat) : List Pl := (xs.take i).filter (nbS xs bl)
/-- The pages of a block that are needed. -/
def neededS (bs : List Bk) (bl : Int) : List Pl := (goodS 0 bs).filter (nbS (goodS 0 bs) bl)

theorem ndN_succ {xs : List Pl} {bl : Int} {i : Nat} (hi : i < xs.length) : ndN xs bl (i + 1) = ndN xs bl i ++ (if nbS xs bl (xs.getD i Pl.zero) then [xs.getD i Pl.zero] else []) := by
  rw [ndN, take_succ' (getD_some hi), List.filter_append]
  congr 1
  simp only [List.filter_cons, List.filter_nil]

theorem hk_skip (q : Nat) (tl : List Ent) : ∀ (l : List Ent), (∀ e ∈ l, Nat.beq e.t q = false) → hk (l ++ tl) q = hk tl q
  | [], _ => rfl
  | e :: l, h => by
    have h1 := h e List.mem_cons_self
    simp only [List.cons_append, hk, h1, cond_false]
    exact hk_skip q tl l fun x hx => h x (List.mem_cons_of_mem _ hx)

theorem hset_skip (q : Nat) (o : HObj) (tl : List Ent) : ∀ (l : List Ent), (∀ e ∈ l, Nat.beq e.t q = false) → hset (l ++ tl) q o = l ++ hset tl q o
  | [], _ => rfl
  | e :: l, h => by
    have h1 := h e List.mem_cons_self
    simp only [List.cons_append, hset, h1, cond_false]
    rw [hset_skip q o tl l fun x hx => h x (List.mem_cons_of_mem _ hx)]

theorem pgH_tags {t u bc : Nat} {ys : List Pl} {rest : List Ent} {q : Nat} (h1 : Nat.beq t q = false) (h2 : Nat.beq u q = false) (h3 : ∀ e ∈ rest, Nat.beq e.t q = false) : ∀ (i : Nat) (g : PG i), ∀ e ∈ pgH t u bc ys rest i g, Nat.beq e.t q = false
  | 0, g, e, he => by
    rcases List.mem_cons.1 he with rfl | he
    · exact h1
    · exact h3 e he
  | i + 1, g, e, he => by
    rcases List.mem_cons.1 he with rfl | he
    · exact h2
    rcases List.mem_cons.1 he with rfl | he
    · exact h1
    · exact h3 e he

theorem pgH_rest {t u bc : Nat} {ys : List Pl} {rest : List Ent} : ∀ (i : Nat) (g : PG i), ∀ e ∈ rest, e ∈ pgH t u bc ys rest i g
  | 0, g, e, he => List.mem_cons_of_mem _ he
  | i + 1, g, e, he => List.mem_cons_of_mem _ (List.mem_cons_of_mem _ he)

theorem pgH_nil {t u bc : Nat} {ys : List Pl} {rest : List Ent} (hy : ys = []) (g : PG ys.length) : pgH t u bc ys rest ys.length g = ⟨t, bc, true, .c [.v (.slice none 0 0)] 32⟩ :: rest := by subst hy; rfl
theorem pgH_cons {t u bc : Nat} {ys : List Pl} {rest : List Ent} (hy : ys ≠ []) (g : PG ys.length) : pgH t u bc ys rest ys.length g = ⟨u, g.b, true, .a (rows Pl.f ys ++ g.j) 29⟩ :: ⟨t, bc, true, .c [.s u g.b 0 ys.length g.c] 32⟩ :: rest := by
  cases ys with
  | nil => exact absurd rfl hy
  | cons y r =>
    show (⟨u, g.b, true, .a (rows Pl.f ((y :: r).take (r.length + 1)) ++ g.j) 29⟩ : Ent) :: _ = _
    have : (y :: r).take (r.length + 1) = y :: r := List.take_length (l := y :: r)
    rw [this]
    rfl

def PG.none (n : Nat) (h : n = 0) : PG n := ⟨0, 0, [], by omega, by omega, by subst h; rfl⟩

theorem Arg.tags {v : SV} {ro : List Ent} {bs : List Bk} (h : Arg v ro bs) (q : Nat) (hq : Nat.beq 101 q = false) : ∀ e ∈ ro, Nat.beq e.t q = false := by
  cases h with
  | nil => simp
  | row => simpa using hq

theorem needed_C (w : World) (v : SV) (ro : List Ent) (bs : List Bk) (bl : Int) (h : Arg v ro bs) (hn : (goodS 0 bs).length ≤ 100000) (hm : Mem w [] ro w) :
    Calls Try.prog 16 #[den v, .int .i64 bl] w fun e w' => ∃ v', e = .returned v' ∧ OutP (neededS bs bl) w w' v' := by
  refine calls_of_ex_m [v, .v (.int .i64 bl)] _ [] 3 300 Try.func16 rfl hm (by simp [Try.ntmps16]) fun E hE => ?_
  have k1 := h.kn
  have k2 := h.okc
  have k3 := h.cl
  have k4 := h.allK
  have k5 := h.bx 43
  have k6 := h.one
  simp (maxSteps := 2000000) only [go_sem, ↓dxc_true, ↓dxc_false, ↓bxc_true, ↓bxc_false, Nat.zero_add, Nat.add_zero, Nat.zero_mul, Nat.reduceBEq, Nat.reduceAdd, Nat.reduceMul, Nat.reduceSub, Nat.reduceLT, Nat.reduceLeDiff, Nat.reduceEqDiff, Nat.reduceDiv, Nat.reduceMod, Int.reduceAdd, Int.reduceSub, Int.reduceMul, Int.reduceDiv, Int.reduceMod, Int.reduceLT, Int.reduceLE, Int.reduceEq, Int.reduceToNat, Int.reducePow, Int.reduceNeg, ne_eq, not_false_eq_true, not_true_eq_false, decide_true, decide_false, Bool.not_true, Bool.not_false, forall_const, reduceCtorEq, implies_true, beq_self_eq_true, Int.cast_ofNat_Int, reduceIte, if_true, if_false, Bool.false_eq_true, Try.ntmps16, Try.results16, k1, k2, k3, k4, k5, k6, true_and]
  intro b2 b3
  refine CodeC.scope 300 fun E' hE' => ?_
  have hr : E'.r = none := by subst hE'; subst hE; rfl
  have hW : E'.W0 = w ∧ E'.mods = [] := by subst hE'; subst hE; exact ⟨rfl, rfl⟩
  have hf0 := finR hE'
  have hret : ∀ S, E'.fin .ret S = ((∀ l, Exit.ret ≠ .goto l) ∧ ∀ a w, Ok E S a w → semK Try.prog E _ .ret a w) := fun S => hf0 .ret S
  simp (maxSteps := 2000000) only [go_sem, ↓dxc_true, ↓dxc_false, ↓bxc_true, ↓bxc_false, Nat.zero_add, Nat.add_zero, Nat.zero_mul, Nat.reduceBEq, Nat.reduceAdd, Nat.reduceMul, Nat.reduceSub, Nat.reduceLT, Nat.reduceLeDiff, Nat.reduceEqDiff, Nat.reduceDiv, Nat.reduceMod, Int.reduceAdd, Int.reduceSub, Int.reduceMul, Int.reduceDiv, Int.reduceMod, Int.reduceLT, Int.reduceLE, Int.reduceEq, Int.reduceToNat, Int.reducePow, Int.reduceNeg, ne_eq, not_false_eq_true, not_true_eq_false, decide_true, decide_false, Bool.not_true, Bool.not_false, forall_const, reduceCtorEq, implies_true, beq_self_eq_true, Int.cast_ofNat_Int, reduceIte, if_true, if_false, Bool.false_eq_true, Try.ntmps16, Try.results16, k1, k2, k3, k4, k5, k6, true_and]
  intro b5
  refine CallC.new (γ := Unit) (fun _ b => .f 34 [.p 6 b 0]) (fun _ => .c [v] 43) 300 (fun w1 hm1 => ?_) ?_
  · refine (all_C w1 v h.sv).mono ?_
    rintro e w' ⟨b, rfl, h1, h2, h3⟩
    exact ⟨(), b, rfl, h1, h2, h3⟩
  refine ⟨by simp (maxSteps := 2000000) only [go_sem, ↓dxc_true, ↓dxc_false, ↓bxc_true, ↓bxc_false, Nat.zero_add, Nat.add_zero, Nat.zero_mul, Nat.reduceBEq, Nat.reduceAdd, Nat.reduceMul, Nat.reduceSub, Nat.reduceLT, Nat.reduceLeDiff, Nat.reduceEqDiff, Nat.reduceDiv, Nat.reduceMod, Int.reduceAdd, Int.reduceSub, Int.reduceMul, Int.reduceDiv, Int.reduceMod, Int.reduceLT, Int.reduceLE, Int.reduceEq, Int.reduceToNat, Int.reducePow, Int.reduceNeg, ne_eq, not_false_eq_true, not_true_eq_false, decide_true, decide_false, Bool.not_true, Bool.not_false, forall_const, reduceCtorEq, implies_true, beq_self_eq_true, Int.cast_ofNat_Int, reduceIte, if_true, if_false, Bool.false_eq_true, Try.ntmps16], ?_⟩
  intro _ b9
  simp (maxSteps := 2000000) only [go_sem, ↓dxc_true, ↓dxc_false, ↓bxc_true, ↓bxc_false, Nat.zero_add, Nat.add_zero, Nat.zero_mul, Nat.reduceBEq, Nat.reduceAdd, Nat.reduceMul, Nat.reduceSub, Nat.reduceLT, Nat.reduceLeDiff, Nat.reduceEqDiff, Nat.reduceDiv, Nat.reduceMod, Int.reduceAdd, Int.reduceSub, Int.reduceMul, Int.reduceDiv, Int.reduceMod, Int.reduceLT, Int.reduceLE, Int.reduceEq, Int.reduceToNat, Int.reducePow, Int.reduceNeg, ne_eq, not_false_eq_true, not_true_eq_false, decide_true, decide_false, Bool.not_true, Bool.not_false, forall_const, reduceCtorEq, implies_true, beq_self_eq_true, Int.cast_ofNat_Int, reduceIte, if_true, if_false, Bool.false_eq_true, Try.ntmps16, Try.results16, k1, k2, k3, k4, true_and]
  refine ex_weaken ⟨26, 7, [(9, .f 34 [.p 6 b9 0]), (5, .p 5 b5 0), (3, .p 4 b3 0), (2, .p 3 b2 0)], ⟨6, b9, true, .c [v] 43⟩ :: ⟨5, b5, true, .c [.v (.slice none 0 0)] 32⟩ :: ⟨4, b3, true, .c [.v (.int .i64 bl)] 3⟩ :: ⟨3, b2, true, .c [v] 43⟩ :: ro, []⟩ ⟨rfl, rfl, ⟨rfl, rfl, rfl, rfl, trivial⟩, SubH.refl _⟩ ?_
  obtain ⟨xs, hxs⟩ : ∃ xs, xs = goodS 0 bs := ⟨_, rfl⟩
  have hit := fun b => h.iter b true
  rw [← hxs] at hit hn
  obtain ⟨R, hR⟩ : ∃ R, R = (⟨3, b2, true, .c [v] 43⟩ : Ent) :: ⟨4, b3, true, .c [.v (.int .i64 bl)] 3⟩ :: ro := ⟨_, rfl⟩
  refine CodeC.rng hr 10 11 20 300 (h := 34) (caps := [.p 6 b9 0]) (n := xs.length) rfl (hit b9) (by kernel_rfl) (fun i => rfl) (fun p hp => by rcases List.mem_cons.1 hp with rfl | hp; exact (by decide : 10 < 26); cases hp) (γ := fun i => PG (ndN xs bl i).length) (δ := Empty)
    (fun i g => pgH 5 41 b5 (ndN xs bl i) R _ g) (fun c => nomatch c) (fun c => nomatch c) (PG.none _ (by simp [ndN])) (fun w hm => ?_) ?_ ?_ ?_
  · have hz : ndN xs bl 0 = [] := by simp [ndN]
    rw [pgH_nil hz, hR]
    have hd := Mem.dup hm ro (fun e he => ⟨by simp [he], h.ro e he⟩)
    refine Mem.tags (hp := ⟨6, b9, true, .c [v] 43⟩ :: (ro ++ ⟨5, b5, true, .c [.v (.slice none 0 0)] 32⟩ :: ⟨3, b2, true, .c [v] 43⟩ :: ⟨4, b3, true, .c [.v (.int .i64 bl)] 3⟩ :: ro)) (hd.perm ?_) (by simp)
    classical
    rw [List.perm_iff_count]
    intro a
    simp only [List.count_append, List.count_cons]
    omega
  · intro D l L own i hi
    obtain ⟨x, hxe⟩ : ∃ x, x = xs.getD i Pl.zero := ⟨_, rfl⟩
    have hns := ndN_succ (bl := bl) hi
    rw [← hxe] at hns
    intro g E1 hE1
    have hf1 := finR hE1
    obtain ⟨H, hH⟩ : ∃ H, H = pgH 5 41 b5 (ndN xs bl i) R (ndN xs bl i).length g := ⟨_, rfl⟩
    have ht : ∀ q, Nat.beq 5 q = false → Nat.beq 41 q = false → Nat.beq 3 q = false → Nat.beq 4 q = false → Nat.beq 101 q = false → ∀ e ∈ H, Nat.beq e.t q = false := fun q q1 q2 q3 q4 q5 => by
      rw [hH]
      refine pgH_tags q1 q2 ?_ _ g
      rw [hR]
      intro e he
      rcases List.mem_cons.1 he with rfl | he
      · exact q3
      rcases List.mem_cons.1 he with rfl | he
      · exact q4
      · exact h.tags q q5 e he
    have hk1 : ∀ tl, hk (H ++ tl) 10 = hk tl 10 := fun tl => hk_skip 10 tl _ (ht 10 rfl rfl rfl rfl rfl)
    have hk2 : ∀ tl o, hset (H ++ tl) 10 o = H ++ hset tl 10 o := fun tl o => hset_skip 10 o tl _ (ht 10 rfl rfl rfl rfl rfl)
    have hk3 : ∀ tl, hk (H ++ tl) 3 = some ⟨3, b2, true, .c [v] 43⟩ := fun tl => by
      rw [hH, hR]
      by_cases hy : ndN xs bl i = []
      · rw [pgH_nil hy g]; rfl
      · rw [pgH_cons hy g]; rfl
    have hk4 : ∀ tl, hk (H ++ tl) 4 = some ⟨4, b3, true, .c [.v (.int .i64 bl)] 3⟩ := fun tl => by
      rw [hH, hR]
      by_cases hy : ndN xs bl i = []
      · rw [pgH_nil hy g]; rfl
      · rw [pgH_cons hy g]; rfl
    have hro : ∀ e ∈ ro, e ∈ H := fun e he => by rw [hH]; exact pgH_rest _ g e (by rw [hR]; simp [he])
    rw [← hH]
    simp (maxSteps := 2000000) only [go_sem, ↓dxc_true, ↓dxc_false, ↓bxc_true, ↓bxc_false, Nat.zero_add, Nat.add_zero, Nat.zero_mul, Nat.reduceBEq, Nat.reduceAdd, Nat.reduceMul, Nat.reduceSub, Nat.reduceLT, Nat.reduceLeDiff, Nat.reduceEqDiff, Nat.reduceDiv, Nat.reduceMod, Int.reduceAdd, Int.reduceSub, Int.reduceMul, Int.reduceDiv, Int.reduceMod, Int.reduceLT, Int.reduceLE, Int.reduceEq, Int.reduceToNat, Int.reducePow, Int.reduceNeg, ne_eq, not_false_eq_true, not_true_eq_false, decide_true, decide_false, Bool.not_true, Bool.not_false, forall_const, reduceCtorEq, implies_true, beq_self_eq_true, Int.cast_ofNat_Int, reduceIte, if_true, if_false, Bool.false_eq_true, psl, hf1, itm, ← hxe, Pl.len, Pl.one, hk1, hk2, hk3, hk4, true_and]
    intro b6 E2 hE2
    have hf2 := finR hE2
    have hr2 := finR_r hE2
    have hW2 : E2.W0 = E'.W0 ∧ E2.mods = E'.mods := by subst hE2; exact ⟨rfl, rfl⟩
    have e0 : ld1 x.f 0 = .v (.int .i64 x.bl) := rfl
    -- a page that is passed over
    have skip : nbS xs bl x = false → ∃ g', SubH (pgH 5 41 b5 (ndN xs bl (i + 1)) R (ndN xs bl (i + 1)).length g' ++ (⟨10, l, true, L.o .busy none⟩ :: ⟨11, D, true, .o (.deferred (some []))⟩ :: own))
        (⟨20, b6, true, .c x.f 29⟩ :: (H ++ (⟨10, l, true, L.o .busy none⟩ :: ⟨11, D, true, .o (.deferred (some []))⟩ :: own))) := fun hf => by
      have hsk : ndN xs bl (i + 1) = ndN xs bl i := by rw [hns, hf]; simp
      rw [hsk]
      refine ⟨g, ?_⟩
      rw [hH]
      by_cases hy : ndN xs bl i = []
      · rw [pgH_nil hy g]
        simp (maxSteps := 2000000) only [go_sem, ↓dxc_true, ↓dxc_false, ↓bxc_true, ↓bxc_false, Nat.zero_add, Nat.add_zero, Nat.zero_mul, Nat.reduceBEq, Nat.reduceAdd, Nat.reduceMul, Nat.reduceSub, Nat.reduceLT, Nat.reduceLeDiff, Nat.reduceEqDiff, Nat.reduceDiv, Nat.reduceMod, Int.reduceAdd, Int.reduceSub, Int.reduceMul, Int.reduceDiv, Int.reduceMod, Int.reduceLT, Int.reduceLE, Int.reduceEq, Int.reduceToNat, Int.reducePow, Int.reduceNeg, ne_eq, not_false_eq_true, not_true_eq_false, decide_true, decide_false, Bool.not_true, Bool.not_false, forall_const, reduceCtorEq, implies_true, beq_self_eq_true, Int.cast_ofNat_Int, reduceIte, if_true, if_false, Bool.false_eq_true, SubH, subH_refl']
      · rw [pgH_cons hy g]
        simp (maxSteps := 2000000) only [go_sem, ↓dxc_true, ↓dxc_false, ↓bxc_true, ↓bxc_false, Nat.zero_add, Nat.add_zero, Nat.zero_mul, Nat.reduceBEq, Nat.reduceAdd, Nat.reduceMul, Nat.reduceSub, Nat.reduceLT, Nat.reduceLeDiff, Nat.reduceEqDiff, Nat.reduceDiv, Nat.reduceMod, Int.reduceAdd, Int.reduceSub, Int.reduceMul, Int.reduceDiv, Int.reduceMod, Int.reduceLT, Int.reduceLE, Int.reduceEq, Int.reduceToNat, Int.reducePow, Int.reduceNeg, ne_eq, not_false_eq_true, not_true_eq_false, decide_true, decide_false, Bool.not_true, Bool.not_false, forall_const, reduceCtorEq, implies_true, beq_self_eq_true, Int.cast_ofNat_Int, reduceIte, if_true, if_false, Bool.false_eq_true, SubH, subH_refl']
    simp (maxSteps := 2000000) only [go_sem, ↓dxc_true, ↓dxc_false, ↓bxc_true, ↓bxc_false, Nat.zero_add, Nat.add_zero, Nat.zero_mul, Nat.reduceBEq, Nat.reduceAdd, Nat.reduceMul, Nat.reduceSub, Nat.reduceLT, Nat.reduceLeDiff, Nat.reduceEqDiff, Nat.reduceDiv, Nat.reduceMod, Int.reduceAdd, Int.reduceSub, Int.reduceMul, Int.reduceDiv, Int.reduceMod, Int.reduceLT, Int.reduceLE, Int.reduceEq, Int.reduceToNat, Int.reducePow, Int.reduceNeg, ne_eq, not_false_eq_true, not_true_eq_false, decide_true, decide_false, Bool.not_true, Bool.not_false, forall_const, reduceCtorEq, implies_true, beq_self_eq_true, Int.cast_ofNat_Int, reduceIte, if_true, if_false, Bool.false_eq_true, hf2, Pl.len, Pl.one, e0, hk1, hk2, hk3, hk4]
    refine ⟨fun hb => ?_, fun hb => skip (by simp [nbS, hb])⟩
    simp (maxSteps := 2000000) only [go_sem, ↓dxc_true, ↓dxc_false, ↓bxc_true, ↓bxc_false, Nat.zero_add, Nat.add_zero, Nat.zero_mul, Nat.reduceBEq, Nat.reduceAdd, Nat.reduceMul, Nat.reduceSub, Nat.reduceLT, Nat.reduceLeDiff, Nat.reduceEqDiff, Nat.reduceDiv, Nat.reduceMod, Int.reduceAdd, Int.reduceSub, Int.reduceMul, Int.reduceDiv, Int.reduceMod, Int.reduceLT, Int.reduceLE, Int.reduceEq, Int.reduceToNat, Int.reducePow, Int.reduceNeg, ne_eq, not_false_eq_true, not_true_eq_false, decide_true, decide_false, Bool.not_true, Bool.not_false, forall_const, reduceCtorEq, implies_true, beq_self_eq_true, Int.cast_ofNat_Int, reduceIte, if_true, if_false, Bool.false_eq_true, hk1, hk2, hk3, hk4, k1, k2, k3, k4, true_and]
    refine CallC.new (γ := Unit) (fun _ b => .f 34 [.p 21 b 0]) (fun _ => .c [v] 43) 300 (fun w1 hm1 => ?_) ?_
    · refine (all_C w1 v h.sv).mono ?_
      rintro e w' ⟨b, rfl, h1, h2, h3⟩
      exact ⟨(), b, rfl, h1, h2, h3⟩
    refine ⟨by simp (maxSteps := 2000000) only [go_sem, ↓dxc_true, ↓dxc_false, ↓bxc_true, ↓bxc_false, Nat.zero_add, Nat.add_zero, Nat.zero_mul, Nat.reduceBEq, Nat.reduceAdd, Nat.reduceMul, Nat.reduceSub, Nat.reduceLT, Nat.reduceLeDiff, Nat.reduceEqDiff, Nat.reduceDiv, Nat.reduceMod, Int.reduceAdd, Int.reduceSub, Int.reduceMul, Int.reduceDiv, Int.reduceMod, Int.reduceLT, Int.reduceLE, Int.reduceEq, Int.reduceToNat, Int.reducePow, Int.reduceNeg, ne_eq, not_false_eq_true, not_true_eq_false, decide_true, decide_false, Bool.not_true, Bool.not_false, forall_const, reduceCtorEq, implies_true, beq_self_eq_true, Int.cast_ofNat_Int, reduceIte, if_true, if_false, Bool.false_eq_true, Try.ntmps16], ?_⟩
    intro _ b7
    simp (maxSteps := 2000000) only [go_sem, ↓dxc_true, ↓dxc_false, ↓bxc_true, ↓bxc_false, Nat.zero_add, Nat.add_zero, Nat.zero_mul, Nat.reduceBEq, Nat.reduceAdd, Nat.reduceMul, Nat.reduceSub, Nat.reduceLT, Nat.reduceLeDiff, Nat.reduceEqDiff, Nat.reduceDiv, Nat.reduceMod, Int.reduceAdd, Int.reduceSub, Int.reduceMul, Int.reduceDiv, Int.reduceMod, Int.reduceLT, Int.reduceLE, Int.reduceEq, Int.reduceToNat, Int.reducePow, Int.reduceNeg, ne_eq, not_false_eq_true, not_true_eq_false, decide_true, decide_false, Bool.not_true, Bool.not_false, forall_const, reduceCtorEq, implies_true, beq_self_eq_true, Int.cast_ofNat_Int, reduceIte, if_true, if_false, Bool.false_eq_true, k1, k2, k3, k4, true_and]
    refine CodeC.rngF hr2 10 (b0 := true) (L0 := L) (st0 := .busy) (pe0 := none) (by simp (maxSteps := 2000000) only [go_sem, ↓dxc_true, ↓dxc_false, ↓bxc_true, ↓bxc_false, Nat.zero_add, Nat.add_zero, Nat.zero_mul, Nat.reduceBEq, Nat.reduceAdd, Nat.reduceMul, Nat.reduceSub, Nat.reduceLT, Nat.reduceLeDiff, Nat.reduceEqDiff, Nat.reduceDiv, Nat.reduceMod, Int.reduceAdd, Int.reduceSub, Int.reduceMul, Int.reduceDiv, Int.reduceMod, Int.reduceLT, Int.reduceLE, Int.reduceEq, Int.reduceToNat, Int.reducePow, Int.reduceNeg, ne_eq, not_false_eq_true, not_true_eq_false, decide_true, decide_false, Bool.not_true, Bool.not_false, forall_const, reduceCtorEq, implies_true, beq_self_eq_true, Int.cast_ofNat_Int, reduceIte, if_true, if_false, Bool.false_eq_true, hk1]) 12 40 300 (h := 34) (caps := [.p 21 b7 0]) (n := xs.length) rfl (hit b7) (by kernel_rfl) (fun i => rfl) (fun p hp => by rcases List.mem_cons.1 hp with rfl | hp; exact (by decide : 17 < 26); cases hp)
      (γ := fun i' => { _u : Unit // ∀ t, t < i' → standsS (xs.getD t Pl.zero) x = false }) (δ := { _u : Unit // ∃ t, t < xs.length ∧ standsS (xs.getD t Pl.zero) x = true })
      (fun _ _ => [⟨20, b6, true, .c x.f 29⟩]) (fun _ => [⟨20, b6, true, .c x.f 29⟩]) (fun _ => .exit 1)
      (H ++ (⟨10, l, true, L.o .busy none⟩ :: ⟨11, D, true, .o (.deferred (some []))⟩ :: own))
      ⟨(), by intro t ht; omega⟩ (fun w hm => ?_) ?_ ?_ ?_
    · have hd := Mem.dup hm ro (fun e he => ⟨by simp [hro e he], h.ro e he⟩)
      refine Mem.tags (hp := ⟨21, b7, true, .c [v] 43⟩ :: (ro ++ ⟨20, b6, true, .c x.f 29⟩ :: (H ++ (⟨10, l, true, L.o .busy none⟩ :: ⟨11, D, true, .o (.deferred (some []))⟩ :: own)))) (hd.perm ?_) (by simp)
      classical
      rw [List.perm_iff_count]
      intro a
      simp only [List.count_append, List.count_cons]
      omega
    · intro l' L' own' i' hi' g' E3 hE3
      have hf3 := finR hE3
      obtain ⟨y, hye⟩ : ∃ y, y = xs.getD i' Pl.zero := ⟨_, rfl⟩
      simp (maxSteps := 2000000) only [go_sem, ↓dxc_true, ↓dxc_false, ↓bxc_true, ↓bxc_false, Nat.zero_add, Nat.add_zero, Nat.zero_mul, Nat.reduceBEq, Nat.reduceAdd, Nat.reduceMul, Nat.reduceSub, Nat.reduceLT, Nat.reduceLeDiff, Nat.reduceEqDiff, Nat.reduceDiv, Nat.reduceMod, Int.reduceAdd, Int.reduceSub, Int.reduceMul, Int.reduceDiv, Int.reduceMod, Int.reduceLT, Int.reduceLE, Int.reduceEq, Int.reduceToNat, Int.reducePow, Int.reduceNeg, ne_eq, not_false_eq_true, not_true_eq_false, decide_true, decide_false, Bool.not_true, Bool.not_false, forall_const, reduceCtorEq, implies_true, beq_self_eq_true, Int.cast_ofNat_Int, reduceIte, if_true, if_false, Bool.false_eq_true, psl, hf3, itm, ← hye, Pl.len, Pl.one]
      intro b8 E4 hE4
      have hf4 := finR hE4
      refine CallC.pur (.v (.bool (standsS y x))) 300 (fun w1 hm1 => stands_C w1 y x) ?_
      cases hst : standsS y x with
      | false =>
        simp (maxSteps := 2000000) only [go_sem, ↓dxc_true, ↓dxc_false, ↓bxc_true, ↓bxc_false, Nat.zero_add, Nat.add_zero, Nat.zero_mul, Nat.reduceBEq, Nat.reduceAdd, Nat.reduceMul, Nat.reduceSub, Nat.reduceLT, Nat.reduceLeDiff, Nat.reduceEqDiff, Nat.reduceDiv, Nat.reduceMod, Int.reduceAdd, Int.reduceSub, Int.reduceMul, Int.reduceDiv, Int.reduceMod, Int.reduceLT, Int.reduceLE, Int.reduceEq, Int.reduceToNat, Int.reducePow, Int.reduceNeg, ne_eq, not_false_eq_true, not_true_eq_false, decide_true, decide_false, Bool.not_true, Bool.not_false, forall_const, reduceCtorEq, implies_true, beq_self_eq_true, Int.cast_ofNat_Int, reduceIte, if_true, if_false, Bool.false_eq_true, hf4]
        exact ⟨⟨(), fun t ht => by
          by_cases hti : t = i'
          · subst hti; rw [← hye]; exact hst
          · exact g'.2 t (by omega)⟩, by simp (maxSteps := 2000000) only [go_sem, ↓dxc_true, ↓dxc_false, ↓bxc_true, ↓bxc_false, Nat.zero_add, Nat.add_zero, Nat.zero_mul, Nat.reduceBEq, Nat.reduceAdd, Nat.reduceMul, Nat.reduceSub, Nat.reduceLT, Nat.reduceLeDiff, Nat.reduceEqDiff, Nat.reduceDiv, Nat.reduceMod, Int.reduceAdd, Int.reduceSub, Int.reduceMul, Int.reduceDiv, Int.reduceMod, Int.reduceLT, Int.reduceLE, Int.reduceEq, Int.reduceToNat, Int.reducePow, Int.reduceNeg, ne_eq, not_false_eq_true, not_true_eq_false, decide_true, decide_false, Bool.not_true, Bool.not_false, forall_const, reduceCtorEq, implies_true, beq_self_eq_true, Int.cast_ofNat_Int, reduceIte, if_true, if_false, Bool.false_eq_true, SubH, subH_refl']⟩
      | true =>
        simp (maxSteps := 2000000) only [go_sem, ↓dxc_true, ↓dxc_false, ↓bxc_true, ↓bxc_false, Nat.zero_add, Nat.add_zero, Nat.zero_mul, Nat.reduceBEq, Nat.reduceAdd, Nat.reduceMul, Nat.reduceSub, Nat.reduceLT, Nat.reduceLeDiff, Nat.reduceEqDiff, Nat.reduceDiv, Nat.reduceMod, Int.reduceAdd, Int.reduceSub, Int.reduceMul, Int.reduceDiv, Int.reduceMod, Int.reduceLT, Int.reduceLE, Int.reduceEq, Int.reduceToNat, Int.reducePow, Int.reduceNeg, ne_eq, not_false_eq_true, not_true_eq_false, decide_true, decide_false, Bool.not_true, Bool.not_false, forall_const, reduceCtorEq, implies_true, beq_self_eq_true, Int.cast_ofNat_Int, reduceIte, if_true, if_false, Bool.false_eq_true, hf4]
        exact ⟨⟨(), i', hi', by rw [← hye]; exact hst⟩, by simp (maxSteps := 2000000) only [go_sem, ↓dxc_true, ↓dxc_false, ↓bxc_true, ↓bxc_false, Nat.zero_add, Nat.add_zero, Nat.zero_mul, Nat.reduceBEq, Nat.reduceAdd, Nat.reduceMul, Nat.reduceSub, Nat.reduceLT, Nat.reduceLeDiff, Nat.reduceEqDiff, Nat.reduceDiv, Nat.reduceMod, Int.reduceAdd, Int.reduceSub, Int.reduceMul, Int.reduceDiv, Int.reduceMod, Int.reduceLT, Int.reduceLE, Int.reduceEq, Int.reduceToNat, Int.reducePow, Int.reduceNeg, ne_eq, not_false_eq_true, not_true_eq_false, decide_true, decide_false, Bool.not_true, Bool.not_false, forall_const, reduceCtorEq, implies_true, beq_self_eq_true, Int.cast_ofNat_Int, reduceIte, if_true, if_false, Bool.false_eq_true, SubH, subH_refl']⟩
    · intro g'
      have hnb : nbS xs bl x = true := by
        have : xs.any (fun y => standsS y x) = false := by
          rw [List.any_eq_false]
          intro y hy
          obtain ⟨t, ht, rfl⟩ := List.getElem_of_mem hy
          have := g'.2 t ht
          simpa [ht] using this
        simp [nbS, hb, this]
      rw [hnb, if_pos rfl] at hns
      by_cases hy : ndN xs bl i = []
      · rw [pgH_nil hy g] at hH
        rw [hy, List.nil_append] at hns
        subst hH
        simp (maxSteps := 2000000) only [go_sem, ↓dxc_true, ↓dxc_false, ↓bxc_true, ↓bxc_false, Nat.zero_add, Nat.add_zero, Nat.zero_mul, Nat.reduceBEq, Nat.reduceAdd, Nat.reduceMul, Nat.reduceSub, Nat.reduceLT, Nat.reduceLeDiff, Nat.reduceEqDiff, Nat.reduceDiv, Nat.reduceMod, Int.reduceAdd, Int.reduceSub, Int.reduceMul, Int.reduceDiv, Int.reduceMod, Int.reduceLT, Int.reduceLE, Int.reduceEq, Int.reduceToNat, Int.reducePow, Int.reduceNeg, ne_eq, not_false_eq_true, not_true_eq_false, decide_true, decide_false, Bool.not_true, Bool.not_false, forall_const, reduceCtorEq, implies_true, beq_self_eq_true, Int.cast_ofNat_Int, reduceIte, if_true, if_false, Bool.false_eq_true, hf2, Pl.len, Pl.one, plO, plD, List.length_cons, List.length_nil, false_implies, true_and, and_true]
        intro b8 b9 c hc
        rw [hns]
        refine ⟨PG.mk (i := 1) b9 c (rpt (c - 1) Pl.zero.f) hc.1 hc.2 (by rw [rpt_len _ _ 9 Pl.zero.len]; omega), ?_⟩
        simp (maxSteps := 2000000) only [go_sem, ↓dxc_true, ↓dxc_false, ↓bxc_true, ↓bxc_false, Nat.zero_add, Nat.add_zero, Nat.zero_mul, Nat.reduceBEq, Nat.reduceAdd, Nat.reduceMul, Nat.reduceSub, Nat.reduceLT, Nat.reduceLeDiff, Nat.reduceEqDiff, Nat.reduceDiv, Nat.reduceMod, Int.reduceAdd, Int.reduceSub, Int.reduceMul, Int.reduceDiv, Int.reduceMod, Int.reduceLT, Int.reduceLE, Int.reduceEq, Int.reduceToNat, Int.reducePow, Int.reduceNeg, ne_eq, not_false_eq_true, not_true_eq_false, decide_true, decide_false, Bool.not_true, Bool.not_false, forall_const, reduceCtorEq, implies_true, beq_self_eq_true, Int.cast_ofNat_Int, reduceIte, if_true, if_false, Bool.false_eq_true, pgH, SubH, subH_refl', List.length_cons, List.length_nil, List.take, rows_one]
        rfl
      · rw [pgH_cons hy g] at hH
        subst hH
        have hyl : (ndN xs bl i).length ≤ 100000 := by
          have h1 : (ndN xs bl i).length ≤ (xs.take i).length := by rw [ndN]; exact List.length_filter_le _ _
          have h2 : (xs.take i).length ≤ xs.length := by simp [Nat.min_le_right]
          omega
        have g1 := g.h1
        have g2 := g.h2
        have g3 := g.h3
        have l1 : (rows Pl.f (ndN xs bl i)).length = (ndN xs bl i).length * 9 := rows_length Pl.len _
        have l2 := rows_hdN Pl.len (ndN xs bl i) g.j ((ndN xs bl i).length * 9) rfl
        have o1 := allOne_rows Pl.one (ndN xs bl i)
        simp (maxSteps := 2000000) only [go_sem, ↓dxc_true, ↓dxc_false, ↓bxc_true, ↓bxc_false, Nat.zero_add, Nat.add_zero, Nat.zero_mul, Nat.reduceBEq, Nat.reduceAdd, Nat.reduceMul, Nat.reduceSub, Nat.reduceLT, Nat.reduceLeDiff, Nat.reduceEqDiff, Nat.reduceDiv, Nat.reduceMod, Int.reduceAdd, Int.reduceSub, Int.reduceMul, Int.reduceDiv, Int.reduceMod, Int.reduceLT, Int.reduceLE, Int.reduceEq, Int.reduceToNat, Int.reducePow, Int.reduceNeg, ne_eq, not_false_eq_true, not_true_eq_false, decide_true, decide_false, Bool.not_true, Bool.not_false, forall_const, reduceCtorEq, implies_true, beq_self_eq_true, Int.cast_ofNat_Int, reduceIte, if_true, if_false, Bool.false_eq_true, hf2, Pl.len, Pl.one, plO, plD, List.length_append, l1, l2, o1, allOne_append, List.length_cons, List.length_nil, false_implies, true_and, and_true]
        clear l1 l2 o1
        refine fun b8 => ⟨⟨g3, g1, by omega, by omega, g2⟩, fun b9 c j hc => ?_⟩
        rw [hns]
        have hne : ndN xs bl i ++ [x] ≠ [] := by simp
        refine ⟨⟨b9, c, j, by rw [List.length_append]; exact hc.1, hc.2.1, by rw [List.length_append]; exact hc.2.2⟩, ?_⟩
        rw [pgH_cons hne]
        simp (maxSteps := 2000000) only [go_sem, ↓dxc_true, ↓dxc_false, ↓bxc_true, ↓bxc_false, Nat.zero_add, Nat.add_zero, Nat.zero_mul, Nat.reduceBEq, Nat.reduceAdd, Nat.reduceMul, Nat.reduceSub, Nat.reduceLT, Nat.reduceLeDiff, Nat.reduceEqDiff, Nat.reduceDiv, Nat.reduceMod, Int.reduceAdd, Int.reduceSub, Int.reduceMul, Int.reduceDiv, Int.reduceMod, Int.reduceLT, Int.reduceLE, Int.reduceEq, Int.reduceToNat, Int.reducePow, Int.reduceNeg, ne_eq, not_false_eq_true, not_true_eq_false, decide_true, decide_false, Bool.not_true, Bool.not_false, forall_const, reduceCtorEq, implies_true, beq_self_eq_true, Int.cast_ofNat_Int, reduceIte, if_true, if_false, Bool.false_eq_true, SubH, subH_refl', rows_append, rows_one, List.length_append, List.length_cons, List.length_nil]
    · intro c
      have hnb : nbS xs bl x = false := by
        obtain ⟨_, t, ht, hst⟩ := c
        have : xs.any (fun y => standsS y x) = true := by
          rw [List.any_eq_true]
          exact ⟨_, List.mem_of_getElem? (getD_some ht), hst⟩
        simp [nbS, hb, this]
      simp (maxSteps := 2000000) only [go_sem, ↓dxc_true, ↓dxc_false, ↓bxc_true, ↓bxc_false, Nat.zero_add, Nat.add_zero, Nat.zero_mul, Nat.reduceBEq, Nat.reduceAdd, Nat.reduceMul, Nat.reduceSub, Nat.reduceLT, Nat.reduceLeDiff, Nat.reduceEqDiff, Nat.reduceDiv, Nat.reduceMod, Int.reduceAdd, Int.reduceSub, Int.reduceMul, Int.reduceDiv, Int.reduceMod, Int.reduceLT, Int.reduceLE, Int.reduceEq, Int.reduceToNat, Int.reducePow, Int.reduceNeg, ne_eq, not_false_eq_true, not_true_eq_false, decide_true, decide_false, Bool.not_true, Bool.not_false, forall_const, reduceCtorEq, implies_true, beq_self_eq_true, Int.cast_ofNat_Int, reduceIte, if_true, if_false, Bool.false_eq_true, hf2]
      exact skip hnb
  · intro D g
    have hnd : ndN xs bl xs.length = neededS bs bl := by rw [ndN, List.take_length, hxs]; rfl
    have hRt : ∀ e ∈ R, Nat.beq e.t 11 = false := by
      rw [hR]
      intro e he
      rcases List.mem_cons.1 he with rfl | he
      · rfl
      rcases List.mem_cons.1 he with rfl | he
      · rfl
      · exact h.tags 11 rfl e he
    have hkR : ∀ tl, hk (R ++ tl) 11 = hk tl 11 := fun tl => hk_skip 11 tl R hRt
    have hsR : ∀ tl o, hset (R ++ tl) 11 o = R ++ hset tl 11 o := fun tl o => hset_skip 11 o tl R hRt
    by_cases hy : ndN xs bl xs.length = []
    · rw [pgH_nil hy g]
      simp (maxSteps := 2000000) only [go_sem, ↓dxc_true, ↓dxc_false, ↓bxc_true, ↓bxc_false, Nat.zero_add, Nat.add_zero, Nat.zero_mul, Nat.reduceBEq, Nat.reduceAdd, Nat.reduceMul, Nat.reduceSub, Nat.reduceLT, Nat.reduceLeDiff, Nat.reduceEqDiff, Nat.reduceDiv, Nat.reduceMod, Int.reduceAdd, Int.reduceSub, Int.reduceMul, Int.reduceDiv, Int.reduceMod, Int.reduceLT, Int.reduceLE, Int.reduceEq, Int.reduceToNat, Int.reducePow, Int.reduceNeg, ne_eq, not_false_eq_true, not_true_eq_false, decide_true, decide_false, Bool.not_true, Bool.not_false, forall_const, reduceCtorEq, implies_true, beq_self_eq_true, Int.cast_ofNat_Int, reduceIte, if_true, if_false, Bool.false_eq_true, hret]
      refine fun a w hok => ?_
      refine ex_sem 300 (.K .ret [] _) ?_ a w hok
      simp (maxSteps := 2000000) only [go_sem, ↓dxc_true, ↓dxc_false, ↓bxc_true, ↓bxc_false, Nat.zero_add, Nat.add_zero, Nat.zero_mul, Nat.reduceBEq, Nat.reduceAdd, Nat.reduceMul, Nat.reduceSub, Nat.reduceLT, Nat.reduceLeDiff, Nat.reduceEqDiff, Nat.reduceDiv, Nat.reduceMod, Int.reduceAdd, Int.reduceSub, Int.reduceMul, Int.reduceDiv, Int.reduceMod, Int.reduceLT, Int.reduceLE, Int.reduceEq, Int.reduceToNat, Int.reducePow, Int.reduceNeg, ne_eq, not_false_eq_true, not_true_eq_false, decide_true, decide_false, Bool.not_true, Bool.not_false, forall_const, reduceCtorEq, implies_true, beq_self_eq_true, Int.cast_ofNat_Int, reduceIte, if_true, if_false, Bool.false_eq_true, finM_ret hE, Try.results16]
      refine ⟨11, D, rfl, by simp (maxSteps := 2000000) only [go_sem, ↓dxc_true, ↓dxc_false, ↓bxc_true, ↓bxc_false, Nat.zero_add, Nat.add_zero, Nat.zero_mul, Nat.reduceBEq, Nat.reduceAdd, Nat.reduceMul, Nat.reduceSub, Nat.reduceLT, Nat.reduceLeDiff, Nat.reduceEqDiff, Nat.reduceDiv, Nat.reduceMod, Int.reduceAdd, Int.reduceSub, Int.reduceMul, Int.reduceDiv, Int.reduceMod, Int.reduceLT, Int.reduceLE, Int.reduceEq, Int.reduceToNat, Int.reducePow, Int.reduceNeg, ne_eq, not_false_eq_true, not_true_eq_false, decide_true, decide_false, Bool.not_true, Bool.not_false, forall_const, reduceCtorEq, implies_true, beq_self_eq_true, Int.cast_ofNat_Int, reduceIte, if_true, if_false, Bool.false_eq_true, hkR], ?_⟩
      simp (maxSteps := 2000000) only [go_sem, ↓dxc_true, ↓dxc_false, ↓bxc_true, ↓bxc_false, Nat.zero_add, Nat.add_zero, Nat.zero_mul, Nat.reduceBEq, Nat.reduceAdd, Nat.reduceMul, Nat.reduceSub, Nat.reduceLT, Nat.reduceLeDiff, Nat.reduceEqDiff, Nat.reduceDiv, Nat.reduceMod, Int.reduceAdd, Int.reduceSub, Int.reduceMul, Int.reduceDiv, Int.reduceMod, Int.reduceLT, Int.reduceLE, Int.reduceEq, Int.reduceToNat, Int.reducePow, Int.reduceNeg, ne_eq, not_false_eq_true, not_true_eq_false, decide_true, decide_false, Bool.not_true, Bool.not_false, forall_const, reduceCtorEq, implies_true, beq_self_eq_true, Int.cast_ofNat_Int, reduceIte, if_true, if_false, Bool.false_eq_true, hsR]
      exact fun w' hm' => ⟨_, rfl, Or.inl ⟨by rw [← hnd, hy], rfl, hm'.below⟩⟩
    · rw [pgH_cons hy g]
      simp (maxSteps := 2000000) only [go_sem, ↓dxc_true, ↓dxc_false, ↓bxc_true, ↓bxc_false, Nat.zero_add, Nat.add_zero, Nat.zero_mul, Nat.reduceBEq, Nat.reduceAdd, Nat.reduceMul, Nat.reduceSub, Nat.reduceLT, Nat.reduceLeDiff, Nat.reduceEqDiff, Nat.reduceDiv, Nat.reduceMod, Int.reduceAdd, Int.reduceSub, Int.reduceMul, Int.reduceDiv, Int.reduceMod, Int.reduceLT, Int.reduceLE, Int.reduceEq, Int.reduceToNat, Int.reducePow, Int.reduceNeg, ne_eq, not_false_eq_true, not_true_eq_false, decide_true, decide_false, Bool.not_true, Bool.not_false, forall_const, reduceCtorEq, implies_true, beq_self_eq_true, Int.cast_ofNat_Int, reduceIte, if_true, if_false, Bool.false_eq_true, hret]
      refine fun a w hok => ?_
      refine ex_sem 300 (.K .ret [] _) ?_ a w hok
      simp (maxSteps := 2000000) only [go_sem, ↓dxc_true, ↓dxc_false, ↓bxc_true, ↓bxc_false, Nat.zero_add, Nat.add_zero, Nat.zero_mul, Nat.reduceBEq, Nat.reduceAdd, Nat.reduceMul, Nat.reduceSub, Nat.reduceLT, Nat.reduceLeDiff, Nat.reduceEqDiff, Nat.reduceDiv, Nat.reduceMod, Int.reduceAdd, Int.reduceSub, Int.reduceMul, Int.reduceDiv, Int.reduceMod, Int.reduceLT, Int.reduceLE, Int.reduceEq, Int.reduceToNat, Int.reducePow, Int.reduceNeg, ne_eq, not_false_eq_true, not_true_eq_false, decide_true, decide_false, Bool.not_true, Bool.not_false, forall_const, reduceCtorEq, implies_true, beq_self_eq_true, Int.cast_ofNat_Int, reduceIte, if_true, if_false, Bool.false_eq_true, finM_ret hE, Try.results16]
      refine ⟨11, D, rfl, by simp (maxSteps := 2000000) only [go_sem, ↓dxc_true, ↓dxc_false, ↓bxc_true, ↓bxc_false, Nat.zero_add, Nat.add_zero, Nat.zero_mul, Nat.reduceBEq, Nat.reduceAdd, Nat.reduceMul, Nat.reduceSub, Nat.reduceLT, Nat.reduceLeDiff, Nat.reduceEqDiff, Nat.reduceDiv, Nat.reduceMod, Int.reduceAdd, Int.reduceSub, Int.reduceMul, Int.reduceDiv, Int.reduceMod, Int.reduceLT, Int.reduceLE, Int.reduceEq, Int.reduceToNat, Int.reducePow, Int.reduceNeg, ne_eq, not_false_eq_true, not_true_eq_false, decide_true, decide_false, Bool.not_true, Bool.not_false, forall_const, reduceCtorEq, implies_true, beq_self_eq_true, Int.cast_ofNat_Int, reduceIte, if_true, if_false, Bool.false_eq_true, hkR], ?_⟩
      simp (maxSteps := 2000000) only [go_sem, ↓dxc_true, ↓dxc_false, ↓bxc_true, ↓bxc_false, Nat.zero_add, Nat.add_zero, Nat.zero_mul, Nat.reduceBEq, Nat.reduceAdd, Nat.reduceMul, Nat.reduceSub, Nat.reduceLT, Nat.reduceLeDiff, Nat.reduceEqDiff, Nat.reduceDiv, Nat.reduceMod, Int.reduceAdd, Int.reduceSub, Int.reduceMul, Int.reduceDiv, Int.reduceMod, Int.reduceLT, Int.reduceLE, Int.reduceEq, Int.reduceToNat, Int.reducePow, Int.reduceNeg, ne_eq, not_false_eq_true, not_true_eq_false, decide_true, decide_false, Bool.not_true, Bool.not_false, forall_const, reduceCtorEq, implies_true, beq_self_eq_true, Int.cast_ofNat_Int, reduceIte, if_true, if_false, Bool.false_eq_true, hsR]
      rw [← hnd]
      exact fun w' hm' => ⟨_, rfl, Or.inr ⟨hy, g.b, g.c, g.j, rfl, ⟨g.h1, g.h2, g.h3⟩, by simpa using hm'.wr _ List.mem_cons_self rfl, hm'.at (t := 41) rfl, hm'.below⟩⟩
  · intro D c
    cases c

end Go.Proofs
