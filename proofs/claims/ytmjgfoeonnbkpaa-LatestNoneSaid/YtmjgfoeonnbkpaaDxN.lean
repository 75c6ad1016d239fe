/- Regions that draw their order: one walk serves every order, where each operation comes to the same value in every world that the others may lead to, and what turns the world stands between all that comes before and all that comes behind it. -/
import Derived.Test.YtmjgfoeonnbkpaaDxM
import Derived.OrdersIn
import Derived.Deep.Quiet
namespace Go.Dx
open Go.RowKit

section
variable {r : Option Nat} {P : Program} {ops : Array Oper} {Q : Act → World → Prop}

/-- Only the normal exit. -/
def QN (Q : Act → World → Prop) (e : Exit) (a : Act) (w : World) : Prop := e = .normal ∧ Q a w

def closedB (C : World → Prop) : Prop := ∀ w w', C w → Bel w.heap.size w w' → C w'

/-- A quiet operation's result. -/
def QR (r : Option Nat) (P : Program) (v : Value) (w : World) : Result Next → Prop
  | .ok (.value u) w' => u = v ∧ Bel w.heap.size w w'
  | .ok (.enter f args) w' => w' = w ∧ CallsIn (fen r) (0 - 1) P f args w fun e w'' => e = .returned v ∧ Bel w.heap.size w w''
  | _ => False

/-- In every world of the class the operation yields v and turns nothing that lies. -/
def QY (r : Option Nat) (P : Program) (ops : Array Oper) (C : World → Prop) (o : Oper) (v : Value) (a : Act) : Prop :=
  (Region.wanted o (yielded ops a.tmps) = true ∧ (∀ c, o.op ≠ .defer c) ∧ ∀ w, C w → QR r P v w ((execOp a.eval o).run P w)) ∨ (Region.wanted o (yielded ops a.tmps) = false ∧ v = undef)

theorem QY.mono {C C' : World → Prop} {o : Oper} {v : Value} {a : Act} (h : QY r P ops C o v a) (hc : ∀ w, C' w → C w) : QY r P ops C' o v a :=
  h.imp (fun h => ⟨h.1, h.2.1, fun w hw => h.2.2 w (hc w hw)⟩) id

theorem QY.keep {C : World → Prop} {oi : Oper} {v : Value} {a : Act} (hsi : ∀ cs b, oi.op ≠ .select cs b) (h : QY r P ops C oi v a) (dst : Option Tmp) (u : Value) (h3 : ∀ d, dst = some d → d ∉ oi.looksAt ops) :
    QY r P ops C oi v (a.put dst u) := by
  unfold QY
  rw [wanted_put oi a dst u h3, execOp_put oi hsi a dst u h3]
  exact h

theorem QY.keepD {C : World → Prop} {oi : Oper} {v : Value} {a : Act} (h : QY r P ops C oi v a) (d : Deferred) : QY r P ops C oi v { a with defers := d :: a.defers } := h

theorem QY.wpOpIn {C : World → Prop} {i : Nat} {o : Oper} {v : Value} {a : Act} {w : World} {K : Act → World → Prop} (hi : ops[i]? = some o) (hy : QY r P ops C o v a) (hc : closedB C) (hw : C w)
    (h : ∀ w', C w' → K (a.put o.dst v) w') : wpOpIn (fen r) 0 P ops (QN Q) i K a w := by
  unfold Go.wpOpIn
  simp only [hi]
  rcases hy with ⟨hwt, hnd, hv⟩ | ⟨hwt, rfl⟩
  · simp only [hwt, if_true, Oper.wpIn]
    refine ⟨fun f _ => fen_fn _ f, ?_⟩
    rw [semAt_fen _ _ hnd]
    have := hv w hw
    generalize (execOp a.eval o).run P w = res at this
    unfold QR at this
    split at this
    · obtain ⟨rfl, hb⟩ := this
      exact h _ (hc _ _ hw hb)
    · obtain ⟨rfl, hb⟩ := this
      refine ⟨fen_depth _ _, CallsIn.mono hb ?_⟩
      rintro e w'' ⟨rfl, hb⟩
      exact h _ (hc _ _ hw hb)
    · exact this.elim
  · simp only [hwt, Bool.false_eq_true, if_false]
    exact ⟨fun f _ => fen_fn _ f, h _ hw⟩

theorem wpOpIn_putQ {C : World → Prop} {j : Nat} {oi oj : Oper} {v : Value} (hj : ops[j]? = some oj) (hap : oi.apart ops oj = true)
    (hsi : ∀ cs b, oi.op ≠ .select cs b) (hsj : ∀ cs b, oj.op ≠ .select cs b) {K : Act → World → Prop} {a : Act} {w : World}
    (hy : QY r P ops C oi v a) (h : wpOpIn (fen r) 0 P ops (QN Q) j K (a.put oi.dst v) w) :
    wpOpIn (fen r) 0 P ops (QN Q) j (fun a' w' => QY r P ops C oi v a' ∧ K (a'.put oi.dst v) w') a w := by
  obtain ⟨h1, h2, h3⟩ := Oper.apart_spec hap
  have keep : ∀ (a : Act), QY r P ops C oi v a → ∀ u, QY r P ops C oi v (a.put oj.dst u) := fun a hy u => hy.keep hsi _ u h3
  have sem : ∀ a : Act, oj.semAt (fen r).round (a.put oi.dst v).eval = oj.semAt (fen r).round a.eval := fun a => by
    by_cases hd : ∃ c, oj.op = .defer c
    · obtain ⟨c, hc⟩ := hd
      have e := resolve_congr (ρ := (a.put oi.dst v).eval) (ρ' := a.eval) c oj.type fun x hx => Act.eval_put fun d hd hxd => h1 d hd (by
        subst hxd
        exact List.mem_append_left _ (List.mem_filterMap.2 ⟨.tmp d, by simpa [hc, Op.operands] using hx, rfl⟩))
      unfold Oper.semAt
      rw [execOp_put oj hsj a oi.dst v h1, hc]
      cases (fen r).round with
      | none => rfl
      | some l => simp only [e]
    · rw [semAt_fen _ _ (fun c hc => hd ⟨c, hc⟩), semAt_fen _ _ (fun c hc => hd ⟨c, hc⟩), execOp_put oj hsj a oi.dst v h1]
  unfold wpOpIn at *
  simp only [hj] at *
  rw [wanted_put oj a oi.dst v h1, about_put oj w a oi.dst v h1] at h
  split
  · rename_i hw
    simp only [hw, if_true] at h
    unfold Oper.wpIn at *
    rw [about_put oj w a oi.dst v h1] at h
    refine ⟨h.1, ?_⟩
    have h := h.2
    rw [sem] at h
    generalize (oj.semAt (fen r).round a.eval).run P w = rr at *
    cases rr with
    | ok x w' =>
      cases x <;> simp only [Oper.uponIn] at h ⊢
      case value u => exact ⟨keep a hy u, by rw [← Act.put_comm a v u h2]; exact h⟩
      case skip => exact ⟨keep a hy _, by rw [← Act.put_comm a v undef h2]; exact h⟩
      case defer d =>
        refine ⟨keep _ (hy.keepD d) _, ?_⟩
        rw [← Act.put_comm _ v undef h2, ← Act.put_defers]
        exact h
      case enter f args =>
        refine ⟨h.1, CallsIn.mono h.2 fun e w'' he => ?_⟩
        cases e with
        | returned u => exact ⟨keep a hy u, by rw [← Act.put_comm a v u h2]; exact he⟩
        | panicked c => exact absurd he.1 (by simp)
        | outgrown => exact he
      case row row args => exact ⟨h.1, RowsIn.mono h.2 fun u w'' he => ⟨keep a hy u, by rw [← Act.put_comm a v u h2]; exact he⟩⟩
      case round l f tmps assign body =>
        refine ⟨h.1, RoundIn.mono h.2 fun e w'' he => ?_⟩
        cases e with
        | returned u => exact ⟨keep a hy u, by rw [← Act.put_comm a v u h2]; exact he⟩
        | panicked c => exact absurd he.1 (by simp)
        | outgrown => exact he
    | halt x w' =>
      cases x <;> simp only [Oper.uponIn] at h ⊢
      case panic u => exact absurd h.1 (by simp)
  · rename_i hw
    simp only [hw] at h
    exact ⟨h.1, keep a hy _, by rw [← Act.put_comm a v undef h2]; exact h.2⟩

/-! ### What comes before what -/

def Reach (ops : Array Oper) (m i : Nat) : Prop := ∀ listed : Array Bool,
  (∀ j o, ops[j]? = some o → listed.getD j false = true → ∀ e ∈ o.after, Region.binds .any e = true → listed.getD e.on false = true) →
  (∀ o, ops[m]? = some o → ∀ e ∈ o.after, Region.binds .any e = true → listed.getD e.on false = true) → listed.getD i false = true

def preds (ops : Array Oper) (m : Nat) : List Nat := ((ops[m]?).map fun o => (o.after.toList.filter (Region.binds .any)).map (·.on)).getD []

def reach (ops : Array Oper) : Nat → List Nat → List Nat
  | 0, acc => acc
  | n + 1, acc => reach ops n ((acc.flatMap (preds ops)).filter (fun x => !acc.contains x) ++ acc).eraseDups

theorem mem_preds {m i : Nat} (h : i ∈ preds ops m) : ∃ o, ops[m]? = some o ∧ ∃ e ∈ o.after, Region.binds .any e = true ∧ e.on = i := by
  unfold preds at h
  cases ho : ops[m]? with
  | none => simp [ho] at h
  | some o =>
    simp only [ho, Option.map_some, Option.getD_some, List.mem_map, List.mem_filter, Array.mem_toList_iff] at h
    obtain ⟨e, ⟨h1, h2⟩, h3⟩ := h
    exact ⟨o, rfl, e, h1, h2, h3⟩

theorem reach_spec {m : Nat} : ∀ (n : Nat) (acc : List Nat), (∀ i ∈ acc, Reach ops m i) → ∀ i ∈ reach ops n acc, Reach ops m i := by
  intro n
  induction n with
  | zero => exact fun acc h i hi => h i hi
  | succ n ih =>
    intro acc h
    refine ih _ ?_
    intro i hi
    rw [List.mem_eraseDups, List.mem_append] at hi
    rcases hi with hi | hi
    · rw [List.mem_filter, List.mem_flatMap] at hi
      obtain ⟨⟨j, hj, hij⟩, _⟩ := hi
      obtain ⟨o, ho, e, he, hb, rfl⟩ := mem_preds hij
      exact fun listed hcl hm => hcl j o ho (h j hj listed hcl hm) e he hb
    · exact h i hi

def bar (ops : Array Oper) (listed : Array Bool) (m : Nat) : Bool :=
  let rs := reach ops ops.size (preds ops m)
  (List.range ops.size).all fun i => !listed.getD i true || rs.contains i

def Bar (ops : Array Oper) (listed : Array Bool) (m : Nat) : Prop := ∀ i, i < ops.size → listed.getD i true = true → Reach ops m i

theorem bar_spec {listed : Array Bool} {m : Nat} (h : bar ops listed m = true) : Bar ops listed m := by
  intro i hi hl
  simp only [bar, List.all_eq_true, List.mem_range] at h
  have := h i hi
  simp only [hl, Bool.not_true, Bool.false_or, List.contains_iff_mem] at this
  refine reach_spec _ _ ?_ i this
  intro j hj
  obtain ⟨o, ho, e, he, hb, rfl⟩ := mem_preds hj
  exact fun listed _ hm => hm o ho e he hb

/-- What is listed is listed with all that comes before it. -/
def Down (ops : Array Oper) (listed : Array Bool) : Prop :=
  ∀ j o, ops[j]? = some o → listed.getD j false = true → ∀ e ∈ o.after, Region.binds .any e = true → listed.getD e.on false = true

theorem Down.add {listed : Array Bool} {i : Nat} (h : Down ops listed) (hi : i ∈ Region.ready .any ops listed) : Down ops (listed.setIfInBounds i true) := by
  intro j o ho hl e he hb
  obtain ⟨_, oi, hoi, hall⟩ := mem_ready.1 hi
  by_cases hij : i = j
  · subst hij
    rw [hoi] at ho; cases ho
    exact getD_set_true (hall e he hb)
  · rw [getD_set_ne false hij] at hl
    exact getD_set_true (h j o ho hl e he hb)

/-! ### The walk of all orders -/

def wpM (r : Option Nat) (P : Program) (ops : Array Oper) (Q : Act → World → Prop) : Nat → Array Bool → Act → (World → Prop) → Prop
  | 0, listed, a, C => Region.ready .any ops listed = [] ∧ ∀ w, C w → Q a w
  | f + 1, listed, a, C => (Region.ready .any ops listed = [] → ∀ w, C w → Q a w) ∧
    ((∀ i ∈ Region.ready .any ops listed, ∀ w, C w → wpOpIn (fen r) 0 P ops (QN Q) i (fun a' w' => ∃ C', (∀ w, C' w → C w) ∧ closedB C' ∧ C' w' ∧ wpM r P ops Q f (listed.setIfInBounds i true) a' C') a w) ∨
     (∃ m, Region.ready .any ops listed = [m] ∧ Bar ops listed m ∧ ∀ w, C w → wpOpIn (fen r) 0 P ops (QN Q) m (fun a' w' => ∃ C', closedB C' ∧ C' w' ∧ wpM r P ops Q f (listed.setIfInBounds m true) a' C') a w))

theorem wpM_any : ∀ (f : Nat) (listed : Array Bool) (a : Act) (C : World → Prop), wpM r P ops Q f listed a C → ∀ w, C w → wpAnyIn (fen r) 0 P .any ops (QN Q) f listed a w := by
  intro f
  induction f with
  | zero => exact fun listed a C h w hw => ⟨h.1, rfl, h.2 w hw⟩
  | succ f ih =>
    intro listed a C h w hw
    refine ⟨fun hr => ⟨rfl, h.1 hr w hw⟩, ?_⟩
    rcases h.2 with h2 | ⟨m, hm, _, h2⟩
    · intro i hi
      refine wpOpIn_mono ?_ (h2 i hi w hw)
      rintro a' w' ⟨C', _, _, h3, h4⟩
      exact ih _ _ _ h4 _ h3
    · intro i hi
      rw [hm, List.mem_singleton] at hi
      subst hi
      refine wpOpIn_mono ?_ (h2 w hw)
      rintro a' w' ⟨C', _, h3, h4⟩
      exact ih _ _ _ h4 _ h3

theorem wpM_first {i : Nat} {oi : Oper} {v : Value} (hi : ops[i]? = some oi) (hsel : ∀ (j : Nat) (o : Oper) cs b, ops[j]? = some o → o.op ≠ .select cs b) :
    ∀ (fuel : Nat) (listed : Array Bool) (a : Act) (C : World → Prop), closedB C → Down ops listed → i < listed.size →
      (∀ j oj, ops[j]? = some oj → j ≠ i → listed.getD j true = false → (∀ e ∈ oj.after, Region.binds .any e = true → e.on ≠ i) → oi.apart ops oj = true) →
      i ∈ Region.ready .any ops listed → QY r P ops C oi v a →
      wpM r P ops Q fuel (listed.setIfInBounds i true) (a.put oi.dst v) C → wpM r P ops Q (fuel + 1) listed a C := by
  intro fuel
  induction fuel with
  | zero =>
    intro listed a C hcl _ _ _ hr hy H
    refine ⟨fun h => (by rw [h] at hr; cases hr), Or.inl fun j hj w hw => ?_⟩
    by_cases hji : j = i
    · subst hji; exact hy.wpOpIn hi hcl hw fun w' hw' => ⟨C, fun _ h => h, hcl, hw', H⟩
    · have := ready_mono hj hji
      rw [H.1] at this
      cases this
  | succ fuel ih =>
    intro listed a C hcl hdown hlt hfree hr hy H
    refine ⟨fun h => (by rw [h] at hr; cases hr), Or.inl fun j hj w hw => ?_⟩
    by_cases hji : j = i
    · subst hji; exact hy.wpOpIn hi hcl hw fun w' hw' => ⟨C, fun _ h => h, hcl, hw', H⟩
    · have hj' := ready_mono hj hji
      obtain ⟨hjun, oj, hoj, hall⟩ := mem_ready.1 hj
      rcases H.2 with H2 | ⟨m, hm, hbar, _⟩
      · have h1 := H2 j hj' w hw
        have hnot : ∀ e ∈ oj.after, Region.binds .any e = true → e.on ≠ i := fun e he hb heq => by
          have h1 := hall e he hb
          have h0 := (mem_ready.1 hr).1
          rw [heq] at h1
          simp [hlt] at h0 h1; rw [h0] at h1; cases h1
        have h2 := wpOpIn_putQ hoj (hfree j oj hoj hji hjun hnot) (fun cs b => hsel i oi cs b hi) (fun cs b => hsel j oj cs b hoj) hy h1
        have hfree' : ∀ k ok, ops[k]? = some ok → k ≠ i → (listed.setIfInBounds j true).getD k true = false →
            (∀ e ∈ ok.after, Region.binds .any e = true → e.on ≠ i) → oi.apart ops ok = true := fun k ok hk hki hun hno => by
          refine hfree k ok hk hki ?_ hno
          by_cases hjk : j = k
          · subst hjk; exact hjun
          · rw [getD_set_ne true hjk] at hun; exact hun
        refine wpOpIn_mono ?_ h2
        rintro a' w' ⟨hy', C', hsub, hcl', hw', h3⟩
        refine ⟨C', hsub, hcl', hw', ?_⟩
        refine ih (listed.setIfInBounds j true) a' C' hcl' (hdown.add hj) (by simpa using hlt) hfree' (ready_mono hr (Ne.symm hji)) (hy'.mono hsub) ?_
        rw [Array.setIfInBounds_comm _ _ hji]
        exact h3
      · exfalso
        rw [hm, List.mem_singleton] at hj'
        subst hj'
        have hil : (listed.setIfInBounds i true).getD i true = true := by simp [hlt]
        have hlt' : i < ops.size := (Array.getElem?_eq_some_iff.1 hi).1
        have := hbar i hlt' hil listed hdown (fun o ho e he hb => by rw [hoj] at ho; cases ho; exact hall e he hb)
        have h0 := (mem_ready.1 hr).1
        simp [hlt] at h0 this
        rw [this] at h0
        cases h0

end
end Go.Dx
