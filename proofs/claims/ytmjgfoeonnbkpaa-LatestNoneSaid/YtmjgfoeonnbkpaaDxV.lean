/- A range over a function: the iterator's contract, a call of yield, the loop. -/
import Derived.Test.YtmjgfoeonnbkpaaDxU
import Derived.RangeFuncNested
set_option linter.unusedSimpArgs false
set_option linter.unusedVariables false
namespace Go.Dx
open Go.RowKit

section
variable {P : Program} {E : Env}

/-! ### A scope without jumps -/

theorem stepR_scope {b : Frame} {a : Act} {k : List Item} {cs : List Frame} {w : World} {c : Code} : Go.step P (lone (b.atR a (.code (.scope c) :: k)) cs w) = .next (lone (b.atR a (.code c :: .inScope c :: k)) cs w) :=
  step_lone_go (by simp [stepG, stepG.exec, Frame.atR])
theorem stepR_inScope {b : Frame} {a : Act} {k : List Item} {cs : List Frame} {w : World} {c : Code} : Go.step P (lone (b.atR a (.inScope c :: k)) cs w) = .next (lone (b.atR a k) cs w) :=
  step_lone_go (by simp [stepG, stepG.exec, Frame.atR])

theorem wpIn_scope {F : Fence} {n : Nat} {c : Code} {Q : Exit → Act → World → Prop} {a : Act} {w : World} (h : c.wpIn F n P (Exit.noGoto Q) a w) : (Code.scope c).wpIn F n P Q a w := by
  intro b k cs hro hb hr
  have h0 : (lone (b.atR a (.code (.scope c) :: k)) cs w).fenced P F := fenced_calm hb hr rfl
  obtain ⟨e, a₁, w₁, hq, harr⟩ := h b (.inScope c :: k) cs hro hb hr
  cases e with
  | normal => exact ⟨.normal, a₁, w₁, hq, .head h0 stepR_scope (StepsIn.trans harr (.one (fenced_calm hb hr rfl) stepR_inScope))⟩
  | exit id =>
    have hx : exitTo id (.inScope c :: k) = exitTo id k := by simp [exitTo]
    exact ⟨.exit id, a₁, w₁, hq, fun k' hk => .head h0 stepR_scope (harr.1 k' (by rw [hx]; exact hk)),
      fun hr' hk => let ⟨k₁, h1, h2⟩ := harr.2 hr' (by rw [hx]; exact hk); ⟨k₁, h1, .head h0 stepR_scope h2⟩⟩
  | goto l => exact hq.elim
  | ret => exact ⟨_, a₁, w₁, hq, .of_steps (.one h0 stepR_scope) harr⟩
  | panic ch => exact ⟨_, a₁, w₁, hq, .of_steps (.one h0 stepR_scope) harr⟩
  | outgrown => exact ⟨_, a₁, w₁, hq, .of_steps (.one h0 stepR_scope) harr⟩

/-- Out of a walk that never jumps to a label. -/
theorem CodeC.scope {c : Code} {k : List Fr} {S : St} (N : Nat) (h : ∀ E' : Env, E' = { E with fin := fun e S => (∀ l, e ≠ .goto l) ∧ ∀ a w, Ok E S a w → semK P E k e a w } → ex P E' N (.C c [] S)) : CodeC P E (.scope c) k S := by
  intro a w hok
  refine wpIn_scope ?_
  obtain ⟨E', hE'⟩ : ∃ E' : Env, E' = { E with fin := fun e S => (∀ l, e ≠ .goto l) ∧ ∀ a w, Ok E S a w → semK P E k e a w } := ⟨_, rfl⟩
  have hok' : Ok E' S a w := by subst hE'; exact ⟨hok.df, hok.n, hok.sl, hok.mem⟩
  have hs := ex_sem N _ (h E' hE') a w hok'
  have hr : fen E'.r = fen E.r := by subst hE'; rfl
  rw [hr] at hs
  refine wpIn_mono hs ?_
  rintro e a' w' ⟨S', hok'', h1⟩
  subst hE'
  obtain ⟨h1, h2⟩ := h1
  have h3 := h2 a' w' ⟨hok''.df, hok''.n, hok''.sl, hok''.mem⟩
  cases e with
  | goto l => exact (h1 l rfl).elim
  | _ => exact h3

/-! ### A contract, from a world on that is known as a state says -/

theorem calls_of_ex_at {f : FuncId} {fn : Func} {c : Code} {w W0 : World} {R : Ending → World → Prop} (as : List SV) (hp : List Ent) (mods : List Nat) (nt : Nat) (N : Nat)
    (hf : P.funcs[f]? = some fn) (hb : fn.body = some c) (hm : Mem W0 mods hp w) (hn : as.length ≤ fn.ntmps)
    (h : ∀ E : Env, E = ⟨W0, mods, none, finE P W0 mods R fn.results.toList⟩ → ex P E N (.C c [] ⟨fn.ntmps, nt, slots 0 as, hp, []⟩)) :
    Calls P f (denL as).toArray w R := by
  refine (callsIn_wide (n := 0)).1 (callsIn_of_wp hf hb trivial ?_ rfl)
  have hs := ex_sem N _ (h ⟨W0, mods, none, finE P W0 mods R fn.results.toList⟩ rfl)
  have hok : Ok ⟨W0, mods, none, finE P W0 mods R fn.results.toList⟩ ⟨fn.ntmps, nt, slots 0 as, hp, []⟩
      { tmps := (denL as).toArray ++ Array.replicate (fn.ntmps - (denL as).toArray.size) undef, defers := [] } w := by
    refine ⟨rfl, by simp; omega, ?_, hm⟩
    intro t ht
    simp only [lk_slots, Nat.zero_le, if_true, Nat.sub_zero] at ht ⊢
    rcases Nat.lt_or_ge t as.length with h' | h'
    · rw [Array.getElem?_append_left (by simpa using h')]
      rw [List.getElem?_toArray, denL_get]; simp [h']
    · simp [List.getElem?_eq_none h'] at ht
  have hwp := hs _ _ hok
  refine wpIn_mono (Q' := bodyPost P fn R) hwp ?_
  rintro e a w' ⟨S, hok', hfin⟩
  cases e with
  | normal =>
    obtain ⟨h1, h2⟩ := hfin
    obtain ⟨ys, ⟨h3, h4⟩, h5⟩ := results_run hok' h2
    exact ⟨hok'.df.trans h1, _, h5 h3, h4 w' hok'.mem⟩
  | ret =>
    obtain ⟨h1, h2⟩ := hfin
    obtain ⟨ys, ⟨h3, h4⟩, h5⟩ := results_run hok' h2
    exact ⟨hok'.df.trans h1, _, h5 h3, h4 w' hok'.mem⟩
  | _ => exact hfin.elim

/-! ### A function that ranges over functions -/

def markD (D : Nat) : Deferred := { target := .collected D, args := #[] }

/-- The marks that a function's range loops have left are shut, one by one. -/
def shutM : List Deferred → List Ent → (List Ent → Prop) → Prop
  | [], hp, K => K hp
  | d :: ds, hp, K => ∃ t D, d = markD D ∧ hk hp t = some ⟨t, D, true, .o (.deferred (some []))⟩ ∧ shutM ds (hset hp t (.o (.deferred none))) K

/-- At the end of such a function. -/
def FinM (P : Program) (W0 : World) (mods : List Nat) (R : Ending → World → Prop) (rs : List ResultVar) (S : St) : Prop :=
  shutM S.df S.hp fun hp => resq P { S with hp := hp, df := [] } rs fun ys => allK ys = true ∧ ∀ w, Mem W0 mods hp w → R (.returned (den (res1 ys))) w

def finM (P : Program) (W0 : World) (mods : List Nat) (R : Ending → World → Prop) (rs : List ResultVar) (e : Exit) (S : St) : Prop :=
  match e with
  | .normal => FinM P W0 mods R rs S
  | .ret => FinM P W0 mods R rs S
  | _ => False

theorem putObj_turned {e : Ent} {w : World} {o0 : Obj} (hg : w.heap[e.b]? = some o0) (o : HObj) : Turned w (w.putObj e.b (denO o)) e o :=
  ⟨rfl, rfl, OutK.refl w, by simp, World.putObj_heap_same (Array.getElem?_eq_some_iff.1 hg).1, fun b hb => World.putObj_heap_other hb⟩

theorem leavesM {fn : Func} {R : Ending → World → Prop} (tmps : Array Value) (n : Nat) (sl : List (Nat × SV)) (nt : Nat) {W0 : World} {mods : List Nat} (hn : tmps.size = n) (hsl : ∀ t, lk sl t ≠ .xx → tmps[t]? = some (den (lk sl t))) :
    ∀ (df : List Deferred) (hp : List Ent) (w : World), Mem W0 mods hp w → (shutM df hp fun hp => resq P ⟨n, nt, sl, hp, []⟩ fn.results.toList fun ys => allK ys = true ∧ ∀ w, Mem W0 mods hp w → R (.returned (den (res1 ys))) w) →
      LeavesInM (fen none) 0 P fn tmps R df .returning w := by
  intro df
  induction df with
  | nil =>
    intro hp w hm h
    have hok : Ok ⟨W0, mods, none, fun _ _ => True⟩ ⟨n, nt, sl, hp, []⟩ { tmps := tmps, defers := [] } w := ⟨rfl, hn, hsl, hm⟩
    obtain ⟨ys, ⟨h3, h4⟩, h5⟩ := results_run hok h
    exact ⟨_, h5 h3, h4 w hm⟩
  | cons d ds ih =>
    rintro hp w hm ⟨t, D, rfl, hk, h⟩
    have hg := hm.at hk
    have ht := putObj_turned (e := ⟨t, D, true, .o (.deferred (some []))⟩) hg (.o (.deferred none))
    have hm' := hm.set hk rfl (.o (.deferred none)) ht.os ht.tape ht.output ht.size ht.new ht.old
    exact ⟨by simp, .inl ⟨D, _, rfl, run_takeDeferred hg, ih _ _ hm' h⟩⟩

/-- **A contract out of a walk, for a function that ranges over functions.** -/
theorem calls_of_ex_m {f : FuncId} {fn : Func} {c : Code} {w W0 : World} {R : Ending → World → Prop} (as : List SV) (hp : List Ent) (mods : List Nat) (nt : Nat) (N : Nat)
    (hf : P.funcs[f]? = some fn) (hb : fn.body = some c) (hm : Mem W0 mods hp w) (hn : as.length ≤ fn.ntmps)
    (h : ∀ E : Env, E = ⟨W0, mods, none, finM P W0 mods R fn.results.toList⟩ → ex P E N (.C c [] ⟨fn.ntmps, nt, slots 0 as, hp, []⟩)) :
    Calls P f (denL as).toArray w R := by
  refine (callsIn_wide (n := 0)).1 (callsIn_of_wp_marks hf hb trivial ?_ rfl)
  have hs := ex_sem N _ (h ⟨W0, mods, none, finM P W0 mods R fn.results.toList⟩ rfl)
  have hok : Ok ⟨W0, mods, none, finM P W0 mods R fn.results.toList⟩ ⟨fn.ntmps, nt, slots 0 as, hp, []⟩
      { tmps := (denL as).toArray ++ Array.replicate (fn.ntmps - (denL as).toArray.size) undef, defers := [] } w := by
    refine ⟨rfl, by simp; omega, ?_, hm⟩
    intro t ht
    simp only [lk_slots, Nat.zero_le, if_true, Nat.sub_zero] at ht ⊢
    rcases Nat.lt_or_ge t as.length with h' | h'
    · rw [Array.getElem?_append_left (by simpa using h')]
      rw [List.getElem?_toArray, denL_get]; simp [h']
    · simp [List.getElem?_eq_none h'] at ht
  have hwp := hs _ _ hok
  refine wpIn_mono (Q' := bodyPostM Fence.wide 0 P fn R) hwp ?_
  rintro e a w' ⟨S, hok', hfin⟩
  have go : FinM P W0 mods R fn.results.toList S → LeavesInM (fen none) 0 P fn a.tmps R a.defers .returning w' := fun h => by
    rw [hok'.df]
    exact leavesM a.tmps S.n S.sl S.nt hok'.n hok'.sl S.df S.hp w' hok'.mem h
  cases e with
  | normal => exact go hfin
  | ret => exact go hfin
  | _ => exact hfin.elim

/-! ### A call of yield -/

/-- A round of loop l. -/
def YieldW (P : Program) (l : Nat) (args : Array Value) (w : World) (R : Ending → World → Prop) : Prop := YieldAt (fen none) 0 P l args w R

theorem YieldW.mono {l : Nat} {args : Array Value} {w : World} {R R' : Ending → World → Prop} (h : YieldW P l args w R) (hr : ∀ e w', R e w' → R' e w') : YieldW P l args w R' := by
  obtain ⟨fn, tmps, assign, body, h1, h2⟩ := h
  exact ⟨fn, tmps, assign, body, h1, h2.mono hr⟩

theorem roundIn_fen {r : Option Nat} {l f : Nat} {tmps : Array Value} {assign body : Code} {w : World} {R : Ending → World → Prop} (h : RoundIn (fen none) 0 P l f tmps assign body w R) : RoundIn (fen r) 0 P l f tmps assign body w R := h

theorem LeafC.yield {all r : List Oper} {k : List Fr} {S : St} {d : Option Nat} {f : Operand} {args : List Operand} {ts : Array TypeId} {t : TypeId} {pos : String} {af : Array Edge} {g : Option (Nat × Bool)} {γ : Type}
    (l : Nat) (x : γ → Bool) (hp' : γ → List Ent) (N : Nat) (hev : ev S f = .v (.func (.yield l) #[] #[])) (hk : allK (evL S args) = true)
    (hy : ∀ w, Mem E.W0 E.mods S.hp w → YieldW P l (denL (evL S args)).toArray w fun e w' => ∃ c, e = .returned (.bool (x c)) ∧ Mem E.W0 E.mods (hp' c) w')
    (hn : (dOf d < S.n ∨ d = none) ∧ ∀ c, ex P E N (.L all r k (put1 { S with hp := hp' c } d (.v (.bool (x c)))))) :
    LeafC P E all ⟨d, .call ⟨.value f, args.toArray, ts⟩, t, pos, af, g⟩ r k S := by
  intro a w hok
  obtain ⟨hd, hn⟩ := hn
  obtain ⟨fn, tmps, assign, body, h1, h2⟩ := hy w hok.mem
  have hargs : (args.toArray.map a.eval) = (denL (evL S args)).toArray := by
    have := (evL_kn hok args).all hk
    rw [← this]
    simp
  have hf : a.eval f = .func (.yield l) #[] #[] := by
    have := hok.eval (x := f) (by rw [hev]; simp)
    rw [this, hev]; rfl
  have hrun : (execOp a.eval ⟨d, .call ⟨.value f, args.toArray, ts⟩, t, pos, af, g⟩).run P w = .ok (.round l fn tmps assign body) w := by
    simp only [execOp, resolve, hargs, hf, Deferred.ofValue, Sem.run_bind, Sem.run_pure, Result.andThen_ok, invoke]
    simpa using h1
  refine ⟨fun f _ => fen_fn _ f, ?_⟩
  rw [semAt_fen _ _ (by simp), hrun]
  refine ⟨fen_depth _ _, (roundIn_fen h2).mono ?_⟩
  rintro e w' ⟨c, rfl, hm⟩
  have h4 : Ok E { S with hp := hp' c } a w' := ⟨hok.df, hok.n, hok.sl, hm⟩
  exact ex_sem N _ (hn c) _ _ (h4.put1 d hd (v := .bool (x c)) (y := .v (.bool (x c))) (fun _ => rfl))

/-- **An iterator's contract**: n items, x i the i-th; it reads what 'ro' says. -/
def Iter (P : Program) (h : Nat) (caps : List SV) (ro : List Ent) (n : Nat) (x : Nat → List SV) : Prop :=
  ∀ (l : Nat) (W0 : World) (mods : List Nat) (γ : Nat → Type) (δ : Type) (J : (i : Nat) → γ i → List Ent) (Jx : δ → List Ent) (g0 : γ 0) (w : World),
    (∀ i, i < n → ∀ g own w, Mem W0 mods (own ++ J i g) w → YieldW P l (denL (x i)).toArray w fun e w' =>
      (∃ g', e = .returned (.bool true) ∧ Mem W0 mods (own ++ J (i + 1) g') w') ∨ (∃ c, e = .returned (.bool false) ∧ Mem W0 mods (own ++ Jx c) w')) →
    Mem W0 mods (ro ++ J 0 g0) w →
    Calls P h (denL (.v (.func (.yield l) #[] #[]) :: caps)).toArray w fun e w' => ∃ v, e = .returned v ∧ ((∃ g, Mem W0 mods (J n g) w') ∨ ∃ c, Mem W0 mods (Jx c) w')

/-! ### The loop -/

/-- The slots of a round: the parameters hold yield's arguments. -/
def psl : List Nat → List SV → List (Nat × SV) → List (Nat × SV)
  | p :: ps, y :: ys, sl => psl ps ys ((p, y) :: sl)
  | _, _, sl => sl

theorem psl_ok {W0 : World} {mods : List Nat} {r : Option Nat} {fin : Exit → St → Prop} (n nt : Nat) (hp : List Ent) : ∀ (ps : List Nat) (ys : List SV) (sl : List (Nat × SV)) (tmps : Array Value), (∀ p ∈ ps, p < n) → tmps.size = n → (∀ t, lk sl t ≠ .xx → tmps[t]? = some (den (lk sl t))) →
    ((ps.zip (denL ys)).foldl (fun t (p, v) => t.setIfInBounds p v) tmps).size = n ∧ ∀ t, lk (psl ps ys sl) t ≠ .xx → ((ps.zip (denL ys)).foldl (fun t (p, v) => t.setIfInBounds p v) tmps)[t]? = some (den (lk (psl ps ys sl) t))
  | [], ys, sl, tmps, _, h1, h2 => by simp [psl]; exact ⟨h1, h2⟩
  | p :: ps, [], sl, tmps, _, h1, h2 => by simp [psl, denL]; exact ⟨h1, h2⟩
  | p :: ps, y :: ys, sl, tmps, hp0, h1, h2 => by
    have ih := psl_ok (W0 := W0) (mods := mods) (r := r) (fin := fin) n nt hp ps ys ((p, y) :: sl) (tmps.setIfInBounds p (den y)) (fun q hq => hp0 q (List.mem_cons_of_mem _ hq)) (by simp [h1]) (by
      intro t ht
      simp only [lk] at ht ⊢
      by_cases e : p = t
      · subst e
        have hb : Nat.beq p p = true := by simp
        have := hp0 p List.mem_cons_self
        rw [hb]
        simp [h1, this]
      · rw [nbeq_ne e] at ht ⊢
        rw [Array.getElem?_setIfInBounds_ne e]
        exact h2 t ht)
    simpa [psl, denL] using ih

/-- The record of a loop. -/
structure LI where
  fn : FuncId
  tmps : Array Value
  ps : Array Tmp
  assign : Code
  body : Code
  D : Nat

def LI.o (L : LI) (st : LoopState) (pe : Option Code) : HObj := .o (.loop { state := st, pending := pe, fn := L.fn, tmps := L.tmps, params := L.ps, assign := L.assign, body := L.body, defers := L.D })

/-- How a round of the body ends. -/
def bodyFin (tl tD l D : Nat) (Do : Bool) (L : LI) (own : List Ent) {γ δ : Type} (Jn : γ → List Ent) (Jx : δ → List Ent) (jump : δ → Code) (e : Exit) (S : St) : Prop :=
  match e with
  | .normal => ∃ g', SubH (Jn g' ++ (⟨tl, l, true, L.o .busy none⟩ :: (bif Do then [⟨tD, D, true, .o (.deferred (some []))⟩] else []) ++ own)) S.hp
  | .ret => ∃ c, jump c = .ret ∧ SubH (Jx c ++ (⟨tl, l, true, L.o .busy none⟩ :: (bif Do then [⟨tD, D, true, .o (.deferred (some []))⟩] else []) ++ own)) S.hp
  | .exit id => ∃ c, jump c = .exit id ∧ SubH (Jx c ++ (⟨tl, l, true, L.o .busy none⟩ :: (bif Do then [⟨tD, D, true, .o (.deferred (some []))⟩] else []) ++ own)) S.hp
  | _ => False


theorem Mem.swap2 {W0 : World} {mods : List Nat} {a b : List Ent} {w : World} (h : Mem W0 mods (a ++ b) w) : Mem W0 mods (b ++ a) w := h.perm List.perm_append_comm

/-- The head of what is tracked is turned. -/
theorem Mem.head {W0 : World} {mods : List Nat} {t b : Nat} {o : HObj} {hp : List Ent} {w : World} (h : Mem W0 mods (⟨t, b, true, o⟩ :: hp) w) (o' : HObj) : Mem W0 mods (⟨t, b, true, o'⟩ :: hp) (w.putObj b (denO o')) := by
  have hg := h.get _ List.mem_cons_self
  have ht := putObj_turned (e := ⟨t, b, true, o⟩) hg o'
  have := h.set (t := t) (e := ⟨t, b, true, o⟩) (hk_hit t b true o hp) rfl o' ht.os ht.tape ht.output ht.size ht.new ht.old
  rw [hset_hit] at this
  exact this

theorem eval_f {S : St} {a : Act} {w : World} (hok : Ok E S a w) {g : Operand} {h : Nat} {caps : List SV} (hev : ev S g = .f h caps) : a.eval g = .func (.func h) #[] (denL caps).toArray := by
  have := hok.eval (x := g) (by rw [hev]; simp)
  rw [this, hev]; rfl

/-- What a round of a loop's body has to do: the assignment, and the body. -/
def RoundC (P : Program) (E : Env) (N : Nat) (tl tD l D : Nat) (Do : Bool) (L : LI) (own : List Ent) (assign body : Code) {γ δ : Type} (Jn : γ → List Ent) (Jx : δ → List Ent) (jump : δ → Code) (S0 : St) : Prop :=
  ∀ E1 : Env, E1 = { E with r := some l, fin := fun e S1 => e = .normal ∧ hk S1.hp tl = some ⟨tl, l, true, L.o .ready none⟩ ∧ ∀ E2 : Env, E2 = { E with r := some l, fin := bodyFin tl tD l D Do L own Jn Jx jump } → ex P E2 N (.C body [] { S1 with hp := hset S1.hp tl (L.o .busy none) }) } →
    ex P E1 N (.C assign [] S0)

theorem round_sem {N tl tD l D : Nat} {Do : Bool} {L : LI} {own J0 : List Ent} {γ δ : Type} {Jn : γ → List Ent} {Jx : δ → List Ent} {jump : δ → Code} {sl : List (Nat × SV)} {n nt : Nat} {W0 : World} {mods : List Nat} (hW : E.W0 = W0) (hM : E.mods = mods)
    (h : RoundC P E N tl tD l D Do L own L.assign L.body Jn Jx jump ⟨n, nt, sl, J0 ++ (⟨tl, l, true, L.o .ready none⟩ :: (bif Do then [⟨tD, D, true, .o (.deferred (some []))⟩] else []) ++ own), []⟩)
    {tmps : Array Value} (hn : tmps.size = n) (hsl : ∀ t, lk sl t ≠ .xx → tmps[t]? = some (den (lk sl t))) {w : World} (hm : Mem W0 mods (J0 ++ (⟨tl, l, true, L.o .ready none⟩ :: (bif Do then [⟨tD, D, true, .o (.deferred (some []))⟩] else []) ++ own)) w)
    {R : Ending → World → Prop} (hR1 : ∀ g w', Mem W0 mods (⟨tl, l, true, L.o .ready none⟩ :: ((bif Do then [⟨tD, D, true, .o (.deferred (some []))⟩] else []) ++ own ++ Jn g)) w' → R (.returned (.bool true)) w')
    (hR2 : ∀ c w', Mem W0 mods (⟨tl, l, true, L.o .done (some (jump c))⟩ :: ((bif Do then [⟨tD, D, true, .o (.deferred (some []))⟩] else []) ++ own ++ Jx c)) w' → R (.returned (.bool false)) w') :
    RoundIn (fen none) 0 P l L.fn tmps L.assign L.body w R := by
  subst hW hM
  refine roundIn_of_wpIn (fen_fn _ _) ?_
  obtain ⟨E1, hE1⟩ : ∃ E1 : Env, E1 = { E with r := some l, fin := fun e S1 => e = .normal ∧ hk S1.hp tl = some ⟨tl, l, true, L.o .ready none⟩ ∧ ∀ E2 : Env, E2 = { E with r := some l, fin := bodyFin tl tD l D Do L own Jn Jx jump } → ex P E2 N (.C L.body [] { S1 with hp := hset S1.hp tl (L.o .busy none) }) } := ⟨_, rfl⟩
  have hs := ex_sem N _ (h E1 hE1)
  subst hE1
  have hok : Ok { E with r := some l, fin := fun e S1 => e = .normal ∧ hk S1.hp tl = some ⟨tl, l, true, L.o .ready none⟩ ∧ ∀ E2 : Env, E2 = { E with r := some l, fin := bodyFin tl tD l D Do L own Jn Jx jump } → ex P E2 N (.C L.body [] { S1 with hp := hset S1.hp tl (L.o .busy none) }) }
      ⟨n, nt, sl, J0 ++ (⟨tl, l, true, L.o .ready none⟩ :: (bif Do then [⟨tD, D, true, .o (.deferred (some []))⟩] else []) ++ own), []⟩ { tmps := tmps, defers := [] } w := ⟨rfl, hn, hsl, hm⟩
  refine wpIn_mono (hs _ _ hok) ?_
  rintro e a' w' ⟨S', hok', rfl, hk', hb⟩
  have hl' := hok'.mem.at hk'
  refine ⟨_, run_beginRound hl' rfl, ?_⟩
  have ht := putObj_turned (e := ⟨tl, l, true, L.o .ready none⟩) hl' (L.o .busy none)
  have hm2 := hok'.mem.set hk' rfl (L.o .busy none) ht.os ht.tape ht.output ht.size ht.new ht.old
  have hok2 : Ok { E with r := some l, fin := bodyFin tl tD l D Do L own Jn Jx jump } { S' with hp := hset S'.hp tl (L.o .busy none) } a' (w'.putObj l (denO (L.o .busy none))) := ⟨hok'.df, hok'.n, hok'.sl, hm2⟩
  have hs2 := ex_sem N _ (hb _ rfl) _ _ hok2
  refine wpIn_mono hs2 ?_
  rintro e a'' w'' ⟨S'', hok'', hfin⟩
  have stop : ∀ j : Code, (∃ c, jump c = j ∧ SubH (Jx c ++ (⟨tl, l, true, L.o .busy none⟩ :: (bif Do then [⟨tD, D, true, .o (.deferred (some []))⟩] else []) ++ own)) S''.hp) →
      ∃ v w', (Instr.endRound l (some j)).run P w'' = .ok v w' ∧ R (.returned v) w' := by
    rintro j ⟨c, rfl, hsub⟩
    have hm3 := (hok''.mem.sub hsub.sublist).swap2
    have hg := hm3.get ⟨tl, l, true, L.o .busy none⟩ (by simp)
    refine ⟨_, _, run_endRound (some (jump c)) hg, ?_⟩
    refine hR2 c _ ?_
    exact hm3.head (L.o .done (some (jump c)))
  cases e with
  | normal =>
    obtain ⟨g, hsub⟩ := hfin
    have hm3 := (hok''.mem.sub hsub.sublist).swap2
    have hg := hm3.get ⟨tl, l, true, L.o .busy none⟩ (by simp)
    refine ⟨_, _, run_endRound none hg, ?_⟩
    refine hR1 g _ ?_
    exact hm3.head (L.o .ready none)
  | ret => exact stop .ret hfin
  | exit id => exact stop (.exit id) hfin
  | goto l => exact hfin.elim
  | panic ch => exact hfin.elim
  | outgrown => exact hfin.elim

/-- **A range over a function**, at the outermost. -/
theorem CodeC.rng {g : Operand} {ps : Array Tmp} {assign body : Code} {k : List Fr} {S : St} (hr : E.r = none) (tl tD nt N : Nat) {h : Nat} {caps : List SV} {ro : List Ent} {n : Nat} {x : Nat → List SV}
    (hev : ev S g = .f h caps) (hit : Iter P h caps ro n x) (he : ent P h = true) (hps : ∀ i, (x i).length = ps.size) (hpn : ∀ p ∈ ps.toList, p < S.n)
    {γ : Nat → Type} {δ : Type} (J : (i : Nat) → γ i → List Ent) (Jx : δ → List Ent) (jump : δ → Code) (g0 : γ 0) (h0 : ∀ w, Mem E.W0 E.mods S.hp w → Mem E.W0 E.mods (ro ++ J 0 g0) w)
    (hround : ∀ (D l : Nat) (L : LI) (own : List Ent) (i : Nat), i < n → ∀ gg, RoundC P E N tl tD l D true L own assign body (J (i + 1)) Jx jump
      ⟨S.n, nt, psl ps.toList (x i) S.sl, J i gg ++ (⟨tl, l, true, L.o .ready none⟩ :: ⟨tD, D, true, .o (.deferred (some []))⟩ :: own), []⟩)
    (hdone : ∀ D gg, ex P E N (.K .normal k { S with nt := nt, df := markD D :: S.df, hp := J n gg ++ [⟨tD, D, true, .o (.deferred (some []))⟩] }))
    (hstop : ∀ D c, ex P E N (.C (jump c) k { S with nt := nt, df := markD D :: S.df, hp := Jx c ++ [⟨tD, D, true, .o (.deferred (some []))⟩] })) :
    CodeC P E (.rangeFunc g ps assign body) k S := by
  intro a w hok
  refine wpIn_rangeFunc ?_
  intro fn hfn
  have hro : (fen E.r).round = none := by rw [hr]; rfl
  rw [hro]
  obtain ⟨L, hL⟩ : ∃ L : LI, L = ⟨fn, a.tmps, ps, assign, body, w.heap.size⟩ := ⟨_, rfl⟩
  have hm0 := h0 w hok.mem
  have hm1 := (hm0.alloc tD (.o (.deferred (some [])))).alloc tl (L.o .ready none)
  have hsz : ({ w with heap := w.heap.push (denO (.o (.deferred (some [])))) } : World).heap.size = w.heap.size + 1 := by simp
  rw [hsz] at hm1
  have hm2 : Mem E.W0 E.mods (ro ++ (⟨tl, w.heap.size + 1, true, L.o .ready none⟩ :: ⟨tD, w.heap.size, true, .o (.deferred (some []))⟩ :: J 0 g0)) _ :=
    hm1.perm (by
      have := List.perm_append_comm (l₁ := [(⟨tl, w.heap.size + 1, true, L.o .ready none⟩ : Ent), ⟨tD, w.heap.size, true, .o (.deferred (some []))⟩]) (l₂ := ro)
      have := this.append_right (J 0 g0)
      simpa using this)
  obtain ⟨W1, hW1⟩ : ∃ W1, (w.alloc (.deferred (some []))).alloc (.loop { state := .ready, pending := none, fn := fn, tmps := a.tmps, params := ps, assign := assign, body := body, defers := w.heap.size }) = W1 := ⟨_, rfl⟩
  have hm3 : Mem E.W0 E.mods (ro ++ (⟨tl, w.heap.size + 1, true, L.o .ready none⟩ :: ⟨tD, w.heap.size, true, .o (.deferred (some []))⟩ :: J 0 g0)) W1 := by
    rw [hL] at hm2 ⊢
    rw [← hW1]
    exact hm2
  clear hm2 hm1
  refine ⟨w.heap.size + 1, [markD w.heap.size], W1, { target := .fn (.func h) (denL caps).toArray, args := #[.func (.yield (w.heap.size + 1)) #[] #[]] }, W1, h, #[.func (.yield (w.heap.size + 1)) #[] #[]] ++ (denL caps).toArray, W1,
    by rw [← hW1]; exact run_enterLoop_outer fn a.tmps ps assign body, ?_, fun f' _ => fen_fn _ f', ?_, fen_depth _ _, ?_⟩
  · show Sem.run P (Deferred.ofValue (a.eval g) _) W1 = _
    rw [eval_f hok hev]
    simp [Deferred.ofValue, Act.eval]
  · simp [invoke, callFunc_run he]
  · have hcall := hit (w.heap.size + 1) E.W0 E.mods γ δ (fun i gg => ⟨tl, w.heap.size + 1, true, L.o .ready none⟩ :: ⟨tD, w.heap.size, true, .o (.deferred (some []))⟩ :: J i gg)
      (fun c => ⟨tl, w.heap.size + 1, true, L.o .done (some (jump c))⟩ :: ⟨tD, w.heap.size, true, .o (.deferred (some []))⟩ :: Jx c) g0 W1 (fun i hi gg own wq hmq => ?_) hm3
    · subst hL
      have eargs : ∀ v : Value, (denL (.v v :: caps)).toArray = #[v] ++ (denL caps).toArray := fun v => by simp [denL, den]
      rw [eargs] at hcall
      refine CallsIn.mono (callsIn_fen (n := 0) hcall) ?_
      rintro e w' ⟨v, rfl, (⟨gg, hm⟩ | ⟨c, hm⟩)⟩
      · have hg := hm.get _ List.mem_cons_self
        refine ⟨_, _, run_endLoop hg (by simp), ?_⟩
        have hm3 := (hm.head (.o (.loop { state := .exhausted, pending := none, fn := fn, tmps := a.tmps, params := ps, assign := assign, body := body, defers := w.heap.size }))).sub (List.sublist_cons_self _ _)
        have hm4 : Mem E.W0 E.mods (J n gg ++ [⟨tD, w.heap.size, true, .o (.deferred (some []))⟩]) _ := hm3.perm (List.perm_append_comm (l₁ := [_]))
        exact ex_sem N _ (hdone w.heap.size gg) { a with defers := [markD w.heap.size] ++ a.defers } _ ⟨by simp [hok.df], hok.n, hok.sl, hm4⟩
      · have hg := hm.get _ List.mem_cons_self
        refine ⟨_, _, run_endLoop hg (by simp), ?_⟩
        have hm3 := (hm.head (.o (.loop { state := .exhausted, pending := some (jump c), fn := fn, tmps := a.tmps, params := ps, assign := assign, body := body, defers := w.heap.size }))).sub (List.sublist_cons_self _ _)
        have hm4 : Mem E.W0 E.mods (Jx c ++ [⟨tD, w.heap.size, true, .o (.deferred (some []))⟩]) _ := hm3.perm (List.perm_append_comm (l₁ := [_]))
        exact ex_sem N _ (hstop w.heap.size c) { a with defers := [markD w.heap.size] ++ a.defers } _ ⟨by simp [hok.df], hok.n, hok.sl, hm4⟩
    · have hg := hmq.get ⟨tl, w.heap.size + 1, true, L.o .ready none⟩ (by simp)
      have hlen : (denL (x i)).toArray.size = ps.size := by simp [hps]
      have hps2 := psl_ok (W0 := E.W0) (mods := E.mods) (r := none) (fin := fun _ _ => True) S.n nt [] ps.toList (x i) S.sl a.tmps hpn hok.n hok.sl
      have hround' := hround w.heap.size (w.heap.size + 1) L own i hi gg
      refine ⟨_, _, _, _, run_yield hg (by rw [hL]; exact hlen), ?_⟩
      have hz : (ps.zip (denL (x i)).toArray).foldl (fun t (p, v) => t.setIfInBounds p v) a.tmps = (ps.toList.zip (denL (x i))).foldl (fun t (p, v) => t.setIfInBounds p v) a.tmps := by
        rw [← Array.foldl_toList, Array.toList_zip]
      have hmr : Mem E.W0 E.mods (J i gg ++ (⟨tl, w.heap.size + 1, true, L.o .ready none⟩ :: ⟨tD, w.heap.size, true, .o (.deferred (some []))⟩ :: own)) wq :=
        hmq.perm (by
          have := (List.perm_append_comm (l₁ := own ++ [(⟨tl, w.heap.size + 1, true, L.o .ready none⟩ : Ent), ⟨tD, w.heap.size, true, .o (.deferred (some []))⟩]) (l₂ := J i gg)).trans ((List.perm_append_comm (l₁ := own) (l₂ := [_, _])).append_left (J i gg))
          simpa using this)
      have := round_sem (Do := true) (L := L) (own := own) (J0 := J i gg) (Jn := J (i + 1)) (Jx := Jx) (jump := jump) (R := fun e w' =>
        (∃ g', e = .returned (.bool true) ∧ Mem E.W0 E.mods (own ++ (⟨tl, w.heap.size + 1, true, L.o .ready none⟩ :: ⟨tD, w.heap.size, true, .o (.deferred (some []))⟩ :: J (i + 1) g')) w') ∨
        (∃ c, e = .returned (.bool false) ∧ Mem E.W0 E.mods (own ++ (⟨tl, w.heap.size + 1, true, L.o .done (some (jump c))⟩ :: ⟨tD, w.heap.size, true, .o (.deferred (some []))⟩ :: Jx c)) w')) rfl rfl
        (by rw [show L.assign = assign by rw [hL], show L.body = body by rw [hL]]; exact hround') hps2.1 hps2.2 hmr
        (fun g' w' hm' => Or.inl ⟨g', rfl, hm'.perm (by
          have := (List.perm_append_comm (l₁ := [(⟨tl, w.heap.size + 1, true, L.o .ready none⟩ : Ent), ⟨tD, w.heap.size, true, .o (.deferred (some []))⟩]) (l₂ := own)).append_right (J (i + 1) g')
          simpa using this)⟩)
        (fun c w' hm' => Or.inr ⟨c, rfl, hm'.perm (by
          have := (List.perm_append_comm (l₁ := [(⟨tl, w.heap.size + 1, true, L.o .done (some (jump c))⟩ : Ent), ⟨tD, w.heap.size, true, .o (.deferred (some []))⟩]) (l₂ := own)).append_right (Jx c)
          simpa using this)⟩)
      rw [← hz] at this
      rw [hL] at this ⊢
      exact this

/-- **A range over a function within a round.** -/
theorem CodeC.rngN {g : Operand} {ps : Array Tmp} {assign body : Code} {k : List Fr} {S : St} {l0 : Nat} (hr : E.r = some l0) (t0 : Nat) {b0 : Bool} {L0 : LI} {st0 : LoopState} {pe0 : Option Code} (hk0 : hk S.hp t0 = some ⟨t0, l0, b0, L0.o st0 pe0⟩) (tl nt N : Nat) {h : Nat} {caps : List SV} {ro : List Ent} {n : Nat} {x : Nat → List SV}
    (hev : ev S g = .f h caps) (hit : Iter P h caps ro n x) (he : ent P h = true) (hps : ∀ i, (x i).length = ps.size) (hpn : ∀ p ∈ ps.toList, p < S.n)
    {γ : Nat → Type} {δ : Type} (J : (i : Nat) → γ i → List Ent) (Jx : δ → List Ent) (jump : δ → Code) (g0 : γ 0) (h0 : ∀ w, Mem E.W0 E.mods S.hp w → Mem E.W0 E.mods (ro ++ J 0 g0) w)
    (hround : ∀ (l : Nat) (L : LI) (own : List Ent) (i : Nat), i < n → ∀ gg, RoundC P E N tl 0 l 0 false L own assign body (J (i + 1)) Jx jump
      ⟨S.n, nt, psl ps.toList (x i) S.sl, J i gg ++ (⟨tl, l, true, L.o .ready none⟩ :: own), []⟩)
    (hdone : ∀ gg, ex P E N (.K .normal k { S with nt := nt, hp := J n gg }))
    (hstop : ∀ c, ex P E N (.C (jump c) k { S with nt := nt, hp := Jx c })) :
    CodeC P E (.rangeFunc g ps assign body) k S := by
  intro a w hok
  refine wpIn_rangeFunc ?_
  intro fn hfn
  have hro : (fen E.r).round = some l0 := by rw [hr]; rfl
  rw [hro]
  obtain ⟨L, hL⟩ : ∃ L : LI, L = ⟨fn, a.tmps, ps, assign, body, L0.D⟩ := ⟨_, rfl⟩
  have hg0 := hok.mem.at hk0
  have hm0 := h0 w hok.mem
  have hm1 := hm0.alloc tl (L.o .ready none)
  have hm2 : Mem E.W0 E.mods (ro ++ (⟨tl, w.heap.size, true, L.o .ready none⟩ :: J 0 g0)) _ :=
    hm1.perm (by
      have := List.perm_append_comm (l₁ := [(⟨tl, w.heap.size, true, L.o .ready none⟩ : Ent)]) (l₂ := ro)
      have := this.append_right (J 0 g0)
      simpa using this)
  obtain ⟨W1, hW1⟩ : ∃ W1, w.alloc (.loop { state := .ready, pending := none, fn := fn, tmps := a.tmps, params := ps, assign := assign, body := body, defers := L0.D }) = W1 := ⟨_, rfl⟩
  have hm3 : Mem E.W0 E.mods (ro ++ (⟨tl, w.heap.size, true, L.o .ready none⟩ :: J 0 g0)) W1 := by
    rw [hL] at hm2 ⊢
    rw [← hW1]
    exact hm2
  clear hm2 hm1
  refine ⟨w.heap.size, [], W1, { target := .fn (.func h) (denL caps).toArray, args := #[.func (.yield w.heap.size) #[] #[]] }, W1, h, #[.func (.yield w.heap.size) #[] #[]] ++ (denL caps).toArray, W1,
    by rw [← hW1]; exact run_enterLoop_inner hg0 fn a.tmps ps assign body, ?_, fun f' _ => fen_fn _ f', ?_, fen_depth _ _, ?_⟩
  · show Sem.run P (Deferred.ofValue (a.eval g) _) W1 = _
    rw [eval_f hok hev]
    simp [Deferred.ofValue, Act.eval]
  · simp [invoke, callFunc_run he]
  · have hcall := hit w.heap.size E.W0 E.mods γ δ (fun i gg => ⟨tl, w.heap.size, true, L.o .ready none⟩ :: J i gg)
      (fun c => ⟨tl, w.heap.size, true, L.o .done (some (jump c))⟩ :: Jx c) g0 W1 (fun i hi gg own wq hmq => ?_) hm3
    · subst hL
      have eargs : ∀ v : Value, (denL (.v v :: caps)).toArray = #[v] ++ (denL caps).toArray := fun v => by simp [denL, den]
      rw [eargs] at hcall
      refine CallsIn.mono (callsIn_fen (n := 0) hcall) ?_
      rintro e w' ⟨v, rfl, (⟨gg, hm⟩ | ⟨c, hm⟩)⟩
      · have hg := hm.get _ List.mem_cons_self
        refine ⟨_, _, run_endLoop hg (by simp), ?_⟩
        have hm3 := (hm.head (.o (.loop { state := .exhausted, pending := none, fn := fn, tmps := a.tmps, params := ps, assign := assign, body := body, defers := L0.D }))).sub (List.sublist_cons_self _ _)
        exact ex_sem N _ (hdone gg) { a with defers := [] ++ a.defers } _ ⟨by simp [hok.df], hok.n, hok.sl, hm3⟩
      · have hg := hm.get _ List.mem_cons_self
        refine ⟨_, _, run_endLoop hg (by simp), ?_⟩
        have hm3 := (hm.head (.o (.loop { state := .exhausted, pending := some (jump c), fn := fn, tmps := a.tmps, params := ps, assign := assign, body := body, defers := L0.D }))).sub (List.sublist_cons_self _ _)
        exact ex_sem N _ (hstop c) { a with defers := [] ++ a.defers } _ ⟨by simp [hok.df], hok.n, hok.sl, hm3⟩
    · have hg := hmq.get ⟨tl, w.heap.size, true, L.o .ready none⟩ (by simp)
      have hlen : (denL (x i)).toArray.size = ps.size := by simp [hps]
      have hps2 := psl_ok (W0 := E.W0) (mods := E.mods) (r := none) (fin := fun _ _ => True) S.n nt [] ps.toList (x i) S.sl a.tmps hpn hok.n hok.sl
      have hround' := hround w.heap.size L own i hi gg
      refine ⟨_, _, _, _, run_yield hg (by rw [hL]; exact hlen), ?_⟩
      have hz : (ps.zip (denL (x i)).toArray).foldl (fun t (p, v) => t.setIfInBounds p v) a.tmps = (ps.toList.zip (denL (x i))).foldl (fun t (p, v) => t.setIfInBounds p v) a.tmps := by
        rw [← Array.foldl_toList, Array.toList_zip]
      have hmr : Mem E.W0 E.mods (J i gg ++ (⟨tl, w.heap.size, true, L.o .ready none⟩ :: own)) wq :=
        hmq.perm (by
          have := (List.perm_append_comm (l₁ := own ++ [(⟨tl, w.heap.size, true, L.o .ready none⟩ : Ent)]) (l₂ := J i gg)).trans ((List.perm_append_comm (l₁ := own) (l₂ := [_])).append_left (J i gg))
          simpa using this)
      have := round_sem (Do := false) (tD := 0) (D := 0) (L := L) (own := own) (J0 := J i gg) (Jn := J (i + 1)) (Jx := Jx) (jump := jump) (R := fun e w' =>
        (∃ g', e = .returned (.bool true) ∧ Mem E.W0 E.mods (own ++ (⟨tl, w.heap.size, true, L.o .ready none⟩ :: J (i + 1) g')) w') ∨
        (∃ c, e = .returned (.bool false) ∧ Mem E.W0 E.mods (own ++ (⟨tl, w.heap.size, true, L.o .done (some (jump c))⟩ :: Jx c)) w')) rfl rfl
        (by rw [show L.assign = assign by rw [hL], show L.body = body by rw [hL]]; exact hround') hps2.1 hps2.2 hmr
        (fun g' w' hm' => Or.inl ⟨g', rfl, hm'.perm (by
          have := (List.perm_append_comm (l₁ := [(⟨tl, w.heap.size, true, L.o .ready none⟩ : Ent)]) (l₂ := own)).append_right (J (i + 1) g')
          simpa using this)⟩)
        (fun c w' hm' => Or.inr ⟨c, rfl, hm'.perm (by
          have := (List.perm_append_comm (l₁ := [(⟨tl, w.heap.size, true, L.o .done (some (jump c))⟩ : Ent)]) (l₂ := own)).append_right (Jx c)
          simpa using this)⟩)
      rw [← hz] at this
      rw [hL] at this ⊢
      exact this

end
end Go.Dx
