/- How a function's contract is got out of a symbolic execution; the laws for calls and loops. -/
import Derived.Test.YtmjgfoeonnbkpaaDxK
namespace Go.Dx
open Go.RowKit

section
variable {P : Program} {E : Env}

def resO : Res → (SV → Prop) → Prop
  | .val y, K => K y
  | .obl p q, K => p ∧ resO q K
  | _, _ => False

/-- The results of a function, what they are asked. -/
def resq (P : Program) (S : St) : List ResultVar → (List SV → Prop) → Prop
  | [], K => K []
  | .tmp t :: l, K => resq P S l fun ys => K (lk S.sl t :: ys)
  | .cell x T :: l, K => resO (ldv P S.hp T (lk S.sl x)) fun y => resq P S l fun ys => K (y :: ys)

/-- One result stands by itself; none, and more than one, make a tuple. -/
def res1 : List SV → SV
  | [y] => y
  | l => .u l

/-- At a function's end. -/
def FinC (P : Program) (W0 : World) (mods : List Nat) (R : Ending → World → Prop) (rs : List ResultVar) (S : St) : Prop :=
  S.df = [] ∧ resq P S rs fun ys => allK ys = true ∧ ∀ w, Mem W0 mods S.hp w → R (.returned (den (res1 ys))) w

def finE (P : Program) (W0 : World) (mods : List Nat) (R : Ending → World → Prop) (rs : List ResultVar) (e : Exit) (S : St) : Prop :=
  match e with
  | .normal => FinC P W0 mods R rs S
  | .ret => FinC P W0 mods R rs S
  | _ => False

theorem resO_val {w : World} {run : Result Value} {K : SV → Prop} : ∀ {r : Res}, VSem w run r → resO r K → ∃ y v, K y ∧ run = .ok v w ∧ (y ≠ .xx → v = den y)
  | .val y, ⟨v, h1, h2⟩, h => ⟨y, v, h, h1, h2⟩
  | .obl _ _, hv, h => resO_val (hv h.1) h.2

theorem results_list {S : St} {a : Act} {w : World} (hok : Ok E S a w) :
    ∀ (l : List ResultVar) (K : List SV → Prop), resq P S l K → ∃ ys, K ys ∧ (allK ys = true → ∀ f : ResultVar → Sem Value, (∀ t, f (.tmp t) = pure (a.tmps.getD t undef)) → (∀ x T, f (.cell x T) = (do loadVar T (← asAddr (a.tmps.getD x undef)))) → Sem.run P (l.mapM f) w = .ok (denL ys) w) := by
  intro l
  induction l with
  | nil => exact fun K h => ⟨[], h, fun _ _ _ _ => rfl⟩
  | cons r l ih =>
    intro K h
    cases r with
    | tmp t =>
      obtain ⟨ys, h1, h2⟩ := ih _ h
      refine ⟨_, h1, ?_⟩
      intro hk f hf hc
      simp only [allK, Bool.and_eq_true] at hk
      have hx : lk S.sl t ≠ .xx := by intro e; rw [e] at hk; simp [kn] at hk
      have hv := hok.lkv hx
      simp only [Act.eval] at hv
      simp only [List.mapM_cons, Sem.run_bind, Sem.run_pure, Result.andThen_ok, h2 hk.2 f hf hc, denL, hf, hv]
    | cell x T =>
      have hl := ldv_sem (P := P) hok T (hok.isKn (.tmp x))
      obtain ⟨y, v, h1, h2, h3⟩ := resO_val hl h
      obtain ⟨ys, h4, h5⟩ := ih _ h1
      refine ⟨_, h4, ?_⟩
      intro hk f hf hc
      simp only [allK, Bool.and_eq_true] at hk
      have hx : y ≠ .xx := by intro e; rw [e] at hk; simp [kn] at hk
      have hv := h3 hx
      have hrun : (do loadVar T (← asAddr (a.tmps.getD x undef)) : Sem Value).run P w = .ok v w := by
        cases hlk : lk S.sl x with
        | p t b o =>
          have he := hok.lkv (t := x) (by rw [hlk]; simp)
          rw [hlk] at he
          simp only [Act.eval] at he
          simp only [Instr.loadAt, Act.eval, he, den, Instr.sureAddr, Sem.run_bind, Sem.run_pure, Result.andThen_ok] at h2
          simp only [he, den, asAddr, Sem.run_bind, Sem.run_pure, Result.andThen_ok]
          exact h2
        | _ => simp only [resq, hlk, ldv, resO] at h
      simp only [List.mapM_cons, Sem.run_bind, hc] at hrun ⊢
      rw [hrun]
      simp only [Result.andThen_ok, Sem.run_pure, h5 hk.2 f hf hc, denL, hv]

theorem results_run {fn : Func} {S : St} {a : Act} {w : World} {K : List SV → Prop} (hok : Ok E S a w) (hq : resq P S fn.results.toList K) :
    ∃ ys, K ys ∧ (allK ys = true → (results fn a.tmps).run P w = .ok (den (res1 ys)) w) := by
  obtain ⟨ys, h1, h2⟩ := results_list (P := P) hok _ _ hq
  refine ⟨ys, h1, fun hk => ?_⟩
  unfold results
  simp only [Sem.run_bind]
  rw [Array.mapM_eq_mapM_toList]
  simp only [Sem.run_map]
  rw [h2 hk _ (fun t => rfl) (fun x T => rfl)]
  simp only [Result.andThen_ok, Sem.run_pure]
  congr 1
  cases ys with
  | nil => simp [denL, res1, den]
  | cons y l => cases l with
    | nil => simp [denL, res1]
    | cons z l => simp [denL, res1, den]

/-- The slots that a call begins with. -/
def slots : Nat → List SV → List (Nat × SV)
  | _, [] => []
  | i, y :: l => (i, y) :: slots (i + 1) l

theorem lk_slots (l : List SV) : ∀ (i t : Nat), lk (slots i l) t = if i ≤ t then (l[t - i]?).getD .xx else .xx := by
  induction l with
  | nil => intro i t; simp [slots, lk]
  | cons y l ih =>
    intro i t
    simp only [slots, lk]
    by_cases e : i = t
    · subst e
      have hb : Nat.beq i i = true := by simp
      rw [hb]; simp
    · rw [nbeq_ne e, cond_false, ih]
      by_cases h : i ≤ t
      · rw [if_pos h, if_pos (by omega)]
        obtain ⟨d, rfl⟩ : ∃ d, t = i + 1 + d := ⟨t - (i + 1), by omega⟩
        simp [show i + 1 + d - i = d + 1 by omega]
      · rw [if_neg h, if_neg (by omega)]

/-- **A contract out of a symbolic execution.** -/
theorem calls_of_ex {f : FuncId} {fn : Func} {c : Code} {w : World} {R : Ending → World → Prop} (as : List SV) (hp : List Ent) (mods : List Nat) (nt : Nat) (N : Nat)
    (hf : P.funcs[f]? = some fn) (hb : fn.body = some c) (hm : Mem w mods hp w) (hn : as.length ≤ fn.ntmps)
    (h : ∀ E : Env, E = ⟨w, mods, none, finE P w mods R fn.results.toList⟩ → ex P E N (.C c [] ⟨fn.ntmps, nt, slots 0 as, hp, []⟩)) :
    Calls P f (denL as).toArray w R := by
  refine (callsIn_wide (n := 0)).1 (callsIn_of_wp hf hb trivial ?_ rfl)
  have hs := ex_sem N _ (h ⟨w, mods, none, finE P w mods R fn.results.toList⟩ rfl)
  have hok : Ok ⟨w, mods, none, finE P w mods R fn.results.toList⟩ ⟨fn.ntmps, nt, slots 0 as, hp, []⟩
      { tmps := (denL as).toArray ++ Array.replicate (fn.ntmps - (denL as).toArray.size) undef, defers := [] } w := by
    refine ⟨rfl, by simp; omega, ?_, hm⟩
    intro t ht
    simp only [lk_slots, Nat.zero_le, if_true, Nat.sub_zero] at ht ⊢
    rcases Nat.lt_or_ge t as.length with h' | h'
    · rw [Array.getElem?_append_left (by simpa using h')]
      rw [List.getElem?_toArray, denL_get]; simp [h']
    · simp [List.getElem?_eq_none h'] at ht
  have hwp := hs _ _ hok
  refine wpIn_mono (Q' := bodyPost P fn R) hwp ?_
  rintro e a w' ⟨S, hok', hfin⟩
  cases e with
  | normal =>
    obtain ⟨h1, h2⟩ := hfin
    obtain ⟨ys, ⟨h3, h4⟩, h5⟩ := results_run hok' h2
    exact ⟨hok'.df.trans h1, _, h5 h3, h4 w' hok'.mem⟩
  | ret =>
    obtain ⟨h1, h2⟩ := hfin
    obtain ⟨ys, ⟨h3, h4⟩, h5⟩ := results_run hok' h2
    exact ⟨hok'.df.trans h1, _, h5 h3, h4 w' hok'.mem⟩
  | _ => exact hfin.elim

/-! ### Calls -/

theorem CallC.gen {all r : List Oper} {k : List Fr} {S : St} {d : Option Nat} {h : Nat} {as : List SV} {γ : Type} (x : γ → SV) (hp' : γ → List Ent) (nt' : Nat) (N : Nat)
    (hd : dOf d < S.n ∨ d = none)
    (hc : ∀ w, Mem E.W0 E.mods S.hp w → Calls P h (denL as).toArray w fun e w' => ∃ c, e = .returned (den (x c)) ∧ Mem E.W0 E.mods (hp' c) w')
    (hn : ∀ c, ex P E N (.L all r k (put1 { S with hp := hp' c, nt := nt' } d (x c)))) : CallC P E all r k S d h as := by
  intro a w hok
  refine (hc w hok.mem).mono ?_
  rintro e w' ⟨c, rfl, hm⟩
  have h1 : Ok E { S with hp := hp' c, nt := nt' } a w' := ⟨hok.df, hok.n, hok.sl, hm⟩
  exact ex_sem N _ (hn c) _ _ (h1.put1 d hd (v := den (x c)) (y := x c) (fun _ => rfl))

/-- A call that turns nothing that lay, and hands back a value that is known. -/
theorem CallC.pur {all r : List Oper} {k : List Fr} {S : St} {d : Option Nat} {h : Nat} {as : List SV} (x : SV) (N : Nat)
    (hc : ∀ w, Mem E.W0 E.mods S.hp w → Calls P h (denL as).toArray w fun e w' => e = .returned (den x) ∧ Bel w.heap.size w w')
    (hn : (dOf d < S.n ∨ d = none) ∧ ex P E N (.L all r k (put1 S d x))) : CallC P E all r k S d h as := by
  obtain ⟨hd, hn⟩ := hn
  refine CallC.gen (γ := Unit) (fun _ => x) (fun _ => S.hp) S.nt N hd (fun w hm => (hc w hm).mono ?_) (fun _ => hn)
  rintro e w' ⟨rfl, hb⟩
  exact ⟨(), rfl, hm.call hb⟩

/-- A call that turns nothing that lay, and hands back a value of which something is known. -/
theorem CallC.val {all r : List Oper} {k : List Fr} {S : St} {d : Option Nat} {h : Nat} {as : List SV} {γ : Type} (x : γ → SV) (Φ : γ → Prop) (N : Nat)
    (hc : ∀ w, Mem E.W0 E.mods S.hp w → Calls P h (denL as).toArray w fun e w' => ∃ c, e = .returned (den (x c)) ∧ Φ c ∧ Bel w.heap.size w w')
    (hn : (dOf d < S.n ∨ d = none) ∧ ∀ c, Φ c → ex P E N (.L all r k (put1 S d (x c)))) : CallC P E all r k S d h as := by
  obtain ⟨hd, hn⟩ := hn
  refine CallC.gen (γ := { c : γ // Φ c }) (fun c => x c.1) (fun _ => S.hp) S.nt N hd (fun w hm => (hc w hm).mono ?_) (fun c => hn c.1 c.2)
  rintro e w' ⟨c, rfl, hΦ, hb⟩
  exact ⟨⟨c, hΦ⟩, rfl, hm.call hb⟩

/-- A call that lays a block of which it hands back an address. -/
theorem CallC.new {all r : List Oper} {k : List Fr} {S : St} {d : Option Nat} {h : Nat} {as : List SV} {γ : Type} (x : γ → Nat → SV) (o : γ → HObj) (N : Nat)
    (hc : ∀ w, Mem E.W0 E.mods S.hp w → Calls P h (denL as).toArray w fun e w' => ∃ c b, e = .returned (den (x c b)) ∧ w.heap.size ≤ b ∧ w'.heap[b]? = some (denO (o c)) ∧ Bel w.heap.size w w')
    (hn : (dOf d < S.n ∨ d = none) ∧ ∀ c b, ex P E N (.L all r k (put1 { S with hp := ⟨S.nt, b, true, o c⟩ :: S.hp, nt := S.nt + 1 } d (x c b)))) : CallC P E all r k S d h as := by
  obtain ⟨hd, hn⟩ := hn
  refine CallC.gen (γ := γ × Nat) (fun c => x c.1 c.2) (fun c => ⟨S.nt, c.2, true, o c.1⟩ :: S.hp) (S.nt + 1) N hd (fun w hm => (hc w hm).mono ?_) (fun c => hn c.1 c.2)
  rintro e w' ⟨c, b, rfl, h1, h2, hb⟩
  exact ⟨(c, b), rfl, hm.new hb S.nt h1 h2⟩

/-! ### Loops -/

def SubS : List (Nat × SV) → List (Nat × SV) → Prop
  | [], _ => True
  | (t, y) :: l, sl => lk sl t = y ∧ SubS l sl

def SubH : List Ent → List Ent → Prop
  | [], _ => True
  | _ :: _, [] => False
  | e :: l, f :: r => bif Nat.beq e.t f.t then (e = f ∧ SubH l r) else SubH (e :: l) r

/-- All that the first state says the second one says. -/
structure Sub (I S : St) : Prop where
  n : I.n = S.n
  df : I.df = S.df
  sl : SubS I.sl S.sl
  hp : SubH I.hp S.hp

theorem SubS.lk : ∀ {l sl : List (Nat × SV)}, SubS l sl → ∀ t, lk l t ≠ .xx → lk l t = Go.Dx.lk sl t
  | [], _, _, t, h => absurd rfl h
  | (a, y) :: l, sl, ⟨h1, h2⟩, t, h => by
    simp only [Go.Dx.lk] at h ⊢
    by_cases e : a = t
    · subst e
      have hb : Nat.beq a a = true := by simp
      rw [hb]; exact h1.symm
    · rw [nbeq_ne e] at h ⊢
      exact h2.lk t h

theorem SubH.sublist : ∀ {l r : List Ent}, SubH l r → l.Sublist r
  | [], r, _ => List.nil_sublist r
  | _ :: _, [], h => h.elim
  | e :: l, f :: r, h => by
    unfold SubH at h
    cases hb : Nat.beq e.t f.t
    · rw [hb] at h
      exact List.Sublist.cons _ (SubH.sublist (l := e :: l) h)
    · rw [hb] at h
      obtain ⟨rfl, h⟩ := h
      exact (SubH.sublist h).cons_cons _

theorem Ok.sub {I S : St} {a : Act} {w : World} (hok : Ok E S a w) (h : Sub I S) : Ok E I a w := by
  refine ⟨hok.df.trans h.df.symm, hok.n.trans h.n.symm, ?_, hok.mem.sub h.hp.sublist⟩
  intro t ht
  have e := h.sl.lk t ht
  rw [e] at ht ⊢
  exact hok.sl t ht

/-- The walk's law on a loop, with a measure that stands in no slot. -/
theorem wpIn_loop_g {F : Fence} {n : Nat} {c : Code} {Q : Exit → Act → World → Prop} {a : Act} {w : World} {γ : Type} (I : γ → Act → World → Prop) (μ : γ → Nat) (g0 : γ) (h₀ : I g0 a w)
    (round : ∀ g a w, I g a w → c.wpIn F n P (Exit.then (fun a' w' => ∃ g', I g' a' w' ∧ μ g' < μ g) Q) a w) : (Code.loop c).wpIn F n P Q a w := by
  intro b k cs hro hb hr
  have key : ∀ j g a w, μ g = j → I g a w →
      ∃ e a' w', Q e a' w' ∧ ArrivesIn (Machine.fenced P F) P (lone (b.atR a (.code c :: .inLoop c :: k)) cs w) b k cs e a' w' := by
    intro j
    induction j using Nat.strongRecOn with
    | _ j ih =>
      intro g a w hn hI
      obtain ⟨e, a₁, w₁, hq, harr⟩ := round g a w hI b (.inLoop c :: k) cs hro hb hr
      have pass : e ≠ .normal → ArrivesIn (Machine.fenced P F) P (lone (b.atR a (.code c :: .inLoop c :: k)) cs w) b k cs e a₁ w₁ := fun he =>
        .pass (x := .inLoop c) rfl (fun _ _ => .inl he) harr
      cases e with
      | normal =>
        obtain ⟨g₁, hI₁, hlt⟩ := hq
        obtain ⟨e₂, a₂, w₂, hq₂, harr₂⟩ := ih (μ g₁) (hn ▸ hlt) g₁ a₁ w₁ rfl hI₁
        exact ⟨e₂, a₂, w₂, hq₂, .of_steps (StepsIn.trans harr (.one (fenced_calm hb hr rfl) stepR_inLoop)) harr₂⟩
      | exit id => exact ⟨_, a₁, w₁, hq, pass (by simp)⟩
      | goto l => exact ⟨_, a₁, w₁, hq, pass (by simp)⟩
      | ret => exact ⟨_, a₁, w₁, hq, pass (by simp)⟩
      | panic ch => exact ⟨_, a₁, w₁, hq, pass (by simp)⟩
      | outgrown => exact ⟨_, a₁, w₁, hq, pass (by simp)⟩
  obtain ⟨e, a', w', hq, harr⟩ := key _ g0 a w rfl h₀
  exact ⟨e, a', w', hq, .of_steps (.one (fenced_calm hb hr rfl) stepR_loop) harr⟩

/-- **A loop**, by what holds at each round's head ('inv g', for some g) and a measure. -/
theorem CodeC.loop {c : Code} {k : List Fr} {S : St} {γ : Type} (inv : γ → St) (μ : γ → Nat) (g0 : γ) (N : Nat) (h0 : Sub (inv g0) S)
    (h : ∀ g, ex P E N (.C c (.l (fun S' => ∃ g', Sub (inv g') S' ∧ μ g' < μ g) :: k) (inv g))) : CodeC P E (.loop c) k S := by
  intro a w hok
  refine wpIn_loop_g (fun g a w => Ok E (inv g) a w) μ g0 (hok.sub h0) ?_
  intro g a w hg
  refine wpIn_mono (ex_sem N _ (h g) a w hg) ?_
  intro e a' w' hq
  cases e with
  | normal =>
    obtain ⟨S', hok', g', hs, hlt⟩ := hq
    exact ⟨g', hok'.sub hs, hlt⟩
  | _ => exact hq

/-- From a state on that says less. -/
theorem ex_weaken {c : Code} {k : List Fr} {S : St} (I : St) (h0 : Sub I S) (h : CodeC P E c k I) : CodeC P E c k S := fun a w hok => h a w (hok.sub h0)

theorem CodeC.of_ex {c : Code} {k : List Fr} {S : St} (N : Nat) (h : ex P E N (.C c k S)) : CodeC P E c k S := fun a w hok => ex_sem N _ h a w hok

end
end Go.Dx
