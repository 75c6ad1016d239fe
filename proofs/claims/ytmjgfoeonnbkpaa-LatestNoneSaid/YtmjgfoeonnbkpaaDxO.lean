/- The symbolic execution of a region that draws its order, by a plan. -/
import Derived.Test.YtmjgfoeonnbkpaaDxN
set_option linter.unusedVariables false
namespace Go.Dx
open Go.RowKit

/-- How a step of a plan goes: 'q': its value is the same in every world that the others may lead to; 'a': nothing else can come up, and it turns nothing that lies; 'b': nothing else can come up, and all that is done had to be done. -/
inductive Kd where
  | q
  | a
  | b

def Kd.eq : Kd → Kd → Bool
  | .q, .q => true
  | .a, .a => true
  | .b, .b => true
  | _, _ => false

def planOk (ops : Array Oper) : Array Bool → List (Nat × Kd) → Bool
  | listed, [] => (Region.ready .any ops listed).isEmpty
  | listed, (i, kd) :: p => (Region.ready .any ops listed).contains i && decide (i < listed.size) &&
      (match kd with
       | .q => Region.free .any ops listed i
       | .a => Region.ready .any ops listed == [i]
       | .b => Region.ready .any ops listed == [i] && bar ops listed i) && planOk ops (listed.setIfInBounds i true) p

/-- May operation i come next, in this way? -/
def stOk (ops : Array Oper) (listed : Array Bool) (i : Nat) (kd : Kd) : Bool :=
  (Region.ready .any ops listed).contains i && decide (i < listed.size) &&
    (match kd with
     | .q => Region.free .any ops listed i
     | .a => Region.ready .any ops listed == [i]
     | .b => Region.ready .any ops listed == [i] && bar ops listed i)

theorem planOk_cons (ops : Array Oper) (listed : Array Bool) (i : Nat) (kd : Kd) (p : List (Nat × Kd)) : planOk ops listed ((i, kd) :: p) = (stOk ops listed i kd && planOk ops (listed.setIfInBounds i true) p) := rfl

def chk (l : List Oper) (p : List (Nat × Kd)) : Bool :=
  Region.noSelect l.toArray && Nat.beq p.length l.length && planOk l.toArray (Array.replicate l.length false) p

def nthO : List Oper → Nat → Option Oper
  | [], _ => none
  | o :: _, 0 => some o
  | _ :: l, i + 1 => nthO l i

def kdOf : Op → Kd
  | .store _ _ _ => .b
  | .mapUpdate _ _ _ _ => .b
  | .insert _ _ _ _ => .b
  | .alloc _ => .a
  | .box _ _ => .a
  | .buildSlice _ _ _ => .a
  | .makeSlice _ _ _ => .a
  | .makeMap _ _ => .a
  | .call c => match c.callee with
    | .builtin .append => .a
    | .builtin .copy => .b
    | _ => .q
  | _ => .q

def lexP : List Oper → Nat → List (Nat × Kd)
  | [], _ => []
  | o :: l, i => (i, kdOf o.op) :: lexP l (i + 1)

structure OkA (S : St) (a : Act) : Prop where
  df : a.defers = S.df
  n : a.tmps.size = S.n
  sl : ∀ t, lk S.sl t ≠ .xx → a.tmps[t]? = some (den (lk S.sl t))

section
variable {P : Program} {E : Env}

theorem OkA.ok {S : St} {a : Act} {w : World} (h : OkA S a) (hm : Mem E.W0 E.mods S.hp w) : Ok E S a w := ⟨h.df, h.n, h.sl, hm⟩
theorem Ok.okA {S : St} {a : Act} {w : World} (h : Ok E S a w) : OkA S a := ⟨h.df, h.n, h.sl⟩

theorem OkA.put1 {S : St} {a : Act} (h : OkA S a) (d : Option Nat) (hd : dOf d < S.n ∨ d = none) {v : Value} {y : SV} (hv : Kn v y) : OkA (put1 S d y) (a.put d v) := by
  cases d with
  | none => exact h
  | some d =>
    rcases hd with hd | hd
    · refine ⟨h.df, by simp [Act.put, Dx.put1, h.n], ?_⟩
      intro t ht
      simp only [Dx.put1, lk] at ht ⊢
      simp only [Act.put]
      by_cases e : d = t
      · subst e
        have hb : Nat.beq d d = true := by simp
        rw [hb] at ht ⊢
        simp only [cond_true] at ht ⊢
        rw [← hv ht]
        have hd' : d < S.n := hd
        simp [h.n, hd']
      · have hb : Nat.beq d t = false := nbeq_ne e
        rw [hb] at ht ⊢
        simp only [cond_false] at ht ⊢
        rw [Array.getElem?_setIfInBounds_ne e]
        exact h.sl t ht
    · cases hd

theorem OkA.hp {S : St} {a : Act} (h : OkA S a) (hp : List Ent) (nt : Nat) : OkA { S with hp := hp, nt := nt } a := ⟨h.df, h.n, h.sl⟩

/-! ### The execution -/

/-- A call in such a region. -/
def CallD (P : Program) (E : Env) (o : Oper) (kd : Kd) (rec : St → Prop) (S : St) (h : Nat) (as : List SV) : Prop :=
  match kd with
  | .q => ∃ y, kn y = true ∧ (dOf o.dst < S.n ∨ o.dst = none) ∧
      (∀ w, Mem E.W0 E.mods S.hp w → Calls P h (denL as).toArray w fun e w' => e = .returned (den y) ∧ Bel w.heap.size w w') ∧ rec (put1 S o.dst y)
  | kd => (dOf o.dst < S.n ∨ o.dst = none) ∧ ∀ w, Mem E.W0 E.mods S.hp w → Calls P h (denL as).toArray w fun e w' => ∃ y hp' nt', e = .returned (den y) ∧ Mem E.W0 E.mods hp' w' ∧
      (kd.eq .a = true → ∀ w, Mem E.W0 E.mods hp' w → Mem E.W0 E.mods S.hp w) ∧ rec (put1 { S with hp := hp', nt := nt' } o.dst y)

/-- An operation in such a region that has no rule here. -/
def LeafD (P : Program) (E : Env) (o : Oper) (kd : Kd) (rec : St → Prop) (S : St) : Prop :=
  match kd with
  | .q => ∃ y, kn y = true ∧ (dOf o.dst < S.n ∨ o.dst = none) ∧ (∀ c, o.op ≠ .defer c) ∧ (∀ a w, Ok E S a w → (execOp a.eval o).run P w = .ok (.value (den y)) w) ∧ rec (put1 S o.dst y)
  | kd => ∀ a w, Ok E S a w → o.wpIn (fen E.r) 0 P a w (fun a' w' => ∃ S', Ok E S' a' w' ∧ (kd.eq .a = true → ∀ w, Mem E.W0 E.mods S'.hp w → Mem E.W0 E.mods S.hp w) ∧ rec S') (fun _ _ _ => False)

def exDR (P : Program) (E : Env) (o : Oper) (kd : Kd) (rec : St → Prop) (S : St) : Res → Prop
  | .val y => kn y = true ∧ (dOf o.dst < S.n ∨ o.dst = none) ∧ rec (put1 S o.dst y)
  | .obl p q => p ∧ exDR P E o kd rec S q
  | .new ob => kd.eq .a = true ∧ (dOf o.dst < S.n ∨ o.dst = none) ∧ ∀ b, rec (put1 { S with nt := S.nt + 1, hp := ⟨S.nt, b, true, ob⟩ :: S.hp } o.dst (.p S.nt b 0))
  | .news ob n c => kd.eq .a = true ∧ (dOf o.dst < S.n ∨ o.dst = none) ∧ ∀ b, rec (put1 { S with nt := S.nt + 1, hp := ⟨S.nt, b, true, ob⟩ :: S.hp } o.dst (.s S.nt b 0 n c))
  | .sto t ob => kd.eq .b = true ∧ rec (put1 { S with hp := hset S.hp t ob } o.dst .xx)
  | .call h as => CallD P E o kd rec S h as
  | .cse p a b => (p → exDR P E o kd rec S a) ∧ (¬ p → exDR P E o kd rec S b)
  | .gen φ n ob d => kd.eq .q = false ∧ (kd.eq .a = true → d = none) ∧ (dOf o.dst < S.n ∨ o.dst = none) ∧ ∀ b c j, φ c j → rec (put1 { S with nt := S.nt + 1, hp := ⟨S.nt, b, true, ob c j⟩ :: hdr S.hp d } o.dst (.s S.nt b 0 n c))
  | .leaf => LeafD P E o kd rec S
  | .no => False

def exDG (P : Program) (E : Env) (o : Oper) (kd : Kd) (rec : St → Prop) (S : St) (dj : Nat) (want : Bool) (y : SV) : Prop :=
  match y with
  | .v (.bool c) =>
    (c = true → bif want then exDR P E o kd rec { S with sl := (dj, .v (.bool true)) :: S.sl } (opv P { S with sl := (dj, .v (.bool true)) :: S.sl } o.op) else rec (put1 { S with sl := (dj, .v (.bool true)) :: S.sl } o.dst (.v undef))) ∧
    (c = false → bif want then rec (put1 { S with sl := (dj, .v (.bool false)) :: S.sl } o.dst (.v undef)) else exDR P E o kd rec { S with sl := (dj, .v (.bool false)) :: S.sl } (opv P { S with sl := (dj, .v (.bool false)) :: S.sl } o.op))
  | .v (.tuple _) => rec (put1 S o.dst (.v undef))
  | _ => False

def exDO (P : Program) (E : Env) (all : List Oper) (o : Oper) (kd : Kd) (rec : St → Prop) (S : St) : Prop :=
  match o.guard with
  | none => exDR P E o kd rec S (opv P S o.op)
  | some (j, want) => match dstOf all j with
    | some dj => (dOf o.dst < S.n ∨ o.dst = none) ∧ exDG P E o kd rec S dj want (lk S.sl dj)
    | none => False

def exD (P : Program) (E : Env) (N : Nat) (k : List Fr) (all : List Oper) : List (Nat × Kd) → St → Prop
  | [], S => ex P E N (.K .normal k S)
  | (i, kd) :: p, S => match nthO all i with
    | some o => exDO P E all o kd (exD P E N k all p) S
    | none => False

/-! ### It is sound -/

theorem nthO_eq : ∀ (l : List Oper) (i : Nat), nthO l i = l[i]?
  | [], _ => rfl
  | _ :: _, 0 => rfl
  | _ :: l, i + 1 => by simp [nthO, nthO_eq l i]

theorem closed_mem (W0 : World) (mods : List Nat) (hp : List Ent) : closedB (Mem W0 mods hp) := fun _ _ h hb => h.call hb

/-- What a plan's rest, from a state on, comes to. -/
def semD (P : Program) (E : Env) (k : List Fr) (all : List Oper) (p : List (Nat × Kd)) (S : St) : Prop :=
  ∀ a listed, OkA S a → Down all.toArray listed → Region.noSelect all.toArray = true → planOk all.toArray listed p = true → wpM E.r P all.toArray (fun a w => semK P E k .normal a w) p.length listed a (Mem E.W0 E.mods S.hp)

/-- What the rest, n operations behind what is listed, from a state on comes to. -/
def semG (P : Program) (E : Env) (k : List Fr) (all : List Oper) (n : Nat) (lst : Array Bool) (S : St) : Prop :=
  ∀ a, OkA S a → wpM E.r P all.toArray (fun a w => semK P E k .normal a w) n lst a (Mem E.W0 E.mods S.hp)

/-- One step that is quiet. -/
theorem step_q {k : List Fr} {all : List Oper} {n : Nat} {S S' : St} {i : Nat} {o : Oper} {a : Act} {listed : Array Bool} {v : Value}
    (hi : nthO all i = some o) (hd : Down all.toArray listed) (hs : Region.noSelect all.toArray = true) (hp : stOk all.toArray listed i .q = true)
    (hy : QY E.r P all.toArray (Mem E.W0 E.mods S.hp) o v a) (hS : S'.hp = S.hp) (hk : OkA S' (a.put o.dst v)) (hrec : semG P E k all n (listed.setIfInBounds i true) S') :
    wpM E.r P all.toArray (fun a w => semK P E k .normal a w) (n + 1) listed a (Mem E.W0 E.mods S.hp) := by
  have hi' : all.toArray[i]? = some o := by simpa [nthO_eq] using hi
  simp only [stOk, Bool.and_eq_true, decide_eq_true_eq] at hp
  obtain ⟨⟨h1, h2⟩, h3⟩ := hp
  have hr : i ∈ Region.ready .any all.toArray listed := by simpa using h1
  refine wpM_first hi' (Region.noSelect_spec hs) n listed a _ (closed_mem _ _ _) hd h2 (Region.free_spec hi' h3) hr hy ?_
  rw [← hS]
  exact hrec _ hk

/-- One step that is alone. -/
theorem step_ab {k : List Fr} {all : List Oper} {n : Nat} {S : St} {i : Nat} {kd : Kd} {o : Oper} {a : Act} {listed : Array Bool}
    (hi : nthO all i = some o) (hkd : kd.eq .q = false) (hd : Down all.toArray listed) (hs : Region.noSelect all.toArray = true) (hp : stOk all.toArray listed i kd = true)
    (hw : Region.wanted o (yielded all.toArray a.tmps) = true)
    (h : ∀ w, Mem E.W0 E.mods S.hp w → o.wpIn (fen E.r) 0 P a w (fun a' w' => ∃ S', OkA S' a' ∧ Mem E.W0 E.mods S'.hp w' ∧ (kd.eq .a = true → ∀ w, Mem E.W0 E.mods S'.hp w → Mem E.W0 E.mods S.hp w) ∧ semG P E k all n (listed.setIfInBounds i true) S') (QN fun a w => semK P E k .normal a w)) :
    wpM E.r P all.toArray (fun a w => semK P E k .normal a w) (n + 1) listed a (Mem E.W0 E.mods S.hp) := by
  have hi' : all.toArray[i]? = some o := by simpa [nthO_eq] using hi
  simp only [stOk, Bool.and_eq_true, decide_eq_true_eq] at hp
  obtain ⟨⟨h1, h2⟩, h3⟩ := hp
  have hr : i ∈ Region.ready .any all.toArray listed := by simpa using h1
  refine ⟨fun h => (by rw [h] at hr; cases hr), ?_⟩
  have go : ∀ w, Mem E.W0 E.mods S.hp w → wpOpIn (fen E.r) 0 P all.toArray (QN fun a w => semK P E k .normal a w) i (fun a' w' => ∃ S', OkA S' a' ∧ Mem E.W0 E.mods S'.hp w' ∧ (kd.eq .a = true → ∀ w, Mem E.W0 E.mods S'.hp w → Mem E.W0 E.mods S.hp w) ∧ semG P E k all n (listed.setIfInBounds i true) S') a w := fun w hw' => by
    unfold wpOpIn
    simp only [hi', hw, if_true]
    exact h w hw'
  cases kd with
  | q => cases hkd
  | a =>
    have h3 : Region.ready .any all.toArray listed = [i] := by simpa using h3
    refine Or.inl fun j hj w hw' => ?_
    rw [h3, List.mem_singleton] at hj
    subst hj
    refine wpOpIn_mono ?_ (go w hw')
    rintro a' w' ⟨S', g1, g2, g3, g4⟩
    exact ⟨_, g3 rfl, closed_mem _ _ _, g2, g4 _ g1⟩
  | b =>
    simp only [Bool.and_eq_true] at h3
    have h5 : Region.ready .any all.toArray listed = [i] := by simpa using h3.1
    refine Or.inr ⟨i, h5, bar_spec h3.2, fun w hw' => ?_⟩
    refine wpOpIn_mono ?_ (go w hw')
    rintro a' w' ⟨S', g1, g2, g3, g4⟩
    exact ⟨_, closed_mem _ _ _, g2, g4 _ g1⟩

/-- One step that is passed over. -/
theorem step_over {k : List Fr} {all : List Oper} {n : Nat} {S S' : St} {i : Nat} {kd : Kd} {o : Oper} {a : Act} {listed : Array Bool}
    (hi : nthO all i = some o) (hd : Down all.toArray listed) (hs : Region.noSelect all.toArray = true) (hp : stOk all.toArray listed i kd = true)
    (hw : Region.wanted o (yielded all.toArray a.tmps) = false) (hS : S'.hp = S.hp) (hk : OkA S' (a.put o.dst undef)) (hrec : semG P E k all n (listed.setIfInBounds i true) S') :
    wpM E.r P all.toArray (fun a w => semK P E k .normal a w) (n + 1) listed a (Mem E.W0 E.mods S.hp) := by
  have hi' : all.toArray[i]? = some o := by simpa [nthO_eq] using hi
  by_cases hkd : kd.eq .q = true
  · cases kd with
    | q => exact step_q hi hd hs hp (v := undef) (Or.inr ⟨hw, rfl⟩) hS hk hrec
    | a => cases hkd
    | b => cases hkd
  · simp only [stOk, Bool.and_eq_true, decide_eq_true_eq] at hp
    obtain ⟨⟨h1, h2⟩, h3⟩ := hp
    have hr : i ∈ Region.ready .any all.toArray listed := by simpa using h1
    have h5 : Region.ready .any all.toArray listed = [i] := by
      cases kd with
      | q => exact absurd rfl hkd
      | a => simpa using h3
      | b => simp only [Bool.and_eq_true] at h3; simpa using h3.1
    refine ⟨fun h => (by rw [h] at hr; cases hr), Or.inl fun j hj w hm => ?_⟩
    rw [h5, List.mem_singleton] at hj
    subst hj
    unfold wpOpIn
    simp only [hi', hw, Bool.false_eq_true, if_false]
    refine ⟨fun f _ => fen_fn _ f, _, fun _ h => h, closed_mem _ _ _, hm, ?_⟩
    rw [← hS]
    exact hrec _ hk

theorem Mem.sub1 {W0 : World} {mods : List Nat} {hp : List Ent} {w : World} {e : Ent} (h : Mem W0 mods (e :: hp) w) : Mem W0 mods hp w := h.sub (List.sublist_cons_self _ _)

theorem wpIn_weak {r : Option Nat} {o : Oper} {a : Act} {w : World} {K : Act → World → Prop} {Q : Exit → Act → World → Prop} (h : o.wpIn (fen r) 0 P a w K (fun _ _ _ => False)) : o.wpIn (fen r) 0 P a w K Q := by
  refine ⟨h.1, ?_⟩
  have h := h.2
  generalize (o.semAt (fen r).round a.eval).run P w = rr at *
  cases rr with
  | ok x w' =>
    cases x <;> simp only [Oper.uponIn] at h ⊢
    case value u => exact h
    case skip => exact h
    case defer d => exact h
    case enter f args =>
      refine ⟨h.1, CallsIn.mono h.2 fun e w'' he => ?_⟩
      cases e with
      | returned u => exact he
      | panicked c => exact he.elim
      | outgrown => obtain ⟨_, _, h⟩ := he; exact h.elim
    case row row args => exact h
    case round l f tmps assign body =>
      refine ⟨h.1, RoundIn.mono h.2 fun e w'' he => ?_⟩
      cases e with
      | returned u => exact he
      | panicked c => exact he.elim
      | outgrown => obtain ⟨_, _, h⟩ := he; exact h.elim
  | halt x w' =>
    cases x <;> simp only [Oper.uponIn] at h ⊢

theorem exDR_sem {k : List Fr} {all : List Oper} {n : Nat} {S : St} {i : Nat} {kd : Kd} {o : Oper} {a : Act} {listed : Array Bool} {rec : St → Prop}
    (hrec : ∀ S, rec S → semG P E k all n (listed.setIfInBounds i true) S) (hok : OkA S a)
    (hi : nthO all i = some o) (hdef : ∀ c, o.op ≠ .defer c) (hd : Down all.toArray listed) (hs : Region.noSelect all.toArray = true) (hp : stOk all.toArray listed i kd = true)
    (hw : Region.wanted o (yielded all.toArray a.tmps) = true) :
    ∀ res : Res, (∀ w, Mem E.W0 E.mods S.hp w → RSem S.hp w ((execOp a.eval o).run P w) res) → exDR P E o kd rec S res →
      wpM E.r P all.toArray (fun a w => semK P E k .normal a w) (n + 1) listed a (Mem E.W0 E.mods S.hp) := by
  intro res
  induction res with
  | val y =>
    rintro hv ⟨hkn, hdst, hr⟩
    have ab : kd.eq .q = false → wpM E.r P all.toArray (fun a w => semK P E k .normal a w) (n + 1) listed a (Mem E.W0 E.mods S.hp) := fun hkq => by
      refine step_ab hi hkq hd hs hp hw fun w hm => ⟨fun f _ => fen_fn _ f, ?_⟩
      have hx : y ≠ .xx := by intro e; subst e; cases hkn
      obtain ⟨v, h1, h2⟩ := hv w hm
      rw [semAt_fen _ _ hdef, h1, h2 hx]
      exact ⟨_, hok.put1 o.dst hdst (v := den y) (y := y) (fun _ => rfl), by cases hdd : o.dst <;> exact hm, fun _ w' hm' => by cases hdd : o.dst <;> rw [hdd] at hm' <;> exact hm', hrec _ hr⟩
    cases kd with
    | q =>
      have hx : y ≠ .xx := by intro e; subst e; cases hkn
      refine step_q hi hd hs hp (v := den y) (S' := put1 S o.dst y) (Or.inl ⟨hw, hdef, fun w hm => ?_⟩) (by cases o.dst <;> rfl) (hok.put1 o.dst hdst fun _ => rfl) (hrec _ hr)
      obtain ⟨v, h1, h2⟩ := hv w hm
      rw [h1, h2 hx]
      exact ⟨rfl, Bel.refl _ _⟩
    | a => exact ab rfl
    | b => exact ab rfl
  | obl q res ih => exact fun hv h => ih (fun w hm => hv w hm h.1) h.2
  | new ob =>
    rintro hv ⟨hkd, hdst, hr⟩
    cases kd with
    | a =>
      refine step_ab hi rfl hd hs hp hw fun w hm => ⟨fun f _ => fen_fn _ f, ?_⟩
      rw [semAt_fen _ _ hdef, hv w hm]
      exact ⟨_, (hok.hp (⟨S.nt, w.heap.size, true, ob⟩ :: S.hp) (S.nt + 1)).put1 o.dst hdst (v := .pointer (some ⟨w.heap.size, 0, none⟩)) (y := .p S.nt w.heap.size 0) (fun _ => rfl),
        by cases hdd : o.dst <;> exact hm.alloc S.nt ob, fun _ w' hm' => by cases hdd : o.dst <;> rw [hdd] at hm' <;> exact hm'.sub1, hrec _ (hr w.heap.size)⟩
    | q => cases hkd
    | b => cases hkd
  | news ob n c =>
    rintro hv ⟨hkd, hdst, hr⟩
    cases kd with
    | a =>
      refine step_ab hi rfl hd hs hp hw fun w hm => ⟨fun f _ => fen_fn _ f, ?_⟩
      rw [semAt_fen _ _ hdef, hv w hm]
      exact ⟨_, (hok.hp (⟨S.nt, w.heap.size, true, ob⟩ :: S.hp) (S.nt + 1)).put1 o.dst hdst (v := .slice (some ⟨w.heap.size, 0, none⟩) n c) (y := .s S.nt w.heap.size 0 n c) (fun _ => rfl),
        by cases hdd : o.dst <;> exact hm.alloc S.nt ob, fun _ w' hm' => by cases hdd : o.dst <;> rw [hdd] at hm' <;> exact hm'.sub1, hrec _ (hr w.heap.size)⟩
    | q => cases hkd
    | b => cases hkd
  | sto t ob =>
    rintro hv ⟨hkd, hr⟩
    cases kd with
    | b =>
      refine step_ab hi rfl hd hs hp hw fun w hm => ⟨fun f _ => fen_fn _ f, ?_⟩
      obtain ⟨e, w', he, hwr, h1, ht⟩ := hv w hm
      rw [semAt_fen _ _ hdef, h1]
      have hm' := hm.set he hwr ob ht.os ht.tape ht.output ht.size ht.new ht.old
      have hok1 : Ok E { S with hp := hset S.hp t ob } a w' := ⟨hok.df, hok.n, hok.sl, hm'⟩
      have h2 : Ok E (Go.Dx.put1 { S with hp := hset S.hp t ob } o.dst .xx) (a.put o.dst undef) w' := by
        have := hok1.drop o.dst undef
        cases hdd : o.dst with
        | none => rw [hdd] at this; exact this
        | some d => rw [hdd] at this; exact this
      exact ⟨_, h2.okA, h2.mem, (fun hh => nomatch hh), hrec _ hr⟩
    | q => cases hkd
    | a => cases hkd
  | call h as =>
    intro hv hc
    cases kd with
    | q =>
      obtain ⟨y, hkn, hdst, hcall, hr⟩ := hc
      refine step_q hi hd hs hp (v := den y) (S' := put1 S o.dst y) (Or.inl ⟨hw, hdef, fun w hm => ?_⟩) (by cases o.dst <;> rfl) (hok.put1 o.dst hdst fun _ => rfl) (hrec _ hr)
      rw [hv w hm]
      exact ⟨rfl, callsIn_fen (hcall w hm)⟩
    | a =>
      obtain ⟨hdst, hcall⟩ := hc
      refine step_ab hi rfl hd hs hp hw fun w hm => ⟨fun f _ => fen_fn _ f, ?_⟩
      rw [semAt_fen _ _ hdef, hv w hm]
      refine ⟨fen_depth _ _, CallsIn.mono (callsIn_fen (hcall w hm)) ?_⟩
      rintro e w' ⟨y, hp', nt', rfl, h1, h2, h3⟩
      exact ⟨_, (hok.hp hp' nt').put1 o.dst hdst (v := den y) (y := y) (fun _ => rfl), by cases hdd : o.dst <;> exact h1, fun hh => by cases hdd : o.dst <;> exact h2 hh, hrec _ h3⟩
    | b =>
      obtain ⟨hdst, hcall⟩ := hc
      refine step_ab hi rfl hd hs hp hw fun w hm => ⟨fun f _ => fen_fn _ f, ?_⟩
      rw [semAt_fen _ _ hdef, hv w hm]
      refine ⟨fen_depth _ _, CallsIn.mono (callsIn_fen (hcall w hm)) ?_⟩
      rintro e w' ⟨y, hp', nt', rfl, h1, h2, h3⟩
      exact ⟨_, (hok.hp hp' nt').put1 o.dst hdst (v := den y) (y := y) (fun _ => rfl), by cases hdd : o.dst <;> exact h1, fun hh => by cases hdd : o.dst <;> exact h2 hh, hrec _ h3⟩
  | cse p x y ihx ihy =>
    intro hv h
    by_cases hp : p
    · exact ihx (fun w hm => (hv w hm).1 hp) (h.1 hp)
    · exact ihy (fun w hm => (hv w hm).2 hp) (h.2 hp)
  | gen φ n ob d =>
    rintro hv ⟨hkd, hka, hdst, hr⟩
    refine step_ab hi hkd hd hs hp hw fun w hm => ⟨fun f _ => fen_fn _ f, ?_⟩
    obtain ⟨b, c, j, w', hφ, hrun, hm'⟩ := hv w hm hm.get
    rw [semAt_fen _ _ hdef, hrun]
    have hm2 := hm' _ _ S.nt hm
    refine ⟨_, (hok.hp (⟨S.nt, b, true, ob c j⟩ :: hdr S.hp d) (S.nt + 1)).put1 o.dst hdst (v := .slice (some ⟨b, 0, none⟩) n c) (y := .s S.nt b 0 n c) (fun _ => rfl), by cases hdd : o.dst <;> exact hm2, ?_, hrec _ (hr b c j hφ)⟩
    intro hk w2 h2
    obtain rfl := hka hk
    cases hdd : o.dst <;> rw [hdd] at h2 <;> exact h2.sub1
  | leaf =>
    intro _ hc
    cases kd with
    | q =>
      obtain ⟨y, hkn, hdst, _, hrun, hr⟩ := hc
      refine step_q hi hd hs hp (v := den y) (S' := put1 S o.dst y) (Or.inl ⟨hw, hdef, fun w hm => ?_⟩) (by cases o.dst <;> rfl) (hok.put1 o.dst hdst fun _ => rfl) (hrec _ hr)
      rw [hrun a w (hok.ok hm)]
      exact ⟨rfl, Bel.refl _ _⟩
    | a =>
      refine step_ab hi rfl hd hs hp hw fun w hm => ?_
      refine wpIn_weak (Oper.wpIn_mono ?_ (hc a w (hok.ok hm)))
      rintro a' w' ⟨S', h1, h2, h3⟩
      exact ⟨S', h1.okA, h1.mem, h2, hrec _ h3⟩
    | b =>
      refine step_ab hi rfl hd hs hp hw fun w hm => ?_
      refine wpIn_weak (Oper.wpIn_mono ?_ (hc a w (hok.ok hm)))
      rintro a' w' ⟨S', h1, h2, h3⟩
      exact ⟨S', h1.okA, h1.mem, h2, hrec _ h3⟩
  | no => exact fun _ h => h.elim

theorem exDR_opv {k : List Fr} {all : List Oper} {n : Nat} {S : St} {i : Nat} {kd : Kd} {o : Oper} {a : Act} {listed : Array Bool} {rec : St → Prop}
    (hrec : ∀ S, rec S → semG P E k all n (listed.setIfInBounds i true) S) (hok : OkA S a)
    (hi : nthO all i = some o) (hd : Down all.toArray listed) (hs : Region.noSelect all.toArray = true) (hp : stOk all.toArray listed i kd = true)
    (hw : Region.wanted o (yielded all.toArray a.tmps) = true) (h : exDR P E o kd rec S (opv P S o.op)) :
    wpM E.r P all.toArray (fun a w => semK P E k .normal a w) (n + 1) listed a (Mem E.W0 E.mods S.hp) := by
  by_cases hdef : ∃ c, o.op = .defer c
  · obtain ⟨c, hc⟩ := hdef
    rw [hc, opv_defer] at h
    cases kd with
    | q => obtain ⟨_, _, _, h1, _⟩ := h; exact absurd hc (h1 c)
    | a =>
      refine step_ab hi rfl hd hs hp hw fun w hm => ?_
      refine wpIn_weak (Oper.wpIn_mono ?_ (h a w (hok.ok hm)))
      rintro a' w' ⟨S', h1, h2, h3⟩
      exact ⟨S', h1.okA, h1.mem, h2, hrec _ h3⟩
    | b =>
      refine step_ab hi rfl hd hs hp hw fun w hm => ?_
      refine wpIn_weak (Oper.wpIn_mono ?_ (h a w (hok.ok hm)))
      rintro a' w' ⟨S', h1, h2, h3⟩
      exact ⟨S', h1.okA, h1.mem, h2, hrec _ h3⟩
  · exact exDR_sem hrec hok hi (fun c hc => hdef ⟨c, hc⟩) hd hs hp hw _ (fun w hm => opv_sem (hok.ok hm) o) h

theorem OkA.bool {S : St} {a : Act} (hok : OkA S a) {dj : Nat} {c : Bool} (hy : lk S.sl dj = .v (.bool c)) : OkA { S with sl := (dj, .v (.bool c)) :: S.sl } a := by
  refine ⟨hok.df, hok.n, ?_⟩
  intro t ht
  simp only [lk] at ht ⊢
  by_cases e : dj = t
  · subst e
    have hb : Nat.beq dj dj = true := by simp
    rw [hb]
    have := hok.sl dj (by rw [hy]; simp)
    rw [hy] at this
    exact this
  · rw [nbeq_ne e] at ht ⊢
    exact hok.sl t ht

theorem yielded_of' {S : St} {a : Act} (hok : OkA S a) {all : List Oper} {j dj : Nat} (hj : dstOf all j = some dj) (hx : lk S.sl dj ≠ .xx) :
    yielded all.toArray a.tmps j = (match den (lk S.sl dj) with | .bool b => some b | _ => none) := by
  have h1 : ((all.toArray[j]?).bind (·.dst)) = some dj := by simpa [dstOf] using hj
  unfold yielded
  rw [h1]
  simp only [Option.bind_some, hok.sl dj hx]
  cases den (lk S.sl dj) <;> rfl

theorem exDO_sem {k : List Fr} {all : List Oper} {n : Nat} {S : St} {i : Nat} {kd : Kd} {o : Oper} {a : Act} {listed : Array Bool} {rec : St → Prop}
    (hrec : ∀ S, rec S → semG P E k all n (listed.setIfInBounds i true) S) (hok : OkA S a)
    (hi : nthO all i = some o) (hd : Down all.toArray listed) (hs : Region.noSelect all.toArray = true) (hp : stOk all.toArray listed i kd = true)
    (h : exDO P E all o kd rec S) :
    wpM E.r P all.toArray (fun a w => semK P E k .normal a w) (n + 1) listed a (Mem E.W0 E.mods S.hp) := by
  unfold exDO at h
  split at h
  · rename_i hg
    exact exDR_opv hrec hok hi hd hs hp (by simp [Region.wanted, hg]) h
  · rename_i j want hg
    split at h
    · rename_i dj hj
      obtain ⟨hdst, h⟩ := h
      have skip : ∀ S' : St, S'.hp = S.hp → S'.n = S.n → OkA S' a → rec (put1 S' o.dst (.v undef)) → Region.wanted o (yielded all.toArray a.tmps) = false →
          wpM E.r P all.toArray (fun a w => semK P E k .normal a w) (n + 1) listed a (Mem E.W0 E.mods S.hp) := fun S' h1 h1n h2 h3 h4 => by
        have hk1 : OkA (put1 S' o.dst (.v undef)) (a.put o.dst undef) := h2.put1 o.dst (by rw [h1n]; exact hdst) (v := undef) (y := .v undef) (fun _ => rfl)
        exact step_over hi hd hs hp h4 (S' := put1 S' o.dst (.v undef)) (by cases o.dst <;> exact h1) hk1 (hrec _ h3)
      cases hy : lk S.sl dj with
      | v z =>
        have hx : lk S.sl dj ≠ .xx := by rw [hy]; simp
        have hyl := yielded_of' hok hj hx
        rw [hy] at hyl h
        cases z with
        | bool c =>
          have hyl' : yielded all.toArray a.tmps j = some c := hyl
          have hw : Region.wanted o (yielded all.toArray a.tmps) = (some c == some want) := by simp [Region.wanted, hg, hyl']
          cases c with
          | true =>
            have hb := h.1 rfl
            cases want with
            | true => exact exDR_opv (S := { S with sl := (dj, .v (.bool true)) :: S.sl }) hrec (hok.bool hy) hi hd hs hp (by rw [hw]; rfl) hb
            | false => exact skip { S with sl := (dj, .v (.bool true)) :: S.sl } rfl rfl (hok.bool hy) hb (by rw [hw]; rfl)
          | false =>
            have hb := h.2 rfl
            cases want with
            | true => exact skip { S with sl := (dj, .v (.bool false)) :: S.sl } rfl rfl (hok.bool hy) hb (by rw [hw]; rfl)
            | false => exact exDR_opv (S := { S with sl := (dj, .v (.bool false)) :: S.sl }) hrec (hok.bool hy) hi hd hs hp (by rw [hw]; rfl) hb
        | tuple vs =>
          have hyl' : yielded all.toArray a.tmps j = none := hyl
          exact skip S rfl rfl hok h (by simp [Region.wanted, hg, hyl'])
        | _ => exact h.elim
      | _ => rw [hy] at h; exact h.elim
    · exact h.elim

theorem exD_sem {k : List Fr} {all : List Oper} (N : Nat) : ∀ (p : List (Nat × Kd)) (S : St), exD P E N k all p S → semD P E k all p S
  | [], S, h => fun a listed hok _ _ hp => by
    simp only [planOk, List.isEmpty_iff] at hp
    exact ⟨hp, fun w hm => ex_sem N _ h a w (hok.ok hm)⟩
  | (i, kd) :: p, S, h => fun a listed hok hd hs hp => by
    simp only [exD] at h
    cases ho : nthO all i with
    | none => rw [ho] at h; exact h.elim
    | some o =>
      rw [ho] at h
      rw [planOk_cons, Bool.and_eq_true] at hp
      have hr : i ∈ Region.ready .any all.toArray listed := by
        have := hp.1
        simp only [stOk, Bool.and_eq_true] at this
        simpa using this.1.1
      exact exDO_sem (n := p.length) (fun S hS a hk => exD_sem N p S hS a _ hk (hd.add hr) hs hp.2) hok ho hd hs hp.1 h

/-- **A region that draws its order.** -/
theorem CodeC.draw {id : Nat} {l : List Oper} {k : List Fr} {S : St} (p : List (Nat × Kd)) (N : Nat) (hm : P.follows .mixedOrders = true) (hc : chk l p = true) (h : exD P E N k l p S) :
    CodeC P E (.region id l.toArray true) k S := by
  intro a w hok
  simp only [chk, Bool.and_eq_true] at hc
  obtain ⟨⟨h1, h2⟩, h3⟩ := hc
  have hlen : p.length = l.length := Nat.eq_of_beq_eq_true h2
  have hsem := exD_sem N p S h a (Array.replicate l.length false) hok.okA (fun j o _ hl => by
    rcases Nat.lt_or_ge j l.length with h' | h'
    · simp [h'] at hl
    · simp [Nat.not_lt.2 h'] at hl) h1 h3
  have hany := wpM_any _ _ _ _ hsem _ (hok.mem.drawn (w.drawn + 1) (Nat.le_succ _))
  have : (Code.region id l.toArray true).wpIn (fen E.r) 0 P (QN fun a w => semK P E k .normal a w) a w := wpIn_region_any hm (by simpa [hlen] using hany)
  refine wpIn_mono this ?_
  rintro e a' w' ⟨rfl, h⟩
  exact h

end
end Go.Dx
