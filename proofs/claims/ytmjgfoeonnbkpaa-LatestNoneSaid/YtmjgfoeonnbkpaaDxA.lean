/- The base of a symbolic execution of the model's code: symbolic values, symbolic heaps, and what it means that a world and an activation are as a symbolic state says. Generic over programs. -/
import Derived.TacticsIn
import Derived.RangeFuncCalls
import Derived.Below
namespace Go.Dx
open Go.RowKit

/-- A symbolic value. 'xx': nothing is known. 'p', 's', 'm': a pointer, a slice, a map that leads into the tracked block of tag t, number b. -/
inductive SV where
  | xx
  | v (y : Value)
  | p (t b o : Nat)
  | s (t b o n c : Nat)
  | m (t b : Nat)
  | g (l : List SV)
  | u (l : List SV)
  | f (h : Nat) (l : List SV)
  | i (t : Nat) (y : SV)

mutual
def den : SV → Value
  | .xx => undef
  | .v y => y
  | .p _ b o => .pointer (some ⟨b, o, none⟩)
  | .s _ b o n c => .slice (some ⟨b, o, none⟩) n c
  | .m _ b => .map (some b)
  | .g l => .agg (denL l).toArray
  | .u l => .tuple (denL l).toArray
  | .f h l => .func (.func h) #[] (denL l).toArray
  | .i t y => .iface t (den y)
def denL : List SV → List Value
  | [] => []
  | a :: l => den a :: denL l
end

theorem denL_map (l : List SV) : denL l = l.map den := by
  induction l with
  | nil => rfl
  | cons a l ih => simp [denL, ih]

@[simp] theorem denL_length (l : List SV) : (denL l).length = l.length := by rw [denL_map]; simp

/-- What a tracked block holds: 'c': one variable of type T; 'a': a row of elements of type T; 'z': a row that is only read, of which some places may be frozen. -/
inductive HObj where
  | c (l : List SV) (T : Nat)
  | a (l : List SV) (T : Nat)
  | z (l : List SV) (T : Nat) (fz : Nat × Nat)
  | o (y : Obj)

def denO : HObj → Obj
  | .c l T => .cells (denL l).toArray T
  | .a l T => .cells (denL l).toArray T
  | .z l T fz => .cells (denL l).toArray T fz
  | .o y => y

/-- A tracked block: its tag, its number, whether it may be written, what it holds. -/
structure Ent where
  t : Nat
  b : Nat
  w : Bool
  o : HObj

/-- A symbolic state: how many temporaries; the next tag; the temporaries (first match); the tracked blocks; the deferred calls. -/
structure St where
  n : Nat
  nt : Nat
  sl : List (Nat × SV)
  hp : List Ent
  df : List Deferred

def lk : List (Nat × SV) → Nat → SV
  | [], _ => .xx
  | (a, y) :: r, t => bif Nat.beq a t then y else lk r t

def hk : List Ent → Nat → Option Ent
  | [], _ => none
  | e :: r, t => bif Nat.beq e.t t then some e else hk r t

def hset : List Ent → Nat → HObj → List Ent
  | [], _, _ => []
  | e :: r, t, o => bif Nat.beq e.t t then { e with o := o } :: r else e :: hset r t o

/-- A block is forgotten. -/
def hdrop : List Ent → Nat → List Ent
  | [], _ => []
  | e :: r, t => bif Nat.beq e.t t then r else e :: hdrop r t

def hdr (hp : List Ent) : Option Nat → List Ent
  | none => hp
  | some t => hdrop hp t

/-- The output stands, and no draw is taken back. -/
def OutK (w w' : World) : Prop := w'.output = w.output ∧ w.drawn ≤ w'.drawn

theorem OutK.refl (w : World) : OutK w w := ⟨rfl, Nat.le_refl _⟩
theorem OutK.trans {a b c : World} (k : OutK b c) (h : OutK a b) : OutK a c := ⟨k.1.trans h.1, Nat.le_trans h.2 k.2⟩

/-- Below block number B the world w' is as w was. -/
structure Bel (B : Nat) (w w' : World) : Prop where
  os : w'.os = w.os
  tape : w'.tape = w.tape
  output : OutK w w'
  size : w.heap.size ≤ w'.heap.size
  block : ∀ k, k < B → w'.heap[k]? = w.heap[k]?

theorem Bel.refl (B : Nat) (w : World) : Bel B w w := ⟨rfl, rfl, OutK.refl w, Nat.le_refl _, fun _ _ => rfl⟩
theorem Bel.trans {B : Nat} {a b c : World} (h : Bel B a b) (k : Bel B b c) : Bel B a c :=
  ⟨k.os.trans h.os, k.tape.trans h.tape, k.output.trans h.output, Nat.le_trans h.size k.size, fun i hi => (k.block i hi).trans (h.block i hi)⟩
theorem Bel.mono {B B' : Nat} {w w' : World} (h : Bel B w w') (hB : B' ≤ B) : Bel B' w w' := ⟨h.os, h.tape, h.output, h.size, fun k hk => h.block k (Nat.lt_of_lt_of_le hk hB)⟩
theorem Bel.below {B : Nat} {w w' : World} (h : Bel B w w') : Below B w w' := ⟨h.os, h.tape, h.output.1, h.size, h.block⟩

/-- What is known of the world: below the size of W0's heap only the blocks of 'mods' have turned; the tracked blocks hold what they are said to hold. -/
structure Mem (W0 : World) (mods : List Nat) (hp : List Ent) (w : World) : Prop where
  os : w.os = W0.os
  tape : w.tape = W0.tape
  output : OutK W0 w
  size : W0.heap.size ≤ w.heap.size
  frame : ∀ b, b < W0.heap.size → b ∉ mods → w.heap[b]? = W0.heap[b]?
  get : ∀ e ∈ hp, w.heap[e.b]? = some (denO e.o)
  wr : ∀ e ∈ hp, e.w = true → W0.heap.size ≤ e.b ∨ e.b ∈ mods
  sep : hp.Pairwise fun x y => x.w = true ∨ y.w = true → x.b ≠ y.b

structure Env where
  W0 : World
  mods : List Nat
  r : Option Nat
  fin : Exit → St → Prop

structure Ok (E : Env) (S : St) (a : Act) (w : World) : Prop where
  df : a.defers = S.df
  n : a.tmps.size = S.n
  sl : ∀ t, lk S.sl t ≠ .xx → a.tmps[t]? = some (den (lk S.sl t))
  mem : Mem E.W0 E.mods S.hp w

theorem nbeq_ne {d t : Nat} (h : d ≠ t) : Nat.beq d t = false := by
  cases hb : Nat.beq d t with
  | false => rfl
  | true => exact absurd (Nat.eq_of_beq_eq_true hb) h

theorem lk_cons (a : Nat) (y : SV) (r : List (Nat × SV)) (t : Nat) : lk ((a, y) :: r) t = bif Nat.beq a t then y else lk r t := rfl
theorem hk_cons (e : Ent) (r : List Ent) (t : Nat) : hk (e :: r) t = bif Nat.beq e.t t then some e else hk r t := rfl

theorem hk_mem {hp : List Ent} {t : Nat} {e : Ent} (h : hk hp t = some e) : e ∈ hp := by
  induction hp with
  | nil => simp [hk] at h
  | cons x r ih =>
    simp only [hk] at h
    cases hb : Nat.beq x.t t with
    | true => rw [hb] at h; simp at h; subst h; exact List.mem_cons_self
    | false => rw [hb] at h; simp at h; exact List.mem_cons_of_mem _ (ih h)

/-! ### The slots -/

theorem Ok.lkv {E : Env} {S : St} {a : Act} {w : World} (h : Ok E S a w) {t : Nat} (hx : lk S.sl t ≠ .xx) : a.eval (.tmp t) = den (lk S.sl t) := by
  have := h.sl t hx
  simp only [Act.eval, Array.getD_eq_getD_getElem?, this, Option.getD_some]

theorem Ok.put {E : Env} {S : St} {a : Act} {w : World} (h : Ok E S a w) {d : Nat} (hd : d < S.n) (y : SV) :
    Ok E { S with sl := (d, y) :: S.sl } (a.put (some d) (den y)) w := by
  refine ⟨h.df, ?_, ?_, h.mem⟩
  · simp [Act.put, h.n]
  · intro t ht
    simp only [lk] at ht ⊢
    simp only [Act.put]
    by_cases e : d = t
    · subst e
      have hb : Nat.beq d d = true := by simp
      rw [hb] at ht ⊢
      simp [h.n, hd]
    · have hb : Nat.beq d t = false := nbeq_ne e
      rw [hb] at ht ⊢
      simp only [cond_false] at ht ⊢
      rw [Array.getElem?_setIfInBounds_ne e]
      exact h.sl t ht

/-- A slot of which nothing is said any more. -/
theorem Ok.drop {E : Env} {S : St} {a : Act} {w : World} (h : Ok E S a w) (dst : Option Nat) (v : Value) :
    Ok E { S with sl := match dst with | some d => (d, .xx) :: S.sl | none => S.sl } (a.put dst v) w := by
  cases dst with
  | none => exact h
  | some d =>
    refine ⟨h.df, ?_, ?_, h.mem⟩
    · simp [Act.put, h.n]
    · intro t ht
      simp only [lk] at ht ⊢
      simp only [Act.put]
      by_cases e : d = t
      · subst e
        have hb : Nat.beq d d = true := by simp
        rw [hb] at ht
        simp at ht
      · have hb : Nat.beq d t = false := nbeq_ne e
        rw [hb] at ht ⊢
        simp only [cond_false] at ht ⊢
        rw [Array.getElem?_setIfInBounds_ne e]
        exact h.sl t ht

/-! ### The heap -/

theorem Mem.refl (w : World) (mods : List Nat) (hp : List Ent) (get : ∀ e ∈ hp, w.heap[e.b]? = some (denO e.o))
    (wr : ∀ e ∈ hp, e.w = true → w.heap.size ≤ e.b ∨ e.b ∈ mods) (sep : hp.Pairwise fun x y => x.w = true ∨ y.w = true → x.b ≠ y.b) : Mem w mods hp w :=
  ⟨rfl, rfl, OutK.refl w, Nat.le_refl _, fun _ _ _ => rfl, get, wr, sep⟩

theorem Mem.drawn {W0 : World} {mods : List Nat} {hp : List Ent} {w : World} (h : Mem W0 mods hp w) (d : Nat) (hd : w.drawn ≤ d) : Mem W0 mods hp { w with drawn := d } :=
  ⟨h.os, h.tape, ⟨h.output.1, Nat.le_trans h.output.2 hd⟩, h.size, h.frame, h.get, h.wr, h.sep⟩

theorem Mem.below {W0 : World} {hp : List Ent} {w : World} (h : Mem W0 [] hp w) : Bel W0.heap.size W0 w :=
  ⟨h.os, h.tape, h.output, h.size, fun b hb => h.frame b hb (by simp)⟩

theorem Mem.lt {W0 : World} {mods : List Nat} {hp : List Ent} {w : World} (h : Mem W0 mods hp w) {e : Ent} (he : e ∈ hp) : e.b < w.heap.size := by
  have := h.get e he
  rcases Nat.lt_or_ge e.b w.heap.size with h' | h'
  · exact h'
  · simp [Array.getElem?_eq_none h'] at this

/-- A new block. -/
theorem Mem.alloc {W0 : World} {mods : List Nat} {hp : List Ent} {w : World} (h : Mem W0 mods hp w) (t : Nat) (o : HObj) :
    Mem W0 mods (⟨t, w.heap.size, true, o⟩ :: hp) { w with heap := w.heap.push (denO o) } := by
  refine ⟨h.os, h.tape, h.output, by simp; have := h.size; omega, ?_, ?_, ?_, ?_⟩
  · intro b hb hm
    have := h.size
    simp only [Array.getElem?_push]
    rw [if_neg (by omega)]
    exact h.frame b hb hm
  · intro e he
    rcases List.mem_cons.1 he with rfl | he
    · simp
    · have := h.lt he
      simp only [Array.getElem?_push]
      rw [if_neg (by omega)]
      exact h.get e he
  · intro e he hw
    rcases List.mem_cons.1 he with rfl | he
    · exact Or.inl h.size
    · exact h.wr e he hw
  · refine List.Pairwise.cons ?_ h.sep
    intro y hy _
    have := h.lt hy
    simp; omega

theorem hset_spec {hp : List Ent} {t : Nat} {e : Ent} (h : hk hp t = some e) (o : HObj) :
    ∃ l r, hp = l ++ e :: r ∧ hset hp t o = l ++ { e with o := o } :: r := by
  induction hp with
  | nil => simp [hk] at h
  | cons x r ih =>
    simp only [hk] at h
    cases hb : Nat.beq x.t t with
    | true =>
      rw [hb] at h; simp at h; subst h
      exact ⟨[], r, rfl, by simp [hset, hb]⟩
    | false =>
      rw [hb] at h; simp at h
      obtain ⟨l, r', h1, h2⟩ := ih h
      exact ⟨x :: l, r', by simp [h1], by simp [hset, hb, h2]⟩

/-- A tracked block is turned. -/
theorem Mem.set {W0 : World} {mods : List Nat} {hp : List Ent} {w w' : World} (h : Mem W0 mods hp w) {t : Nat} {e : Ent} (he : hk hp t = some e) (hw : e.w = true) (o : HObj)
    (hos : w'.os = w.os) (htape : w'.tape = w.tape) (hout : OutK w w') (hsize : w'.heap.size = w.heap.size) (hnew : w'.heap[e.b]? = some (denO o)) (hold : ∀ b, b ≠ e.b → w'.heap[b]? = w.heap[b]?) :
    Mem W0 mods (hset hp t o) w' := by
  obtain ⟨l, r, h1, h2⟩ := hset_spec he o
  have hem := hk_mem he
  have hsep := h.sep
  rw [h1] at hsep
  rw [List.pairwise_append] at hsep
  obtain ⟨s1, s2, s3⟩ := hsep
  rw [List.pairwise_cons] at s2
  obtain ⟨s2, s4⟩ := s2
  have hne : ∀ x ∈ l ++ r, x.b ≠ e.b := by
    intro x hx
    rcases List.mem_append.1 hx with hx | hx
    · exact s3 x hx e List.mem_cons_self (Or.inr hw)
    · exact fun hh => s2 x hx (Or.inl hw) hh.symm
  refine ⟨hos.trans h.os, htape.trans h.tape, hout.trans h.output, by rw [hsize]; exact h.size, ?_, ?_, ?_, ?_⟩
  · intro b hb hm
    by_cases hbe : b = e.b
    · rcases h.wr e hem hw with h' | h'
      · omega
      · subst hbe; exact absurd h' hm
    · rw [hold b hbe]; exact h.frame b hb hm
  · rw [h2]
    intro x hx
    rcases List.mem_append.1 hx with hx | hx
    · rw [hold _ (hne x (List.mem_append_left _ hx))]; exact h.get x (by rw [h1]; exact List.mem_append_left _ hx)
    · rcases List.mem_cons.1 hx with rfl | hx
      · exact hnew
      · rw [hold _ (hne x (List.mem_append_right _ hx))]; exact h.get x (by rw [h1]; exact List.mem_append_right _ (List.mem_cons_of_mem _ hx))
  · rw [h2]
    intro x hx hxw
    rcases List.mem_append.1 hx with hx | hx
    · exact h.wr x (by rw [h1]; exact List.mem_append_left _ hx) hxw
    · rcases List.mem_cons.1 hx with rfl | hx
      · exact h.wr e hem hw
      · exact h.wr x (by rw [h1]; exact List.mem_append_right _ (List.mem_cons_of_mem _ hx)) hxw
  · rw [h2, List.pairwise_append]
    refine ⟨s1, List.pairwise_cons.2 ⟨?_, s4⟩, ?_⟩
    · intro y hy hh
      exact s2 y hy hh
    · intro x hx y hy hh
      rcases List.mem_cons.1 hy with rfl | hy
      · exact s3 x hx e List.mem_cons_self hh
      · exact s3 x hx y (List.mem_cons_of_mem _ hy) hh

theorem hdrop_spec {hp : List Ent} {t : Nat} {e : Ent} (h : hk hp t = some e) : ∃ l r, hp = l ++ e :: r ∧ hdrop hp t = l ++ r := by
  induction hp with
  | nil => simp [hk] at h
  | cons x r ih =>
    simp only [hk] at h
    cases hb : Nat.beq x.t t with
    | true =>
      rw [hb] at h; simp at h; subst h
      exact ⟨[], r, rfl, by simp [hdrop, hb]⟩
    | false =>
      rw [hb] at h; simp at h
      obtain ⟨l, r', h1, h2⟩ := ih h
      exact ⟨x :: l, r', by simp [h1], by simp [hdrop, hb, h2]⟩

theorem hdrop_sub (hp : List Ent) (t : Nat) : (hdrop hp t).Sublist hp := by
  induction hp with
  | nil => exact List.Sublist.refl _
  | cons x r ih =>
    simp only [hdrop]
    cases Nat.beq x.t t
    · exact ih.cons_cons x
    · exact List.sublist_cons_self x r

theorem hdr_sub (hp : List Ent) (d : Option Nat) : (hdr hp d).Sublist hp := by
  cases d with
  | none => exact List.Sublist.refl _
  | some t => exact hdrop_sub hp t

/-- A tracked block is turned, and goes on under another tag. -/
theorem Mem.retag {W0 : World} {mods : List Nat} {hp : List Ent} {w w' : World} (h : Mem W0 mods hp w) {t : Nat} {e : Ent} (he : hk hp t = some e) (hw : e.w = true) (tag : Nat) (o : HObj)
    (hos : w'.os = w.os) (htape : w'.tape = w.tape) (hout : OutK w w') (hsize : w'.heap.size = w.heap.size) (hnew : w'.heap[e.b]? = some (denO o)) (hold : ∀ b, b ≠ e.b → w'.heap[b]? = w.heap[b]?) :
    Mem W0 mods (⟨tag, e.b, true, o⟩ :: hdrop hp t) w' := by
  obtain ⟨l, r, h1, h2⟩ := hdrop_spec he
  have hem := hk_mem he
  have hsep := h.sep
  rw [h1] at hsep
  rw [List.pairwise_append] at hsep
  obtain ⟨s1, s2, s3⟩ := hsep
  rw [List.pairwise_cons] at s2
  obtain ⟨s2, s4⟩ := s2
  have hne : ∀ x ∈ l ++ r, x.b ≠ e.b := by
    intro x hx
    rcases List.mem_append.1 hx with hx | hx
    · exact s3 x hx e List.mem_cons_self (Or.inr hw)
    · exact fun hh => s2 x hx (Or.inl hw) hh.symm
  have hin : ∀ x ∈ l ++ r, x ∈ hp := by
    intro x hx
    rw [h1]
    rcases List.mem_append.1 hx with hx | hx
    · exact List.mem_append_left _ hx
    · exact List.mem_append_right _ (List.mem_cons_of_mem _ hx)
  refine ⟨hos.trans h.os, htape.trans h.tape, hout.trans h.output, by rw [hsize]; exact h.size, ?_, ?_, ?_, ?_⟩
  · intro b hb hm
    by_cases hbe : b = e.b
    · rcases h.wr e hem hw with h' | h'
      · omega
      · subst hbe; exact absurd h' hm
    · rw [hold b hbe]; exact h.frame b hb hm
  · rw [h2]
    intro x hx
    rcases List.mem_cons.1 hx with rfl | hx
    · exact hnew
    · rw [hold _ (hne x hx)]; exact h.get x (hin x hx)
  · rw [h2]
    intro x hx hxw
    rcases List.mem_cons.1 hx with rfl | hx
    · exact h.wr e hem hw
    · exact h.wr x (hin x hx) hxw
  · rw [h2, List.pairwise_cons]
    refine ⟨fun y hy _ => fun hh => hne y hy hh.symm, ?_⟩
    rw [List.pairwise_append]
    exact ⟨s1, s4, fun x hx y hy hh => s3 x hx y (List.mem_cons_of_mem _ hy) hh⟩

/-- Blocks are forgotten. -/
theorem Mem.sub {W0 : World} {mods : List Nat} {hp hp' : List Ent} {w : World} (h : Mem W0 mods hp w) (hs : hp'.Sublist hp) : Mem W0 mods hp' w :=
  ⟨h.os, h.tape, h.output, h.size, h.frame, fun e he => h.get e (hs.subset he), fun e he => h.wr e (hs.subset he), h.sep.sublist hs⟩

/-- A call has turned nothing that lay. -/
theorem Mem.call {W0 : World} {mods : List Nat} {hp : List Ent} {w w' : World} (h : Mem W0 mods hp w) (hb : Bel w.heap.size w w') : Mem W0 mods hp w' := by
  refine ⟨hb.os.trans h.os, hb.tape.trans h.tape, hb.output.trans h.output, Nat.le_trans h.size hb.size, ?_, ?_, h.wr, h.sep⟩
  · intro b hlt hm
    rw [hb.block b (Nat.lt_of_lt_of_le hlt h.size)]
    exact h.frame b hlt hm
  · intro e he
    rw [hb.block e.b (h.lt he)]
    exact h.get e he

/-- A call has laid a block that it hands over. -/
theorem Mem.new {W0 : World} {mods : List Nat} {hp : List Ent} {w w' : World} (h : Mem W0 mods hp w) (hb : Bel w.heap.size w w') (t : Nat) {b : Nat} {o : HObj} (h1 : w.heap.size ≤ b) (h2 : w'.heap[b]? = some (denO o)) :
    Mem W0 mods (⟨t, b, true, o⟩ :: hp) w' := by
  have h' := h.call hb
  refine ⟨h'.os, h'.tape, h'.output, h'.size, h'.frame, ?_, ?_, ?_⟩
  · intro e he
    rcases List.mem_cons.1 he with rfl | he
    · exact h2
    · exact h'.get e he
  · intro e he hw
    rcases List.mem_cons.1 he with rfl | he
    · exact Or.inl (Nat.le_trans h.size h1)
    · exact h'.wr e he hw
  · refine List.Pairwise.cons ?_ h'.sep
    intro y hy _
    have := h.lt hy
    simp; omega

theorem Mem.at {W0 : World} {mods : List Nat} {hp : List Ent} {w : World} (h : Mem W0 mods hp w) {t : Nat} {e : Ent} (he : hk hp t = some e) : w.heap[e.b]? = some (denO e.o) := h.get e (hk_mem he)

end Go.Dx
