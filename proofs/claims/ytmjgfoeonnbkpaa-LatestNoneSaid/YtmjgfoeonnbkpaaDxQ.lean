/- Rows of numbers, frames of calls, for contracts got out of a symbolic execution. -/
import Derived.Test.YtmjgfoeonnbkpaaDxP
namespace Go.Dx
open Go.RowKit

/-- A region that draws its order, walked as it is written. -/
theorem CodeC.lex {P : Program} {E : Env} {id : Nat} {l : List Oper} {k : List Fr} {S : St} (N : Nat) (hm : P.follows .mixedOrders = true) (hc : chk l (lexP l 0) = true) (h : exD P E N k l (lexP l 0) S) :
    CodeC P E (.region id l.toArray true) k S := CodeC.draw (lexP l 0) N hm hc h

def memB : List Nat → Nat → Bool
  | [], _ => false
  | a :: l, i => bif Nat.beq a i then true else memB l i

/-- The order of the text, but the operations of these numbers turn what lay. -/
def lexPb (bs : List Nat) : List Oper → Nat → List (Nat × Kd)
  | [], _ => []
  | o :: l, i => (i, bif memB bs i then .b else kdOf o.op) :: lexPb bs l (i + 1)

@[go_sem] theorem memB_nil (i : Nat) : memB [] i = false := rfl
@[go_sem] theorem memB_cons (a : Nat) (l : List Nat) (i : Nat) : memB (a :: l) i = bif Nat.beq a i then true else memB l i := rfl
@[go_sem] theorem lexPb_nil (bs : List Nat) (i : Nat) : lexPb bs [] i = [] := rfl
@[go_sem] theorem lexPb_cons (bs : List Nat) (d : Option Nat) (op : Op) (t : TypeId) (pos : String) (af : Array Edge) (g : Option (Nat × Bool)) (l : List Oper) (i : Nat) : lexPb bs (⟨d, op, t, pos, af, g⟩ :: l) i = (i, bif memB bs i then .b else kdOf op) :: lexPb bs l (i + 1) := rfl

theorem CodeC.lexb {P : Program} {E : Env} {id : Nat} {l : List Oper} {k : List Fr} {S : St} (bs : List Nat) (N : Nat) (hm : P.follows .mixedOrders = true) (hc : chk l (lexPb bs l 0) = true) (h : exD P E N k l (lexPb bs l 0) S) :
    CodeC P E (.region id l.toArray true) k S := CodeC.draw (lexPb bs l 0) N hm hc h

/-- A call in such a region that turns what lay. -/
theorem CallD.mut {P : Program} {E : Env} {o : Oper} {rec : St → Prop} {S : St} {h : Nat} {as : List SV} {γ : Type} (x : γ → SV) (hp' : γ → List Ent) (Φ : γ → Prop)
    (hc : ∀ w, Mem E.W0 E.mods S.hp w → Calls P h (denL as).toArray w fun e w' => ∃ c, e = .returned (den (x c)) ∧ Φ c ∧ Mem E.W0 E.mods (hp' c) w')
    (hn : (dOf o.dst < S.n ∨ o.dst = none) ∧ ∀ c, Φ c → rec (put1 { S with hp := hp' c } o.dst (x c))) : CallD P E o .b rec S h as := by
  refine ⟨hn.1, fun w hm => (hc w hm).mono ?_⟩
  rintro e w' ⟨c, rfl, hΦ, hm'⟩
  exact ⟨x c, hp' c, S.nt, rfl, hm', (fun h => nomatch h), hn.2 c hΦ⟩

/-- A call that turns what lay. -/
theorem CallC.mut {P : Program} {E : Env} {all r : List Oper} {k : List Fr} {S : St} {d : Option Nat} {h : Nat} {as : List SV} {γ : Type} (x : γ → SV) (hp' : γ → List Ent) (Φ : γ → Prop) (N : Nat)
    (hc : ∀ w, Mem E.W0 E.mods S.hp w → Calls P h (denL as).toArray w fun e w' => ∃ c, e = .returned (den (x c)) ∧ Φ c ∧ Mem E.W0 E.mods (hp' c) w')
    (hn : (dOf d < S.n ∨ d = none) ∧ ∀ c, Φ c → ex P E N (.L all r k (put1 { S with hp := hp' c } d (x c)))) : CallC P E all r k S d h as := by
  refine CallC.gen (γ := { c : γ // Φ c }) (fun c => x c.1) (fun c => hp' c.1) S.nt N hn.1 (fun w hm => (hc w hm).mono ?_) (fun c => hn.2 c.1 c.2)
  rintro e w' ⟨c, rfl, hΦ, hm'⟩
  exact ⟨⟨c, hΦ⟩, rfl, hm'⟩

/-! ### Rows of numbers -/

def nums (k : IntKind) (l : List Int) : List SV := l.map fun x => .v (.int k x)

@[simp] theorem nums_length (k : IntKind) (l : List Int) : (nums k l).length = l.length := by simp [nums]
theorem nums_append (k : IntKind) (l r : List Int) : nums k (l ++ r) = nums k l ++ nums k r := by simp [nums]
theorem nums_cons (k : IntKind) (x : Int) (r : List Int) : nums k (x :: r) = .v (.int k x) :: nums k r := rfl
theorem nums_nil (k : IntKind) : nums k [] = [] := rfl

theorem allOne_append (l r : List SV) : allOne (l ++ r) = (allOne l && allOne r) := by
  induction l with
  | nil => rfl
  | cons a l ih => simp [allOne, ih, Bool.and_assoc]

theorem allOne_nums (k : IntKind) (l : List Int) : allOne (nums k l) = true := by
  induction l with
  | nil => rfl
  | cons a l ih => exact ih

/-- From place o on there stand these numbers. -/
def Seg (l : List SV) (o : Nat) (k : IntKind) (xs : List Int) : Prop := ∀ i, i < xs.length → l[o + i]? = some (.v (.int k (xs.getD i 0)))

theorem Seg.le {l : List SV} {o : Nat} {k : IntKind} {xs : List Int} (h : Seg l o k xs) (hx : xs ≠ []) : o + xs.length ≤ l.length := by
  have hpos : 0 < xs.length := by cases xs <;> simp_all
  have := h (xs.length - 1) (by omega)
  have := (List.getElem?_eq_some_iff.1 this).1
  omega

theorem Seg.ld1 {l : List SV} {o : Nat} {k : IntKind} {xs : List Int} (h : Seg l o k xs) {i : Nat} (hi : i < xs.length) : ld1 l (o + i) = .v (.int k (xs.getD i 0)) := by
  rw [ld1_eq, h i hi]; rfl

theorem Seg.lt {l : List SV} {o : Nat} {k : IntKind} {xs : List Int} (h : Seg l o k xs) {i : Nat} (hi : i < xs.length) : o + i < l.length := (List.getElem?_eq_some_iff.1 (h i hi)).1

theorem Seg.own (k : IntKind) (xs : List Int) (j : List SV) : Seg (nums k xs ++ j) 0 k xs := by
  intro i hi
  simp only [Nat.zero_add]
  rw [List.getElem?_append_left (by simpa using hi)]
  simp [nums, hi]

theorem Seg.ldN {l : List SV} {o : Nat} {k : IntKind} {xs : List Int} (h : Seg l o k xs) : ldN l o xs.length = nums k xs := by
  rw [ldN_eq]
  apply List.ext_getElem?
  intro i
  by_cases hi : i < xs.length
  · rw [List.getElem?_take_of_lt hi, List.getElem?_drop, h i hi]
    simp [nums, hi]
  · rw [List.getElem?_eq_none (by simp; omega), List.getElem?_eq_none (by simp; omega)]

theorem stN_nums (k : IntKind) (xs : List Int) (j : List SV) (i : Nat) (x : Int) (hi : i < xs.length) : stN (nums k xs ++ j) i [.v (.int k x)] = nums k (xs.set i x) ++ j := by
  rw [stN_eq _ _ _ (by simp; omega)]
  apply List.ext_getElem?
  intro t
  simp only [nums, List.map_set]
  by_cases h1 : t < i
  · rw [List.append_assoc, List.getElem?_append_left (by simp; omega), List.getElem?_take_of_lt h1, List.getElem?_append_left (by simp; omega), List.getElem?_append_left (by simp; omega), List.getElem?_set_ne (by omega)]
  · by_cases h2 : t = i
    · subst h2
      have e1 : (List.take t (List.map (fun x => SV.v (Value.int k x)) xs ++ j)).length = t := by simp; omega
      rw [List.append_assoc, List.getElem?_append_right (by omega), e1, Nat.sub_self, List.getElem?_append_left (l₁ := (List.map (fun x => SV.v (Value.int k x)) xs).set t _) (by simpa using hi)]
      simp [hi]
    · have e1 : (List.take i (List.map (fun x => SV.v (Value.int k x)) xs ++ j)).length = i := by simp; omega
      rw [List.append_assoc, List.getElem?_append_right (by omega), e1, List.getElem?_append_right (by simp; omega)]
      simp only [List.length_cons, List.length_nil, List.getElem?_drop]
      rw [show i + (0 + 1) + (t - i - (0 + 1)) = t by omega]
      by_cases h3 : t < xs.length
      · rw [List.getElem?_append_left (by simpa using h3), List.getElem?_append_left (by simpa using h3), List.getElem?_set_ne (by omega)]
      · rw [List.getElem?_append_right (by simpa using h3), List.getElem?_append_right (by simpa using h3)]
        simp

theorem nums_getD {k : IntKind} {xs : List Int} {i : Nat} (hi : i < xs.length) : ld1 (nums k xs) i = .v (.int k (xs.getD i 0)) := by
  rw [ld1_eq]
  simp [nums, hi]

@[go_sem] theorem ldN_len0 (l : List SV) (o : Nat) : ldN l o 0 = [] := by rw [ldN_eq]; simp

theorem ld1_own {k : IntKind} {xs : List Int} {j : List SV} {i : Nat} (hi : i < xs.length) : ld1 (nums k xs ++ j) i = .v (.int k (xs.getD i 0)) := by
  have := (Seg.own k xs j).ld1 hi
  rwa [Nat.zero_add] at this

/-! ### Frames -/

/-- Of what lay in w only the blocks of ms have turned. -/
def Tch (w w' : World) (ms : List Nat) : Prop := Mem w ms [] w'

theorem Tch.of {w w' : World} {ms : List Nat} {hp : List Ent} (h : Mem w ms hp w') : Tch w w' ms := h.sub (List.nil_sublist _)

theorem Tch.below {w w' : World} (h : Tch w w' []) : Bel w.heap.size w w' := Mem.below h

theorem below_touch {w w' : World} (h : Bel w.heap.size w w') (ms : List Nat) : Tch w w' ms :=
  ⟨h.os, h.tape, h.output, h.size, fun b hb _ => h.block b hb, by simp, by simp, List.Pairwise.nil⟩

/-- What is only read, in the world as it stands. -/
theorem Mem.reads {w : World} {hp : List Ent} (get : ∀ e ∈ hp, w.heap[e.b]? = some (denO e.o)) (hw : ∀ e ∈ hp, e.w = false) : Mem w [] hp w :=
  Mem.refl w [] hp get (fun e he h => by rw [hw e he] at h; cases h) (by
    induction hp with
    | nil => exact List.Pairwise.nil
    | cons x r ih =>
      refine List.Pairwise.cons (fun y hy h => ?_) (ih (fun e he => get e (List.mem_cons_of_mem _ he)) (fun e he => hw e (List.mem_cons_of_mem _ he)))
      rw [hw x List.mem_cons_self, hw y (List.mem_cons_of_mem _ hy)] at h
      simp at h)

theorem hk_t {hp : List Ent} {t : Nat} {e : Ent} (h : hk hp t = some e) : e.t = t := by
  induction hp with
  | nil => simp [hk] at h
  | cons x r ih =>
    simp only [hk] at h
    cases hb : Nat.beq x.t t with
    | true => rw [hb] at h; simp at h; subst h; exact Nat.eq_of_beq_eq_true hb
    | false => rw [hb] at h; simp at h; exact ih h

/-- Two tracked blocks, of which one may be written, are two. -/
theorem Mem.ne {W0 : World} {mods : List Nat} {hp : List Ent} {w : World} (h : Mem W0 mods hp w) {t u : Nat} {e f : Ent} (he : hk hp t = some e) (hf : hk hp u = some f) (hne : t ≠ u) (hw : e.w = true ∨ f.w = true) : e.b ≠ f.b := by
  have hef : e ≠ f := by
    rintro rfl
    exact hne ((hk_t he).symm.trans (hk_t hf))
  have key : ∀ (l : List Ent), l.Pairwise (fun x y => x.w = true ∨ y.w = true → x.b ≠ y.b) → ∀ x ∈ l, ∀ y ∈ l, x ≠ y → (x.w = true ∨ y.w = true) → x.b ≠ y.b := by
    intro l hl
    induction hl with
    | nil => intro x hx; cases hx
    | cons h1 _ ih =>
      intro x hx y hy hxy hxw
      rcases List.mem_cons.1 hx with ex | hx'
      · rcases List.mem_cons.1 hy with ey | hy'
        · exact absurd (ex.trans ey.symm) hxy
        · rw [ex] at hxw ⊢
          exact h1 y hy' hxw
      · rcases List.mem_cons.1 hy with ey | hy'
        · rw [ey] at hxw ⊢
          exact fun hh => h1 x hx' hxw.symm hh.symm
        · exact ih x hx' y hy' hxy hxw
  exact key hp h.sep e (hk_mem he) f (hk_mem hf) hef hw

/-- A call has laid a block that takes the place of one that is only read. -/
theorem Mem.fresh_ro {W0 : World} {mods : List Nat} {hp l r : List Ent} {e : Ent} {w w' : World} (h : Mem W0 mods hp w) (hb : Bel w.heap.size w w') (hl : hp = l ++ e :: r) (t : Nat) {b : Nat} {o : HObj} (h1 : w.heap.size ≤ b) (h2 : w'.heap[b]? = some (denO o)) :
    Mem W0 mods (l ++ ⟨t, b, false, o⟩ :: r) w' := by
  have h' := h.call hb
  have hin : ∀ x ∈ l ++ r, x ∈ hp := by
    intro x hx
    rw [hl]
    rcases List.mem_append.1 hx with hx | hx
    · exact List.mem_append_left _ hx
    · exact List.mem_append_right _ (List.mem_cons_of_mem _ hx)
  have hlt : ∀ x ∈ l ++ r, x.b ≠ b := fun x hx => by have := h.lt (hin x hx); omega
  have hsep := h'.sep
  rw [hl, List.pairwise_append] at hsep
  obtain ⟨s1, s2, s3⟩ := hsep
  rw [List.pairwise_cons] at s2
  refine ⟨h'.os, h'.tape, h'.output, h'.size, h'.frame, ?_, ?_, ?_⟩
  · intro x hx
    rcases List.mem_append.1 hx with hx | hx
    · exact h'.get x (hin x (List.mem_append_left _ hx))
    · rcases List.mem_cons.1 hx with rfl | hx
      · exact h2
      · exact h'.get x (hin x (List.mem_append_right _ hx))
  · intro x hx hxw
    rcases List.mem_append.1 hx with hx | hx
    · exact h'.wr x (hin x (List.mem_append_left _ hx)) hxw
    · rcases List.mem_cons.1 hx with rfl | hx
      · cases hxw
      · exact h'.wr x (hin x (List.mem_append_right _ hx)) hxw
  · rw [List.pairwise_append]
    refine ⟨s1, List.pairwise_cons.2 ⟨fun y hy _ hh => hlt y (List.mem_append_right _ hy) hh.symm, s2.2⟩, ?_⟩
    intro x hx y hy hh
    rcases List.mem_cons.1 hy with rfl | hy
    · exact hlt x (List.mem_append_left _ hx)
    · exact s3 x hx y (List.mem_cons_of_mem _ hy) hh

/-- A call has turned one tracked block. -/
theorem Mem.upd1 {W0 : World} {mods : List Nat} {hp : List Ent} {w w' : World} (h : Mem W0 mods hp w) {t : Nat} {e : Ent} (he : hk hp t = some e) (hw : e.w = true) (ht : Tch w w' [e.b]) (o : HObj) (hn : w'.heap[e.b]? = some (denO o)) :
    Mem W0 mods (hset hp t o) w' := by
  obtain ⟨l, r, h1, h2⟩ := hset_spec he o
  have hem := hk_mem he
  have hsep := h.sep
  rw [h1] at hsep
  rw [List.pairwise_append] at hsep
  obtain ⟨s1, s2, s3⟩ := hsep
  rw [List.pairwise_cons] at s2
  obtain ⟨s2, s4⟩ := s2
  have hne : ∀ x ∈ l ++ r, x.b ≠ e.b := by
    intro x hx
    rcases List.mem_append.1 hx with hx | hx
    · exact s3 x hx e List.mem_cons_self (Or.inr hw)
    · exact fun hh => s2 x hx (Or.inl hw) hh.symm
  have hin : ∀ x ∈ l ++ r, x ∈ hp := by
    intro x hx
    rw [h1]
    rcases List.mem_append.1 hx with hx | hx
    · exact List.mem_append_left _ hx
    · exact List.mem_append_right _ (List.mem_cons_of_mem _ hx)
  have hold : ∀ x ∈ l ++ r, w'.heap[x.b]? = some (denO x.o) := fun x hx => by
    rw [ht.frame x.b (h.lt (hin x hx)) (by simpa using hne x hx)]
    exact h.get x (hin x hx)
  refine ⟨ht.os.trans h.os, ht.tape.trans h.tape, ht.output.trans h.output, Nat.le_trans h.size ht.size, ?_, ?_, ?_, ?_⟩
  · intro b hb hm
    have hbe : b ≠ e.b := by
      rintro rfl
      rcases h.wr e hem hw with h' | h'
      · omega
      · exact hm h'
    rw [ht.frame b (Nat.lt_of_lt_of_le hb h.size) (by simpa using hbe)]
    exact h.frame b hb hm
  · rw [h2]
    intro x hx
    rcases List.mem_append.1 hx with hx | hx
    · exact hold x (List.mem_append_left _ hx)
    · rcases List.mem_cons.1 hx with rfl | hx
      · exact hn
      · exact hold x (List.mem_append_right _ hx)
  · rw [h2]
    intro x hx hxw
    rcases List.mem_append.1 hx with hx | hx
    · exact h.wr x (hin x (List.mem_append_left _ hx)) hxw
    · rcases List.mem_cons.1 hx with rfl | hx
      · exact h.wr e hem hw
      · exact h.wr x (hin x (List.mem_append_right _ hx)) hxw
  · rw [h2, List.pairwise_append]
    refine ⟨s1, List.pairwise_cons.2 ⟨fun y hy hh => s2 y hy hh, s4⟩, ?_⟩
    intro x hx y hy hh
    rcases List.mem_cons.1 hy with rfl | hy
    · exact s3 x hx e List.mem_cons_self hh
    · exact s3 x hx y (List.mem_cons_of_mem _ hy) hh

end Go.Dx
