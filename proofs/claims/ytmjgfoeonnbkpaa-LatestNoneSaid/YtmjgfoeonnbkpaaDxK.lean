/- A symbolic execution of code, as a function of fuel, and that it is sound. -/
import Derived.Test.YtmjgfoeonnbkpaaDxJ
namespace Go.Dx
open Go.RowKit

/-- What stands behind the code that is carried out: code; a block's end; a loop's head, at which the state has to be as I says. -/
inductive Fr where
  | c (c : Code)
  | b (id : Nat)
  | l (I : St → Prop)

inductive Cfg where
  | L (all rest : List Oper) (k : List Fr) (S : St)
  | O (all : List Oper) (o : Oper) (rest : List Oper) (k : List Fr) (S : St)
  | C (c : Code) (k : List Fr) (S : St)
  | K (e : Exit) (k : List Fr) (S : St)

/-- A fence that shuts out nothing; r: the round in which the frame is. -/
def fen (r : Option Nat) : Fence := { Fence.wide with round := r }

def put1 (S : St) (d : Option Nat) (y : SV) : St :=
  match d with
  | some d => { S with sl := (d, y) :: S.sl }
  | none => S

/-- What the rest comes to, in the model's own words. -/
def semK (P : Program) (E : Env) : List Fr → Exit → Act → World → Prop
  | [] => fun e a w => ∃ S, Ok E S a w ∧ E.fin e S
  | .c c :: k => Exit.then (fun a w => c.wpIn (fen E.r) 0 P (semK P E k) a w) (semK P E k)
  | .b id :: k => Exit.inBlock id (semK P E k)
  | .l I :: k => Exit.then (fun a w => ∃ S, Ok E S a w ∧ I S) (semK P E k)

def semL (P : Program) (E : Env) (all rest : List Oper) (k : List Fr) (a : Act) (w : World) : Prop :=
  wpListIn (fen E.r) 0 P all.toArray (semK P E k) rest a w

/-! ### Where the execution stands still, and a law goes on -/

/-- A call of function h. -/
def CallC (P : Program) (E : Env) (all r : List Oper) (k : List Fr) (S : St) (d : Option Nat) (h : Nat) (as : List SV) : Prop :=
  ∀ a w, Ok E S a w → Calls P h (denL as).toArray w fun
    | .returned v, w' => semL P E all r k (a.put d v) w'
    | .panicked chain, w' => semK P E k (.panic chain) a w'
    | .outgrown, _ => LetsOut (semK P E k)

/-- An operation that has no rule here. -/
def LeafC (P : Program) (E : Env) (all : List Oper) (o : Oper) (r : List Oper) (k : List Fr) (S : St) : Prop :=
  ∀ a w, Ok E S a w → o.wpIn (fen E.r) 0 P a w (wpListIn (fen E.r) 0 P all.toArray (semK P E k) r) (semK P E k)

/-- Code that has no rule here: a loop, a region that draws its order, a range over a function. -/
def CodeC (P : Program) (E : Env) (c : Code) (k : List Fr) (S : St) : Prop :=
  ∀ a w, Ok E S a w → c.wpIn (fen E.r) 0 P (semK P E k) a w

/-! ### The execution -/

def bxc (rec : Cfg → Prop) (c : Bool) (x y : Cfg) : Prop := (c = true → rec x) ∧ (c = false → rec y)

def exB (rec : Cfg → Prop) (y : SV) (ct cf : Cfg) : Prop :=
  match y with
  | .v (.bool c) => bxc rec c ct cf
  | _ => False

def exG (rec : Cfg → Prop) (all : List Oper) (o : Oper) (r : List Oper) (k : List Fr) (S : St) (dj : Nat) (want : Bool) (y : SV) : Prop :=
  match y with
  | .v (.bool c) =>
    bxc rec c
      (bif want then .O all o r k { S with sl := (dj, .v (.bool true)) :: S.sl } else .L all r k (put1 { S with sl := (dj, .v (.bool true)) :: S.sl } o.dst (.v undef)))
      (bif want then .L all r k (put1 { S with sl := (dj, .v (.bool false)) :: S.sl } o.dst (.v undef)) else .O all o r k { S with sl := (dj, .v (.bool false)) :: S.sl })
  | .v (.tuple _) => rec (.L all r k (put1 S o.dst (.v undef)))
  | _ => False

def dOf (d : Option Nat) : Nat := d.getD 0

def exR (P : Program) (E : Env) (rec : Cfg → Prop) (all : List Oper) (o : Oper) (r : List Oper) (k : List Fr) (S : St) : Res → Prop
  | .val y => (dOf o.dst < S.n ∨ o.dst = none) ∧ rec (.L all r k (put1 S o.dst y))
  | .obl p q => p ∧ exR P E rec all o r k S q
  | .new ob => (dOf o.dst < S.n ∨ o.dst = none) ∧ ∀ b, rec (.L all r k (put1 { S with nt := S.nt + 1, hp := ⟨S.nt, b, true, ob⟩ :: S.hp } o.dst (.p S.nt b 0)))
  | .news ob n c => (dOf o.dst < S.n ∨ o.dst = none) ∧ ∀ b, rec (.L all r k (put1 { S with nt := S.nt + 1, hp := ⟨S.nt, b, true, ob⟩ :: S.hp } o.dst (.s S.nt b 0 n c)))
  | .sto t ob => rec (.L all r k (put1 { S with hp := hset S.hp t ob } o.dst .xx))
  | .call h as => CallC P E all r k S o.dst h as
  | .cse p a b => (p → exR P E rec all o r k S a) ∧ (¬ p → exR P E rec all o r k S b)
  | .gen φ n ob d => (dOf o.dst < S.n ∨ o.dst = none) ∧ ∀ b c j, φ c j → rec (.L all r k (put1 { S with nt := S.nt + 1, hp := ⟨S.nt, b, true, ob c j⟩ :: hdr S.hp d } o.dst (.s S.nt b 0 n c)))
  | .leaf => LeafC P E all o r k S
  | .no => False

def dstOf (all : List Oper) (j : Nat) : Option Nat := (all[j]?).bind (·.dst)

def exO (rec : Cfg → Prop) (all : List Oper) (o : Oper) (r : List Oper) (k : List Fr) (S : St) (want : Bool) (dj : Option Nat) : Prop :=
  match dj with
  | some dj => (dOf o.dst < S.n ∨ o.dst = none) ∧ exG rec all o r k S dj want (lk S.sl dj)
  | none => False

def exK (E : Env) (rec : Cfg → Prop) (e : Exit) (k : List Fr) (S : St) : Prop :=
  match k with
  | [] => E.fin e S
  | .c c :: k => match e with | .normal => rec (.C c k S) | e => rec (.K e k S)
  | .b id :: k => match e with | .normal => rec (.K .normal k S) | .exit i => bif Nat.beq i id then rec (.K .normal k S) else rec (.K (.exit i) k S) | e => rec (.K e k S)
  | .l I :: k => match e with | .normal => I S | e => rec (.K e k S)

def step (P : Program) (E : Env) (rec : Cfg → Prop) : Cfg → Prop
  | .L _ [] k S => rec (.K .normal k S)
  | .L all (o :: r) k S =>
    match o.guard with
    | none => exR P E rec all o r k S (opv P S o.op)
    | some (j, want) => exO rec all o r k S want (dstOf all j)
  | .O all o r k S => exR P E rec all o r k S (opv P S o.op)
  | .C c k S =>
    match c with
    | .skip => rec (.K .normal k S)
    | .label _ => rec (.K .normal k S)
    | .seq a b => rec (.C a (.c b :: k) S)
    | .cond x a b => exB rec (ev S x) (.C a k S) (.C b k S)
    | .block id a => rec (.C a (.b id :: k) S)
    | .exit id => rec (.K (.exit id) k S)
    | .ret => rec (.K .ret k S)
    | .region id ops draw => match draw with | false => rec (.L ops.toList ops.toList k S) | true => CodeC P E (.region id ops true) k S
    | c => CodeC P E c k S
  | .K e k S => exK E rec e k S

def ex (P : Program) (E : Env) : Nat → Cfg → Prop
  | 0, _ => False
  | n + 1, c => step P E (ex P E n) c

/-! ### It is sound -/

def sem (P : Program) (E : Env) : Cfg → Prop
  | .L all r k S => ∀ a w, Ok E S a w → semL P E all r k a w
  | .O all o r k S => ∀ a w, Ok E S a w → o.wpIn (fen E.r) 0 P a w (wpListIn (fen E.r) 0 P all.toArray (semK P E k) r) (semK P E k)
  | .C c k S => ∀ a w, Ok E S a w → c.wpIn (fen E.r) 0 P (semK P E k) a w
  | .K e k S => ∀ a w, Ok E S a w → semK P E k e a w

section
variable {P : Program} {E : Env}

theorem fen_fn (r : Option Nat) (f : FuncId) : (fen r).fn f := trivial
theorem fen_depth (r : Option Nat) (n : Nat) : (fen r).depth.isSome = true → 1 ≤ n := fun h => by simp [fen, Fence.wide] at h

theorem callsIn_fen {r : Option Nat} {n : Nat} {f : FuncId} {args : Array Value} {w : World} {R : Ending → World → Prop} (h : Calls P f args w R) : CallsIn (fen r) n P f args w R :=
  (callsIn_wide.2 h : CallsIn Fence.wide n P f args w R)

/-- A state behind a value that is put into a slot. -/
theorem Ok.put1 {S : St} {a : Act} {w : World} (h : Ok E S a w) (d : Option Nat) (hd : dOf d < S.n ∨ d = none) {v : Value} {y : SV} (hv : Kn v y) : Ok E (put1 S d y) (a.put d v) w := by
  cases d with
  | none => exact h
  | some d =>
    rcases hd with hd | hd
    · by_cases hy : y = .xx
      · subst hy; exact h.drop (some d) v
      · rw [hv hy]; exact h.put hd y
    · cases hd

theorem semAt_fen {r : Option Nat} (ρ : Operand → Value) (o : Oper) (h : ∀ c, o.op ≠ .defer c) : o.semAt (fen r).round ρ = execOp ρ o := Oper.semAt_eq _ ρ o h

/-- One operation: what its result says is what its run comes to. -/
theorem wpIn_of_res {S : St} {a : Act} {w : World} (hok : Ok E S a w) (o : Oper) (hdef : ∀ c, o.op ≠ .defer c) {all r : List Oper} {k : List Fr} {rec : Cfg → Prop}
    (hrec : ∀ c, rec c → sem P E c) : ∀ (res : Res), RSem S.hp w ((execOp a.eval o).run P w) res → exR P E rec all o r k S res →
      o.wpIn (fen E.r) 0 P a w (wpListIn (fen E.r) 0 P all.toArray (semK P E k) r) (semK P E k) := by
  intro res
  induction res with
  | val y =>
    rintro ⟨v, hv, hk⟩ ⟨hd, hr⟩
    refine ⟨fun f _ => fen_fn _ f, ?_⟩
    rw [semAt_fen _ _ hdef, hv]
    exact hrec _ hr _ _ (hok.put1 o.dst hd hk)
  | obl p q ih => exact fun h1 h2 => ih (h1 h2.1) h2.2
  | new ob =>
    rintro hv ⟨hd, hr⟩
    refine ⟨fun f _ => fen_fn _ f, ?_⟩
    rw [semAt_fen _ _ hdef, hv]
    have h1 : Ok E { S with nt := S.nt + 1, hp := ⟨S.nt, w.heap.size, true, ob⟩ :: S.hp } a { w with heap := w.heap.push (denO ob) } := ⟨hok.df, hok.n, hok.sl, hok.mem.alloc S.nt ob⟩
    exact hrec _ (hr w.heap.size) _ _ (h1.put1 o.dst hd (v := .pointer (some ⟨w.heap.size, 0, none⟩)) (y := .p S.nt w.heap.size 0) (fun _ => rfl))
  | news ob n c =>
    rintro hv ⟨hd, hr⟩
    refine ⟨fun f _ => fen_fn _ f, ?_⟩
    rw [semAt_fen _ _ hdef, hv]
    have h1 : Ok E { S with nt := S.nt + 1, hp := ⟨S.nt, w.heap.size, true, ob⟩ :: S.hp } a { w with heap := w.heap.push (denO ob) } := ⟨hok.df, hok.n, hok.sl, hok.mem.alloc S.nt ob⟩
    exact hrec _ (hr w.heap.size) _ _ (h1.put1 o.dst hd (v := .slice (some ⟨w.heap.size, 0, none⟩) n c) (y := .s S.nt w.heap.size 0 n c) (fun _ => rfl))
  | sto t ob =>
    rintro ⟨e, w', he, hw, hv, ht⟩ hr
    refine ⟨fun f _ => fen_fn _ f, ?_⟩
    rw [semAt_fen _ _ hdef, hv]
    have h1 : Ok E { S with hp := hset S.hp t ob } a w' := ⟨hok.df, hok.n, hok.sl, hok.mem.set he hw ob ht.os ht.tape ht.output ht.size ht.new ht.old⟩
    have h2 : Ok E (Go.Dx.put1 { S with hp := hset S.hp t ob } o.dst .xx) (a.put o.dst undef) w' := by
      have := h1.drop o.dst undef
      cases hd : o.dst with
      | none => rw [hd] at this; exact this
      | some d => rw [hd] at this; exact this
    exact hrec _ hr _ _ h2
  | call h as =>
    rintro hv hr
    refine ⟨fun f _ => fen_fn _ f, ?_⟩
    rw [semAt_fen _ _ hdef, hv]
    exact ⟨fen_depth _ _, callsIn_fen (hr a w hok)⟩
  | cse p x y ihx ihy =>
    intro hv h
    by_cases hp : p
    · exact ihx (hv.1 hp) (h.1 hp)
    · exact ihy (hv.2 hp) (h.2 hp)
  | gen φ n ob d =>
    rintro hv ⟨hd, hr⟩
    refine ⟨fun f _ => fen_fn _ f, ?_⟩
    obtain ⟨b, c, j, w', hφ, hrun, hm⟩ := hv hok.mem.get
    rw [semAt_fen _ _ hdef, hrun]
    have h1 : Ok E { S with nt := S.nt + 1, hp := ⟨S.nt, b, true, ob c j⟩ :: hdr S.hp d } a w' := ⟨hok.df, hok.n, hok.sl, hm _ _ S.nt hok.mem⟩
    exact hrec _ (hr b c j hφ) _ _ (h1.put1 o.dst hd (v := .slice (some ⟨b, 0, none⟩) n c) (y := .s S.nt b 0 n c) (fun _ => rfl))
  | leaf => exact fun _ h => h a w hok
  | no => exact fun _ h => h.elim

theorem opv_defer {S : St} {c : Call} : opv P S (.defer c) = .leaf := rfl

theorem wpIn_of_opv {S : St} {a : Act} {w : World} (hok : Ok E S a w) (o : Oper) {all r : List Oper} {k : List Fr} {rec : Cfg → Prop} (hrec : ∀ c, rec c → sem P E c)
    (h : exR P E rec all o r k S (opv P S o.op)) : o.wpIn (fen E.r) 0 P a w (wpListIn (fen E.r) 0 P all.toArray (semK P E k) r) (semK P E k) := by
  by_cases hdef : ∃ c, o.op = .defer c
  · obtain ⟨c, hc⟩ := hdef
    rw [hc, opv_defer] at h
    exact h a w hok
  · exact wpIn_of_res hok o (fun c hc => hdef ⟨c, hc⟩) hrec _ (opv_sem hok o) h

theorem bxc_sem {rec : Cfg → Prop} (hrec : ∀ c, rec c → sem P E c) {c : Bool} {x y : Cfg} (h : bxc rec c x y) : sem P E (bif c then x else y) := by
  cases c
  · exact hrec _ (h.2 rfl)
  · exact hrec _ (h.1 rfl)

theorem yielded_of {S : St} {a : Act} {w : World} (hok : Ok E S a w) {all : List Oper} {j dj : Nat} (hj : dstOf all j = some dj) (hx : lk S.sl dj ≠ .xx) :
    yielded all.toArray a.tmps j = (match den (lk S.sl dj) with | .bool b => some b | _ => none) := by
  have h1 : ((all.toArray[j]?).bind (·.dst)) = some dj := by simpa [dstOf] using hj
  unfold yielded
  rw [h1]
  simp only [Option.bind_some, hok.sl dj hx]
  cases den (lk S.sl dj) <;> rfl

theorem exG_sem {rec : Cfg → Prop} (hrec : ∀ c, rec c → sem P E c) {all : List Oper} {o : Oper} {r : List Oper} {k : List Fr} {S : St} {j dj : Nat} {want : Bool}
    (hg : o.guard = some (j, want)) (hj : dstOf all j = some dj) (hd : dOf o.dst < S.n ∨ o.dst = none) (h : exG rec all o r k S dj want (lk S.sl dj)) : sem P E (.L all (o :: r) k S) := by
  intro a w hok
  have skip : ∀ S' : St, Ok E S' a w → S'.n = S.n → sem P E (.L all r k (put1 S' o.dst (.v undef))) → Region.wanted o (yielded all.toArray a.tmps) = false → semL P E all (o :: r) k a w := fun S' h1 h2 h3 h4 => by
    unfold semL wpListIn
    rw [h4]
    simp only [Bool.false_eq_true, if_false]
    exact ⟨fun f _ => fen_fn _ f, h3 _ _ (h1.put1 o.dst (by rw [h2]; exact hd) (v := undef) (y := .v undef) (fun _ => rfl))⟩
  have go : ∀ S' : St, Ok E S' a w → sem P E (.O all o r k S') → Region.wanted o (yielded all.toArray a.tmps) = true → semL P E all (o :: r) k a w := fun S' h1 h3 h4 => by
    unfold semL wpListIn
    rw [h4]
    simp only [if_true]
    exact h3 _ _ h1
  cases hy : lk S.sl dj with
  | v z =>
    have hx : lk S.sl dj ≠ .xx := by rw [hy]; simp
    have hyl := yielded_of hok hj hx
    rw [hy] at hyl h
    cases z with
    | bool c =>
      have hyl' : yielded all.toArray a.tmps j = some c := hyl
      have hS : ∀ b, c = b → Ok E { S with sl := (dj, .v (.bool b)) :: S.sl } a w := fun b hb => by
        subst hb
        refine ⟨hok.df, hok.n, ?_, hok.mem⟩
        intro t ht
        simp only [lk] at ht ⊢
        by_cases e : dj = t
        · subst e
          have hb : Nat.beq dj dj = true := by simp
          rw [hb]
          have := hok.sl dj hx
          rw [hy] at this
          exact this
        · rw [nbeq_ne e] at ht ⊢
          exact hok.sl t ht
      have hw : Region.wanted o (yielded all.toArray a.tmps) = (some c == some want) := by simp [Region.wanted, hg, hyl']
      have hb := bxc_sem hrec h
      cases c <;> cases want
      · exact go _ (hS _ rfl) hb (by rw [hw]; rfl)
      · exact skip _ (hS _ rfl) rfl hb (by rw [hw]; rfl)
      · exact skip _ (hS _ rfl) rfl hb (by rw [hw]; rfl)
      · exact go _ (hS _ rfl) hb (by rw [hw]; rfl)
    | tuple vs =>
      have hyl' : yielded all.toArray a.tmps j = none := hyl
      exact skip S hok rfl (hrec _ h) (by simp [Region.wanted, hg, hyl'])
    | _ => exact h.elim
  | _ => rw [hy] at h; exact h.elim

theorem exK_sem {rec : Cfg → Prop} (hrec : ∀ c, rec c → sem P E c) {e : Exit} {k : List Fr} {S : St} (h : exK E rec e k S) : sem P E (.K e k S) := by
  intro a w hok
  cases k with
  | nil => exact ⟨S, hok, h⟩
  | cons f k =>
    cases f with
    | c c => cases e <;> exact hrec _ h a w hok
    | b id =>
      cases e with
      | exit i =>
        simp only [exK] at h
        simp only [semK, Exit.inBlock]
        by_cases hi : i = id
        · subst hi
          have hb : Nat.beq i i = true := by simp
          rw [hb] at h
          rw [if_pos rfl]
          exact hrec _ h a w hok
        · rw [nbeq_ne hi] at h
          rw [if_neg hi]
          exact hrec _ h a w hok
      | _ => exact hrec _ h a w hok
    | l I =>
      cases e with
      | normal => exact ⟨S, hok, h⟩
      | _ => exact hrec _ h a w hok

theorem step_sem {rec : Cfg → Prop} (hrec : ∀ c, rec c → sem P E c) (c : Cfg) (h : step P E rec c) : sem P E c := by
  cases c with
  | L all r k S =>
    cases r with
    | nil => exact fun a w hok => hrec _ h a w hok
    | cons o r =>
      simp only [step] at h
      cases hg : o.guard with
      | none =>
        rw [hg] at h
        intro a w hok
        unfold semL wpListIn
        have : Region.wanted o (yielded all.toArray a.tmps) = true := by simp [Region.wanted, hg]
        rw [this]
        simp only [if_true]
        exact wpIn_of_opv hok o hrec h
      | some g =>
        obtain ⟨j, want⟩ := g
        rw [hg] at h
        simp only [exO] at h
        cases hj : dstOf all j with
        | none => rw [hj] at h; exact h.elim
        | some dj =>
          rw [hj] at h
          exact exG_sem hrec hg hj h.1 h.2
  | O all o r k S => exact fun a w hok => wpIn_of_opv hok o hrec h
  | K e k S => exact exK_sem hrec h
  | C c k S =>
    intro a w hok
    cases c with
    | skip => exact wpIn_skip (hrec _ h a w hok)
    | label l => exact wpIn_label (hrec _ h a w hok)
    | seq x y => exact wpIn_seq (hrec _ h a w hok)
    | block id x => exact wpIn_block (hrec _ h a w hok)
    | exit id => exact wpIn_exit (hrec _ h a w hok)
    | ret => exact wpIn_ret (hrec _ h a w hok)
    | cond x y z =>
      simp only [step] at h
      cases hx : ev S x with
      | v q =>
        rw [hx] at h
        cases q with
        | bool t =>
          have he : a.eval x = .bool t := by
            have := hok.eval (x := x) (by rw [hx]; simp)
            rw [this, hx]; rfl
          refine wpIn_cond he ?_
          have hb := bxc_sem hrec h
          cases t
          · exact hb a w hok
          · exact hb a w hok
        | _ => exact h.elim
      | _ => rw [hx] at h; exact h.elim
    | region id ops draw =>
      cases draw
      · exact wpIn_region_list (by have := hrec _ h a w hok; simpa [semL] using this)
      · exact h a w hok
    | _ => exact h a w hok

theorem ex_sem : ∀ (n : Nat) (c : Cfg), ex P E n c → sem P E c
  | 0, _, h => h.elim
  | n + 1, c, h => step_sem (fun c hc => ex_sem n c hc) c h

end
end Go.Dx
