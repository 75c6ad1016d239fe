/- Regions that draw their order: what is quiet is walked once, the others in each order. -/
import Derived.Test.YtmjgfoeonnbkpaaDxY
import Derived.RangeFuncNested
set_option linter.unusedSimpArgs false
set_option linter.unusedVariables false
namespace Go.Dx
open Go.RowKit

/-- The orders: 'q i c': operation i, which is quiet, and then c; 'w i c': operation i, alone and behind all that was, and then c; 'b i c s': operation i, which turns nothing that lies, and then c, or one of the choices s. -/
inductive PT where
  | e
  | z
  | q (i : Nat) (c : PT)
  | w (i : Nat) (c : PT)
  | b (i : Nat) (c s : PT)

def okP (ops : Array Oper) : PT → Nat → Array Bool → List Nat → Bool
  | .e, f, listed, _ => (Region.ready .any ops listed).isEmpty
  | .z, _, _, rs => rs.isEmpty
  | .q _ _, 0, _, _ => false
  | .q i c, f + 1, listed, _ => stOk ops listed i .q && okP ops c f (listed.setIfInBounds i true) (Region.ready .any ops (listed.setIfInBounds i true))
  | .w _ _, 0, _, _ => false
  | .w i c, f + 1, listed, _ => stOk ops listed i .b && okP ops c f (listed.setIfInBounds i true) (Region.ready .any ops (listed.setIfInBounds i true))
  | .b _ _ _, 0, _, _ => false
  | .b i c s, f + 1, listed, rs =>
    match rs with
    | [] => false
    | r :: rs => r == i && okP ops c f (listed.setIfInBounds i true) (Region.ready .any ops (listed.setIfInBounds i true)) && (match s with | .z => rs.isEmpty | .b _ _ _ => okP ops s (f + 1) listed rs | _ => false)

/-- Nodes: the beginning is no 'z'. -/
def topP : PT → Bool
  | .z => false
  | _ => true

def subP : PT → Bool
  | .e => true
  | .z => true
  | .q _ c => topP c && subP c
  | .w _ c => topP c && subP c
  | .b _ c s => topP c && subP c && subP s

def chkP (l : List Oper) (t : PT) : Bool :=
  Region.noSelect l.toArray && topP t && subP t && okP l.toArray t l.length (Array.replicate l.length false) (Region.ready .any l.toArray (Array.replicate l.length false))

section
variable {P : Program} {E : Env}

/-- All that was known of what lies is known. -/
def monoH (E : Env) (hp' hp : List Ent) : Prop := ∀ w, Mem E.W0 E.mods hp' w → Mem E.W0 E.mods hp w

@[go_sem] theorem monoH_refl (hp : List Ent) : monoH E hp hp = True := eq_true fun _ h => h
@[go_sem] theorem monoH_cons (e : Ent) (hp : List Ent) : monoH E (e :: hp) hp = True := eq_true fun _ h => h.sub (List.sublist_cons_self _ _)
@[go_sem] theorem monoH_cons2 (e f : Ent) (hp : List Ent) : monoH E (e :: f :: hp) hp = True := eq_true fun _ h => h.sub ((List.sublist_cons_self _ _).trans (List.sublist_cons_self _ _))

/-- How a choice is walked: a call may lay blocks. -/
def kdB (op : Op) : Kd := match kdOf op with
  | .q => .a
  | k => k
@[go_sem] theorem kdB_call (f : Operand) (l : Array Operand) (ts : Array TypeId) : kdB (.call ⟨.value f, l, ts⟩) = .a := rfl
@[go_sem] theorem kdB_invoke (x : Operand) (m : String) (l : Array Operand) (ts : Array TypeId) : kdB (.call ⟨.invoke x m, l, ts⟩) = .a := rfl
@[go_sem] theorem kdB_alloc (T : Nat) : kdB (.alloc T) = .a := rfl
@[go_sem] theorem kdB_box (T : Nat) (x : Operand) : kdB (.box T x) = .a := rfl
@[go_sem] theorem kdB_buildSlice (T m : Nat) (l : Array (Nat × Operand)) : kdB (.buildSlice T m l) = .a := rfl
@[go_sem] theorem kdB_makeSlice (T : Nat) (l c : Operand) : kdB (.makeSlice T l c) = .a := rfl
@[go_sem] theorem kdB_append (l : Array Operand) (ts : Array TypeId) : kdB (.call ⟨.builtin .append, l, ts⟩) = .a := rfl

def exP (P : Program) (E : Env) (N : Nat) (k : List Fr) (all : List Oper) : PT → St → Prop
  | .e, S => ex P E N (.K .normal k S)
  | .z, _ => True
  | .q i c, S => exDX P E all .q (exP P E N k all c) S (nthO all i)
  | .w i c, S => exDX P E all .b (exP P E N k all c) S (nthO all i)
  | .b i c s, S => exDX P E all ((nthO all i).elim .q fun o => kdB o.op) (fun S' => monoH E S'.hp S.hp ∧ exP P E N k all c S') S (nthO all i) ∧ exP P E N k all s S

@[go_sem] theorem exP_e (N : Nat) (k : List Fr) (all : List Oper) (S : St) : exP P E N k all .e S = ex P E N (.K .normal k S) := rfl
@[go_sem] theorem exP_z (N : Nat) (k : List Fr) (all : List Oper) (S : St) : exP P E N k all .z S = True := rfl
@[go_sem] theorem exP_q (N : Nat) (k : List Fr) (all : List Oper) (S : St) (i : Nat) (c : PT) : exP P E N k all (.q i c) S = exDX P E all .q (exP P E N k all c) S (nthO all i) := rfl
@[go_sem] theorem exP_w (N : Nat) (k : List Fr) (all : List Oper) (S : St) (i : Nat) (c : PT) : exP P E N k all (.w i c) S = exDX P E all .b (exP P E N k all c) S (nthO all i) := rfl
@[go_sem] theorem exP_b (N : Nat) (k : List Fr) (all : List Oper) (S : St) (i : Nat) (c s : PT) : exP P E N k all (.b i c s) S = (exDX P E all ((nthO all i).elim .q fun o => kdB o.op) (fun S' => monoH E S'.hp S.hp ∧ exP P E N k all c S') S (nthO all i) ∧ exP P E N k all s S) := rfl

/-- What a choice comes to. -/
def altG (P : Program) (E : Env) (k : List Fr) (all : List Oper) (n : Nat) (listed : Array Bool) (S : St) (rs : List Nat) : Prop :=
  ∀ a, OkA S a → ∀ i ∈ rs, ∀ w, Mem E.W0 E.mods S.hp w → wpOpIn (fen E.r) 0 P all.toArray (QN fun a w => semK P E k .normal a w) i
    (fun a' w' => ∃ C', (∀ w, C' w → Mem E.W0 E.mods S.hp w) ∧ closedB C' ∧ C' w' ∧ wpM E.r P all.toArray (fun a w => semK P E k .normal a w) n (listed.setIfInBounds i true) a' C') a w

theorem exP_sem {k : List Fr} {all : List Oper} (N : Nat) (hs : Region.noSelect all.toArray = true) : ∀ (t : PT) (f : Nat) (listed : Array Bool) (rs : List Nat) (S : St), exP P E N k all t S → Down all.toArray listed → subP t = true → okP all.toArray t f listed rs = true →
    (topP t = true → rs = Region.ready .any all.toArray listed → semG P E k all f listed S) ∧ (∀ i c s, t = .b i c s → ∀ n, f = n + 1 → (∀ x ∈ rs, x ∈ Region.ready .any all.toArray listed) → altG P E k all n listed S rs) := by
  intro t
  induction t with
  | e =>
    intro f listed rs S h hd hsub hc
    refine ⟨fun _ _ a hok => ?_, fun _ _ _ h => nomatch h⟩
    simp only [okP, List.isEmpty_iff] at hc
    cases f with
    | zero => exact And.intro hc fun w hm => ex_sem N _ h a w (hok.ok hm)
    | succ f => exact And.intro (fun _ w hm => ex_sem N _ h a w (hok.ok hm)) (Or.inl fun i hi => by rw [hc] at hi; cases hi)
  | z =>
    intro f listed rs S h hd hsub hc
    exact ⟨(fun h => nomatch h), (fun _ _ _ h => nomatch h)⟩
  | q i c ih =>
    intro f listed rs S h hd hsub hc
    refine ⟨fun _ _ a hok => ?_, fun _ _ _ h => nomatch h⟩
    cases f with
    | zero => cases hc
    | succ f =>
      simp only [okP, Bool.and_eq_true] at hc
      simp only [subP, Bool.and_eq_true] at hsub
      have hr : i ∈ Region.ready .any all.toArray listed := by
        have := hc.1
        simp only [stOk, Bool.and_eq_true] at this
        simpa using this.1.1
      simp only [exP] at h
      cases ho : nthO all i with
      | none => rw [ho] at h; exact h.elim
      | some o =>
        rw [ho] at h
        exact exDO_sem (n := f) (fun S hS => (ih f _ _ S hS (hd.add hr) hsub.2 hc.2).1 hsub.1 rfl) hok ho hd hs hc.1 h
  | w i c ih =>
    intro f listed rs S h hd hsub hc
    refine ⟨fun _ _ a hok => ?_, fun _ _ _ h => nomatch h⟩
    cases f with
    | zero => cases hc
    | succ f =>
      simp only [okP, Bool.and_eq_true] at hc
      simp only [subP, Bool.and_eq_true] at hsub
      have hr : i ∈ Region.ready .any all.toArray listed := by
        have := hc.1
        simp only [stOk, Bool.and_eq_true] at this
        simpa using this.1.1
      simp only [exP] at h
      cases ho : nthO all i with
      | none => rw [ho] at h; exact h.elim
      | some o =>
        rw [ho] at h
        exact exDO_sem (n := f) (fun S hS => (ih f _ _ S hS (hd.add hr) hsub.2 hc.2).1 hsub.1 rfl) hok ho hd hs hc.1 h
  | b i c s ihc ihs =>
    intro f listed rs S h hd hsub hc
    cases f with
    | zero => cases hc
    | succ f =>
      cases rs with
      | nil => cases hc
      | cons r rs =>
        simp only [okP, Bool.and_eq_true, beq_iff_eq] at hc
        obtain ⟨⟨rfl, hc1⟩, hc2⟩ := hc
        simp only [subP, Bool.and_eq_true] at hsub
        obtain ⟨⟨hs1, hs2⟩, hs3⟩ := hsub
        obtain ⟨h1, h2⟩ := h
        have alt : (∀ x ∈ r :: rs, x ∈ Region.ready .any all.toArray listed) → altG P E k all f listed S (r :: rs) := by
          intro hin a hok j hj w hm
          rcases List.mem_cons.1 hj with rfl | hj'
          · have hr := hin j hj
            refine wpOpIn_mono ?_ (exDX_one (hok.ok hm) h1)
            rintro a' w' ⟨S', hok', hmono, hx⟩
            exact ⟨_, hmono, closed_mem _ _ _, hok'.mem, (ihc f _ _ S' hx (hd.add hr) hs2 hc1).1 hs1 rfl a' hok'.okA⟩
          · cases s with
            | z => simp only [List.isEmpty_iff] at hc2; subst hc2; cases hj'
            | b i2 c2 s2 => exact (ihs (f + 1) listed rs S h2 hd hs3 hc2).2 i2 c2 s2 rfl f rfl (fun x hx => hin x (List.mem_cons_of_mem _ hx)) a hok j hj' w hm
            | e => cases hc2
            | q _ _ => cases hc2
            | w _ _ => cases hc2
        refine ⟨fun _ hrs a hok => ?_, fun _ _ _ _ n hn hin => ?_⟩
        · refine ⟨fun he => (by rw [he] at hrs; cases hrs), Or.inl fun j hj w hm => ?_⟩
          exact alt (fun x hx => by rw [← hrs]; exact hx) a hok j (by rw [hrs]; exact hj) w hm
        · have : f = n := by omega
          subst this
          exact alt hin

/-- A call in such a region that lays one block. -/
theorem CallD.new {kd : Kd} {o : Oper} {rec : St → Prop} {S : St} {h : Nat} {as : List SV} {γ : Type} (hkd : kd.eq .q = false) (x : γ → Nat → SV) (ob : γ → HObj)
    (hc : ∀ w, Mem E.W0 E.mods S.hp w → Calls P h (denL as).toArray w fun e w' => ∃ c b, e = .returned (den (x c b)) ∧ w.heap.size ≤ b ∧ w'.heap[b]? = some (denO (ob c)) ∧ Bel w.heap.size w w')
    (hn : (dOf o.dst < S.n ∨ o.dst = none) ∧ ∀ c b, rec (put1 { S with hp := ⟨S.nt, b, true, ob c⟩ :: S.hp, nt := S.nt + 1 } o.dst (x c b))) : CallD P E o kd rec S h as := by
  have key : (dOf o.dst < S.n ∨ o.dst = none) ∧ ∀ w, Mem E.W0 E.mods S.hp w → Calls P h (denL as).toArray w fun e w' => ∃ y hp' nt', e = .returned (den y) ∧ Mem E.W0 E.mods hp' w' ∧
      (kd.eq .a = true → ∀ w, Mem E.W0 E.mods hp' w → Mem E.W0 E.mods S.hp w) ∧ rec (put1 { S with hp := hp', nt := nt' } o.dst y) := by
    refine ⟨hn.1, fun w hm => (hc w hm).mono ?_⟩
    rintro e w' ⟨c, b, rfl, h1, h2, hb⟩
    exact ⟨x c b, _, S.nt + 1, rfl, hm.new hb S.nt h1 h2, fun _ w h => h.sub (List.sublist_cons_self _ _), hn.2 c b⟩
  cases kd with
  | q => cases hkd
  | a => exact key
  | b => exact key

/-- **A region that draws its order**: what is quiet walked once, the others in each order. -/
theorem CodeC.po {id : Nat} {l : List Oper} {k : List Fr} {S : St} (t : PT) (N : Nat) (hm : P.follows .mixedOrders = true) (hc : chkP l t = true) (h : exP P E N k l t S) :
    CodeC P E (.region id l.toArray true) k S := by
  intro a w hok
  simp only [chkP, Bool.and_eq_true] at hc
  obtain ⟨⟨⟨h1, h2⟩, h3⟩, h4⟩ := hc
  have hdown : Down l.toArray (Array.replicate l.length false) := fun j o _ hl => by
    rcases Nat.lt_or_ge j l.length with h' | h'
    · simp [h'] at hl
    · simp [Nat.not_lt.2 h'] at hl
  have hsem := (exP_sem N h1 t _ _ _ S h hdown h3 h4).1 h2 rfl a hok.okA
  have hany := wpM_any _ _ _ _ hsem _ (hok.mem.drawn (w.drawn + 1) (Nat.le_succ _))
  have : (Code.region id l.toArray true).wpIn (fen E.r) 0 P (QN fun a w => semK P E k .normal a w) a w := wpIn_region_any hm (by simpa using hany)
  refine wpIn_mono this ?_
  rintro e a' w' ⟨rfl, h⟩
  exact h

/-- What a call has laid, besides what was known. -/
theorem Mem.join {W0 : World} {mods : List Nat} {hp l : List Ent} {w w' : World} (h : Mem W0 mods hp w) (hc : Mem w [] l w') (hw : ∀ e ∈ l, e.w = true) : Mem W0 mods (l ++ hp) w' := by
  have hge : ∀ e ∈ l, w.heap.size ≤ e.b := fun e he => by
    rcases hc.wr e he (hw e he) with h1 | h1
    · exact h1
    · cases h1
  have hold : ∀ x ∈ hp, w'.heap[x.b]? = some (denO x.o) := fun x hx => by
    rw [hc.frame x.b (h.lt hx) (by simp)]
    exact h.get x hx
  refine ⟨hc.os.trans h.os, hc.tape.trans h.tape, hc.output.trans h.output, Nat.le_trans h.size hc.size, ?_, ?_, ?_, ?_⟩
  · intro b hb hm
    rw [hc.frame b (Nat.lt_of_lt_of_le hb h.size) (by simp)]
    exact h.frame b hb hm
  · intro x hx
    rcases List.mem_append.1 hx with hx | hx
    · exact hc.get x hx
    · exact hold x hx
  · intro x hx hxw
    rcases List.mem_append.1 hx with hx | hx
    · exact Or.inl (Nat.le_trans h.size (hge x hx))
    · exact h.wr x hx hxw
  · rw [List.pairwise_append]
    refine ⟨hc.sep, h.sep, fun x hx y hy _ hh => ?_⟩
    have h1 := hge x hx
    have h2 := h.lt hy
    omega

/-! ### What a round, and a function that ranges over functions, ends with -/

theorem finR {E1 : Env} {F : Exit → St → Prop} {W0 : World} {mods : List Nat} {r : Option Nat} (h : E1 = ⟨W0, mods, r, F⟩) (e : Exit) (S : St) : E1.fin e S = F e S := by subst h; rfl
theorem finR_r {E1 : Env} {F : Exit → St → Prop} {W0 : World} {mods : List Nat} {r : Option Nat} (h : E1 = ⟨W0, mods, r, F⟩) : E1.r = r := by subst h; rfl

section
variable {tl tD l D : Nat} {Do : Bool} {L : LI} {own : List Ent} {γ δ : Type} {Jn : γ → List Ent} {Jx : δ → List Ent} {jump : δ → Code}
@[go_sem] theorem bodyFin_normal (S : St) : bodyFin tl tD l D Do L own Jn Jx jump .normal S = ∃ g', SubH (Jn g' ++ (⟨tl, l, true, L.o .busy none⟩ :: (bif Do then [⟨tD, D, true, .o (.deferred (some []))⟩] else []) ++ own)) S.hp := rfl
@[go_sem] theorem bodyFin_ret (S : St) : bodyFin tl tD l D Do L own Jn Jx jump .ret S = ∃ c, jump c = .ret ∧ SubH (Jx c ++ (⟨tl, l, true, L.o .busy none⟩ :: (bif Do then [⟨tD, D, true, .o (.deferred (some []))⟩] else []) ++ own)) S.hp := rfl
@[go_sem] theorem bodyFin_exit (id : Nat) (S : St) : bodyFin tl tD l D Do L own Jn Jx jump (.exit id) S = ∃ c, jump c = .exit id ∧ SubH (Jx c ++ (⟨tl, l, true, L.o .busy none⟩ :: (bif Do then [⟨tD, D, true, .o (.deferred (some []))⟩] else []) ++ own)) S.hp := rfl
end

theorem finM_ret {w : World} {mods : List Nat} {R : Ending → World → Prop} {rs : List ResultVar} (hE : E = ⟨w, mods, none, finM P w mods R rs⟩) (S : St) : E.fin .ret S = FinM P w mods R rs S := by subst hE; rfl
theorem finM_normal {w : World} {mods : List Nat} {R : Ending → World → Prop} {rs : List ResultVar} (hE : E = ⟨w, mods, none, finM P w mods R rs⟩) (S : St) : E.fin .normal S = FinM P w mods R rs S := by subst hE; rfl
@[go_sem] theorem shutM_nil (hp : List Ent) (K : List Ent → Prop) : shutM [] hp K = K hp := rfl

/-- **A range over a function within a round**, with a frame. -/
theorem CodeC.rngF {g : Operand} {ps : Array Tmp} {assign body : Code} {k : List Fr} {S : St} {l0 : Nat} (hr : E.r = some l0) (t0 : Nat) {b0 : Bool} {L0 : LI} {st0 : LoopState} {pe0 : Option Code} (hk0 : hk S.hp t0 = some ⟨t0, l0, b0, L0.o st0 pe0⟩) (tl nt N : Nat) {h : Nat} {caps : List SV} {ro : List Ent} {n : Nat} {x : Nat → List SV}
    (hev : ev S g = .f h caps) (hit : Iter P h caps ro n x) (he : ent P h = true) (hps : ∀ i, (x i).length = ps.size) (hpn : ∀ p ∈ ps.toList, p < S.n)
    {γ : Nat → Type} {δ : Type} (J : (i : Nat) → γ i → List Ent) (Jx : δ → List Ent) (jump : δ → Code) (F : List Ent) (g0 : γ 0) (h0 : ∀ w, Mem E.W0 E.mods S.hp w → Mem E.W0 E.mods (ro ++ (J 0 g0 ++ F)) w)
    (hround : ∀ (l : Nat) (L : LI) (own : List Ent) (i : Nat), i < n → ∀ gg, RoundC P E N tl 0 l 0 false L own assign body (J (i + 1)) Jx jump
      ⟨S.n, nt, psl ps.toList (x i) S.sl, J i gg ++ (⟨tl, l, true, L.o .ready none⟩ :: own), []⟩)
    (hdone : ∀ gg, ex P E N (.K .normal k { S with nt := nt, hp := J n gg ++ F }))
    (hstop : ∀ c, ex P E N (.C (jump c) k { S with nt := nt, hp := Jx c ++ F })) :
    CodeC P E (.rangeFunc g ps assign body) k S := by
  intro a w hok
  refine wpIn_rangeFunc ?_
  intro fn hfn
  have hro : (fen E.r).round = some l0 := by rw [hr]; rfl
  rw [hro]
  obtain ⟨L, hL⟩ : ∃ L : LI, L = ⟨fn, a.tmps, ps, assign, body, L0.D⟩ := ⟨_, rfl⟩
  have hg0 := hok.mem.at hk0
  have hm0 := h0 w hok.mem
  have hm1 := hm0.alloc tl (L.o .ready none)
  have hm2 : Mem E.W0 E.mods (ro ++ (⟨tl, w.heap.size, true, L.o .ready none⟩ :: (J 0 g0 ++ F))) _ :=
    hm1.perm (by
      have := List.perm_append_comm (l₁ := [(⟨tl, w.heap.size, true, L.o .ready none⟩ : Ent)]) (l₂ := ro)
      have := this.append_right (J 0 g0 ++ F)
      simpa using this)
  obtain ⟨W1, hW1⟩ : ∃ W1, w.alloc (.loop { state := .ready, pending := none, fn := fn, tmps := a.tmps, params := ps, assign := assign, body := body, defers := L0.D }) = W1 := ⟨_, rfl⟩
  have hm3 : Mem E.W0 E.mods (ro ++ (⟨tl, w.heap.size, true, L.o .ready none⟩ :: (J 0 g0 ++ F))) W1 := by
    rw [hL] at hm2 ⊢
    rw [← hW1]
    exact hm2
  clear hm2 hm1
  refine ⟨w.heap.size, [], W1, { target := .fn (.func h) (denL caps).toArray, args := #[.func (.yield w.heap.size) #[] #[]] }, W1, h, #[.func (.yield w.heap.size) #[] #[]] ++ (denL caps).toArray, W1,
    by rw [← hW1]; exact run_enterLoop_inner hg0 fn a.tmps ps assign body, ?_, fun f' _ => fen_fn _ f', ?_, fen_depth _ _, ?_⟩
  · show Sem.run P (Deferred.ofValue (a.eval g) _) W1 = _
    rw [eval_f hok hev]
    simp [Deferred.ofValue, Act.eval]
  · simp [invoke, callFunc_run he]
  · have hcall := hit w.heap.size E.W0 E.mods γ δ (fun i gg => ⟨tl, w.heap.size, true, L.o .ready none⟩ :: (J i gg ++ F))
      (fun c => ⟨tl, w.heap.size, true, L.o .done (some (jump c))⟩ :: (Jx c ++ F)) g0 W1 (fun i hi gg own wq hmq => ?_) hm3
    · subst hL
      have eargs : ∀ v : Value, (denL (.v v :: caps)).toArray = #[v] ++ (denL caps).toArray := fun v => by simp [denL, den]
      rw [eargs] at hcall
      refine CallsIn.mono (callsIn_fen (n := 0) hcall) ?_
      rintro e w' ⟨v, rfl, (⟨gg, hm⟩ | ⟨c, hm⟩)⟩
      · have hg := hm.get _ List.mem_cons_self
        refine ⟨_, _, run_endLoop hg (by simp), ?_⟩
        have hm3 := (hm.head (.o (.loop { state := .exhausted, pending := none, fn := fn, tmps := a.tmps, params := ps, assign := assign, body := body, defers := L0.D }))).sub (List.sublist_cons_self _ _)
        exact ex_sem N _ (hdone gg) { a with defers := [] ++ a.defers } _ ⟨by simp [hok.df], hok.n, hok.sl, hm3⟩
      · have hg := hm.get _ List.mem_cons_self
        refine ⟨_, _, run_endLoop hg (by simp), ?_⟩
        have hm3 := (hm.head (.o (.loop { state := .exhausted, pending := some (jump c), fn := fn, tmps := a.tmps, params := ps, assign := assign, body := body, defers := L0.D }))).sub (List.sublist_cons_self _ _)
        exact ex_sem N _ (hstop c) { a with defers := [] ++ a.defers } _ ⟨by simp [hok.df], hok.n, hok.sl, hm3⟩
    · have hg := hmq.get ⟨tl, w.heap.size, true, L.o .ready none⟩ (by simp)
      have hlen : (denL (x i)).toArray.size = ps.size := by simp [hps]
      have hps2 := psl_ok (W0 := E.W0) (mods := E.mods) (r := none) (fin := fun _ _ => True) S.n nt [] ps.toList (x i) S.sl a.tmps hpn hok.n hok.sl
      have hround' := hround w.heap.size L (F ++ own) i hi gg
      refine ⟨_, _, _, _, run_yield hg (by rw [hL]; exact hlen), ?_⟩
      have hz : (ps.zip (denL (x i)).toArray).foldl (fun t (p, v) => t.setIfInBounds p v) a.tmps = (ps.toList.zip (denL (x i))).foldl (fun t (p, v) => t.setIfInBounds p v) a.tmps := by
        rw [← Array.foldl_toList, Array.toList_zip]
      have hmr : Mem E.W0 E.mods (J i gg ++ (⟨tl, w.heap.size, true, L.o .ready none⟩ :: (F ++ own))) wq :=
        hmq.perm (by
          classical
          rw [List.perm_iff_count]
          intro a
          simp only [List.count_append, List.count_cons, List.nil_append, cond_false]
          omega)
      have := round_sem (Do := false) (tD := 0) (D := 0) (L := L) (own := F ++ own) (J0 := J i gg) (Jn := J (i + 1)) (Jx := Jx) (jump := jump) (R := fun e w' =>
        (∃ g', e = .returned (.bool true) ∧ Mem E.W0 E.mods (own ++ (⟨tl, w.heap.size, true, L.o .ready none⟩ :: (J (i + 1) g' ++ F))) w') ∨
        (∃ c, e = .returned (.bool false) ∧ Mem E.W0 E.mods (own ++ (⟨tl, w.heap.size, true, L.o .done (some (jump c))⟩ :: (Jx c ++ F))) w')) rfl rfl
        (by rw [show L.assign = assign by rw [hL], show L.body = body by rw [hL]]; exact hround') hps2.1 hps2.2 hmr
        (fun g' w' hm' => Or.inl ⟨g', rfl, hm'.perm (by
          classical
          rw [List.perm_iff_count]
          intro a
          simp only [List.count_append, List.count_cons, List.nil_append, cond_false]
          omega)⟩)
        (fun c w' hm' => Or.inr ⟨c, rfl, hm'.perm (by
          classical
          rw [List.perm_iff_count]
          intro a
          simp only [List.count_append, List.count_cons, List.nil_append, cond_false]
          omega)⟩)
      rw [← hz] at this
      rw [hL] at this ⊢
      exact this

end
end Go.Dx
