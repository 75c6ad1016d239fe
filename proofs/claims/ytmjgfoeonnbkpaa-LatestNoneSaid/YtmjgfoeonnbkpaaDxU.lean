/- Regions that draw their order: each order by itself. -/
import Derived.Test.YtmjgfoeonnbkpaaDxT
set_option linter.unusedSimpArgs false
set_option linter.unusedVariables false
namespace Go.Dx
open Go.RowKit

/-- The orders: 'e': nothing is left; 'z': no further choice; 'b i c s': operation i first and then c, or one of the choices s. -/
inductive OT where
  | e
  | z
  | b (i : Nat) (c s : OT)

section
variable {P : Program} {E : Env}

def exT (P : Program) (E : Env) (N : Nat) (k : List Fr) (all : List Oper) : OT → St → Prop
  | .e, S => ex P E N (.K .normal k S)
  | .z, _ => True
  | .b i c s, S => exDX P E all ((nthO all i).elim .q fun o => kdOf o.op) (exT P E N k all c) S (nthO all i) ∧ exT P E N k all s S

def chkT (ops : Array Oper) : OT → Nat → Array Bool → List Nat → Bool
  | .e, _, _, rs => rs.isEmpty
  | .z, _, _, rs => rs.isEmpty
  | .b _ _ _, 0, _, _ => false
  | .b i c s, f + 1, listed, rs =>
    match rs with
    | [] => false
    | r :: rs => r == i && (match c with | .z => false | c => chkT ops c f (listed.setIfInBounds i true) (Region.ready .any ops (listed.setIfInBounds i true))) && chkT ops s (f + 1) listed rs

theorem chkT_b (ops : Array Oper) (i : Nat) (c s : OT) (f : Nat) (listed : Array Bool) (r : Nat) (rs : List Nat) :
    chkT ops (.b i c s) (f + 1) listed (r :: rs) = (r == i && (match c with | .z => false | c => chkT ops c f (listed.setIfInBounds i true) (Region.ready .any ops (listed.setIfInBounds i true))) && chkT ops s (f + 1) listed rs) := by
  cases c <;> rfl

def chkO (l : List Oper) (t : OT) : Bool :=
  (match t with | .z => false | _ => true) && chkT l.toArray t l.length (Array.replicate l.length false) (Region.ready .any l.toArray (Array.replicate l.length false))

/-- One operation, from a state that is known. -/
theorem exDR_one {S : St} {kd : Kd} {o : Oper} {a : Act} {w : World} {rec : St → Prop} {Q : Exit → Act → World → Prop} (hok : Ok E S a w) (hdef : ∀ c, o.op ≠ .defer c) :
    ∀ res : Res, RSem S.hp w ((execOp a.eval o).run P w) res → exDR P E o kd rec S res → o.wpIn (fen E.r) 0 P a w (fun a' w' => ∃ S', Ok E S' a' w' ∧ rec S') Q := by
  intro res
  induction res with
  | val y =>
    rintro ⟨v, hv, hk⟩ ⟨hkn, hdst, hr⟩
    refine ⟨fun f _ => fen_fn _ f, ?_⟩
    have hx : y ≠ .xx := by intro e; subst e; cases hkn
    rw [semAt_fen _ _ hdef, hv, hk hx]
    exact ⟨_, hok.put1 o.dst hdst (v := den y) (y := y) (fun _ => rfl), hr⟩
  | obl q res ih => exact fun hv h => ih (hv h.1) h.2
  | new ob =>
    rintro hv ⟨hkd, hdst, hr⟩
    refine ⟨fun f _ => fen_fn _ f, ?_⟩
    rw [semAt_fen _ _ hdef, hv]
    have h1 : Ok E { S with nt := S.nt + 1, hp := ⟨S.nt, w.heap.size, true, ob⟩ :: S.hp } a { w with heap := w.heap.push (denO ob) } := ⟨hok.df, hok.n, hok.sl, hok.mem.alloc S.nt ob⟩
    exact ⟨_, h1.put1 o.dst hdst (v := .pointer (some ⟨w.heap.size, 0, none⟩)) (y := .p S.nt w.heap.size 0) (fun _ => rfl), hr w.heap.size⟩
  | news ob n c =>
    rintro hv ⟨hkd, hdst, hr⟩
    refine ⟨fun f _ => fen_fn _ f, ?_⟩
    rw [semAt_fen _ _ hdef, hv]
    have h1 : Ok E { S with nt := S.nt + 1, hp := ⟨S.nt, w.heap.size, true, ob⟩ :: S.hp } a { w with heap := w.heap.push (denO ob) } := ⟨hok.df, hok.n, hok.sl, hok.mem.alloc S.nt ob⟩
    exact ⟨_, h1.put1 o.dst hdst (v := .slice (some ⟨w.heap.size, 0, none⟩) n c) (y := .s S.nt w.heap.size 0 n c) (fun _ => rfl), hr w.heap.size⟩
  | sto t ob =>
    rintro ⟨e, w', he, hw, hv, ht⟩ ⟨hkd, hr⟩
    refine ⟨fun f _ => fen_fn _ f, ?_⟩
    rw [semAt_fen _ _ hdef, hv]
    have h1 : Ok E { S with hp := hset S.hp t ob } a w' := ⟨hok.df, hok.n, hok.sl, hok.mem.set he hw ob ht.os ht.tape ht.output ht.size ht.new ht.old⟩
    have h2 : Ok E (Go.Dx.put1 { S with hp := hset S.hp t ob } o.dst .xx) (a.put o.dst undef) w' := by
      have := h1.drop o.dst undef
      cases hd : o.dst with
      | none => rw [hd] at this; exact this
      | some d => rw [hd] at this; exact this
    exact ⟨_, h2, hr⟩
  | call h as =>
    intro hv hc
    refine ⟨fun f _ => fen_fn _ f, ?_⟩
    rw [semAt_fen _ _ hdef, hv]
    refine ⟨fen_depth _ _, ?_⟩
    have ab : ((dOf o.dst < S.n ∨ o.dst = none) ∧ ∀ w, Mem E.W0 E.mods S.hp w → Calls P h (denL as).toArray w fun e w' => ∃ y hp' nt', e = .returned (den y) ∧ Mem E.W0 E.mods hp' w' ∧
      (kd.eq .a = true → ∀ w, Mem E.W0 E.mods hp' w → Mem E.W0 E.mods S.hp w) ∧ rec (put1 { S with hp := hp', nt := nt' } o.dst y)) →
        CallsIn (fen E.r) (0 - 1) P h (denL as).toArray w fun | .returned v, w' => ∃ S', Ok E S' (a.put o.dst v) w' ∧ rec S' | .panicked chain, w' => Q (.panic chain) a w' | .outgrown, _ => LetsOut Q := by
      rintro ⟨hdst, hcall⟩
      refine CallsIn.mono (callsIn_fen (hcall w hok.mem)) ?_
      rintro e w' ⟨y, hp', nt', rfl, h1, _, h3⟩
      have h4 : Ok E { S with hp := hp', nt := nt' } a w' := ⟨hok.df, hok.n, hok.sl, h1⟩
      exact ⟨_, h4.put1 o.dst hdst (v := den y) (y := y) (fun _ => rfl), h3⟩
    cases kd with
    | q =>
      obtain ⟨y, hkn, hdst, hcall, hr⟩ := hc
      refine CallsIn.mono (callsIn_fen (hcall w hok.mem)) ?_
      rintro e w' ⟨rfl, hb⟩
      have h4 : Ok E S a w' := ⟨hok.df, hok.n, hok.sl, hok.mem.call hb⟩
      exact ⟨_, h4.put1 o.dst hdst (v := den y) (y := y) (fun _ => rfl), hr⟩
    | a => exact ab hc
    | b => exact ab hc
  | cse p x y ihx ihy =>
    intro hv h
    by_cases hp : p
    · exact ihx (hv.1 hp) (h.1 hp)
    · exact ihy (hv.2 hp) (h.2 hp)
  | gen φ n ob d =>
    rintro hv ⟨_, _, hdst, hr⟩
    refine ⟨fun f _ => fen_fn _ f, ?_⟩
    obtain ⟨b, c, j, w', hφ, hrun, hm⟩ := hv hok.mem.get
    rw [semAt_fen _ _ hdef, hrun]
    have h1 : Ok E { S with nt := S.nt + 1, hp := ⟨S.nt, b, true, ob c j⟩ :: hdr S.hp d } a w' := ⟨hok.df, hok.n, hok.sl, hm _ _ S.nt hok.mem⟩
    exact ⟨_, h1.put1 o.dst hdst (v := .slice (some ⟨b, 0, none⟩) n c) (y := .s S.nt b 0 n c) (fun _ => rfl), hr b c j hφ⟩
  | leaf =>
    intro _ hc
    have ab : (∀ a w, Ok E S a w → o.wpIn (fen E.r) 0 P a w (fun a' w' => ∃ S', Ok E S' a' w' ∧ (kd.eq .a = true → ∀ w, Mem E.W0 E.mods S'.hp w → Mem E.W0 E.mods S.hp w) ∧ rec S') (fun _ _ _ => False)) →
        o.wpIn (fen E.r) 0 P a w (fun a' w' => ∃ S', Ok E S' a' w' ∧ rec S') Q := fun hc =>
      wpIn_weak (Oper.wpIn_mono (fun a' w' ⟨S', h1, _, h3⟩ => ⟨S', h1, h3⟩) (hc a w hok))
    cases kd with
    | q =>
      obtain ⟨y, hkn, hdst, _, hrun, hr⟩ := hc
      refine ⟨fun f _ => fen_fn _ f, ?_⟩
      rw [semAt_fen _ _ hdef, hrun a w hok]
      exact ⟨_, hok.put1 o.dst hdst (v := den y) (y := y) (fun _ => rfl), hr⟩
    | a => exact ab hc
    | b => exact ab hc
  | no => exact fun _ h => h.elim

theorem exDR_one_opv {S : St} {kd : Kd} {o : Oper} {a : Act} {w : World} {rec : St → Prop} {Q : Exit → Act → World → Prop} (hok : Ok E S a w) (h : exDR P E o kd rec S (opv P S o.op)) :
    o.wpIn (fen E.r) 0 P a w (fun a' w' => ∃ S', Ok E S' a' w' ∧ rec S') Q := by
  by_cases hdef : ∃ c, o.op = .defer c
  · obtain ⟨c, hc⟩ := hdef
    rw [hc, opv_defer] at h
    have ab : (∀ a w, Ok E S a w → o.wpIn (fen E.r) 0 P a w (fun a' w' => ∃ S', Ok E S' a' w' ∧ (kd.eq .a = true → ∀ w, Mem E.W0 E.mods S'.hp w → Mem E.W0 E.mods S.hp w) ∧ rec S') (fun _ _ _ => False)) →
        o.wpIn (fen E.r) 0 P a w (fun a' w' => ∃ S', Ok E S' a' w' ∧ rec S') Q := fun hc =>
      wpIn_weak (Oper.wpIn_mono (fun a' w' ⟨S', h1, _, h3⟩ => ⟨S', h1, h3⟩) (hc a w hok))
    cases kd with
    | q => obtain ⟨_, _, _, h1, _⟩ := h; exact absurd hc (h1 c)
    | a => exact ab h
    | b => exact ab h
  · exact exDR_one hok (fun c hc => hdef ⟨c, hc⟩) _ (opv_sem hok o) h

theorem exDX_one {S : St} {kd : Kd} {all : List Oper} {i : Nat} {a : Act} {w : World} {rec : St → Prop} {Q : Exit → Act → World → Prop} (hok : Ok E S a w) (h : exDX P E all kd rec S (nthO all i)) :
    wpOpIn (fen E.r) 0 P all.toArray Q i (fun a' w' => ∃ S', Ok E S' a' w' ∧ rec S') a w := by
  cases ho : nthO all i with
  | none => rw [ho] at h; exact h.elim
  | some o =>
    rw [ho] at h
    have hi' : all.toArray[i]? = some o := by simpa [nthO_eq] using ho
    unfold wpOpIn
    simp only [hi']
    simp only [exDX] at h
    unfold exDO at h
    split at h
    · rename_i hg
      have hw : Region.wanted o (yielded all.toArray a.tmps) = true := by simp [Region.wanted, hg]
      rw [hw]
      simp only [if_true]
      exact exDR_one_opv hok h
    · rename_i j want hg
      split at h
      · rename_i dj hj
        obtain ⟨hdst, h⟩ := h
        have skip : ∀ S' : St, Ok E S' a w → S'.n = S.n → rec (put1 S' o.dst (.v undef)) → Region.wanted o (yielded all.toArray a.tmps) = false →
            (if Region.wanted o (yielded all.toArray a.tmps) = true then o.wpIn (fen E.r) 0 P a w (fun a' w' => ∃ S', Ok E S' a' w' ∧ rec S') Q else (∀ f, o.about P w a.eval = some f → (fen E.r).fn f) ∧ ∃ S', Ok E S' (a.put o.dst undef) w ∧ rec S') := fun S' h1 h2 h3 h4 => by
          rw [h4]
          simp only [Bool.false_eq_true, if_false]
          exact ⟨fun f _ => fen_fn _ f, _, h1.put1 o.dst (by rw [h2]; exact hdst) (v := undef) (y := .v undef) (fun _ => rfl), h3⟩
        have go : ∀ S' : St, Ok E S' a w → exDR P E o kd rec S' (opv P S' o.op) → Region.wanted o (yielded all.toArray a.tmps) = true →
            (if Region.wanted o (yielded all.toArray a.tmps) = true then o.wpIn (fen E.r) 0 P a w (fun a' w' => ∃ S', Ok E S' a' w' ∧ rec S') Q else (∀ f, o.about P w a.eval = some f → (fen E.r).fn f) ∧ ∃ S', Ok E S' (a.put o.dst undef) w ∧ rec S') := fun S' h1 h3 h4 => by
          rw [h4]
          simp only [if_true]
          exact exDR_one_opv h1 h3
        cases hy : lk S.sl dj with
        | v z =>
          have hx : lk S.sl dj ≠ .xx := by rw [hy]; simp
          have hyl := yielded_of hok hj hx
          rw [hy] at hyl h
          cases z with
          | bool c =>
            have hyl' : yielded all.toArray a.tmps j = some c := hyl
            have hw : Region.wanted o (yielded all.toArray a.tmps) = (some c == some want) := by simp [Region.wanted, hg, hyl']
            have hb : ∀ b, c = b → Ok E { S with sl := (dj, .v (.bool b)) :: S.sl } a w := fun b hb => by
              subst hb
              exact (hok.okA.bool hy).ok hok.mem
            cases c with
            | true =>
              have hb1 := h.1 rfl
              cases want with
              | true => exact go _ (hb _ rfl) hb1 (by rw [hw]; rfl)
              | false => exact skip _ (hb _ rfl) rfl hb1 (by rw [hw]; rfl)
            | false =>
              have hb1 := h.2 rfl
              cases want with
              | true => exact skip _ (hb _ rfl) rfl hb1 (by rw [hw]; rfl)
              | false => exact go _ (hb _ rfl) hb1 (by rw [hw]; rfl)
          | tuple vs =>
            have hyl' : yielded all.toArray a.tmps j = none := hyl
            exact skip S hok rfl h (by simp [Region.wanted, hg, hyl'])
          | _ => exact h.elim
        | _ => rw [hy] at h; exact h.elim
      · exact h.elim

theorem exT_sem {k : List Fr} {all : List Oper} (N : Nat) : ∀ (t : OT) (f : Nat) (listed : Array Bool) (rs : List Nat) (S : St) (a : Act) (w : World), exT P E N k all t S → Ok E S a w → chkT all.toArray t f listed rs = true →
    (t = .e → rs = [] ∧ semK P E k .normal a w) ∧
    ∀ f', f = f' + 1 → t ≠ .e → ∀ i ∈ rs, wpOpIn (fen E.r) 0 P all.toArray (QN fun a w => semK P E k .normal a w) i (wpAnyIn (fen E.r) 0 P .any all.toArray (QN fun a w => semK P E k .normal a w) f' (listed.setIfInBounds i true)) a w := by
  intro t
  induction t with
  | e =>
    intro f listed rs S a w h hok hc
    simp only [chkT, List.isEmpty_iff] at hc
    exact ⟨fun _ => ⟨hc, ex_sem N _ h a w hok⟩, fun _ _ hne => absurd rfl hne⟩
  | z =>
    intro f listed rs S a w h hok hc
    simp only [chkT, List.isEmpty_iff] at hc
    subst hc
    exact ⟨(fun h => nomatch h), fun _ _ _ i hi => by cases hi⟩
  | b i c s ihc ihs =>
    intro f listed rs S a w h hok hc
    refine ⟨(fun h => nomatch h), ?_⟩
    rintro f' rfl _ j hj
    obtain ⟨h1, h2⟩ := h
    cases rs with
    | nil => cases hj
    | cons r rs =>
      rw [chkT_b] at hc
      simp only [Bool.and_eq_true, beq_iff_eq] at hc
      obtain ⟨⟨rfl, hc1⟩, hc2⟩ := hc
      rcases List.mem_cons.1 hj with rfl | hj
      · refine wpOpIn_mono ?_ (exDX_one hok h1)
        rintro a' w' ⟨S', hok', hr⟩
        have hcc : c ≠ .z ∧ chkT all.toArray c f' (listed.setIfInBounds j true) (Region.ready .any all.toArray (listed.setIfInBounds j true)) = true := by
          cases c with
          | z => cases hc1
          | e => exact ⟨(fun h => nomatch h), hc1⟩
          | b _ _ _ => exact ⟨(fun h => nomatch h), hc1⟩
        have ih := ihc f' (listed.setIfInBounds j true) _ S' a' w' hr hok' hcc.2
        cases hce : c with
        | z => exact absurd hce hcc.1
        | e =>
          obtain ⟨g1, g2⟩ := ih.1 hce
          cases f' with
          | zero => exact ⟨g1, rfl, g2⟩
          | succ f' => exact ⟨fun _ => ⟨rfl, g2⟩, fun i hi => by rw [g1] at hi; cases hi⟩
        | b i2 c2 s2 =>
          cases f' with
          | zero => rw [hce] at hcc; simp [chkT] at hcc
          | succ f' =>
            refine ⟨fun hr0 => ?_, ih.2 f' rfl (by rw [hce]; simp)⟩
            rw [hr0, hce] at hcc
            simp [chkT] at hcc
      · cases hse : s with
        | e =>
          subst hse
          simp only [chkT, List.isEmpty_iff] at hc2
          subst hc2
          cases hj
        | z =>
          subst hse
          simp only [chkT, List.isEmpty_iff] at hc2
          subst hc2
          cases hj
        | b i2 c2 s2 => exact (ihs (f' + 1) listed rs S a w h2 hok hc2).2 f' rfl (by rw [hse]; simp) j hj

/-- **A region that draws its order**, each order walked. -/
theorem CodeC.orders {id : Nat} {l : List Oper} {k : List Fr} {S : St} (t : OT) (N : Nat) (hm : P.follows .mixedOrders = true) (hc : chkO l t = true) (h : exT P E N k l t S) :
    CodeC P E (.region id l.toArray true) k S := by
  intro a w hok
  simp only [chkO, Bool.and_eq_true] at hc
  obtain ⟨hz, hc⟩ := hc
  have hok' : Ok E S a { w with drawn := w.drawn + 1 } := ⟨hok.df, hok.n, hok.sl, hok.mem.drawn _ (Nat.le_succ _)⟩
  have hs := exT_sem N t l.length _ _ S a _ h hok' hc
  have hany : wpAnyIn (fen E.r) 0 P .any l.toArray (QN fun a w => semK P E k .normal a w) l.toArray.size (Array.replicate l.toArray.size false) a { w with drawn := w.drawn + 1 } := by
    simp only [List.size_toArray]
    cases ht : t with
    | z => rw [ht] at hz; cases hz
    | e =>
      obtain ⟨g1, g2⟩ := hs.1 ht
      generalize l.length = f at *
      cases f with
      | zero => exact ⟨g1, rfl, g2⟩
      | succ f' => exact ⟨fun _ => ⟨rfl, g2⟩, fun i hi => by rw [g1] at hi; cases hi⟩
    | b i c s =>
      generalize l.length = f at *
      cases f with
      | zero => rw [ht] at hc; simp [chkT] at hc
      | succ f' =>
        refine ⟨fun hr0 => ?_, hs.2 f' rfl (by rw [ht]; simp)⟩
        rw [hr0, ht] at hc
        simp [chkT] at hc
  have : (Code.region id l.toArray true).wpIn (fen E.r) 0 P (QN fun a w => semK P E k .normal a w) a w := wpIn_region_any hm hany
  refine wpIn_mono this ?_
  rintro e a' w' ⟨rfl, h⟩
  exact h

@[go_sem] theorem exT_e (N : Nat) (k : List Fr) (all : List Oper) (S : St) : exT P E N k all .e S = ex P E N (.K .normal k S) := rfl
@[go_sem] theorem exT_z (N : Nat) (k : List Fr) (all : List Oper) (S : St) : exT P E N k all .z S = True := rfl
@[go_sem] theorem exT_b (N : Nat) (k : List Fr) (all : List Oper) (i : Nat) (c s : OT) (S : St) : exT P E N k all (.b i c s) S = (exDX P E all ((nthO all i).elim .q fun o => kdOf o.op) (exT P E N k all c) S (nthO all i) ∧ exT P E N k all s S) := rfl
attribute [go_sem] Option.elim_some

end
/-! ### What is tracked -/

/-- A block that is only read is looked at as well. -/
theorem Mem.look {W0 : World} {mods : List Nat} {hp : List Ent} {w : World} (h : Mem W0 mods hp w) (t b : Nat) (o : HObj) (hg : w.heap[b]? = some (denO o)) (hs : ∀ e ∈ hp, e.w = true → e.b ≠ b) : Mem W0 mods (⟨t, b, false, o⟩ :: hp) w := by
  refine ⟨h.os, h.tape, h.output, h.size, h.frame, ?_, ?_, ?_⟩
  · intro e he
    rcases List.mem_cons.1 he with rfl | he
    · exact hg
    · exact h.get e he
  · intro e he hw
    rcases List.mem_cons.1 he with rfl | he
    · cases hw
    · exact h.wr e he hw
  · refine List.Pairwise.cons (fun y hy hh => ?_) h.sep
    rcases hh with hh | hh
    · cases hh
    · exact fun e => hs y hy hh e.symm

/-- What is tracked, in another order. -/
theorem Mem.perm {W0 : World} {mods : List Nat} {hp hp' : List Ent} {w : World} (h : Mem W0 mods hp w) (hq : hp.Perm hp') : Mem W0 mods hp' w :=
  ⟨h.os, h.tape, h.output, h.size, h.frame, fun e he => h.get e (hq.mem_iff.2 he), fun e he => h.wr e (hq.mem_iff.2 he), hq.pairwise h.sep (fun {x y} hxy hw => fun e => hxy hw.symm e.symm)⟩

end Go.Dx
