/- Operations that have no rule in the walk: equality of structs, a slice with three bounds, a slice as an array, clear. -/
import Derived.Test.YtmjgfoeonnbkpaaDxV
set_option linter.unusedSimpArgs false
set_option linter.unusedVariables false
namespace Go.Dx
open Go.RowKit

section
variable {P : Program} {E : Env}

/-! ### Leaves -/

theorem LeafC.val {all r : List Oper} {o : Oper} {k : List Fr} {S : St} (y : SV) (N : Nat) (hdef : ∀ c, o.op ≠ .defer c) (hrun : ∀ a w, Ok E S a w → (execOp a.eval o).run P w = .ok (.value (den y)) w)
    (hn : (dOf o.dst < S.n ∨ o.dst = none) ∧ ex P E N (.L all r k (put1 S o.dst y))) : LeafC P E all o r k S := by
  intro a w hok
  refine ⟨fun f _ => fen_fn _ f, ?_⟩
  rw [semAt_fen _ _ hdef, hrun a w hok]
  exact ex_sem N _ hn.2 _ _ (hok.put1 o.dst hn.1 (v := den y) (y := y) (fun _ => rfl))

theorem LeafD.val {o : Oper} {rec : St → Prop} {S : St} (y : SV) (hk : kn y = true) (hdef : ∀ c, o.op ≠ .defer c) (hrun : ∀ a w, Ok E S a w → (execOp a.eval o).run P w = .ok (.value (den y)) w)
    (hn : (dOf o.dst < S.n ∨ o.dst = none) ∧ rec (put1 S o.dst y)) : LeafD P E o .q rec S := ⟨y, hk, hn.1, hdef, hrun, hn.2⟩

/-! ### Equality of structs -/

inductive CK where
  | i (k : IntKind)
  | b

def flatF (f : TypeId → Option (List CK)) : List Field → Nat → Option (List CK)
  | [], _ => some []
  | fd :: fs, off =>
    if fd.name ≠ "_" ∧ fd.offset = off then
      match f fd.type with
      | none => none
      | some ks => match flatF f fs (off + ks.length) with
        | none => none
        | some r => some (ks ++ r)
    else none

def rptK (n : Nat) (ks : List CK) : List CK := match n with | 0 => [] | n + 1 => ks ++ rptK n ks

/-- The cells of a type that is made of whole numbers and bools alone. -/
def flat (P : Program) : Nat → TypeId → Option (List CK)
  | 0, _ => none
  | d + 1, t =>
    match szOf P t, P.underlying t with
    | some (1, _, false), some (.int k) => some [.i k]
    | some (1, _, false), some .bool => some [.b]
    | some (sz, _, true), some (.struct fs) => if P.stoodInHeld t = false then (match flatF (flat P d) fs.toList 0 with | none => none | some ks => if ks.length = sz then some ks else none) else none
    | some (sz, _, true), some (.array n e) => match flat P d e with | none => none | some ks => if n * ks.length = sz then some (rptK n ks) else none
    | _, _ => none

def fitC : List CK → List SV → Bool
  | [], [] => true
  | .i k :: ks, .v (.int k' _) :: l => decide (k' = k) && fitC ks l
  | .b :: ks, .v (.bool _) :: l => fitC ks l
  | _, _ => false

def eqC : List SV → List SV → Bool
  | [], [] => true
  | .v (.int _ x) :: l, .v (.int _ y) :: r => decide (x = y) && eqC l r
  | .v (.bool x) :: l, .v (.bool y) :: r => (x == y) && eqC l r
  | _, _ => false

theorem fitC_length : ∀ {ks : List CK} {l : List SV}, fitC ks l = true → l.length = ks.length
  | [], [], _ => rfl
  | [], _ :: _, h => by simp [fitC] at h
  | .i k :: ks, [], h => by simp [fitC] at h
  | .b :: ks, [], h => by simp [fitC] at h
  | .i k :: ks, y :: l, h => by
    cases y with
    | v z =>
      cases z with
      | int k' x =>
        simp only [fitC, Bool.and_eq_true] at h
        simp [fitC_length h.2]
      | _ => simp [fitC] at h
    | _ => simp [fitC] at h
  | .b :: ks, y :: l, h => by
    cases y with
    | v z =>
      cases z with
      | bool x =>
        simp only [fitC] at h
        simp [fitC_length h]
      | _ => simp [fitC] at h
    | _ => simp [fitC] at h

theorem fitC_int1 {k : IntKind} {l : List SV} (h : fitC [.i k] l = true) : ∃ x, l = [.v (.int k x)] := by
  have hl := fitC_length h
  match l, hl with
  | [y], _ =>
    cases y with
    | v z =>
      cases z with
      | int k' x =>
        simp only [fitC, Bool.and_eq_true, decide_eq_true_eq] at h
        obtain ⟨rfl, _⟩ := h
        exact ⟨x, rfl⟩
      | _ => simp [fitC] at h
    | _ => simp [fitC] at h

theorem fitC_bool1 {l : List SV} (h : fitC [.b] l = true) : ∃ x, l = [.v (.bool x)] := by
  have hl := fitC_length h
  match l, hl with
  | [y], _ =>
    cases y with
    | v z =>
      cases z with
      | bool x => exact ⟨x, rfl⟩
      | _ => simp [fitC] at h
    | _ => simp [fitC] at h

theorem fitC_split : ∀ (ks js : List CK) {l : List SV}, fitC (ks ++ js) l = true → fitC ks (l.take ks.length) = true ∧ fitC js (l.drop ks.length) = true
  | [], js, l, h => by simpa [fitC] using h
  | .i k :: ks, js, [], h => by simp [fitC] at h
  | .b :: ks, js, [], h => by simp [fitC] at h
  | .i k :: ks, js, y :: l, h => by
    cases y with
    | v z =>
      cases z with
      | int k' x =>
        simp only [List.cons_append, fitC, Bool.and_eq_true] at h
        have := fitC_split ks js h.2
        simp [fitC, h.1, this.1, this.2]
      | _ => simp [fitC] at h
    | _ => simp [fitC] at h
  | .b :: ks, js, y :: l, h => by
    cases y with
    | v z =>
      cases z with
      | bool x =>
        simp only [List.cons_append, fitC] at h
        have := fitC_split ks js h
        simp [fitC, this.1, this.2]
      | _ => simp [fitC] at h
    | _ => simp [fitC] at h

theorem eqC_split : ∀ (ks js : List CK) {l r : List SV}, fitC (ks ++ js) l = true → fitC (ks ++ js) r = true → eqC l r = (eqC (l.take ks.length) (r.take ks.length) && eqC (l.drop ks.length) (r.drop ks.length))
  | [], js, l, r, _, _ => by simp [eqC]
  | .i k :: ks, js, [], _, h, _ => by simp [fitC] at h
  | .b :: ks, js, [], _, h, _ => by simp [fitC] at h
  | .i k :: ks, js, _ :: _, [], _, h => by simp [fitC] at h
  | .b :: ks, js, _ :: _, [], _, h => by simp [fitC] at h
  | .i k :: ks, js, y :: l, y' :: r, h, h' => by
    cases y with
    | v z =>
      cases z with
      | int k1 x =>
        cases y' with
        | v z' =>
          cases z' with
          | int k2 x' =>
            simp only [List.cons_append, fitC, Bool.and_eq_true] at h h'
            have := eqC_split ks js h.2 h'.2
            simp [eqC, this, Bool.and_assoc]
          | _ => simp [fitC] at h'
        | _ => simp [fitC] at h'
      | _ => simp [fitC] at h
    | _ => simp [fitC] at h
  | .b :: ks, js, y :: l, y' :: r, h, h' => by
    cases y with
    | v z =>
      cases z with
      | bool x =>
        cases y' with
        | v z' =>
          cases z' with
          | bool x' =>
            simp only [List.cons_append, fitC] at h h'
            have := eqC_split ks js h h'
            simp [eqC, this, Bool.and_assoc]
          | _ => simp [fitC] at h'
        | _ => simp [fitC] at h'
      | _ => simp [fitC] at h
    | _ => simp [fitC] at h

/-- A value of a type that is made of such cells. -/
def val (ag : Bool) (l : List SV) : Value := if ag then den (.g l) else den (ld1 l 0)

def EqOk (P : Program) (d : Nat) (t : TypeId) (ks : List CK) : Prop :=
  ∃ sz by_ ag, szOf P t = some (sz, by_, ag) ∧ ks.length = sz ∧ ∀ w l r, fitC ks l = true → fitC ks r = true → ∀ d', d ≤ d' → (Op.equalIn d' t (val ag l) (val ag r)).run P w = .ok (eqC l r) w

theorem part_val {t : TypeId} {sz by_ : Nat} {ag : Bool} (hs : szOf P t = some (sz, by_, ag)) (h1 : ag = false → sz = 1) (l : List SV) (o : Nat) (ho : o + sz ≤ l.length) (w : World) : (part t (denL l).toArray o).run P w = .ok (val ag ((l.drop o).take sz)) w := by
  obtain ⟨a1, a2, _⟩ := szOf_spec hs
  have := prt_sem (P := P) (w := w) (e := t) (sz := sz) (ag := ag) a1 a2 l o
  cases ag with
  | true =>
    obtain ⟨v, hv, hd⟩ := this ho
    rw [hv, hd (by simp), val, ldN_eq]
    rfl
  | false =>
    have hsz := h1 rfl
    subst hsz
    obtain ⟨v, hv, hd⟩ := this (by omega)
    have e : ld1 ((l.drop o).take 1) 0 = ld1 l o := by simp [ld1_eq]
    have hx : ld1 l o ≠ .xx → v = den (ld1 l o) := hd
    rw [hv]
    simp only [val, Bool.false_eq_true, if_false, e]
    by_cases hxx : ld1 l o = .xx
    · have e2 : (denL l)[o]? = some (den l[o]) := by rw [denL_get]; simp [show o < l.length by omega]
      have e1 : ld1 l o = l[o] := by rw [ld1_eq]; simp [show o < l.length by omega]
      have : (part t (denL l).toArray o).run P w = .ok (den (ld1 l o)) w := by
        simp only [part, Sem.run_bind, a2, Result.andThen_ok, Bool.false_eq_true, if_false, List.getElem?_toArray, e2, e1, Sem.run_pure]
      rw [hv] at this
      exact this
    · rw [hx hxx]

theorem eqFields_ok {d : Nat} (hok : ∀ t ks, flat P d t = some ks → EqOk P d t ks) (hag : ∀ t sz by_, szOf P t = some (sz, by_, false) → ∀ ks, flat P d t = some ks → sz = 1) (l r : List SV) (d' : Nat) (hd : d ≤ d') :
    ∀ (fs : List Field) (off : Nat) (ks : List CK), flatF (flat P d) fs off = some ks → off ≤ l.length → off ≤ r.length → fitC ks (l.drop off) = true → fitC ks (r.drop off) = true → ∀ w, (Op.eqFields d' (denL l).toArray (denL r).toArray fs).run P w = .ok (eqC (l.drop off) (r.drop off)) w := by
  intro fs
  induction fs with
  | nil =>
    intro off ks h hl hr h1 h2 w
    simp only [flatF, Option.some.injEq] at h
    subst h
    have e1 := fitC_length h1
    have e2 := fitC_length h2
    rw [List.length_eq_zero_iff.1 e1, List.length_eq_zero_iff.1 e2]
    simp [Op.eqFields, eqC]
  | cons f fs ih =>
    intro off ks h hl hr h1 h2 w
    simp only [flatF] at h
    split at h
    · rename_i hf
      obtain ⟨hname, hoff⟩ := hf
      split at h
      · cases h
      · rename_i k1 hk1
        split at h
        · cases h
        · rename_i k2 hk2
          simp only [Option.some.injEq] at h
          subst h
          obtain ⟨sz, by_, ag, hs, hlen, heq⟩ := hok _ _ hk1
          have l1 := fitC_length h1
          have l2 := fitC_length h2
          simp only [List.length_drop, List.length_append] at l1 l2
          have hag1 : ag = false → sz = 1 := fun e => by subst e; exact hag _ _ _ hs _ hk1
          have p1 := part_val hs hag1 l off (by omega) w
          have p2 := part_val hs hag1 r off (by omega) w
          obtain ⟨g1, g2⟩ := fitC_split _ _ h1
          obtain ⟨g3, g4⟩ := fitC_split _ _ h2
          rw [hlen] at g1 g2 g3 g4
          have hq := heq w _ _ g1 g3 d' hd
          have hsplit := eqC_split _ _ h1 h2
          rw [hlen] at hsplit
          simp only [Op.eqFields, hname, ne_eq, not_false_eq_true, if_true, Sem.run_bind, hoff, p1, p2, hq, Result.andThen_ok]
          rw [hlen] at hk2
          have hih := ih (off + sz) k2 hk2 (by omega) (by omega) (by rw [← List.drop_drop]; exact g2) (by rw [← List.drop_drop]; exact g4) w
          rw [← List.drop_drop, ← List.drop_drop] at hih
          rw [hsplit]
          cases hb : eqC (List.take sz (List.drop off l)) (List.take sz (List.drop off r))
          · simp
          · simp [hih]
    · cases h

theorem eqItems_ok {d : Nat} {e : TypeId} {ks : List CK} (hok : EqOk P d e ks) (h1 : ∀ sz by_, szOf P e = some (sz, by_, false) → sz = 1) (l r : List SV) (d' : Nat) (hd : d ≤ d') :
    ∀ (m s : Nat), s * ks.length ≤ l.length → s * ks.length ≤ r.length → fitC (rptK m ks) (l.drop (s * ks.length)) = true → fitC (rptK m ks) (r.drop (s * ks.length)) = true → ∀ w,
      (Op.eqItems d' e ks.length (denL l).toArray (denL r).toArray (List.range' s m)).run P w = .ok (eqC (l.drop (s * ks.length)) (r.drop (s * ks.length))) w := by
  intro m
  induction m with
  | zero =>
    intro s hl hr g1 g2 w
    have e1 := fitC_length g1
    have e2 := fitC_length g2
    rw [List.length_eq_zero_iff.1 e1, List.length_eq_zero_iff.1 e2]
    simp [Op.eqItems, eqC]
  | succ m ih =>
    intro s hl hr g1 g2 w
    obtain ⟨sz, by_, ag, hs, hlen, heq⟩ := hok
    have l1 := fitC_length g1
    have l2 := fitC_length g2
    simp only [rptK, List.length_drop, List.length_append] at l1 l2
    have hag1 : ag = false → sz = 1 := fun e' => by subst e'; exact h1 _ _ hs
    have p1 := part_val hs hag1 l (s * ks.length) (by omega) w
    have p2 := part_val hs hag1 r (s * ks.length) (by omega) w
    obtain ⟨f1, f2⟩ := fitC_split ks (rptK m ks) g1
    obtain ⟨f3, f4⟩ := fitC_split ks (rptK m ks) g2
    rw [← hlen] at p1 p2
    have hq := heq w _ _ f1 f3 d' hd
    have hsplit := eqC_split ks (rptK m ks) g1 g2
    rw [List.range'_succ]
    simp only [Op.eqItems, Sem.run_bind, p1, p2, hq, Result.andThen_ok]
    have e3 : (s + 1) * ks.length = s * ks.length + ks.length := by rw [Nat.add_mul]; omega
    have hih := ih (s + 1) (by omega) (by omega) (by rw [e3, ← List.drop_drop]; exact f2) (by rw [e3, ← List.drop_drop]; exact f4) w
    rw [e3, ← List.drop_drop, ← List.drop_drop] at hih
    rw [hsplit]
    cases hb : eqC (List.take ks.length (List.drop (s * ks.length) l)) (List.take ks.length (List.drop (s * ks.length) r))
    · simp
    · simp [hih]

theorem flat_one {d : Nat} {t : TypeId} {sz by_ : Nat} (hs : szOf P t = some (sz, by_, false)) {ks : List CK} (h : flat P d t = some ks) : sz = 1 := by
  cases d with
  | zero => cases h
  | succ d =>
    simp only [flat, hs] at h
    split at h
    · rename_i e1 _; simp at e1; exact e1.1
    · rename_i e1 _; simp at e1; exact e1.1
    · rename_i e1 _; simp at e1
    · rename_i e1 _; simp at e1
    · cases h

theorem flat_ok : ∀ (d : Nat) (t : TypeId) (ks : List CK), flat P d t = some ks → EqOk P d t ks := by
  intro d
  induction d with
  | zero => intro t ks h; cases h
  | succ d ih =>
    intro t ks h
    simp only [flat] at h
    split at h
    · rename_i by_ k hs hu
      simp only [Option.some.injEq] at h
      subst h
      refine ⟨1, by_, false, hs, rfl, ?_⟩
      intro w l r h1 h2 d' hd
      obtain ⟨d'', rfl⟩ : ∃ d'', d' = d'' + 1 := ⟨d' - 1, by omega⟩
      obtain ⟨x, rfl⟩ := fitC_int1 h1
      obtain ⟨y, rfl⟩ := fitC_int1 h2
      simp [val, ld1, den, Op.equalIn, run_underlying hu, eqC]
      exact Bool.eq_iff_iff.2 (by simp)
    · rename_i by_ hs hu
      simp only [Option.some.injEq] at h
      subst h
      refine ⟨1, by_, false, hs, rfl, ?_⟩
      intro w l r h1 h2 d' hd
      obtain ⟨d'', rfl⟩ : ∃ d'', d' = d'' + 1 := ⟨d' - 1, by omega⟩
      obtain ⟨x, rfl⟩ := fitC_bool1 h1
      obtain ⟨y, rfl⟩ := fitC_bool1 h2
      simp [val, ld1, den, Op.equalIn, run_underlying hu, eqC]
    · rename_i sz by_ fs hs hu
      split at h
      · rename_i hst
        split at h
        · cases h
        · rename_i k1 hk1
          split at h
          · rename_i hlen
            simp only [Option.some.injEq] at h
            subst h
            refine ⟨sz, by_, true, hs, hlen, ?_⟩
            intro w l r h1 h2 d' hd
            obtain ⟨d'', rfl⟩ : ∃ d'', d' = d'' + 1 := ⟨d' - 1, by omega⟩
            have hfs : P.fieldsOf t = fs := by simp [Program.fieldsOf, hu]
            have := run_equalIn_struct (P := P) w d'' t (denL l).toArray (denL r).toArray (by rw [hfs]; exact hu) hst
            rw [hfs] at this
            show (Op.equalIn (d'' + 1) t (.agg (denL l).toArray) (.agg (denL r).toArray)).run P w = _
            rw [this]
            have := eqFields_ok (P := P) (d := d) ih (fun t sz by_ hs ks hk => flat_one hs hk) l r d'' (by omega) fs.toList 0 k1 hk1 (by omega) (by omega) (by simpa using h1) (by simpa using h2) w
            simpa using this
          · cases h
      · cases h
    · rename_i sz by_ n e hs hu
      split at h
      · cases h
      · rename_i k1 hk1
        split at h
        · rename_i hlen
          simp only [Option.some.injEq] at h
          subst h
          obtain ⟨sz1, by1, ag1, hs1, hlen1, heq1⟩ := ih _ _ hk1
          have rl : ∀ m, (rptK m k1).length = m * k1.length := fun m => by
            induction m with
            | zero => simp [rptK]
            | succ m ihm => simp [rptK, ihm, Nat.add_mul]; omega
          refine ⟨sz, by_, true, hs, by rw [rl]; exact hlen, ?_⟩
          intro w l r h1 h2 d' hd
          obtain ⟨d'', rfl⟩ : ∃ d'', d' = d'' + 1 := ⟨d' - 1, by omega⟩
          obtain ⟨_, _, i, hi, hi1, _⟩ := szOf_spec hs1
          have hc : P.cellsOf e = k1.length := by
            have a1 := run_sizeOf (P := P) w hi
            have a2 := run_sizeOf' (w := w) hi
            rw [a1] at a2
            simp only [Result.ok.injEq, and_true] at a2
            rw [a2, hi1, hlen1]
          have := run_equalIn_array (P := P) w d'' (denL l).toArray (denL r).toArray hu hi
          show (Op.equalIn (d'' + 1) t (.agg (denL l).toArray) (.agg (denL r).toArray)).run P w = _
          rw [this, hc, List.range_eq_range']
          have := eqItems_ok (P := P) (d := d) (ih _ _ hk1) (fun sz by_ hs => flat_one hs hk1) l r d'' (by omega) n 0 (by omega) (by omega) (by simpa using h1) (by simpa using h2) w
          simpa using this
        · cases h
    · cases h

/-- '==' and '!=' on values of such a type. -/
theorem run_eqS {T : TypeId} {ks : List CK} (hf : flat P 20 T = some ks) {sz by_ : Nat} (hs : szOf P T = some (sz, by_, true)) (hg : P.eqGuardType P.depth T = false) {l r : List SV} (hl : fitC ks l = true) (hr : fitC ks r = true) (neg : Bool) (ox oy : Operand) (w : World) :
    ((do eqGuard (if neg then .neq else .eql) T ox oy (den (.g l)) (den (.g r)); binOp (if neg then .neq else .eql) T (den (.g l)) (den (.g r))) : Sem Value).run P w = .ok (.bool (bif neg then !eqC l r else eqC l r)) w := by
  obtain ⟨sz', by', ag, hs', _, heq⟩ := flat_ok (P := P) _ _ _ hf
  rw [hs] at hs'
  simp only [Option.some.injEq, Prod.mk.injEq] at hs'
  obtain ⟨rfl, rfl, rfl⟩ := hs'
  have hq := heq w l r hl hr 10000 (by omega)
  have hq' : (Op.equalIn 10000 T (.agg (denL l).toArray) (.agg (denL r).toArray)).run P w = .ok (eqC l r) w := hq
  have hgd : ∀ op, (eqGuard op T ox oy (den (.g l)) (den (.g r))).run P w = .ok () w := fun op => run_eqGuard_agg w op T ox oy _ _ hg
  cases neg
  · simp only [Sem.run_bind, hgd, Result.andThen_ok]
    show (binOp .eql T (.agg (denL l).toArray) (.agg (denL r).toArray)).run P w = _
    rw [run_eql_struct, hq']
    rfl
  · simp only [Sem.run_bind, hgd, Result.andThen_ok]
    show (binOp .neq T (.agg (denL l).toArray) (.agg (denL r).toArray)).run P w = _
    rw [run_neq_struct, hq']
    rfl

@[go_sem] theorem eqA_st (g : Bool) (T s : Nat) (ag : Bool) (fs : List (Nat × Nat × Bool)) (l r : List SV) : eqA P g T (some ⟨s, ag, .st fs⟩) l r = .leaf := rfl

theorem exec_eqS {S : St} {a : Act} {w : World} (hok : Ok E S a w) {T u : TypeId} {ks : List CK} (hf : flat P 20 T = some ks) {sz by_ : Nat} (hs : szOf P T = some (sz, by_, true)) (hg : P.eqGuardType P.depth T = false) {x y : Operand} {l r : List SV} (hx : ev S x = .g l) (hy : ev S y = .g r)
    (hl : fitC ks l = true) (hr : fitC ks r = true) (neg : Bool) (d : Option Nat) (t : TypeId) (pos : String) (af : Array Edge) (g : Option (Nat × Bool)) :
    (execOp a.eval ⟨d, .binOp (if neg then .neq else .eql) T x y u, t, pos, af, g⟩).run P w = .ok (.value (den (.v (.bool (bif neg then !eqC l r else eqC l r))))) w := by
  have e1 : a.eval x = den (.g l) := by rw [hok.eval (x := x) (by rw [hx]; simp), hx]
  have e2 : a.eval y = den (.g r) := by rw [hok.eval (x := y) (by rw [hy]; simp), hy]
  have := run_eqS (P := P) hf hs hg hl hr neg x y w
  have key : ∀ b : BinOp, (do eqGuard b T x y (den (.g l)) (den (.g r)); binOp b T (den (.g l)) (den (.g r)) : Sem Value).run P w = .ok (.bool (bif neg then !eqC l r else eqC l r)) w →
      (execOp a.eval ⟨d, .binOp b T x y u, t, pos, af, g⟩).run P w = .ok (.value (den (.v (.bool (bif neg then !eqC l r else eqC l r))))) w := fun b hb => by
    simp only [execOp, e1, e2]
    simp only [Sem.run_bind] at hb ⊢
    rw [hb]
    rfl
  exact key _ this

theorem LeafC.eqS {all r' : List Oper} {k : List Fr} {S : St} {T u : TypeId} {ks : List CK} (neg : Bool) (N : Nat) (hf : flat P 20 T = some ks) {sz by_ : Nat} (hs : szOf P T = some (sz, by_, true)) (hg : P.eqGuardType P.depth T = false) {x y : Operand} {l r : List SV} (hx : ev S x = .g l) (hy : ev S y = .g r)
    (hl : fitC ks l = true) (hr : fitC ks r = true) {d : Option Nat} {t : TypeId} {pos : String} {af : Array Edge} {g : Option (Nat × Bool)}
    (hn : (dOf d < S.n ∨ d = none) ∧ ex P E N (.L all r' k (put1 S d (.v (.bool (bif neg then !eqC l r else eqC l r)))))) : LeafC P E all ⟨d, .binOp (if neg then .neq else .eql) T x y u, t, pos, af, g⟩ r' k S :=
  LeafC.val _ N (by cases neg <;> simp) (fun a w hok => exec_eqS hok hf hs hg hx hy hl hr neg d t pos af g) hn

theorem LeafD.eqS {rec : St → Prop} {S : St} {T u : TypeId} {ks : List CK} (neg : Bool) (hf : flat P 20 T = some ks) {sz by_ : Nat} (hs : szOf P T = some (sz, by_, true)) (hg : P.eqGuardType P.depth T = false) {x y : Operand} {l r : List SV} (hx : ev S x = .g l) (hy : ev S y = .g r)
    (hl : fitC ks l = true) (hr : fitC ks r = true) {d : Option Nat} {t : TypeId} {pos : String} {af : Array Edge} {g : Option (Nat × Bool)}
    (hn : (dOf d < S.n ∨ d = none) ∧ rec (put1 S d (.v (.bool (bif neg then !eqC l r else eqC l r))))) : LeafD P E ⟨d, .binOp (if neg then .neq else .eql) T x y u, t, pos, af, g⟩ .q rec S :=
  LeafD.val _ rfl (by cases neg <;> simp) (fun a w hok => exec_eqS hok hf hs hg hx hy hl hr neg d t pos af g) hn

/-! ### A slice as an array -/

theorem exec_s2a {S : St} {a : Act} {w : World} (hok : Ok E S a w) {T e : TypeId} {n : Nat} (hu : P.underlying T = some (.array n e)) {x : Operand} {t b o m c : Nat} (hx : ev S x = .s t b o m c) (hm : n ≤ m) (d : Option Nat) (ty : TypeId) (pos : String) (af : Array Edge) (g : Option (Nat × Bool)) :
    (execOp a.eval ⟨d, .sliceToArrayPointer T x, ty, pos, af, g⟩).run P w = .ok (.value (den (.p t b o))) w := by
  have e1 : a.eval x = den (.s t b o m c) := by rw [hok.eval (x := x) (by rw [hx]; simp), hx]
  simp [execOp, e1, den, Instr.arrayAt, run_underlying hu, Nat.not_lt.2 hm]

/-! ### A slice with three bounds -/

theorem exec_slice3 {S : St} {a : Act} {w : World} (hok : Ok E S a w) {T e sz by_ nn : Nat} {ag : Bool} (ht : ty P T = some ⟨nn, ag, .slice e sz by_⟩) {x xl xh xm : Operand} {t b o n c : Nat} {l h m : Int} (hx : ev S x = .s t b o n c) (hl : ev S xl = .v (.int .i64 l)) (hh : ev S xh = .v (.int .i64 h)) (hm : ev S xm = .v (.int .i64 m))
    (h1 : 0 ≤ l ∧ l ≤ h ∧ h ≤ m ∧ m ≤ (c : Int)) (d : Option Nat) (ty_ : TypeId) (pos : String) (af : Array Edge) (g : Option (Nat × Bool)) :
    (execOp a.eval ⟨d, .slice T x (some xl) (some xh) (some xm), ty_, pos, af, g⟩).run P w = .ok (.value (den (.s t b (if m.toNat = l.toNat then o else o + l.toNat * sz) (h.toNat - l.toNat) (m.toNat - l.toNat)))) w := by
  have e1 : a.eval x = .slice (some ⟨b, o, none⟩) n c := by rw [hok.eval (x := x) (by rw [hx]; simp), hx]; rfl
  have e2 : a.eval xl = .int .i64 l := by rw [hok.eval (x := xl) (by rw [hl]; simp), hl]; rfl
  have e3 : a.eval xh = .int .i64 h := by rw [hok.eval (x := xh) (by rw [hh]; simp), hh]; rfl
  have e4 : a.eval xm = .int .i64 m := by rw [hok.eval (x := xm) (by rw [hm]; simp), hm]; rfl
  obtain ⟨hu, ag', hs⟩ := ty_slice ht
  have hsz := (szOf_spec hs).1
  obtain ⟨g0, g1, g2, g3⟩ := h1
  have b1 : ∀ k, (Instr.sliceBound (.int .i64 m) c k).run P w = .ok m.toNat w := fun k => sliceBound_run ⟨by omega, by omega⟩
  have b2 : ∀ k, (Instr.sliceBound (.int .i64 h) m.toNat k).run P w = .ok h.toNat w := fun k => sliceBound_run ⟨by omega, by omega⟩
  have b3 : ∀ k, (Instr.sliceBound (.int .i64 l) h.toNat k).run P w = .ok l.toNat w := fun k => sliceBound_run ⟨by omega, by omega⟩
  have had : ∀ k : Nat, (⟨b, o, none⟩ : Addr).add k = ⟨b, o + k, none⟩ := fun k => add_none b o k
  simp only [execOp, Option.map_some, e1, e2, e3, e4, Instr.sliceAt, Instr.slice, Instr.sliceBounds, Sem.run_bind, run_underlying hu, Result.andThen_ok, b1, b2, b3, Sem.run_pure, hsz, den]
  split
  · rename_i hml
    simp [hml]
  · rename_i hml
    simp [hml, had]

/-! ### clear -/

theorem allOne_rpt {z : List SV} (h : allOne z = true) : ∀ n, allOne (rpt n z) = true
  | 0 => rfl
  | n + 1 => by rw [rpt_succ, allOne_append, h, allOne_rpt h n]; rfl

theorem LeafC.clear {all r : List Oper} {k : List Fr} {S : St} {T e sz by_ nn : Nat} {ag : Bool} (ht : ty P T = some ⟨nn, ag, .slice e sz by_⟩) {z : List SV} (hz : zv P e = some z) (hzl : z.length = sz) (hz0 : sz ≠ 0) (hz1 : allOne z = true)
    {x : Operand} {t b o n c : Nat} (hx : ev S x = .s t b o n c) {l : List SV} {e' : Nat} (hk : hk S.hp t = some ⟨t, b, true, .a l e'⟩) (ho : n = 0 ∨ o + n * sz ≤ l.length) (N : Nat)
    {d : Option Nat} {ty_ : TypeId} {pos : String} {af : Array Edge} {g : Option (Nat × Bool)}
    (hn : (dOf d < S.n ∨ d = none) ∧ ex P E N (.L all r k (put1 { S with hp := hset S.hp t (.a (if n = 0 then l else stN l o (rpt n z)) e') } d (.v (.tuple #[]))))) :
    LeafC P E all ⟨d, .call ⟨.builtin .clear, [x].toArray, [T].toArray⟩, ty_, pos, af, g⟩ r k S := by
  intro a w hok
  have e1 : a.eval x = .slice (some ⟨b, o, none⟩) n c := by rw [hok.eval (x := x) (by rw [hx]; simp), hx]; rfl
  have hg := hok.mem.at hk
  obtain ⟨hu, ag', hs⟩ := ty_slice ht
  obtain ⟨zz, hz2, hz3⟩ := run_zeroValue' (w := w) (t := e) hz
  have key : ∀ w', (Builtin.clear_ [T].toArray ty_ #[.slice (some ⟨b, o, none⟩) n c]).run P w = .ok (.tuple #[]) w' →
      Turned w w' ⟨t, b, true, .a l e'⟩ (.a (if n = 0 then l else stN l o (rpt n z)) e') → (Oper.wpIn (fen E.r) 0 P ⟨d, .call ⟨.builtin .clear, [x].toArray, [T].toArray⟩, ty_, pos, af, g⟩ a w (wpListIn (fen E.r) 0 P all.toArray (semK P E k) r) (semK P E k)) := fun w' hw ht' => by
    refine ⟨fun f _ => fen_fn _ f, ?_⟩
    rw [semAt_fen _ _ (by simp)]
    have : (execOp a.eval ⟨d, .call ⟨.builtin .clear, [x].toArray, [T].toArray⟩, ty_, pos, af, g⟩).run P w = .ok (.value (.tuple #[])) w' := by
      simp [execOp, resolve, invoke, builtin, e1] at hw ⊢
      rw [hw]
      rfl
    rw [this]
    have h1 : Ok E { S with hp := hset S.hp t (.a (if n = 0 then l else stN l o (rpt n z)) e') } a w' := ⟨hok.df, hok.n, hok.sl, hok.mem.set hk rfl _ ht'.os ht'.tape ht'.output ht'.size ht'.new ht'.old⟩
    exact ex_sem N _ hn.2 _ _ (h1.put1 d hn.1 (v := .tuple #[]) (y := .v (.tuple #[])) (fun _ => rfl))
  by_cases h0 : n = 0
  · subst h0
    refine key w (by simp [Builtin.clear_, run_underlying hu]) ⟨rfl, rfl, OutK.refl w, rfl, by simpa using hg, fun _ _ => rfl⟩
  · have ho' : o + n * sz ≤ l.length := by rcases ho with ho | ho; exact absurd ho h0; exact ho
    have hzz : zz.cells = (denL z).toArray := by rw [← hz3]
    have hzne : z ≠ [] := by rintro rfl; simp at hzl; exact hz0 hzl.symm
    have hlen : (rpt n z).length = n * sz := by rw [rpt_length, hzl]
    have hst := run_storeCells_at P b o e' (denL (rpt n z)) 0 (denL l).toArray w hg (by simp [hlen]; omega) (allOne_den (allOne_rpt hz1 n))
    have hrow := setRow_facts (w := w) b ((denL l).toArray.toList.take (o + 0) ++ denL (rpt n z) ++ (denL l).toArray.toList.drop (o + 0 + (denL (rpt n z)).length)).toArray hg
    obtain ⟨f1, f2, f3, f4, f5, f6⟩ := hrow
    refine key _ ?_ ⟨f1, f2, f3, f4, ?_, f6⟩
    · have hnn : ∀ m, n = m + 1 → (Builtin.clear_ [T].toArray ty_ #[.slice (some ⟨b, o, none⟩) n c]).run P w = .ok (.tuple #[]) (w.setRow b ((denL l).toArray.toList.take (o + 0) ++ denL (rpt n z) ++ (denL l).toArray.toList.drop (o + 0 + (denL (rpt n z)).length)).toArray) := fun m hm => by
        subst hm
        have hzc := zeroCells_eq hzz hzne (m + 1)
        simp only [Builtin.clear_, List.getElem?_toArray, List.getElem?_cons_zero, Sem.run_bind, run_underlying hu, Result.andThen_ok, hz2, hzc]
        have h2 : (denL (rpt (m + 1) z)).toArray.toList = denL (rpt (m + 1) z) := rfl
        simp only [h2, hst, Result.andThen_ok, Sem.run_pure, Sem.run_bind]
      exact hnn (n - 1) (by omega)
    · rw [f5, if_neg h0]
      simp only [denO]
      rw [stN_eq l o (rpt n z) (by omega), denL_append, denL_append, denL_take, denL_drop]
      simp

end
end Go.Dx
