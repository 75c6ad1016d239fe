/- The model's run of an operation is as 'opv' says: the whole. -/
import Derived.Test.YtmjgfoeonnbkpaaDxI
import Derived.Laws.AppendOwn
import Derived.Laws.StructEq
namespace Go.Dx
open Go.RowKit

section
variable {P : Program} {E : Env} {S : St} {a : Act} {w : World}

theorem isI_spec {x : SV} {k : IntKind × Int} (h : isI x = some k) : x = .v (.int k.1 k.2) := by
  cases x <;> simp [isI] at h
  rename_i z
  cases z <;> simp at h
  subst h
  rfl

theorem bi_sem (op : BinOp) (t : TypeId) (ox oy : Operand) (k k' : IntKind) (p q : Int) :
    VSem w ((do eqGuard op t ox oy (.int k p) (.int k' q); binOp op t (.int k p) (.int k' q) : Sem Value).run P w) (bi op k k' p q) := by
  have e : (do eqGuard op t ox oy (.int k p) (.int k' q); binOp op t (.int k p) (.int k' q) : Sem Value).run P w = (binOp op t (.int k p) (.int k' q)).run P w := by
    simp only [Sem.run_bind, eqGuard_other op t ox oy _ _ (show ¬ (Value.int k p = .nilIface ∧ Value.int k' q = .nilIface) by simp) (by simp), Result.andThen_ok]
  rw [e]
  cases op
  case shl => exact sh_sem .shl t k k' p q (Or.inl rfl)
  case shr => exact sh_sem .shr t k k' p q (Or.inr rfl)
  all_goals
    intro hk
    subst hk
    exact ib_sem _ t k p q (by simp) (by simp)

theorem be_sem (op : BinOp) (t : TypeId) (ox oy : Operand) {vx vy : Value} {x y : SV} (hx : Kn vx x) (hy : Kn vy y) :
    VSem w ((do eqGuard op t ox oy vx vy; binOp op t vx vy : Sem Value).run P w) (be op (isC ox || isC oy) (ty P t) x y) := by
  cases ht : ty P t with
  | none => cases op <;> trivial
  | some ti =>
    cases op <;> (try trivial)
    · exact eqb_sem false t ox oy ht hx hy
    · exact eqb_sem true t ox oy ht hx hy

theorem bv_sem (op : BinOp) (t : TypeId) (ox oy : Operand) {vx vy : Value} {x y : SV} (hx : Kn vx x) (hy : Kn vy y) :
    VSem w ((do eqGuard op t ox oy vx vy; binOp op t vx vy : Sem Value).run P w) (bv op (isC ox || isC oy) (ty P t) x y) := by
  unfold bv
  cases h1 : isI x with
  | none => exact be_sem op t ox oy hx hy
  | some k =>
    cases h2 : isI y with
    | none => exact be_sem op t ox oy hx hy
    | some k' =>
      have e1 := isI_spec h1
      have e2 := isI_spec h2
      subst e1 e2
      rw [hx.of rfl, hy.of rfl]
      exact bi_sem op t ox oy _ _ _ _

theorem isG_spec {x : SV} {l : List SV} (h : isG x = some l) : x = .g l := by
  cases x <;> simp [isG] at h
  subst h
  rfl

theorem allI_get {k : IntKind} : ∀ {l : List SV}, allI k l = true → ∀ i, i < l.length → ∃ z, l[i]? = some (.v (.int k z))
  | [], _, i, hi => by simp at hi
  | a :: l, h, i, hi => by
    cases a with
    | v y =>
      cases y with
      | int k' z =>
        simp only [allI, Bool.and_eq_true, decide_eq_true_eq] at h
        obtain ⟨rfl, h⟩ := h
        cases i with
        | zero => exact ⟨_, rfl⟩
        | succ i => simpa using allI_get h i (by simpa using hi)
      | _ => simp [allI] at h
    | _ => simp [allI] at h

theorem allI_drop {k : IntKind} {l : List SV} (h : allI k l = true) (s : Nat) (hs : s < l.length) : ∃ z, l[s]? = some (.v (.int k z)) ∧ l.drop s = .v (.int k z) :: l.drop (s + 1) := by
  obtain ⟨z, hz⟩ := allI_get h s hs
  refine ⟨z, hz, ?_⟩
  rw [List.drop_eq_getElem_cons hs]
  rw [List.getElem?_eq_getElem hs] at hz
  simp at hz
  rw [hz]

theorem run_eqItems {e : TypeId} {k : IntKind} (hu : P.underlying e = some (.int k)) {l r : List SV} (hl : allI k l = true) (hr : allI k r = true) (hlen : l.length = r.length) (d : Nat) :
    ∀ (m s : Nat), s + m = l.length → (Op.eqItems (d + 1) e 1 (denL l).toArray (denL r).toArray (List.range' s m)).run P w = .ok (eqI (l.drop s) (r.drop s)) w := by
  intro m
  induction m with
  | zero =>
    intro s hs
    rw [List.drop_of_length_le (by omega), List.drop_of_length_le (by omega)]
    simp [Op.eqItems, eqI]
  | succ m ih =>
    intro s hs
    obtain ⟨x, hx, dx⟩ := allI_drop hl s (by omega)
    obtain ⟨y, hy, dy⟩ := allI_drop hr s (by omega)
    have px : (part e (denL l).toArray (s * 1)).run P w = .ok (.int k x) w := by
      have hg : (denL l)[s]? = some (.int k x) := by rw [denL_get, hx]; rfl
      simp [part, run_isAgg' hu, aggOf, hg]
    have py : (part e (denL r).toArray (s * 1)).run P w = .ok (.int k y) w := by
      have hg : (denL r)[s]? = some (.int k y) := by rw [denL_get, hy]; rfl
      simp [part, run_isAgg' hu, aggOf, hg]
    rw [List.range'_succ]
    simp only [Op.eqItems, Sem.run_bind, px, py, Result.andThen_ok]
    have he : (Op.equalIn (d + 1) e (.int k x) (.int k y)).run P w = .ok (x == y) w := by
      simp [Op.equalIn, run_underlying hu]
    rw [he, dx, dy]
    simp only [Result.andThen_ok, eqI]
    by_cases hxy : x = y
    · subst hxy
      simp [ih (s + 1) (by omega)]
    · simp [hxy]

theorem td_int {d : TypeDesc} {k : IntKind} (h : tdOf P d = .int k) : d = .int k := by
  cases d <;> simp only [tdOf] at h <;> (try split at h) <;> simp_all

theorem qb_sem' {neg b : Bool} {run : Result Value} (h : run = .ok (.bool (bif neg then !b else b)) w) : VSem w run (qb neg b) := VSem.val h

theorem eqA_sem (neg : Bool) (t : TypeId) (ox oy : Operand) (l r : List SV) :
    VSem w ((do eqGuard (if neg then .neq else .eql) t ox oy (den (.g l)) (den (.g r)); binOp (if neg then .neq else .eql) t (den (.g l)) (den (.g r)) : Sem Value).run P w) (eqA P neg t (ty P t) l r) := by
  cases ht : ty P t with
  | none => trivial
  | some ti =>
    obtain ⟨nn, ag, td⟩ := ti
    cases td <;> (try trivial)
    rename_i n e sz ag2
    cases he : ty P e with
    | none => simp only [eqA, he]; trivial
    | some te =>
      simp only [eqA, he]
      rcases te with ⟨_ | _ | sz1, ag1, d1⟩ <;> cases ag1 <;> cases d1 <;> (try trivial)
      · rename_i k
        rintro ⟨h1, h2, h3, h4, h5⟩
        obtain ⟨hu, _⟩ := ty_arr ht
        obtain ⟨i, de, hi, hde, hte⟩ := ty_spec he
        simp only [TI.mk.injEq] at hte
        have hk : de = .int k := by
          obtain ⟨_, _, h⟩ := hte
          exact td_int h.symm
        subst hk
        have hc : P.cellsOf e = 1 := by
          have a1 := run_sizeOf w hi
          have a2 := run_sizeOf' (w := w) hi
          rw [a1] at a2
          simp at a2
          omega
        have hq := run_equalIn_array (P := P) w 9999 (denL l).toArray (denL r).toArray hu hi
        rw [hc, List.range_eq_range', run_eqItems hde h1 h2 (by omega) 9998 n 0 (by omega)] at hq
        refine qb_sem' ?_
        have hg : ∀ op, (eqGuard op t ox oy (den (.g l)) (den (.g r))).run P w = .ok () w := fun op => run_eqGuard_agg w op t ox oy _ _ h5
        cases neg
        · simp only [Sem.run_bind, hg, Result.andThen_ok]
          show (binOp .eql t (.agg (denL l).toArray) (.agg (denL r).toArray)).run P w = _
          rw [run_eql_struct, hq]
          rfl
        · simp only [Sem.run_bind, hg, Result.andThen_ok]
          show (binOp .neq t (.agg (denL l).toArray) (.agg (denL r).toArray)).run P w = _
          rw [run_neq_struct, hq]
          rfl

theorem bvx_sem (op : BinOp) (t : TypeId) (ox oy : Operand) {vx vy : Value} {x y : SV} (hx : Kn vx x) (hy : Kn vy y) :
    VSem w ((do eqGuard op t ox oy vx vy; binOp op t vx vy : Sem Value).run P w) (bvx P op (isC ox || isC oy) t x y) := by
  unfold bvx
  cases h1 : isG x with
  | none => exact bv_sem op t ox oy hx hy
  | some l =>
    cases h2 : isG y with
    | none => exact bv_sem op t ox oy hx hy
    | some r =>
      have e1 := isG_spec h1
      have e2 := isG_spec h2
      subst e1 e2
      rw [hx.of rfl, hy.of rfl]
      cases op <;> (try trivial)
      · exact eqA_sem false t ox oy l r
      · exact eqA_sem true t ox oy l r

/-! ### Calls -/

/-- Values and what they are known as. -/
def LKn : List Value → List SV → Prop
  | [], [] => True
  | v :: l, y :: r => Kn v y ∧ LKn l r
  | _, _ => False

theorem evL_kn (h : Ok E S a w) : ∀ l : List Operand, LKn (l.map a.eval) (evL S l)
  | [] => trivial
  | x :: l => ⟨h.isKn x, evL_kn h l⟩

theorem LKn.all : ∀ {vs : List Value} {ys : List SV}, LKn vs ys → allK ys = true → vs = denL ys
  | [], [], _, _ => rfl
  | [], _ :: _, h, _ => h.elim
  | _ :: _, [], h, _ => h.elim
  | v :: vs, y :: ys, ⟨h1, h2⟩, hk => by
    simp only [allK, Bool.and_eq_true] at hk
    rw [denL, h1.of hk.1, h2.all hk.2]

theorem allK_append (l r : List SV) : allK (l ++ r) = (allK l && allK r) := by
  induction l with
  | nil => rfl
  | cons y l ih => simp [allK, ih, Bool.and_assoc]

theorem callFunc_run {h : Nat} (he : ent P h = true) (args : Array Value) : (callFunc h args).run P w = .ok (.enter h args) w := by
  unfold ent at he
  cases hf : P.funcs[h]? with
  | none => simp [hf] at he
  | some fn =>
    simp only [hf, Bool.and_eq_true, bne_iff_ne, ne_eq] at he
    obtain ⟨h1, h2⟩ := he
    obtain ⟨c, hc⟩ := Option.isSome_iff_exists.1 h2
    simp [callFunc, hf, h1, hc]

theorem cvl_sem {hp : List Ent} {f : Value} {args : List Value} {x : SV} {ys : List SV} (hf : Kn f x) (ha : LKn args ys) :
    RSem hp w ((do let d ← Deferred.ofValue f args.toArray; invoke d.target d.args).run P w) (cvl P ys x) := by
  cases x <;> (try trivial)
  case v z => cases z <;> (try trivial); rename_i fn _ _; cases fn <;> trivial
  rename_i h l
  rw [hf.of rfl]
  rintro ⟨he, hk⟩
  rw [allK_append, Bool.and_eq_true] at hk
  have e := ha.all hk.1
  subst e
  show _ = _
  simp [den, Deferred.ofValue, invoke, callFunc_run he, denL_append]

theorem method_run {T : Nat} {name : String} {f : Nat} (h : mth P T name = some f) (v : Value) (fuel : Nat) : (method (fuel + 1) T v name).run P w = .ok (f, v) w := by
  unfold mth at h
  split at h
  · rename_i i d h1 h2
    split at h
    · rename_i m hm
      split at h
      · rename_i g hp hfn
        split at h
        · rename_i hg
          obtain ⟨g, pr⟩ := g
          simp only [Option.some.injEq] at h hg
          subst h hg
          have hpl : m.path.toList = [] := by simpa using hp
          have hti : (typeInfo T).run P w = .ok i w := by simp [typeInfo, h1]
          have hra : ∀ wr, (receiverAt T (.val v) (ptrD d) wr).run P w = .ok v w := by
            intro wr
            simp only [receiverAt, Sem.run_bind, run_underlying h2, Result.andThen_ok]
            cases d <;> rfl
          simp [method, hti, hm, hpl, follow, hfn, hra]
        · simp at h
      · simp at h
    · simp at h
  · simp at h

theorem ivl_sem {hp : List Ent} {r : Value} {args : List Value} {x : SV} {ys : List SV} (name : String) (hr : Kn r x) (ha : LKn args ys) :
    RSem hp w ((invoke (.fn (.method name) #[]) (#[r] ++ args.toArray)).run P w) (ivl P name ys x) := by
  cases x <;> (try trivial)
  rename_i T y
  rw [hr.of rfl]
  cases hm : mth P T name with
  | none => simp only [ivl, hm]; trivial
  | some f =>
    simp only [ivl, hm]
    rintro ⟨he, hk⟩
    simp only [allK, Bool.and_eq_true] at hk
    have e := ha.all hk.2
    subst e
    have hmr : (method (P.types.size + Made.depth) T (den y) name).run P w = .ok (f, den y) w := by
      rw [show P.types.size + Made.depth = (P.types.size + 99) + 1 from rfl]
      exact method_run hm _ _
    have ht : List.take ys.length (denL ys) = denL ys := List.take_of_length_le (by simp)
    show _ = _
    simp only [den, invoke]
    simp [callMethod, hmr, denL, ht, callFunc_run he]

theorem td_array {d : TypeDesc} {n e sz : Nat} {b : Bool} (h : tdOf P d = .arr n e sz b) : d = .array n e := by
  cases d <;> simp only [tdOf] at h <;> (try split at h) <;> simp_all

theorem lnx_sem (ts : Array TypeId) (t : TypeId) (h0 : ts[0]? = some t) (ty_ : TypeId) {v : Value} {x : SV} (hv : Kn v x) : VSem w ((Builtin.len_ ts ty_ #[v]).run P w) (lnx (ty P t) x) := by
  cases ht : ty P t with
  | none => trivial
  | some ti =>
    obtain ⟨d, hd, hdd⟩ := ty_plain ht
    obtain ⟨n, ag, td⟩ := ti
    simp only at hdd
    cases td <;> (try trivial)
    case str =>
      rw [td_str hdd.symm] at hd
      cases x <;> (try trivial)
      rename_i z
      have e : v = z := hv.of rfl
      subst e
      cases v <;> (try trivial)
      exact VSem.val (by simp [Builtin.len_, h0, run_underlying hd, goInt, den])
    case slice =>
      rw [td_slice hdd.symm] at hd
      cases x <;> (try trivial)
      · rename_i z
        have e : v = z := hv.of rfl
        subst e
        cases v <;> (try trivial)
        rename_i p _ _
        cases p <;> (try trivial)
        exact VSem.val (by simp [Builtin.len_, h0, run_underlying hd, goInt, den])
      · rw [hv.of rfl]
        exact VSem.val (by simp [Builtin.len_, h0, run_underlying hd, goInt, den])
    case arr =>
      rw [td_array hdd.symm] at hd
      refine VSem.val ?_
      clear hv ht hdd
      have hu := run_underlying hd w
      cases v <;> simp only [Builtin.len_, h0, Sem.run_bind, hu, Result.andThen_ok, List.getElem?_toArray, List.getElem?_cons_zero] <;> rfl
    case map =>
      rw [td_map hdd.symm] at hd
      cases x <;> (try trivial)
      rename_i z
      have e : v = z := hv.of rfl
      subst e
      cases v <;> (try trivial)
      rename_i p
      cases p <;> (try trivial)
      exact VSem.val (by simp [Builtin.len_, h0, run_underlying hd, goInt, den])

theorem cpx_sem (ts : Array TypeId) (t : TypeId) (h0 : ts[0]? = some t) (ty_ : TypeId) {v : Value} {x : SV} (hv : Kn v x) : VSem w ((Builtin.cap_ ts ty_ #[v]).run P w) (cpx (ty P t) x) := by
  cases ht : ty P t with
  | none => trivial
  | some ti =>
    obtain ⟨d, hd, hdd⟩ := ty_plain ht
    obtain ⟨n, ag, td⟩ := ti
    simp only at hdd
    cases td <;> (try trivial)
    case slice =>
      rw [td_slice hdd.symm] at hd
      cases x <;> (try trivial)
      · rename_i z
        have e : v = z := hv.of rfl
        subst e
        cases v <;> (try trivial)
        rename_i p _ _
        cases p <;> (try trivial)
        exact VSem.val (by simp [Builtin.cap_, h0, run_underlying hd, goInt, den])
      · rw [hv.of rfl]
        exact VSem.val (by simp [Builtin.cap_, h0, run_underlying hd, goInt, den])

theorem cvi_sem (k k' : IntKind) (z : Int) : VSem w (.ok (.int k' (k'.wrap z)) w) (cvi k k' z) := by
  unfold cvi
  cases (fits k k' || k'.signed)
  · exact VSem.val (by rw [← wr_eq]; rfl)
  · exact fun h => VSem.val (by rw [wrap_in h]; rfl)

theorem cnx_sem (s d : TypeId) {v : Value} {x : SV} (hv : Kn v x) : VSem w ((convert s d v).run P w) (cnx (ty P s) (ty P d) x) := by
  cases hs : ty P s with
  | none => trivial
  | some ts =>
    cases hd : ty P d with
    | none => obtain ⟨_, _, td⟩ := ts; cases td <;> trivial
    | some tt =>
      obtain ⟨ds, h1, h2⟩ := ty_plain hs
      obtain ⟨dd, h3, h4⟩ := ty_plain hd
      obtain ⟨n, ag, td⟩ := ts
      obtain ⟨n', ag', td'⟩ := tt
      cases td <;> (try trivial)
      cases td' <;> (try trivial)
      cases x <;> (try trivial)
      rename_i k k' z
      have e : v = z := hv.of rfl
      subst e
      cases v <;> (try trivial)
      rename_i k0 q
      rw [td_int h2.symm] at h1
      rw [td_int h4.symm] at h3
      have : (convert s d (.int k0 q)).run P w = .ok (.int k' (k'.wrap q)) w := by
        simp [convert, run_underlying h1, run_underlying h3, Conv.intToInt]
      rw [this]
      exact cvi_sem k0 k' q

theorem mki_sem (T : TypeId) {v : Value} {x : SV} (hv : Kn v x) : VSem w ((Instr.makeInterface T v).run P w) (mki (ty P T) T x) := by
  cases ht : ty P T with
  | none => trivial
  | some ti =>
    obtain ⟨d, hd, hdd⟩ := ty_plain ht
    obtain ⟨n, ag, td⟩ := ti
    simp only at hdd
    have key : (∀ ms, d ≠ .interface ms) → kn x = true → VSem w ((Instr.makeInterface T v).run P w) (.val (.i T x)) := fun hm hk => by
      refine VSem.val ?_
      rw [hv.of hk]
      simp only [Instr.makeInterface, Sem.run_bind, run_underlying hd, Result.andThen_ok]
      cases d <;> first | exact absurd rfl (hm _) | rfl
    have hm : (∀ n, td ≠ .iface n) → ∀ ms, d ≠ .interface ms := by
      rintro h ms rfl
      exact h _ hdd
    cases td <;> (try trivial)
    all_goals exact fun hk => key (hm (by simp)) hk

theorem mkf_sem (h : Ok E S a w) (fn : Fn) (first caps : Array Operand) : VSem w ((Instr.makeFunc fn (first.map a.eval) (caps.map a.eval)).run P w) (mkf S fn first caps) := by
  unfold mkf
  cases fn <;> (try trivial)
  rename_i f
  obtain ⟨l⟩ := first
  cases l <;> (try trivial)
  intro hk
  refine VSem.val ?_
  have e := (evL_kn h caps.toList).all hk
  have e2 : caps.map a.eval = (denL (evL S caps.toList)).toArray := by
    apply Array.toList_inj.1
    rw [← e]; simp
  simp [Instr.makeFunc, e2, den]

/-! ### Appending -/

theorem growslice_fits' {need old bytes : Nat} (h : old < need) (hb : need * bytes ≤ 140737488355328) : Builtin.nextslicecap need old * bytes ≤ 281474976710656 := Go.growslice_fits h hb

theorem rowO (ob : HObj) (h : nws.okR ob = true) : ∃ T fz, denO ob = .cells (denL (rowOf ob)).toArray T fz := by
  cases ob with
  | c l T => exact ⟨T, _, rfl⟩
  | a l T => exact ⟨T, _, rfl⟩
  | z l T fz => exact ⟨T, fz, rfl⟩
  | o y => cases h

theorem cells_of {l : List SV} {T b o n : Nat} {fz : Nat × Nat} (hg : w.heap[b]? = some (.cells (denL l).toArray T fz)) (hn : n = 0 ∨ o + n ≤ l.length) :
    (denL (ldN l o n)).length = n ∧ ∀ j v, (denL (ldN l o n))[j]? = some v → w.cell? ((⟨b, o, none⟩ : Addr).add j) = some v := by
  refine ⟨by rw [denL_length, ldN_eq]; simp; omega, ?_⟩
  intro j v hj
  rw [denL_get, ldN_eq] at hj
  rw [add_none, cell_at (l := l) (T := T) (fz := fz) hg]
  by_cases hjn : j < n
  · rw [List.getElem?_take_of_lt hjn, List.getElem?_drop] at hj
    exact hj
  · rw [List.getElem?_eq_none (by simp; omega)] at hj
    cases hj

theorem zeroCells_eq {z : List SV} {zz : Value} (hc : zz.cells = (denL z).toArray) (hz : z ≠ []) (n : Nat) : Builtin.zeroCells zz.cells n = (denL (rpt n z)).toArray := by
  have := zeros_eq hc hz n
  unfold Builtin.zeroCells
  rw [show zz.cells.size = z.length by rw [hc]; simp]
  rw [← this]
  rw [show zz.cells.size = z.length by rw [hc]; simp]

theorem nws_sem {hp : List Ent} {run : Result Next} (e : Option Ent) (hmem : ∀ x, e = some x → x ∈ hp) (hget : ∀ e ∈ hp, w.heap[e.b]? = some (denO e.o)) (b o n : Nat) (k : List SV → Res)
    (h : ∀ news T l fz, w.heap[b]? = some (.cells (denL l).toArray T fz) → (n = 0 ∨ o + n ≤ l.length) → news = ldN l o n → allOne news = true → RSem hp w run (k news)) : RSem hp w run (nws e b o n k) := by
  cases e with
  | none => trivial
  | some e =>
    rintro ⟨rfl, h2, h3, h4⟩
    obtain ⟨T, fz, hT⟩ := rowO e.o h4
    exact h _ T _ fz (by rw [hget e (hmem e rfl), hT]) h2 rfl h3

theorem drew_alloc_mem {W0 : World} {mods : List Nat} {hp : List Ent} (h : Mem W0 mods hp w) (tag : Nat) (o : HObj) : Mem W0 mods (⟨tag, w.heap.size, true, o⟩ :: hp) (w.drew.alloc (denO o)) :=
  (h.drawn (w.drawn + 1) (Nat.le_succ _)).alloc tag o

theorem lift_gen {hp : List Ent} {run : Result Value} {run' : Result Next} {φ : Nat → List SV → Prop} {n : Nat} {o : Nat → List SV → HObj} {d : Option Nat} (hr : ∀ v w', run = .ok v w' → run' = .ok (.value v) w')
    (h : (∀ e ∈ hp, w.heap[e.b]? = some (denO e.o)) → ∃ b c j w', φ c j ∧ run = .ok (.slice (some ⟨b, 0, none⟩) n c) w' ∧ ∀ W0 mods tag, Mem W0 mods hp w → Mem W0 mods (⟨tag, b, true, o c j⟩ :: hdr hp d) w') : RSem hp w run' (.gen φ n o d) := by
  intro hg
  obtain ⟨b, c, j, w', h1, h2, h3⟩ := h hg
  exact ⟨b, c, j, w', h1, hr _ _ h2, h3⟩

theorem apx_sem {hp : List Ent} (hget : ∀ e ∈ hp, w.heap[e.b]? = some (denO e.o)) (t ty_ : TypeId) {vx vy : Value} {x y : SV} (hx : Kn vx x) (hy : Kn vy y) {run' : Result Next}
    (hr : ∀ v w', (Builtin.append_ #[t, t] ty_ #[vx, vy]).run P w = .ok v w' → run' = .ok (.value v) w') :
    RSem hp w run' (apx hp (zv P (eOf (ty P t))) (ty P t) x y) := by
  cases ht : ty P t with
  | none => cases zv P (eOf none) <;> trivial
  | some ti =>
    obtain ⟨nn, ag, td⟩ := ti
    cases hz : zv P (eOf (some ⟨nn, ag, td⟩)) with
    | none => trivial
    | some z =>
      cases td <;> (try trivial)
      rename_i e sz by_
      obtain ⟨hu, yb, hsz⟩ := ty_slice ht
      obtain ⟨i, hi, hi1, hi2⟩ := (szOf_spec hsz).2.2
      obtain ⟨zz, hz1, hz2⟩ := run_zeroValue' (w := w) (t := e) hz
      have hiz : i.zero = some zz := by
        simp only [zeroValue, typeInfo, Sem.run_bind] at hz1
        have : (typeInfo e).run P w = .ok i w := by simp [typeInfo, hi]
        cases hzero : i.zero with
        | none => simp [hi, hzero] at hz1
        | some q => simp [hi, hzero] at hz1; rw [hz1]
      have hcells : zz.cells = (denL z).toArray := by rw [← hz2]
      simp only at hi1 hi2
      have nilA : ∀ (vx vy : Value) (t' b' o' m c' : Nat), vx = .slice none 0 0 → vy = .slice (some ⟨b', o', none⟩) m c' →
          (∀ v w', (Builtin.append_ #[t, t] ty_ #[vx, vy]).run P w = .ok v w' → run' = .ok (.value v) w') → RSem hp w run' (nws (hk hp t') b' o' (m * sz) fun news => apN z e sz by_ m news) := by
        rintro _ _ t' b' o' m c' rfl rfl hr
        refine nws_sem _ (fun x hx => hk_mem hx) hget _ _ _ _ ?_
        intro news T l fz hg hle hnews hone
        rintro ⟨q1, q2, q3, q4⟩
        have hzne : z ≠ [] := by rintro rfl; simp at q1; exact q2 q1.symm
        obtain ⟨hl, hc⟩ := cells_of hg hle
        rw [← hnews] at hl hc
        refine ⟨fun hm => ?_, fun hm => ?_⟩
        · subst hm
          refine ⟨_, hr _ w ?_, fun _ => rfl⟩
          simp [Builtin.append_, run_underlying hu, sizeOf, typeInfo, hi, Builtin.lenOf, Builtin.firstCells, loadCells, loadCellsFrom, den]
        · refine lift_gen hr fun _ => ?_
          have hrun := run_append_nil (P := P) w t ty_ e i zz hu hi hiz ⟨b', o', none⟩ m c' (denL news) (by rw [hl, hi1]) hc (by omega) (by omega) (by rw [hi2]; omega)
          have hge := grownCap_ge w m 0 e
          have hle2 := grownCap_le_maxLen w m 0 e (by simp only [maxLen]; omega)
          refine ⟨w.heap.size, grownCap w m 0 e, [], _, ⟨hge, by simp only [maxLen] at hle2; omega⟩, hrun, fun W0 mods tag hm' => ?_⟩
          have := drew_alloc_mem hm' tag (.a (news ++ rpt (grownCap w m 0 e - m) z) e)
          simpa [denO, denL_append, zeroCells_eq hcells hzne, hdr] using this
      have ownA : ∀ (vx vy : Value) (t0 b o n c t' b' o' m c' : Nat), vx = .slice (some ⟨b, o, none⟩) n c → vy = .slice (some ⟨b', o', none⟩) m c' →
          (∀ v w', (Builtin.append_ #[t, t] ty_ #[vx, vy]).run P w = .ok v w' → run' = .ok (.value v) w') →
          RSem hp w run' (bif Nat.beq t0 t' then .no else nws (hk hp t') b' o' (m * sz) fun news => apO z e sz by_ t0 b o n c m (hk hp t0) news) := by
        rintro _ _ t0 b o n c t' b' o' m c' rfl rfl hr
        cases Nat.beq t0 t' with
        | true => trivial
        | false =>
          refine nws_sem _ (fun x hx => hk_mem hx) hget _ _ _ _ ?_
          intro news T l fz hg hle hnews hone
          cases hk0 : hk hp t0 with
          | none => trivial
          | some en =>
            obtain ⟨et, eb, ew, eo⟩ := en
            cases eo with
            | c _ _ => trivial
            | z _ _ _ => trivial
            | o _ => trivial
            | a lx e' =>
              rintro ⟨rfl, rfl, rfl, rfl, q1, q2, q3, q4, q5, q6, q7⟩
              have hzne : z ≠ [] := by rintro rfl; simp at q3; exact q4 q3.symm
              obtain ⟨hl, hc⟩ := cells_of hg hle
              rw [← hnews] at hl hc
              have hgx : w.heap[b]? = some (.cells (denL lx).toArray e) := hget _ (hk_mem hk0)
              have hnc : n * sz ≤ c * sz := Nat.mul_le_mul_right _ q2
              obtain ⟨hlo, hco⟩ := cells_of (w := w) (o := 0) (n := n * sz) hgx (by omega)
              rw [ldN_zero] at hlo hco
              refine lift_gen hr fun _ => ?_
              by_cases hroom : n + m ≤ c
              · have hfit : n * i.size + (denL news).length ≤ (denL lx).toArray.size := by
                  have : (n + m) * sz ≤ c * sz := Nat.mul_le_mul_right _ hroom
                  rw [Nat.add_mul] at this
                  simp only [List.size_toArray, hl, hi1, denL_length, q1]
                  omega
                have hrun := run_append_room (P := P) w t ty_ e i hu hi b n c (denL lx).toArray hgx ⟨b', o', none⟩ m c' (denL news) (by rw [hl, hi1]) hc (allOne_den hone) hroom hfit
                refine ⟨b, c, lx.drop (n * sz + news.length), _, ⟨hroom, by omega, ?_⟩, hrun, fun W0 mods tag hm' => ?_⟩
                · have hnl : news.length = m * sz := by simpa using hl
                  have : (n + m) * sz ≤ c * sz := Nat.mul_le_mul_right _ hroom
                  rw [Nat.add_mul] at this ⊢
                  simp only [List.length_drop, hnl, q1]
                  omega
                · obtain ⟨f1, f2, f3, f4, f5, f6⟩ := setRow_facts (w := w) b ((denL lx).toArray.toList.take (n * i.size) ++ denL news ++ (denL lx).toArray.toList.drop (n * i.size + (denL news).length)).toArray hgx
                  refine hm'.retag hk0 rfl tag _ f1 f2 f3 f4 ?_ f6
                  rw [f5]
                  simp [denO, denL_append, denL_take, denL_drop, hdN_eq, hi1]
              · have hrun := run_append_grow (P := P) w t ty_ e i zz hu hi hiz ⟨b, 0, none⟩ n c (denL (hdN lx (n * sz))) (by rw [hlo, hi1]) hco ⟨b', o', none⟩ m c' (denL news) (by rw [hl, hi1]) hc (by omega) (by omega)
                  (growslice_fits' (by omega) (by rw [hi2]; omega))
                have hge := grownCap_ge w (n + m) c e
                have hle2 := grownCap_le_maxLen w (n + m) c e (by simp only [maxLen]; omega)
                refine ⟨w.heap.size, grownCap w (n + m) c e, rpt (grownCap w (n + m) c e - (n + m)) z, _, ⟨hge, by simp only [maxLen] at hle2; omega, ?_⟩, hrun, fun W0 mods tag hm' => ?_⟩
                · rw [rpt_length, q3, ← Nat.add_mul]
                  congr 1
                  omega
                · have := drew_alloc_mem (hm'.sub (hdr_sub hp (some t0))) tag (.a (hdN lx (n * sz) ++ news ++ rpt (grownCap w (n + m) c e - (n + m)) z) e)
                  simpa [denO, denL_append, zeroCells_eq hcells hzne] using this
      cases x <;> (try trivial)
      case v zx =>
        have e1 : vx = zx := hx.of rfl
        subst e1
        cases vx <;> (try (cases y <;> trivial))
        rename_i p0 n0 c0
        cases p0 <;> (try (cases y <;> trivial))
        cases n0 <;> (try (cases y <;> trivial))
        cases c0 <;> (try (cases y <;> trivial))
        cases y <;> (try trivial)
        case v zy =>
          have e2 : vy = zy := hy.of rfl
          subst e2
          cases vy <;> (try trivial)
          rename_i p1 n1 c1
          cases p1 <;> (try trivial)
          cases n1 <;> (try trivial)
          cases c1 <;> (try trivial)
          refine ⟨_, hr _ w ?_, fun _ => rfl⟩
          simp [Builtin.append_, run_underlying hu, sizeOf, typeInfo, hi, Builtin.lenOf, Builtin.firstCells, den]
        case s t' b' o' m c' => exact nilA _ _ t' b' o' m c' rfl (hy.of rfl) hr
      case s t0 b o n c =>
        cases y <;> (try trivial)
        case v zy =>
          have e2 : vy = zy := hy.of rfl
          subst e2
          cases vy <;> (try trivial)
          rename_i p1 n1 c1
          cases p1 <;> (try trivial)
          cases n1 <;> (try trivial)
          cases c1 <;> (try trivial)
          intro hle
          have e1 : vx = .slice (some ⟨b, o, none⟩) n c := hx.of rfl
          subst e1
          refine ⟨_, hr _ w ?_, fun _ => rfl⟩
          simp [Builtin.append_, run_underlying hu, sizeOf, typeInfo, hi, Builtin.lenOf, Builtin.firstCells, loadCells, den, hle, storeCells]
        case s t' b' o' m c' => exact ownA _ _ t0 b o n c t' b' o' m c' (hx.of rfl) (hy.of rfl) hr

theorem mx2_sem {vx vy : Value} {x y : SV} (hx : Kn vx x) (hy : Kn vy y) (ts : Array TypeId) (ty_ : TypeId) : VSem w ((Builtin.max_ ts ty_ #[vx, vy]).run P w) (mx2 x y) := by
  cases x <;> (try trivial)
  rename_i zx
  have e1 : vx = zx := hx.of rfl
  subst e1
  cases vx <;> (try trivial)
  cases y <;> (try trivial)
  rename_i zy
  have e2 : vy = zy := hy.of rfl
  subst e2
  cases vy <;> (try trivial)
  rename_i k a k' b
  refine VSem.val ?_
  have : max a b = if b > a then b else a := by omega
  rw [this]
  simp [Builtin.max_, Builtin.max2, den]

theorem mn2_sem {vx vy : Value} {x y : SV} (hx : Kn vx x) (hy : Kn vy y) (ts : Array TypeId) (ty_ : TypeId) : VSem w ((Builtin.min_ ts ty_ #[vx, vy]).run P w) (mn2 x y) := by
  cases x <;> (try trivial)
  rename_i zx
  have e1 : vx = zx := hx.of rfl
  subst e1
  cases vx <;> (try trivial)
  cases y <;> (try trivial)
  rename_i zy
  have e2 : vy = zy := hy.of rfl
  subst e2
  cases vy <;> (try trivial)
  rename_i k a k' b
  refine VSem.val ?_
  have : min a b = if b < a then b else a := by omega
  rw [this]
  simp [Builtin.min_, Builtin.min2, den]

/-! ### The whole -/

theorem bul_sem {hp : List Ent} (hget : ∀ e ∈ hp, w.heap[e.b]? = some (denO e.o)) (b : Builtin) (ts : Array TypeId) (ty_ : TypeId) (cs : Array Bool) {args : List Value} {ys : List SV} (ha : LKn args ys) :
    RSem hp w ((builtin b ts ty_ cs args.toArray).run P w) (bul P hp b ts ys) := by
  obtain ⟨ts⟩ := ts
  have one : ∀ y, ys = [y] → ∃ v, args = [v] ∧ Kn v y := by
    rintro y rfl
    match args, ha with
    | [v], ⟨h1, _⟩ => exact ⟨v, rfl, h1⟩
  have two : ∀ x y, ys = [x, y] → ∃ v u, args = [v, u] ∧ Kn v x ∧ Kn u y := by
    rintro x y rfl
    match args, ha with
    | [v, u], ⟨h1, h2, _⟩ => exact ⟨v, u, rfl, h1, h2⟩
  cases b <;> (try trivial)
  case len =>
    match ys, ha with
    | [], _ => trivial
    | [y], _ =>
      obtain ⟨v, rfl, hv⟩ := one y rfl
      cases ts with
      | nil => trivial
      | cons t ts => exact lift_value (lnx_sem (t :: ts).toArray t (by simp) ty_ hv)
    | _ :: _ :: _, _ => trivial
  case cap =>
    match ys, ha with
    | [], _ => trivial
    | [y], _ =>
      obtain ⟨v, rfl, hv⟩ := one y rfl
      cases ts with
      | nil => trivial
      | cons t ts => exact lift_value (cpx_sem (t :: ts).toArray t (by simp) ty_ hv)
    | _ :: _ :: _, _ => trivial
  case append =>
    match ys, ts, ha with
    | [], _, _ => trivial
    | [_], _, _ => trivial
    | _ :: _ :: _ :: _, _, _ => trivial
    | [x, y], [], _ => trivial
    | [x, y], [_], _ => trivial
    | [x, y], _ :: _ :: _ :: _, _ => trivial
    | [x, y], [t, t'], _ =>
      obtain ⟨v, u, rfl, hv, hu⟩ := two x y rfl
      show RSem hp w _ (bif Nat.beq t t' then _ else _)
      cases hb : Nat.beq t t' with
      | false => trivial
      | true =>
        obtain rfl := Nat.eq_of_beq_eq_true hb
        refine apx_sem hget t ty_ hv hu ?_
        intro v w' hrun
        simp [builtin, hrun]
  case max =>
    match ys, ha with
    | [], _ => trivial
    | [_], _ => trivial
    | _ :: _ :: _ :: _, _ => trivial
    | [x, y], _ =>
      obtain ⟨v, u, rfl, hv, hu⟩ := two x y rfl
      exact lift_value (mx2_sem hv hu _ ty_)
  case min =>
    match ys, ha with
    | [], _ => trivial
    | [_], _ => trivial
    | _ :: _ :: _ :: _, _ => trivial
    | [x, y], _ =>
      obtain ⟨v, u, rfl, hv, hu⟩ := two x y rfl
      exact lift_value (mn2_sem hv hu _ ty_)

theorem opv_sem (h : Ok E S a w) (o : Oper) : RSem S.hp w ((execOp a.eval o).run P w) (opv P S o.op) := by
  obtain ⟨dst, op, ty_, pos, af, gd⟩ := o
  cases op <;> (try trivial)
  case move x => exact ⟨_, rfl, h.isKn x⟩
  case assign x => exact ⟨_, rfl, h.isKn x⟩
  case pick c x y =>
    refine (pk_sem (P := P) (w := w) (h.isKn c) (h.isKn x) (h.isKn y)).lift fun v hv => ?_
    simp only [Sem.run_bind, Sem.run_pure] at hv
    simp only [execOp, Sem.run_bind, Sem.run_pure]
    cases hb : (asBool (a.eval c)).run P w with
    | ok b w' => rw [hb] at hv; simp at hv ⊢; obtain ⟨rfl, rfl⟩ := hv; exact ⟨rfl, rfl⟩
    | halt x w' => rw [hb] at hv; simp at hv
  case alloc T => exact alx_sem T _
  case box T x => exact bxv_sem T (h.isKn x)
  case build T ps =>
    have := blx_sem (P := P) (w := w) (hp := S.hp) T (ps.toList.map fun (i, x) => (i, a.eval x)) (evP S ps.toList) (evP_kn h ps.toList)
    have e : ps.map (fun (i, x) => (i, a.eval x)) = (ps.toList.map fun (i, x) => (i, a.eval x)).toArray := by apply Array.toList_inj.1; simp
    simp only [execOp]
    rw [e]
    exact this
  case buildSlice T n ps =>
    have := bsx_sem (P := P) (w := w) (hp := S.hp) T n (ps.toList.map fun (i, x) => (i, a.eval x)) (evP S ps.toList) (evP_kn h ps.toList)
    have e : ps.map (fun (i, x) => (i, a.eval x)) = (ps.toList.map fun (i, x) => (i, a.eval x)).toArray := by apply Array.toList_inj.1; simp
    simp only [execOp]
    rw [e]
    exact this
  case load T x => exact lift_value (ldv_sem h T (h.isKn x))
  case store T x y => exact stv_sem h T (h.isKn x) (h.isKn y)
  case nilCheck x => exact nlv_sem x (h.isKn x) ty_ pos af gd dst
  case binOp op T x y u => exact lift_value (bvx_sem op T x y (h.isKn x) (h.isKn y))
  case unOp op T x => exact lift_value (uv_sem op (h.isKn x))
  case convert s d x => exact lift_value (cnx_sem s d (h.isKn x))
  case makeInterface T x => exact lift_value (mki_sem T (h.isKn x))
  case makeFunc fn f c => exact lift_value (mkf_sem h fn f c)
  case makeSlice T l c => exact msv_sem T (h.isKn l) (h.isKn c)
  case slice T x l hh m => exact lift_value (slv_sem h T (h.isKn x) l hh m)
  case fieldAddr T x f => exact lift_value (fav_sem T f (h.isKn x))
  case field T x f => exact lift_value (fdv_sem T f (h.isKn x))
  case indexAddr T x i => exact lift_value (iav_sem T (h.isKn x) (h.isKn i))
  case index T x i => exact lift_value (ixv_sem T (h.isKn x) (h.isKn i))
  case extract x i => exact lift_value (exv_sem i (h.isKn x))
  case call c =>
    obtain ⟨callee, args, ats⟩ := c
    have hargs := evL_kn h args.toList
    have e : args.map a.eval = (args.toList.map a.eval).toArray := by apply Array.toList_inj.1; simp
    cases callee with
    | value f =>
      simp only [execOp, resolve, opv]
      rw [e]
      exact cvl_sem (h.isKn f) hargs
    | invoke r m =>
      simp only [execOp, resolve, opv]
      rw [e]
      exact ivl_sem m (h.isKn r) hargs
    | builtin b =>
      simp only [execOp, resolve, opv]
      rw [e]
      exact bul_sem h.mem.get b ats ty_ _ hargs

end
end Go.Dx
