/- The model's run of an operation is as 'opv' says: the operations one by one. -/
import Derived.Test.YtmjgfoeonnbkpaaDxF
namespace Go.Dx
open Go.RowKit

section
variable {P : Program} {w : World}

theorem nat_lt_of {q : Int} {n : Nat} (h0 : 0 ≤ q) (h : q < n) : q.toNat < n := by omega

theorem pk_sem {vc vx vy : Value} {c x y : SV} (hc : Kn vc c) (hx : Kn vx x) (hy : Kn vy y) :
    VSem w ((do pure (if ← asBool vc then vx else vy) : Sem Value).run P w) (pk c x y) := by
  cases c with
  | v z =>
    have e : vc = z := hc.of rfl
    subst e
    cases vc with
    | bool b =>
      cases b
      · exact ⟨vy, by simp [asBool], hy⟩
      · exact ⟨vx, by simp [asBool], hx⟩
    | _ => trivial
  | _ => trivial

theorem uv_sem (op : UnOp) {v : Value} {x : SV} (h : Kn v x) : VSem w ((Op.unary op v).run P w) (uv op x) := by
  cases x with
  | v z =>
    have e : v = z := h.of rfl
    subst e
    cases op <;> cases v <;> (try trivial)
    · exact ar_sem _ _
    · rename_i k n
      rintro ⟨h1, h2, h3⟩
      refine VSem.val ?_
      simp only [den, Op.unary, h1, Bool.false_eq_true, if_false]
      rw [← kmax_eq, xor_run ⟨by have := kmax_pow k; obtain ⟨n, _, _, h4, _⟩ := this; omega, Int.le_refl _, h2, h3⟩]
    · exact VSem.val rfl
  | _ => cases op <;> trivial

theorem exv_sem (i : Nat) {v : Value} {x : SV} (h : Kn v x) : VSem w ((Instr.extract v i).run P w) (exv i x) := by
  cases x with
  | u l =>
    have e : v = den (.u l) := h.of rfl
    subst e
    intro hi
    refine VSem.val ?_
    have e : ld1 l i = l[i] := by rw [ld1_eq]; simp [hi]
    have e2 : (denL l)[i]? = some (den l[i]) := by rw [denL_get]; simp [hi]
    simp only [den, Instr.extract, List.getElem?_toArray, e2, e, Sem.run_pure]
  | _ => trivial

theorem qb_sem (neg b : Bool) {run : Result Value} (h : run = .ok (.bool (bif neg then !b else b)) w) : VSem w run (qb neg b) := VSem.val h

/-- '==' and '!=' out of the run of 'equal'. -/
theorem eql_run (neg : Bool) (t : TypeId) (x y : Value) (b : Bool) (hb : (Op.equal t x y).run P w = .ok b w)
    (h1 : ∀ op, (op = BinOp.eql ∨ op = .neq) → binOp op t x y = (match op with | .eql => do pure (.bool (← Op.equal t x y)) | _ => do pure (.bool (!(← Op.equal t x y))))) :
    (binOp (bif neg then .neq else .eql) t x y).run P w = .ok (.bool (bif neg then !b else b)) w := by
  cases neg
  · rw [cond_false, h1 _ (Or.inl rfl)]; simp [hb]
  · rw [cond_true, h1 _ (Or.inr rfl)]; simp [hb]

theorem eqGuard_other (op : BinOp) (t : TypeId) (x y : Operand) (a b : Value) (h1 : ¬ (a = .nilIface ∧ b = .nilIface)) (h2 : ∀ l r, ¬ (a = .agg l ∧ b = .agg r)) :
    (eqGuard op t x y a b).run P w = .ok () w := by
  unfold eqGuard
  generalize (!(match op with | .eql => true | .neq => true | _ => false)) = c
  cases c
  · simp only [Bool.false_eq_true, if_false]
    split
    · exact absurd ⟨rfl, rfl⟩ h1
    · exact absurd ⟨rfl, rfl⟩ (h2 _ _)
    · rfl
  · rfl

theorem eq_bool {t : TypeId} (p q : Bool) (hd : P.underlying t = some (.bool)) : (Op.equal t (.bool p) (.bool q)).run P w = .ok (p == q) w := by
  show (Op.equalIn (9999 + 1) t _ _).run P w = _
  generalize 9999 = depth
  simp only [Op.equalIn, Sem.run_bind, run_underlying hd, Result.andThen_ok]
  rfl

theorem eq_pnn {t : TypeId} {e : TypeId} (hd : P.underlying t = some (.pointer e)) : (Op.equal t (.pointer none) (.pointer none)).run P w = .ok (true) w := by
  show (Op.equalIn (9999 + 1) t _ _).run P w = _
  generalize 9999 = depth
  simp only [Op.equalIn, Sem.run_bind, run_underlying hd, Result.andThen_ok]
  rfl

theorem eq_psn {t : TypeId} {e : TypeId} (c : Addr) (hd : P.underlying t = some (.pointer e)) : (Op.equal t (.pointer (some c)) (.pointer none)).run P w = .ok (false) w := by
  show (Op.equalIn (9999 + 1) t _ _).run P w = _
  generalize 9999 = depth
  simp only [Op.equalIn, Sem.run_bind, run_underlying hd, Result.andThen_ok]
  rfl

theorem eq_pns {t : TypeId} {e : TypeId} (c : Addr) (hd : P.underlying t = some (.pointer e)) : (Op.equal t (.pointer none) (.pointer (some c))).run P w = .ok (false) w := by
  show (Op.equalIn (9999 + 1) t _ _).run P w = _
  generalize 9999 = depth
  simp only [Op.equalIn, Sem.run_bind, run_underlying hd, Result.andThen_ok]
  rfl

theorem eq_snn {t : TypeId} {e : TypeId} (i j k l : Nat) (hd : P.underlying t = some (.slice e)) : (Op.equal t (.slice none i j) (.slice none k l)).run P w = .ok (true) w := by
  show (Op.equalIn (9999 + 1) t _ _).run P w = _
  generalize 9999 = depth
  simp only [Op.equalIn, Sem.run_bind, run_underlying hd, Result.andThen_ok]
  rfl

theorem eq_ssn {t : TypeId} {e : TypeId} (c : Addr) (i j k l : Nat) (hd : P.underlying t = some (.slice e)) : (Op.equal t (.slice (some c) i j) (.slice none k l)).run P w = .ok (false) w := by
  show (Op.equalIn (9999 + 1) t _ _).run P w = _
  generalize 9999 = depth
  simp only [Op.equalIn, Sem.run_bind, run_underlying hd, Result.andThen_ok]
  rfl

theorem eq_mnn {t : TypeId} {e f : TypeId} (hd : P.underlying t = some (.map e f)) : (Op.equal t (.map none) (.map none)).run P w = .ok (true) w := by
  show (Op.equalIn (9999 + 1) t _ _).run P w = _
  generalize 9999 = depth
  simp only [Op.equalIn, Sem.run_bind, run_underlying hd, Result.andThen_ok]
  rfl

theorem eq_msn {t : TypeId} {e f : TypeId} (c : Nat) (hd : P.underlying t = some (.map e f)) : (Op.equal t (.map (some c)) (.map none)).run P w = .ok (false) w := by
  show (Op.equalIn (9999 + 1) t _ _).run P w = _
  generalize 9999 = depth
  simp only [Op.equalIn, Sem.run_bind, run_underlying hd, Result.andThen_ok]
  rfl

theorem eq_fnn {t : TypeId} {e f : Array TypeId} {g : Bool} (hd : P.underlying t = some (.func e f g)) : (Op.equal t (.nilFunc) (.nilFunc)).run P w = .ok (true) w := by
  show (Op.equalIn (9999 + 1) t _ _).run P w = _
  generalize 9999 = depth
  simp only [Op.equalIn, Sem.run_bind, run_underlying hd, Result.andThen_ok]
  rfl

theorem eq_fsn {t : TypeId} {e f : Array TypeId} {g : Bool} (h : Fn) (l m : Array Value) (hd : P.underlying t = some (.func e f g)) : (Op.equal t (.func h l m) (.nilFunc)).run P w = .ok (false) w := by
  show (Op.equalIn (9999 + 1) t _ _).run P w = _
  generalize 9999 = depth
  simp only [Op.equalIn, Sem.run_bind, run_underlying hd, Result.andThen_ok]
  rfl

theorem eq_inn {t : TypeId} {e : Array (String × TypeId)} (hd : P.underlying t = some (.interface e)) : (Op.equal t (.nilIface) (.nilIface)).run P w = .ok (true) w := by
  show (Op.equalIn (9999 + 1) t _ _).run P w = _
  generalize 9999 = depth
  simp only [Op.equalIn, Sem.run_bind, run_underlying hd, Result.andThen_ok]
  rfl

theorem eq_isn {t : TypeId} {e : Array (String × TypeId)} (c : TypeId) (z : Value) (hd : P.underlying t = some (.interface e)) : (Op.equal t (.iface c z) (.nilIface)).run P w = .ok (false) w := by
  show (Op.equalIn (9999 + 1) t _ _).run P w = _
  generalize 9999 = depth
  simp only [Op.equalIn, Sem.run_bind, run_underlying hd, Result.andThen_ok]
  rfl

theorem eq_ins {t : TypeId} {e : Array (String × TypeId)} (c : TypeId) (z : Value) (hd : P.underlying t = some (.interface e)) : (Op.equal t (.nilIface) (.iface c z)).run P w = .ok (false) w := by
  show (Op.equalIn (9999 + 1) t _ _).run P w = _
  generalize 9999 = depth
  simp only [Op.equalIn, Sem.run_bind, run_underlying hd, Result.andThen_ok]
  rfl

theorem td_bool {d : TypeDesc}  (h : tdOf P d = .bool) : d = .bool := by
  cases d <;> simp only [tdOf] at h <;> (try split at h) <;> simp_all

theorem td_ptr {d : TypeDesc} {e : Nat} (h : tdOf P d = .ptr e) : d = .pointer e := by
  cases d <;> simp only [tdOf] at h <;> (try split at h) <;> simp_all

theorem td_map {d : TypeDesc} {k e : Nat} (h : tdOf P d = .map k e) : d = .map k e := by
  cases d <;> simp only [tdOf] at h <;> (try split at h) <;> simp_all

theorem td_slice {d : TypeDesc} {e sz by_ : Nat} (h : tdOf P d = .slice e sz by_) : d = .slice e := by
  cases d <;> simp only [tdOf] at h <;> (try split at h) <;> simp_all

theorem td_fn {d : TypeDesc} (h : tdOf P d = .fn) : ∃ x y z, d = .func x y z := by
  cases d <;> simp only [tdOf] at h <;> (try split at h) <;> simp_all

theorem td_iface {d : TypeDesc} {n : Nat} (h : tdOf P d = .iface n) : ∃ ms, d = .interface ms := by
  cases d <;> simp only [tdOf] at h <;> (try split at h) <;> simp_all

/-- A test on what are no two whole numbers. -/
theorem eqb_sem (neg : Bool) (t : TypeId) (ox oy : Operand) {ti : TI} (ht : ty P t = some ti) {vx vy : Value} {x y : SV} (hx : Kn vx x) (hy : Kn vy y) :
    VSem w ((do eqGuard (bif neg then .neq else .eql) t ox oy vx vy; binOp (bif neg then .neq else .eql) t vx vy : Sem Value).run P w) (eqb neg (isC ox || isC oy) ti.d x y) := by
  obtain ⟨d, hd, hdd⟩ := ty_plain ht
  rw [hdd]
  have go : ∀ (a b : Value) (q : Bool), ¬ (a = .nilIface ∧ b = .nilIface) → (∀ l r, ¬ (a = .agg l ∧ b = .agg r)) →
      (binOp (bif neg then .neq else .eql) t a b).run P w = .ok (.bool (bif neg then !q else q)) w →
      VSem w ((do eqGuard (bif neg then .neq else .eql) t ox oy a b; binOp (bif neg then .neq else .eql) t a b : Sem Value).run P w) (qb neg q) := fun a b q h1 h2 h3 => by
    refine qb_sem neg q ?_
    simp only [Sem.run_bind, eqGuard_other _ t ox oy a b h1 h2, Result.andThen_ok, h3]
  clear hdd ht
  generalize htd : tdOf P d = td
  cases x <;> cases y <;> (try trivial)
  case v.v z z' =>
    have e1 : vx = z := hx.of rfl
    have e2 : vy = z' := hy.of rfl
    subst e1 e2
    clear hx hy
    cases vx <;> cases vy <;> (try trivial)
    case bool.bool p q =>
      cases td <;> (try trivial)
      have hd2 := hd; rw [td_bool htd] at hd2
      exact go _ _ _ (by simp) (by simp) (eql_run neg t _ _ _ (eq_bool _ _ hd2) (by rintro op (rfl | rfl) <;> rfl))
    case string.string p q =>
      refine go _ _ _ (by simp) (by simp) ?_
      cases neg <;> rfl
    case pointer.pointer p q =>
      cases td <;> cases p <;> cases q <;> (try trivial)
      have hd2 := hd; rw [td_ptr htd] at hd2
      exact go _ _ _ (by simp) (by simp) (eql_run neg t _ _ _ (eq_pnn hd2) (by rintro op (rfl | rfl) <;> rfl))
    case slice.slice p a b q c e =>
      cases td <;> cases p <;> cases q <;> (try trivial)
      have hd2 := hd; rw [td_slice htd] at hd2
      exact go _ _ _ (by simp) (by simp) (eql_run neg t _ _ _ (eq_snn _ _ _ _ hd2) (by rintro op (rfl | rfl) <;> rfl))
    case map.map p q =>
      cases td <;> cases p <;> cases q <;> (try trivial)
      have hd2 := hd; rw [td_map htd] at hd2
      exact go _ _ _ (by simp) (by simp) (eql_run neg t _ _ _ (eq_mnn hd2) (by rintro op (rfl | rfl) <;> rfl))
    case nilFunc.nilFunc =>
      cases td <;> (try trivial)
      obtain ⟨_, _, _, e⟩ := td_fn htd; have hd2 := hd; rw [e] at hd2
      exact go _ _ _ (by simp) (by simp) (eql_run neg t _ _ _ (eq_fnn hd2) (by rintro op (rfl | rfl) <;> rfl))
    case nilIface.nilIface =>
      cases td <;> (try trivial)
      obtain ⟨_, e⟩ := td_iface htd; have hd2 := hd; rw [e] at hd2
      intro hc
      refine qb_sem neg true ?_
      have hg : (eqGuard (bif neg then .neq else .eql) t ox oy (.nilIface) (.nilIface)).run P w = .ok () w := by
        cases ox <;> cases oy <;> first | (cases neg <;> rfl) | (exact absurd hc (by simp [isC]))
      have hb := eql_run (P := P) (w := w) neg t .nilIface .nilIface true (eq_inn hd2) (by rintro op (rfl | rfl) <;> rfl)
      simp only [Sem.run_bind, hg, Result.andThen_ok, hb]
  case p.v t1 b1 o1 z =>
    have e1 : vx = den (.p t1 b1 o1) := hx.of rfl
    have e2 : vy = z := hy.of rfl
    subst e1 e2
    clear hx hy
    cases vy <;> (try trivial)
    case pointer q =>
      cases td <;> cases q <;> (try trivial)
      simp only [den]
      have hd2 := hd; rw [td_ptr htd] at hd2
      exact go _ _ _ (by simp) (by simp) (eql_run neg t _ _ _ (eq_psn _ hd2) (by rintro op (rfl | rfl) <;> rfl))
  case s.v t1 b1 o1 n1 c1 z =>
    have e1 : vx = den (.s t1 b1 o1 n1 c1) := hx.of rfl
    have e2 : vy = z := hy.of rfl
    subst e1 e2
    clear hx hy
    cases vy <;> (try trivial)
    case slice q n2 c2 =>
      cases td <;> cases q <;> (try trivial)
      simp only [den]
      have hd2 := hd; rw [td_slice htd] at hd2
      exact go _ _ _ (by simp) (by simp) (eql_run neg t _ _ _ (eq_ssn _ _ _ _ _ hd2) (by rintro op (rfl | rfl) <;> rfl))
  case m.v t1 b1 z =>
    have e1 : vx = den (.m t1 b1) := hx.of rfl
    have e2 : vy = z := hy.of rfl
    subst e1 e2
    clear hx hy
    cases vy <;> (try trivial)
    case map q =>
      cases td <;> cases q <;> (try trivial)
      simp only [den]
      have hd2 := hd; rw [td_map htd] at hd2
      exact go _ _ _ (by simp) (by simp) (eql_run neg t _ _ _ (eq_msn _ hd2) (by rintro op (rfl | rfl) <;> rfl))
  case f.v h1 l1 z =>
    have e1 : vx = den (.f h1 l1) := hx.of rfl
    have e2 : vy = z := hy.of rfl
    subst e1 e2
    clear hx hy
    cases vy <;> (try trivial)
    case nilFunc =>
      cases td <;> (try trivial)
      simp only [den]
      obtain ⟨_, _, _, e⟩ := td_fn htd; have hd2 := hd; rw [e] at hd2
      exact go _ _ _ (by simp) (by simp) (eql_run neg t _ _ _ (eq_fsn _ _ _ hd2) (by rintro op (rfl | rfl) <;> rfl))
  case i.v t1 y1 z =>
    have e1 : vx = den (.i t1 y1) := hx.of rfl
    have e2 : vy = z := hy.of rfl
    subst e1 e2
    clear hx hy
    cases vy <;> (try trivial)
    case nilIface =>
      cases td <;> (try trivial)
      simp only [den]
      obtain ⟨_, e⟩ := td_iface htd; have hd2 := hd; rw [e] at hd2
      exact go _ _ _ (by simp) (by simp) (eql_run neg t _ _ _ (eq_isn _ _ hd2) (by rintro op (rfl | rfl) <;> rfl))
  case v.p z t1 b1 o1 =>
    have e1 : vx = z := hx.of rfl
    have e2 : vy = den (.p t1 b1 o1) := hy.of rfl
    subst e1 e2
    clear hx hy
    cases vx <;> (try trivial)
    case pointer q =>
      cases td <;> cases q <;> (try trivial)
      simp only [den]
      have hd2 := hd; rw [td_ptr htd] at hd2
      exact go _ _ _ (by simp) (by simp) (eql_run neg t _ _ _ (eq_pns _ hd2) (by rintro op (rfl | rfl) <;> rfl))
  case v.i z t1 y1 =>
    have e1 : vx = z := hx.of rfl
    have e2 : vy = den (.i t1 y1) := hy.of rfl
    subst e1 e2
    clear hx hy
    cases vx <;> (try trivial)
    case nilIface =>
      cases td <;> (try trivial)
      simp only [den]
      obtain ⟨_, e⟩ := td_iface htd; have hd2 := hd; rw [e] at hd2
      exact go _ _ _ (by simp) (by simp) (eql_run neg t _ _ _ (eq_ins _ _ hd2) (by rintro op (rfl | rfl) <;> rfl))
  case v.xx z  => cases z <;> trivial
  case v.s z t1 b1 o1 n1 c1 => cases z <;> trivial
  case v.m z t1 b1 => cases z <;> trivial
  case v.g z l1 => cases z <;> trivial
  case v.u z l1 => cases z <;> trivial
  case v.f z h1 l1 => cases z <;> trivial

end
end Go.Dx
