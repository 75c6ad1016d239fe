/- The model's run of an operation is as 'opv' says. -/
import Derived.Test.YtmjgfoeonnbkpaaDxE
namespace Go.Dx
open Go.RowKit

section
variable {P : Program} {E : Env} {S : St} {a : Act} {w : World}

theorem Ok.eval (h : Ok E S a w) {x : Operand} (hx : ev S x ≠ .xx) : a.eval x = den (ev S x) := by
  cases x with
  | tmp t => exact h.lkv hx
  | const c => rfl
  | func f => rfl
  | global g => exact absurd rfl hx

/-- A value and what it is known as. -/
def Kn (v : Value) (y : SV) : Prop := y ≠ .xx → v = den y

theorem Ok.isKn (h : Ok E S a w) (x : Operand) : Kn (a.eval x) (ev S x) := fun hx => h.eval hx

theorem Kn.of {v : Value} {y : SV} (h : Kn v y) (hk : kn y = true) : v = den y := h (by rintro rfl; cases hk)

theorem szOf_spec {t : TypeId} {x : Nat × Nat × Bool} (h : szOf P t = some x) : (∀ w, (sizeOf t).run P w = .ok x.1 w) ∧ (∀ w, (isAgg t).run P w = .ok x.2.2 w) ∧ ∃ i, P.info? t = some i ∧ i.size = x.1 ∧ i.bytes = x.2.1 := by
  unfold szOf at h
  split at h
  · rename_i i d h1 h2
    simp at h
    subst h
    exact ⟨fun w => run_sizeOf' h1, fun w => run_isAgg' h2, i, h1, rfl, rfl⟩
  · simp at h

theorem fdOf_spec : ∀ {l : List Field} {r : List (Nat × Nat × Bool)}, fdOf P l = some r → r.length = l.length ∧ ∀ (i : Nat) (f : Field), l[i]? = some f → ∃ b : Nat × Nat × Bool, szOf P f.type = some (b.1, b.2.1, b.2.2) ∧ fn3 r i = (f.offset, b.1, b.2.2)
  | [], r, h => by simp [fdOf] at h; subst h; simp
  | f :: l, r, h => by
    simp only [fdOf] at h
    split at h
    · rename_i x r' h1 h2
      simp at h
      subst h
      obtain ⟨hl, hr⟩ := fdOf_spec h2
      refine ⟨by simp [hl], ?_⟩
      intro i g hi
      cases i with
      | zero => simp at hi; subst hi; exact ⟨x, h1, rfl⟩
      | succ i => simp at hi; exact hr i g hi
    · simp at h

theorem ty_st {T : TypeId} {n : Nat} {ag : Bool} {fs : List (Nat × Nat × Bool)} (h : ty P T = some ⟨n, ag, .st fs⟩) : ∃ fa : Array Field, P.underlying T = some (.struct fa) ∧ fdOf P fa.toList = some fs := by
  obtain ⟨i, d, _, h2, h3⟩ := ty_spec h
  simp only [TI.mk.injEq] at h3
  obtain ⟨_, _, h3⟩ := h3
  cases d <;> simp only [tdOf] at h3 <;> (try split at h3) <;> simp_all

theorem ty_slice {T : TypeId} {n : Nat} {ag : Bool} {e sz by_ : Nat} (h : ty P T = some ⟨n, ag, .slice e sz by_⟩) : P.underlying T = some (.slice e) ∧ ∃ b, szOf P e = some (sz, by_, b) := by
  obtain ⟨i, d, _, h2, h3⟩ := ty_spec h
  simp only [TI.mk.injEq] at h3
  obtain ⟨_, _, h3⟩ := h3
  cases d <;> simp only [tdOf] at h3 <;> (try split at h3) <;> (try simp_all; done)
  rename_i x hx
  obtain ⟨x1, x2, x3⟩ := x
  simp at h3
  obtain ⟨rfl, rfl, rfl⟩ := h3
  exact ⟨h2, x3, hx⟩

theorem ty_arr {T : TypeId} {n : Nat} {ag b : Bool} {m e sz : Nat} (h : ty P T = some ⟨n, ag, .arr m e sz b⟩) : P.underlying T = some (.array m e) ∧ ∃ y, szOf P e = some (sz, y, b) := by
  obtain ⟨i, d, _, h2, h3⟩ := ty_spec h
  simp only [TI.mk.injEq] at h3
  obtain ⟨_, _, h3⟩ := h3
  cases d <;> simp only [tdOf] at h3 <;> (try split at h3) <;> (try simp_all; done)
  rename_i x hx
  obtain ⟨x1, x2, x3⟩ := x
  simp at h3
  obtain ⟨rfl, rfl, rfl, rfl⟩ := h3
  exact ⟨h2, x2, hx⟩

theorem ty_plain {T : TypeId} {ti : TI} (h : ty P T = some ti) : ∃ d, P.underlying T = some d ∧ ti.d = tdOf P d := by
  obtain ⟨i, d, _, h2, h3⟩ := ty_spec h
  exact ⟨d, h2, by rw [h3]⟩

end
end Go.Dx
