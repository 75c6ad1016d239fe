/- One operation's result as data ('opv'), and that the model's run of the operation is as it says. -/
import Derived.Test.YtmjgfoeonnbkpaaDxC
namespace Go.Dx
open Go.RowKit

/-- A value's run is as a result says. -/
def VSem (w : World) (run : Result Value) : Res → Prop
  | .val y => ∃ v, run = .ok v w ∧ (y ≠ .xx → v = den y)
  | .obl p r => p → VSem w run r
  | .new _ | .news _ _ _ | .sto _ _ | .call _ _ | .gen _ _ _ _ => False
  | .cse p a b => (p → VSem w run a) ∧ (¬ p → VSem w run b)
  | .leaf => True
  | .no => True

/-- What has become of the world behind a store into a tracked block. -/
structure Turned (w w' : World) (e : Ent) (o : HObj) : Prop where
  os : w'.os = w.os
  tape : w'.tape = w.tape
  output : OutK w w'
  size : w'.heap.size = w.heap.size
  new : w'.heap[e.b]? = some (denO o)
  old : ∀ b, b ≠ e.b → w'.heap[b]? = w.heap[b]?

def RSem (hp : List Ent) (w : World) (run : Result Next) : Res → Prop
  | .val y => ∃ v, run = .ok (.value v) w ∧ (y ≠ .xx → v = den y)
  | .obl p r => p → RSem hp w run r
  | .new o => run = .ok (.value (.pointer (some ⟨w.heap.size, 0, none⟩))) { w with heap := w.heap.push (denO o) }
  | .news o n c => run = .ok (.value (.slice (some ⟨w.heap.size, 0, none⟩) n c)) { w with heap := w.heap.push (denO o) }
  | .sto t o => ∃ e w', hk hp t = some e ∧ e.w = true ∧ run = .ok .skip w' ∧ Turned w w' e o
  | .call h as => run = .ok (.enter h (denL as).toArray) w
  | .cse p a b => (p → RSem hp w run a) ∧ (¬ p → RSem hp w run b)
  | .gen φ n o d => (∀ e ∈ hp, w.heap[e.b]? = some (denO e.o)) → ∃ b c j w', φ c j ∧ run = .ok (.value (.slice (some ⟨b, 0, none⟩) n c)) w' ∧ ∀ W0 mods tag, Mem W0 mods hp w → Mem W0 mods (⟨tag, b, true, o c j⟩ :: hdr hp d) w'
  | .leaf => True
  | .no => True

theorem VSem.lift {hp : List Ent} {w : World} {r : Res} {run : Result Value} {run' : Result Next} (h : VSem w run r) (hr : ∀ v, run = .ok v w → run' = .ok (.value v) w) : RSem hp w run' r := by
  induction r with
  | val y => obtain ⟨v, h1, h2⟩ := h; exact ⟨v, hr v h1, h2⟩
  | obl p r ih => exact fun hp => ih (h hp)
  | new _ => exact h.elim
  | news _ _ _ => exact h.elim
  | sto _ _ => exact h.elim
  | call _ _ => exact h.elim
  | cse p a b iha ihb => exact ⟨fun hp => iha (h.1 hp), fun hp => ihb (h.2 hp)⟩
  | gen _ _ _ _ => exact h.elim
  | leaf => trivial
  | no => trivial

theorem VSem.val {w : World} {y : SV} {run : Result Value} (h : run = .ok (den y) w) : VSem w run (.val y) := ⟨_, h, fun _ => rfl⟩

section
variable {P : Program} {w : World}

theorem ar_sem (k : IntKind) (z : Int) : VSem w (.ok (.int k (k.wrap z)) w) (ar k z) := by
  cases k
  case i64 => exact fun h => VSem.val (by rw [wrap_in h]; rfl)
  all_goals exact VSem.val (by rw [← wr_eq]; rfl)

theorem wrap_nonneg_le {k : IntKind} {z : Int} (h0 : 0 ≤ z) (h1 : z ≤ kmax k) : k.wrap z = z := by
  obtain ⟨n, _, _, _, h3⟩ := kmax_pow k
  exact wrap_in ⟨Int.le_trans h3 h0, h1⟩

theorem ib_sem (op : BinOp) (t : TypeId) (k : IntKind) (a b : Int) (hs : op ≠ .shl) (hr : op ≠ .shr) : VSem w ((binOp op t (.int k a) (.int k b)).run P w) (ib op k a b) := by
  cases op
  case add =>
    have : (binOp .add t (.int k a) (.int k b)).run P w = .ok (.int k (k.wrap (a + b))) w := by simp [binOp, Op.intArith]
    rw [this]; exact ar_sem k (a + b)
  case sub =>
    have : (binOp .sub t (.int k a) (.int k b)).run P w = .ok (.int k (k.wrap (a - b))) w := by simp [binOp, Op.intArith]
    rw [this]; exact ar_sem k (a - b)
  case mul =>
    have : (binOp .mul t (.int k a) (.int k b)).run P w = .ok (.int k (k.wrap (a * b))) w := by simp [binOp, Op.intArith]
    rw [this]; exact ar_sem k (a * b)
  case quo =>
    rintro ⟨h0, h1, h2⟩
    refine VSem.val ?_
    have : ¬ b = 0 := by omega
    simp only [binOp, ne_eq, not_true, if_false, Op.intDiv, this, Sem.run_pure]
    rw [Int.tdiv_eq_ediv_of_nonneg h0, wrap_nonneg_le (Int.ediv_nonneg h0 (by omega)) (Int.le_trans (Int.ediv_le_self _ h0) h1)]
    rfl
  case rem =>
    rintro ⟨h0, h2⟩
    refine VSem.val ?_
    have : ¬ b = 0 := by omega
    simp only [binOp, ne_eq, not_true, if_false, Op.intDiv, this, Sem.run_pure]
    rw [Int.tmod_eq_emod_of_nonneg h0]
    rfl
  case and => exact fun h => VSem.val (by simp only [binOp, ne_eq, not_true, if_false]; exact and_run h)
  case or => exact fun h => VSem.val (by simp only [binOp, ne_eq, not_true, if_false]; exact or_run h)
  case xor => exact fun h => VSem.val (by simp only [binOp, ne_eq, not_true, if_false]; exact xor_run h)
  case andNot => exact fun h => VSem.val (by simp only [binOp, ne_eq, not_true, if_false]; exact andn_run h)
  case shl => exact absurd rfl hs
  case shr => exact absurd rfl hr
  all_goals exact VSem.val (by simp [binOp, Op.intCmp, den]; try rfl)

theorem mod_big (k : IntKind) (a : Int) (n : Nat) (h : k.bits ≤ n) : k.wrap (a * 2 ^ k.bits) = k.wrap (a * 2 ^ n) := by
  have e : ∀ m, k.bits ≤ m → a * 2 ^ m % (2 ^ k.bits : Int) = 0 := fun m hm => by
    obtain ⟨d, rfl⟩ : ∃ d, m = k.bits + d := ⟨m - k.bits, by omega⟩
    rw [Int.pow_add, Int.mul_comm (2 ^ k.bits) (2 ^ d), ← Int.mul_assoc]
    exact Int.mul_emod_left _ _
  simp only [IntKind.wrap, e n h, e k.bits (Nat.le_refl _)]

theorem sh_sem (op : BinOp) (t : TypeId) (k yk : IntKind) (a b : Int) (h : op = .shl ∨ op = .shr) : VSem w ((binOp op t (.int k a) (.int yk b)).run P w) (sh op k a b) := by
  rcases h with rfl | rfl
  · intro h0
    have hb : ¬ b < 0 := by omega
    have : (binOp .shl t (.int k a) (.int yk b)).run P w = .ok (.int k (k.wrap (a * 2 ^ b.toNat))) w := by
      simp only [binOp, Op.shift, hb, if_false, Sem.run_pure]
      by_cases hn : b.toNat ≤ k.bits
      · rw [Nat.min_eq_left hn]
      · rw [Nat.min_eq_right (by omega), mod_big k a b.toNat (by omega)]
    rw [this]
    exact ar_sem k _
  · rintro ⟨h0, h1, h2⟩
    have hb : ¬ b < 0 := by omega
    refine VSem.val ?_
    simp only [binOp, Op.shift, hb, if_false, Sem.run_pure]
    have e : a.fdiv (2 ^ min b.toNat k.bits) = a / 2 ^ b.toNat := by
      rw [Int.fdiv_eq_ediv_of_nonneg _ (Int.pow_nonneg (by omega))]
      by_cases hn : b.toNat ≤ k.bits
      · rw [Nat.min_eq_left hn]
      · rw [Nat.min_eq_right (by omega)]
        have hlt := kmax_lt k h2
        have hle : (2 : Int) ^ k.bits ≤ 2 ^ b.toNat := by
          have := Nat.pow_le_pow_right (n := 2) (by omega) (show k.bits ≤ b.toNat by omega)
          exact_mod_cast this
        rw [Int.ediv_eq_zero_of_lt h1 hlt, Int.ediv_eq_zero_of_lt h1 (by omega)]
    rw [e]
    rfl

end
end Go.Dx
