/- Rows of records of one width. -/
import Derived.Test.YtmjgfoeonnbkpaaDxW
namespace Go.Dx
open Go.RowKit

section
variable {α : Type} {f : α → List SV} {s : Nat}

def rows (f : α → List SV) (l : List α) : List SV := l.flatMap f

theorem rows_nil : rows f [] = [] := rfl
theorem rows_cons (a : α) (l : List α) : rows f (a :: l) = f a ++ rows f l := rfl
theorem rows_append (l r : List α) : rows f (l ++ r) = rows f l ++ rows f r := by simp [rows]
theorem rows_one (a : α) : rows f [a] = f a := by simp [rows]

theorem rows_length (hf : ∀ a, (f a).length = s) (l : List α) : (rows f l).length = l.length * s := by
  induction l with
  | nil => simp [rows]
  | cons a l ih => rw [rows_cons, List.length_append, ih, hf]; simp [Nat.add_mul]; omega

theorem allOne_rows (h1 : ∀ a, allOne (f a) = true) (l : List α) : allOne (rows f l) = true := by
  induction l with
  | nil => rfl
  | cons a l ih => rw [rows_cons, allOne_append, h1, ih]; rfl

theorem allK_append' (l r : List SV) : allK (l ++ r) = (allK l && allK r) := allK_append l r

/-- From place o on there stand these. -/
def SegR (l : List SV) (o : Nat) (f : α → List SV) (s : Nat) (xs : List α) : Prop := ∀ i x, xs[i]? = some x → o + i * s + s ≤ l.length ∧ ldN l (o + i * s) s = f x

theorem rows_ldN (hf : ∀ a, (f a).length = s) (l : List α) (j : List SV) (i : Nat) (x : α) (h : l[i]? = some x) : ldN (rows f l ++ j) (i * s) s = f x := by
  induction l generalizing i with
  | nil => simp at h
  | cons a l ih =>
    cases i with
    | zero =>
      simp only [List.getElem?_cons_zero, Option.some.injEq] at h
      subst h
      rw [ldN_eq, rows_cons, List.append_assoc, Nat.zero_mul, List.drop_zero, List.take_left' (hf _)]
    | succ i =>
      simp only [List.getElem?_cons_succ] at h
      rw [← ih i h, ldN_eq, ldN_eq, rows_cons, List.append_assoc]
      congr 1
      rw [show (i + 1) * s = (f a).length + i * s by rw [hf, Nat.add_mul]; omega, List.drop_append]
      simp

theorem rows_lt {l : List α} {i : Nat} {x : α} (h : l[i]? = some x) : i < l.length := (List.getElem?_eq_some_iff.1 h).1

theorem rows_le (hf : ∀ a, (f a).length = s) {l : List α} {i : Nat} {x : α} (h : l[i]? = some x) : i * s + s ≤ (rows f l).length := by
  have := rows_lt h
  rw [rows_length hf, ← Nat.succ_mul]
  exact Nat.mul_le_mul_right _ this

theorem SegR.own (hf : ∀ a, (f a).length = s) (l : List α) (j : List SV) : SegR (rows f l ++ j) 0 f s l := by
  intro i x h
  rw [Nat.zero_add]
  refine ⟨?_, rows_ldN hf l j i x h⟩
  have := rows_le hf h
  rw [List.length_append]
  omega

theorem ld1_of_ldN {l : List SV} {o n k : Nat} {xs : List SV} (h : ldN l o n = xs) (hk : k < n) : ld1 l (o + k) = ld1 xs k := by
  rw [ld1_eq, ld1_eq, ← h, ldN_eq, List.getElem?_take_of_lt hk, List.getElem?_drop]

theorem ldN_of_ldN {l : List SV} {o n k m : Nat} {xs : List SV} (h : ldN l o n = xs) (hk : k + m ≤ n) : ldN l (o + k) m = ldN xs k m := by
  rw [ldN_eq, ldN_eq, ← h, ldN_eq]
  apply List.ext_getElem?
  intro t
  by_cases ht : t < m
  · rw [List.getElem?_take_of_lt ht, List.getElem?_take_of_lt ht, List.getElem?_drop, List.getElem?_drop, List.getElem?_take_of_lt (by omega), List.getElem?_drop, Nat.add_assoc]
  · rw [List.getElem?_eq_none (by simp; omega), List.getElem?_eq_none (by simp; omega)]

theorem SegR.ldN {l : List SV} {o : Nat} {xs : List α} (h : SegR l o f s xs) {i : Nat} {x : α} (hx : xs[i]? = some x) : ldN l (o + i * s) s = f x := (h i x hx).2
theorem SegR.le {l : List SV} {o : Nat} {xs : List α} (h : SegR l o f s xs) {i : Nat} {x : α} (hx : xs[i]? = some x) : o + i * s + s ≤ l.length := (h i x hx).1
theorem SegR.ld1 {l : List SV} {o : Nat} {xs : List α} (h : SegR l o f s xs) {i : Nat} {x : α} (hx : xs[i]? = some x) {k : Nat} (hk : k < s) : ld1 l (o + i * s + k) = ld1 (f x) k := ld1_of_ldN (h.ldN hx) hk

theorem rows_hdN (hf : ∀ a, (f a).length = s) (l : List α) (j : List SV) (n : Nat) (hn : n = l.length * s) : hdN (rows f l ++ j) n = rows f l := by
  rw [hdN_eq, hn, List.take_left' (rows_length hf l)]

theorem rows_stN (hf : ∀ a, (f a).length = s) (l : List α) (j : List SV) (i : Nat) (hi : i < l.length) (x : α) : stN (rows f l ++ j) (i * s) (f x) = rows f (l.set i x) ++ j := by
  have hlen := rows_length hf l
  have hle : i * s + s ≤ l.length * s := by rw [← Nat.succ_mul]; exact Nat.mul_le_mul_right _ hi
  rw [stN_eq _ _ _ (by rw [hf, List.length_append, hlen]; omega), hf]
  have hsplit : l = l.take i ++ l[i] :: l.drop (i + 1) := by simp
  have hti : (l.take i).length = i := by simp; omega
  have e1 : rows f l = rows f (l.take i) ++ (f l[i] ++ rows f (l.drop (i + 1))) := by
    conv => lhs; rw [hsplit]
    rw [rows_append, rows_cons]
  have e2 : l.set i x = l.take i ++ x :: l.drop (i + 1) := by rw [List.set_eq_take_append_cons_drop]; simp [hi]
  have l1 : (rows f (l.take i)).length = i * s := by rw [rows_length hf, hti]
  rw [e2, rows_append, rows_cons, e1]
  have a1 : rows f (l.take i) ++ (f l[i] ++ rows f (l.drop (i + 1))) ++ j = rows f (l.take i) ++ (f l[i] ++ (rows f (l.drop (i + 1)) ++ j)) := by simp
  have a2 : (rows f (l.take i)) ++ (f l[i] ++ (rows f (l.drop (i + 1)) ++ j)) = ((rows f (l.take i)) ++ f l[i]) ++ (rows f (l.drop (i + 1)) ++ j) := by simp
  have l2 : (rows f (l.take i) ++ f l[i]).length = i * s + s := by rw [List.length_append, l1, hf]
  rw [a1, List.take_left' l1, a2, List.drop_left' l2]
  simp

end

section
variable {P : Program} {E : Env}

/-- A loop whose first round begins otherwise. -/
theorem CodeC.loop1 {c : Code} {k : List Fr} {S : St} {γ : Type} (inv : γ → St) (μ : γ → Nat) (M : Nat) (N : Nat)
    (h0 : ex P E N (.C c (.l (fun S' => ∃ g', Sub (inv g') S' ∧ μ g' < M) :: k) S))
    (h : ∀ g, ex P E N (.C c (.l (fun S' => ∃ g', Sub (inv g') S' ∧ μ g' < μ g) :: k) (inv g))) : CodeC P E (.loop c) k S := by
  intro a w hok
  refine wpIn_loop_g (fun (g : Option γ) a w => match g with | none => Ok E S a w | some g => Ok E (inv g) a w) (fun g => match g with | none => M | some g => μ g) none hok ?_
  intro g a w hg
  cases g with
  | none =>
    refine wpIn_mono (ex_sem N _ h0 a w hg) ?_
    intro e a' w' hq
    cases e with
    | normal =>
      obtain ⟨S', hok', g', hs, hlt⟩ := hq
      exact ⟨some g', hok'.sub hs, hlt⟩
    | _ => exact hq
  | some g =>
    refine wpIn_mono (ex_sem N _ (h g) a w hg) ?_
    intro e a' w' hq
    cases e with
    | normal =>
      obtain ⟨S', hok', g', hs, hlt⟩ := hq
      exact ⟨some g', hok'.sub hs, hlt⟩
    | _ => exact hq

end
end Go.Dx
