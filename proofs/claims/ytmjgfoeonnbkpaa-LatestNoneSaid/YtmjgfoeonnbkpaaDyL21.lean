/- Of blocks without a page that counts there is nothing: the law's walk. -/
import Derived.Test.YtmjgfoeonnbkpaaDyL20
import Derived.Test.YtmjgfoeonnbkpaaDyL18
set_option linter.unusedSimpArgs false
set_option linter.unusedVariables false
set_option linter.unusedSectionVars false
set_option maxRecDepth 100000
set_option maxHeartbeats 1000000
namespace Go.Proofs
open Go.Dx Go.RowKit

theorem goodK_mem {i : Nat} {b : Bk} {x : Pl} : ∀ k, x ∈ goodK i b k → x.bl = (i : Int) ∧ ∃ t, t < k ∧ b.ks.getD t 0 = 1
  | 0, h => by cases h
  | k + 1, h => by
    rw [goodK] at h
    rcases List.mem_append.1 h with h | h
    · obtain ⟨h1, t, h2, h3⟩ := goodK_mem k h
      exact ⟨h1, t, by omega, h3⟩
    · split at h
      · rename_i hk
        simp only [List.mem_singleton] at h
        subst h
        exact ⟨rfl, k, by omega, hk⟩
      · cases h

theorem goodS_mem {x : Pl} : ∀ (bs : List Bk) (i : Nat), x ∈ goodS i bs → ∃ t b, bs[t]? = some b ∧ x.bl = ((i + t : Nat) : Int) ∧ ∃ k, k < 8 ∧ b.ks.getD k 0 = 1
  | [], i, h => by cases h
  | b :: r, i, h => by
    rw [goodS] at h
    rcases List.mem_append.1 h with h | h
    · obtain ⟨h1, t, h2, h3⟩ := goodK_mem 8 h
      exact ⟨0, b, rfl, h1, t, h2, h3⟩
    · obtain ⟨t, b', h1, h2, h3⟩ := goodS_mem r (i + 1) h
      exact ⟨t + 1, b', h1, by rw [h2]; congr 1; omega, h3⟩

theorem needed_out {bs : List Bk} {k : Int} (h : k < 0 ∨ (bs.length : Int) ≤ k) : neededS bs k = [] := by
  unfold neededS
  rw [List.filter_eq_nil_iff]
  intro x hx
  obtain ⟨t, b, h1, h2, _⟩ := goodS_mem bs 0 hx
  have := rows_lt h1
  have hne : ¬ x.bl = k := by omega
  simp [nbS, hne]

/-- No page of a block counts. -/
def NoG (b : Bk) : Prop := ∀ t, t < 8 → b.ks.getD t 0 ≠ 1

theorem good_none {bs : List Bk} (h : ∀ (t : Nat) (b : Bk), bs[t]? = some b → NoG b) : goodS 0 bs = [] := by
  cases hg : goodS 0 bs with
  | nil => rfl
  | cons x l =>
    obtain ⟨t, b, h1, _, k, h3, h4⟩ := goodS_mem bs 0 (x := x) (by rw [hg]; exact List.mem_cons_self)
    exact absurd h4 (h t b h1 k h3)

theorem stN_in (l : List SV) (p s o : Nat) (ys : List SV) (h1 : p + s ≤ l.length) (h2 : o + ys.length ≤ s) : stN l (p + o) ys = stN l p (stN (ldN l p s) o ys) := by
  have hl : (ldN l p s).length = s := by rw [ldN_eq]; simp; omega
  have hs : (stN (ldN l p s) o ys).length = s := by rw [stN_eq _ _ _ (by omega)]; simp [hl]; omega
  rw [stN_eq l (p + o) ys (by omega), stN_eq l p _ (by omega), hs, stN_eq (ldN l p s) o ys (by omega), ldN_eq]
  apply List.ext_getElem?
  intro t
  have lt : (List.take (p + o) l).length = p + o := by simp; omega
  have lp : (List.take p l).length = p := by simp; omega
  by_cases c1 : t < p
  · rw [List.append_assoc, List.append_assoc, List.getElem?_append_left (by omega), List.getElem?_append_left (by omega), List.getElem?_take_of_lt (by omega), List.getElem?_take_of_lt c1]
  · rw [List.append_assoc (List.take p l), List.getElem?_append_right (l₁ := List.take p l) (by omega), lp]
    have l3 : (List.take o (List.take s (List.drop p l))).length = o := by simp; omega
    by_cases c2 : t < p + o
    · rw [List.append_assoc, List.getElem?_append_left (by omega), List.append_assoc, List.append_assoc, List.getElem?_append_left (by omega), List.getElem?_take_of_lt c2, List.getElem?_take_of_lt (by omega), List.getElem?_take_of_lt (by omega), List.getElem?_drop]
      congr 1
      omega
    · by_cases c3 : t < p + o + ys.length
      · rw [List.append_assoc, List.getElem?_append_right (by omega), lt, List.getElem?_append_left (by omega), List.append_assoc, List.append_assoc, List.getElem?_append_right (by omega), l3, List.getElem?_append_left (by omega)]
        congr 1
        omega
      · rw [List.append_assoc, List.getElem?_append_right (by omega), lt, List.getElem?_append_right (by omega), List.getElem?_drop, List.append_assoc, List.append_assoc, List.getElem?_append_right (by omega), l3, List.getElem?_append_right (by omega)]
        by_cases c4 : t < p + s
        · rw [List.getElem?_append_left (by simp; omega), List.getElem?_drop, List.getElem?_take_of_lt (by omega), List.getElem?_drop]
          congr 1
          omega
        · rw [List.getElem?_append_right (by simp; omega), List.getElem?_drop]
          congr 1
          simp
          omega

theorem stK_row (cs : List Bk) (j : List SV) (i k : Nat) (B : Bk) (hB : cs[i]? = some B) (hk : k < 8) (v : Int) : stN (rows Bk.f cs ++ j) (i * 66 + (2 + k)) [.v (.int .i64 v)] = rows Bk.f (cs.set i (B.setK k v)) ++ j := by
  have h1 := rows_ldN Bk.len cs j i B hB
  have h2 := rows_le Bk.len hB
  rw [stN_in _ (i * 66) 66 (2 + k) _ (by rw [List.length_append]; omega) (by simp; omega), h1, Bk.stK _ _ hk, rows_stN Bk.len _ _ _ (rows_lt hB)]

theorem ldK_row (cs : List Bk) (j : List SV) (i k : Nat) (B : Bk) (hB : cs[i]? = some B) (hk : k < 8) : ld1 (rows Bk.f cs ++ j) (i * 66 + (2 + k)) = .v (.int .i64 (B.ks.getD k 0)) := by
  have h1 := rows_ldN Bk.len cs j i B hB
  rw [ld1_of_ldN h1 (by omega)]
  have h3 := ld1_of_ldN (B.ldKs) hk
  rw [h3, nums_getD (by rw [B.hk]; exact hk)]

end Go.Proofs
