/- The sort. -/
import Derived.Test.YtmjgfoeonnbkpaaDyL16
import Derived.Test.YtmjgfoeonnbkpaaDyLSP
import Derived.Shelf.SlSortCmp.NoneTotal
set_option linter.unusedSimpArgs false
set_option linter.unusedVariables false
set_option linter.unusedSectionVars false
set_option maxRecDepth 100000
set_option maxHeartbeats 1000000
namespace Go.Proofs
open Go.Dx Go.RowKit Go.Sort Go.Shelf

theorem cmp_lays (b n : Nat) (w : World) : CmpLays Try.prog 23 #[] encP 9 cmpPl b 0 n w := fun m os dk _ x y =>
  (compare_C (sortWorldK encP 9 w b 0 m dk os) x y).mono fun e w' ⟨h1, h2⟩ => ⟨h1, grow_of_bel h2⟩

theorem sort_nil (w : World) : Calls Try.prog 33 #[.slice none 0 0, den (.f 23 [])] w fun e w' => e = .returned (.tuple #[]) ∧ Bel w.heap.size w w' :=
  (AnyF.slices_SortFunc_none Try.sortPl none 0 (den (.f 23 [])) w).mono fun e w' ⟨h1, h2⟩ => ⟨h1, by rw [h2]; exact Bel.refl _ _⟩

theorem sortC : SortC := by
  refine ⟨sort_nil, fun w b c xs j hx hn hm => ?_⟩
  have hg : w.heap[b]? = some (denO (.a (rows Pl.f xs ++ j) 29)) := hm.get _ List.mem_cons_self
  have hb : b < w.heap.size := (Array.getElem?_eq_some_iff.1 hg).1
  have := AnyQ.slices_SortFunc Try.sortPl 9 Try.isAgg29 Try.sizeOf29 encP encP_len encP_one cmpPl swoP 23 #[] b 0 c xs.toArray w (enters_of Try.func23 (by kernel_rfl) rfl) (cmp_lays b _ w) (holds_rows hg) hb (by simp; omega)
  refine Calls.mono this ?_
  rintro e w' ⟨rfl, d', n, os, h1, h2, rfl⟩
  have hs : d'.size = xs.length := by simpa using h1.1
  refine ⟨d'.toList, rfl, ?_, ?_, mem_sorted hm d' hs n os⟩
  · have h3 := h1.2.2
    have e1 : d'.extract 0 xs.toArray.size = d' := by rw [show xs.toArray.size = d'.size by simp [hs]]; simp
    have e2 : xs.toArray.extract 0 xs.toArray.size = xs.toArray := by simp
    rw [e1, e2] at h3
    exact h3
  · intro i k x y hik hxi hyk hlt
    have hi := rows_lt hxi
    have hk := rows_lt hyk
    have h3 := h2 i k (Nat.zero_le _) hik (by simp at hk ⊢; omega)
    have e1 : d'[i]! = x := by
      rw [getElem!_pos d' i (by simpa using hi)]
      have := (List.getElem?_eq_some_iff.1 hxi).2
      simpa using this
    have e2 : d'[k]! = y := by
      rw [getElem!_pos d' k (by simpa using hk)]
      have := (List.getElem?_eq_some_iff.1 hyk).2
      simpa using this
    rw [e1, e2] at h3
    have h4 := (ltOf_iff y x).2 hlt
    rw [h3] at h4
    cases h4

end Go.Proofs
