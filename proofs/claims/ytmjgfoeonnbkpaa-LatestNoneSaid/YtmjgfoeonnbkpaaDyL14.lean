/- The sort of places: what the library's contract wants and hands back, in this theory's words. -/
import Derived.Test.YtmjgfoeonnbkpaaDyL13
import Derived.Shelf.SlSortCmp.InsertionK
set_option linter.unusedSimpArgs false
set_option linter.unusedVariables false
set_option linter.unusedSectionVars false
set_option maxRecDepth 100000
set_option maxHeartbeats 1000000
namespace Go.Proofs
open Go.Dx Go.RowKit Go.Sort

instance : Inhabited Pl := ⟨Pl.zero⟩

theorem grow_of_bel {w w' : World} (h : Bel w.heap.size w w') : ∃ q os', w' = grow (w.drewN q) os' := by
  refine ⟨w'.drawn - w.drawn, w'.heap.extract w.heap.size w'.heap.size, ?_⟩
  have h1 : w'.heap = w.heap ++ w'.heap.extract w.heap.size w'.heap.size := by
    apply Array.ext_getElem?
    intro i
    rw [Array.getElem?_append]
    split
    · rename_i hi
      exact h.block i hi
    · rename_i hi
      rw [Array.getElem?_extract]
      have := h.size
      split
      · congr 1
        omega
      · rw [Array.getElem?_eq_none (by omega)]
  have h2 := h.output.1
  have h3 := h.output.2
  have h4 := h.os
  have h5 := h.tape
  obtain ⟨hp, tp, dr, os, out⟩ := w'
  simp only at h1 h2 h3 h4 h5 ⊢
  show (⟨hp, tp, dr, os, out⟩ : World) = ⟨w.heap ++ _, w.tape, w.drawn + (dr - w.drawn), w.os, w.output⟩
  rw [← h1, h2, h4, h5]
  congr 1
  omega

/-- A place's cells. -/
def encP (p : Pl) : List Value := denL p.f
theorem encP_len (p : Pl) : (encP p).length = 9 := rfl
theorem encP_one (p : Pl) : ∀ v ∈ encP p, v.oneCell' = true := by
  intro v hv
  simp only [encP, Pl.f, denL, den, List.mem_cons, List.not_mem_nil, or_false] at hv
  rcases hv with rfl | rfl | rfl | rfl | rfl | rfl | rfl | rfl | rfl <;> rfl

theorem rows_get (l : List Pl) : ∀ (t : Nat), t < l.length * 9 → (rows Pl.f l)[t]? = ((l.getD (t / 9) Pl.zero).f)[t % 9]? := by
  intro t ht
  have hi : t / 9 < l.length := by omega
  have h1 := rows_ldN Pl.len l [] (t / 9) _ (getD_some hi)
  rw [← h1, ldN_eq, List.append_nil, List.getElem?_take_of_lt (by omega), List.getElem?_drop]
  congr 1
  omega

theorem flat_rows (d : Array Pl) : flatK encP 9 d = (denL (rows Pl.f d.toList)).toArray := by
  refine ext_get! ?_ fun t ht => ?_
  · rw [size_flatK]; simp [rows_length Pl.len]
  · rw [size_flatK] at ht
    rw [get_flatK _ _ _ _ ht]
    have hg := rows_get d.toList t (by simpa using ht)
    have hi : t / 9 < d.size := by omega
    have e1 : d[t / 9]! = d.toList.getD (t / 9) Pl.zero := by
      rw [getElem!_pos d _ hi]
      simp [List.getD, hi]
    rw [e1]
    have h9 : t % 9 < 9 := by omega
    have hl : t < (rows Pl.f d.toList).length := by rw [rows_length Pl.len]; simpa using ht
    have e2 : (denL (rows Pl.f d.toList))[t]? = (encP (d.toList.getD (t / 9) Pl.zero))[t % 9]? := by
      rw [denL_get, hg, encP, denL_get]
    have e3 : t < (denL (rows Pl.f d.toList)).length := by simpa using hl
    have e4 : t % 9 < (encP (d.toList.getD (t / 9) Pl.zero)).length := by rw [encP_len]; exact h9
    rw [List.getElem?_eq_getElem e3, List.getElem?_eq_getElem e4] at e2
    simp only [Option.some.injEq] at e2
    rw [getElem!_pos (encP (d.toList.getD (t / 9) Pl.zero)) _ e4, getElem!_pos (denL (rows Pl.f d.toList)).toArray t (by simpa using hl)]
    simpa using e2.symm

theorem holds_rows {w : World} {b : Nat} {xs : List Pl} {j : List SV} (h : w.heap[b]? = some (denO (.a (rows Pl.f xs ++ j) 29))) : HoldsK encP 9 w b 0 xs.toArray := by
  intro t ht
  rw [size_flatK] at ht
  have ht' : t < xs.length * 9 := by simpa using ht
  have h1 : w.heap[b]? = some (.cells (denL (rows Pl.f xs ++ j)).toArray 29) := h
  rw [flat_rows]
  have hl : t < (denL (rows Pl.f xs)).length := by simpa [rows_length Pl.len] using ht'
  constructor
  · simp only [World.cell?, Nat.zero_add, h1, Option.isSome_none, Bool.false_eq_true, if_false, id]
    rw [getElem!_pos _ _ (by simpa using hl), denL_append]
    simp [List.getElem?_append_left hl, hl]
  · simp only [World.frozen?, h1]
    simp

theorem putCells_app (F A J : List Value) (h : F.length = A.length) : putCells id 0 F.toArray (A ++ J).toArray = (F ++ J).toArray := by
  apply Array.ext_getElem?
  intro t
  simp only [putCells, Array.getElem?_mapIdx, List.getElem?_toArray, List.size_toArray, Nat.zero_le, true_and, Nat.zero_add, Nat.sub_zero, id]
  by_cases ht : t < F.length
  · rw [List.getElem?_append_left (by omega), List.getElem?_append_left ht, List.getElem?_eq_getElem (by omega), List.getElem?_eq_getElem ht]
    simp only [Option.map_some, if_pos ht]
    rw [getElem!_pos F.toArray t (by simpa using ht)]
    rfl
  · rw [List.getElem?_append_right (by omega), List.getElem?_append_right (by omega), h]
    cases hj : J[t - A.length]? with
    | none => rfl
    | some v => simp only [Option.map_some]; rw [if_neg (by omega)]

theorem mem_sorted {w : World} {b : Nat} {xs : List Pl} {j : List SV} (hm : Mem w [b] [⟨101, b, true, .a (rows Pl.f xs ++ j) 29⟩] w) (d' : Array Pl) (hs : d'.size = xs.length) (n : Nat) (os : Array Obj) :
    Mem w [b] [⟨101, b, true, .a (rows Pl.f d'.toList ++ j) 29⟩] (sortWorldK encP 9 w b 0 n d' os) := by
  have hg : w.heap[b]? = some (.cells (denL (rows Pl.f xs ++ j)).toArray 29) := hm.get _ List.mem_cons_self
  have hb : b < w.heap.size := (Array.getElem?_eq_some_iff.1 hg).1
  have hheap : (sortWorldK encP 9 w b 0 n d' os).heap = (putRow id (Go.Sort.ahead w n) b 0 (flatK encP 9 d')).heap ++ os := rfl
  have hsz : (putRow id (Go.Sort.ahead w n) b 0 (flatK encP 9 d')).heap.size = w.heap.size := by simp [putRow, mapBlock, Go.Sort.ahead]
  have hcell : (sortWorldK encP 9 w b 0 n d' os).heap[b]? = some (denO (.a (rows Pl.f d'.toList ++ j) 29)) := by
    rw [hheap, Array.getElem?_append_left (by omega)]
    simp only [putRow, mapBlock, Go.Sort.ahead, Array.getElem?_modify, if_true, hg, Option.map_some, onCells, denO]
    congr 2
    rw [flat_rows]
    rw [denL_append, denL_append]
    exact putCells_app _ _ _ (by simp [rows_length Pl.len, hs])
  have hold : ∀ k, k < w.heap.size → k ≠ b → (sortWorldK encP 9 w b 0 n d' os).heap[k]? = w.heap[k]? := fun k hk hne => by
    rw [hheap, Array.getElem?_append_left (by omega)]
    simp only [putRow, mapBlock, Go.Sort.ahead, Array.getElem?_modify]
    rw [if_neg (Ne.symm hne)]
  refine ⟨rfl, rfl, ⟨rfl, Nat.le_add_right _ _⟩, ?_, ?_, ?_, ?_, List.pairwise_singleton _ _⟩
  · rw [hheap, Array.size_append]; omega
  · intro k hk hne
    exact hold k hk (by simpa using hne)
  · intro e he
    simp only [List.mem_singleton] at he
    subst he
    exact hcell
  · intro e he _
    simp only [List.mem_singleton] at he
    subst he
    exact Or.inr (by simp)

/-! ### The order -/

theorem cmpS_neg {a b : Int} : cmpS a b < 0 ↔ a < b := by unfold cmpS; split <;> (try split) <;> omega
theorem cmpS_zero {a b : Int} : cmpS a b = 0 ↔ a = b := by unfold cmpS; split <;> (try split) <;> omega

/-- One place stands ahead of another one. -/
def ltP (x y : Pl) : Prop := x.pg.se < y.pg.se ∨ (x.pg.se = y.pg.se ∧ (y.pg.sq < x.pg.sq ∨ (x.pg.sq = y.pg.sq ∧ (x.bl < y.bl ∨ (x.bl = y.bl ∧ x.pa < y.pa)))))

theorem cmpPl_neg (x y : Pl) : cmpPl x y < 0 ↔ ltP x y := by
  unfold cmpPl or4 ltP
  have h1 := @cmpS_neg x.pg.se y.pg.se
  have h2 := @cmpS_zero x.pg.se y.pg.se
  have h3 := @cmpS_neg y.pg.sq x.pg.sq
  have h4 := @cmpS_zero y.pg.sq x.pg.sq
  have h5 := @cmpS_neg x.bl y.bl
  have h6 := @cmpS_zero x.bl y.bl
  have h7 := @cmpS_neg x.pa y.pa
  split
  · omega
  · split
    · omega
    · split
      · omega
      · omega

theorem ltOf_iff (x y : Pl) : ltOf cmpPl x y = true ↔ ltP x y := by
  unfold ltOf
  rw [decide_eq_true_iff]
  exact cmpPl_neg x y

theorem swoP : SWO (ltOf cmpPl) := by
  refine ⟨fun x => ?_, fun x y z h1 h2 => ?_, fun x y z h1 h2 => ?_⟩
  · rw [← Bool.not_eq_true, ltOf_iff]; unfold ltP; omega
  · rw [ltOf_iff] at h1 h2 ⊢; unfold ltP at *; omega
  · rw [← Bool.not_eq_true, ltOf_iff] at h1 h2 ⊢; unfold ltP at *; omega

end Go.Proofs
