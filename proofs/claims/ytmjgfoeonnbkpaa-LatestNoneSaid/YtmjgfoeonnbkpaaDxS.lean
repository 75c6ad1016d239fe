/- From a law's contract to its statement: what the arguments are, and that they read as they did. -/
import Derived.Test.YtmjgfoeonnbkpaaDxR
import Derived.ProofKit
import Derived.Carry
import Derived.Lib.SmallJoins
namespace Go.Dx
open Go.RowKit Go.ChangeShapes Go.WideShapes Go.ChangeAt

theorem denL_v (l : List Value) : denL (l.map SV.v) = l := by
  rw [denL_map, List.map_map]
  have : den ∘ SV.v = id := rfl
  simp [this]

section
variable {H : Type} {enc : TypeId × Value → H} {P : Program}

theorem trodAll_keep (hl : laidOutB P = true) {W W' : World} (hb : Below W.heap.size W W') : ∀ {ts : List TypeId} {vs : List Value} {ds : List (DataW H)} {ps : List MemPlace},
    (∀ t ∈ ts, P.readableRec t = true ∧ t < P.types.size) → DataW.TrodAll enc P W 0 (fun _ => true) true ts vs ds ps → (∀ x ∈ ps, x.block < W.heap.size) →
    DataW.TrodAll enc P W' 0 (fun b => decide (b < W.heap.size)) true ts vs ds ps
  | [], [], [], _, _, h, _ => h
  | t :: ts, v :: vs, d :: ds, ps, ht, ⟨p, q, h1, h2, h3⟩, hlt =>
    ⟨p, q, Below.trod hl (ht t List.mem_cons_self).1 (ht t List.mem_cons_self).2 h1 hb (fun x hx => hlt x (by rw [h3]; exact List.mem_append_left _ hx)),
      trodAll_keep hl hb (fun t ht' => ht t (List.mem_cons_of_mem _ ht')) h2 (fun x hx => hlt x (by rw [h3]; exact List.mem_append_right _ hx)), h3⟩

/-- **A law's end**: it hands back true, and nothing that lay has turned. -/
theorem post_true {f : Func} {s : ChangeSpec} {apart : Bool} {W W' : World} {args : Array Value} {ds : List (DataW H)} {before : List MemPlace} {tb : TypeId}
    (hl : laidOutB P = true) (hts : ∀ t ∈ f.params.toList, P.readableRec t = true ∧ t < P.types.size) (hr : f.resultTypes.toList = [tb]) (hr2 : f.resultTypes.size = 1) (htb : P.underlying tb = some .bool) (hvars : s.vars = [])
    (hfn : s.fn H (ds ++ []) = { results := [.lit (.bool true)], args := ds }) (hW : DataW.Whole enc P f.params.toList s.vars apart W args.toList ds [] before) (hb : Below W.heap.size W W') :
    s.post enc P f apart true false false W args (.bool true) W' := by
  have hlt := hW.lt
  have hW' := hW
  obtain ⟨p, q, h1, h2, h3, h4, h5⟩ := hW
  rw [hvars] at h2
  have hq : q = [] := h2
  subst hq
  refine ⟨ds, [], before, [], p, [], hW', ?_, ?_, ?_, ?_, fun h => nomatch h⟩
  · rw [hfn, hr, hr2]
    exact ⟨[], [], shut_bool htb true, rfl, rfl⟩
  · rw [hfn]
    exact trodAll_keep hl hb hts h1 (fun x hx => hlt x (by rw [h3]; simpa using hx))
  · rw [hfn, hvars]
    rfl
  · exact hb.frame _

/-! ### Arguments -/

/-- A slice that came in. -/
theorem slice_arg {W : World} {base : Nat} {t e : TypeId} {v : Value} (ht : P.underlying t = some (.slice e)) (h : Cell.okWide P W .any base t v) :
    v = .slice none 0 0 ∨ ∃ b o n c cur T fz, v = .slice (some ⟨b, o, none⟩) n c ∧ n ≤ c ∧ (c : Int) ≤ 9223372036854775807 ∧ W.heap[b]? = some (.cells cur T fz) := by
  simp only [Cell.okWide, ht] at h
  cases v with
  | slice a n c =>
    cases a with
    | none =>
      cases n <;> cases c <;> simp_all [Cell.ok]
    | some a =>
      right
      simp only [Cell.ok, ht] at h
      obtain ⟨h1, h2, _, h3, row, cells, h4, _⟩ := h
      obtain ⟨b, o, sp⟩ := a
      simp only at h3
      subst h3
      simp only [World.shape?] at h4
      split at h4
      · rename_i cur T fz hg
        exact ⟨b, o, n, c, cur, T, fz, rfl, h1, Int.le_trans h2 (by decide), hg⟩
      · cases h4
  | _ => simp_all [Cell.ok]

/-- The cells that a reading met, in the block as it stands. -/
theorem seg_of {W : World} {b o : Nat} {cur : Array Value} {T : TypeId} {fz : Nat × Nat} {k : IntKind} {xs : List Int} (hg : W.heap[b]? = some (.cells cur T fz))
    (h : ∀ i, i < xs.length → W.cell? ((⟨b, o, none⟩ : Addr).add i) = some (.int k (xs.getD i 0))) : Seg (cur.toList.map SV.v) o k xs := by
  intro i hi
  have := h i hi
  rw [add_none] at this
  simp only [World.cell?, hg] at this
  simp only [Option.isSome_none, Bool.false_eq_true, if_false] at this
  simp [this]

theorem den_z {W : World} {b : Nat} {cur : Array Value} {T : TypeId} {fz : Nat × Nat} (hg : W.heap[b]? = some (.cells cur T fz)) : W.heap[b]? = some (denO (.z (cur.toList.map SV.v) T fz)) := by
  rw [hg]
  simp [denO, denL_v]

end
end Go.Dx
