/- What any places have of any sector is the document's: 'dioptralaw07.LatestFinds' returns true for every input, and its arguments read behind the call as before. No condition. -/
import Derived.Test.YtmjgfoeonnbkpaaDyL17
import Derived.Test.YtmjgfoeonnbkpaaDyL18
import Derived.Deep.Strs
import Derived.Lib.SmallJoins
import Derived.Laws.IdiomArrays
import Derived.Test.YtmjgfoeonnbkpaaRows
set_option linter.unusedSimpArgs false
set_option linter.unusedVariables false
set_option maxRecDepth 100000
namespace Go.Proofs.Ytmjgfoeonnbkpaa
open Go.Dx Go.ChangeShapes Go.WideShapes Go.ChangeAt Go.RowKit

theorem Try.own : ownKnob Try.prog.godebug = none := by kernel_rfl
theorem Try.laidOut : laidOutB Try.prog = true := by kernel_rfl
theorem Try.cells36 : Try.prog.cellsOf 36 = 9 := by kernel_rfl
theorem Try.cells34 : Try.prog.cellsOf 34 = 7 := by kernel_rfl
theorem Try.cells25 : Try.prog.cellsOf 25 = 4 := by kernel_rfl
theorem Try.cells23 : Try.prog.cellsOf 23 = 1 := by kernel_rfl
theorem Try.cells3 : Try.prog.cellsOf 3 = 1 := by kernel_rfl
theorem Try.cells4 : Try.prog.cellsOf 4 = 1 := by kernel_rfl

theorem one_of {cs : List Value} {n k : Nat} {v : Value} (h : (cs.drop k).take 1 = [v]) : cs[k]? = some v := by
  have : ((cs.drop k).take 1)[0]? = some v := by rw [h]; rfl
  simpa using this

theorem take_get {cs l : List Value} {k n : Nat} (h : (cs.drop k).take n = l) {t : Nat} {v : Value} (hv : l[t]? = some v) (ht : t < n) : cs[k + t]? = some v := by
  rw [← h, List.getElem?_take_of_lt ht, List.getElem?_drop] at hv
  exact hv

/-- A page that came in. -/
theorem pg_of {H : Type} {enc : TypeId × Value → H} {W : World} {fuel : Nat} {cs : List Value} {x : DataW H × List MemPlace} (h : DataW.trod enc Try.prog W 0 (fun _ => true) true fuel 34 cs = some x) : ∃ p : Pg, cs = denL p.f := by
  obtain ⟨y0, y1, y2, y3, m, _, hl, t0, t1, t2, t3⟩ := Go.Joins.trod_struct4 Try.underlying34 h
  rw [Try.cells34] at hl
  simp only [Try.cells23, Try.cells4, Try.cells25] at t0 t1 t2 t3
  obtain ⟨n0, q0, _, _⟩ := DataW.trod_int Try.underlying23 t0
  obtain ⟨n1, q1, _, _⟩ := DataW.trod_int Try.underlying23 t1
  obtain ⟨b2, q2, _⟩ := DataW.trod_bool Try.underlying4 t2
  match cs, hl with
  | [c0, c1, c2, c3, c4, c5, c6], _ =>
    simp at q0 q1 q2 t3
    obtain ⟨z0, z1, z2, z3, m', _, u0, u1, u2, u3⟩ := trod_array4 Try.underlying25 Try.cells23 t3
    obtain ⟨d0, r0, _, _⟩ := DataW.trod_int Try.underlying23 u0
    obtain ⟨d1, r1, _, _⟩ := DataW.trod_int Try.underlying23 u1
    obtain ⟨d2, r2, _, _⟩ := DataW.trod_int Try.underlying23 u2
    obtain ⟨d3, r3, _, _⟩ := DataW.trod_int Try.underlying23 u3
    simp at r0 r1 r2 r3
    exact ⟨⟨n0, n1, b2, d0, d1, d2, d3⟩, by simp [Pg.f, denL, den, q0, q1, q2, r0, r1, r2, r3]⟩

/-- A place that came in. -/
theorem pl_of {H : Type} {enc : TypeId × Value → H} {W : World} {fuel : Nat} {cs : List Value} {x : DataW H × List MemPlace} (h : DataW.trod enc Try.prog W 0 (fun _ => true) true fuel 36 cs = some x) : ∃ p : Pl, cs = denL p.f := by
  obtain ⟨y0, y1, y2, m, _, hl, t0, t1, t2⟩ := Go.Deep.trod_struct3 Try.underlying36 h
  rw [Try.cells36] at hl
  simp only [Try.cells3, Try.cells34] at t0 t1 t2
  obtain ⟨n0, q0, _, _⟩ := DataW.trod_int Try.underlying3 t0
  obtain ⟨n1, q1, _, _⟩ := DataW.trod_int Try.underlying3 t1
  obtain ⟨p, hp⟩ := pg_of t2
  match cs, hl with
  | [c0, c1, c2, c3, c4, c5, c6, c7, c8], _ =>
    simp at q0 q1
    simp [Pg.f, denL, den] at hp
    obtain ⟨r0, r1, r2, r3, r4, r5, r6⟩ := hp
    exact ⟨⟨n0, n1, p⟩, by simp [Pl.f, denL, den, q0, q1, r0, r1, r2, r3, r4, r5, r6]⟩

/-- A row of places that came in. -/
theorem places_arg {H : Type} {enc : TypeId × Value → H} {W : World} {base fuel : Nat} {v : Value} {x : DataW H × List MemPlace} (hv : Cell.okWide Try.prog W .any base 22 v) (h : DataW.trod enc Try.prog W 0 (fun _ => true) true fuel 22 [v] = some x) :
    v = .slice none 0 0 ∨ ∃ (b o c : Nat) (l : List SV) (T : Nat) (fz : Nat × Nat) (xs : List Pl), v = den (.s 101 b o xs.length c) ∧ (xs.length : Int) ≤ 9223372036854775807 ∧ W.heap[b]? = some (denO (.z l T fz)) ∧ SegR l o Pl.f 9 xs := by
  rcases slice_arg Try.underlying22 hv with h0 | ⟨b, o, n, c, cur, T, fz, rfl, hnc, hc, hg⟩
  · exact Or.inl h0
  right
  rcases DataW.trod_slice Try.underlying22 h with ⟨hcs, _⟩ | ⟨a, len, cap, elems, rest, m, _, hcs, _, _, hl, hm, hlen, hel, _, _⟩
  · cases hcs
  simp only [List.cons.injEq, and_true, Value.slice.injEq, Option.some.injEq] at hcs
  obtain ⟨rfl, rfl, rfl⟩ := hcs
  rw [Try.cells36] at hel
  have each : ∀ i, i < n → ∃ p : Pl, ∀ k v, (denL p.f)[k]? = some v → cur[o + i * 9 + k]? = some v := by
    intro i hi
    have h1 := hel i hi
    rw [List.getElem?_eq_getElem (by omega), Option.bind_eq_some_iff] at h1
    obtain ⟨cs, hcs, hy⟩ := h1
    obtain ⟨_, hcl, hcc⟩ := World.cells?_some hcs
    obtain ⟨p, rfl⟩ := pl_of hy
    refine ⟨p, fun k v hk => ?_⟩
    have hk9 : k < 9 := by
      rcases Nat.lt_or_ge k 9 with h' | h'
      · exact h'
      · rw [List.getElem?_eq_none (by simpa [Pl.f, denL] using h')] at hk; cases hk
    have h2 := hcc k hk9
    rw [hk, add_none, add_none] at h2
    simpa [World.cell?, hg] using h2
  have pick : ∃ xs : List Pl, xs.length = n ∧ ∀ (i : Nat) (p : Pl), xs[i]? = some p → ∀ k v, (denL p.f)[k]? = some v → cur[o + i * 9 + k]? = some v := by
    have key : ∀ m, m ≤ n → ∃ xs : List Pl, xs.length = m ∧ ∀ (i : Nat) (p : Pl), xs[i]? = some p → ∀ k v, (denL p.f)[k]? = some v → cur[o + i * 9 + k]? = some v := by
      intro m
      induction m with
      | zero => exact fun _ => ⟨[], rfl, fun i p hp => by simp at hp⟩
      | succ m ih =>
        intro hm
        obtain ⟨xs, ha, hp⟩ := ih (by omega)
        obtain ⟨t, hq⟩ := each m (by omega)
        refine ⟨xs ++ [t], by simp [ha], fun i p hip => ?_⟩
        by_cases him : i < xs.length
        · rw [List.getElem?_append_left him] at hip
          exact hp i p hip
        · rw [List.getElem?_append_right (by omega)] at hip
          have h0 : i - xs.length = 0 := by
            rcases Nat.eq_zero_or_pos (i - xs.length) with h | h
            · exact h
            · rw [List.getElem?_eq_none (by simp; omega)] at hip; cases hip
          rw [h0] at hip
          simp only [List.getElem?_cons_zero, Option.some.injEq] at hip
          subst hip
          have : i = m := by omega
          subst this
          exact hq
    exact key n (Nat.le_refl _)
  obtain ⟨xs, rfl, hp⟩ := pick
  refine ⟨b, o, c, cur.toList.map SV.v, T, fz, xs, rfl, by omega, den_z hg, ?_⟩
  intro i p hip
  have q := hp i p hip
  have q8 := q 8 _ rfl
  have hlt := (Array.getElem?_eq_some_iff.1 q8).1
  refine ⟨by simp; omega, ?_⟩
  rw [ldN_eq]
  apply List.ext_getElem?
  intro t
  by_cases ht : t < 9
  · rw [List.getElem?_take_of_lt ht, List.getElem?_drop]
    have e1 : (denL p.f)[t]? = some (den (p.f[t]'(by rw [p.len]; exact ht))) := by rw [denL_get, List.getElem?_eq_getElem (by rw [p.len]; exact ht)]; rfl
    have e2 := q t _ e1
    rw [List.getElem?_map]
    have e3 : cur.toList[o + i * 9 + t]? = some (den (p.f[t]'(by rw [p.len]; exact ht))) := by simpa using e2
    rw [e3, List.getElem?_eq_getElem (by rw [p.len]; exact ht)]
    simp only [Option.map_some, Option.some.injEq]
    have : ∀ y ∈ p.f, SV.v (den y) = y := by
      intro y hy
      simp only [Pl.f, List.mem_cons, List.not_mem_nil, or_false] at hy
      rcases hy with rfl | rfl | rfl | rfl | rfl | rfl | rfl | rfl | rfl <;> rfl
    exact this _ (List.getElem_mem _)
  · rw [List.getElem?_eq_none (by simp; omega), List.getElem?_eq_none (by rw [p.len]; omega)]

theorem latestFinds_calls (H : Type) (enc : TypeId × Value → H) (W : World) (base : Nat) (args : Array Value) (ds : List (DataW H)) (p : List MemPlace)
    (hval : ∀ (j : Nat) t v, Try.f3.params[j]? = some t → args[j]? = some v → Value.okWide Try.prog W .any base t v)
    (hA : DataW.TrodAll enc Try.prog W 0 (fun _ => true) true Try.f3.params.toList args.toList ds p) :
    Calls Try.prog 3 args W fun e W' => e = .returned (.bool true) ∧ Bel W.heap.size W W' := by
  rw [Try.params3] at hA hval
  obtain ⟨v0, v1, d0, d1, p0, p1, rfl, rfl, rfl, h0, h1⟩ := trodAll_two hA
  have hv0 := hval 0 22 v0 rfl rfl
  have hv1 := hval 1 23 v1 rfl rfl
  obtain ⟨f1, hf1⟩ := h1
  obtain ⟨a0, len0, cap0, rfl⟩ := okWide_slice Try.underlying22 hv0
  obtain ⟨f0, hf0'⟩ := h0
  have hf0 : DataW.trod enc Try.prog W 0 (fun _ => true) true f0 22 [.slice a0 len0 cap0] = some (d0, p0) := hf0'
  clear hf0'
  generalize Value.slice a0 len0 cap0 = v0 at *
  have hc0 : Cell.okWide Try.prog W .any base 22 v0 := by
    simp only [Value.okWide, Try.underlying22] at hv0
    exact hv0
  obtain ⟨q, rfl⟩ := okWide_int Try.underlying23 hv1
  rcases places_arg hc0 hf0 with rfl | ⟨ba, oa, ca, la, Ta, za, xs, rfl, hn, hga, hsa⟩
  · exact finds_N sortC W q
  · by_cases hx : xs = []
    · subst hx
      exact finds_E sortC W ba oa ca q
    · exact finds_C sortC W ba oa ca q xs la Ta za hx hn hga hsa

theorem latestFinds_lifted (os : Os) (started : os.Started) (H : Type) (enc : TypeId × Value → H) :
    ReturnsInHanded {} Try.checked os 3 .any (Rows.latestFindsSpec.pre6 enc Try.prog Try.f3 Rows.latestFindsRow.domain false) (Rows.latestFindsSpec.post enc Try.prog Try.f3 false true false false) := by
  refine returnsInHanded_of_change (C := Try.checked) Try.own started (by kernel_rfl) Try.func3
    (ChangeSpec.witness6 (enc := enc) (C := Try.checked) false ⟨#[], #[.slice none 0 0, .int .u32 0], []⟩ 8 (by kernel_rfl) (by kernel_rfl) (by kernel_rfl) (by kernel_rfl)) ?_
  intro W base args ds gs before hval0 hW hcnd _
  have hval : ∀ (j : Nat) t v, Try.f3.params[j]? = some t → args[j]? = some v → Value.okWide Try.prog W .any base t v := hval0
  have hW' := hW
  obtain ⟨p, q, hA0, hV, rfl, hfz, hnd⟩ := hW
  have hA : DataW.TrodAll enc Try.prog W 0 (fun _ => true) true Try.f3.params.toList args.toList ds p := hA0
  obtain ⟨rfl, rfl⟩ := trodVars_none hV
  refine (latestFinds_calls H enc W base args ds p hval hA).mono fun e W' ⟨he, hb⟩ => ?_
  subst he
  refine ⟨_, rfl, post_true Try.laidOut ?_ (by kernel_rfl) (by kernel_rfl) Try.underlying4 rfl ?_ hW' hb.below⟩
  · rw [Try.params3]
    intro t ht
    simp only [List.mem_cons, List.not_mem_nil, or_false] at ht
    rcases ht with rfl | rfl
    · exact ⟨by kernel_rfl, of_decide_eq_true (by kernel_rfl)⟩
    · exact ⟨by kernel_rfl, of_decide_eq_true (by kernel_rfl)⟩
  · rw [Try.params3] at hA
    obtain ⟨v0, v1, d0, d1, p0, p1, _, rfl, _, _, _⟩ := trodAll_two hA
    rfl

theorem latestFinds_holds : Rows.LatestFindsSaid :=
  OpenClaim.holds_of_wide 3 Try.f3 rfl rfl rfl rfl rfl rfl rfl ⟨rfl, rfl, rfl, rfl, rfl⟩ rfl rfl rfl rfl rfl (by kernel_rfl) Try.func3 (by kernel_rfl)
    (of_decide_eq_true (by kernel_rfl)) (by unfold Func.isWrapper; first | (rw [if_pos (by decide +kernel)]; kernel_rfl) | (rw [if_neg (by decide +kernel)]; exact ⟨rfl, rfl⟩))
    (fun os started H enc _ => latestFinds_lifted os started H enc)

end Go.Proofs.Ytmjgfoeonnbkpaa
