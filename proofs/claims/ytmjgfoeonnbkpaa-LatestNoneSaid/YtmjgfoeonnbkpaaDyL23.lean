/- Blocks that come in, and LatestNone's statement: 'dioptralaw07.LatestNone' returns true for every input, and its arguments read behind the call as before. No condition. -/
import Derived.Test.YtmjgfoeonnbkpaaDyL19
import Derived.Test.YtmjgfoeonnbkpaaDyL22
set_option linter.unusedSimpArgs false
set_option linter.unusedVariables false
set_option maxRecDepth 100000
namespace Go.Proofs.Ytmjgfoeonnbkpaa
open Go.Dx Go.ChangeShapes Go.WideShapes Go.ChangeAt Go.RowKit

theorem Try.cells48 : Try.prog.cellsOf 48 = 66 := by kernel_rfl
theorem Try.cells45 : Try.prog.cellsOf 45 = 8 := by kernel_rfl
theorem Try.cells46 : Try.prog.cellsOf 46 = 56 := by kernel_rfl

theorem denL_append : ∀ (a b : List SV), denL (a ++ b) = denL a ++ denL b
  | [], b => rfl
  | x :: a, b => by simp [denL, denL_append a b]

theorem denL_len : ∀ (a : List SV), (denL a).length = a.length
  | [] => rfl
  | x :: a => by simp [denL, denL_len a]

/-- Elements of one size, as a row. -/
theorem chunk {α : Type} (f : α → List SV) (m : Nat) : ∀ (n : Nat) (l : List Value), l.length = n * m → (∀ i, i < n → ∃ a, (l.drop (i * m)).take m = denL (f a)) → ∃ xs : List α, xs.length = n ∧ l = denL (rows f xs)
  | 0, l, hl, _ => ⟨[], rfl, by rw [Nat.zero_mul] at hl; rw [List.length_eq_zero_iff.1 hl]; rfl⟩
  | n + 1, l, hl, h => by
    obtain ⟨a, ha⟩ := h 0 (by omega)
    obtain ⟨xs, h1, h2⟩ := chunk f m n (l.drop m) (by rw [List.length_drop, hl, Nat.succ_mul]; omega) (fun i hi => by
      obtain ⟨b, hb⟩ := h (i + 1) (by omega)
      refine ⟨b, ?_⟩
      rw [List.drop_drop, show m + i * m = (i + 1) * m by rw [Nat.succ_mul]; omega]
      exact hb)
    refine ⟨a :: xs, by simp [h1], ?_⟩
    rw [rows_cons, denL_append, ← h2, ← ha, Nat.zero_mul, List.drop_zero, List.take_append_drop]

/-- A block that came in. -/
theorem bk_of {H : Type} {enc : TypeId × Value → H} {W : World} {fuel : Nat} {cs : List Value} {x : DataW H × List MemPlace} (h : DataW.trod enc Try.prog W 0 (fun _ => true) true fuel 48 cs = some x) : ∃ B : Bk, cs = denL B.f := by
  obtain ⟨y0, y1, y2, y3, m, _, hl, t0, t1, t2, t3⟩ := Go.Joins.trod_struct4 Try.underlying48 h
  rw [Try.cells48] at hl
  simp only [Try.cells3, Try.cells23, Try.cells45, Try.cells46] at t0 t1 t2 t3
  obtain ⟨n0, q0, _, _⟩ := DataW.trod_int Try.underlying3 t0
  obtain ⟨n1, q1, _, _⟩ := DataW.trod_int Try.underlying23 t1
  obtain ⟨xs, m2, _, _, hl2, hn2, e2⟩ := DataW.trod_array Try.underlying45 t2
  obtain ⟨ys, m3, _, _, hl3, hn3, e3⟩ := DataW.trod_array Try.underlying46 t3
  rw [Try.cells45] at hl2
  rw [Try.cells46] at hl3
  obtain ⟨ks, hk, ek⟩ := chunk (fun k : Int => [SV.v (.int .i64 k)]) 1 8 _ hl2 (fun i hi => by
    have h1 := e2 i hi
    simp only [Try.cells3] at h1
    rw [List.getElem?_eq_getElem (by omega)] at h1
    obtain ⟨n, q, _, _⟩ := DataW.trod_int Try.underlying3 h1
    exact ⟨n, q⟩)
  obtain ⟨ps, hp, ep⟩ := chunk Pg.f 7 8 _ hl3 (fun i hi => by
    have h1 := e3 i hi
    simp only [Try.cells34] at h1
    rw [List.getElem?_eq_getElem (by omega)] at h1
    exact pg_of h1)
  have hks : rows (fun k : Int => [SV.v (.int .i64 k)]) ks = nums .i64 ks := by
    clear ek hk
    induction ks with
    | nil => rfl
    | cons a r ih => rw [rows_cons, ih]; rfl
  rw [hks] at ek
  refine ⟨⟨n0, n1, ks, ps, hk, hp⟩, ?_⟩
  match cs, hl with
  | c0 :: c1 :: l, hl =>
    simp at q0 q1 ek ep hl
    have hf : l = denL (nums .i64 ks) ++ denL (rows Pg.f ps) := by
      rw [← ek, ← ep]
      have : List.take 56 (List.drop 8 l) = List.drop 8 l := List.take_of_length_le (by simp; omega)
      first
        | rw [this, List.take_append_drop]
        | (rw [List.take_append_drop])
    simp only [Bk.f, denL, denL_append]
    rw [hf, q0, q1]
    rfl

theorem vvs (B : Bk) : ∀ y ∈ B.f, SV.v (den y) = y := by
  intro y hy
  simp only [Bk.f, List.mem_cons, List.mem_append] at hy
  rcases hy with rfl | rfl | hy | hy
  · rfl
  · rfl
  · simp only [nums, List.mem_map] at hy
    obtain ⟨x, _, rfl⟩ := hy
    rfl
  · simp only [rows, List.mem_flatMap] at hy
    obtain ⟨p, _, hp⟩ := hy
    simp only [Pg.f, List.mem_cons, List.not_mem_nil, or_false] at hp
    rcases hp with rfl | rfl | rfl | rfl | rfl | rfl | rfl <;> rfl

/-- A row of blocks that came in. -/
theorem blocks_arg {H : Type} {enc : TypeId × Value → H} {W : World} {base fuel : Nat} {v : Value} {x : DataW H × List MemPlace} (hv : Cell.okWide Try.prog W .any base 41 v) (h : DataW.trod enc Try.prog W 0 (fun _ => true) true fuel 41 [v] = some x) :
    v = .slice none 0 0 ∨ ∃ (b o c : Nat) (l : List SV) (T : Nat) (fz : Nat × Nat) (xs : List Bk), v = den (.s 101 b o xs.length c) ∧ (xs.length : Int) ≤ 9223372036854775807 ∧ W.heap[b]? = some (denO (.z l T fz)) ∧ SegR l o Bk.f 66 xs := by
  rcases slice_arg Try.underlying41 hv with h0 | ⟨b, o, n, c, cur, T, fz, rfl, hnc, hc, hg⟩
  · exact Or.inl h0
  right
  rcases DataW.trod_slice Try.underlying41 h with ⟨hcs, _⟩ | ⟨a, len, cap, elems, rest, m, _, hcs, _, _, hl, hm, hlen, hel, _, _⟩
  · cases hcs
  simp only [List.cons.injEq, and_true, Value.slice.injEq, Option.some.injEq] at hcs
  obtain ⟨rfl, rfl, rfl⟩ := hcs
  rw [Try.cells48] at hel
  have each : ∀ i, i < n → ∃ p : Bk, ∀ k v, (denL p.f)[k]? = some v → cur[o + i * 66 + k]? = some v := by
    intro i hi
    have h1 := hel i hi
    rw [List.getElem?_eq_getElem (by omega), Option.bind_eq_some_iff] at h1
    obtain ⟨cs, hcs, hy⟩ := h1
    obtain ⟨_, hcl, hcc⟩ := World.cells?_some hcs
    obtain ⟨p, rfl⟩ := bk_of hy
    refine ⟨p, fun k v hk => ?_⟩
    have hk66 : k < 66 := by
      rcases Nat.lt_or_ge k 66 with h' | h'
      · exact h'
      · rw [List.getElem?_eq_none (by rw [denL_len, p.len]; exact h')] at hk; cases hk
    have h2 := hcc k hk66
    rw [hk, add_none, add_none] at h2
    simpa [World.cell?, hg] using h2
  have pick : ∃ xs : List Bk, xs.length = n ∧ ∀ (i : Nat) (p : Bk), xs[i]? = some p → ∀ k v, (denL p.f)[k]? = some v → cur[o + i * 66 + k]? = some v := by
    have key : ∀ m, m ≤ n → ∃ xs : List Bk, xs.length = m ∧ ∀ (i : Nat) (p : Bk), xs[i]? = some p → ∀ k v, (denL p.f)[k]? = some v → cur[o + i * 66 + k]? = some v := by
      intro m
      induction m with
      | zero => exact fun _ => ⟨[], rfl, fun i p hp => by simp at hp⟩
      | succ m ih =>
        intro hm
        obtain ⟨xs, ha, hp⟩ := ih (by omega)
        obtain ⟨t, hq⟩ := each m (by omega)
        refine ⟨xs ++ [t], by simp [ha], fun i p hip => ?_⟩
        by_cases him : i < xs.length
        · rw [List.getElem?_append_left him] at hip
          exact hp i p hip
        · rw [List.getElem?_append_right (by omega)] at hip
          have h0 : i - xs.length = 0 := by
            rcases Nat.eq_zero_or_pos (i - xs.length) with h | h
            · exact h
            · rw [List.getElem?_eq_none (by simp; omega)] at hip; cases hip
          rw [h0] at hip
          simp only [List.getElem?_cons_zero, Option.some.injEq] at hip
          subst hip
          have : i = m := by omega
          subst this
          exact hq
    exact key n (Nat.le_refl _)
  obtain ⟨xs, rfl, hp⟩ := pick
  refine ⟨b, o, c, cur.toList.map SV.v, T, fz, xs, rfl, by omega, den_z hg, ?_⟩
  intro i p hip
  have q := hp i p hip
  have q8 := q 65 _ (List.getElem?_eq_getElem (by rw [denL_len, p.len]; omega))
  have hlt := (Array.getElem?_eq_some_iff.1 q8).1
  refine ⟨by simp; omega, ?_⟩
  rw [ldN_eq]
  apply List.ext_getElem?
  intro t
  by_cases ht : t < 66
  · rw [List.getElem?_take_of_lt ht, List.getElem?_drop]
    have e1 : (denL p.f)[t]? = some (den (p.f[t]'(by rw [p.len]; exact ht))) := by rw [denL_get, List.getElem?_eq_getElem (by rw [p.len]; exact ht)]; rfl
    have e2 := q t _ e1
    rw [List.getElem?_map]
    have e3 : cur.toList[o + i * 66 + t]? = some (den (p.f[t]'(by rw [p.len]; exact ht))) := by simpa using e2
    rw [e3, List.getElem?_eq_getElem (by rw [p.len]; exact ht)]
    simp only [Option.map_some, Option.some.injEq]
    exact vvs p _ (List.getElem_mem _)
  · rw [List.getElem?_eq_none (by simp; omega), List.getElem?_eq_none (by rw [p.len]; omega)]

theorem latestNone_calls (H : Type) (enc : TypeId × Value → H) (W : World) (base : Nat) (args : Array Value) (ds : List (DataW H)) (p : List MemPlace)
    (hval : ∀ (j : Nat) t v, Try.f6.params[j]? = some t → args[j]? = some v → Value.okWide Try.prog W .any base t v)
    (hA : DataW.TrodAll enc Try.prog W 0 (fun _ => true) true Try.f6.params.toList args.toList ds p) :
    Calls Try.prog 6 args W fun e W' => e = .returned (.bool true) ∧ Bel W.heap.size W W' := by
  rw [Try.params6] at hA hval
  obtain ⟨v0, v1, d0, d1, p0, p1, rfl, rfl, rfl, h0, h1⟩ := trodAll_two hA
  have hv0 := hval 0 41 v0 rfl rfl
  have hv1 := hval 1 3 v1 rfl rfl
  obtain ⟨f1, hf1⟩ := h1
  obtain ⟨a0, len0, cap0, rfl⟩ := okWide_slice Try.underlying41 hv0
  obtain ⟨f0, hf0'⟩ := h0
  have hf0 : DataW.trod enc Try.prog W 0 (fun _ => true) true f0 41 [.slice a0 len0 cap0] = some (d0, p0) := hf0'
  clear hf0'
  generalize Value.slice a0 len0 cap0 = v0 at *
  have hc0 : Cell.okWide Try.prog W .any base 41 v0 := by
    simp only [Value.okWide, Try.underlying41] at hv0
    exact hv0
  obtain ⟨q, rfl⟩ := okWide_int Try.underlying3 hv1
  rcases blocks_arg hc0 hf0 with rfl | ⟨ba, oa, ca, la, Ta, za, xs, rfl, hn, hga, hsa⟩
  · exact none_N sortC W q
  · by_cases hx : xs = []
    · subst hx
      exact none_E sortC W ba oa ca q
    · exact none_C sortC W ba oa ca q xs la Ta za hx hn hga hsa

theorem latestNone_lifted (os : Os) (started : os.Started) (H : Type) (enc : TypeId × Value → H) :
    ReturnsInHanded {} Try.checked os 6 .any (Rows.latestNoneSpec.pre6 enc Try.prog Try.f6 Rows.latestNoneRow.domain false) (Rows.latestNoneSpec.post enc Try.prog Try.f6 false true false false) := by
  refine returnsInHanded_of_change (C := Try.checked) Try.own started (by kernel_rfl) Try.func6
    (ChangeSpec.witness6 (enc := enc) (C := Try.checked) false ⟨#[], #[.slice none 0 0, .int .i64 0], []⟩ 8 (by kernel_rfl) (by kernel_rfl) (by kernel_rfl) (by kernel_rfl)) ?_
  intro W base args ds gs before hval0 hW hcnd _
  have hval : ∀ (j : Nat) t v, Try.f6.params[j]? = some t → args[j]? = some v → Value.okWide Try.prog W .any base t v := hval0
  have hW' := hW
  obtain ⟨p, q, hA0, hV, rfl, hfz, hnd⟩ := hW
  have hA : DataW.TrodAll enc Try.prog W 0 (fun _ => true) true Try.f6.params.toList args.toList ds p := hA0
  obtain ⟨rfl, rfl⟩ := trodVars_none hV
  refine (latestNone_calls H enc W base args ds p hval hA).mono fun e W' ⟨he, hb⟩ => ?_
  subst he
  refine ⟨_, rfl, post_true Try.laidOut ?_ (by kernel_rfl) (by kernel_rfl) Try.underlying4 rfl ?_ hW' hb.below⟩
  · rw [Try.params6]
    intro t ht
    simp only [List.mem_cons, List.not_mem_nil, or_false] at ht
    rcases ht with rfl | rfl
    · exact ⟨by kernel_rfl, of_decide_eq_true (by kernel_rfl)⟩
    · exact ⟨by kernel_rfl, of_decide_eq_true (by kernel_rfl)⟩
  · rw [Try.params6] at hA
    obtain ⟨v0, v1, d0, d1, p0, p1, _, rfl, _, _, _⟩ := trodAll_two hA
    rfl

theorem latestNone_holds : Rows.LatestNoneSaid :=
  OpenClaim.holds_of_wide 6 Try.f6 rfl rfl rfl rfl rfl rfl rfl ⟨rfl, rfl, rfl, rfl, rfl⟩ rfl rfl rfl rfl rfl (by kernel_rfl) Try.func6 (by kernel_rfl)
    (of_decide_eq_true (by kernel_rfl)) (by unfold Func.isWrapper; first | (rw [if_pos (by decide +kernel)]; kernel_rfl) | (rw [if_neg (by decide +kernel)]; exact ⟨rfl, rfl⟩))
    (fun os started H enc _ => latestNone_lifted os started H enc)

end Go.Proofs.Ytmjgfoeonnbkpaa
