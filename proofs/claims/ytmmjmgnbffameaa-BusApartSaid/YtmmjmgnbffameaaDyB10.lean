/- What is loaded and stored of a memory, whatever places and sizes there are, is the document's: the statement. -/
import Derived.Test.YtmmjmgnbffameaaDyB9
import Derived.Test.YtmmjmgnbffameaaDxS
import Derived.Test.YtmmjmgnbffameaaRows
set_option linter.unusedSimpArgs false
set_option linter.unusedVariables false
set_option maxRecDepth 100000
namespace Go.Proofs.Ytmmjmgnbffameaa
open Go.Dx Go.ChangeShapes Go.WideShapes Go.ChangeAt Go.RowKit

theorem Try.own : ownKnob Try.prog.godebug = none := by kernel_rfl
theorem Try.laidOut : laidOutB Try.prog = true := by kernel_rfl
theorem Try.cells22 : Try.prog.cellsOf 22 = 1 := by kernel_rfl
theorem Try.cells25 : Try.prog.cellsOf 25 = 2 := by kernel_rfl
theorem Try.cells33 : Try.prog.cellsOf 33 = 4 := by kernel_rfl

/-- A row of words that came in. -/
theorem words_arg {H : Type} {enc : TypeId × Value → H} {W : World} {base fuel : Nat} {v : Value} {x : DataW H × List MemPlace} (hv : Cell.okWide Try.prog W .any base 23 v) (h : DataW.trod enc Try.prog W 0 (fun _ => true) true fuel 23 [v] = some x) :
    ∃ (sl : SV) (xs : List Int), v = den sl ∧ u32s xs ∧ (xs.length : Int) ≤ 9223372036854775807 ∧ ((sl = .v (.slice none 0 0) ∧ xs = []) ∨ ∃ b o c l T fz, sl = .s 0 b o xs.length c ∧ W.heap[b]? = some (denO (.z l T fz)) ∧ Seg l o .u32 xs) := by
  rcases open_ints Try.underlying23 Try.underlying22 Try.cells22 h with ⟨hcs, _⟩ | ⟨a, len, cap, zs, hcs, _, hl, hm, hz, _, hcell, hwz⟩
  · simp only [List.cons.injEq, and_true] at hcs
    exact ⟨.v (.slice none 0 0), [], hcs, (by intro x hx; cases hx), (by simp), Or.inl ⟨rfl, rfl⟩⟩
  · simp only [List.cons.injEq, and_true] at hcs
    subst hcs
    rcases slice_arg Try.underlying23 hv with h0 | ⟨b, o, n, c, cur, T, fz, h0, hnc, hc, hg⟩
    · cases h0
    · simp only [Value.slice.injEq, Option.some.injEq] at h0
      obtain ⟨rfl, rfl, rfl⟩ := h0
      simp only [if_true] at hz
      have hlen : (zs.take len).length = len := by simp; omega
      refine ⟨.s 0 b o (zs.take len).length cap, zs.take len, by rw [hlen]; rfl, ?_, by rw [hlen]; omega, Or.inr ⟨b, o, cap, _, T, fz, rfl, den_z hg, seg_of hg ?_⟩⟩
      · intro x hx
        have := hwz x (List.mem_of_mem_take hx)
        have e1 : IntKind.u32.min = 0 := by decide
        have e2 : IntKind.u32.max = 4294967295 := by decide
        simp only [Lit.wf, Bool.and_eq_true, decide_eq_true_eq] at this
        unfold u32ok
        omega
      · intro i hi
        rw [hlen] at hi
        rw [hcell i (by omega)]
        simp [List.getD_eq_getElem?_getD, List.getElem?_take, hi]

theorem Try.cells5 : Try.prog.cellsOf 5 = 1 := by kernel_rfl
theorem Try.cells3 : Try.prog.cellsOf 3 = 1 := by kernel_rfl

/-- A row of acts that came in. -/
theorem acts_arg {H : Type} {enc : TypeId × Value → H} {W : World} {base fuel : Nat} {v : Value} {x : DataW H × List MemPlace} (hv : Cell.okWide Try.prog W .any base 26 v) (h : DataW.trod enc Try.prog W 0 (fun _ => true) true fuel 26 [v] = some x) :
    v = .slice none 0 0 ∨ ∃ (b o c : Nat) (l : List SV) (T : Nat) (fz : Nat × Nat) (acts : List BAct), v = den (.s 1 b o acts.length c) ∧ acts.length ≤ 9223372036854775807 ∧ (∀ x ∈ acts, x.ok) ∧ W.heap[b]? = some (denO (.z l T fz)) ∧ SegA l o acts := by
  rcases slice_arg Try.underlying26 hv with h0 | ⟨b, o, n, c, cur, T, fz, rfl, hnc, hc, hg⟩
  · exact Or.inl h0
  right
  rcases DataW.trod_slice Try.underlying26 h with ⟨hcs, _⟩ | ⟨a, len, cap, elems, rest, m, _, hcs, _, _, hl, hm, hlen, hel, _, _⟩
  · cases hcs
  simp only [List.cons.injEq, and_true, Value.slice.injEq, Option.some.injEq] at hcs
  obtain ⟨rfl, rfl, rfl⟩ := hcs
  rw [Try.cells33] at hel
  have each : ∀ i, i < n → ∃ t : BAct, t.ok ∧ ∀ k v, [Value.int .u8 t.k, Value.int .u32 t.a, Value.int .i64 t.s, Value.int .u32 t.v][k]? = some v → cur[o + i * 4 + k]? = some v := by
    intro i hi
    have h1 := hel i hi
    rw [List.getElem?_eq_getElem (by omega), Option.bind_eq_some_iff] at h1
    obtain ⟨cs, hcs, hy⟩ := h1
    obtain ⟨_, hcl, hcc⟩ := World.cells?_some hcs
    obtain ⟨y0, y1, y2, y3, m', _, _, t0, t1, t2, t3⟩ := Go.Joins.trod_struct4 Try.underlying33 hy
    simp only [Try.cells5, Try.cells22, Try.cells3] at t0 t1 t2 t3
    obtain ⟨n0, q0, _, w0⟩ := DataW.trod_int Try.underlying5 t0
    obtain ⟨n1, q1, _, w1⟩ := DataW.trod_int Try.underlying22 t1
    obtain ⟨n2, q2, _, w2⟩ := DataW.trod_int Try.underlying3 t2
    obtain ⟨n3, q3, _, w3⟩ := DataW.trod_int Try.underlying22 t3
    have hcs4 : cs = [.int .u8 n0, .int .u32 n1, .int .i64 n2, .int .u32 n3] := by
      match cs, hcl with
      | [c0, c1, c2, c3], _ => simp at q0 q1 q2 q3; simp [q0, q1, q2, q3]
    have e1 : IntKind.u32.min = 0 := by decide
    have e2 : IntKind.u32.max = 4294967295 := by decide
    have e3 : IntKind.u8.min = 0 := by decide
    have e4 : IntKind.u8.max = 255 := by decide
    have e5 : IntKind.i64.min = -9223372036854775808 := by decide
    have e6 : IntKind.i64.max = 9223372036854775807 := by decide
    simp only [Lit.wf, Bool.and_eq_true, decide_eq_true_eq] at w0 w1 w2 w3
    refine ⟨⟨n0, n1, n2, n3⟩, ⟨by simp only; omega, by simp only; omega, ⟨by simp only; omega, by simp only; omega⟩, ⟨by simp only; omega, by simp only; omega⟩, by simp only; omega, by simp only; omega⟩, ?_⟩
    intro k v hk
    have hk4 : k < 4 := by
      rcases Nat.lt_or_ge k 4 with h' | h'
      · exact h'
      · rw [List.getElem?_eq_none (by simpa using h')] at hk; cases hk
    have h2 := hcc k hk4
    rw [hcs4, hk, add_none, add_none] at h2
    simpa [World.cell?, hg] using h2
  have pick : ∃ acts : List BAct, acts.length = n ∧ ∀ i, (hi : i < acts.length) → acts[i].ok ∧ ∀ k v, [Value.int .u8 acts[i].k, Value.int .u32 acts[i].a, Value.int .i64 acts[i].s, Value.int .u32 acts[i].v][k]? = some v → cur[o + i * 4 + k]? = some v := by
    have key : ∀ m, m ≤ n → ∃ acts : List BAct, acts.length = m ∧ ∀ i, (hi : i < acts.length) → acts[i].ok ∧ ∀ k v, [Value.int .u8 acts[i].k, Value.int .u32 acts[i].a, Value.int .i64 acts[i].s, Value.int .u32 acts[i].v][k]? = some v → cur[o + i * 4 + k]? = some v := by
      intro m
      induction m with
      | zero => exact fun _ => ⟨[], rfl, fun i hi => by simp at hi⟩
      | succ m ih =>
        intro hm
        obtain ⟨acts, ha, hp⟩ := ih (by omega)
        obtain ⟨t, ht, hq⟩ := each m (by omega)
        refine ⟨acts ++ [t], by simp [ha], fun i hi => ?_⟩
        by_cases him : i < acts.length
        · rw [List.getElem_append_left him]
          exact hp i him
        · have : i = acts.length := by simp at hi; omega
          subst this
          simp only [List.getElem_append_right (Nat.le_refl _), Nat.sub_self, List.getElem_cons_zero]
          rw [ha]
          exact ⟨ht, hq⟩
    exact key n (Nat.le_refl _)
  obtain ⟨acts, rfl, hp⟩ := pick
  refine ⟨b, o, c, cur.toList.map SV.v, T, fz, acts, rfl, by omega, ?_, den_z hg, ?_⟩
  · intro x hx
    obtain ⟨i, hi, rfl⟩ := List.getElem_of_mem hx
    exact (hp i hi).1
  · intro i hi
    obtain ⟨_, hq⟩ := hp i hi
    have q0 := hq 0 _ rfl
    have q1 := hq 1 _ rfl
    have q2 := hq 2 _ rfl
    have q3 := hq 3 _ rfl
    have hlt := (Array.getElem?_eq_some_iff.1 q3).1
    refine ⟨by simp; omega, ?_⟩
    rw [ldN_eq]
    apply List.ext_getElem?
    intro t
    rcases t with _ | _ | _ | _ | t
    · simpa using q0
    · simpa using q1
    · simpa using q2
    · simpa using q3
    · rw [List.getElem?_eq_none (by simp; omega), List.getElem?_eq_none (by simp)]

theorem busMemory_calls (H : Type) (enc : TypeId × Value → H) (W : World) (base : Nat) (args : Array Value) (ds : List (DataW H)) (p : List MemPlace)
    (hval : ∀ (j : Nat) t v, Try.f3.params[j]? = some t → args[j]? = some v → Value.okWide Try.prog W .any base t v)
    (hA : DataW.TrodAll enc Try.prog W 0 (fun _ => true) true Try.f3.params.toList args.toList ds p) :
    Calls Try.prog 3 args W fun e W' => e = .returned (.bool true) ∧ Below W.heap.size W W' := by
  rw [Try.params3] at hA hval
  obtain ⟨v0, v1, d0, d1, p0, p1, rfl, rfl, rfl, h0, h1⟩ := trodAll_two hA
  have hv0 := hval 0 25 v0 rfl rfl
  have hv1 := hval 1 26 v1 rfl rfl
  obtain ⟨c0, c1, y0, y1, m, rfl, _, _, t0, t1⟩ := Go.Joins.open_agg2 Try.underlying25 (by kernel_rfl) Try.cells25 hv0 h0
  obtain ⟨a1, len1, cap1, rfl⟩ := okWide_slice Try.underlying26 hv1
  obtain ⟨f1, hf0⟩ := h1
  have hf1 : DataW.trod enc Try.prog W 0 (fun _ => true) true f1 26 [.slice a1 len1 cap1] = some (d1, p1) := hf0
  clear hf0
  generalize Value.slice a1 len1 cap1 = v1 at *
  have hc1 : Cell.okWide Try.prog W .any base 23 c1 := by
    simp only [Value.okWide, Try.underlying25] at hv0
    obtain ⟨cs, hcs, _, ts, hts, _, hrow⟩ := hv0
    have hts' : Try.prog.cellTypes Try.prog.depth 25 = some [22, 23] := by kernel_rfl
    rw [hts'] at hts
    cases hts
    simp only [Value.agg.injEq] at hcs
    subst hcs
    obtain ⟨u, hu, hok⟩ := hrow 1 c1 rfl
    cases hu
    exact hok
  have hc2 : Cell.okWide Try.prog W .any base 26 v1 := by
    simp only [Value.okWide, Try.underlying26] at hv1
    exact hv1
  obtain ⟨bb, q0, _, w0⟩ := DataW.trod_int Try.underlying22 t0
  simp only [List.cons.injEq, and_true] at q0
  subst q0
  have e1 : IntKind.u32.min = 0 := by decide
  have e2 : IntKind.u32.max = 4294967295 := by decide
  simp only [Lit.wf, Bool.and_eq_true, decide_eq_true_eq] at w0
  have hb : u32ok bb := by unfold u32ok; omega
  obtain ⟨sl, xs, rfl, hxs, hxl, hsl⟩ := words_arg hc1 t1
  have hxl' : xs.length ≤ 9223372036854775807 := by omega
  rcases acts_arg hc2 hf1 with rfl | ⟨ba, oa, ca, la, Ta, za, acts, rfl, hna, hacts, hga, hsa⟩
  · rcases hsl with ⟨rfl, rfl⟩ | ⟨b, o, c, l, T, fz, rfl, hg, hseg⟩
    · exact busMemory_Bnn W bb hb
    · by_cases hne : xs = []
      · subst hne
        exact busMemory_Bsn W bb b o c l T fz hg hb
      · exact busMemory_An W bb b o c l T fz xs hb hxs hne hxl' hg hseg
  · rcases hsl with ⟨rfl, rfl⟩ | ⟨b, o, c, l, T, fz, rfl, hg, hseg⟩
    · exact busMemory_Bns W bb ba oa ca la Ta za acts hna hacts hga hsa hb
    · by_cases hne : xs = []
      · subst hne
        exact busMemory_Bss W bb b o c l T fz hg ba oa ca la Ta za acts hna hacts hga hsa hb
      · exact busMemory_A W bb b o c l T fz xs ba oa ca la Ta za acts hb hxs hne hxl' hna hacts hg hseg hga hsa

theorem busMemory_lifted (os : Os) (started : os.Started) (H : Type) (enc : TypeId × Value → H) :
    ReturnsInHanded {} Try.checked os 3 .any (Rows.busMemorySpec.pre6 enc Try.prog Try.f3 Rows.busMemoryRow.domain false) (Rows.busMemorySpec.post enc Try.prog Try.f3 false true false false) := by
  refine returnsInHanded_of_change (C := Try.checked) Try.own started (by kernel_rfl) Try.func3
    (ChangeSpec.witness6 (enc := enc) (C := Try.checked) false ⟨#[], #[.agg #[.int .u32 0, .slice none 0 0], .slice none 0 0], []⟩ 8 (by kernel_rfl) (by kernel_rfl) (by kernel_rfl) (by kernel_rfl)) ?_
  intro W base args ds gs before hval0 hW hcnd _
  have hval : ∀ (j : Nat) t v, Try.f3.params[j]? = some t → args[j]? = some v → Value.okWide Try.prog W .any base t v := hval0
  have hW' := hW
  obtain ⟨p, q, hA0, hV, rfl, hfz, hnd⟩ := hW
  have hA : DataW.TrodAll enc Try.prog W 0 (fun _ => true) true Try.f3.params.toList args.toList ds p := hA0
  obtain ⟨rfl, rfl⟩ := trodVars_none hV
  refine (busMemory_calls H enc W base args ds p hval hA).mono fun e W' ⟨he, hb⟩ => ?_
  subst he
  refine ⟨_, rfl, post_true Try.laidOut ?_ (by kernel_rfl) (by kernel_rfl) Try.underlying4 rfl ?_ hW' hb⟩
  · rw [Try.params3]
    intro t ht
    simp only [List.mem_cons, List.not_mem_nil, or_false] at ht
    rcases ht with rfl | rfl
    · exact ⟨by kernel_rfl, of_decide_eq_true (by kernel_rfl)⟩
    · exact ⟨by kernel_rfl, of_decide_eq_true (by kernel_rfl)⟩
  · rw [Try.params3] at hA
    obtain ⟨v0, v1, d0, d1, p0, p1, _, rfl, _, _, _⟩ := trodAll_two hA
    rfl

theorem busMemory_holds : Rows.BusMemorySaid :=
  OpenClaim.holds_of_wide 3 Try.f3 rfl rfl rfl rfl rfl rfl rfl ⟨rfl, rfl, rfl, rfl, rfl⟩ rfl rfl rfl rfl rfl (by kernel_rfl) Try.func3 (by kernel_rfl)
    (of_decide_eq_true (by kernel_rfl)) (by unfold Func.isWrapper; first | (rw [if_pos (by decide +kernel)]; kernel_rfl) | (rw [if_neg (by decide +kernel)]; exact ⟨rfl, rfl⟩))
    (fun os started H enc _ => busMemory_lifted os started H enc)

end Go.Proofs.Ytmmjmgnbffameaa
