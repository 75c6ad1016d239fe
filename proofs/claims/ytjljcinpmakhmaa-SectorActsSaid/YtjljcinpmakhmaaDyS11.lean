/- A device answers every register, in every order, as the document says, and its disk has behind that the document's sectors: the statement. -/
import Derived.Test.YtjljcinpmakhmaaDyS10
import Derived.Deep.Strs
import Derived.Test.YtjljcinpmakhmaaRows
set_option linter.unusedSimpArgs false
set_option linter.unusedVariables false
set_option maxRecDepth 100000
namespace Go.Proofs.Ytjljcinpmakhmaa
open Go.Dx Go.ChangeShapes Go.WideShapes Go.ChangeAt Go.RowKit

theorem Try.own : ownKnob Try.prog.godebug = none := by kernel_rfl
theorem Try.laidOut : laidOutB Try.prog = true := by kernel_rfl
theorem Try.cells49 : Try.prog.cellsOf 49 = 3 := by kernel_rfl
theorem Try.cells31 : Try.prog.cellsOf 31 = 1 := by kernel_rfl
theorem Try.cells5 : Try.prog.cellsOf 5 = 1 := by kernel_rfl
theorem Try.cells3 : Try.prog.cellsOf 3 = 1 := by kernel_rfl

/-- A row of acts that came in. -/
theorem acts_arg {H : Type} {enc : TypeId × Value → H} {W : World} {base fuel : Nat} {v : Value} {x : DataW H × List MemPlace} (hv : Cell.okWide Try.prog W .any base 22 v) (h : DataW.trod enc Try.prog W 0 (fun _ => true) true fuel 22 [v] = some x) :
    v = .slice none 0 0 ∨ ∃ (b o c : Nat) (l : List SV) (T : Nat) (fz : Nat × Nat) (acts : List SAct), v = den (.s 101 b o acts.length c) ∧ acts.length ≤ 9223372036854775807 ∧ (∀ x ∈ acts, x.ok) ∧ W.heap[b]? = some (denO (.z l T fz)) ∧ Seg3 l o acts := by
  rcases slice_arg Try.underlying22 hv with h0 | ⟨b, o, n, c, cur, T, fz, rfl, hnc, hc, hg⟩
  · exact Or.inl h0
  right
  rcases DataW.trod_slice Try.underlying22 h with ⟨hcs, _⟩ | ⟨a, len, cap, elems, rest, m, _, hcs, _, _, hl, hm, hlen, hel, _, _⟩
  · cases hcs
  simp only [List.cons.injEq, and_true, Value.slice.injEq, Option.some.injEq] at hcs
  obtain ⟨rfl, rfl, rfl⟩ := hcs
  rw [Try.cells49] at hel
  have each : ∀ i, i < n → ∃ t : SAct, t.ok ∧ ∀ k v, [Value.int .u8 t.k, Value.int .i64 t.r, Value.int .u32 t.v][k]? = some v → cur[o + i * 3 + k]? = some v := by
    intro i hi
    have h1 := hel i hi
    rw [List.getElem?_eq_getElem (by omega), Option.bind_eq_some_iff] at h1
    obtain ⟨cs, hcs, hy⟩ := h1
    obtain ⟨_, hcl, hcc⟩ := World.cells?_some hcs
    obtain ⟨y0, y1, y2, m', _, _, t0, t1, t2⟩ := Go.Deep.trod_struct3 Try.underlying49 hy
    simp only [Try.cells5, Try.cells31, Try.cells3] at t0 t1 t2
    obtain ⟨n0, q0, _, w0⟩ := DataW.trod_int Try.underlying5 t0
    obtain ⟨n1, q1, _, w1⟩ := DataW.trod_int Try.underlying3 t1
    obtain ⟨n2, q2, _, w2⟩ := DataW.trod_int Try.underlying31 t2
    have hcs3 : cs = [.int .u8 n0, .int .i64 n1, .int .u32 n2] := by
      match cs, hcl with
      | [c0, c1, c2], _ => simp at q0 q1 q2; simp [q0, q1, q2]
    have e1 : IntKind.u32.min = 0 := by decide
    have e2 : IntKind.u32.max = 4294967295 := by decide
    have e3 : IntKind.u8.min = 0 := by decide
    have e4 : IntKind.u8.max = 255 := by decide
    have e5 : IntKind.i64.min = -9223372036854775808 := by decide
    have e6 : IntKind.i64.max = 9223372036854775807 := by decide
    simp only [Lit.wf, Bool.and_eq_true, decide_eq_true_eq] at w0 w1 w2
    refine ⟨⟨n0, n1, n2⟩, ⟨⟨by simp only; omega, by simp only; omega⟩, ⟨by simp only; omega, by simp only; omega⟩, ⟨by simp only; omega, by simp only; omega⟩⟩, ?_⟩
    intro k v hk
    have hk3 : k < 3 := by
      rcases Nat.lt_or_ge k 3 with h' | h'
      · exact h'
      · rw [List.getElem?_eq_none (by simpa using h')] at hk; cases hk
    have h2 := hcc k hk3
    rw [hcs3, hk, add_none, add_none] at h2
    simpa [World.cell?, hg] using h2
  have pick : ∃ acts : List SAct, acts.length = n ∧ ∀ i, (hi : i < acts.length) → acts[i].ok ∧ ∀ k v, [Value.int .u8 acts[i].k, Value.int .i64 acts[i].r, Value.int .u32 acts[i].v][k]? = some v → cur[o + i * 3 + k]? = some v := by
    have key : ∀ m, m ≤ n → ∃ acts : List SAct, acts.length = m ∧ ∀ i, (hi : i < acts.length) → acts[i].ok ∧ ∀ k v, [Value.int .u8 acts[i].k, Value.int .i64 acts[i].r, Value.int .u32 acts[i].v][k]? = some v → cur[o + i * 3 + k]? = some v := by
      intro m
      induction m with
      | zero => exact fun _ => ⟨[], rfl, fun i hi => by simp at hi⟩
      | succ m ih =>
        intro hm
        obtain ⟨acts, ha, hp⟩ := ih (by omega)
        obtain ⟨t, ht, hq⟩ := each m (by omega)
        refine ⟨acts ++ [t], by simp [ha], fun i hi => ?_⟩
        by_cases him : i < acts.length
        · rw [List.getElem_append_left him]
          exact hp i him
        · have : i = acts.length := by simp at hi; omega
          subst this
          simp only [List.getElem_append_right (Nat.le_refl _), Nat.sub_self, List.getElem_cons_zero]
          rw [ha]
          exact ⟨ht, hq⟩
    exact key n (Nat.le_refl _)
  obtain ⟨acts, rfl, hp⟩ := pick
  refine ⟨b, o, c, cur.toList.map SV.v, T, fz, acts, rfl, by omega, ?_, den_z hg, ?_⟩
  · intro x hx
    obtain ⟨i, hi, rfl⟩ := List.getElem_of_mem hx
    exact (hp i hi).1
  · intro i hi
    obtain ⟨_, hq⟩ := hp i hi
    have q0 := hq 0 _ rfl
    have q1 := hq 1 _ rfl
    have q2 := hq 2 _ rfl
    have hlt := (Array.getElem?_eq_some_iff.1 q2).1
    refine ⟨by simp; omega, ?_⟩
    rw [ldN_eq]
    apply List.ext_getElem?
    intro t
    rcases t with _ | _ | _ | t
    · simpa using q0
    · simpa using q1
    · simpa using q2
    · rw [List.getElem?_eq_none (by simp; omega), List.getElem?_eq_none (by simp)]

theorem sectorActs_calls (H : Type) (enc : TypeId × Value → H) (W : World) (base : Nat) (args : Array Value) (ds : List (DataW H)) (p : List MemPlace)
    (hval : ∀ (j : Nat) t v, Try.f3.params[j]? = some t → args[j]? = some v → Value.okWide Try.prog W .any base t v)
    (hA : DataW.TrodAll enc Try.prog W 0 (fun _ => true) true Try.f3.params.toList args.toList ds p) :
    Calls Try.prog 3 args W fun e W' => e = .returned (.bool true) ∧ Below W.heap.size W W' := by
  rw [Try.params3] at hA hval
  obtain ⟨v0, v1, d0, d1, p0, p1, rfl, rfl, rfl, h0, h1⟩ := trodAll_two hA
  have hv1 := hval 1 22 v1 rfl rfl
  have hv0 := hval 0 5 v0 rfl rfl
  obtain ⟨f0, hf0⟩ := h0
  obtain ⟨a1, len1, cap1, rfl⟩ := okWide_slice Try.underlying22 hv1
  obtain ⟨f1, hf1'⟩ := h1
  have hf1 : DataW.trod enc Try.prog W 0 (fun _ => true) true f1 22 [.slice a1 len1 cap1] = some (d1, p1) := hf1'
  clear hf1'
  generalize Value.slice a1 len1 cap1 = v1 at *
  have hc2 : Cell.okWide Try.prog W .any base 22 v1 := by
    simp only [Value.okWide, Try.underlying22] at hv1
    exact hv1
  obtain ⟨k, rfl⟩ := okWide_int Try.underlying5 hv0
  have hf0' : DataW.trod enc Try.prog W 0 (fun _ => true) true f0 5 [.int .u8 k] = some (d0, p0) := hf0
  obtain ⟨k', q0, _, w0⟩ := DataW.trod_int Try.underlying5 hf0'
  simp only [List.cons.injEq, and_true, Value.int.injEq, true_and] at q0
  subst q0
  have e1 : IntKind.u8.min = 0 := by decide
  have e2 : IntKind.u8.max = 255 := by decide
  simp only [Lit.wf, Bool.and_eq_true, decide_eq_true_eq] at w0
  rcases acts_arg hc2 hf1 with rfl | ⟨ba, oa, ca, la, Ta, za, acts, rfl, hna, hacts, hga, hsa⟩
  · exact sectorActs_N W k ⟨by omega, by omega⟩
  · exact sectorActs_A W k ba oa ca la Ta za acts ⟨by omega, by omega⟩ hacts hna hga hsa

theorem sectorActs_lifted (os : Os) (started : os.Started) (H : Type) (enc : TypeId × Value → H) :
    ReturnsInHanded {} Try.checked os 3 .any (Rows.sectorActsSpec.pre6 enc Try.prog Try.f3 Rows.sectorActsRow.domain false) (Rows.sectorActsSpec.post enc Try.prog Try.f3 false true false false) := by
  refine returnsInHanded_of_change (C := Try.checked) Try.own started (by kernel_rfl) Try.func3
    (ChangeSpec.witness6 (enc := enc) (C := Try.checked) false ⟨#[], #[.int .u8 0, .slice none 0 0], []⟩ 8 (by kernel_rfl) (by kernel_rfl) (by kernel_rfl) (by kernel_rfl)) ?_
  intro W base args ds gs before hval0 hW hcnd _
  have hval : ∀ (j : Nat) t v, Try.f3.params[j]? = some t → args[j]? = some v → Value.okWide Try.prog W .any base t v := hval0
  have hW' := hW
  obtain ⟨p, q, hA0, hV, rfl, hfz, hnd⟩ := hW
  have hA : DataW.TrodAll enc Try.prog W 0 (fun _ => true) true Try.f3.params.toList args.toList ds p := hA0
  obtain ⟨rfl, rfl⟩ := trodVars_none hV
  refine (sectorActs_calls H enc W base args ds p hval hA).mono fun e W' ⟨he, hb⟩ => ?_
  subst he
  refine ⟨_, rfl, post_true Try.laidOut ?_ (by kernel_rfl) (by kernel_rfl) Try.underlying4 rfl ?_ hW' hb⟩
  · rw [Try.params3]
    intro t ht
    simp only [List.mem_cons, List.not_mem_nil, or_false] at ht
    rcases ht with rfl | rfl
    · exact ⟨by kernel_rfl, of_decide_eq_true (by kernel_rfl)⟩
    · exact ⟨by kernel_rfl, of_decide_eq_true (by kernel_rfl)⟩
  · rw [Try.params3] at hA
    obtain ⟨v0, v1, d0, d1, p0, p1, _, rfl, _, _, _⟩ := trodAll_two hA
    rfl

theorem sectorActs_holds : Rows.SectorActsSaid :=
  OpenClaim.holds_of_wide 3 Try.f3 rfl rfl rfl rfl rfl rfl rfl ⟨rfl, rfl, rfl, rfl, rfl⟩ rfl rfl rfl rfl rfl (by kernel_rfl) Try.func3 (by kernel_rfl)
    (of_decide_eq_true (by kernel_rfl)) (by unfold Func.isWrapper; first | (rw [if_pos (by decide +kernel)]; kernel_rfl) | (rw [if_neg (by decide +kernel)]; exact ⟨rfl, rfl⟩))
    (fun os started H enc _ => sectorActs_lifted os started H enc)

end Go.Proofs.Ytjljcinpmakhmaa
