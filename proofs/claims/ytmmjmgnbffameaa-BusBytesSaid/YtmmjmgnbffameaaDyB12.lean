/- A word is its four bytes, the lowest one first, and its two halves, however they were stored: the statement. -/
import Derived.Test.YtmmjmgnbffameaaDyB11
import Derived.Test.YtmmjmgnbffameaaDxS
import Derived.Test.YtmmjmgnbffameaaRows
set_option linter.unusedSimpArgs false
set_option linter.unusedVariables false
set_option maxRecDepth 100000
namespace Go.Proofs.Ytmmjmgnbffameaa.bytes
open Go.Dx Go.ChangeShapes Go.WideShapes Go.ChangeAt Go.RowKit

theorem own : ownKnob Try.prog.godebug = none := by kernel_rfl
theorem laidOut : laidOutB Try.prog = true := by kernel_rfl

theorem int_arg {W : World} {base : Nat} {t : TypeId} {k : IntKind} {v : Value} (ht : Try.prog.underlying t = some (.int k)) (h : Cell.okWide Try.prog W .any base t v) : ∃ x, v = .int k x ∧ k.min ≤ x ∧ x ≤ k.max := by
  simp only [Cell.okWide, ht] at h
  cases v with
  | int k' x =>
    simp only [Cell.ok, ht] at h
    obtain ⟨rfl, h1, h2⟩ := h
    exact ⟨x, rfl, h1, h2⟩
  | _ => simp_all [Cell.ok]

theorem busBytes_calls (H : Type) (enc : TypeId × Value → H) (W : World) (base : Nat) (args : Array Value) (ds : List (DataW H)) (p : List MemPlace)
    (hval : ∀ (j : Nat) t v, Try.f4.params[j]? = some t → args[j]? = some v → Value.okWide Try.prog W .any base t v)
    (hA : DataW.TrodAll enc Try.prog W 0 (fun _ => true) true Try.f4.params.toList args.toList ds p) :
    Calls Try.prog 4 args W fun e W' => e = .returned (.bool true) ∧ Below W.heap.size W W' := by
  rw [Try.params4] at hA hval
  obtain ⟨v0, vs0, d0, ds0, p0, q0, ha, _, _, _, r0⟩ := trodAll_cons hA
  obtain ⟨v1, vs1, d1, ds1, p1, q1, rfl, _, _, _, r1⟩ := trodAll_cons r0
  obtain ⟨v2, vs2, d2, ds2, p2, q2, rfl, _, _, _, r2⟩ := trodAll_cons r1
  obtain ⟨rfl, _, _⟩ := trodAll_nil r2
  obtain rfl : args = #[v0, v1, v2] := by cases args; simp_all
  have hv0 := hval 0 22 v0 rfl rfl
  have hv1 := hval 1 42 v1 rfl rfl
  have hv2 := hval 2 5 v2 rfl rfl
  simp only [Value.okWide, Try.underlying22] at hv0
  simp only [Value.okWide, Try.underlying42] at hv1
  simp only [Value.okWide, Try.underlying5] at hv2
  have e1 : IntKind.u32.min = 0 := by decide
  have e2 : IntKind.u32.max = 4294967295 := by decide
  have e3 : IntKind.u8.min = 0 := by decide
  have e4 : IntKind.u8.max = 255 := by decide
  obtain ⟨x, rfl, hx1, hx2⟩ := int_arg Try.underlying22 hv0
  obtain ⟨a, rfl, ha1, ha2⟩ := int_arg Try.underlying5 hv2
  obtain ⟨cs, rfl, hsz, ts, hts, _, hrow⟩ := hv1
  have hts' : Try.prog.cellTypes Try.prog.depth 42 = some [5, 5, 5, 5] := by kernel_rfl
  rw [hts'] at hts
  cases hts
  have hsz4 : cs.size = 4 := hsz.trans (by kernel_rfl)
  have cell : ∀ i, i < 4 → ∃ y : Nat, cs[i]? = some (.int .u8 (y : Int)) ∧ y < 256 := by
    intro i hi
    obtain ⟨u, hu, hok⟩ := hrow i cs[i] (by simp [hsz4, hi])
    have hu5 : u = 5 := by
      rcases (show i = 0 ∨ i = 1 ∨ i = 2 ∨ i = 3 by omega) with rfl | rfl | rfl | rfl <;> simp at hu <;> exact hu.symm
    subst hu5
    obtain ⟨y, hy, h1, h2⟩ := int_arg Try.underlying5 hok
    refine ⟨y.toNat, ?_, by omega⟩
    rw [show ((y.toNat : Nat) : Int) = y by omega, ← hy]
    simp [hsz4, hi]
  obtain ⟨l0, c0, g0⟩ := cell 0 (by omega)
  obtain ⟨l1, c1, g1⟩ := cell 1 (by omega)
  obtain ⟨l2, c2, g2⟩ := cell 2 (by omega)
  obtain ⟨l3, c3, g3⟩ := cell 3 (by omega)
  have hcs : cs = #[.int .u8 (l0 : Int), .int .u8 (l1 : Int), .int .u8 (l2 : Int), .int .u8 (l3 : Int)] := by
    apply Array.ext_getElem?
    intro i
    rcases i with _ | _ | _ | _ | i
    · exact c0
    · exact c1
    · exact c2
    · exact c3
    · rw [Array.getElem?_eq_none (by omega), Array.getElem?_eq_none (by simp)]
  subst hcs
  have := busBytes_C W x.toNat a.toNat (fun i => if i = 0 then l0 else if i = 1 then l1 else if i = 2 then l2 else l3) (by omega) (by omega) (by
    intro i
    split
    · exact g0
    · split
      · exact g1
      · split
        · exact g2
        · exact g3)
  rw [show ((x.toNat : Nat) : Int) = x by omega, show ((a.toNat : Nat) : Int) = a by omega] at this
  exact this

theorem lifted (os : Os) (started : os.Started) (H : Type) (enc : TypeId × Value → H) :
    ReturnsInHanded {} Try.checked os 4 .any (Rows.busBytesSpec.pre6 enc Try.prog Try.f4 Rows.busBytesRow.domain false) (Rows.busBytesSpec.post enc Try.prog Try.f4 false true false false) := by
  refine returnsInHanded_of_change (C := Try.checked) own started (by kernel_rfl) Try.func4
    (ChangeSpec.witness6 (enc := enc) (C := Try.checked) false ⟨#[], #[.int .u32 0, .agg #[.int .u8 0, .int .u8 0, .int .u8 0, .int .u8 0], .int .u8 0], []⟩ 8 (by kernel_rfl) (by kernel_rfl) (by kernel_rfl) (by kernel_rfl)) ?_
  intro W base args ds gs before hval0 hW hcnd _
  have hval : ∀ (j : Nat) t v, Try.f4.params[j]? = some t → args[j]? = some v → Value.okWide Try.prog W .any base t v := hval0
  have hW' := hW
  obtain ⟨p, q, hA0, hV, rfl, hfz, hnd⟩ := hW
  have hA : DataW.TrodAll enc Try.prog W 0 (fun _ => true) true Try.f4.params.toList args.toList ds p := hA0
  obtain ⟨rfl, rfl⟩ := trodVars_none hV
  refine (busBytes_calls H enc W base args ds p hval hA).mono fun e W' ⟨he, hb⟩ => ?_
  subst he
  refine ⟨_, rfl, post_true laidOut ?_ (by kernel_rfl) (by kernel_rfl) Try.underlying4 rfl ?_ hW' hb⟩
  · rw [Try.params4]
    intro t ht
    simp only [List.mem_cons, List.not_mem_nil, or_false] at ht
    rcases ht with rfl | rfl | rfl <;> exact ⟨by kernel_rfl, of_decide_eq_true (by kernel_rfl)⟩
  · rw [Try.params4] at hA
    obtain ⟨v0, vs0, d0, ds0, p0, q0, ha, rfl, _, _, r0⟩ := trodAll_cons hA
    obtain ⟨v1, vs1, d1, ds1, p1, q1, _, rfl, _, _, r1⟩ := trodAll_cons r0
    obtain ⟨v2, vs2, d2, ds2, p2, q2, _, rfl, _, _, r2⟩ := trodAll_cons r1
    obtain ⟨_, rfl, _⟩ := trodAll_nil r2
    rfl

theorem holds : Rows.BusBytesSaid :=
  OpenClaim.holds_of_wide 4 Try.f4 rfl rfl rfl rfl rfl rfl rfl ⟨rfl, rfl, rfl, rfl, rfl⟩ rfl rfl rfl rfl rfl (by kernel_rfl) Try.func4 (by kernel_rfl)
    (of_decide_eq_true (by kernel_rfl)) (by unfold Func.isWrapper; first | (rw [if_pos (by decide +kernel)]; kernel_rfl) | (rw [if_neg (by decide +kernel)]; exact ⟨rfl, rfl⟩))
    (fun os started H enc _ => lifted os started H enc)

end Go.Proofs.Ytmmjmgnbffameaa.bytes
