/- append(nil, make ..). -/
import Derived.Test.YtmjgfoeonnbkpaaDxX
set_option linter.unusedSimpArgs false
set_option linter.unusedVariables false
namespace Go.Dx
open Go.RowKit

section
variable {P : Program} {E : Env} {w : World}

theorem run_append_zeros (t u ty e : TypeId) (k : IntKind) (i : TypeInfo) (z : Value) (ht : P.underlying t = some (.slice e)) (hu : P.underlying u = some (.int k)) (hi : P.info? e = some i) (hz : i.zero = some z)
    (n : Nat) (hs : 0 < i.size) (h0 : 0 < n) (h63 : (n : Int) ≤ 9223372036854775807) (h48 : n * i.bytes ≤ 281474976710656) :
    (Builtin.append_ #[t, u] ty #[.slice none 0 0, .int .i64 (n : Int)]).run P w =
      .ok (.slice (some ⟨w.heap.size, 0, none⟩) n (grownCap w n 0 e)) (w.drew.alloc (.cells (Builtin.zeroCells z.cells n ++ Builtin.zeroCells z.cells (grownCap w n 0 e - n)) e)) := by
  have hn : n ≠ 0 := by omega
  have h63' : ¬ (9223372036854775807 < (n : Int)) := by omega
  have h48' : ¬ (281474976710656 < Builtin.nextslicecap n 0 * i.bytes) := by rw [nextslicecap_zero h0]; omega
  have h48'' : ¬ (281474976710656 < (n : Int) * (i.bytes : Int)) := by
    have : ((n * i.bytes : Nat) : Int) ≤ 281474976710656 := by omega
    rw [Int.natCast_mul] at this
    omega
  have hw : IntKind.i64.wrap (n : Int) = (n : Int) := by
    exact wrap_in ⟨by simp only [kmin]; omega, by simp only [kmax]; omega⟩
  have hn0 : ¬ ((n : Int) < 0) := by omega
  have hs' : i.size ≠ 0 := by omega
  simp [Builtin.append_, run_underlying ht, run_underlying hu, sizeOf, typeInfo, zeroValue, hi, hz, Builtin.lenOf, hn, h63', h48', h48'', hw, hn0, hs', Question.forced, run_firstCells_none, newRow, grownCap, asInt, asIntOf]
  intro h
  rcases Nat.mul_eq_zero.1 h with h | h <;> omega

theorem rpt_add (z : List SV) : ∀ n m : Nat, rpt (n + m) z = rpt n z ++ rpt m z
  | 0, m => by simp [rpt_zero]
  | n + 1, m => by rw [Nat.succ_add, rpt_succ, rpt_succ, rpt_add z n m, List.append_assoc]

theorem LeafC.appendN {all r : List Oper} {k : List Fr} {S : St} {T u e sz by_ nn : Nat} {ag : Bool} {ik : IntKind} (ht : ty P T = some ⟨nn, ag, .slice e sz by_⟩) (hu : P.underlying u = some (.int ik)) {z : List SV} (hz : zv P e = some z) (hzl : z.length = sz) (hz0 : sz ≠ 0)
    {x y : Operand} {n : Nat} (hx : ev S x = .v (.slice none 0 0)) (hy : ev S y = .v (.int .i64 (n : Int))) (h0 : 0 < n) (h48 : n * by_ ≤ 281474976710656) (h63 : (n : Int) ≤ 9223372036854775807) (N : Nat)
    {d : Option Nat} {ty_ : TypeId} {pos : String} {af : Array Edge} {g : Option (Nat × Bool)}
    (hn : (dOf d < S.n ∨ d = none) ∧ ∀ b c, n ≤ c ∧ c ≤ 9223372036854775807 → ex P E N (.L all r k (put1 { S with nt := S.nt + 1, hp := ⟨S.nt, b, true, .a (rpt c z) e⟩ :: S.hp } d (.s S.nt b 0 n c)))) :
    LeafC P E all ⟨d, .call ⟨.builtin .append, [x, y].toArray, [T, u].toArray⟩, ty_, pos, af, g⟩ r k S := by
  intro a w hok
  have e1 : a.eval x = .slice none 0 0 := by rw [hok.eval (x := x) (by rw [hx]; simp), hx]; rfl
  have e2 : a.eval y = .int .i64 (n : Int) := by rw [hok.eval (x := y) (by rw [hy]; simp), hy]; rfl
  obtain ⟨hu1, ag', hs⟩ := ty_slice ht
  obtain ⟨i, hi, hi1, hi2⟩ := (szOf_spec hs).2.2
  obtain ⟨zz, hz1, hz2⟩ := run_zeroValue' (w := w) (t := e) hz
  have hiz : i.zero = some zz := by
    simp only [zeroValue, typeInfo, Sem.run_bind] at hz1
    have : (typeInfo e).run P w = .ok i w := by simp [typeInfo, hi]
    cases hzero : i.zero with
    | none => simp [hi, hzero] at hz1
    | some q => simp [hi, hzero] at hz1; rw [hz1]
  have hcells : zz.cells = (denL z).toArray := by rw [← hz2]
  have hzne : z ≠ [] := by rintro rfl; simp at hzl; exact hz0 hzl.symm
  have hge := grownCap_ge w n 0 e
  have hle2 := grownCap_le_maxLen w n 0 e (by simp only [maxLen]; omega)
  simp only [maxLen] at hle2
  have hrun := run_append_zeros (P := P) (w := w) T u ty_ e ik i zz hu1 hu hi hiz n (by omega) h0 h63 (by rw [hi2]; exact h48)
  refine ⟨fun f _ => fen_fn _ f, ?_⟩
  rw [semAt_fen _ _ (by simp)]
  have hexec : (execOp a.eval ⟨d, .call ⟨.builtin .append, [x, y].toArray, [T, u].toArray⟩, ty_, pos, af, g⟩).run P w = .ok (.value (.slice (some ⟨w.heap.size, 0, none⟩) n (grownCap w n 0 e))) (w.drew.alloc (.cells (Builtin.zeroCells zz.cells n ++ Builtin.zeroCells zz.cells (grownCap w n 0 e - n)) e)) := by
    simp [execOp, resolve, invoke, builtin, e1, e2] at hrun ⊢
    rw [hrun]
    rfl
  rw [hexec]
  have hobj : Obj.cells (Builtin.zeroCells zz.cells n ++ Builtin.zeroCells zz.cells (grownCap w n 0 e - n)) e = denO (.a (rpt (grownCap w n 0 e) z) e) := by
    rw [zeroCells_eq hcells hzne, zeroCells_eq hcells hzne]
    simp only [denO]
    have : rpt (grownCap w n 0 e) z = rpt n z ++ rpt (grownCap w n 0 e - n) z := by
      rw [← rpt_add]
      congr 1
      omega
    rw [this, denL_append]
    simp
  rw [hobj]
  have hm' := drew_alloc_mem hok.mem S.nt (.a (rpt (grownCap w n 0 e) z) e)
  have h1 : Ok E { S with nt := S.nt + 1, hp := ⟨S.nt, w.heap.size, true, .a (rpt (grownCap w n 0 e) z) e⟩ :: S.hp } a (w.drew.alloc (denO (.a (rpt (grownCap w n 0 e) z) e))) := ⟨hok.df, hok.n, hok.sl, hm'⟩
  exact ex_sem N _ (hn.2 w.heap.size (grownCap w n 0 e) ⟨hge, by omega⟩) _ _ (h1.put1 d hn.1 (v := .slice (some ⟨w.heap.size, 0, none⟩) n (grownCap w n 0 e)) (y := .s S.nt w.heap.size 0 n (grownCap w n 0 e)) (fun _ => rfl))

end
end Go.Dx
