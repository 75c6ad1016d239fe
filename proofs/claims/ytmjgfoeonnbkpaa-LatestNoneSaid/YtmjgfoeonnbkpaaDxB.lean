/- Segments of lists of cells, a program's types as small data, and what loads and stores of tracked blocks come to. -/
import Derived.Test.YtmjgfoeonnbkpaaDxA
import Derived.Laws.Cells
import Derived.Laws.CopyRow
import Derived.ChangeKeysEq
namespace Go.Dx
open Go.RowKit

/-! ### Segments -/

def ld1 : List SV → Nat → SV
  | [], _ => .xx
  | a :: _, 0 => a
  | _ :: l, n + 1 => ld1 l n

def hdN : List SV → Nat → List SV
  | _, 0 => []
  | [], _ + 1 => []
  | a :: l, n + 1 => a :: hdN l n

def ldN : List SV → Nat → Nat → List SV
  | l, 0, n => hdN l n
  | [], _ + 1, _ => []
  | _ :: l, o + 1, n => ldN l o n

def ovN : List SV → List SV → List SV
  | l, [] => l
  | [], _ :: _ => []
  | _ :: l, y :: r => y :: ovN l r

def stN : List SV → Nat → List SV → List SV
  | l, 0, ys => ovN l ys
  | [], _ + 1, _ => []
  | a :: l, o + 1, ys => a :: stN l o ys

theorem ld1_zero (a : SV) (l : List SV) : ld1 (a :: l) 0 = a := rfl
theorem ld1_succ (a : SV) (l : List SV) (n : Nat) : ld1 (a :: l) (n + 1) = ld1 l n := rfl
theorem hdN_zero (l : List SV) : hdN l 0 = [] := by cases l <;> rfl
theorem hdN_succ (a : SV) (l : List SV) (n : Nat) : hdN (a :: l) (n + 1) = a :: hdN l n := rfl
theorem ldN_zero (l : List SV) (n : Nat) : ldN l 0 n = hdN l n := by cases l <;> rfl
theorem ldN_succ (a : SV) (l : List SV) (o n : Nat) : ldN (a :: l) (o + 1) n = ldN l o n := rfl
theorem ovN_nil (l : List SV) : ovN l [] = l := by cases l <;> rfl
theorem ovN_cons (a y : SV) (l r : List SV) : ovN (a :: l) (y :: r) = y :: ovN l r := rfl
theorem stN_zero (l ys : List SV) : stN l 0 ys = ovN l ys := by cases l <;> rfl
theorem stN_succ (a : SV) (l : List SV) (o : Nat) (ys : List SV) : stN (a :: l) (o + 1) ys = a :: stN l o ys := rfl

theorem ld1_eq (l : List SV) (o : Nat) : ld1 l o = (l[o]?).getD .xx := by
  induction l generalizing o with
  | nil => simp [ld1]
  | cons a l ih => cases o with
    | zero => simp [ld1]
    | succ o => simp [ld1, ih]

theorem hdN_eq (l : List SV) (n : Nat) : hdN l n = l.take n := by
  induction l generalizing n with
  | nil => cases n <;> rfl
  | cons a l ih => cases n with
    | zero => rfl
    | succ n => simp [hdN, ih]

theorem ldN_eq (l : List SV) (o n : Nat) : ldN l o n = (l.drop o).take n := by
  induction l generalizing o with
  | nil => cases o with
    | zero => simp [ldN, hdN_eq]
    | succ o => simp [ldN]
  | cons a l ih => cases o with
    | zero => simp [ldN, hdN_eq]
    | succ o => simp [ldN, ih]

theorem ovN_eq (l ys : List SV) (h : ys.length ≤ l.length) : ovN l ys = ys ++ l.drop ys.length := by
  induction ys generalizing l with
  | nil => simp [ovN_nil]
  | cons y r ih => cases l with
    | nil => simp at h
    | cons a l => simp at h; simp [ovN, ih l h]

theorem stN_eq (l : List SV) (o : Nat) (ys : List SV) (h : o + ys.length ≤ l.length) : stN l o ys = l.take o ++ ys ++ l.drop (o + ys.length) := by
  induction l generalizing o with
  | nil =>
    simp at h
    obtain ⟨rfl, rfl⟩ := h
    simp [stN, ovN]
  | cons a l ih => cases o with
    | zero => simp only [stN_zero, Nat.zero_add, List.take_zero, List.nil_append]; exact ovN_eq _ _ (by simpa using h)
    | succ o =>
      simp at h
      have e : o + 1 + ys.length = (o + ys.length) + 1 := by omega
      simp [stN, ih o (by omega), e]

theorem stN_length (l : List SV) (o : Nat) (ys : List SV) (h : o + ys.length ≤ l.length) : (stN l o ys).length = l.length := by
  rw [stN_eq l o ys h]; simp; omega

theorem denL_take (l : List SV) (n : Nat) : denL (l.take n) = (denL l).take n := by simp [denL_map, List.map_take]
theorem denL_drop (l : List SV) (n : Nat) : denL (l.drop n) = (denL l).drop n := by simp [denL_map, List.map_drop]
theorem denL_append (l r : List SV) : denL (l ++ r) = denL l ++ denL r := by simp [denL_map]
theorem denL_get (l : List SV) (n : Nat) : (denL l)[n]? = (l[n]?).map den := by simp [denL_map]

/-! ### Values of one cell -/

def one : SV → Bool
  | .v y => y.oneCell'
  | .xx | .g _ | .u _ => false
  | _ => true

def allOne : List SV → Bool
  | [] => true
  | a :: l => one a && allOne l

theorem one_den {y : SV} (h : one y = true) : (den y).oneCell' = true := by
  cases y <;> simp_all [one, den, Value.oneCell']

theorem allOne_den {l : List SV} (h : allOne l = true) : ∀ y ∈ denL l, y.oneCell' = true := by
  induction l with
  | nil => simp [denL]
  | cons a l ih =>
    simp only [allOne, Bool.and_eq_true] at h
    intro y hy
    simp only [denL] at hy
    rcases List.mem_cons.1 hy with rfl | hy
    · exact one_den h.1
    · exact ih h.2 y hy

theorem one_cells {y : SV} (h : one y = true) : (den y).cells = #[den y] := by
  have := one_den h
  cases hd : den y <;> simp_all [Value.oneCell', Value.cells]

/-! ### Types -/

inductive TD where
  | int (k : IntKind)
  | bool
  | str
  | ptr (e : Nat)
  | slice (e sz by_ : Nat)
  | arr (n e sz : Nat) (ag : Bool)
  | map (k e : Nat)
  | st (fs : List (Nat × Nat × Bool))
  | iface (n : Nat)
  | fn
  | other

structure TI where
  sz : Nat
  agg : Bool
  d : TD

def aggOf : TypeDesc → Bool
  | .struct _ | .array _ _ => true
  | _ => false

/-- A type's cells, its bytes, and whether it is a struct or an array; nothing of a type that is none. -/
def szOf (P : Program) (t : TypeId) : Option (Nat × Nat × Bool) :=
  match P.info? t, P.underlying t with
  | some i, some d => some (i.size, i.bytes, aggOf d)
  | _, _ => none

def fdOf (P : Program) : List Field → Option (List (Nat × Nat × Bool))
  | [] => some []
  | f :: l =>
    match szOf P f.type, fdOf P l with
    | some x, some r => some ((f.offset, x.1, x.2.2) :: r)
    | _, _ => none

def tdOf (P : Program) : TypeDesc → TD
  | .int k => .int k
  | .bool => .bool
  | .string => .str
  | .pointer e => .ptr e
  | .slice e => match szOf P e with | some x => .slice e x.1 x.2.1 | none => .other
  | .array n e => match szOf P e with | some x => .arr n e x.1 x.2.2 | none => .other
  | .map k e => .map k e
  | .struct fs => match fdOf P fs.toList with | some l => .st l | none => .other
  | .interface ms => .iface ms.size
  | .func _ _ _ => .fn
  | _ => .other

def ty (P : Program) (t : TypeId) : Option TI :=
  match P.info? t, P.underlying t with
  | some i, some d => some ⟨i.size, aggOf d, tdOf P d⟩
  | _, _ => none

/-- A type's zero value, as cells. -/
def zv (P : Program) (t : TypeId) : Option (List SV) := (P.info? t).bind fun i => i.zero.map fun z => z.cells.toList.map SV.v

theorem ty_spec {P : Program} {t : TypeId} {ti : TI} (h : ty P t = some ti) : ∃ i d, P.info? t = some i ∧ P.underlying t = some d ∧ ti = ⟨i.size, aggOf d, tdOf P d⟩ := by
  unfold ty at h
  split at h
  · rename_i i d h1 h2
    exact ⟨i, d, h1, h2, by simpa using h.symm⟩
  · simp at h

section
variable {P : Program} {w : World}

theorem run_sizeOf' {t : TypeId} {i : TypeInfo} (h : P.info? t = some i) : (sizeOf t).run P w = .ok i.size w := by
  simp [sizeOf, typeInfo, h]

theorem run_isAgg' {t : TypeId} {d : TypeDesc} (h : P.underlying t = some d) : (isAgg t).run P w = .ok (aggOf d) w := by
  cases d <;> simp [isAgg, run_underlying h, aggOf]

theorem run_zeroValue' {t : TypeId} {l : List SV} (h : zv P t = some l) : ∃ z, (zeroValue t).run P w = .ok z w ∧ z.cells.toList = denL l := by
  unfold zv at h
  cases hi : P.info? t with
  | none => simp [hi] at h
  | some i =>
    cases hz : i.zero with
    | none => simp [hi, hz] at h
    | some z =>
      simp [hi, hz] at h
      refine ⟨z, by simp [zeroValue, typeInfo, hi, hz], ?_⟩
      rw [← h, denL_map, List.map_map]
      have : den ∘ SV.v = id := rfl
      simp [this]

theorem add_none (b o n : Nat) : (⟨b, o, none⟩ : Addr).add n = ⟨b, o + n, none⟩ := by unfold Addr.add; split <;> simp_all

/-! ### Loads and stores -/

theorem cell_at {l : List SV} {T b o : Nat} {fz : Nat × Nat} (hg : w.heap[b]? = some (.cells (denL l).toArray T fz)) : w.cell? ⟨b, o, none⟩ = (l[o]?).map den := by
  simp [World.cell?, hg, denL_get]

theorem run_loadCells' {l : List SV} {T b o n : Nat} {fz : Nat × Nat} (hg : w.heap[b]? = some (.cells (denL l).toArray T fz)) (hn : o + n ≤ l.length) :
    (loadCells ⟨b, o, none⟩ n).run P w = .ok (denL (ldN l o n)).toArray w := by
  have hlen : (denL (ldN l o n)).length = n := by rw [denL_length, ldN_eq]; simp; omega
  have := run_loadCells_list (P := P) w ⟨b, o, none⟩ (denL (ldN l o n)) (fun j v hj => by
    rw [add_none, cell_at hg]
    rw [ldN_eq, denL_get] at hj
    rw [List.getElem?_take] at hj
    split at hj
    · rw [List.getElem?_drop] at hj
      exact hj
    · simp at hj)
  rw [hlen] at this
  exact this

theorem run_load1 {l : List SV} {T b o : Nat} {fz : Nat × Nat} (hg : w.heap[b]? = some (.cells (denL l).toArray T fz)) (hn : o < l.length) :
    (load ⟨b, o, none⟩).run P w = .ok (den (ld1 l o)) w := by
  have h1 : w.cell? ⟨b, o, none⟩ = some (den l[o]) := by rw [cell_at hg]; simp [hn]
  have h2 : ld1 l o = l[o] := by rw [ld1_eq]; simp [hn]
  simp [h1, h2]

theorem run_loadVar' {T : TypeId} {ti : TI} (ht : ty P T = some ti) {l : List SV} {T' b o : Nat} {fz : Nat × Nat} (hg : w.heap[b]? = some (.cells (denL l).toArray T' fz)) :
    (ti.agg = true → o + ti.sz ≤ l.length → (Instr.loadAt T (.pointer (some ⟨b, o, none⟩))).run P w = .ok (den (.g (ldN l o ti.sz))) w) ∧
    (ti.agg = false → o < l.length → (Instr.loadAt T (.pointer (some ⟨b, o, none⟩))).run P w = .ok (den (ld1 l o)) w) := by
  obtain ⟨i, d, hi, hd, rfl⟩ := ty_spec ht
  constructor
  · intro ha hn
    simp only at ha hn
    simp [Instr.loadAt, Instr.sureAddr, loadVar, run_isAgg' hd, ha, run_sizeOf' hi, run_loadCells' hg hn, den]
  · intro ha hn
    simp only at ha
    simp only [Instr.loadAt, Instr.sureAddr, loadVar, Sem.run_bind, Sem.run_pure, Result.andThen_ok, run_isAgg' hd, ha, Bool.false_eq_true, if_false]
    exact run_load1 hg hn

theorem setRow_facts (g : Nat) (c : Array Value) {cur : Array Value} {t : TypeId} {fz : Nat × Nat} (hg : w.heap[g]? = some (.cells cur t fz)) :
    (w.setRow g c).os = w.os ∧ (w.setRow g c).tape = w.tape ∧ OutK w (w.setRow g c) ∧ (w.setRow g c).heap.size = w.heap.size ∧
    (w.setRow g c).heap[g]? = some (.cells c t fz) ∧ ∀ b, b ≠ g → (w.setRow g c).heap[b]? = w.heap[b]? := by
  refine ⟨rfl, rfl, OutK.refl w, by simp [World.setRow], setRow_heap w g cur c t fz hg, fun b hb => ?_⟩
  simp only [World.setRow, Array.getElem?_modify]
  rw [if_neg (fun e => hb e.symm)]

theorem run_storeVar' {T : TypeId} {ti : TI} (ht : ty P T = some ti) {l ys : List SV} {y : Value} {T' b o : Nat} (hg : w.heap[b]? = some (denO (.c l T')))
    (hy : y.cells.toList = denL ys) (hl : ys.length = ti.sz) (ho : o + ys.length ≤ l.length) (h1 : allOne ys = true) :
    (Instr.storeAt T (.pointer (some ⟨b, o, none⟩)) y).run P w = .ok () (w.setRow b (denL (stN l o ys)).toArray) := by
  obtain ⟨i, d, hi, hd, rfl⟩ := ty_spec ht
  have hsz : y.cells.size = i.size := by
    have := congrArg List.length hy
    simp at this
    simp only at hl
    omega
  have hst := run_storeCells_at P b o T' y.cells.toList 0 (denL l).toArray w hg (by rw [hy]; simpa using ho) (by rw [hy]; exact allOne_den h1)
  simp only [Instr.storeAt, Instr.sureAddr, storeVar, Sem.run_bind, Sem.run_pure, Result.andThen_ok, run_sizeOf' hi, hsz, ne_eq, not_true, if_false, hst]
  congr 3
  rw [stN_eq l o ys ho, denL_append, denL_append, denL_take, denL_drop, hy]
  simp
end

end Go.Dx
