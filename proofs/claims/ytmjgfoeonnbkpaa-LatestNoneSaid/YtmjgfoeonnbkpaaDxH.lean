/- The model's run of an operation is as 'opv' says: memory. -/
import Derived.Test.YtmjgfoeonnbkpaaDxG
namespace Go.Dx
open Go.RowKit

section
variable {P : Program} {E : Env} {S : St} {a : Act} {w : World}

theorem td_str {d : TypeDesc} (h : tdOf P d = .str) : d = .string := by
  cases d <;> simp only [tdOf] at h <;> (try split at h) <;> simp_all

/-- A value's run, lifted to an operation's. -/
theorem lift_value {hp : List Ent} {s : Sem Value} {r : Res} (h : VSem w (s.run P w) r) : RSem hp w ((do pure (.value (← s)) : Sem Next).run P w) r :=
  h.lift fun v hv => by simp [hv]

theorem alx_sem (T : TypeId) (old : Value) : RSem S.hp w ((do pure (.value (← Instr.alloc T true old)) : Sem Next).run P w) (alx (zv P T) T) := by
  cases hz : zv P T with
  | none => trivial
  | some l =>
    obtain ⟨z, hz1, hz2⟩ := run_zeroValue' (w := w) hz
    have hc : z.cells = (denL l).toArray := by rw [← hz2]
    simp [alx, RSem, Instr.alloc, hz1, newVar, newRow, hc, denO]

theorem okc_cells {v : Value} {y : SV} (h : Kn v y) (ho : okc y = true) : v.cells.toList = denL (cl y) := by
  cases y
  case g l => rw [h.of rfl]; simp [den, cl, Value.cells]
  case xx => simp [okc, one] at ho
  all_goals
    have hk := h.of rfl
    simp only [okc] at ho
    rw [hk, one_cells ho]
    rfl

theorem bxv_sem (T : TypeId) {v : Value} {y : SV} (h : Kn v y) : RSem S.hp w ((do pure (.value (← Instr.box T v)) : Sem Next).run P w) (bxv T y) := by
  have key : okc y = true → (do pure (.value (← Instr.box T v)) : Sem Next).run P w = .ok (.value (.pointer (some ⟨w.heap.size, 0, none⟩))) { w with heap := w.heap.push (denO (.c (cl y) T)) } := fun ho => by
    have hc : v.cells = (denL (cl y)).toArray := by rw [← okc_cells h ho]
    simp [Instr.box, newVar, newRow, hc, denO]
  cases y
  case g l => exact key rfl
  all_goals exact fun ho => key ho

theorem nlv_sem (o : Operand) {y : SV} (h : Kn (a.eval o) y) (ty_ : TypeId) (pos : String) (af : Array Edge) (gd : Option (Nat × Bool)) (dst : Option Tmp) :
    RSem S.hp w ((execOp a.eval { dst := dst, op := .nilCheck o, type := ty_, pos := pos, after := af, guard := gd }).run P w) (nlv y) := by
  cases y <;> (try trivial)
  all_goals
    have hk := h.of rfl
    refine ⟨_, ?_, fun _ => rfl⟩
    simp [execOp, hk, den]

/-- The block that a tag leads to, in a world that is as the state says. -/
theorem Ok.at (h : Ok E S a w) {t : Nat} {e : Ent} (he : hk S.hp t = some e) : w.heap[e.b]? = some (denO e.o) := h.mem.at he

theorem seg_sem {T : TypeId} {ti : TI} (ht : ty P T = some ti) {l : List SV} {T' b o : Nat} {fz : Nat × Nat} (hg : w.heap[b]? = some (.cells (denL l).toArray T' fz)) :
    VSem w ((Instr.loadAt T (.pointer (some ⟨b, o, none⟩))).run P w) (seg l ti o) := by
  obtain ⟨h1, h2⟩ := run_loadVar' (o := o) ht hg
  unfold seg
  cases ha : ti.agg
  · exact fun hn => VSem.val (h2 ha hn)
  · exact fun hn => VSem.val (h1 ha hn)

theorem ldo_sem {T : TypeId} {ti : TI} (ht : ty P T = some ti) {ob : HObj} {b o : Nat} (hg : w.heap[b]? = some (denO ob)) :
    VSem w ((Instr.loadAt T (.pointer (some ⟨b, o, none⟩))).run P w) (ldo ob T ti o) := by
  cases ob with
  | c l T' =>
    cases hc : (ti.agg && (Nat.beq T T' && Nat.beq o 0))
    · simp only [ldo, hc, cond_false]; exact seg_sem ht hg
    · simp only [ldo, hc, cond_true]
      simp only [Bool.and_eq_true] at hc
      obtain ⟨ha, _, ho⟩ := hc
      have ho : o = 0 := Nat.eq_of_beq_eq_true ho
      subst ho
      intro hl
      have := (run_loadVar' (o := 0) ht hg).1 ha (by omega)
      rw [ldN_eq] at this
      simp only [List.drop_zero] at this
      rw [List.take_of_length_le (by omega)] at this
      exact VSem.val this
  | a l T' => exact seg_sem ht hg
  | z l T' fz => exact seg_sem ht hg
  | o y => trivial

theorem ldv_sem (h : Ok E S a w) (T : TypeId) {v : Value} {y : SV} (hv : Kn v y) : VSem w ((Instr.loadAt T v).run P w) (ldv P S.hp T y) := by
  cases y <;> (try trivial)
  rename_i t b o
  rw [hv.of rfl]
  cases ht : ty P T with
  | none => simp only [ldv, ht]; trivial
  | some ti =>
    cases he : hk S.hp t with
    | none => simp only [ldv, he]; cases ty P T <;> trivial
    | some e =>
      simp only [ldv, ht, he]
      intro hb
      subst hb
      exact ldo_sem ht (h.at he)

theorem turned_setRow {e : Ent} {l : List SV} {T : Nat} (c : List SV) (ob : HObj) (hg : w.heap[e.b]? = some (.cells (denL l).toArray T)) (ho : denO ob = .cells (denL c).toArray T) :
    Turned w (w.setRow e.b (denL c).toArray) e ob := by
  obtain ⟨h1, h2, h3, h4, h5, h6⟩ := setRow_facts e.b (denL c).toArray hg
  exact ⟨h1, h2, h3, h4, by rw [h5, ho], h6⟩

theorem sto_sem {T : TypeId} {ti : TI} (ht : ty P T = some ti) {e : Ent} {t o : Nat} {y : Value} {ys : List SV} (he : hk S.hp t = some e) (hw : e.w = true) (hg : w.heap[e.b]? = some (denO e.o))
    (hy : y.cells.toList = denL ys) (h1 : allOne ys = true) (hl : ys.length = ti.sz) :
    RSem S.hp w ((do Instr.storeAt T (.pointer (some ⟨e.b, o, none⟩)) y; pure .skip : Sem Next).run P w) (sto e.o T ti t o ys) := by
  cases ho : e.o with
  | c l T' =>
    rw [ho] at hg
    cases hc : (Nat.beq T T' && Nat.beq o 0)
    · simp only [sto, hc, cond_false]
      intro hn
      exact ⟨e, _, he, hw, by simp [run_storeVar' ht hg hy hl hn h1], turned_setRow (stN l o ys) _ hg rfl⟩
    · simp only [sto, hc, cond_true]
      simp only [Bool.and_eq_true] at hc
      have ho : o = 0 := Nat.eq_of_beq_eq_true hc.2
      subst ho
      intro hn
      refine ⟨e, _, he, hw, by simp [run_storeVar' (o := 0) ht hg hy hl (by omega) h1]; rfl, ?_⟩
      have := turned_setRow (stN l 0 ys) (.c (stN l 0 ys) T') hg rfl
      rw [stN_eq l 0 ys (by omega)] at this ⊢
      simp only [List.take_zero, List.nil_append, Nat.zero_add, List.drop_of_length_le (show l.length ≤ ys.length by omega), List.append_nil] at this ⊢
      exact this
  | a l T' =>
    rw [ho] at hg
    intro hn
    exact ⟨e, _, he, hw, by simp [run_storeVar' (T' := T') ht hg hy hl hn h1], turned_setRow (stN l o ys) _ hg rfl⟩
  | z _ _ _ => trivial
  | o y => trivial

theorem stv_sem (h : Ok E S a w) (T : TypeId) {v u : Value} {y z : SV} (hv : Kn v y) (hu : Kn u z) : RSem S.hp w ((do Instr.storeAt T v u; pure .skip : Sem Next).run P w) (stv P S.hp T y z) := by
  cases y <;> (try trivial)
  rename_i t b o
  rw [hv.of rfl]
  cases ht : ty P T with
  | none => simp only [stv, ht]; trivial
  | some ti =>
    cases he : hk S.hp t with
    | none => simp only [stv, he]; cases ty P T <;> trivial
    | some e =>
      simp only [stv, ht, he]
      rintro ⟨hb, hw, ho, h1, hl⟩
      subst hb
      exact sto_sem ht he hw (h.at he) (okc_cells hu ho) h1 hl

theorem fav_sem (T f : Nat) {v : Value} {y : SV} (hv : Kn v y) : VSem w ((Instr.fieldAt T v f).run P w) (fav P T f y) := by
  cases y <;> (try trivial)
  rename_i t b o
  rw [hv.of rfl]
  cases ht : ty P T with
  | none => simp only [fav, ht]; trivial
  | some ti =>
    obtain ⟨n, ag, td⟩ := ti
    simp only [fav, ht]
    cases td <;> (try trivial)
    rename_i fs
    obtain ⟨fa, h1, h2⟩ := ty_st ht
    obtain ⟨hl, hf⟩ := fdOf_spec h2
    rintro ⟨hlt, hne⟩
    have hlt' : f < fa.size := by simpa [hl] using hlt
    obtain ⟨x, hx, hx2⟩ := hf f fa[f] (by simp [hlt'])
    rw [hx2] at hne ⊢
    obtain ⟨hs, _, _⟩ := szOf_spec hx
    have e : (Instr.fieldAt T (den (.p t b o)) f).run P w = .ok (.pointer (some ⟨b, o + fa[f].offset, none⟩)) w := by
      have hne' : ¬ x.1 = 0 := hne
      simp [Instr.fieldAt, run_underlying h1, hlt', Instr.sureAddr, den, fieldPlace, hs, hne', add_none]
    exact VSem.val e

theorem prt_sem {e : TypeId} {sz : Nat} {ag : Bool} (hs : ∀ w, (sizeOf e).run P w = .ok sz w) (ha : ∀ w, (isAgg e).run P w = .ok ag w) (l : List SV) (o : Nat) :
    VSem w ((part e (denL l).toArray o).run P w) (prt l o sz ag) := by
  unfold prt
  cases ag
  · intro hn
    refine VSem.val ?_
    have e1 : ld1 l o = l[o] := by rw [ld1_eq]; simp [hn]
    have e2 : (denL l)[o]? = some (den l[o]) := by rw [denL_get]; simp [hn]
    simp only [part, Sem.run_bind, ha, Result.andThen_ok, Bool.false_eq_true, if_false, List.getElem?_toArray, e2, e1, Sem.run_pure]
  · intro hn
    refine VSem.val ?_
    simp only [part, Sem.run_bind, ha, Result.andThen_ok, if_true, hs, Sem.run_pure, den]
    rw [ldN_eq, denL_take, denL_drop]
    congr 2
    simp [List.extract_eq_take_drop]

theorem fdv_sem (T f : Nat) {v : Value} {y : SV} (hv : Kn v y) : VSem w ((Instr.field T v f).run P w) (fdv P T f y) := by
  cases y <;> (try trivial)
  rename_i l
  rw [hv.of rfl]
  cases ht : ty P T with
  | none => simp only [fdv, ht]; trivial
  | some ti =>
    obtain ⟨n, ag, td⟩ := ti
    simp only [fdv, ht]
    cases td <;> (try trivial)
    rename_i fs
    obtain ⟨fa, h1, h2⟩ := ty_st ht
    obtain ⟨hl, hf⟩ := fdOf_spec h2
    intro hlt
    have hlt' : f < fa.size := by simpa [hl] using hlt
    obtain ⟨x, hx, hx2⟩ := hf f fa[f] (by simp [hlt'])
    rw [hx2]
    obtain ⟨hs, ha, _⟩ := szOf_spec hx
    have e : (Instr.field T (den (.g l)) f).run P w = (part fa[f].type (denL l).toArray fa[f].offset).run P w := by
      simp [Instr.field, run_underlying h1, hlt', asAgg, den]
    rw [e]
    exact prt_sem hs ha l _

theorem iav_sem (T : TypeId) {v u : Value} {x y : SV} (hv : Kn v x) (hu : Kn u y) : VSem w ((Instr.indexAt T v u).run P w) (iav P T x y) := by
  cases y <;> (try trivial)
  rename_i z
  have e2 : u = z := hu.of rfl
  subst e2
  cases u <;> (try trivial)
  rename_i k q
  cases ht : ty P T with
  | none => simp only [iav, ht]; trivial
  | some ti =>
    obtain ⟨n, ag, td⟩ := ti
    simp only [iav, ht]
    cases td <;> (try trivial)
    · cases x <;> (try trivial)
      rename_i e sz by_ t b o m c
      obtain ⟨h1, y, hy⟩ := ty_slice ht
      obtain ⟨hs, _, _⟩ := szOf_spec hy
      rw [hv.of rfl]
      intro hq
      refine VSem.val ?_
      simp [Instr.indexAt, asIntOf, run_underlying h1, den, hs, add_none]
      intro h; omega
    · cases x <;> (try trivial)
      rename_i m e sz ag2 t b o
      obtain ⟨h1, y, hy⟩ := ty_arr ht
      obtain ⟨hs, _, _⟩ := szOf_spec hy
      rw [hv.of rfl]
      intro hq
      refine VSem.val ?_
      simp [Instr.indexAt, asIntOf, run_underlying h1, den, hs, add_none, Instr.sureAddr]
      intro h; omega

theorem ixv_sem (T : TypeId) {v u : Value} {x y : SV} (hv : Kn v x) (hu : Kn u y) : VSem w ((Instr.index T v u).run P w) (ixv P T x y) := by
  cases y <;> (try trivial)
  rename_i z
  have e2 : u = z := hu.of rfl
  subst e2
  cases u <;> (try trivial)
  rename_i k q
  cases ht : ty P T with
  | none => simp only [ixv, ht]; trivial
  | some ti =>
    obtain ⟨n, ag, td⟩ := ti
    simp only [ixv, ht]
    cases td <;> (try trivial)
    · cases x <;> (try trivial)
      rename_i z
      have e1 : v = z := hv.of rfl
      subst e1
      cases v <;> (try trivial)
      rename_i s
      obtain ⟨d, hd, hdd⟩ := ty_plain ht
      have hd' : P.underlying T = some .string := by rw [hd, td_str hdd.symm]
      intro hq
      refine VSem.val ?_
      have hlt : q.toNat < s.size := by omega
      have h0 : 0 ≤ q := hq.1
      have e3 : s[q.toNat]? = some (s.data.toList.getD q.toNat 0) := by
        have : s[q.toNat]? = some s[q.toNat] := by simp [hlt]
        rw [this]
        have h3 : q.toNat < s.data.size := hlt
        simp only [List.getD, Array.getElem?_toList, Array.getElem?_eq_getElem h3, Option.getD_some]
        rfl
      simp only [Instr.index, asIntOf, Sem.run_bind, Sem.run_pure, Result.andThen_ok, run_underlying hd', h0, if_true, e3, den]
    · cases x <;> (try trivial)
      rename_i m e sz ag2 l
      obtain ⟨h1, y, hy⟩ := ty_arr ht
      obtain ⟨hs, ha, _⟩ := szOf_spec hy
      rw [hv.of rfl]
      intro hq
      have e : (Instr.index T (den (.g l)) (.int k q)).run P w = (part e (denL l).toArray (q.toNat * sz)).run P w := by
        simp [Instr.index, asIntOf, run_underlying h1, den, hs, hq]
      rw [e]
      exact prt_sem hs ha l _

end
end Go.Dx
