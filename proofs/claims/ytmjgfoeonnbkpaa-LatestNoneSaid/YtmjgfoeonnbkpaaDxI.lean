/- The model's run of an operation is as 'opv' says: slices, literals, calls, conversions; the whole. -/
import Derived.Test.YtmjgfoeonnbkpaaDxH
namespace Go.Dx
open Go.RowKit

section
variable {P : Program} {E : Env} {S : St} {a : Act} {w : World}

theorem sliceBound_run {k : IntKind} {q : Int} {y : Nat} {c : BoundsCode} (h : 0 ≤ q ∧ q ≤ (y : Int)) : (Instr.sliceBound (.int k q) y c).run P w = .ok q.toNat w := by
  simp [Instr.sliceBound, asIntOf, h]

/-- A written bound, or none. -/
def BKn (v : Option Value) (d : Int) (y : SV) : Prop := match v with | none => y = .v (.int .i64 d) | some v => Kn v y

theorem bounds_run (isS : Bool) {len cap : Nat} {lo hi : Option Value} {kl kh : IntKind} {l h : Int} (hl : BKn lo 0 (.v (.int kl l))) (hh : BKn hi len (.v (.int kh h)))
    (hq : 0 ≤ l ∧ l ≤ h ∧ h ≤ (cap : Int)) : (Instr.sliceBounds isS len cap lo hi none).run P w = .ok (l.toNat, h.toNat, cap) w := by
  have e1 : h.toNat ≤ cap := by omega
  have hb : ∀ x, hi = some x → x = .int kh h := fun x hx => by subst hx; exact hh.of rfl
  have lb : ∀ x, lo = some x → x = .int kl l := fun x hx => by subst hx; exact hl.of rfl
  have l1 : (Instr.sliceBound (.int kl l) h.toNat .sliceB).run P w = .ok l.toNat w := sliceBound_run (by omega)
  have h1 : ∀ c, (Instr.sliceBound (.int kh h) cap c).run P w = .ok h.toNat w := fun c => sliceBound_run (by omega)
  cases hi with
  | none =>
    simp only [BKn, SV.v.injEq, Value.int.injEq] at hh
    obtain ⟨_, rfl⟩ := hh
    cases lo with
    | none =>
      simp only [BKn, SV.v.injEq, Value.int.injEq] at hl
      obtain ⟨_, rfl⟩ := hl
      simp [Instr.sliceBounds]
    | some x =>
      rw [lb x rfl]
      simp only [Int.toNat_natCast] at l1
      simp [Instr.sliceBounds, l1]
  | some y =>
    rw [hb y rfl]
    cases lo with
    | none =>
      simp only [BKn, SV.v.injEq, Value.int.injEq] at hl
      obtain ⟨_, rfl⟩ := hl
      simp [Instr.sliceBounds, h1]
    | some x =>
      rw [lb x rfl]
      simp [Instr.sliceBounds, h1, l1]

theorem bnd_kn (h : Ok E S a w) (d : Int) (x : Option Operand) : BKn (x.map a.eval) d (bnd S d x) := by
  cases x with
  | none => rfl
  | some x => exact h.isKn x

theorem slv_sem (h : Ok E S a w) (T : TypeId) {v : Value} {x : SV} (hv : Kn v x) (lo hi mx : Option Operand) :
    VSem w ((Instr.sliceAt T v (lo.map a.eval) (hi.map a.eval) (mx.map a.eval)).run P w) (slv P S T x lo hi mx) := by
  cases mx with
  | some m => trivial
  | none =>
    simp only [slv, Option.map_none]
    cases ht : ty P T with
    | none => trivial
    | some ti =>
      obtain ⟨n, ag, td⟩ := ti
      have hL := bnd_kn h 0 lo
      have hH := bnd_kn h (top (some ⟨n, ag, td⟩) x) hi
      generalize lo.map a.eval = lo' at hL ⊢
      generalize hi.map a.eval = hi' at hH ⊢
      generalize bnd S 0 lo = yl at hL ⊢
      generalize hyh : bnd S (top (some ⟨n, ag, td⟩) x) hi = yh at hH ⊢
      clear hyh
      cases td <;> cases x <;> (try trivial)
      case str.v z =>
        have e : v = z := hv.of rfl
        subst e
        cases v <;> (try trivial)
        rename_i s
        cases yl <;> (try trivial)
        rename_i zl
        cases zl <;> (try trivial)
        cases yh <;> (try trivial)
        rename_i zh
        cases zh <;> (try trivial)
        intro hq
        obtain ⟨d, hd, hdd⟩ := ty_plain ht
        rw [td_str hdd.symm] at hd
        refine VSem.val ?_
        have hb := bounds_run (P := P) (w := w) false hL hH hq
        simp [Instr.sliceAt, run_underlying hd, Instr.slice, hb, den]
      case slice.v e sz by_ z =>
        have e : v = z := hv.of rfl
        subst e
        cases v <;> (try trivial)
        rename_i p m c
        cases p <;> (try trivial)
        cases yl <;> (try trivial)
        rename_i zl
        cases zl <;> (try trivial)
        cases yh <;> (try trivial)
        rename_i zh
        cases zh <;> (try trivial)
        intro hq
        obtain ⟨h1, y, hy⟩ := ty_slice ht
        obtain ⟨hs, _, _⟩ := szOf_spec hy
        refine VSem.val ?_
        have hb := bounds_run (P := P) (w := w) true hL hH hq
        simp [Instr.sliceAt, run_underlying h1, Instr.slice, hb, den, hs]
      case slice.s e sz by_ t b o m c =>
        cases yl <;> (try trivial)
        rename_i zl
        cases zl <;> (try trivial)
        cases yh <;> (try trivial)
        rename_i zh
        cases zh <;> (try trivial)
        intro hq
        obtain ⟨h1, y, hy⟩ := ty_slice ht
        obtain ⟨hs, _, _⟩ := szOf_spec hy
        rw [hv.of rfl]
        refine VSem.val ?_
        have hb := bounds_run (P := P) (w := w) true hL hH hq
        simp only [Instr.sliceAt, Sem.run_bind, run_underlying h1, Result.andThen_ok, Instr.slice, den, hb, hs, Sem.run_pure]
        split <;> simp [add_none]
      case arr.p m e sz ag2 t b o =>
        cases yl <;> (try trivial)
        rename_i zl
        cases zl <;> (try trivial)
        cases yh <;> (try trivial)
        rename_i zh
        cases zh <;> (try trivial)
        intro hq
        obtain ⟨h1, y, hy⟩ := ty_arr ht
        obtain ⟨hs, _, _⟩ := szOf_spec hy
        rw [hv.of rfl]
        refine VSem.val ?_
        have hb := bounds_run (P := P) (w := w) false hL hH hq
        have hz : (sizeOf e).run P w = .ok sz w := hs w
        simp [Instr.sliceAt, run_underlying h1, Instr.sureAddr, hb, hz, den]
        split <;> simp [add_none]

/-! ### Literals -/

/-- Parts as values, and what they are known as. -/
def PKn : List (Nat × Value) → List (Nat × SV) → Prop
  | [], [] => True
  | (i, v) :: l, (j, y) :: r => i = j ∧ Kn v y ∧ PKn l r
  | _, _ => False

theorem evP_kn (h : Ok E S a w) : ∀ l : List (Nat × Operand), PKn (l.map fun (i, x) => (i, a.eval x)) (evP S l)
  | [] => trivial
  | (_, x) :: l => ⟨rfl, h.isKn x, evP_kn h l⟩

theorem foldl_set (cs : List Value) : ∀ (vs : List Value) (o : Nat), o + vs.length ≤ cs.length →
    (vs.zipIdx 0).foldl (fun (c : Array Value) (p : Value × Nat) => c.setIfInBounds (o + p.2) p.1) cs.toArray = (cs.take o ++ vs ++ cs.drop (o + vs.length)).toArray := by
  have gen : ∀ (vs : List Value) (j o : Nat) (cs : List Value), o + j + vs.length ≤ cs.length →
      (vs.zipIdx j).foldl (fun (c : Array Value) (p : Value × Nat) => c.setIfInBounds (o + p.2) p.1) cs.toArray = (cs.take (o + j) ++ vs ++ cs.drop (o + j + vs.length)).toArray := by
    intro vs
    induction vs with
    | nil => intro j o cs _; simp
    | cons v vs ih =>
      intro j o cs hl
      simp only [List.zipIdx_cons, List.foldl_cons]
      rw [List.setIfInBounds_toArray, ih (j + 1) o _ (by simp at hl ⊢; omega)]
      congr 1
      simp only [List.length_cons] at hl ⊢
      apply List.ext_getElem?
      intro k
      simp only [List.getElem?_append, List.length_append, List.length_take, List.length_set, List.length_cons, List.getElem?_take, List.getElem?_set, List.getElem?_drop, List.getElem?_cons]
      by_cases h1 : k < o + j
      · have : k < min (o + (j + 1)) cs.length := by omega
        have : k < min (o + (j + 1)) cs.length + vs.length := by omega
        have : k < min (o + j) cs.length := by omega
        have : k < min (o + j) cs.length + (vs.length + 1) := by omega
        have : k < o + (j + 1) := by omega
        have : ¬ o + j = k := by omega
        simp [*]
      · by_cases h2 : k = o + j
        · subst h2
          have h3 : o + j < min (o + (j + 1)) cs.length := by omega
          have h4 : o + j < min (o + (j + 1)) cs.length + vs.length := by omega
          have h5 : ¬ o + j < min (o + j) cs.length := by omega
          have h6 : o + j < min (o + j) cs.length + (vs.length + 1) := by omega
          have h7 : o + j < o + (j + 1) := by omega
          have h8 : min (o + j) cs.length = o + j := by omega
          have h9 : o + j < cs.length := by omega
          simp [h3, h4, h7, h8, h9]
        · have m1 : min (o + (j + 1)) cs.length = o + j + 1 := by omega
          have m2 : min (o + j) cs.length = o + j := by omega
          simp only [m1, m2]
          have h3 : ¬ k < o + j + 1 := by omega
          have h6 : ¬ k - (o + j) = 0 := by omega
          by_cases h4 : k < o + j + 1 + vs.length
          · have h5 : k < o + j + (vs.length + 1) := by omega
            simp only [h4, h3, h5, h1, h6, if_true, if_false]
            exact congrArg (fun q => vs[q]?) (by omega)
          · have h5 : ¬ k < o + j + (vs.length + 1) := by omega
            simp only [h4, h3, h5, h1, if_false]
            have e : o + (j + 1) + vs.length + (k - (o + j + 1 + vs.length)) = o + j + (vs.length + 1) + (k - (o + j + (vs.length + 1))) := by omega
            rw [e, if_neg (by omega)]
  intro vs o hl
  simpa using gen vs 0 o cs hl

theorem fill_step (place : Nat → Option (Nat × Nat)) (cells : List SV) (i off : Nat) {v : Value} {y : SV} (hv : v.cells.toList = denL (cl y)) (hp : place i = some (off, (cl y).length))
    (hl : off + (cl y).length ≤ cells.length) (rest : List (Nat × Value)) :
    Instr.fill place (denL cells).toArray ((i, v) :: rest) = Instr.fill place (denL (stN cells off (cl y))).toArray rest := by
  have hs : v.cells.size = (cl y).length := by
    have := congrArg List.length hv
    simpa using this
  have hc : ¬ (v.cells.size ≠ (cl y).length || decide (off + v.cells.size > (denL cells).toArray.size)) = true := by simp [hs]; omega
  simp only [Instr.fill, hp]
  rw [if_neg (by simp [hs]; omega)]
  congr 1
  rw [← Array.foldl_toList, Array.toList_zipIdx, hv]
  rw [foldl_set (denL cells) (denL (cl y)) off (by simpa using hl), stN_eq cells off (cl y) hl]
  simp [denL_append, denL_take, denL_drop]

/-- Filling goes through, part by part. -/
def Fills (place : Nat → Option (Nat × Nat)) : List SV → List (Nat × SV) → List SV → Prop
  | cells, [], out => out = cells
  | cells, (i, y) :: r, out => ∃ off, okc y = true ∧ place i = some (off, (cl y).length) ∧ off + (cl y).length ≤ cells.length ∧ Fills place (stN cells off (cl y)) r out

theorem fill_run (place : Nat → Option (Nat × Nat)) : ∀ (vs : List (Nat × Value)) (ys : List (Nat × SV)) (cells out : List SV), PKn vs ys → Fills place cells ys out →
    Instr.fill place (denL cells).toArray vs = some (denL out).toArray
  | [], [], _, _, _, h => by simp only [Fills] at h; subst h; rfl
  | [], _ :: _, _, _, h, _ => h.elim
  | _ :: _, [], _, _, h, _ => h.elim
  | (i, v) :: vs, (j, y) :: ys, cells, out, hk, h => by
    obtain ⟨rfl, hv, hk⟩ := hk
    obtain ⟨off, ho, hp, hl, h⟩ := h
    rw [fill_step place cells i off (okc_cells hv ho) hp hl]
    exact fill_run place vs ys _ _ hk h

theorem blS_fills {fs : List (Nat × Nat × Bool)} {hp : List Ent} {run : Result Next} {place : Nat → Option (Nat × Nat)} (hpl : ∀ i, i < fs.length → place i = some ((fn3 fs i).1, (fn3 fs i).2.1)) :
    ∀ (ys : List (Nat × SV)) (cells : List SV), (∀ out, Fills place cells ys out → run = .ok (.value (den (.g out))) w) → RSem hp w run (blS fs cells ys)
  | [], cells, h => ⟨_, h cells rfl, fun _ => rfl⟩
  | (i, y) :: r, cells, h => fun ⟨h1, h2, h3, h4⟩ =>
    blS_fills hpl r _ fun out ho => h out ⟨(fn3 fs i).1, h1, by rw [hpl i h2, h3], h4, ho⟩

theorem blA_fills {n sz : Nat} {hp : List Ent} {run : Result Next} (k : List SV → Res) : ∀ (ys : List (Nat × SV)) (cells : List SV),
    (∀ out, Fills (fun i => some (i * sz, sz)) cells ys out → RSem hp w run (k out)) → RSem hp w run (blA n sz cells k ys)
  | [], cells, h => h cells rfl
  | (i, y) :: r, cells, h => fun ⟨h1, h2, h3⟩ =>
    blA_fills k r _ fun out ho => h out ⟨i * sz, h1, by rw [h2], h3, ho⟩

theorem mapM_fields : ∀ (l : List Field) (r : List (Nat × Nat × Bool)), fdOf P l = some r →
    (l.mapM (fun f => do pure (f.offset, ← sizeOf f.type) : Field → Sem (Nat × Nat))).run P w = .ok (r.map fun x => (x.1, x.2.1)) w
  | [], r, h => by simp [fdOf] at h; subst h; rfl
  | f :: l, r, h => by
    simp only [fdOf] at h
    split at h
    · rename_i x r' h1 h2
      simp at h
      subst h
      have hs := (szOf_spec h1).1 w
      have ih := mapM_fields l r' h2
      simp only [List.mapM_cons, Sem.run_bind, hs, Result.andThen_ok, Sem.run_pure, ih, List.map_cons]
    · simp at h

theorem fn3_map : ∀ (fs : List (Nat × Nat × Bool)) (i : Nat), i < fs.length → (fs.map fun x => (x.1, x.2.1))[i]? = some ((fn3 fs i).1, (fn3 fs i).2.1)
  | [], i, h => by simp at h
  | a :: l, 0, _ => rfl
  | a :: l, i + 1, h => by simp only [List.map_cons, List.getElem?_cons_succ, fn3]; exact fn3_map l i (by simpa using h)

theorem blx_sem (T : TypeId) {hp : List Ent} (vs : List (Nat × Value)) (ys : List (Nat × SV)) (hk : PKn vs ys) :
    RSem hp w ((do pure (.value (← Instr.build T vs.toArray)) : Sem Next).run P w) (blx (zv P T) (ty P T) ys) := by
  cases hz : zv P T with
  | none => trivial
  | some z =>
    obtain ⟨zz, hz1, hz2⟩ := run_zeroValue' (w := w) hz
    have hc : zz.cells = (denL z).toArray := by rw [← hz2]
    cases ht : ty P T with
    | none => trivial
    | some ti =>
      obtain ⟨n, ag, td⟩ := ti
      cases td <;> (try trivial)
      · rename_i m e sz ag2
        obtain ⟨h1, y, hy⟩ := ty_arr ht
        have hs : (sizeOf e).run P w = .ok sz w := (szOf_spec hy).1 w
        refine blA_fills _ _ _ fun out ho => ?_
        have hf := fill_run _ vs ys z out hk ho
        refine ⟨den (.g out), ?_, fun _ => rfl⟩
        simp [Instr.build, hz1, run_underlying h1, hs, hc, hf, den]
      · rename_i fs
        obtain ⟨fa, h1, h2⟩ := ty_st ht
        have hm := mapM_fields (P := P) (w := w) fa.toList fs h2
        refine blS_fills (place := fun i => ((fs.map fun x => (x.1, x.2.1)).toArray)[i]?) (fun i hi => by simpa using fn3_map fs i hi) _ _ fun out ho => ?_
        have hf := fill_run _ vs ys z out hk ho
        have hm2 : (fa.mapM (fun f => do pure (f.offset, ← sizeOf f.type) : Field → Sem (Nat × Nat))).run P w = .ok (fs.map fun x => (x.1, x.2.1)).toArray w := by
          rw [Array.mapM_eq_mapM_toList]
          simp only [Sem.run_map, hm, Result.andThen_ok]
        simp only [Instr.build, Sem.run_bind, hz1, Result.andThen_ok, run_underlying h1, hm2, hc, hf, Sem.run_pure, den]

theorem rpt_length (n : Nat) (z : List SV) : (rpt n z).length = n * z.length := by
  induction n with
  | zero => simp [rpt]
  | succ n ih => simp [rpt, ih, Nat.add_mul, Nat.add_comm]

theorem rpt_get (z : List SV) (hz : z ≠ []) : ∀ (n i : Nat), i < n * z.length → (rpt n z)[i]? = z[i % z.length]?
  | 0, i, h => by simp at h
  | n + 1, i, h => by
    have hpos : 0 < z.length := by cases z <;> simp_all
    simp only [rpt, List.getElem?_append]
    by_cases hi : i < z.length
    · rw [if_pos hi, Nat.mod_eq_of_lt hi]
    · rw [if_neg hi, rpt_get z hz n (i - z.length) (by rw [Nat.add_mul] at h; omega)]
      congr 1
      rw [← Nat.mod_eq_sub_mod (by omega)]

theorem zeros_eq {z : List SV} {zz : Value} (hc : zz.cells = (denL z).toArray) (hz : z ≠ []) (n : Nat) :
    ((Array.range (n * z.length)).map (zz.cells[· % zz.cells.size]!)) = (denL (rpt n z)).toArray := by
  have hpos : 0 < z.length := by cases z <;> simp_all
  apply Array.ext_getElem?
  intro i
  simp only [Array.getElem?_map, Array.getElem?_range, List.getElem?_toArray, denL_get]
  by_cases hi : i < n * z.length
  · rw [rpt_get z hz n i hi]
    have hm : i % z.length < z.length := Nat.mod_lt _ hpos
    have e : (denL z)[i % z.length]? = some (den z[i % z.length]) := by rw [denL_get]; simp [hm]
    simp only [hi, if_true, Option.map_some, hc, List.size_toArray, denL_length, List.getElem?_eq_getElem hm]
    congr 1
    rw [getElem!_def]
    simp only [List.getElem?_toArray, e]
  · simp [hi, List.getElem?_eq_none (show (rpt n z).length ≤ i by rw [rpt_length]; omega)]

theorem bsx_sem (T : TypeId) (n : Nat) {hp : List Ent} (vs : List (Nat × Value)) (ys : List (Nat × SV)) (hk : PKn vs ys) :
    RSem hp w ((do pure (.value (← Instr.buildSlice T n vs.toArray)) : Sem Next).run P w) (bsx (zv P (eOf (ty P T))) (ty P T) n ys) := by
  cases ht : ty P T with
  | none => cases zv P (eOf none) <;> trivial
  | some ti =>
    obtain ⟨nn, ag, td⟩ := ti
    cases hz : zv P (eOf (some ⟨nn, ag, td⟩)) with
    | none => trivial
    | some z =>
      cases td <;> (try trivial)
      rename_i e sz by_
      obtain ⟨h1, y, hy⟩ := ty_slice ht
      have hs : (sizeOf e).run P w = .ok sz w := (szOf_spec hy).1 w
      obtain ⟨zz, hz1, hz2⟩ := run_zeroValue' (w := w) (t := e) hz
      have hc : zz.cells = (denL z).toArray := by rw [← hz2]
      rintro ⟨hb, hl, hne⟩
      have hzne : z ≠ [] := by rintro rfl; simp at hl; exact hne hl.symm
      refine blA_fills _ _ _ fun out ho => ?_
      have hf := fill_run _ vs ys _ out hk ho
      have hzs := zeros_eq hc hzne n
      rw [hl] at hzs
      show _ = _
      have hb' : ¬ (n * sz > 2 ^ 24) := by omega
      by_cases h0 : n * sz = 0
      · have hn : n = 0 := by rcases Nat.mul_eq_zero.1 h0 with h | h; exact h; exact absurd h hne
        subst hn
        simp only [rpt] at hf
        have hf' : Instr.fill (fun i => some (i * sz, sz)) #[] vs = some (denL out).toArray := hf
        have hr : ∀ f : Nat → Value, (Array.range 0).map f = #[] := fun _ => by apply Array.eq_empty_of_size_eq_zero; simp
        simp [Instr.buildSlice, run_underlying h1, hs, hr, hf', newRow, denO]
      · simp [Instr.buildSlice, run_underlying h1, hs, hb', h0, hz1, hzs, hf, newRow, denO]

theorem msv_sem (T : TypeId) {hp : List Ent} {vl vc : Value} {l c : SV} (hl : Kn vl l) (hc : Kn vc c) :
    RSem hp w ((do pure (.value (← Instr.makeSlice T vl vc)) : Sem Next).run P w) (msv P T l c) := by
  unfold msv
  cases ht : ty P T with
  | none => cases zv P (eOf none) <;> trivial
  | some ti =>
    obtain ⟨nn, ag, td⟩ := ti
    cases hz : zv P (eOf (some ⟨nn, ag, td⟩)) with
    | none => trivial
    | some z =>
      cases td <;> (try trivial)
      rename_i e sz by_
      cases l <;> (try trivial)
      rename_i zl
      have e1 : vl = zl := hl.of rfl
      subst e1
      cases vl <;> (try trivial)
      cases c <;> (try trivial)
      rename_i zc
      have e2 : vc = zc := hc.of rfl
      subst e2
      cases vc <;> (try trivial)
      rename_i kl l kc c
      obtain ⟨h1, y, hy⟩ := ty_slice ht
      have hs : (sizeOf e).run P w = .ok sz w := (szOf_spec hy).1 w
      obtain ⟨i, hi, hi1, hi2⟩ := (szOf_spec hy).2.2
      obtain ⟨zz, hz1, hz2⟩ := run_zeroValue' (w := w) (t := e) hz
      have hcells : zz.cells = (denL z).toArray := by rw [← hz2]
      rintro ⟨q1, q2, q3, q4, q5, q6⟩
      have hzne : z ≠ [] := by rintro rfl; simp at q5; exact q6 q5.symm
      have hzs := zeros_eq hcells hzne c.toNat
      rw [q5] at hzs
      have wl : IntKind.i64.wrap l = l := wrap_in ⟨by simp [kmin]; omega, by simp [kmax]; omega⟩
      have wc : IntKind.i64.wrap c = c := wrap_in ⟨by simp [kmin]; omega, by simp [kmax]; omega⟩
      have hti : (typeInfo e).run P w = .ok i w := by simp [typeInfo, hi]
      have hbig : ¬ ((i.bytes : Int) * c > 2 ^ 48) := by
        have : (by_ : Int) = i.bytes := by simp only at hi2; omega
        rw [← this, Int.mul_comm]; omega
      have t1 : ¬ c < 0 := by omega
      have t2 : ¬ l < 0 := by omega
      have t3 : ¬ c < l := by omega
      have t4 : ¬ 281474976710656 < (i.bytes : Int) * c := hbig
      have hr : ∀ f : Nat → Value, (Array.range 0).map f = #[] := fun _ => by apply Array.eq_empty_of_size_eq_zero; simp
      show _ = _
      by_cases h0 : c.toNat * sz = 0
      · have hn : c.toNat = 0 := by rcases Nat.mul_eq_zero.1 h0 with h | h; exact h; exact absurd h q6
        simp [Instr.makeSlice, run_underlying h1, asInt, asIntOf, hti, wl, wc, t1, t2, t3, t4, hs, hn, hr, newRow, denO, rpt, denL]
      · simp [Instr.makeSlice, run_underlying h1, asInt, asIntOf, hti, wl, wc, t1, t2, t3, t4, hs, h0, hz1, hzs, newRow, denO]

end
end Go.Dx
