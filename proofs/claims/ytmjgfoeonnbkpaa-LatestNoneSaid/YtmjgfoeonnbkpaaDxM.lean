/- The rules by which a symbolic execution is reckoned. -/
import Derived.Test.YtmjgfoeonnbkpaaDxL
namespace Go.Dx
open Go.RowKit

section
variable {P : Program} {E : Env} {rec : Cfg → Prop} {n : Nat} {all r : List Oper} {o : Oper} {k : List Fr} {S : St}

/-! ### Slots and blocks -/
attribute [go_sem] cond_true cond_false ld1_zero ld1_succ hdN_zero hdN_succ ldN_zero ldN_succ ovN_nil ovN_cons stN_zero stN_succ
theorem lk_hit (a : Nat) (y : SV) (r : List (Nat × SV)) : lk ((a, y) :: r) a = y := by simp [lk]
theorem lk_miss (a : Nat) (y : SV) (r : List (Nat × SV)) (t : Nat) (h : Nat.beq a t = false) : lk ((a, y) :: r) t = lk r t := by simp only [lk, h, cond_false]
theorem hk_hit (t b : Nat) (w : Bool) (o : HObj) (r : List Ent) : hk (⟨t, b, w, o⟩ :: r) t = some ⟨t, b, w, o⟩ := by simp [hk]
theorem hk_miss (t' b : Nat) (w : Bool) (o : HObj) (r : List Ent) (t : Nat) (h : Nat.beq t' t = false) : hk (⟨t', b, w, o⟩ :: r) t = hk r t := by simp only [hk, h, cond_false]
theorem hset_hit (t b : Nat) (w : Bool) (o ob : HObj) (r : List Ent) : hset (⟨t, b, w, o⟩ :: r) t ob = ⟨t, b, w, ob⟩ :: r := by simp [hset]
theorem hset_miss (t' b : Nat) (w : Bool) (o ob : HObj) (r : List Ent) (t : Nat) (h : Nat.beq t' t = false) : hset (⟨t', b, w, o⟩ :: r) t ob = ⟨t', b, w, o⟩ :: hset r t ob := by simp only [hset, h, cond_false]
attribute [go_sem] lk_hit lk_miss hk_hit hk_miss hset_hit hset_miss
@[go_sem] theorem nbeq (a b : Nat) : Nat.beq a b = (a == b) := Bool.eq_iff_iff.2 (by simp)
@[go_sem] theorem put1_some (n nt : Nat) (sl : List (Nat × SV)) (hp : List Ent) (df : List Deferred) (d : Nat) (y : SV) : put1 ⟨n, nt, sl, hp, df⟩ (some d) y = ⟨n, nt, (d, y) :: sl, hp, df⟩ := rfl
@[go_sem] theorem put1_none (y : SV) : put1 S none y = S := rfl
@[go_sem] theorem dOf_some (d : Nat) : dOf (some d) = d := rfl
@[go_sem] theorem none_none : ((none : Option Nat) = none) = True := eq_self _
@[go_sem] theorem some_none (d : Nat) : (some d = none) = False := by simp
attribute [go_sem] true_and and_true true_or or_true or_false false_or false_and and_false eq_self

/-! ### Code -/
@[go_sem] theorem ex_C_skip : ex P E (n + 1) (.C .skip k S) = ex P E n (.K .normal k S) := rfl
@[go_sem] theorem ex_C_label (l : Nat) : ex P E (n + 1) (.C (.label l) k S) = ex P E n (.K .normal k S) := rfl
@[go_sem] theorem ex_C_seq (a b : Code) : ex P E (n + 1) (.C (.seq a b) k S) = ex P E n (.C a (.c b :: k) S) := rfl
@[go_sem] theorem ex_C_cond (x : Operand) (a b : Code) : ex P E (n + 1) (.C (.cond x a b) k S) = exB (ex P E n) (ev S x) (.C a k S) (.C b k S) := rfl
@[go_sem] theorem ex_C_block (id : Nat) (a : Code) : ex P E (n + 1) (.C (.block id a) k S) = ex P E n (.C a (.b id :: k) S) := rfl
@[go_sem] theorem ex_C_exit (id : Nat) : ex P E (n + 1) (.C (.exit id) k S) = ex P E n (.K (.exit id) k S) := rfl
@[go_sem] theorem ex_C_ret : ex P E (n + 1) (.C .ret k S) = ex P E n (.K .ret k S) := rfl
@[go_sem] theorem ex_C_region (id : Nat) (l : List Oper) : ex P E (n + 1) (.C (.region id l.toArray false) k S) = ex P E n (.L l l k S) := rfl
@[go_sem] theorem ex_C_draw (id : Nat) (ops : Array Oper) : ex P E (n + 1) (.C (.region id ops true) k S) = CodeC P E (.region id ops true) k S := rfl
@[go_sem] theorem ex_C_loop (a : Code) : ex P E (n + 1) (.C (.loop a) k S) = CodeC P E (.loop a) k S := rfl
@[go_sem] theorem ex_C_rng (f : Operand) (ps : Array Tmp) (a b : Code) : ex P E (n + 1) (.C (.rangeFunc f ps a b) k S) = CodeC P E (.rangeFunc f ps a b) k S := rfl
@[go_sem] theorem ex_C_scope (a : Code) : ex P E (n + 1) (.C (.scope a) k S) = CodeC P E (.scope a) k S := rfl

@[go_sem] theorem ex_K_nil (e : Exit) : ex P E (n + 1) (.K e [] S) = E.fin e S := rfl
@[go_sem] theorem ex_K_c (c : Code) : ex P E (n + 1) (.K .normal (.c c :: k) S) = ex P E n (.C c k S) := rfl
@[go_sem] theorem ex_K_b (id : Nat) : ex P E (n + 1) (.K .normal (.b id :: k) S) = ex P E n (.K .normal k S) := rfl
@[go_sem] theorem ex_K_l (I : St → Prop) : ex P E (n + 1) (.K .normal (.l I :: k) S) = I S := rfl
@[go_sem] theorem ex_Kx_c (i : Nat) (c : Code) : ex P E (n + 1) (.K (.exit i) (.c c :: k) S) = ex P E n (.K (.exit i) k S) := rfl
@[go_sem] theorem ex_Kx_l (i : Nat) (I : St → Prop) : ex P E (n + 1) (.K (.exit i) (.l I :: k) S) = ex P E n (.K (.exit i) k S) := rfl
@[go_sem] theorem ex_Kx_hit (i : Nat) : ex P E (n + 1) (.K (.exit i) (.b i :: k) S) = ex P E n (.K .normal k S) := by simp [ex, step, exK]
@[go_sem] theorem ex_Kx_miss (i id : Nat) (h : Nat.beq i id = false) : ex P E (n + 1) (.K (.exit i) (.b id :: k) S) = ex P E n (.K (.exit i) k S) := by simp only [ex, step, exK, h, cond_false]
@[go_sem] theorem ex_Kr_c (c : Code) : ex P E (n + 1) (.K .ret (.c c :: k) S) = ex P E n (.K .ret k S) := rfl
@[go_sem] theorem ex_Kr_l (I : St → Prop) : ex P E (n + 1) (.K .ret (.l I :: k) S) = ex P E n (.K .ret k S) := rfl
@[go_sem] theorem ex_Kr_b (id : Nat) : ex P E (n + 1) (.K .ret (.b id :: k) S) = ex P E n (.K .ret k S) := rfl

/-! ### Operations -/
@[go_sem] theorem ex_L_nil : ex P E (n + 1) (.L all [] k S) = ex P E n (.K .normal k S) := rfl
@[go_sem] theorem ex_L (d : Option Nat) (op : Op) (t : TypeId) (pos : String) (af : Array Edge) : ex P E (n + 1) (.L all (⟨d, op, t, pos, af, none⟩ :: r) k S) = exR P E (ex P E n) all ⟨d, op, t, pos, af, none⟩ r k S (opv P S op) := rfl
@[go_sem] theorem ex_Lg (d : Option Nat) (op : Op) (t : TypeId) (pos : String) (af : Array Edge) (j : Nat) (want : Bool) : ex P E (n + 1) (.L all (⟨d, op, t, pos, af, some (j, want)⟩ :: r) k S) = exO (ex P E n) all ⟨d, op, t, pos, af, some (j, want)⟩ r k S want (dstOf all j) := rfl
@[go_sem] theorem ex_O : ex P E (n + 1) (.O all o r k S) = exR P E (ex P E n) all o r k S (opv P S o.op) := rfl

@[go_sem] theorem exR_val (y : SV) : exR P E rec all o r k S (.val y) = ((dOf o.dst < S.n ∨ o.dst = none) ∧ rec (.L all r k (put1 S o.dst y))) := rfl
@[go_sem] theorem exR_obl (p : Prop) (q : Res) : exR P E rec all o r k S (.obl p q) = (p ∧ exR P E rec all o r k S q) := rfl
@[go_sem] theorem exR_new (ob : HObj) : exR P E rec all o r k S (.new ob) = ((dOf o.dst < S.n ∨ o.dst = none) ∧ ∀ b, rec (.L all r k (put1 { S with nt := S.nt + 1, hp := ⟨S.nt, b, true, ob⟩ :: S.hp } o.dst (.p S.nt b 0)))) := rfl
@[go_sem] theorem exR_news (ob : HObj) (m c : Nat) : exR P E rec all o r k S (.news ob m c) = ((dOf o.dst < S.n ∨ o.dst = none) ∧ ∀ b, rec (.L all r k (put1 { S with nt := S.nt + 1, hp := ⟨S.nt, b, true, ob⟩ :: S.hp } o.dst (.s S.nt b 0 m c)))) := rfl
@[go_sem] theorem exR_sto (t : Nat) (ob : HObj) : exR P E rec all o r k S (.sto t ob) = rec (.L all r k (put1 { S with hp := hset S.hp t ob } o.dst .xx)) := rfl
@[go_sem] theorem exR_call (h : Nat) (as : List SV) : exR P E rec all o r k S (.call h as) = CallC P E all r k S o.dst h as := rfl
@[go_sem] theorem exR_leaf : exR P E rec all o r k S .leaf = LeafC P E all o r k S := rfl
@[go_sem] theorem exR_no : exR P E rec all o r k S .no = False := rfl

@[go_sem] theorem exO_some (want : Bool) (dj : Nat) : exO rec all o r k S want (some dj) = ((dOf o.dst < S.n ∨ o.dst = none) ∧ exG rec all o r k S dj want (lk S.sl dj)) := rfl
@[go_sem] theorem dstOf_zero (o : Oper) (l : List Oper) : dstOf (o :: l) 0 = o.dst := rfl
@[go_sem] theorem dstOf_succ (o : Oper) (l : List Oper) (j : Nat) : dstOf (o :: l) (j + 1) = dstOf l j := rfl

@[go_sem] theorem exG_true (dj : Nat) (c : Bool) : exG rec all o r k S dj true (.v (.bool c)) =
    bxc rec c (.O all o r k { S with sl := (dj, .v (.bool true)) :: S.sl }) (.L all r k (put1 { S with sl := (dj, .v (.bool false)) :: S.sl } o.dst (.v undef))) := rfl
@[go_sem] theorem exG_false (dj : Nat) (c : Bool) : exG rec all o r k S dj false (.v (.bool c)) =
    bxc rec c (.L all r k (put1 { S with sl := (dj, .v (.bool true)) :: S.sl } o.dst (.v undef))) (.O all o r k { S with sl := (dj, .v (.bool false)) :: S.sl }) := rfl
@[go_sem] theorem exG_undef (dj : Nat) (want : Bool) : exG rec all o r k S dj want (.v undef) = rec (.L all r k (put1 S o.dst (.v undef))) := rfl

@[go_sem] theorem exB_bool (c : Bool) (x y : Cfg) : exB rec (.v (.bool c)) x y = bxc rec c x y := rfl
@[go_sem] theorem bxc_true (x y : Cfg) : bxc rec true x y = rec x := by simp [bxc]
@[go_sem] theorem bxc_false (x y : Cfg) : bxc rec false x y = rec y := by simp [bxc]
@[go_sem] theorem bxc_not (c : Bool) (x y : Cfg) : bxc rec (!c) x y = bxc rec c y x := by cases c <;> simp [bxc]
@[go_sem] theorem bxc_dec (p : Prop) [Decidable p] (x y : Cfg) : bxc rec (decide p) x y = ((p → rec x) ∧ (¬ p → rec y)) := by simp [bxc]
theorem bxc_split {c : Bool} {x y : Cfg} (h1 : c = true → rec x) (h2 : c = false → rec y) : bxc rec c x y := ⟨h1, h2⟩

/-! ### Operands -/
@[go_sem] theorem ev_tmp (t : Nat) : ev S (.tmp t) = lk S.sl t := rfl
@[go_sem] theorem ev_const (v : Value) : ev S (.const v) = .v v := rfl
@[go_sem] theorem ev_func (h : Nat) : ev S (.func h) = .f h [] := rfl
@[go_sem] theorem evL_nil : evL S [] = [] := rfl
@[go_sem] theorem evL_cons (x : Operand) (l : List Operand) : evL S (x :: l) = ev S x :: evL S l := rfl
@[go_sem] theorem evP_nil : evP S [] = [] := rfl
@[go_sem] theorem evP_cons (i : Nat) (x : Operand) (l : List (Nat × Operand)) : evP S ((i, x) :: l) = (i, ev S x) :: evP S l := rfl
attribute [go_sem] List.toList_toArray List.append_assoc List.nil_append List.cons_append List.append_nil

/-! ### Values -/
@[go_sem] theorem opv_move (x : Operand) : opv P S (.move x) = .val (ev S x) := rfl
@[go_sem] theorem opv_assign (x : Operand) : opv P S (.assign x) = .val (ev S x) := rfl
@[go_sem] theorem opv_pick (c x y : Operand) : opv P S (.pick c x y) = pk (ev S c) (ev S x) (ev S y) := rfl
@[go_sem] theorem opv_alloc (T : Nat) : opv P S (.alloc T) = alx (zv P T) T := rfl
@[go_sem] theorem opv_box (T : Nat) (x : Operand) : opv P S (.box T x) = bxv T (ev S x) := rfl
@[go_sem] theorem opv_build (T : Nat) (l : List (Nat × Operand)) : opv P S (.build T l.toArray) = blx (zv P T) (ty P T) (evP S l) := rfl
@[go_sem] theorem opv_buildSlice (T m : Nat) (l : List (Nat × Operand)) : opv P S (.buildSlice T m l.toArray) = bsx (zv P (eOf (ty P T))) (ty P T) m (evP S l) := rfl
@[go_sem] theorem opv_load (T : Nat) (x : Operand) : opv P S (.load T x) = ldv P S.hp T (ev S x) := rfl
@[go_sem] theorem opv_store (T : Nat) (x y : Operand) : opv P S (.store T x y) = stv P S.hp T (ev S x) (ev S y) := rfl
@[go_sem] theorem opv_nilCheck (x : Operand) : opv P S (.nilCheck x) = nlv (ev S x) := rfl
@[go_sem] theorem opv_binOp (op : BinOp) (T u : Nat) (x y : Operand) : opv P S (.binOp op T x y u) = bvx P op (isC x || isC y) T (ev S x) (ev S y) := rfl
@[go_sem] theorem bvx_of (op : BinOp) (cx : Bool) (T : Nat) (x y : SV) (h : isG x = none ∨ isG y = none) : bvx P op cx T x y = bv op cx (ty P T) x y := by
  unfold bvx
  cases h1 : isG x <;> cases h2 : isG y <;> simp_all
@[go_sem] theorem bvx_eql (cx : Bool) (T : Nat) (l r : List SV) : bvx P .eql cx T (.g l) (.g r) = eqA P false T (ty P T) l r := rfl
@[go_sem] theorem bvx_neq (cx : Bool) (T : Nat) (l r : List SV) : bvx P .neq cx T (.g l) (.g r) = eqA P true T (ty P T) l r := rfl
@[go_sem] theorem isG_v (y : Value) : isG (.v y) = none := rfl
@[go_sem] theorem isG_p (t b o : Nat) : isG (.p t b o) = none := rfl
@[go_sem] theorem isG_s (t b o n c : Nat) : isG (.s t b o n c) = none := rfl
@[go_sem] theorem isG_m (t b : Nat) : isG (.m t b) = none := rfl
@[go_sem] theorem isG_i (t : Nat) (y : SV) : isG (.i t y) = none := rfl
@[go_sem] theorem isG_f (h : Nat) (l : List SV) : isG (.f h l) = none := rfl
@[go_sem] theorem isG_g (l : List SV) : isG (.g l) = some l := rfl
@[go_sem] theorem eqA_arr (g : Bool) (T n e sz : Nat) (s : Nat) (ag ag2 : Bool) (l r : List SV) : eqA P g T (some ⟨s, ag, .arr n e sz ag2⟩) l r = eqAe P g T n (ty P e) l r := rfl
@[go_sem] theorem eqAe_int (g : Bool) (T n : Nat) (k : IntKind) (l r : List SV) : eqAe P g T n (some ⟨1, false, .int k⟩) l r = .obl (allI k l = true ∧ allI k r = true ∧ l.length = n ∧ r.length = n ∧ P.eqGuardType P.depth T = false) (qb g (eqI l r)) := rfl
@[go_sem] theorem allI_nil (k : IntKind) : allI k [] = true := rfl
@[go_sem] theorem allI_cons (k k' : IntKind) (z : Int) (l : List SV) : allI k (.v (.int k' z) :: l) = (decide (k' = k) && allI k l) := rfl
@[go_sem] theorem eqI_nil : eqI [] [] = true := rfl
@[go_sem] theorem eqI_cons (k k' : IntKind) (x y : Int) (l r : List SV) : eqI (.v (.int k x) :: l) (.v (.int k' y) :: r) = (decide (x = y) && eqI l r) := rfl
@[go_sem] theorem opv_unOp (op : UnOp) (T : Nat) (x : Operand) : opv P S (.unOp op T x) = uv op (ev S x) := rfl
@[go_sem] theorem opv_convert (s d : Nat) (x : Operand) : opv P S (.convert s d x) = cnx (ty P s) (ty P d) (ev S x) := rfl
@[go_sem] theorem opv_mki (T : Nat) (x : Operand) : opv P S (.makeInterface T x) = mki (ty P T) T (ev S x) := rfl
@[go_sem] theorem opv_mkf (fn : Fn) (f c : Array Operand) : opv P S (.makeFunc fn f c) = mkf S fn f c := rfl
@[go_sem] theorem opv_msl (T : Nat) (l c : Operand) : opv P S (.makeSlice T l c) = msv P T (ev S l) (ev S c) := rfl
@[go_sem] theorem opv_slice (T : Nat) (x : Operand) (l h m : Option Operand) : opv P S (.slice T x l h m) = slv P S T (ev S x) l h m := rfl
@[go_sem] theorem opv_fieldAddr (T f : Nat) (x : Operand) : opv P S (.fieldAddr T x f) = fav P T f (ev S x) := rfl
@[go_sem] theorem opv_field (T f : Nat) (x : Operand) : opv P S (.field T x f) = fdv P T f (ev S x) := rfl
@[go_sem] theorem opv_indexAddr (T : Nat) (x i : Operand) : opv P S (.indexAddr T x i) = iav P T (ev S x) (ev S i) := rfl
@[go_sem] theorem opv_index (T : Nat) (x i : Operand) : opv P S (.index T x i) = ixv P T (ev S x) (ev S i) := rfl
@[go_sem] theorem opv_extract (x : Operand) (i : Nat) : opv P S (.extract x i) = exv i (ev S x) := rfl
@[go_sem] theorem opv_call (f : Operand) (l : List Operand) (ts : Array TypeId) : opv P S (.call ⟨.value f, l.toArray, ts⟩) = cvl P (evL S l) (ev S f) := rfl
@[go_sem] theorem opv_invoke (x : Operand) (m : String) (l : List Operand) (ts : Array TypeId) : opv P S (.call ⟨.invoke x m, l.toArray, ts⟩) = ivl P m (evL S l) (ev S x) := rfl
@[go_sem] theorem opv_builtin (b : Builtin) (l : List Operand) (ts : Array TypeId) : opv P S (.call ⟨.builtin b, l.toArray, ts⟩) = bul P S.hp b ts (evL S l) := rfl
@[go_sem] theorem opv_lookup (T : Nat) (x i : Operand) (c : Bool) : opv P S (.lookup T x i c) = .leaf := rfl
@[go_sem] theorem opv_mapUpdate (T : Nat) (m i v : Operand) : opv P S (.mapUpdate T m i v) = .leaf := rfl
@[go_sem] theorem opv_insert (T : Nat) (m i v : Operand) : opv P S (.insert T m i v) = .leaf := rfl
@[go_sem] theorem opv_makeMap (T : Nat) (x : Option Operand) : opv P S (.makeMap T x) = .leaf := rfl
@[go_sem] theorem opv_typeAssert (x : Operand) (s t : Nat) (c : Bool) : opv P S (.typeAssert x s t c) = .leaf := rfl
@[go_sem] theorem opv_panic (x : Operand) : opv P S (.panic x) = .leaf := rfl
@[go_sem] theorem opv_s2a (T : Nat) (x : Operand) : opv P S (.sliceToArrayPointer T x) = .leaf := rfl
@[go_sem] theorem opv_def (c : Call) : opv P S (.defer c) = .leaf := rfl

@[go_sem] theorem vi_eq (kd : IntKind) (z : Int) : vi kd z = .val (.v (.int kd z)) := rfl
@[go_sem] theorem vb_eq (b : Bool) : vb b = .val (.v (.bool b)) := rfl
@[go_sem] theorem isC_tmp (t : Nat) : isC (.tmp t) = false := rfl
@[go_sem] theorem isC_const (v : Value) : isC (.const v) = true := rfl
@[go_sem] theorem isC_func (f : Nat) : isC (.func f) = false := rfl
attribute [go_sem] Bool.or_false Bool.false_or Bool.or_true Bool.true_or Bool.or_self

@[go_sem] theorem pk_true (x y : SV) : pk (.v (.bool true)) x y = .val x := rfl
@[go_sem] theorem pk_false (x y : SV) : pk (.v (.bool false)) x y = .val y := rfl

@[go_sem] theorem bv_int (op : BinOp) (cx : Bool) (ti : Option TI) (k k' : IntKind) (a b : Int) : bv op cx ti (.v (.int k a)) (.v (.int k' b)) = bi op k k' a b := rfl
@[go_sem] theorem bi_add (k k' : IntKind) (a b : Int) : bi .add k k' a b = .obl (k = k') (ar k (a + b)) := rfl
@[go_sem] theorem bi_sub (k k' : IntKind) (a b : Int) : bi .sub k k' a b = .obl (k = k') (ar k (a - b)) := rfl
@[go_sem] theorem bi_mul (k k' : IntKind) (a b : Int) : bi .mul k k' a b = .obl (k = k') (ar k (a * b)) := rfl
@[go_sem] theorem bi_quo (k k' : IntKind) (a b : Int) : bi .quo k k' a b = .obl (k = k') (.obl (0 ≤ a ∧ a ≤ kmax k ∧ 0 < b) (vi k (a / b))) := rfl
@[go_sem] theorem bi_rem (k k' : IntKind) (a b : Int) : bi .rem k k' a b = .obl (k = k') (.obl (0 ≤ a ∧ 0 < b) (vi k (a % b))) := rfl
@[go_sem] theorem bi_and (k k' : IntKind) (a b : Int) : bi .and k k' a b = .obl (k = k') (.obl (0 ≤ a ∧ a ≤ kmax k ∧ 0 ≤ b ∧ b ≤ kmax k) (vi k (iand a b))) := rfl
@[go_sem] theorem bi_or (k k' : IntKind) (a b : Int) : bi .or k k' a b = .obl (k = k') (.obl (0 ≤ a ∧ a ≤ kmax k ∧ 0 ≤ b ∧ b ≤ kmax k) (vi k (ior a b))) := rfl
@[go_sem] theorem bi_xor (k k' : IntKind) (a b : Int) : bi .xor k k' a b = .obl (k = k') (.obl (0 ≤ a ∧ a ≤ kmax k ∧ 0 ≤ b ∧ b ≤ kmax k) (vi k (ixor a b))) := rfl
@[go_sem] theorem bi_andNot (k k' : IntKind) (a b : Int) : bi .andNot k k' a b = .obl (k = k') (.obl (0 ≤ a ∧ a ≤ kmax k ∧ 0 ≤ b ∧ b ≤ kmax k) (vi k (iandn a b))) := rfl
@[go_sem] theorem bi_eql (k k' : IntKind) (a b : Int) : bi .eql k k' a b = .obl (k = k') (vb (decide (a = b))) := rfl
@[go_sem] theorem bi_neq (k k' : IntKind) (a b : Int) : bi .neq k k' a b = .obl (k = k') (vb (!decide (a = b))) := rfl
@[go_sem] theorem bi_lss (k k' : IntKind) (a b : Int) : bi .lss k k' a b = .obl (k = k') (vb (decide (a < b))) := rfl
@[go_sem] theorem bi_leq (k k' : IntKind) (a b : Int) : bi .leq k k' a b = .obl (k = k') (vb (decide (a ≤ b))) := rfl
@[go_sem] theorem bi_gtr (k k' : IntKind) (a b : Int) : bi .gtr k k' a b = .obl (k = k') (vb (decide (b < a))) := rfl
@[go_sem] theorem bi_geq (k k' : IntKind) (a b : Int) : bi .geq k k' a b = .obl (k = k') (vb (decide (b ≤ a))) := rfl
@[go_sem] theorem bi_shl (k k' : IntKind) (a b : Int) : bi .shl k k' a b = .obl (0 ≤ b) (ar k (a * 2 ^ b.toNat)) := rfl
@[go_sem] theorem bi_shr (k k' : IntKind) (a b : Int) : bi .shr k k' a b = .obl (0 ≤ b ∧ 0 ≤ a ∧ a ≤ kmax k) (vi k (a / 2 ^ b.toNat)) := rfl
@[go_sem] theorem ar_i64 (z : Int) : ar .i64 z = .obl (-9223372036854775808 ≤ z ∧ z ≤ 9223372036854775807) (vi .i64 z) := rfl
@[go_sem] theorem ar_u32 (z : Int) : ar .u32 z = vi .u32 (z % 4294967296) := rfl
@[go_sem] theorem ar_u64 (z : Int) : ar .u64 z = vi .u64 (z % 18446744073709551616) := rfl
@[go_sem] theorem ar_u8 (z : Int) : ar .u8 z = vi .u8 (z % 256) := rfl
@[go_sem] theorem ar_u16 (z : Int) : ar .u16 z = vi .u16 (z % 65536) := rfl
@[go_sem] theorem kmax_u8 : kmax .u8 = 255 := rfl
@[go_sem] theorem kmax_u16 : kmax .u16 = 65535 := rfl
@[go_sem] theorem kmax_u32 : kmax .u32 = 4294967295 := rfl
@[go_sem] theorem kmax_u64 : kmax .u64 = 18446744073709551615 := rfl
@[go_sem] theorem kmax_i64 : kmax .i64 = 9223372036854775807 := rfl
@[go_sem] theorem uv_not (b : Bool) : uv .not (.v (.bool b)) = vb (!b) := rfl
@[go_sem] theorem uv_neg (k : IntKind) (a : Int) : uv .neg (.v (.int k a)) = ar k (0 - a) := rfl
@[go_sem] theorem uv_xor (k : IntKind) (a : Int) : uv .xor (.v (.int k a)) = .obl (k.signed = false ∧ 0 ≤ a ∧ a ≤ kmax k) (vi k (ixor (kmax k) a)) := rfl
@[go_sem] theorem signed_u32 : IntKind.u32.signed = false := rfl
@[go_sem] theorem signed_u64 : IntKind.u64.signed = false := rfl
@[go_sem] theorem signed_u8 : IntKind.u8.signed = false := rfl

@[go_sem] theorem cnx_int (s1 s2 : Nat) (g1 g2 : Bool) (k0 k' k : IntKind) (z : Int) : cnx (some ⟨s1, g1, .int k0⟩) (some ⟨s2, g2, .int k'⟩) (.v (.int k z)) = cvi k k' z := rfl
@[go_sem] theorem cvi_u8_u32 (z : Int) : cvi .u8 .u32 z = .obl (0 ≤ z ∧ z ≤ 4294967295) (vi .u32 z) := rfl
@[go_sem] theorem cvi_u8_u64 (z : Int) : cvi .u8 .u64 z = .obl (0 ≤ z ∧ z ≤ 18446744073709551615) (vi .u64 z) := rfl
@[go_sem] theorem cvi_u32_u64 (z : Int) : cvi .u32 .u64 z = .obl (0 ≤ z ∧ z ≤ 18446744073709551615) (vi .u64 z) := rfl
@[go_sem] theorem cvi_u32_u32 (z : Int) : cvi .u32 .u32 z = .obl (0 ≤ z ∧ z ≤ 4294967295) (vi .u32 z) := rfl
@[go_sem] theorem cvi_u64_u64 (z : Int) : cvi .u64 .u64 z = .obl (0 ≤ z ∧ z ≤ 18446744073709551615) (vi .u64 z) := rfl
@[go_sem] theorem cvi_i64 (k : IntKind) (z : Int) : cvi k .i64 z = .obl (-9223372036854775808 ≤ z ∧ z ≤ 9223372036854775807) (vi .i64 z) := by cases k <;> rfl
@[go_sem] theorem cvi_i64_u32 (z : Int) : cvi .i64 .u32 z = vi .u32 (z % 4294967296) := rfl
@[go_sem] theorem cvi_i64_u64 (z : Int) : cvi .i64 .u64 z = vi .u64 (z % 18446744073709551616) := rfl
@[go_sem] theorem cvi_i64_u8 (z : Int) : cvi .i64 .u8 z = vi .u8 (z % 256) := rfl
@[go_sem] theorem cvi_u32_u8 (z : Int) : cvi .u32 .u8 z = vi .u8 (z % 256) := rfl
@[go_sem] theorem cvi_u64_u32 (z : Int) : cvi .u64 .u32 z = vi .u32 (z % 4294967296) := rfl
@[go_sem] theorem cvi_u64_u8 (z : Int) : cvi .u64 .u8 z = vi .u8 (z % 256) := rfl

@[go_sem] theorem bv_eql (cx : Bool) (ti : TI) (x y : SV) (h : isI x = none ∨ isI y = none) : bv .eql cx (some ti) x y = eqb false cx ti.d x y := by
  unfold bv
  cases h1 : isI x <;> cases h2 : isI y <;> simp_all [be]
@[go_sem] theorem bv_neq (cx : Bool) (ti : TI) (x y : SV) (h : isI x = none ∨ isI y = none) : bv .neq cx (some ti) x y = eqb true cx ti.d x y := by
  unfold bv
  cases h1 : isI x <;> cases h2 : isI y <;> simp_all [be]
@[go_sem] theorem isI_p (t b o : Nat) : isI (.p t b o) = none := rfl
@[go_sem] theorem isI_s (t b o n c : Nat) : isI (.s t b o n c) = none := rfl
@[go_sem] theorem isI_m (t b : Nat) : isI (.m t b) = none := rfl
@[go_sem] theorem isI_i (t : Nat) (y : SV) : isI (.i t y) = none := rfl
@[go_sem] theorem isI_f (h : Nat) (l : List SV) : isI (.f h l) = none := rfl
@[go_sem] theorem isI_g (l : List SV) : isI (.g l) = none := rfl
@[go_sem] theorem isI_bool (b : Bool) : isI (.v (.bool b)) = none := rfl
@[go_sem] theorem isI_ptr (p : Option Addr) : isI (.v (.pointer p)) = none := rfl
@[go_sem] theorem isI_slice (p : Option Addr) (n c : Nat) : isI (.v (.slice p n c)) = none := rfl
@[go_sem] theorem isI_nili : isI (.v .nilIface) = none := rfl
@[go_sem] theorem isI_nilf : isI (.v .nilFunc) = none := rfl
@[go_sem] theorem isI_map (p : Option Nat) : isI (.v (.map p)) = none := rfl
@[go_sem] theorem isI_str (p : ByteArray) : isI (.v (.string p)) = none := rfl
@[go_sem] theorem qb_t (b : Bool) : qb true b = vb (!b) := rfl
@[go_sem] theorem qb_f (b : Bool) : qb false b = vb b := rfl
@[go_sem] theorem eqb_bb (g cx a b : Bool) : eqb g cx .bool (.v (.bool a)) (.v (.bool b)) = qb g (a == b) := rfl
@[go_sem] theorem eqb_pp (g cx : Bool) (e : Nat) : eqb g cx (.ptr e) (.v (.pointer none)) (.v (.pointer none)) = qb g true := rfl
@[go_sem] theorem eqb_p1 (g cx : Bool) (e t b o : Nat) : eqb g cx (.ptr e) (.p t b o) (.v (.pointer none)) = qb g false := rfl
@[go_sem] theorem eqb_p2 (g cx : Bool) (e t b o : Nat) : eqb g cx (.ptr e) (.v (.pointer none)) (.p t b o) = qb g false := rfl
@[go_sem] theorem eqb_ii (g cx : Bool) (e : Nat) : eqb g cx (.iface e) (.v .nilIface) (.v .nilIface) = .obl (cx = true) (qb g true) := rfl
@[go_sem] theorem eqb_i1 (g cx : Bool) (e t : Nat) (y : SV) : eqb g cx (.iface e) (.i t y) (.v .nilIface) = qb g false := rfl
@[go_sem] theorem eqb_i2 (g cx : Bool) (e t : Nat) (y : SV) : eqb g cx (.iface e) (.v .nilIface) (.i t y) = qb g false := rfl
@[go_sem] theorem eqb_ff (g cx : Bool) : eqb g cx .fn (.v .nilFunc) (.v .nilFunc) = qb g true := rfl
@[go_sem] theorem eqb_f1 (g cx : Bool) (h : Nat) (l : List SV) : eqb g cx .fn (.f h l) (.v .nilFunc) = qb g false := rfl
@[go_sem] theorem eqb_ss (g cx : Bool) (e a b n1 c1 n2 c2 : Nat) : eqb g cx (.slice e a b) (.v (.slice none n1 c1)) (.v (.slice none n2 c2)) = qb g true := rfl
@[go_sem] theorem eqb_s1 (g cx : Bool) (e a b t bb o n1 c1 n2 c2 : Nat) : eqb g cx (.slice e a b) (.s t bb o n1 c1) (.v (.slice none n2 c2)) = qb g false := rfl
@[go_sem] theorem eqb_m1 (g cx : Bool) (kk e t b : Nat) : eqb g cx (.map kk e) (.m t b) (.v (.map none)) = qb g false := rfl
@[go_sem] theorem eqb_mm (g cx : Bool) (kk e : Nat) : eqb g cx (.map kk e) (.v (.map none)) (.v (.map none)) = qb g true := rfl

/-! ### Memory -/
@[go_sem] theorem ldv_p (hp : List Ent) (T t b o : Nat) : ldv P hp T (.p t b o) = ldx (ty P T) (hk hp t) T b o := rfl
@[go_sem] theorem ldx_some (ti : TI) (e : Ent) (T b o : Nat) : ldx (some ti) (some e) T b o = .obl (b = e.b) (ldo e.o T ti o) := rfl
theorem ldo_c (l : List SV) (T' T o : Nat) (ti : TI) : ldo (.c l T') T ti o = bif ti.agg && (Nat.beq T T' && Nat.beq o 0) then .obl (l.length = ti.sz) (.val (.g l)) else seg l ti o := rfl
@[go_sem] theorem ldo_c_f (l : List SV) (T' T o s : Nat) (d : TD) : ldo (.c l T') T ⟨s, false, d⟩ o = seg l ⟨s, false, d⟩ o := rfl
@[go_sem] theorem ldo_c_hit (l : List SV) (T s : Nat) (d : TD) : ldo (.c l T) T ⟨s, true, d⟩ 0 = .obl (l.length = s) (.val (.g l)) := by simp [ldo]
@[go_sem] theorem ldo_c_miss (l : List SV) (T' T o : Nat) (ti : TI) (h : Nat.beq T T' = false) : ldo (.c l T') T ti o = seg l ti o := by simp [ldo, h]
@[go_sem] theorem ldo_a (l : List SV) (T' T o : Nat) (ti : TI) : ldo (.a l T') T ti o = seg l ti o := rfl
@[go_sem] theorem ldo_z (l : List SV) (T' T o : Nat) (fz : Nat × Nat) (ti : TI) : ldo (.z l T' fz) T ti o = seg l ti o := rfl
@[go_sem] theorem nws_z (t b' b o n : Nat) (w : Bool) (l : List SV) (T : Nat) (fz : Nat × Nat) (kk : List SV → Res) : nws (some ⟨t, b', w, .z l T fz⟩) b o n kk = .obl (b = b' ∧ (n = 0 ∨ o + n ≤ l.length) ∧ allOne (ldN l o n) = true) (kk (ldN l o n)) := by simp [nws, rowOf, nws.okR]
@[go_sem] theorem seg_t (l : List SV) (s o : Nat) (d : TD) : seg l ⟨s, true, d⟩ o = .obl (o + s ≤ l.length) (.val (.g (ldN l o s))) := rfl
@[go_sem] theorem seg_f (l : List SV) (s o : Nat) (d : TD) : seg l ⟨s, false, d⟩ o = .obl (o < l.length) (.val (ld1 l o)) := rfl
@[go_sem] theorem stv_p (hp : List Ent) (T t b o : Nat) (y : SV) : stv P hp T (.p t b o) y = stx (ty P T) (hk hp t) T t b o y := rfl
@[go_sem] theorem stx_some (ti : TI) (e : Ent) (T t b o : Nat) (y : SV) : stx (some ti) (some e) T t b o y = .obl (b = e.b ∧ e.w = true ∧ okc y = true ∧ allOne (cl y) = true ∧ (cl y).length = ti.sz) (sto e.o T ti t o (cl y)) := rfl
@[go_sem] theorem sto_c_hit (l ys : List SV) (T t : Nat) (ti : TI) : sto (.c l T) T ti t 0 ys = .obl (l.length = ti.sz) (.sto t (.c ys T)) := by simp [sto]
@[go_sem] theorem sto_c_miss (l ys : List SV) (T' T t o : Nat) (ti : TI) (h : Nat.beq T T' = false) : sto (.c l T') T ti t o ys = .obl (o + ys.length ≤ l.length) (.sto t (.c (stN l o ys) T')) := by simp [sto, h]
@[go_sem] theorem sto_a (l ys : List SV) (T' T t o : Nat) (ti : TI) : sto (.a l T') T ti t o ys = .obl (o + ys.length ≤ l.length) (.sto t (.a (stN l o ys) T')) := rfl
@[go_sem] theorem alx_some (l : List SV) (T : Nat) : alx (some l) T = .new (.c l T) := rfl
@[go_sem] theorem bxv_g (T : Nat) (l : List SV) : bxv T (.g l) = .new (.c l T) := rfl
@[go_sem] theorem bxv_v (T : Nat) (y : Value) : bxv T (.v y) = .obl (one (.v y) = true) (.new (.c [.v y] T)) := rfl
@[go_sem] theorem bxv_p (T t b o : Nat) : bxv T (.p t b o) = .obl (one (.p t b o) = true) (.new (.c [.p t b o] T)) := rfl
@[go_sem] theorem bxv_s (T t b o m c : Nat) : bxv T (.s t b o m c) = .obl (one (.s t b o m c) = true) (.new (.c [.s t b o m c] T)) := rfl
@[go_sem] theorem bxv_i (T t : Nat) (y : SV) : bxv T (.i t y) = .obl (one (.i t y) = true) (.new (.c [.i t y] T)) := rfl
@[go_sem] theorem bxv_f (T h : Nat) (l : List SV) : bxv T (.f h l) = .obl (one (.f h l) = true) (.new (.c [.f h l] T)) := rfl
@[go_sem] theorem bxv_m (T t b : Nat) : bxv T (.m t b) = .obl (one (.m t b) = true) (.new (.c [.m t b] T)) := rfl
@[go_sem] theorem nlv_p (t b o : Nat) : nlv (.p t b o) = .val (.p t b o) := rfl
@[go_sem] theorem nlv_f (h : Nat) (l : List SV) : nlv (.f h l) = .val (.f h l) := rfl
@[go_sem] theorem nlv_i (t : Nat) (y : SV) : nlv (.i t y) = .val (.i t y) := rfl
@[go_sem] theorem fav_p (T f t b o : Nat) : fav P T f (.p t b o) = fax (ty P T) t b o f := rfl
@[go_sem] theorem fax_some (s : Nat) (g : Bool) (fs : List (Nat × Nat × Bool)) (t b o f : Nat) : fax (some ⟨s, g, .st fs⟩) t b o f = .obl (f < fs.length ∧ (fn3 fs f).2.1 ≠ 0) (.val (.p t b (o + (fn3 fs f).1))) := rfl
@[go_sem] theorem fn3_zero (a : Nat × Nat × Bool) (l : List (Nat × Nat × Bool)) : fn3 (a :: l) 0 = a := rfl
@[go_sem] theorem fn3_succ (a : Nat × Nat × Bool) (l : List (Nat × Nat × Bool)) (i : Nat) : fn3 (a :: l) (i + 1) = fn3 l i := rfl
@[go_sem] theorem fdv_g (T f : Nat) (l : List SV) : fdv P T f (.g l) = fdx (ty P T) l f := rfl
@[go_sem] theorem fdx_some (s : Nat) (g : Bool) (fs : List (Nat × Nat × Bool)) (l : List SV) (f : Nat) : fdx (some ⟨s, g, .st fs⟩) l f = .obl (f < fs.length) (prt l (fn3 fs f).1 (fn3 fs f).2.1 (fn3 fs f).2.2) := rfl
@[go_sem] theorem prt_t (l : List SV) (o s : Nat) : prt l o s true = .obl (o + s ≤ l.length) (.val (.g (ldN l o s))) := rfl
@[go_sem] theorem prt_f (l : List SV) (o s : Nat) : prt l o s false = .obl (o < l.length) (.val (ld1 l o)) := rfl
@[go_sem] theorem iav_int (T : Nat) (x : SV) (kd : IntKind) (q : Int) : iav P T x (.v (.int kd q)) = iax (ty P T) x q := rfl
@[go_sem] theorem iax_s (s : Nat) (g : Bool) (e sz by_ t b o n c : Nat) (q : Int) : iax (some ⟨s, g, .slice e sz by_⟩) (.s t b o n c) q = .obl (0 ≤ q ∧ q < (n : Int)) (.val (.p t b (o + q.toNat * sz))) := rfl
@[go_sem] theorem iax_a (s : Nat) (g h : Bool) (n e sz t b o : Nat) (q : Int) : iax (some ⟨s, g, .arr n e sz h⟩) (.p t b o) q = .obl (0 ≤ q ∧ q < (n : Int)) (.val (.p t b (o + q.toNat * sz))) := rfl
@[go_sem] theorem ixv_int (T : Nat) (x : SV) (kd : IntKind) (q : Int) : ixv P T x (.v (.int kd q)) = ixx (ty P T) x q := rfl
@[go_sem] theorem ixx_a (s : Nat) (g h : Bool) (n e sz : Nat) (l : List SV) (q : Int) : ixx (some ⟨s, g, .arr n e sz h⟩) (.g l) q = .obl (0 ≤ q ∧ q < (n : Int)) (prt l (q.toNat * sz) sz h) := rfl
@[go_sem] theorem ixx_s (s : Nat) (g : Bool) (y : ByteArray) (q : Int) : ixx (some ⟨s, g, .str⟩) (.v (.string y)) q = .obl (0 ≤ q ∧ q < (y.size : Int)) (vi .u8 ((y.data.toList.getD q.toNat 0).toNat : Int)) := rfl
@[go_sem] theorem bnd_none (d : Int) : bnd S d none = .v (.int .i64 d) := rfl
@[go_sem] theorem bnd_some (d : Int) (x : Operand) : bnd S d (some x) = ev S x := rfl
@[go_sem] theorem slv_none (T : Nat) (x : SV) (l h : Option Operand) : slv P S T x l h none = slx (ty P T) x (bnd S 0 l) (bnd S (top (ty P T) x) h) := rfl
@[go_sem] theorem top_s (s : Nat) (g : Bool) (e sz by_ t b o n c : Nat) : top (some ⟨s, g, .slice e sz by_⟩) (.s t b o n c) = (n : Int) := rfl
@[go_sem] theorem top_n (s : Nat) (g : Bool) (e sz by_ n c : Nat) : top (some ⟨s, g, .slice e sz by_⟩) (.v (.slice none n c)) = (n : Int) := rfl
@[go_sem] theorem top_a (s : Nat) (g h : Bool) (n e sz : Nat) (x : SV) : top (some ⟨s, g, .arr n e sz h⟩) x = (n : Int) := rfl
@[go_sem] theorem top_str (s : Nat) (g : Bool) (y : ByteArray) : top (some ⟨s, g, .str⟩) (.v (.string y)) = (y.size : Int) := rfl
@[go_sem] theorem slx_s (s : Nat) (g : Bool) (e sz by_ t b o n c : Nat) (k1 k2 : IntKind) (l h : Int) : slx (some ⟨s, g, .slice e sz by_⟩) (.s t b o n c) (.v (.int k1 l)) (.v (.int k2 h)) = .obl (0 ≤ l ∧ l ≤ h ∧ h ≤ (c : Int)) (.val (.s t b (if c = l.toNat then o else o + l.toNat * sz) (h.toNat - l.toNat) (c - l.toNat))) := rfl
@[go_sem] theorem slx_n (s : Nat) (g : Bool) (e sz by_ n c : Nat) (k1 k2 : IntKind) (l h : Int) : slx (some ⟨s, g, .slice e sz by_⟩) (.v (.slice none n c)) (.v (.int k1 l)) (.v (.int k2 h)) = .obl (0 ≤ l ∧ l ≤ h ∧ h ≤ (c : Int)) (.val (.v (.slice none (h.toNat - l.toNat) (c - l.toNat)))) := rfl
@[go_sem] theorem slx_a (s : Nat) (g gg : Bool) (n e sz t b o : Nat) (k1 k2 : IntKind) (l h : Int) : slx (some ⟨s, g, .arr n e sz gg⟩) (.p t b o) (.v (.int k1 l)) (.v (.int k2 h)) = .obl (0 ≤ l ∧ l ≤ h ∧ h ≤ (n : Int)) (.val (.s t b (if n = l.toNat then o else o + l.toNat * sz) (h.toNat - l.toNat) (n - l.toNat))) := rfl
@[go_sem] theorem slx_str (s : Nat) (g : Bool) (y : ByteArray) (k1 k2 : IntKind) (l h : Int) : slx (some ⟨s, g, .str⟩) (.v (.string y)) (.v (.int k1 l)) (.v (.int k2 h)) = .obl (0 ≤ l ∧ l ≤ h ∧ h ≤ (y.size : Int)) (.val (.v (.string (y.extract l.toNat h.toNat)))) := rfl
@[go_sem] theorem eOf_s (s : Nat) (g : Bool) (e sz by_ : Nat) : eOf (some ⟨s, g, .slice e sz by_⟩) = e := rfl
@[go_sem] theorem msv_eq (T : Nat) (l c : SV) : msv P T l c = msx (zv P (eOf (ty P T))) (ty P T) l c := rfl
@[go_sem] theorem msx_eq (z : List SV) (s : Nat) (g : Bool) (e sz by_ : Nat) (k1 k2 : IntKind) (l c : Int) : msx (some z) (some ⟨s, g, .slice e sz by_⟩) (.v (.int k1 l)) (.v (.int k2 c)) =
    .obl (0 ≤ l ∧ l ≤ c ∧ c * (by_ : Int) ≤ 281474976710656 ∧ c ≤ 9223372036854775807 ∧ z.length = sz ∧ sz ≠ 0) (.news (.a (rpt c.toNat z) e) l.toNat c.toNat) := rfl
@[go_sem] theorem rpt_zero (z : List SV) : rpt 0 z = [] := rfl
@[go_sem] theorem rpt_succ (m : Nat) (z : List SV) : rpt (m + 1) z = z ++ rpt m z := rfl
@[go_sem] theorem blx_st (z : List SV) (s : Nat) (g : Bool) (fs : List (Nat × Nat × Bool)) (ps : List (Nat × SV)) : blx (some z) (some ⟨s, g, .st fs⟩) ps = blS fs z ps := rfl
@[go_sem] theorem blx_arr (z : List SV) (s : Nat) (g h : Bool) (m e sz : Nat) (ps : List (Nat × SV)) : blx (some z) (some ⟨s, g, .arr m e sz h⟩) ps = blA m sz z (fun l => .val (.g l)) ps := rfl
@[go_sem] theorem blS_nil (fs : List (Nat × Nat × Bool)) (cells : List SV) : blS fs cells [] = .val (.g cells) := rfl
@[go_sem] theorem blS_cons (fs : List (Nat × Nat × Bool)) (cells : List SV) (i : Nat) (y : SV) (q : List (Nat × SV)) : blS fs cells ((i, y) :: q) =
    .obl (okc y = true ∧ i < fs.length ∧ (cl y).length = (fn3 fs i).2.1 ∧ (fn3 fs i).1 + (cl y).length ≤ cells.length) (blS fs (stN cells (fn3 fs i).1 (cl y)) q) := rfl
@[go_sem] theorem blA_nil (m sz : Nat) (cells : List SV) (kk : List SV → Res) : blA m sz cells kk [] = kk cells := rfl
@[go_sem] theorem blA_cons (m sz : Nat) (cells : List SV) (kk : List SV → Res) (i : Nat) (y : SV) (q : List (Nat × SV)) : blA m sz cells kk ((i, y) :: q) =
    .obl (okc y = true ∧ (cl y).length = sz ∧ i * sz + (cl y).length ≤ cells.length) (blA m sz (stN cells (i * sz) (cl y)) kk q) := rfl
@[go_sem] theorem bsx_eq (z : List SV) (s : Nat) (g : Bool) (e sz by_ m : Nat) (ps : List (Nat × SV)) : bsx (some z) (some ⟨s, g, .slice e sz by_⟩) m ps =
    .obl (m * sz ≤ 16777216 ∧ z.length = sz ∧ sz ≠ 0) (blA m sz (rpt m z) (fun l => .news (.a l e) m m) ps) := rfl
@[go_sem] theorem cl_g (l : List SV) : cl (.g l) = l := rfl
@[go_sem] theorem cl_v (y : Value) : cl (.v y) = [.v y] := rfl
@[go_sem] theorem cl_p (t b o : Nat) : cl (.p t b o) = [.p t b o] := rfl
@[go_sem] theorem cl_s (t b o m c : Nat) : cl (.s t b o m c) = [.s t b o m c] := rfl
@[go_sem] theorem cl_m (t b : Nat) : cl (.m t b) = [.m t b] := rfl
@[go_sem] theorem cl_f (h : Nat) (l : List SV) : cl (.f h l) = [.f h l] := rfl
@[go_sem] theorem cl_i (t : Nat) (y : SV) : cl (.i t y) = [.i t y] := rfl
@[go_sem] theorem okc_g (l : List SV) : okc (.g l) = true := rfl
@[go_sem] theorem okc_v (y : Value) : okc (.v y) = y.oneCell' := rfl
@[go_sem] theorem okc_p (t b o : Nat) : okc (.p t b o) = true := rfl
@[go_sem] theorem okc_s (t b o m c : Nat) : okc (.s t b o m c) = true := rfl
@[go_sem] theorem okc_m (t b : Nat) : okc (.m t b) = true := rfl
@[go_sem] theorem okc_f (h : Nat) (l : List SV) : okc (.f h l) = true := rfl
@[go_sem] theorem okc_i (t : Nat) (y : SV) : okc (.i t y) = true := rfl
@[go_sem] theorem one_v (y : Value) : one (.v y) = y.oneCell' := rfl
@[go_sem] theorem one_p (t b o : Nat) : one (.p t b o) = true := rfl
@[go_sem] theorem one_s (t b o m c : Nat) : one (.s t b o m c) = true := rfl
@[go_sem] theorem one_m (t b : Nat) : one (.m t b) = true := rfl
@[go_sem] theorem one_f (h : Nat) (l : List SV) : one (.f h l) = true := rfl
@[go_sem] theorem one_i (t : Nat) (y : SV) : one (.i t y) = true := rfl
@[go_sem] theorem oc_int (kd : IntKind) (z : Int) : (Value.int kd z).oneCell' = true := rfl
@[go_sem] theorem oc_bool (z : Bool) : (Value.bool z).oneCell' = true := rfl
@[go_sem] theorem oc_str (z : ByteArray) : (Value.string z).oneCell' = true := rfl
@[go_sem] theorem oc_ptr (z : Option Addr) : (Value.pointer z).oneCell' = true := rfl
@[go_sem] theorem oc_slice (z : Option Addr) (a b : Nat) : (Value.slice z a b).oneCell' = true := rfl
@[go_sem] theorem oc_map (z : Option Nat) : (Value.map z).oneCell' = true := rfl
@[go_sem] theorem oc_nili : (Value.nilIface).oneCell' = true := rfl
@[go_sem] theorem oc_nilf : (Value.nilFunc).oneCell' = true := rfl
@[go_sem] theorem allOne_nil : allOne [] = true := rfl
@[go_sem] theorem allOne_cons (y : SV) (l : List SV) : allOne (y :: l) = (one y && allOne l) := rfl
attribute [go_sem] Bool.true_and Bool.and_true Bool.false_and Bool.and_false List.length_cons List.length_nil

/-! ### Calls -/
@[go_sem] theorem cvl_f (as : List SV) (h : Nat) (l : List SV) : cvl P as (.f h l) = clx P h (as ++ l) := rfl
@[go_sem] theorem cvl_y (as : List SV) (l : Nat) (x y : Array Value) : cvl P as (.v (.func (.yield l) x y)) = .leaf := rfl
@[go_sem] theorem clx_eq (h : Nat) (as : List SV) : clx P h as = .obl (ent P h = true ∧ allK as = true) (.call h as) := rfl
@[go_sem] theorem ivl_i (m : String) (as : List SV) (T : Nat) (y : SV) : ivl P m as (.i T y) = ivx P (mth P T m) (y :: as) := rfl
@[go_sem] theorem ivx_some (h : Nat) (as : List SV) : ivx P (some h) as = clx P h as := rfl
@[go_sem] theorem allK_nil : allK [] = true := rfl
@[go_sem] theorem allK_v (y : Value) (l : List SV) : allK (.v y :: l) = allK l := rfl
@[go_sem] theorem allK_p (t b o : Nat) (l : List SV) : allK (.p t b o :: l) = allK l := rfl
@[go_sem] theorem allK_s (t b o m c : Nat) (l : List SV) : allK (.s t b o m c :: l) = allK l := rfl
@[go_sem] theorem allK_m (t b : Nat) (l : List SV) : allK (.m t b :: l) = allK l := rfl
@[go_sem] theorem allK_g (q l : List SV) : allK (.g q :: l) = allK l := rfl
@[go_sem] theorem allK_u (q l : List SV) : allK (.u q :: l) = allK l := rfl
@[go_sem] theorem allK_f (h : Nat) (q l : List SV) : allK (.f h q :: l) = allK l := rfl
@[go_sem] theorem allK_i (t : Nat) (y : SV) (l : List SV) : allK (.i t y :: l) = allK l := rfl
@[go_sem] theorem kn_v (y : Value) : kn (.v y) = true := rfl
@[go_sem] theorem kn_p (t b o : Nat) : kn (.p t b o) = true := rfl
@[go_sem] theorem kn_s (t b o m c : Nat) : kn (.s t b o m c) = true := rfl
@[go_sem] theorem kn_g (l : List SV) : kn (.g l) = true := rfl
@[go_sem] theorem exv_u (i : Nat) (l : List SV) : exv i (.u l) = .obl (i < l.length) (.val (ld1 l i)) := rfl
@[go_sem] theorem mki_p (s : Nat) (g : Bool) (e T : Nat) (x : SV) : mki (some ⟨s, g, .ptr e⟩) T x = .obl (kn x = true) (.val (.i T x)) := rfl
@[go_sem] theorem mki_int (s : Nat) (g : Bool) (e : IntKind) (T : Nat) (x : SV) : mki (some ⟨s, g, .int e⟩) T x = .obl (kn x = true) (.val (.i T x)) := rfl
@[go_sem] theorem mkf_func (h : Nat) (l : List Operand) : mkf S (.func h) #[] l.toArray = .obl (allK (evL S l) = true) (.val (.f h (evL S l))) := rfl
@[go_sem] theorem bul_len (hp : List Ent) (ts : List TypeId) (t : TypeId) (x : SV) : bul P hp .len (t :: ts).toArray [x] = lnx (ty P t) x := rfl
@[go_sem] theorem bul_cap (hp : List Ent) (ts : List TypeId) (t : TypeId) (x : SV) : bul P hp .cap (t :: ts).toArray [x] = cpx (ty P t) x := rfl
@[go_sem] theorem bul_append (hp : List Ent) (t : TypeId) (x y : SV) : bul P hp .append [t, t].toArray [x, y] = apx hp (zv P (eOf (ty P t))) (ty P t) x y := by simp [bul]
@[go_sem] theorem bul_max (hp : List Ent) (ts : Array TypeId) (x y : SV) : bul P hp .max ts [x, y] = mx2 x y := rfl
@[go_sem] theorem bul_min (hp : List Ent) (ts : Array TypeId) (x y : SV) : bul P hp .min ts [x, y] = mn2 x y := rfl
@[go_sem] theorem bul_copy (hp : List Ent) (ts : Array TypeId) (l : List SV) : bul P hp .copy ts l = .leaf := by unfold bul; split <;> simp_all
@[go_sem] theorem bul_delete (hp : List Ent) (ts : Array TypeId) (l : List SV) : bul P hp .delete ts l = .leaf := by unfold bul; split <;> simp_all
@[go_sem] theorem bul_clear (hp : List Ent) (ts : Array TypeId) (l : List SV) : bul P hp .clear ts l = .leaf := by unfold bul; split <;> simp_all
@[go_sem] theorem mx2_int (kd kd' : IntKind) (a b : Int) : mx2 (.v (.int kd a)) (.v (.int kd' b)) = vi kd (max a b) := rfl
@[go_sem] theorem mn2_int (kd kd' : IntKind) (a b : Int) : mn2 (.v (.int kd a)) (.v (.int kd' b)) = vi kd (min a b) := rfl
@[go_sem] theorem apx_nn (hp : List Ent) (z : List SV) (s : Nat) (g : Bool) (e sz by_ : Nat) : apx hp (some z) (some ⟨s, g, .slice e sz by_⟩) (.v (.slice none 0 0)) (.v (.slice none 0 0)) = .val (.v (.slice none 0 0)) := rfl
@[go_sem] theorem apx_sn (hp : List Ent) (z : List SV) (s : Nat) (g : Bool) (e sz by_ t b o n c : Nat) : apx hp (some z) (some ⟨s, g, .slice e sz by_⟩) (.s t b o n c) (.v (.slice none 0 0)) = .obl (n ≤ c) (.val (.s t b o n c)) := rfl
@[go_sem] theorem apx_ns (hp : List Ent) (z : List SV) (s : Nat) (g : Bool) (e sz by_ t' b' o' m c' : Nat) : apx hp (some z) (some ⟨s, g, .slice e sz by_⟩) (.v (.slice none 0 0)) (.s t' b' o' m c') = nws (hk hp t') b' o' (m * sz) (fun news => apN z e sz by_ m news) := rfl
@[go_sem] theorem apx_ss (hp : List Ent) (z : List SV) (s : Nat) (g : Bool) (e sz by_ t b o n c t' b' o' m c' : Nat) : apx hp (some z) (some ⟨s, g, .slice e sz by_⟩) (.s t b o n c) (.s t' b' o' m c') = bif Nat.beq t t' then .no else nws (hk hp t') b' o' (m * sz) (fun news => apO z e sz by_ t b o n c m (hk hp t) news) := rfl
@[go_sem] theorem nws_c (t b' b o n : Nat) (w : Bool) (l : List SV) (T : Nat) (kk : List SV → Res) : nws (some ⟨t, b', w, .c l T⟩) b o n kk = .obl (b = b' ∧ (n = 0 ∨ o + n ≤ l.length) ∧ allOne (ldN l o n) = true) (kk (ldN l o n)) := by simp [nws, rowOf, nws.okR]
@[go_sem] theorem nws_a (t b' b o n : Nat) (w : Bool) (l : List SV) (T : Nat) (kk : List SV → Res) : nws (some ⟨t, b', w, .a l T⟩) b o n kk = .obl (b = b' ∧ (n = 0 ∨ o + n ≤ l.length) ∧ allOne (ldN l o n) = true) (kk (ldN l o n)) := by simp [nws, rowOf, nws.okR]
@[go_sem] theorem apN_eq (z news : List SV) (e sz by_ m : Nat) : apN z e sz by_ m news = .obl (z.length = sz ∧ sz ≠ 0 ∧ m * by_ ≤ 140737488355328 ∧ m ≤ 9223372036854775807)
    (.cse (m = 0) (.val (.v (.slice none 0 0))) (.gen (fun c _ => m ≤ c ∧ c ≤ 9223372036854775807) m (fun c _ => .a (news ++ rpt (c - m) z) e) none)) := rfl
@[go_sem] theorem apO_eq (z news l : List SV) (e e' sz by_ t b o n c m t' b' : Nat) (w : Bool) : apO z e sz by_ t b o n c m (some ⟨t', b', w, .a l e'⟩) news = .obl (b = b' ∧ o = 0 ∧ w = true ∧ e = e' ∧ l.length = c * sz ∧ n ≤ c ∧ z.length = sz ∧ sz ≠ 0 ∧ (n + m) * by_ ≤ 140737488355328 ∧ n + m ≤ 9223372036854775807 ∧ c ≤ 9223372036854775807)
      (.gen (fun c' j => n + m ≤ c' ∧ c' ≤ 9223372036854775807 ∧ (n + m) * sz + j.length = c' * sz) (n + m) (fun _ j => .a (hdN l (n * sz) ++ news ++ j) e) (some t)) := rfl
@[go_sem] theorem hdr_none (hp : List Ent) : hdr hp none = hp := rfl
@[go_sem] theorem hdr_some (hp : List Ent) (t : Nat) : hdr hp (some t) = hdrop hp t := rfl
@[go_sem] theorem hdrop_hit (t b : Nat) (w : Bool) (o : HObj) (r : List Ent) : hdrop (⟨t, b, w, o⟩ :: r) t = r := by simp [hdrop]
@[go_sem] theorem hdrop_miss (t' b : Nat) (w : Bool) (o : HObj) (r : List Ent) (t : Nat) (h : Nat.beq t' t = false) : hdrop (⟨t', b, w, o⟩ :: r) t = ⟨t', b, w, o⟩ :: hdrop r t := by simp only [hdrop, h, cond_false]
@[go_sem] theorem exR_cse (p : Prop) (x y : Res) : exR P E rec all o r k S (.cse p x y) = ((p → exR P E rec all o r k S x) ∧ (¬ p → exR P E rec all o r k S y)) := rfl
@[go_sem] theorem exR_gen (φ : Nat → List SV → Prop) (n : Nat) (ob : Nat → List SV → HObj) (d : Option Nat) : exR P E rec all o r k S (.gen φ n ob d) = ((dOf o.dst < S.n ∨ o.dst = none) ∧ ∀ b c j, φ c j → rec (.L all r k (put1 { S with nt := S.nt + 1, hp := ⟨S.nt, b, true, ob c j⟩ :: hdr S.hp d } o.dst (.s S.nt b 0 n c)))) := rfl
@[go_sem] theorem lnx_s (s : Nat) (g : Bool) (e sz by_ t b o m c : Nat) : lnx (some ⟨s, g, .slice e sz by_⟩) (.s t b o m c) = vi .i64 m := rfl
@[go_sem] theorem lnx_n (s : Nat) (g : Bool) (e sz by_ m c : Nat) : lnx (some ⟨s, g, .slice e sz by_⟩) (.v (.slice none m c)) = vi .i64 m := rfl
@[go_sem] theorem lnx_a (s : Nat) (g h : Bool) (m e sz : Nat) (x : SV) : lnx (some ⟨s, g, .arr m e sz h⟩) x = vi .i64 m := rfl
@[go_sem] theorem lnx_str (s : Nat) (g : Bool) (y : ByteArray) : lnx (some ⟨s, g, .str⟩) (.v (.string y)) = vi .i64 y.size := rfl
@[go_sem] theorem lnx_m (s : Nat) (g : Bool) (kk e t b : Nat) : lnx (some ⟨s, g, .map kk e⟩) (.m t b) = .leaf := rfl
@[go_sem] theorem lnx_mn (s : Nat) (g : Bool) (kk e : Nat) : lnx (some ⟨s, g, .map kk e⟩) (.v (.map none)) = vi .i64 0 := rfl
@[go_sem] theorem cpx_s (s : Nat) (g : Bool) (e sz by_ t b o m c : Nat) : cpx (some ⟨s, g, .slice e sz by_⟩) (.s t b o m c) = vi .i64 c := rfl
@[go_sem] theorem cpx_n (s : Nat) (g : Bool) (e sz by_ m c : Nat) : cpx (some ⟨s, g, .slice e sz by_⟩) (.v (.slice none m c)) = vi .i64 c := rfl

/-! ### Ends -/
@[go_sem] theorem resq_nil (K : List SV → Prop) : resq P S [] K = K [] := rfl
@[go_sem] theorem resq_tmp (t : Nat) (l : List ResultVar) (K : List SV → Prop) : resq P S (.tmp t :: l) K = resq P S l (fun ys => K (lk S.sl t :: ys)) := rfl
@[go_sem] theorem resq_cell (x T : Nat) (l : List ResultVar) (K : List SV → Prop) : resq P S (.cell x T :: l) K = resO (ldv P S.hp T (lk S.sl x)) (fun y => resq P S l (fun ys => K (y :: ys))) := rfl
@[go_sem] theorem resO_v (y : SV) (K : SV → Prop) : resO (.val y) K = K y := rfl
@[go_sem] theorem resO_o (p : Prop) (q : Res) (K : SV → Prop) : resO (.obl p q) K = (p ∧ resO q K) := rfl
/-- A function's end. -/
theorem fin_ret {w : World} {mods : List Nat} {R : Ending → World → Prop} {rs : List ResultVar} (hE : E = ⟨w, mods, none, finE P w mods R rs⟩) (S : St) :
    E.fin .ret S = (S.df = [] ∧ resq P S rs fun ys => allK ys = true ∧ ∀ w', Mem w mods S.hp w' → R (.returned (den (res1 ys))) w') := by subst hE; rfl
theorem fin_normal {w : World} {mods : List Nat} {R : Ending → World → Prop} {rs : List ResultVar} (hE : E = ⟨w, mods, none, finE P w mods R rs⟩) (S : St) :
    E.fin .normal S = (S.df = [] ∧ resq P S rs fun ys => allK ys = true ∧ ∀ w', Mem w mods S.hp w' → R (.returned (den (res1 ys))) w') := by subst hE; rfl
@[go_sem] theorem res1_one (y : SV) : res1 [y] = y := rfl
@[go_sem] theorem res1_nil : res1 [] = .u [] := rfl
@[go_sem] theorem res1_two (x y : SV) (l : List SV) : res1 (x :: y :: l) = .u (x :: y :: l) := rfl
@[go_sem] theorem slots_nil (i : Nat) : slots i [] = [] := rfl
@[go_sem] theorem slots_cons (i : Nat) (y : SV) (l : List SV) : slots i (y :: l) = (i, y) :: slots (i + 1) l := rfl

end
end Go.Dx
