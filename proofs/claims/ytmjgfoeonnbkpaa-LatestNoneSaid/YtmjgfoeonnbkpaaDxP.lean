/- The rules by which a region that draws its order is reckoned. -/
import Derived.Test.YtmjgfoeonnbkpaaDxO
namespace Go.Dx
open Go.RowKit

section
variable {P : Program} {E : Env} {rec : St → Prop} {N n : Nat} {all r : List Oper} {o : Oper} {k : List Fr} {S : St} {kd : Kd}

def exDX (P : Program) (E : Env) (all : List Oper) (kd : Kd) (rec : St → Prop) (S : St) : Option Oper → Prop
  | some o => exDO P E all o kd rec S
  | none => False

def exDY (P : Program) (E : Env) (o : Oper) (kd : Kd) (rec : St → Prop) (S : St) (want : Bool) : Option Nat → Prop
  | some dj => (dOf o.dst < S.n ∨ o.dst = none) ∧ exDG P E o kd rec S dj want (lk S.sl dj)
  | none => False

@[go_sem] theorem nthO_zero (o : Oper) (l : List Oper) : nthO (o :: l) 0 = some o := rfl
@[go_sem] theorem nthO_succ (o : Oper) (l : List Oper) (i : Nat) : nthO (o :: l) (i + 1) = nthO l i := rfl
@[go_sem] theorem lexP_nil (i : Nat) : lexP [] i = [] := rfl
@[go_sem] theorem lexP_cons (d : Option Nat) (op : Op) (t : TypeId) (pos : String) (af : Array Edge) (g : Option (Nat × Bool)) (l : List Oper) (i : Nat) : lexP (⟨d, op, t, pos, af, g⟩ :: l) i = (i, kdOf op) :: lexP l (i + 1) := rfl

@[go_sem] theorem exD_nil : exD P E N k all [] S = ex P E N (.K .normal k S) := rfl
@[go_sem] theorem exD_cons (i : Nat) (kd : Kd) (p : List (Nat × Kd)) : exD P E N k all ((i, kd) :: p) S = exDX P E all kd (exD P E N k all p) S (nthO all i) := by
  simp only [exD, exDX]
  cases nthO all i <;> rfl
@[go_sem] theorem exDX_some (d : Option Nat) (op : Op) (t : TypeId) (pos : String) (af : Array Edge) :
    exDX P E all kd rec S (some ⟨d, op, t, pos, af, none⟩) = exDR P E ⟨d, op, t, pos, af, none⟩ kd rec S (opv P S op) := rfl
@[go_sem] theorem exDX_guard (d : Option Nat) (op : Op) (t : TypeId) (pos : String) (af : Array Edge) (j : Nat) (want : Bool) :
    exDX P E all kd rec S (some ⟨d, op, t, pos, af, some (j, want)⟩) = exDY P E ⟨d, op, t, pos, af, some (j, want)⟩ kd rec S want (dstOf all j) := by
  simp only [exDX, exDO, exDY]
  cases dstOf all j <;> rfl
@[go_sem] theorem exDY_some (want : Bool) (dj : Nat) : exDY P E o kd rec S want (some dj) = ((dOf o.dst < S.n ∨ o.dst = none) ∧ exDG P E o kd rec S dj want (lk S.sl dj)) := rfl

def dxc (c : Bool) (x y : Prop) : Prop := (c = true → x) ∧ (c = false → y)
@[go_sem] theorem dxc_true (x y : Prop) : dxc true x y = x := by simp [dxc]
@[go_sem] theorem dxc_false (x y : Prop) : dxc false x y = y := by simp [dxc]
@[go_sem] theorem dxc_not (c : Bool) (x y : Prop) : dxc (!c) x y = dxc c y x := by cases c <;> simp [dxc]
@[go_sem] theorem dxc_dec (p : Prop) [Decidable p] (x y : Prop) : dxc (decide p) x y = ((p → x) ∧ (¬ p → y)) := by simp [dxc]
theorem dxc_split {c : Bool} {x y : Prop} (h1 : c = true → x) (h2 : c = false → y) : dxc c x y := ⟨h1, h2⟩

@[go_sem] theorem exDG_true (dj : Nat) (c : Bool) : exDG P E o kd rec S dj true (.v (.bool c)) =
    dxc c (exDR P E o kd rec { S with sl := (dj, .v (.bool true)) :: S.sl } (opv P { S with sl := (dj, .v (.bool true)) :: S.sl } o.op)) (rec (put1 { S with sl := (dj, .v (.bool false)) :: S.sl } o.dst (.v undef))) := rfl
@[go_sem] theorem exDG_false (dj : Nat) (c : Bool) : exDG P E o kd rec S dj false (.v (.bool c)) =
    dxc c (rec (put1 { S with sl := (dj, .v (.bool true)) :: S.sl } o.dst (.v undef))) (exDR P E o kd rec { S with sl := (dj, .v (.bool false)) :: S.sl } (opv P { S with sl := (dj, .v (.bool false)) :: S.sl } o.op)) := rfl
@[go_sem] theorem exDG_undef (dj : Nat) (want : Bool) : exDG P E o kd rec S dj want (.v undef) = rec (put1 S o.dst (.v undef)) := rfl

@[go_sem] theorem exDR_val (y : SV) : exDR P E o kd rec S (.val y) = (kn y = true ∧ (dOf o.dst < S.n ∨ o.dst = none) ∧ rec (put1 S o.dst y)) := rfl
@[go_sem] theorem exDR_obl (p : Prop) (q : Res) : exDR P E o kd rec S (.obl p q) = (p ∧ exDR P E o kd rec S q) := rfl
@[go_sem] theorem exDR_new (ob : HObj) : exDR P E o kd rec S (.new ob) = (kd.eq .a = true ∧ (dOf o.dst < S.n ∨ o.dst = none) ∧ ∀ b, rec (put1 { S with nt := S.nt + 1, hp := ⟨S.nt, b, true, ob⟩ :: S.hp } o.dst (.p S.nt b 0))) := rfl
@[go_sem] theorem exDR_news (ob : HObj) (m c : Nat) : exDR P E o kd rec S (.news ob m c) = (kd.eq .a = true ∧ (dOf o.dst < S.n ∨ o.dst = none) ∧ ∀ b, rec (put1 { S with nt := S.nt + 1, hp := ⟨S.nt, b, true, ob⟩ :: S.hp } o.dst (.s S.nt b 0 m c))) := rfl
@[go_sem] theorem exDR_sto (t : Nat) (ob : HObj) : exDR P E o kd rec S (.sto t ob) = (kd.eq .b = true ∧ rec (put1 { S with hp := hset S.hp t ob } o.dst .xx)) := rfl
@[go_sem] theorem exDR_call (h : Nat) (as : List SV) : exDR P E o kd rec S (.call h as) = CallD P E o kd rec S h as := rfl
@[go_sem] theorem exDR_cse (p : Prop) (x y : Res) : exDR P E o kd rec S (.cse p x y) = ((p → exDR P E o kd rec S x) ∧ (¬ p → exDR P E o kd rec S y)) := rfl
@[go_sem] theorem exDR_gen (φ : Nat → List SV → Prop) (n : Nat) (ob : Nat → List SV → HObj) (d : Option Nat) : exDR P E o kd rec S (.gen φ n ob d) = (kd.eq .q = false ∧ (kd.eq .a = true → d = none) ∧ (dOf o.dst < S.n ∨ o.dst = none) ∧ ∀ b c j, φ c j → rec (put1 { S with nt := S.nt + 1, hp := ⟨S.nt, b, true, ob c j⟩ :: hdr S.hp d } o.dst (.s S.nt b 0 n c))) := rfl
@[go_sem] theorem eq_aq : Kd.eq .a .q = false := rfl
@[go_sem] theorem eq_bq : Kd.eq .b .q = false := rfl
@[go_sem] theorem eq_ba : Kd.eq .b .a = false := rfl
@[go_sem] theorem exDR_leaf : exDR P E o kd rec S .leaf = LeafD P E o kd rec S := rfl
@[go_sem] theorem exDR_no : exDR P E o kd rec S .no = False := rfl

@[go_sem] theorem eq_qq : Kd.eq .q .q = true := rfl
@[go_sem] theorem eq_aa : Kd.eq .a .a = true := rfl
@[go_sem] theorem eq_bb : Kd.eq .b .b = true := rfl

@[go_sem] theorem kd_move (x : Operand) : kdOf (.move x) = .q := rfl
@[go_sem] theorem kd_assign (x : Operand) : kdOf (.assign x) = .q := rfl
@[go_sem] theorem kd_pick (x y z : Operand) : kdOf (.pick x y z) = .q := rfl
@[go_sem] theorem kd_alloc (T : Nat) : kdOf (.alloc T) = .a := rfl
@[go_sem] theorem kd_box (T : Nat) (x : Operand) : kdOf (.box T x) = .a := rfl
@[go_sem] theorem kd_build (T : Nat) (l : Array (Nat × Operand)) : kdOf (.build T l) = .q := rfl
@[go_sem] theorem kd_buildSlice (T m : Nat) (l : Array (Nat × Operand)) : kdOf (.buildSlice T m l) = .a := rfl
@[go_sem] theorem kd_load (T : Nat) (x : Operand) : kdOf (.load T x) = .q := rfl
@[go_sem] theorem kd_store (T : Nat) (x y : Operand) : kdOf (.store T x y) = .b := rfl
@[go_sem] theorem kd_nilCheck (x : Operand) : kdOf (.nilCheck x) = .q := rfl
@[go_sem] theorem kd_binOp (op : BinOp) (T u : Nat) (x y : Operand) : kdOf (.binOp op T x y u) = .q := rfl
@[go_sem] theorem kd_unOp (op : UnOp) (T : Nat) (x : Operand) : kdOf (.unOp op T x) = .q := rfl
@[go_sem] theorem kd_convert (s d : Nat) (x : Operand) : kdOf (.convert s d x) = .q := rfl
@[go_sem] theorem kd_mki (T : Nat) (x : Operand) : kdOf (.makeInterface T x) = .q := rfl
@[go_sem] theorem kd_mkf (fn : Fn) (f c : Array Operand) : kdOf (.makeFunc fn f c) = .q := rfl
@[go_sem] theorem kd_msl (T : Nat) (l c : Operand) : kdOf (.makeSlice T l c) = .a := rfl
@[go_sem] theorem kd_slice (T : Nat) (x : Operand) (l h m : Option Operand) : kdOf (.slice T x l h m) = .q := rfl
@[go_sem] theorem kd_fieldAddr (T f : Nat) (x : Operand) : kdOf (.fieldAddr T x f) = .q := rfl
@[go_sem] theorem kd_field (T f : Nat) (x : Operand) : kdOf (.field T x f) = .q := rfl
@[go_sem] theorem kd_indexAddr (T : Nat) (x i : Operand) : kdOf (.indexAddr T x i) = .q := rfl
@[go_sem] theorem kd_index (T : Nat) (x i : Operand) : kdOf (.index T x i) = .q := rfl
@[go_sem] theorem kd_extract (x : Operand) (i : Nat) : kdOf (.extract x i) = .q := rfl
@[go_sem] theorem kd_call (f : Operand) (l : Array Operand) (ts : Array TypeId) : kdOf (.call ⟨.value f, l, ts⟩) = .q := rfl
@[go_sem] theorem kd_invoke (x : Operand) (m : String) (l : Array Operand) (ts : Array TypeId) : kdOf (.call ⟨.invoke x m, l, ts⟩) = .q := rfl
@[go_sem] theorem kd_len (l : Array Operand) (ts : Array TypeId) : kdOf (.call ⟨.builtin .len, l, ts⟩) = .q := rfl
@[go_sem] theorem kd_cap (l : Array Operand) (ts : Array TypeId) : kdOf (.call ⟨.builtin .cap, l, ts⟩) = .q := rfl
@[go_sem] theorem kd_min (l : Array Operand) (ts : Array TypeId) : kdOf (.call ⟨.builtin .min, l, ts⟩) = .q := rfl
@[go_sem] theorem kd_max (l : Array Operand) (ts : Array TypeId) : kdOf (.call ⟨.builtin .max, l, ts⟩) = .q := rfl
@[go_sem] theorem kd_append (l : Array Operand) (ts : Array TypeId) : kdOf (.call ⟨.builtin .append, l, ts⟩) = .a := rfl
@[go_sem] theorem kd_copy (l : Array Operand) (ts : Array TypeId) : kdOf (.call ⟨.builtin .copy, l, ts⟩) = .b := rfl
@[go_sem] theorem kd_lookup (T : Nat) (x i : Operand) (c : Bool) : kdOf (.lookup T x i c) = .q := rfl
@[go_sem] theorem kd_mapUpdate (T : Nat) (m i v : Operand) : kdOf (.mapUpdate T m i v) = .b := rfl
@[go_sem] theorem kd_insert (T : Nat) (m i v : Operand) : kdOf (.insert T m i v) = .b := rfl
@[go_sem] theorem kd_makeMap (T : Nat) (x : Option Operand) : kdOf (.makeMap T x) = .a := rfl

@[go_sem] theorem kn_m (t b : Nat) : kn (.m t b) = true := rfl
@[go_sem] theorem kn_u (l : List SV) : kn (.u l) = true := rfl
@[go_sem] theorem kn_f (h : Nat) (l : List SV) : kn (.f h l) = true := rfl
@[go_sem] theorem kn_i (t : Nat) (y : SV) : kn (.i t y) = true := rfl

/-- A call in such a region that turns nothing that lay, and hands back a value that is known. -/
theorem CallD.pur {h : Nat} {as : List SV} (y : SV) (hk : kn y = true) (hc : ∀ w, Mem E.W0 E.mods S.hp w → Calls P h (denL as).toArray w fun e w' => e = .returned (den y) ∧ Bel w.heap.size w w')
    (hn : (dOf o.dst < S.n ∨ o.dst = none) ∧ rec (put1 S o.dst y)) : CallD P E o .q rec S h as := ⟨y, hk, hn.1, hc, hn.2⟩

end
end Go.Dx
