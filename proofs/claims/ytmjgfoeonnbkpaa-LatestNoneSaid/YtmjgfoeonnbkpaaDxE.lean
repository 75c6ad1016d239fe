/- What each operation comes to in a symbolic state ('opv'). -/
import Derived.Test.YtmjgfoeonnbkpaaDxD
namespace Go.Dx
open Go.RowKit

def ev (S : St) : Operand → SV
  | .tmp t => lk S.sl t
  | .const c => .v c
  | .func f => .f f []
  | .global _ => .xx

def evL (S : St) : List Operand → List SV
  | [] => []
  | a :: l => ev S a :: evL S l

/-- Known: of 'x' nothing is. -/
def kn : SV → Bool
  | .xx => false
  | _ => true

def allK : List SV → Bool
  | [] => true
  | a :: l => kn a && allK l

/-- The cells of a value. -/
def cl : SV → List SV
  | .g l => l
  | y => [y]

def okc : SV → Bool
  | .g _ => true
  | y => one y

def fn3 : List (Nat × Nat × Bool) → Nat → Nat × Nat × Bool
  | [], _ => (0, 0, false)
  | a :: _, 0 => a
  | _ :: l, n + 1 => fn3 l n

def rpt : Nat → List SV → List SV
  | 0, _ => []
  | n + 1, z => z ++ rpt n z

/-! ### Tests -/

def qb (neg b : Bool) : Res := vb (bif neg then !b else b)

/-- '==' on what are no two whole numbers; 'cx': is one of the operands written as a constant? -/
def eqb (neg cx : Bool) (td : TD) : SV → SV → Res
  | .v (.bool a), .v (.bool b) => match td with | .bool => qb neg (a == b) | _ => .no
  | .v (.string a), .v (.string b) => qb neg (a.toList == b.toList)
  | .v (.pointer p), .v (.pointer q) => match td, p, q with | .ptr _, none, none => qb neg true | _, _, _ => .no
  | .p _ _ _, .v (.pointer q) => match td, q with | .ptr _, none => qb neg false | _, _ => .no
  | .v (.pointer p), .p _ _ _ => match td, p with | .ptr _, none => qb neg false | _, _ => .no
  | .v .nilIface, .v .nilIface => match td with | .iface _ => .obl (cx = true) (qb neg true) | _ => .no
  | .v .nilIface, .i _ _ => match td with | .iface _ => qb neg false | _ => .no
  | .i _ _, .v .nilIface => match td with | .iface _ => qb neg false | _ => .no
  | .v .nilFunc, .v .nilFunc => match td with | .fn => qb neg true | _ => .no
  | .f _ _, .v .nilFunc => match td with | .fn => qb neg false | _ => .no
  | .v (.slice p _ _), .v (.slice q _ _) => match td, p, q with | .slice _ _ _, none, none => qb neg true | _, _, _ => .no
  | .s _ _ _ _ _, .v (.slice q _ _) => match td, q with | .slice _ _ _, none => qb neg false | _, _ => .no
  | .v (.map p), .v (.map q) => match td, p, q with | .map _ _, none, none => qb neg true | _, _, _ => .no
  | .m _ _, .v (.map q) => match td, q with | .map _ _, none => qb neg false | _, _ => .no
  | .g _, .g _ => .leaf
  | _, _ => .no

def isC : Operand → Bool
  | .const _ => true
  | _ => false

def isI : SV → Option (IntKind × Int)
  | .v (.int k a) => some (k, a)
  | _ => none

def bi (op : BinOp) (k k' : IntKind) (a b : Int) : Res :=
  match op with
  | .shl => sh .shl k a b
  | .shr => sh .shr k a b
  | op => .obl (k = k') (ib op k a b)

def be (op : BinOp) (cx : Bool) (ti : Option TI) (x y : SV) : Res :=
  match op, ti with
  | .eql, some ti => eqb false cx ti.d x y
  | .neq, some ti => eqb true cx ti.d x y
  | _, _ => .no

def bv (op : BinOp) (cx : Bool) (ti : Option TI) (x y : SV) : Res :=
  match isI x, isI y with
  | some a, some b => bi op a.1 b.1 a.2 b.2
  | _, _ => be op cx ti x y

def allI (k : IntKind) : List SV → Bool
  | [] => true
  | .v (.int k' _) :: l => decide (k' = k) && allI k l
  | _ :: _ => false

def eqI : List SV → List SV → Bool
  | [], [] => true
  | .v (.int _ a) :: l, .v (.int _ b) :: r => decide (a = b) && eqI l r
  | _, _ => false

def eqAe (P : Program) (neg : Bool) (T n : Nat) (te : Option TI) (l r : List SV) : Res :=
  match te with
  | some ⟨1, false, .int k⟩ => .obl (allI k l = true ∧ allI k r = true ∧ l.length = n ∧ r.length = n ∧ P.eqGuardType P.depth T = false) (qb neg (eqI l r))
  | _ => .no

/-- '==' and '!=' on arrays of whole numbers. -/
def eqA (P : Program) (neg : Bool) (T : Nat) (ti : Option TI) (l r : List SV) : Res :=
  match ti with
  | some ⟨_, _, .arr n e _ _⟩ => eqAe P neg T n (ty P e) l r
  | _ => .leaf

def isG : SV → Option (List SV)
  | .g l => some l
  | _ => none

def bvx (P : Program) (op : BinOp) (cx : Bool) (T : Nat) (x y : SV) : Res :=
  match isG x, isG y with
  | some l, some r => match op with | .eql => eqA P false T (ty P T) l r | .neq => eqA P true T (ty P T) l r | _ => .no
  | _, _ => bv op cx (ty P T) x y

def uv (op : UnOp) (x : SV) : Res :=
  match op, x with
  | .not, .v (.bool b) => vb (!b)
  | .neg, .v (.int k a) => ar k (0 - a)
  | .xor, .v (.int k a) => .obl (k.signed = false ∧ 0 ≤ a ∧ a ≤ kmax k) (vi k (ixor (kmax k) a))
  | _, _ => .no

def pk : SV → SV → SV → Res
  | .v (.bool true), x, _ => .val x
  | .v (.bool false), _, y => .val y
  | _, _, _ => .no

/-! ### Memory -/

def seg (l : List SV) (ti : TI) (o : Nat) : Res :=
  bif ti.agg then .obl (o + ti.sz ≤ l.length) (.val (.g (ldN l o ti.sz))) else .obl (o < l.length) (.val (ld1 l o))

def ldo (ob : HObj) (T : Nat) (ti : TI) (o : Nat) : Res :=
  match ob with
  | .c l T' => bif ti.agg && (Nat.beq T T' && Nat.beq o 0) then .obl (l.length = ti.sz) (.val (.g l)) else seg l ti o
  | .a l _ => seg l ti o
  | .z l _ _ => seg l ti o
  | .o _ => .no

def ldx (ti : Option TI) (e : Option Ent) (T b o : Nat) : Res :=
  match ti, e with
  | some ti, some e => .obl (b = e.b) (ldo e.o T ti o)
  | _, _ => .no

def ldv (P : Program) (hp : List Ent) (T : Nat) : SV → Res
  | .p t b o => ldx (ty P T) (hk hp t) T b o
  | _ => .no

def sto (ob : HObj) (T : Nat) (ti : TI) (t o : Nat) (ys : List SV) : Res :=
  match ob with
  | .c l T' => bif Nat.beq T T' && Nat.beq o 0 then .obl (l.length = ti.sz) (.sto t (.c ys T')) else .obl (o + ys.length ≤ l.length) (.sto t (.c (stN l o ys) T'))
  | .a l T' => .obl (o + ys.length ≤ l.length) (.sto t (.a (stN l o ys) T'))
  | _ => .no

def stx (ti : Option TI) (e : Option Ent) (T t b o : Nat) (y : SV) : Res :=
  match ti, e with
  | some ti, some e => .obl (b = e.b ∧ e.w = true ∧ okc y = true ∧ allOne (cl y) = true ∧ (cl y).length = ti.sz) (sto e.o T ti t o (cl y))
  | _, _ => .no

def stv (P : Program) (hp : List Ent) (T : Nat) : SV → SV → Res
  | .p t b o, y => stx (ty P T) (hk hp t) T t b o y
  | _, _ => .no

def alx (z : Option (List SV)) (T : Nat) : Res :=
  match z with
  | some l => .new (.c l T)
  | none => .no

def bxv (T : Nat) : SV → Res
  | .g l => .new (.c l T)
  | y => .obl (one y = true) (.new (.c [y] T))

def nlv : SV → Res
  | .p t b o => .val (.p t b o)
  | .f h l => .val (.f h l)
  | .i t y => .val (.i t y)
  | _ => .no

def fax (ti : Option TI) (t b o f : Nat) : Res :=
  match ti with
  | some ⟨_, _, .st fs⟩ => .obl (f < fs.length ∧ (fn3 fs f).2.1 ≠ 0) (.val (.p t b (o + (fn3 fs f).1)))
  | _ => .no

def fav (P : Program) (T f : Nat) : SV → Res
  | .p t b o => fax (ty P T) t b o f
  | _ => .no

def prt (l : List SV) (o sz : Nat) (ag : Bool) : Res :=
  bif ag then .obl (o + sz ≤ l.length) (.val (.g (ldN l o sz))) else .obl (o < l.length) (.val (ld1 l o))

def fdx (ti : Option TI) (l : List SV) (f : Nat) : Res :=
  match ti with
  | some ⟨_, _, .st fs⟩ => .obl (f < fs.length) (prt l (fn3 fs f).1 (fn3 fs f).2.1 (fn3 fs f).2.2)
  | _ => .no

def fdv (P : Program) (T f : Nat) : SV → Res
  | .g l => fdx (ty P T) l f
  | _ => .no

def iax (ti : Option TI) (x : SV) (q : Int) : Res :=
  match ti, x with
  | some ⟨_, _, .slice _ sz _⟩, .s t b o n _ => .obl (0 ≤ q ∧ q < (n : Int)) (.val (.p t b (o + q.toNat * sz)))
  | some ⟨_, _, .arr n _ sz _⟩, .p t b o => .obl (0 ≤ q ∧ q < (n : Int)) (.val (.p t b (o + q.toNat * sz)))
  | _, _ => .no

def iav (P : Program) (T : Nat) (x : SV) : SV → Res
  | .v (.int _ q) => iax (ty P T) x q
  | _ => .no

def ixx (ti : Option TI) (x : SV) (q : Int) : Res :=
  match ti, x with
  | some ⟨_, _, .arr n _ sz ag⟩, .g l => .obl (0 ≤ q ∧ q < (n : Int)) (prt l (q.toNat * sz) sz ag)
  | some ⟨_, _, .str⟩, .v (.string s) => .obl (0 ≤ q ∧ q < (s.size : Int)) (vi .u8 ((s.data.toList.getD q.toNat 0).toNat : Int))
  | _, _ => .no

def ixv (P : Program) (T : Nat) (x : SV) : SV → Res
  | .v (.int _ q) => ixx (ty P T) x q
  | _ => .no

/-- A bound of a slice expression, written or not. -/
def bnd (S : St) (d : Int) : Option Operand → SV
  | none => .v (.int .i64 d)
  | some x => ev S x

def slx (ti : Option TI) (x l h : SV) : Res :=
  match ti, x, l, h with
  | some ⟨_, _, .slice _ sz _⟩, .s t b o _ c, .v (.int _ l), .v (.int _ h) =>
    .obl (0 ≤ l ∧ l ≤ h ∧ h ≤ (c : Int)) (.val (.s t b (if c = l.toNat then o else o + l.toNat * sz) (h.toNat - l.toNat) (c - l.toNat)))
  | some ⟨_, _, .slice _ _ _⟩, .v (.slice none _ c), .v (.int _ l), .v (.int _ h) =>
    .obl (0 ≤ l ∧ l ≤ h ∧ h ≤ (c : Int)) (.val (.v (.slice none (h.toNat - l.toNat) (c - l.toNat))))
  | some ⟨_, _, .arr n _ sz _⟩, .p t b o, .v (.int _ l), .v (.int _ h) =>
    .obl (0 ≤ l ∧ l ≤ h ∧ h ≤ (n : Int)) (.val (.s t b (if n = l.toNat then o else o + l.toNat * sz) (h.toNat - l.toNat) (n - l.toNat)))
  | some ⟨_, _, .str⟩, .v (.string s), .v (.int _ l), .v (.int _ h) =>
    .obl (0 ≤ l ∧ l ≤ h ∧ h ≤ (s.size : Int)) (.val (.v (.string (s.extract l.toNat h.toNat))))
  | _, _, _, _ => .no

/-- The upper bound of a slice expression that writes none. -/
def top (ti : Option TI) (x : SV) : Int :=
  match ti, x with
  | some ⟨_, _, .arr n _ _ _⟩, _ => (n : Int)
  | _, .s _ _ _ n _ => (n : Int)
  | _, .v (.slice none n _) => (n : Int)
  | _, .v (.string s) => (s.size : Int)
  | _, _ => 0

def slv (P : Program) (S : St) (T : Nat) (x : SV) (l h m : Option Operand) : Res :=
  match m with
  | none => slx (ty P T) x (bnd S 0 l) (bnd S (top (ty P T) x) h)
  | some _ => .leaf

def msx (z : Option (List SV)) (ti : Option TI) (l c : SV) : Res :=
  match z, ti, l, c with
  | some z, some ⟨_, _, .slice e sz by_⟩, .v (.int _ l), .v (.int _ c) =>
    .obl (0 ≤ l ∧ l ≤ c ∧ c * (by_ : Int) ≤ 281474976710656 ∧ c ≤ 9223372036854775807 ∧ z.length = sz ∧ sz ≠ 0) (.news (.a (rpt c.toNat z) e) l.toNat c.toNat)
  | _, _, _, _ => .no

def eOf (ti : Option TI) : Nat :=
  match ti with
  | some ⟨_, _, .slice e _ _⟩ => e
  | some ⟨_, _, .arr _ e _ _⟩ => e
  | _ => 0

def msv (P : Program) (T : Nat) (l c : SV) : Res := msx (zv P (eOf (ty P T))) (ty P T) l c

def blS (fs : List (Nat × Nat × Bool)) (cells : List SV) : List (Nat × SV) → Res
  | [] => .val (.g cells)
  | (i, y) :: r => .obl (okc y = true ∧ i < fs.length ∧ (cl y).length = (fn3 fs i).2.1 ∧ (fn3 fs i).1 + (cl y).length ≤ cells.length) (blS fs (stN cells (fn3 fs i).1 (cl y)) r)

def blA (n : Nat) (sz : Nat) (cells : List SV) (k : List SV → Res) : List (Nat × SV) → Res
  | [] => k cells
  | (i, y) :: r => .obl (okc y = true ∧ (cl y).length = sz ∧ i * sz + (cl y).length ≤ cells.length) (blA n sz (stN cells (i * sz) (cl y)) k r)

def blx (z : Option (List SV)) (ti : Option TI) (ps : List (Nat × SV)) : Res :=
  match z, ti with
  | some z, some ⟨_, _, .st fs⟩ => blS fs z ps
  | some z, some ⟨_, _, .arr n _ sz _⟩ => blA n sz z (fun l => .val (.g l)) ps
  | _, _ => .no

def bsx (z : Option (List SV)) (ti : Option TI) (n : Nat) (ps : List (Nat × SV)) : Res :=
  match z, ti with
  | some z, some ⟨_, _, .slice e sz _⟩ => .obl (n * sz ≤ 16777216 ∧ z.length = sz ∧ sz ≠ 0) (blA n sz (rpt n z) (fun l => .news (.a l e) n n) ps)
  | _, _ => .no

def evP (S : St) : List (Nat × Operand) → List (Nat × SV)
  | [] => []
  | (i, a) :: l => (i, ev S a) :: evP S l

/-! ### Calls, conversions and the rest -/

def ent (P : Program) (h : Nat) : Bool :=
  match P.funcs[h]? with
  | some fn => fn.name != "runtime.NumGoroutine" && fn.body.isSome
  | none => false

def ptrD : TypeDesc → Bool
  | .pointer _ => true
  | _ => false

/-- A method of a type that is no embedded one's: its function. -/
def mth (P : Program) (T : Nat) (name : String) : Option Nat :=
  match P.info? T, P.underlying T with
  | some i, some d =>
    match i.methods.find? (·.name == name) with
    | some m =>
      match m.path.isEmpty, m.func with
      | true, some g => if g.2 = ptrD d then some g.1 else none
      | _, _ => none
    | none => none
  | _, _ => none

def clx (P : Program) (h : Nat) (as : List SV) : Res := .obl (ent P h = true ∧ allK as = true) (.call h as)

def cvl (P : Program) (as : List SV) : SV → Res
  | .f h l => clx P h (as ++ l)
  | .v (.func (.yield _) _ _) => .leaf
  | _ => .no

def ivx (P : Program) (m : Option Nat) (as : List SV) : Res :=
  match m with
  | some h => clx P h as
  | none => .no

def ivl (P : Program) (name : String) (as : List SV) : SV → Res
  | .i T y => ivx P (mth P T name) (y :: as)
  | _ => .no

def lnx (ti : Option TI) (x : SV) : Res :=
  match ti, x with
  | some ⟨_, _, .arr n _ _ _⟩, _ => vi .i64 n
  | some ⟨_, _, .slice _ _ _⟩, .s _ _ _ n _ => vi .i64 n
  | some ⟨_, _, .slice _ _ _⟩, .v (.slice none n _) => vi .i64 n
  | some ⟨_, _, .str⟩, .v (.string s) => vi .i64 s.size
  | some ⟨_, _, .map _ _⟩, .v (.map none) => vi .i64 0
  | some ⟨_, _, .map _ _⟩, .m _ _ => .leaf
  | _, _ => .no

def cpx (ti : Option TI) (x : SV) : Res :=
  match ti, x with
  | some ⟨_, _, .slice _ _ _⟩, .s _ _ _ _ c => vi .i64 c
  | some ⟨_, _, .slice _ _ _⟩, .v (.slice none _ c) => vi .i64 c
  | _, _ => .no

def mx2 : SV → SV → Res
  | .v (.int k a), .v (.int _ b) => vi k (max a b)
  | _, _ => .no

def mn2 : SV → SV → Res
  | .v (.int k a), .v (.int _ b) => vi k (min a b)
  | _, _ => .no

def rowOf : HObj → List SV
  | .c l _ => l
  | .a l _ => l
  | .z l _ _ => l
  | .o _ => []

/-- The cells that a slice shows. -/
def nws (e : Option Ent) (b o n : Nat) (k : List SV → Res) : Res :=
  match e with
  | some e => .obl (b = e.b ∧ (n = 0 ∨ o + n ≤ (rowOf e.o).length) ∧ allOne (ldN (rowOf e.o) o n) = true ∧ okR e.o = true) (k (ldN (rowOf e.o) o n))
  | none => .no
where okR : HObj → Bool
  | .o _ => false
  | _ => true

/-- What is known when nothing was. -/
def apN (z : List SV) (e sz by_ m : Nat) (news : List SV) : Res :=
  .obl (z.length = sz ∧ sz ≠ 0 ∧ m * by_ ≤ 140737488355328 ∧ m ≤ 9223372036854775807)
    (.cse (m = 0) (.val (.v (.slice none 0 0))) (.gen (fun c _ => m ≤ c ∧ c ≤ 9223372036854775807) m (fun c _ => .a (news ++ rpt (c - m) z) e) none))

def apO (z : List SV) (e sz by_ t b o n c m : Nat) (old : Option Ent) (news : List SV) : Res :=
  match old with
  | some ⟨_, b', w, .a l e'⟩ => .obl (b = b' ∧ o = 0 ∧ w = true ∧ e = e' ∧ l.length = c * sz ∧ n ≤ c ∧ z.length = sz ∧ sz ≠ 0 ∧ (n + m) * by_ ≤ 140737488355328 ∧ n + m ≤ 9223372036854775807 ∧ c ≤ 9223372036854775807)
      (.gen (fun c' j => n + m ≤ c' ∧ c' ≤ 9223372036854775807 ∧ (n + m) * sz + j.length = c' * sz) (n + m) (fun _ j => .a (hdN l (n * sz) ++ news ++ j) e) (some t))
  | _ => .no

def apx (hp : List Ent) (z : Option (List SV)) (ti : Option TI) (x y : SV) : Res :=
  match z, ti with
  | some z, some ⟨_, _, .slice e sz by_⟩ =>
    match x, y with
    | .v (.slice none 0 0), .v (.slice none 0 0) => .val (.v (.slice none 0 0))
    | .s t b o n c, .v (.slice none 0 0) => .obl (n ≤ c) (.val (.s t b o n c))
    | .v (.slice none 0 0), .s t' b' o' m _ => nws (hk hp t') b' o' (m * sz) fun news => apN z e sz by_ m news
    | .s t b o n c, .s t' b' o' m _ => bif Nat.beq t t' then .no else nws (hk hp t') b' o' (m * sz) fun news => apO z e sz by_ t b o n c m (hk hp t) news
    | _, _ => .no
  | _, _ => .no

def bul (P : Program) (hp : List Ent) (b : Builtin) (ts : Array TypeId) (as : List SV) : Res :=
  match b, as, ts.toList with
  | .len, [x], t :: _ => lnx (ty P t) x
  | .cap, [x], t :: _ => cpx (ty P t) x
  | .append, [x, y], [t, t'] => bif Nat.beq t t' then apx hp (zv P (eOf (ty P t))) (ty P t) x y else .leaf
  | .max, [x, y], _ => mx2 x y
  | .min, [x, y], _ => mn2 x y
  | .len, _, _ => .no
  | .cap, _, _ => .no
  | _, _, _ => .leaf

/-- Does every number of the first kind fit the second? -/
def fits : IntKind → IntKind → Bool
  | .u8, k => match k with | .i8 => false | _ => true
  | .u16, k => match k with | .i8 | .u8 | .i16 => false | _ => true
  | .u32, k => match k with | .u32 | .u64 | .i64 => true | _ => false
  | .u64, k => match k with | .u64 => true | _ => false
  | .i64, k => match k with | .i64 => true | _ => false
  | .i32, k => match k with | .i32 | .i64 => true | _ => false
  | .i16, k => match k with | .i16 | .i32 | .i64 => true | _ => false
  | .i8, k => k.signed

def cvi (k k' : IntKind) (z : Int) : Res :=
  bif fits k k' || k'.signed then .obl (inr k' z) (vi k' z) else vi k' (wr k' z)

def cnx (s d : Option TI) (x : SV) : Res :=
  match s, d, x with
  | some ⟨_, _, .int _⟩, some ⟨_, _, .int k'⟩, .v (.int k z) => cvi k k' z
  | _, _, _ => .leaf

def exv (i : Nat) : SV → Res
  | .u l => .obl (i < l.length) (.val (ld1 l i))
  | _ => .no

def mki (ti : Option TI) (T : Nat) (x : SV) : Res :=
  match ti with
  | some ⟨_, _, d⟩ => match d with | .iface _ => .no | _ => .obl (kn x = true) (.val (.i T x))
  | none => .no

def mkf (S : St) (fn : Fn) (first caps : Array Operand) : Res :=
  match fn, first.toList with
  | .func h, [] => .obl (allK (evL S caps.toList) = true) (.val (.f h (evL S caps.toList)))
  | _, _ => .leaf

def opv (P : Program) (S : St) : Op → Res
  | .move x => .val (ev S x)
  | .assign x => .val (ev S x)
  | .pick c x y => pk (ev S c) (ev S x) (ev S y)
  | .alloc T => alx (zv P T) T
  | .box T x => bxv T (ev S x)
  | .build T ps => blx (zv P T) (ty P T) (evP S ps.toList)
  | .buildSlice T n ps => bsx (zv P (eOf (ty P T))) (ty P T) n (evP S ps.toList)
  | .load T x => ldv P S.hp T (ev S x)
  | .store T x y => stv P S.hp T (ev S x) (ev S y)
  | .nilCheck x => nlv (ev S x)
  | .binOp op T x y _ => bvx P op (isC x || isC y) T (ev S x) (ev S y)
  | .unOp op _ x => uv op (ev S x)
  | .convert s d x => cnx (ty P s) (ty P d) (ev S x)
  | .makeInterface T x => mki (ty P T) T (ev S x)
  | .makeFunc fn f c => mkf S fn f c
  | .makeSlice T l c => msv P T (ev S l) (ev S c)
  | .slice T x l h m => slv P S T (ev S x) l h m
  | .fieldAddr T x f => fav P T f (ev S x)
  | .field T x f => fdv P T f (ev S x)
  | .indexAddr T x i => iav P T (ev S x) (ev S i)
  | .index T x i => ixv P T (ev S x) (ev S i)
  | .extract x i => exv i (ev S x)
  | .call c =>
    match c.callee with
    | .value f => cvl P (evL S c.args.toList) (ev S f)
    | .invoke r m => ivl P m (evL S c.args.toList) (ev S r)
    | .builtin b => bul P S.hp b c.argTypes (evL S c.args.toList)
  | _ => .leaf

end Go.Dx
