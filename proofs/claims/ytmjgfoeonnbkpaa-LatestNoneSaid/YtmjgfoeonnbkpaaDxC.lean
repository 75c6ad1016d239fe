/- What one operation comes to, as data: a value, an obligation, a new block, a store, a call. -/
import Derived.Test.YtmjgfoeonnbkpaaDxB
import Derived.Laws.Bits
import Derived.Laws.Wrap64
namespace Go.Dx
open Go.RowKit

inductive Res where
  | val (y : SV)
  | obl (p : Prop) (r : Res)
  | new (o : HObj)
  | news (o : HObj) (n c : Nat)
  | sto (t : Nat) (o : HObj)
  | call (h : Nat) (as : List SV)
  | cse (p : Prop) (a b : Res)
  | gen (φ : Nat → List SV → Prop) (n : Nat) (o : Nat → List SV → HObj) (d : Option Nat)
  | leaf
  | no

def vi (k : IntKind) (z : Int) : Res := .val (.v (.int k z))
def vb (b : Bool) : Res := .val (.v (.bool b))

/-! ### Whole numbers -/

def kmax : IntKind → Int
  | .i8 => 127
  | .i16 => 32767
  | .i32 => 2147483647
  | .i64 => 9223372036854775807
  | .u8 => 255
  | .u16 => 65535
  | .u32 => 4294967295
  | .u64 => 18446744073709551615

def kmin : IntKind → Int
  | .i8 => -128
  | .i16 => -32768
  | .i32 => -2147483648
  | .i64 => -9223372036854775808
  | _ => 0

def wr : IntKind → Int → Int
  | .u8, z => z % 256
  | .u16, z => z % 65536
  | .u32, z => z % 4294967296
  | .u64, z => z % 18446744073709551616
  | k, z => k.wrap z

def inr (k : IntKind) (z : Int) : Prop := kmin k ≤ z ∧ z ≤ kmax k

def iand (a b : Int) : Int := ((a.toNat &&& b.toNat : Nat) : Int)
def ior (a b : Int) : Int := ((a.toNat ||| b.toNat : Nat) : Int)
def ixor (a b : Int) : Int := ((a.toNat ^^^ b.toNat : Nat) : Int)
def iandn (a b : Int) : Int := ((a.toNat - (a.toNat &&& b.toNat) : Nat) : Int)

/-- A sum, a difference, a product: of an int none that does not fit. -/
def ar (k : IntKind) (z : Int) : Res :=
  match k with
  | .i64 => .obl (inr .i64 z) (vi .i64 z)
  | k => vi k (wr k z)

def ib (op : BinOp) (k : IntKind) (a b : Int) : Res :=
  match op with
  | .add => ar k (a + b)
  | .sub => ar k (a - b)
  | .mul => ar k (a * b)
  | .quo => .obl (0 ≤ a ∧ a ≤ kmax k ∧ 0 < b) (vi k (a / b))
  | .rem => .obl (0 ≤ a ∧ 0 < b) (vi k (a % b))
  | .and => .obl (0 ≤ a ∧ a ≤ kmax k ∧ 0 ≤ b ∧ b ≤ kmax k) (vi k (iand a b))
  | .or => .obl (0 ≤ a ∧ a ≤ kmax k ∧ 0 ≤ b ∧ b ≤ kmax k) (vi k (ior a b))
  | .xor => .obl (0 ≤ a ∧ a ≤ kmax k ∧ 0 ≤ b ∧ b ≤ kmax k) (vi k (ixor a b))
  | .andNot => .obl (0 ≤ a ∧ a ≤ kmax k ∧ 0 ≤ b ∧ b ≤ kmax k) (vi k (iandn a b))
  | .eql => vb (decide (a = b))
  | .neq => vb (!decide (a = b))
  | .lss => vb (decide (a < b))
  | .leq => vb (decide (a ≤ b))
  | .gtr => vb (decide (b < a))
  | .geq => vb (decide (b ≤ a))
  | .shl | .shr => .no

def sh (op : BinOp) (k : IntKind) (a b : Int) : Res :=
  match op with
  | .shl => .obl (0 ≤ b) (ar k (a * 2 ^ b.toNat))
  | .shr => .obl (0 ≤ b ∧ 0 ≤ a ∧ a ≤ kmax k) (vi k (a / 2 ^ b.toNat))
  | _ => .no

theorem kmax_eq (k : IntKind) : kmax k = k.max := by cases k <;> decide
theorem kmin_eq (k : IntKind) : kmin k = k.min := by cases k <;> decide

theorem wr_eq (k : IntKind) (z : Int) : wr k z = k.wrap z := by
  cases k <;> first | rfl | simp [wr, IntKind.wrap, IntKind.bits, IntKind.signed]

theorem wrap_in {k : IntKind} {z : Int} (h : inr k z) : k.wrap z = z := by
  obtain ⟨h1, h2⟩ := h
  cases k <;> simp only [kmin, kmax] at h1 h2 <;> simp only [IntKind.wrap, IntKind.bits, IntKind.signed, Bool.true_and, Bool.false_and, Bool.false_eq_true, if_false] <;>
    (try split) <;> (try rename_i h; simp at h) <;> omega

theorem bv_nat {n : Nat} {a : Int} (h0 : 0 ≤ a) (h1 : a < 2 ^ n) : (BitVec.ofInt n a).toNat = a.toNat := by
  rw [BitVec.toNat_ofInt]
  rw [Int.emod_eq_of_lt h0 (by exact_mod_cast h1)]

theorem kmax_lt (k : IntKind) {a : Int} (h : a ≤ kmax k) : a < 2 ^ k.bits := by
  cases k <;> simp [kmax, IntKind.bits] at h ⊢ <;> omega

theorem toNat_le_kmax {k : IntKind} {a : Int} (h : a ≤ kmax k) (_ : 0 ≤ a) : a.toNat ≤ (kmax k).toNat := by omega

theorem kmax_pow (k : IntKind) : ∃ n, n ≤ k.bits ∧ (kmax k).toNat = 2 ^ n - 1 ∧ kmax k = ((2 ^ n - 1 : Nat) : Int) ∧ kmin k ≤ 0 := by
  cases k
  · exact ⟨7, by decide, by decide, by decide, by decide⟩
  · exact ⟨15, by decide, by decide, by decide, by decide⟩
  · exact ⟨31, by decide, by decide, by decide, by decide⟩
  · exact ⟨63, by decide, by decide, by decide, by decide⟩
  · exact ⟨8, by decide, by decide, by decide, by decide⟩
  · exact ⟨16, by decide, by decide, by decide, by decide⟩
  · exact ⟨32, by decide, by decide, by decide, by decide⟩
  · exact ⟨64, by decide, by decide, by decide, by decide⟩

theorem nat_in {k : IntKind} {m : Nat} (h : m ≤ (kmax k).toNat) : inr k (m : Int) := by
  obtain ⟨n, _, h1, h2, h3⟩ := kmax_pow k
  refine ⟨by omega, ?_⟩
  rw [h2]; rw [h1] at h
  exact_mod_cast h

section
variable {P : Program} {w : World}

theorem bits_run (op : BinOp) (f : Nat → Nat → Nat) (g : (n : Nat) → BitVec n → BitVec n → BitVec n) {k : IntKind} {a b : Int}
    (hrun : ∀ n : Nat, ∀ x y : BitVec n, (g n x y).toNat = f x.toNat y.toNat)
    (hop : (Op.intBits op k a b).run P w = .ok (.int k (k.wrap (g k.bits (BitVec.ofInt k.bits a) (BitVec.ofInt k.bits b)).toNat)) w)
    (hle : f a.toNat b.toNat ≤ (kmax k).toNat) (h : 0 ≤ a ∧ a ≤ kmax k ∧ 0 ≤ b ∧ b ≤ kmax k) :
    (Op.intBits op k a b).run P w = .ok (.int k ((f a.toNat b.toNat : Nat) : Int)) w := by
  obtain ⟨a0, a1, b0, b1⟩ := h
  rw [hop, hrun, bv_nat a0 (kmax_lt k a1), bv_nat b0 (kmax_lt k b1), wrap_in (nat_in hle)]

theorem and_run {k : IntKind} {a b : Int} (h : 0 ≤ a ∧ a ≤ kmax k ∧ 0 ≤ b ∧ b ≤ kmax k) : (Op.intBits .and k a b).run P w = .ok (.int k (iand a b)) w :=
  bits_run .and (· &&& ·) (fun _ x y => x &&& y) (fun _ _ _ => BitVec.toNat_and ..) (by simp [Op.intBits]) (Nat.le_trans Nat.and_le_left (toNat_le_kmax h.2.1 h.1)) h

theorem or_run {k : IntKind} {a b : Int} (h : 0 ≤ a ∧ a ≤ kmax k ∧ 0 ≤ b ∧ b ≤ kmax k) : (Op.intBits .or k a b).run P w = .ok (.int k (ior a b)) w := by
  refine bits_run .or (· ||| ·) (fun _ x y => x ||| y) (fun _ _ _ => BitVec.toNat_or ..) (by simp [Op.intBits]) ?_ h
  obtain ⟨n, _, h1, _, _⟩ := kmax_pow k
  have ha := toNat_le_kmax h.2.1 h.1
  have hb := toNat_le_kmax h.2.2.2 h.2.2.1
  have hp := Nat.two_pow_pos n
  have := Nat.or_lt_two_pow (x := a.toNat) (y := b.toNat) (n := n) (by omega) (by omega)
  show _ ≤ _
  omega

theorem xor_run {k : IntKind} {a b : Int} (h : 0 ≤ a ∧ a ≤ kmax k ∧ 0 ≤ b ∧ b ≤ kmax k) : (Op.intBits .xor k a b).run P w = .ok (.int k (ixor a b)) w := by
  refine bits_run .xor (· ^^^ ·) (fun _ x y => x ^^^ y) (fun _ _ _ => BitVec.toNat_xor ..) (by simp [Op.intBits]) ?_ h
  obtain ⟨n, _, h1, _, _⟩ := kmax_pow k
  have ha := toNat_le_kmax h.2.1 h.1
  have hb := toNat_le_kmax h.2.2.2 h.2.2.1
  have hp := Nat.two_pow_pos n
  have := Nat.xor_lt_two_pow (x := a.toNat) (y := b.toNat) (n := n) (by omega) (by omega)
  show _ ≤ _
  omega

theorem or_add (x y : Nat) (h : x &&& y = 0) : x ||| y = x + y := by
  have hx : x < 2 ^ (x + y) := Nat.lt_of_lt_of_le Nat.lt_two_pow_self (Nat.pow_le_pow_right (by omega) (by omega))
  have hy : y < 2 ^ (x + y) := Nat.lt_of_lt_of_le Nat.lt_two_pow_self (Nat.pow_le_pow_right (by omega) (by omega))
  have hs : x + y < 2 ^ (x + y + 1) := by rw [Nat.pow_succ]; omega
  have hp : 2 ^ (x + y) < 2 ^ (x + y + 1) := by rw [Nat.pow_succ]; have := Nat.two_pow_pos (x + y); omega
  have h1 := BitVec.add_eq_or_of_and_eq_zero (BitVec.ofNat (x + y + 1) x) (BitVec.ofNat (x + y + 1) y) (by
    apply BitVec.eq_of_toNat_eq
    rw [BitVec.toNat_and, BitVec.toNat_ofNat, BitVec.toNat_ofNat, Nat.mod_eq_of_lt (by omega), Nat.mod_eq_of_lt (by omega), h]
    simp)
  have h2 := congrArg BitVec.toNat h1
  rw [BitVec.toNat_add, BitVec.toNat_or, BitVec.toNat_ofNat, BitVec.toNat_ofNat, Nat.mod_eq_of_lt (a := x) (by omega), Nat.mod_eq_of_lt (a := y) (by omega), Nat.mod_eq_of_lt hs] at h2
  exact h2.symm

theorem andn_nat (a b n : Nat) (ha : a < 2 ^ n) (hb : b < 2 ^ n) : a &&& (2 ^ n - 1 - b) = a - (a &&& b) := by
  have h1 : a = (a &&& b) + (a &&& (2 ^ n - 1 - b)) := by
    have hd : (a &&& b) &&& (a &&& (2 ^ n - 1 - b)) = 0 := by
      apply Nat.eq_of_testBit_eq
      intro i
      simp only [Nat.testBit_and, Nat.zero_testBit]
      have := Nat.testBit_two_pow_sub_succ (x := b) (n := n) hb i
      rw [show 2 ^ n - (b + 1) = 2 ^ n - 1 - b by omega] at this
      rw [this]
      cases a.testBit i <;> cases b.testBit i <;> simp
    have ho : (a &&& b) ||| (a &&& (2 ^ n - 1 - b)) = a := by
      apply Nat.eq_of_testBit_eq
      intro i
      simp only [Nat.testBit_or, Nat.testBit_and]
      have := Nat.testBit_two_pow_sub_succ (x := b) (n := n) hb i
      rw [show 2 ^ n - (b + 1) = 2 ^ n - 1 - b by omega] at this
      rw [this]
      by_cases hi : i < n
      · cases a.testBit i <;> cases b.testBit i <;> simp [hi]
      · have : a.testBit i = false := Nat.testBit_lt_two_pow (Nat.lt_of_lt_of_le ha (Nat.pow_le_pow_right (by omega) (by omega)))
        simp [this]
    have := or_add _ _ hd
    omega
  have : (a &&& b) ≤ a := Nat.and_le_left
  omega

theorem andn_run {k : IntKind} {a b : Int} (h : 0 ≤ a ∧ a ≤ kmax k ∧ 0 ≤ b ∧ b ≤ kmax k) : (Op.intBits .andNot k a b).run P w = .ok (.int k (iandn a b)) w := by
  obtain ⟨a0, a1, b0, b1⟩ := h
  have e : (BitVec.ofInt k.bits a &&& ~~~ BitVec.ofInt k.bits b).toNat = a.toNat - (a.toNat &&& b.toNat) := by
    rw [BitVec.toNat_and, BitVec.toNat_not, bv_nat a0 (kmax_lt k a1), bv_nat b0 (kmax_lt k b1)]
    have ha := kmax_lt k a1
    have hb := kmax_lt k b1
    exact andn_nat _ _ _ (by have : ((a.toNat : Nat) : Int) < ((2 ^ k.bits : Nat) : Int) := by { push_cast; omega }; exact_mod_cast this) (by have : ((b.toNat : Nat) : Int) < ((2 ^ k.bits : Nat) : Int) := by { push_cast; omega }; exact_mod_cast this)
  have hle : a.toNat - (a.toNat &&& b.toNat) ≤ (kmax k).toNat := by have := toNat_le_kmax a1 a0; omega
  simp only [Op.intBits, e, Sem.run_pure, wrap_in (nat_in hle), iandn]
end

end Go.Dx
