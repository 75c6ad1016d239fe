/- Fields of bits as plain numbers. -/
import Derived.Test.YtmjgfoeonnbkpaaDxQ
namespace Go.Dx

def fieldN (w at_ n : Nat) : Nat := w / 2 ^ at_ % 2 ^ n
def putN (w at_ n v : Nat) : Nat := 2 ^ at_ * (2 ^ n * (w / 2 ^ (at_ + n)) + v % 2 ^ n) + w % 2 ^ at_

theorem testBit_fieldN (w at_ n j : Nat) : (fieldN w at_ n).testBit j = (decide (j < n) && w.testBit (at_ + j)) := by
  simp [fieldN, Nat.testBit_mod_two_pow, Nat.testBit_div_two_pow, Nat.add_comm]

theorem testBit_putN (w at_ n v j : Nat) : (putN w at_ n v).testBit j = if j < at_ then w.testBit j else if j < at_ + n then v.testBit (j - at_) else w.testBit j := by
  unfold putN
  rw [Nat.testBit_two_pow_mul_add _ (Nat.mod_lt _ (Nat.two_pow_pos _))]
  by_cases h1 : j < at_
  · simp [h1, Nat.testBit_mod_two_pow]
  · simp only [h1, if_false]
    rw [Nat.testBit_two_pow_mul_add _ (Nat.mod_lt _ (Nat.two_pow_pos _))]
    by_cases h2 : j < at_ + n
    · have : j - at_ < n := by omega
      simp [h2, this, Nat.testBit_mod_two_pow]
    · have : ¬ j - at_ < n := by omega
      simp only [h2, this, if_false, Nat.testBit_div_two_pow]
      congr 1
      omega

theorem putN_lt {w at_ n v k : Nat} (hw : w < 2 ^ k) (h : at_ + n ≤ k) : putN w at_ n v < 2 ^ k := by
  apply Nat.lt_pow_two_of_testBit
  intro i hi
  rw [testBit_putN]
  rw [if_neg (by omega), if_neg (by omega)]
  exact Nat.testBit_lt_two_pow (Nat.lt_of_lt_of_le hw (Nat.pow_le_pow_right (by omega) hi))

theorem fieldN_lt (w at_ n : Nat) : fieldN w at_ n < 2 ^ n := Nat.mod_lt _ (Nat.two_pow_pos _)

/-! ### Masks -/

theorem iand_mask (x : Int) (k : Nat) (hx : 0 ≤ x) : iand x (2 ^ k - 1) = x % 2 ^ k := by
  obtain ⟨m, rfl⟩ := Int.eq_ofNat_of_zero_le hx
  unfold iand
  have h1 : ((2 : Int) ^ k) = ((2 ^ k : Nat) : Int) := by simp
  have e : ((2 : Int) ^ k - 1).toNat = 2 ^ k - 1 := by
    have := Nat.two_pow_pos k
    omega
  rw [e, Int.toNat_natCast, Nat.and_two_pow_sub_one_eq_mod, h1, Int.natCast_emod]

theorem iandn_testBit (j : Nat) : ∀ (a b : Nat), (a - (a &&& b)).testBit j = (a.testBit j && !b.testBit j) := by
  have h0 : ∀ a b : Nat, (a &&& b) / 2 = a / 2 &&& b / 2 := fun a b => by
    apply Nat.eq_of_testBit_eq
    intro i
    simp [Nat.testBit_div_two]
  have h1 : ∀ a b : Nat, (a &&& b) % 2 = 1 ↔ a % 2 = 1 ∧ b % 2 = 1 := fun a b => by
    simp
  have h2 : ∀ a b : Nat, (a - (a &&& b)) / 2 = a / 2 - (a / 2 &&& b / 2) ∧ ((a - (a &&& b)) % 2 = 1 ↔ a % 2 = 1 ∧ ¬ b % 2 = 1) := fun a b => by
    have e0 := h0 a b
    have e1 := h1 a b
    have e2 : a &&& b ≤ a := Nat.and_le_left
    have e3 : a / 2 &&& b / 2 ≤ a / 2 := Nat.and_le_left
    rw [← e0] at e3 ⊢
    constructor
    · omega
    · omega
  induction j with
  | zero =>
    intro a b
    simp only [Nat.testBit_zero]
    have := (h2 a b).2
    by_cases ha : a % 2 = 1 <;> by_cases hb : b % 2 = 1 <;> simp [ha, hb] at this ⊢ <;> omega
  | succ j ih =>
    intro a b
    simp only [Nat.testBit_succ, (h2 a b).1]
    exact ih _ _

theorem iandn_bd (a b : Int) (ha : 0 ≤ a) : 0 ≤ iandn a b ∧ iandn a b ≤ a := by
  unfold iandn
  omega

theorem iand_bd (a b : Int) (ha : 0 ≤ a) : 0 ≤ iand a b ∧ iand a b ≤ a := by
  unfold iand
  have : a.toNat &&& b.toNat ≤ a.toNat := Nat.and_le_left
  omega

theorem iand3 (a : Int) (ha : 0 ≤ a) : iand a 3 = a % 4 := iand_mask a 2 ha

theorem iandn3 (a : Int) (ha : 0 ≤ a) : iandn a 3 = a - a % 4 := by
  have h : ((iand a 3 : Int)) = a % 4 := iand3 a ha
  unfold iand at h
  unfold iandn
  have : a.toNat &&& (3 : Int).toNat ≤ a.toNat := Nat.and_le_left
  omega

theorem put_eq (w v at_ n : Nat) (h : at_ + n ≤ 32) :
    ior (iandn (w : Int) (((2 ^ n - 1) * 2 ^ at_) % 18446744073709551616 % 4294967296)) ((((v : Int) % 2 ^ n) * 2 ^ at_) % 18446744073709551616 % 4294967296) = ((putN w at_ n v : Nat) : Int) := by
  have hp : 2 ^ (at_ + n) ≤ 2 ^ 32 := Nat.pow_le_pow_right (by omega) h
  have hpos := Nat.two_pow_pos at_
  have hposn := Nat.two_pow_pos n
  rw [Nat.pow_add] at hp
  have hm : (2 ^ n - 1) * 2 ^ at_ < 2 ^ 32 := by
    have : (2 ^ n - 1) * 2 ^ at_ < 2 ^ n * 2 ^ at_ := Nat.mul_lt_mul_of_pos_right (by omega) hpos
    rw [Nat.mul_comm (2 ^ n)] at this
    omega
  have hv : (v % 2 ^ n) * 2 ^ at_ < 2 ^ 32 := by
    have : (v % 2 ^ n) * 2 ^ at_ < 2 ^ n * 2 ^ at_ := Nat.mul_lt_mul_of_pos_right (Nat.mod_lt _ hposn) hpos
    rw [Nat.mul_comm (2 ^ n)] at this
    omega
  have e1 : ((2 : Int) ^ n - 1) * 2 ^ at_ = (((2 ^ n - 1) * 2 ^ at_ : Nat) : Int) := by
    have : ((2 ^ n - 1 : Nat) : Int) = 2 ^ n - 1 := by
      have h1 : ((2 : Int) ^ n) = ((2 ^ n : Nat) : Int) := by simp
      omega
    rw [Int.natCast_mul, this]
    simp
  have e2 : ((v : Int) % 2 ^ n) * 2 ^ at_ = (((v % 2 ^ n) * 2 ^ at_ : Nat) : Int) := by simp
  rw [e1, e2]
  have f1 : ((((2 ^ n - 1) * 2 ^ at_ : Nat) : Int) % 18446744073709551616 % 4294967296) = (((2 ^ n - 1) * 2 ^ at_ : Nat) : Int) := by omega
  have f2 : ((((v % 2 ^ n) * 2 ^ at_ : Nat) : Int) % 18446744073709551616 % 4294967296) = (((v % 2 ^ n) * 2 ^ at_ : Nat) : Int) := by omega
  rw [f1, f2]
  unfold ior iandn
  simp only [Int.toNat_natCast]
  congr 1
  apply Nat.eq_of_testBit_eq
  intro j
  rw [Nat.testBit_or, iandn_testBit, testBit_putN, Nat.testBit_mul_two_pow, Nat.testBit_mul_two_pow, Nat.testBit_two_pow_sub_one, Nat.testBit_mod_two_pow]
  by_cases h1 : j < at_
  · have : ¬ at_ ≤ j := by omega
    simp [h1, this]
  · have h1' : at_ ≤ j := by omega
    by_cases h2 : j < at_ + n
    · have : j - at_ < n := by omega
      simp [h1, h2, h1', this]
    · have : ¬ j - at_ < n := by omega
      simp [h1, h2, this]

/-! ### Bit by bit -/

theorem split_at (w i : Nat) : w = 2 ^ i * (2 * (w / 2 ^ (i + 1))) + 2 ^ i * (w / 2 ^ i % 2) + w % 2 ^ i := by
  have h1 := Nat.div_add_mod w (2 ^ i)
  have h2 := Nat.div_add_mod (w / 2 ^ i) 2
  rw [Nat.div_div_eq_div_mul, ← Nat.pow_succ] at h2
  rw [← Nat.mul_add, h2]
  exact h1.symm

theorem set_eq (w i b : Nat) (hw : w < 4294967296) (hi : i ≤ 31) (hb : b ≤ 1) :
    (((w : Int) - ((w / 2 ^ i % 2 : Nat) : Int) * 2 ^ i % 4294967296) % 4294967296 + (b : Int) * 2 ^ i % 4294967296) % 4294967296 = ((putN w i 1 b : Nat) : Int) := by
  have hs := split_at w i
  have hp : 2 ^ i ≤ 2 ^ 31 := Nat.pow_le_pow_right (by omega) hi
  have hpos := Nat.two_pow_pos i
  have hr : w % 2 ^ i < 2 ^ i := Nat.mod_lt _ hpos
  have hbit : w / 2 ^ i % 2 < 2 := Nat.mod_lt _ (by omega)
  have hlt := putN_lt (w := w) (at_ := i) (n := 1) (v := b) (k := 32) (by omega) (by omega)
  have hput : putN w i 1 b = 2 ^ i * (2 * (w / 2 ^ (i + 1))) + 2 ^ i * b + w % 2 ^ i := by
    unfold putN
    rw [Nat.mul_add, show 2 ^ 1 = 2 from rfl, Nat.mod_eq_of_lt (show b < 2 by omega)]
  rw [hput] at hlt ⊢
  have e : ((2 : Int) ^ i) = ((2 ^ i : Nat) : Int) := by simp
  rw [e]
  generalize w / 2 ^ i % 2 = bit at *
  generalize 2 ^ i * (2 * (w / 2 ^ (i + 1))) = A at *
  generalize w % 2 ^ i = r at *
  generalize 2 ^ i = B at *
  rcases (show bit = 0 ∨ bit = 1 by omega) with rfl | rfl <;> rcases (show b = 0 ∨ b = 1 by omega) with rfl | rfl <;> simp only [Nat.mul_zero, Nat.mul_one, Int.natCast_zero, Int.natCast_one, Int.zero_mul, Int.one_mul, Int.natCast_add] at * <;> omega

theorem testBit_bit (w k : Nat) : (w / 2 ^ k % 2).testBit 0 = w.testBit k := by
  rw [Nat.testBit_zero, Nat.testBit_eq_decide_div_mod_eq]
  congr 1
  simp

theorem fieldN_zero (w at_ : Nat) : fieldN w at_ 0 = 0 := by simp [fieldN, Nat.mod_one]

theorem fieldN_succ (w at_ k : Nat) : putN (fieldN w at_ k) k 1 (w / 2 ^ (at_ + k) % 2) = fieldN w at_ (k + 1) := by
  apply Nat.eq_of_testBit_eq
  intro j
  rw [testBit_putN, testBit_fieldN, testBit_fieldN]
  by_cases h1 : j < k
  · have : j < k + 1 := by omega
    simp [h1, this]
  · by_cases h2 : j = k
    · subst h2
      simp only [Nat.lt_irrefl, if_false, Nat.lt_add_one, if_true, Nat.sub_self, testBit_bit, decide_true, Bool.true_and]
    · have h3 : ¬ j < k + 1 := by omega
      simp [h1, h3]

theorem putN_zero (w at_ v : Nat) : putN w at_ 0 v = w := by
  apply Nat.eq_of_testBit_eq
  intro j
  rw [testBit_putN]
  by_cases h1 : j < at_
  · simp [h1]
  · simp [h1]

theorem putN_succ (w at_ k v : Nat) : putN (putN w at_ k v) (at_ + k) 1 (v / 2 ^ k % 2) = putN w at_ (k + 1) v := by
  apply Nat.eq_of_testBit_eq
  intro j
  rw [testBit_putN, testBit_putN, testBit_putN]
  by_cases h1 : j < at_ + k
  · have : j < at_ + (k + 1) := by omega
    simp [h1, this]
  · by_cases h2 : j = at_ + k
    · subst h2
      have h3 : ¬ at_ + k < at_ := by omega
      have h4 : at_ + k < at_ + (k + 1) := by omega
      simp only [Nat.lt_irrefl, if_false, Nat.lt_add_one, if_true, Nat.sub_self, testBit_bit, h3, h4, Nat.add_sub_cancel_left]
    · have h3 : ¬ j < at_ + k + 1 := by omega
      have h4 : ¬ j < at_ + (k + 1) := by omega
      have h5 : ¬ j < at_ := by omega
      simp only [h1, h3, h4, h5, if_false]

end Go.Dx
