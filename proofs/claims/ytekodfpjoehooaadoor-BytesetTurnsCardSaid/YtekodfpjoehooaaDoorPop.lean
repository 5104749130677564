/- How many bits of a number are set, by sums of digits: plain facts, no program. -/
import Derived.Laws.BitsAllLaws
import Derived.RowKit
import Derived.Test.YtekodfpjoehooaaDoorBits
namespace Go.Proofs.YtekodfpjoehooaaDoor.Bs
/-- how many of the lowest k bits are set -/
def pop : Nat → Nat → Nat
  | 0, _ => 0
  | k + 1, n => n % 2 + pop k (n / 2)
def S4 : Nat → Nat → Nat
  | 0, _ => 0
  | k + 1, n => n % 4 + S4 k (n / 4)
def S16 : Nat → Nat → Nat
  | 0, _ => 0
  | k + 1, n => n % 16 + S16 k (n / 16)
def M0 : Nat → Nat
  | 0 => 0
  | k + 1 => 1 + 4 * M0 k
def M1 : Nat → Nat
  | 0 => 0
  | k + 1 => 3 + 16 * M1 k
def M2 : Nat → Nat
  | 0 => 0
  | k + 1 => 15 + 256 * M2 k
def A1 : Nat → Nat → Nat
  | 0, _ => 0
  | k + 1, n => (n / 2 % 2 + n % 2) + 4 * A1 k (n / 4)
def A2 : Nat → Nat → Nat
  | 0, _ => 0
  | k + 1, n => (n / 4 % 4 + n % 4) + 16 * A2 k (n / 16)
def A3 : Nat → Nat → Nat
  | 0, _ => 0
  | k + 1, n => (n / 16 % 16 + n % 16) + 256 * A3 k (n / 256)
theorem and_split (j x m r : Nat) (hm : m < 2 ^ j) : x &&& (m + 2 ^ j * r) = (x % 2 ^ j &&& m) + 2 ^ j * (x / 2 ^ j &&& r) := by
  have hx : x = 2 ^ j * (x / 2 ^ j) + x % 2 ^ j := (Nat.div_add_mod x (2 ^ j)).symm
  have hxm : x % 2 ^ j < 2 ^ j := Nat.mod_lt _ (Nat.two_pow_pos j)
  have hand : (x % 2 ^ j &&& m) < 2 ^ j := Nat.and_lt_two_pow _ hm
  apply Nat.eq_of_testBit_eq
  intro i
  rw [Nat.testBit_and, Nat.add_comm m, Nat.add_comm (x % 2 ^ j &&& m), Nat.testBit_two_pow_mul_add _ hm, Nat.testBit_two_pow_mul_add _ hand]
  have hxi : x.testBit i = if i < j then (x % 2 ^ j).testBit i else (x / 2 ^ j).testBit (i - j) := by
    conv => lhs; rw [hx]
    exact Nat.testBit_two_pow_mul_add _ hxm _
  rw [hxi]
  split <;> simp [Nat.testBit_and]
theorem and_mask4 (x r : Nat) : x &&& (1 + 4 * r) = x % 2 + 4 * (x / 4 &&& r) := by
  have h := and_split 2 x 1 r (by decide)
  rw [show (2 ^ 2 : Nat) = 4 from rfl, Go.nat_mask1] at h
  omega
theorem and_mask16 (x r : Nat) : x &&& (3 + 16 * r) = x % 4 + 16 * (x / 16 &&& r) := by
  have h := and_split 4 x 3 r (by decide)
  rw [show (2 ^ 4 : Nat) = 16 from rfl, Go.nat_mask2] at h
  omega
theorem and_mask256 (x r : Nat) : x &&& (15 + 256 * r) = x % 16 + 256 * (x / 256 &&& r) := by
  have h := and_split 8 x 15 r (by decide)
  rw [show (2 ^ 8 : Nat) = 256 from rfl, Go.nat_mask4] at h
  omega
theorem a1_eq : ∀ k n, (n / 2 &&& M0 k) + (n &&& M0 k) = A1 k n
  | 0, n => by simp [M0, A1]
  | k + 1, n => by
    have ih := a1_eq k (n / 4)
    simp only [M0, A1, and_mask4]
    rw [show n / 2 / 4 = n / 4 / 2 by omega, ← ih]
    omega
theorem a2_eq : ∀ k n, (n / 4 &&& M1 k) + (n &&& M1 k) = A2 k n
  | 0, n => by simp [M1, A2]
  | k + 1, n => by
    have ih := a2_eq k (n / 16)
    simp only [M1, A2, and_mask16]
    rw [show n / 4 / 16 = n / 16 / 4 by omega, ← ih]
    omega
theorem s4_a1 : ∀ k n, S4 k (A1 k n) = pop (2 * k) n
  | 0, n => rfl
  | k + 1, n => by
    have ih := s4_a1 k (n / 4)
    rw [show 2 * (k + 1) = 2 * k + 1 + 1 by omega]
    simp only [S4, A1, pop]
    rw [show ((n / 2 % 2 + n % 2) + 4 * A1 k (n / 4)) / 4 = A1 k (n / 4) by omega, ih, show n / 2 / 2 = n / 4 by omega]
    omega
theorem s16_a2 : ∀ k n, S16 k (A2 k n) = S4 (2 * k) n
  | 0, n => rfl
  | k + 1, n => by
    have ih := s16_a2 k (n / 16)
    rw [show 2 * (k + 1) = 2 * k + 1 + 1 by omega]
    simp only [S16, A2, S4]
    rw [show ((n / 4 % 4 + n % 4) + 16 * A2 k (n / 16)) / 16 = A2 k (n / 16) by omega, ih, show n / 4 / 4 = n / 16 by omega]
    omega
/-- the lowest k digits of base 16 are 6 at most -/
def Low : Nat → Nat → Prop
  | 0, n => n = 0
  | k + 1, n => n % 16 ≤ 6 ∧ Low k (n / 16)
theorem low_a2 : ∀ k n, Low k (A2 k n)
  | 0, n => rfl
  | k + 1, n => by
    have ih := low_a2 k (n / 16)
    refine ⟨by simp only [A2]; omega, ?_⟩
    simp only [A2]
    rw [show ((n / 4 % 4 + n % 4) + 16 * A2 k (n / 16)) / 16 = A2 k (n / 16) by omega]
    exact ih
theorem low_le (k n : Nat) (h : Low k n) : n % 16 ≤ 6 := by
  cases k with
  | zero => simp only [Low] at h; omega
  | succ k => exact h.1
theorem a3_eq : ∀ k n, Low (2 * k) n → (n / 16 + n) &&& M2 k = A3 k n
  | 0, n, _ => by simp [M2, A3]
  | k + 1, n, h => by
    rw [show 2 * (k + 1) = 2 * k + 1 + 1 by omega] at h
    obtain ⟨h0, h1, h2⟩ := h
    rw [show n / 16 / 16 = n / 256 by omega] at h2
    have h3 := low_le _ _ h2
    have ih := a3_eq k (n / 256) h2
    simp only [M2, A3, and_mask256]
    have hq : n / 16 / 16 = n / 256 := by omega
    rw [show (n / 16 + n) / 256 = n / 256 / 16 + n / 256 by omega, ih]
    omega
theorem s16_two (k n : Nat) : S16 (k + 2) n = (n / 16 % 16 + n % 16) + S16 k (n / 256) := by
  simp only [S16]
  rw [show n / 16 / 16 = n / 256 by omega]
  omega
theorem m0_32 : M0 32 = 6148914691236517205 := rfl
theorem m1_16 : M1 16 = 3689348814741910323 := rfl
theorem m2_8 : M2 8 = 1085102592571150095 := rfl
theorem a1_lt : ∀ k n, A1 k n < 4 ^ k
  | 0, n => by simp [A1]
  | k + 1, n => by have := a1_lt k (n / 4); simp only [A1]; rw [Nat.pow_succ]; omega
theorem a2_lt : ∀ k n, A2 k n < 16 ^ k
  | 0, n => by simp [A2]
  | k + 1, n => by have := a2_lt k (n / 16); simp only [A2]; rw [Nat.pow_succ]; omega
/-- the bytes' sum, as the last steps reckon it -/
theorem a3_bytes (n : Nat) (h : Low 16 n) : ∃ b0 b1 b2 b3 b4 b5 b6 b7 : Nat, b0 ≤ 12 ∧ b1 ≤ 12 ∧ b2 ≤ 12 ∧ b3 ≤ 12 ∧ b4 ≤ 12 ∧ b5 ≤ 12 ∧ b6 ≤ 12 ∧ b7 ≤ 12 ∧
    A3 8 n = b0 + 256 * b1 + 65536 * b2 + 16777216 * b3 + 4294967296 * b4 + 1099511627776 * b5 + 281474976710656 * b6 + 72057594037927936 * b7 ∧ S16 16 n = b0 + b1 + b2 + b3 + b4 + b5 + b6 + b7 := by
  obtain ⟨h0, h1, h2, h3, h4, h5, h6, h7, h8, h9, h10, h11, h12, h13, h14, h15, hz⟩ := h
  refine ⟨n / 16 % 16 + n % 16, n / 256 / 16 % 16 + n / 256 % 16, n / 256 / 256 / 16 % 16 + n / 256 / 256 % 16, n / 256 / 256 / 256 / 16 % 16 + n / 256 / 256 / 256 % 16,
    n / 256 / 256 / 256 / 256 / 16 % 16 + n / 256 / 256 / 256 / 256 % 16, n / 256 / 256 / 256 / 256 / 256 / 16 % 16 + n / 256 / 256 / 256 / 256 / 256 % 16,
    n / 256 / 256 / 256 / 256 / 256 / 256 / 16 % 16 + n / 256 / 256 / 256 / 256 / 256 / 256 % 16, n / 256 / 256 / 256 / 256 / 256 / 256 / 256 / 16 % 16 + n / 256 / 256 / 256 / 256 / 256 / 256 / 256 % 16, ?_⟩
  have d : ∀ x : Nat, x / 16 / 16 = x / 256 := fun x => by omega
  simp only [d] at *
  have e : ∀ x : Nat, x / 16 / 256 = x / 256 / 16 := fun x => by omega
  simp only [e] at *
  refine ⟨by omega, by omega, by omega, by omega, by omega, by omega, by omega, by omega, ?_, ?_⟩
  · simp only [A3]; omega
  · rw [s16_two 14, s16_two 12, s16_two 10, s16_two 8, s16_two 6, s16_two 4, s16_two 2, s16_two 0]; simp only [S16]; omega
theorem pop_steps (n : Nat) (x : Nat) (hx : x = A3 8 (A2 16 (A1 32 n))) :
    ((x + x / 256) + (x + x / 256) / 65536 + ((x + x / 256) + (x + x / 256) / 65536) / 4294967296) % 128 = pop 64 n ∧
    x + x / 256 < 18446744073709551616 ∧ (x + x / 256) + (x + x / 256) / 65536 < 18446744073709551616 ∧ ((x + x / 256) + (x + x / 256) / 65536 + ((x + x / 256) + (x + x / 256) / 65536) / 4294967296) < 9223372036854775808 := by
  have hs : S16 16 (A2 16 (A1 32 n)) = pop 64 n := by rw [s16_a2 16, s4_a1 32]
  obtain ⟨b0, b1, b2, b3, b4, b5, b6, b7, h0, h1, h2, h3, h4, h5, h6, h7, hb, hsum⟩ := a3_bytes _ (low_a2 16 (A1 32 n))
  rw [hsum] at hs
  rw [← hx] at hb
  rw [← hs]
  clear hx hs hsum
  have y1 : x + x / 256 = (b0 + b1) + 256 * (b1 + b2) + 65536 * (b2 + b3) + 16777216 * (b3 + b4) + 4294967296 * (b4 + b5) + 1099511627776 * (b5 + b6) + 281474976710656 * (b6 + b7) + 72057594037927936 * b7 := by omega
  rw [y1]
  have y2 : ∀ y : Nat, y = (b0 + b1) + 256 * (b1 + b2) + 65536 * (b2 + b3) + 16777216 * (b3 + b4) + 4294967296 * (b4 + b5) + 1099511627776 * (b5 + b6) + 281474976710656 * (b6 + b7) + 72057594037927936 * b7 →
      y + y / 65536 = (b0 + b1 + b2 + b3) + 256 * (b1 + b2 + b3 + b4) + 65536 * (b2 + b3 + b4 + b5) + 16777216 * (b3 + b4 + b5 + b6) + 4294967296 * (b4 + b5 + b6 + b7) + 1099511627776 * (b5 + b6 + b7) + 281474976710656 * (b6 + b7) + 72057594037927936 * b7 := by
    intro y hy; omega
  rw [y2 _ rfl]
  have y3 : ∀ y : Nat, y = (b0 + b1 + b2 + b3) + 256 * (b1 + b2 + b3 + b4) + 65536 * (b2 + b3 + b4 + b5) + 16777216 * (b3 + b4 + b5 + b6) + 4294967296 * (b4 + b5 + b6 + b7) + 1099511627776 * (b5 + b6 + b7) + 281474976710656 * (b6 + b7) + 72057594037927936 * b7 →
      y + y / 4294967296 = (b0 + b1 + b2 + b3 + b4 + b5 + b6 + b7) + 256 * ((b1 + b2 + b3 + b4) + (b5 + b6 + b7) + 256 * ((b2 + b3 + b4 + b5) + (b6 + b7)) + 65536 * (b3 + b4 + b5 + b6 + b7) + 16777216 * (b4 + b5 + b6 + b7) + 4294967296 * (b5 + b6 + b7) + 1099511627776 * (b6 + b7) + 281474976710656 * b7) := by
    intro y hy; omega
  rw [y3 _ rfl]
  refine ⟨by omega, by omega, by omega, by omega⟩
/-- how many of the bytes below k a set has -/
def bc (s : BitVec 256) : Nat → Nat
  | 0 => 0
  | k + 1 => bc s k + (if s.getLsbD k then 1 else 0)
def countS (s : BitVec 256) : Nat := bc s 256
/-- the set bits below k -/
def popr (n : Nat) : Nat → Nat
  | 0 => 0
  | k + 1 => popr n k + (if n.testBit k then 1 else 0)
theorem popr_shift (n : Nat) : ∀ k, popr n (k + 1) = n % 2 + popr (n / 2) k
  | 0 => by
    simp only [popr, Nat.zero_add, Nat.testBit_zero]
    by_cases h : n % 2 = 1
    · simp [h]
    · simp [h]; omega
  | k + 1 => by
    have ih := popr_shift n k
    rw [popr, ih, popr, Nat.testBit_succ]
    omega
theorem pop_popr : ∀ k n, pop k n = popr n k
  | 0, _ => rfl
  | k + 1, n => by rw [pop, pop_popr k, popr_shift]
theorem bc_limb (s : BitVec 256) (q : Nat) : ∀ r, r ≤ 64 → bc s (64 * q + r) = bc s (64 * q) + popr (limN s q) r
  | 0, _ => by simp [popr]
  | r + 1, h => by
    have ih := bc_limb s q r (by omega)
    rw [← Nat.add_assoc, bc, ih, popr, limN_testBit _ _ _ (by omega)]
    omega
/-- the first k limbs' bits -/
def cnt (s : BitVec 256) : Nat → Nat
  | 0 => 0
  | k + 1 => cnt s k + pop 64 (limN s k)
theorem cnt_bc (s : BitVec 256) : ∀ k, cnt s k = bc s (64 * k)
  | 0 => rfl
  | k + 1 => by rw [cnt, cnt_bc s k, pop_popr, show 64 * (k + 1) = 64 * k + 64 by omega, bc_limb s k 64 (by omega)]
theorem cnt_four (s : BitVec 256) : cnt s 4 = countS s := cnt_bc s 4
theorem bc_le (s : BitVec 256) : ∀ k, bc s k ≤ k
  | 0 => Nat.le_refl _
  | k + 1 => by have := bc_le s k; rw [bc]; split <;> omega
theorem cnt_le (s : BitVec 256) (k : Nat) : cnt s k ≤ 64 * k := by rw [cnt_bc]; exact bc_le _ _
theorem pop_le : ∀ k n, pop k n ≤ k
  | 0, _ => Nat.le_refl _
  | k + 1, n => by have := pop_le k (n / 2); rw [pop]; omega
end Go.Proofs.YtekodfpjoehooaaDoor.Bs
