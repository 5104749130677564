/- Sets of bytes as 256-bit vectors, and their four 64-bit limbs: plain facts, no program. -/
import Derived.Laws.BitsAllLaws
import Derived.RowKit
namespace Go.Proofs.Ytekodfpjoehooaa.Bs
open Go
/-- limb i of a set of bytes -/
def limN (s : BitVec 256) (i : Nat) : Nat := (s >>> (64*i)).toNat % 18446744073709551616
def bit (b : Nat) : BitVec 256 := 1#256 <<< b
theorem limN_lt (s : BitVec 256) (i : Nat) : limN s i < 18446744073709551616 := Nat.mod_lt _ (by decide)
theorem limN_testBit (s : BitVec 256) (i r : Nat) (hr : r < 64) : (limN s i).testBit r = s.getLsbD (64*i + r) := by
  unfold limN
  rw [show (18446744073709551616 : Nat) = 2^64 from rfl, Nat.testBit_mod_two_pow, BitVec.testBit_toNat, BitVec.getLsbD_ushiftRight]
  simp [hr]
theorem limN_testBit_ge (s : BitVec 256) (i r : Nat) (hr : 64 ≤ r) : (limN s i).testBit r = false := by
  unfold limN
  rw [show (18446744073709551616 : Nat) = 2^64 from rfl, Nat.testBit_mod_two_pow]
  simp; omega
theorem bit_getLsbD (b i : Nat) (hi : i < 256) : (bit b).getLsbD i = decide (i = b) := by
  unfold bit
  rw [BitVec.getLsbD_shiftLeft, BitVec.getLsbD_one]
  by_cases h : i = b
  · subst h; simp [hi]
  · by_cases h2 : i < b
    · simp [h, h2]
    · have : ¬ (i - b = 0) := by omega
      simp [h, this]
theorem wrap_pow (r : Nat) (hr : r < 64) : IntKind.u64.wrap (2 ^ r) = ((2^r : Nat) : Int) := by
  have h : (2 : Nat)^r < 18446744073709551616 := Nat.pow_lt_pow_right (a := 2) (n := 64) (by decide) hr
  rw [show ((2:Int)^r) = ((2^r : Nat) : Int) from (Int.natCast_pow 2 r).symm]
  have hw : IntKind.u64.wrap ((2^r : Nat) : Int) = ((2^r : Nat) : Int) % 18446744073709551616 := rfl
  rw [hw]
  exact Int.emod_eq_of_lt (Int.natCast_nonneg _) (by generalize 2^r = x at h; omega)
theorem has_and (s : BitVec 256) (b : Nat) (q : Nat) (hq : b / 64 = q) :
    (bits BinOp.and IntKind.u64 (↑(limN s q)) (IntKind.u64.wrap (2 ^ (b % 64))) != 0) = s.getLsbD b := by
  have hr : b % 64 < 64 := Nat.mod_lt _ (by decide)
  have h : (2 : Nat)^(b%64) < 18446744073709551616 := Nat.pow_lt_pow_right (a := 2) (n := 64) (by decide) hr
  rw [wrap_pow _ hr, u64_and_nat _ _ (limN_lt _ _) h]
  have e := limN_testBit s q (b % 64) hr
  rw [show 64 * q + b % 64 = b by omega] at e
  rw [← e, nat_bit, Nat.testBit_eq_decide_div_mod_eq]
  have hp : 0 < 2 ^ (b % 64) := Nat.two_pow_pos _
  by_cases h1 : limN s q / 2 ^ (b % 64) % 2 = 1
  · rw [h1]; generalize 2 ^ (b % 64) = x at hp; simp; omega
  · have h0 : limN s q / 2 ^ (b % 64) % 2 = 0 := by omega
    rw [h0]; simp
  
theorem has_shr (s : BitVec 256) (b : Nat) (q : Nat) (hq : b / 64 = q) :
    (bits BinOp.and IntKind.u64 ((limN s q : Int) / 2 ^ (b % 64)) 1 == 1) = s.getLsbD b := by
  have hr : b % 64 < 64 := Nat.mod_lt _ (by decide)
  have e := limN_testBit s q (b % 64) hr
  rw [show 64 * q + b % 64 = b by omega, Nat.testBit_eq_decide_div_mod_eq] at e
  have hlt := limN_lt s q
  have hd : limN s q / 2 ^ (b % 64) ≤ limN s q := Nat.div_le_self _ _
  rw [show ((limN s q : Int) / 2 ^ (b % 64)) = ((limN s q / 2 ^ (b % 64) : Nat) : Int) by simp, show (1 : Int) = ((1 : Nat) : Int) from rfl,
    u64_and_nat _ _ (by omega) (by decide), nat_mask1]
  rw [← e]
  by_cases h : limN s q / 2 ^ (b % 64) % 2 = 1
  · rw [h]; simp
  · rw [show limN s q / 2 ^ (b % 64) % 2 = 0 by omega]; simp
theorem limN_or_bit (s : BitVec 256) (b i : Nat) (hi : i < 4) : limN (s ||| bit b) i = if b / 64 = i then limN s i ||| 2 ^ (b % 64) else limN s i := by
  apply Nat.eq_of_testBit_eq
  intro r
  by_cases hr : r < 64
  · rw [limN_testBit _ _ _ hr, BitVec.getLsbD_or, bit_getLsbD _ _ (by omega)]
    split
    · rename_i h
      rw [Nat.testBit_or, limN_testBit _ _ _ hr, Nat.testBit_two_pow]
      congr 1
      simp; omega
    · rename_i h
      rw [limN_testBit _ _ _ hr]
      have : decide (64 * i + r = b) = false := by simp; omega
      rw [this]; simp
  · have hr : 64 ≤ r := by omega
    rw [limN_testBit_ge _ _ _ hr]
    split
    · rw [Nat.testBit_or, limN_testBit_ge _ _ _ hr, Nat.testBit_two_pow]
      simp; omega
    · rw [limN_testBit_ge _ _ _ hr]
theorem limN_or (s t : BitVec 256) (i : Nat) : limN (s ||| t) i = limN s i ||| limN t i := by
  apply Nat.eq_of_testBit_eq
  intro r
  rw [Nat.testBit_or]
  by_cases hr : r < 64
  · simp only [limN_testBit _ _ _ hr, BitVec.getLsbD_or]
  · simp [limN_testBit_ge _ _ _ (Nat.le_of_not_lt hr)]
theorem limN_not (s : BitVec 256) (i : Nat) (hi : i < 4) : limN (~~~ s) i = 18446744073709551615 - limN s i := by
  apply Nat.eq_of_testBit_eq
  intro r
  rw [show (18446744073709551615 - limN s i) = 2^64 - (limN s i + 1) from by have := limN_lt s i; omega]
  rw [Nat.testBit_two_pow_sub_succ (n := 64) (x := limN s i) (limN_lt s i)]
  by_cases hr : r < 64
  · simp only [limN_testBit _ _ _ hr, BitVec.getLsbD_not]
    simp [hr]; omega
  · simp [limN_testBit_ge _ _ _ (Nat.le_of_not_lt hr), hr]
theorem limN_inj (s t : BitVec 256) (h0 : limN s 0 = limN t 0) (h1 : limN s 1 = limN t 1) (h2 : limN s 2 = limN t 2) (h3 : limN s 3 = limN t 3) : s = t := by
  apply BitVec.eq_of_getLsbD_eq
  intro i hi
  have key : ∀ q, limN s q = limN t q → i / 64 = q → s.getLsbD i = t.getLsbD i := by
    intro q h e
    have a := limN_testBit s q (i % 64) (Nat.mod_lt _ (by decide))
    have b := limN_testBit t q (i % 64) (Nat.mod_lt _ (by decide))
    rw [show 64 * q + i % 64 = i by omega] at a b
    rw [← a, ← b, h]
  have : i / 64 = 0 ∨ i / 64 = 1 ∨ i / 64 = 2 ∨ i / 64 = 3 := by omega
  rcases this with h | h | h | h
  · exact key 0 h0 h
  · exact key 1 h1 h
  · exact key 2 h2 h
  · exact key 3 h3 h
/-- the limb that a byte lies in, with the byte -/
theorem or_limb (s : BitVec 256) (b : Nat) (q : Nat) (hq : b / 64 = q) (h4 : q < 4) :
    bits BinOp.or IntKind.u64 (limN s q) (IntKind.u64.wrap (2 ^ (b % 64))) = (limN (s ||| bit b) q : Int) := by
  have hr : b % 64 < 64 := Nat.mod_lt _ (by decide)
  have h : (2 : Nat)^(b%64) < 18446744073709551616 := Nat.pow_lt_pow_right (a := 2) (n := 64) (by decide) hr
  rw [wrap_pow _ hr, u64_or_nat _ _ (limN_lt _ _) h, limN_or_bit _ _ _ h4, if_pos hq]
/-- and the other ones -/
theorem or_limb_ne (s : BitVec 256) (b : Nat) (q : Nat) (hq : b / 64 ≠ q) (h4 : q < 4) : limN (s ||| bit b) q = limN s q := by
  rw [limN_or_bit _ _ _ h4, if_neg hq]
theorem xor_limb (s : BitVec 256) (k : Nat) (h4 : k < 4) : bits BinOp.xor IntKind.u64 (if IntKind.u64.signed = true then -1 else IntKind.u64.max) (limN s k) = (limN (~~~ s) k : Int) := by
  have e : (if IntKind.u64.signed = true then (-1 : Int) else IntKind.u64.max) = ((18446744073709551615 : Nat) : Int) := by decide
  rw [e, u64_xor_nat _ _ (by decide) (limN_lt _ _)]
  congr 1
  apply Nat.eq_of_testBit_eq
  intro r
  rw [Nat.testBit_xor]
  by_cases hr : r < 64
  · rw [limN_testBit _ _ _ hr, limN_testBit _ _ _ hr, BitVec.getLsbD_not, show (18446744073709551615 : Nat) = 2 ^ 64 - 1 from rfl, Nat.testBit_two_pow_sub_one]
    have : decide (64 * k + r < 256) = true := by simp; omega
    simp [hr, this]
  · have hr : 64 ≤ r := by omega
    rw [limN_testBit_ge _ _ _ hr, limN_testBit_ge _ _ _ hr, show (18446744073709551615 : Nat) = 2 ^ 64 - 1 from rfl, Nat.testBit_two_pow_sub_one]
    simp; omega
theorem or_limbs (s t : BitVec 256) (k : Nat) : bits BinOp.or IntKind.u64 (limN s k) (limN t k) = (limN (s ||| t) k : Int) := by
  rw [u64_or_nat _ _ (limN_lt _ _) (limN_lt _ _), limN_or]
/-- four limbs as one set -/
def ofLim (a b c d : Nat) : BitVec 256 := BitVec.ofNat 256 (a + b * 2^64 + c * 2^128 + d * 2^192)
theorem limN_ofLim (a b c d : Nat) (ha : a < 18446744073709551616) (hb : b < 18446744073709551616) (hc : c < 18446744073709551616) (hd : d < 18446744073709551616) :
    limN (ofLim a b c d) 0 = a ∧ limN (ofLim a b c d) 1 = b ∧ limN (ofLim a b c d) 2 = c ∧ limN (ofLim a b c d) 3 = d := by
  have e : (ofLim a b c d).toNat = a + b * 2^64 + c * 2^128 + d * 2^192 := by
    unfold ofLim; rw [BitVec.toNat_ofNat]; apply Nat.mod_eq_of_lt; omega
  unfold limN
  simp only [BitVec.toNat_ushiftRight, e, Nat.shiftRight_eq_div_pow]
  refine ⟨?_, ?_, ?_, ?_⟩ <;> simp <;> omega
/-- the bytes below k of which p holds -/
def build (p : Nat → Bool) (k : Nat) : BitVec 256 := (List.range k).foldl (fun s b => if p b then s ||| bit b else s) 0#256
theorem build_zero (p : Nat → Bool) : build p 0 = 0#256 := rfl
theorem build_succ (p : Nat → Bool) (k : Nat) : build p (k + 1) = if p k then build p k ||| bit k else build p k := by
  unfold build; rw [List.range_succ, List.foldl_append]; rfl
theorem build_getLsbD (p : Nat → Bool) (k i : Nat) (hi : i < 256) : (build p k).getLsbD i = (decide (i < k) && p i) := by
  induction k with
  | zero => simp [build_zero]
  | succ k ih =>
    rw [build_succ]
    by_cases hp : p k = true
    · rw [if_pos hp, BitVec.getLsbD_or, ih, bit_getLsbD _ _ hi]
      by_cases e : i = k
      · subst e; simp [hp]
      · have : (i < k + 1) = (i < k) := by apply propext; omega
        simp [e, this]
    · rw [if_neg hp, ih]
      by_cases e : i = k
      · subst e; simp [hp]
      · have : (i < k + 1) = (i < k) := by apply propext; omega
        simp [this]
theorem build_none (p : Nat → Bool) (k : Nat) (h : ∀ i, i < k → p i = false) : build p k = 0#256 := by
  apply BitVec.eq_of_getLsbD_eq
  intro i hi
  rw [build_getLsbD _ _ _ hi]
  by_cases hk : i < k
  · simp [h i hk]
  · simp [hk]
/-- the bytes of a row -/
def rangeS (lo hi : Nat) : BitVec 256 := build (fun b => decide (lo ≤ b)) (hi + 1)
theorem range_empty (lo k : Nat) (h : k ≤ lo) : build (fun b => decide (lo ≤ b)) k = 0#256 :=
  build_none _ _ fun i hi => by simp; omega
/-- the bytes of a text -/
def ofS (l : List UInt8) : BitVec 256 := l.foldl (fun s b => s ||| bit b.toNat) 0#256
theorem ofS_snoc (l : List UInt8) (b : UInt8) : ofS (l ++ [b]) = ofS l ||| bit b.toNat := by unfold ofS; rw [List.foldl_append]; rfl
end Go.Proofs.Ytekodfpjoehooaa.Bs
