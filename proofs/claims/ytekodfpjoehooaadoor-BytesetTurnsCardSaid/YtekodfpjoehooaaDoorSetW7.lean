/- The walks of First on both sides. -/
import Derived.Test.YtekodfpjoehooaaDoorSetW6
import Derived.Test.YtekodfpjoehooaaDoorRowsP
namespace Go.Proofs.YtekodfpjoehooaaDoor.Bs
open Go.RowKit Mem
def firstV (o : Option Nat) : Value := .tuple #[.int .u8 ((o.getD 0 : Nat) : Int), .bool o.isSome]
set_option maxRecDepth 100000 in
theorem rfirst_calls (s : BitVec 256) (f : Int) (h0 : -9223372036854775808 ≤ f) (h1 : f ≤ 9223372036854775807) (w : World) :
    Calls Tryd.prog 10 #[setV s, .int .i64 f] w fun e w' => (∃ o, IsFirst s f.toNat o ∧ e = .returned (firstV o)) ∧ Below w.heap.size w w' := by
  obtain ⟨n, hn⟩ : ∃ n : Nat, (n : Int) = max f 0 := ⟨f.toNat, by omega⟩
  have hn2 : f.toNat = n := by omega
  rw [hn2]
  clear hn2
  go_enter Tryd.func10, Tryd.ntmps10
  have HN := Lib.hid hn
  clear hn
  go_wp2_with (refine box_set rfl (.tmp 0) rfl s rfl ?_)
  all_goals
    go_loopw [6] (fun i wr => ∃ k : Nat, n ≤ k ∧ (k ≤ 256 ∨ k = n) ∧ i = .int .i64 k ∧ (∀ c, n ≤ c → c < k → s.getLsbD c = false) ∧ wr.heap[w.heap.size]? = some (.cells (setC s) 24 (0, 0)) ∧ Below w.heap.size w wr) (fun i _ => (256 - intOf i).toNat)
    case atStart => exact ⟨n, Nat.le_refl _, .inr rfl, by have := HN.out; go_num, fun c h1 h2 => by omega, heap_alloc_new _ _, (Below.refl _ _).alloc (Nat.le_refl _) _⟩
    case round =>
      obtain ⟨k, hk0, hk, rfl, hno, hg, hB⟩ := hrel
      have HG := Lib.hid hg
      have HNO := Lib.hid hno
      have hsz := hB.size
      clear hg hno
      by_cases hlt : k < 256
      · cases hb : s.getLsbD k
        all_goals
          have HGB := Lib.hid hb
          clear hb
          go_wp2_with (first | (refine ld_set rfl (.tmp 2) rfl _ rfl _ _ HG.out ?_) | (go_at_call 12; refine (rhas_calls s k (by omega) _).mono ?_; rintro e w1 ⟨rfl, hb1⟩; rw [HGB.out]))
        · refine ⟨⟨k + 1, by omega, by omega, by go_num, ?_, below_all hb1 HG.out, below_more hB hsz hb1⟩, by simp [intOf]; omega⟩
          intro c h1 h2
          rcases (by omega : c < k ∨ c = k) with h | rfl
          · exact HNO.out c h1 h
          · exact HGB.out
        · go_ret2
          exact ⟨⟨some k, ⟨hk0, hlt, HGB.out, HNO.out⟩, rfl⟩, below_more hB hsz hb1⟩
      · go_wp2
        go_ret2
        exact ⟨⟨none, fun c h1 h2 => HNO.out c h1 (by omega), rfl⟩, hB⟩
/-- what tells the lowest bit -/
theorem tz_ex (m : Nat) (hm : m < 18446744073709551616) (h0 : m ≠ 0) : ∃ c : Nat, c < 64 ∧ m.testBit c = true ∧ (∀ j, j < c → m.testBit j = false) ∧
    ∀ w, Tab w → Calls Tryd.prog 31 #[.int .u64 m] w fun e w' => e = .returned (.int .i64 c) ∧ w = w' := by
  obtain ⟨d, hd, hk⟩ := Lib.ctzFrom_spec 64 m (by omega) hm
  have e : Lib.ctz 64 m = Lib.ctzFrom 64 m := by unfold Lib.ctz; rw [if_neg h0]
  refine ⟨Lib.ctz 64 m, by rw [e]; exact hk, ?_, ?_, fun w hT => tz_calls m hm h0 w hT⟩
  · rw [e]
    generalize Lib.ctzFrom 64 m = c at *
    rw [hd, Nat.testBit_two_pow_mul]
    simp
  · rw [e]
    generalize Lib.ctzFrom 64 m = c at *
    intro j hj
    rw [hd, Nat.testBit_two_pow_mul]
    simp; omega
theorem first_hit (s : BitVec 256) (n k m c : Nat) (hk4 : k < 4) (hno : ∀ c, n ≤ c → c < 64 * k → s.getLsbD c = false)
    (hm : ∀ j, j < 64 → m.testBit j = (decide (n ≤ 64 * k + j) && s.getLsbD (64 * k + j))) (hc : c < 64) (h1 : m.testBit c = true) (h2 : ∀ j, j < c → m.testBit j = false) : IsFirst s n (some (64 * k + c)) := by
  have hmc := hm c hc
  rw [h1] at hmc
  have hmc' : n ≤ 64 * k + c ∧ s.getLsbD (64 * k + c) = true := by simpa using hmc.symm
  refine ⟨hmc'.1, by omega, hmc'.2, fun d hd1 hd2 => ?_⟩
  by_cases hd : d < 64 * k
  · exact hno d hd1 hd
  · have e := hm (d - 64 * k) (by omega)
    rw [h2 _ (by omega), show 64 * k + (d - 64 * k) = d by omega] at e
    simpa [hd1] using e.symm
theorem first_miss (s : BitVec 256) (n k : Nat) (hno : ∀ c, n ≤ c → c < 64 * k → s.getLsbD c = false)
    (hm : ∀ j, j < 64 → (0 : Nat).testBit j = (decide (n ≤ 64 * k + j) && s.getLsbD (64 * k + j))) : ∀ c, n ≤ c → c < 64 * (k + 1) → s.getLsbD c = false := by
  intro d hd1 hd2
  by_cases hd : d < 64 * k
  · exact hno d hd1 hd
  · have e := hm (d - 64 * k) (by omega)
    rw [show 64 * k + (d - 64 * k) = d by omega] at e
    simpa [hd1] using e.symm
/-- the limb in which it begins, without what lies ahead -/
theorem first_mask (s : BitVec 256) (n k : Nat) (hk : k = n / 64) : ∃ m : Nat, m < 18446744073709551616 ∧
    bits BinOp.and IntKind.u64 (limN s k : Int) (IntKind.u64.wrap (18446744073709551615 * 2 ^ (n % 64))) = (m : Int) ∧ ∀ j, j < 64 → m.testBit j = (decide (n ≤ 64 * k + j) && s.getLsbD (64 * k + j)) := by
  have hr : n % 64 < 64 := Nat.mod_lt _ (by decide)
  have hp : 2 ^ (n % 64) ≤ 2 ^ 63 := Nat.pow_le_pow_right (by decide) (by omega)
  have hpos : 0 < 2 ^ (n % 64) := Nat.two_pow_pos _
  have hw : IntKind.u64.wrap (18446744073709551615 * 2 ^ (n % 64)) = ((18446744073709551616 - 2 ^ (n % 64) : Nat) : Int) := by
    rw [show ((2 : Int) ^ (n % 64)) = ((2 ^ (n % 64) : Nat) : Int) from (Int.natCast_pow 2 _).symm]
    generalize 2 ^ (n % 64) = p at *
    rw [IntKind.wrap_u64]
    omega
  refine ⟨limN s k &&& (18446744073709551616 - 2 ^ (n % 64)), Nat.and_lt_two_pow (n := 64) _ (by omega), ?_, ?_⟩
  · rw [hw, u64_and_nat _ _ (limN_lt _ _) (by omega)]
  · intro j hj
    rw [Nat.testBit_and, limN_testBit _ _ _ hj]
    have e : (18446744073709551616 - 2 ^ (n % 64)).testBit j = decide (n ≤ 64 * k + j) := by
      have e1 : 18446744073709551616 - 2 ^ (n % 64) = 2 ^ 64 - ((2 ^ (n % 64) - 1) + 1) := by omega
      rw [e1, Nat.testBit_two_pow_sub_succ (by omega), Nat.testBit_two_pow_sub_one]
      simp only [hj, decide_true, Bool.true_and]
      by_cases h : j < n % 64
      · simp [h]; omega
      · simp [h]; omega
    rw [e, Bool.and_comm]
theorem and_full (s : BitVec 256) (k : Nat) : bits BinOp.and IntKind.u64 (limN s k : Int) 18446744073709551615 = (limN s k : Int) := by
  rw [show (18446744073709551615 : Int) = ((18446744073709551615 : Nat) : Int) from rfl, u64_and_nat _ _ (limN_lt _ _) (by decide)]
  rw [show (18446744073709551615 : Nat) = 2 ^ 64 - 1 from rfl, Nat.and_two_pow_sub_one_eq_mod, Nat.mod_eq_of_lt (limN_lt s k)]
theorem ret_first (k c : Nat) : Ending.returned (.tuple #[.int .u8 ((k : Int) * 64 + c), .bool true]) = .returned (firstV (some (64 * k + c))) := by
  unfold firstV
  rw [show ((k : Int) * 64 + c) = (((some (64 * k + c)).getD 0 : Nat) : Int) by simp; omega]
  rfl
set_option maxRecDepth 100000 in
theorem first_calls (s : BitVec 256) (f : Int) (h0 : -9223372036854775808 ≤ f) (h1 : f ≤ 9223372036854775807) (w : World) (hT : Tab w) :
    Calls Tryd.prog 9 #[setV s, .int .i64 f] w fun e w' => (∃ o, IsFirst s f.toNat o ∧ e = .returned (firstV o)) ∧ Below w.heap.size w w' := by
  have HT := Lib.hid (hT.below ((Below.refl _ _).alloc (Nat.le_refl _) (.cells (setC s) 24)))
  clear hT
  rcases (by omega : f < 0 ∨ 0 ≤ f) with hf | hf
  · rw [show f.toNat = 0 by omega]
    go_enter Tryd.func9, Tryd.ntmps9
    go_wp2_with (refine box_set rfl (.tmp 0) rfl s rfl ?_)
    go_loop [6] (fun i => ∃ k : Nat, k ≤ 4 ∧ i = .int .i64 k ∧ (∀ c, 0 ≤ c → c < 64 * k → s.getLsbD c = false)) (fun i => (4 - intOf i).toNat)
    case atStart => exact ⟨0, Nat.zero_le _, rfl, fun c h1 h2 => by omega⟩
    case round =>
      obtain ⟨k, hk, rfl, hno⟩ := hrel
      have HNO := Lib.hid hno
      clear hno
      by_cases hlt : k < 4
      · have hc : (w.alloc (.cells (setC s) 24)).cell? ⟨w.heap.size, k, none⟩ = some (.int .u64 (limN s k)) := by rw [cell_of_row _ _ _ _ _ _ (heap_alloc_new _ _)]; exact setC_get k s hlt
        have hmB : ∀ j, j < 64 → (limN s k).testBit j = (decide (0 ≤ 64 * k + j) && s.getLsbD (64 * k + j)) := fun j hj => by
          rw [limN_testBit _ _ _ hj, decide_eq_true (by omega), Bool.true_and]
        have HMB := Lib.hid hmB
        clear hmB
        by_cases he : k = 0
        · subst he
          go_wp2_with (fail)
          · have ht : (bits BinOp.and IntKind.u64 (limN s 0 : Int) 18446744073709551615 != 0) = true := by assumption
            rw [and_full] at ht ⊢
            obtain ⟨c, hc64, hc1, hc2, hcall⟩ := tz_ex _ (limN_lt s 0) (by simpa using ht)
            have HC1 := Lib.hid hc1
            have HC2 := Lib.hid hc2
            refine (hcall _ HT.out).mono ?_
            clear hcall hc1 hc2 ht
            rintro e w1 ⟨rfl, rfl⟩
            go_wp2
            go_ret2
            exact ⟨⟨some (64 * 0 + c), first_hit s 0 0 _ c hlt HNO.out HMB.out hc64 HC1.out HC2.out, by rw [← ret_first 0 c]; simp⟩, (Below.refl _ _).alloc (Nat.le_refl _) _⟩
          · have ht : (bits BinOp.and IntKind.u64 (limN s 0 : Int) 18446744073709551615 != 0) = false := by assumption
            rw [and_full] at ht
            have h0 : limN s 0 = 0 := by simpa using ht
            rw [h0] at HMB
            exact ⟨⟨1, by omega, rfl, first_miss s 0 0 HNO.out HMB.out⟩, by simp [intOf]⟩
        · have he2 : ((k : Int) == 0) = false := by simp; omega
          go_wp2_with (fail)
          · have ht : ((limN s k : Int) != 0) = true := by assumption
            obtain ⟨c, hc64, hc1, hc2, hcall⟩ := tz_ex _ (limN_lt s k) (by simpa using ht)
            have HC1 := Lib.hid hc1
            have HC2 := Lib.hid hc2
            refine (hcall _ HT.out).mono ?_
            clear hcall hc1 hc2 ht
            rintro e w1 ⟨rfl, rfl⟩
            go_wp2
            go_ret2
            exact ⟨⟨some (64 * k + c), first_hit s 0 k _ c hlt HNO.out HMB.out hc64 HC1.out HC2.out, ret_first k c⟩, (Below.refl _ _).alloc (Nat.le_refl _) _⟩
          · have ht : ((limN s k : Int) != 0) = false := by assumption
            have h0 : limN s k = 0 := by simpa using ht
            rw [h0] at HMB
            exact ⟨⟨k + 1, by omega, by go_num, first_miss s 0 k HNO.out HMB.out⟩, by simp [intOf]; omega⟩
      · go_wp2
        go_ret2
        exact ⟨⟨none, fun c h1 h2 => HNO.out c h1 (by omega), rfl⟩, (Below.refl _ _).alloc (Nat.le_refl _) _⟩
  · obtain ⟨n, rfl⟩ := Int.eq_ofNat_of_zero_le hf
    rw [Int.toNat_natCast]
    go_enter Tryd.func9, Tryd.ntmps9
    go_wp2_with (refine box_set rfl (.tmp 0) rfl s rfl ?_)
    go_loop [6] (fun i => ∃ k : Nat, n / 64 ≤ k ∧ (k ≤ 4 ∨ k = n / 64) ∧ i = .int .i64 k ∧ (∀ c, n ≤ c → c < 64 * k → s.getLsbD c = false)) (fun i => (4 - intOf i).toNat)
    case atStart => exact ⟨n / 64, Nat.le_refl _, .inr rfl, by simp, fun c h1 h2 => by omega⟩
    case round =>
      obtain ⟨k, hk0, hk, rfl, hno⟩ := hrel
      have HNO := Lib.hid hno
      clear hno
      by_cases hlt : k < 4
      · have hc : (w.alloc (.cells (setC s) 24)).cell? ⟨w.heap.size, k, none⟩ = some (.int .u64 (limN s k)) := by rw [cell_of_row _ _ _ _ _ _ (heap_alloc_new _ _)]; exact setC_get k s hlt
        by_cases he : k = n / 64
        · obtain ⟨m, hm64, hmE, hmB⟩ := first_mask s n k he
          have HM := Lib.hid hmE
          have HMB := Lib.hid hmB
          have HM64 := Lib.hid hm64
          have HE := Lib.hid he
          have he2 : ((k : Int) == (n : Int) / 64) = true := by simp; omega
          clear hmE hmB hm64 he
          go_wp2_with (fail)
          · have ht : (bits BinOp.and IntKind.u64 (limN s k : Int) (IntKind.u64.wrap (18446744073709551615 * 2 ^ (n % 64))) != 0) = true := by assumption
            rw [HM.out] at ht ⊢
            obtain ⟨c, hc64, hc1, hc2, hcall⟩ := tz_ex m HM64.out (by simpa using ht)
            have HC1 := Lib.hid hc1
            have HC2 := Lib.hid hc2
            refine (hcall _ HT.out).mono ?_
            clear hcall hc1 hc2 ht
            rintro e w1 ⟨rfl, rfl⟩
            go_wp2
            go_ret2
            exact ⟨⟨some (64 * k + c), first_hit s n k m c hlt HNO.out HMB.out hc64 HC1.out HC2.out, ret_first k c⟩, (Below.refl _ _).alloc (Nat.le_refl _) _⟩
          · have ht : (bits BinOp.and IntKind.u64 (limN s k : Int) (IntKind.u64.wrap (18446744073709551615 * 2 ^ (n % 64))) != 0) = false := by assumption
            rw [HM.out] at ht
            obtain rfl : m = 0 := by simpa using ht
            exact ⟨⟨k + 1, by omega, by omega, by go_num, first_miss s n k HNO.out HMB.out⟩, by simp [intOf]; omega⟩
        · have he2 : ((k : Int) == (n : Int) / 64) = false := by simp; omega
          have hmB : ∀ j, j < 64 → (limN s k).testBit j = (decide (n ≤ 64 * k + j) && s.getLsbD (64 * k + j)) := fun j hj => by
            rw [limN_testBit _ _ _ hj, decide_eq_true (by omega), Bool.true_and]
          have HMB := Lib.hid hmB
          clear hmB
          go_wp2_with (fail)
          · have ht : ((limN s k : Int) != 0) = true := by assumption
            obtain ⟨c, hc64, hc1, hc2, hcall⟩ := tz_ex _ (limN_lt s k) (by simpa using ht)
            have HC1 := Lib.hid hc1
            have HC2 := Lib.hid hc2
            refine (hcall _ HT.out).mono ?_
            clear hcall hc1 hc2 ht
            rintro e w1 ⟨rfl, rfl⟩
            go_wp2
            go_ret2
            exact ⟨⟨some (64 * k + c), first_hit s n k _ c hlt HNO.out HMB.out hc64 HC1.out HC2.out, ret_first k c⟩, (Below.refl _ _).alloc (Nat.le_refl _) _⟩
          · have ht : ((limN s k : Int) != 0) = false := by assumption
            have h0 : limN s k = 0 := by simpa using ht
            rw [h0] at HMB
            exact ⟨⟨k + 1, by omega, by omega, by go_num, first_miss s n k HNO.out HMB.out⟩, by simp [intOf]; omega⟩
      · go_wp2
        go_ret2
        exact ⟨⟨none, fun c h1 h2 => HNO.out c h1 (by omega), rfl⟩, (Below.refl _ _).alloc (Nat.le_refl _) _⟩
end Go.Proofs.YtekodfpjoehooaaDoor.Bs
