/- The walks of math/bits' OnesCount64 and TrailingZeros64, and of Count on both sides. -/
import Derived.Test.YtekodfpjoehooaaDoorSetW5
import Derived.Test.YtekodfpjoehooaaDoorPop
import Derived.Lib.TrailingZeros
import Derived.Laws.Bits64b
namespace Go.Proofs.YtekodfpjoehooaaDoor.Bs
open Go.RowKit Mem
set_option maxHeartbeats 1000000 in
theorem ones_core (n a1 a2 a3 c1 c2 c3 r : Nat) (w : World)
    (e1 : IntKind.u64.wrap (bits .and .u64 ((n : Int) / 2) 6148914691236517205 + bits .and .u64 (n : Int) 6148914691236517205) = (a1 : Int))
    (e2 : IntKind.u64.wrap (bits .and .u64 ((a1 : Int) / 4) 3689348814741910323 + bits .and .u64 (a1 : Int) 3689348814741910323) = (a2 : Int))
    (e3 : bits .and .u64 (IntKind.u64.wrap ((a2 : Int) / 16 + a2)) 1085102592571150095 = (a3 : Int))
    (e4 : IntKind.u64.wrap ((a3 : Int) + (a3 : Int) / 256) = (c1 : Int))
    (e5 : IntKind.u64.wrap ((c1 : Int) + (c1 : Int) / 65536) = (c2 : Int))
    (e6 : IntKind.u64.wrap ((c2 : Int) + (c2 : Int) / 4294967296) = (c3 : Int))
    (e7 : bits .and .i64 (wrap64 (c3 : Int)) 127 = (r : Int)) :
    Calls Tryd.prog 32 #[.int .u64 n] w fun e w' => e = .returned (.int .i64 r) ∧ w = w' := by
  go_enter Tryd.func32, Tryd.ntmps32
  go_wp2
  go_ret
  exact ⟨rfl, rfl⟩
theorem i64_and127 (y : Nat) (h : y < 9223372036854775808) : bits .and .i64 (y : Int) 127 = ((y % 128 : Nat) : Int) := by
  have e : bits .and .i64 (y : Int) 127 = IntKind.i64.wrap (((BitVec.ofInt 64 (y : Int)) &&& (BitVec.ofInt 64 ((127 : Nat) : Int))).toNat : Int) := rfl
  rw [e, BitVec.toNat_and, ofInt_u64 y (by omega), ofInt_u64 127 (by decide), nat_mask7]
  generalize hz : y % 128 = z
  have : z < 128 := by omega
  rw [IntKind.wrap_i64]
  omega
theorem wrap_u64_nat (n : Nat) (h : n < 18446744073709551616) : IntKind.u64.wrap (n : Int) = (n : Int) := by
  have hw : IntKind.u64.wrap (n : Int) = (n : Int) % 18446744073709551616 := rfl
  rw [hw]; omega
theorem ones_calls (n : Nat) (hn : n < 18446744073709551616) (w : World) :
    Calls Tryd.prog 32 #[.int .u64 n] w fun e w' => e = .returned (.int .i64 (pop 64 n)) ∧ w = w' := by
  obtain ⟨hp, l1, l2, l3⟩ := pop_steps n _ rfl
  have h1 := a1_lt 32 n
  have h2 := a2_lt 16 (A1 32 n)
  have k1 := a1_eq 32 n
  have k2 := a2_eq 16 (A1 32 n)
  have k3 := a3_eq 8 (A2 16 (A1 32 n)) (low_a2 16 _)
  rw [m0_32] at k1
  rw [m1_16] at k2
  rw [m2_8] at k3
  have h3 : A3 8 (A2 16 (A1 32 n)) < 18446744073709551616 := by omega
  have hl := low_a2 16 (A1 32 n)
  have h2s : A2 16 (A1 32 n) / 16 + A2 16 (A1 32 n) < 18446744073709551616 := by
    obtain ⟨_, _, _, _, _, _, _, _, _, _, _, _, _, _, _, hz, hz'⟩ := hl
    omega
  generalize A3 8 (A2 16 (A1 32 n)) = x3 at *
  generalize A2 16 (A1 32 n) = x2 at *
  generalize A1 32 n = x1 at *
  have b1 : x1 < 18446744073709551616 := h1
  have b2 : x2 < 18446744073709551616 := h2
  generalize hy1 : x3 + x3 / 256 = y1 at *
  generalize hy2 : y1 + y1 / 65536 = y2 at *
  generalize hy3 : y2 + y2 / 4294967296 = y3 at *
  refine ones_core n x1 x2 x3 y1 y2 y3 _ w ?_ ?_ ?_ ?_ ?_ ?_ ?_
  · rw [show ((n : Int) / 2) = ((n / 2 : Nat) : Int) by simp, show (6148914691236517205 : Int) = ((6148914691236517205 : Nat) : Int) from rfl, u64_and_nat _ _ (by omega) (by decide), u64_and_nat _ _ hn (by decide), ← Int.natCast_add, k1]
    exact wrap_u64_nat _ b1
  · rw [show ((x1 : Int) / 4) = ((x1 / 4 : Nat) : Int) by simp, show (3689348814741910323 : Int) = ((3689348814741910323 : Nat) : Int) from rfl, u64_and_nat _ _ (by omega) (by decide), u64_and_nat _ _ b1 (by decide), ← Int.natCast_add, k2]
    exact wrap_u64_nat _ b2
  · rw [show ((x2 : Int) / 16 + x2) = ((x2 / 16 + x2 : Nat) : Int) by simp, wrap_u64_nat _ h2s, show (1085102592571150095 : Int) = ((1085102592571150095 : Nat) : Int) from rfl, u64_and_nat _ _ h2s (by decide), k3]
  · rw [show ((x3 : Int) + (x3 : Int) / 256) = ((x3 + x3 / 256 : Nat) : Int) by simp, hy1]
    exact wrap_u64_nat _ l1
  · rw [show ((y1 : Int) + (y1 : Int) / 65536) = ((y1 + y1 / 65536 : Nat) : Int) by simp, hy2]
    exact wrap_u64_nat _ l2
  · rw [show ((y2 : Int) + (y2 : Int) / 4294967296) = ((y2 + y2 / 4294967296 : Nat) : Int) by simp, hy3]
    exact wrap_u64_nat _ (by omega)
  · have hw : wrap64 (y3 : Int) = (y3 : Int) := by unfold wrap64; omega
    rw [hw, ← hp]
    rw [i64_and127 y3 l3]
/-- math/bits' table, as its initialiser lays it -/
def Tab (w : World) : Prop := ∀ j, j < 64 → w.cell? ⟨0, j, none⟩ = some (.int .u8 ((Lib.deBruijn64tab.getD j 0 : Nat) : Int))
theorem Tab.below {w w' : World} (h : Tab w) (hb : Below w.heap.size w w') : Tab w' := fun j hj => (World.cell?_of_block (hb.block _ (World.block_lt_of_cell? w _ (h j hj)))).trans (h j hj)
theorem tz_key (x a : Nat) (hx : x < 18446744073709551616) (hx0 : x ≠ 0) (hlow : x &&& (18446744073709551616 - x) = a) :
    IntKind.u64.wrap (bits BinOp.and IntKind.u64 (x : Int) (IntKind.u64.wrap (-(x : Int))) * 285870213051353865) / 288230376151711744 = ((a * 285870213051353865 % 18446744073709551616 / 288230376151711744 : Nat) : Int) := by
  have e1 : IntKind.u64.wrap (-(x : Int)) = ((18446744073709551616 - x : Nat) : Int) := by rw [IntKind.wrap_u64]; omega
  rw [e1, u64_and_nat x _ hx (by omega), hlow, IntKind.wrap_u64]
  omega
set_option maxHeartbeats 1000000 in
theorem tz_core (x k idx : Nat) (w : World) (hx0 : ((x : Int) == 0) = false)
    (key : IntKind.u64.wrap (bits BinOp.and IntKind.u64 (x : Int) (IntKind.u64.wrap (-(x : Int))) * 285870213051353865) / 288230376151711744 = (idx : Int))
    (hi : idx < 64) (hk : k < 64) (hcell : w.cell? ⟨0, idx, none⟩ = some (.int .u8 k)) :
    Calls Tryd.prog 31 #[.int .u64 x] w fun e w' => e = .returned (.int .i64 k) ∧ w = w' := by
  go_enter Tryd.func31, Tryd.ntmps31
  go_wp2_with (simp only [key])
  go_ret
  exact ⟨rfl, rfl⟩
theorem tz_calls (x : Nat) (hx : x < 18446744073709551616) (hx0 : x ≠ 0) (w : World) (hT : Tab w) :
    Calls Tryd.prog 31 #[.int .u64 x] w fun e w' => e = .returned (.int .i64 (Lib.ctz 64 x)) ∧ w = w' := by
  obtain ⟨hlow, hk⟩ := Lib.lowest_bit 64 x hx0 hx
  obtain ⟨hi, htab⟩ := Lib.deBruijn64_at _ hk
  have hcell := hT _ hi
  rw [htab] at hcell
  exact tz_core x _ _ w (by simp; omega) (tz_key x _ hx hx0 hlow) hi hk hcell
theorem ones_ex (s : BitVec 256) (k : Nat) : ∃ p : Nat, (∀ w, Calls Tryd.prog 32 #[.int .u64 (limN s k)] w fun e w' => e = .returned (.int .i64 p) ∧ w = w') ∧ p ≤ 64 ∧ cnt s (k + 1) = cnt s k + p :=
  ⟨pop 64 (limN s k), fun w => ones_calls _ (limN_lt s k) w, pop_le _ _, rfl⟩
set_option maxRecDepth 100000 in
theorem count_calls (s : BitVec 256) (w : World) :
    Calls Tryd.prog 13 #[setV s] w fun e w' => e = .returned (.int .i64 (countS s)) ∧ Below w.heap.size w w' := by
  go_enter Tryd.func13, Tryd.ntmps13
  go_wp2_with (first | (refine box_set rfl (.tmp 0) rfl s rfl ?_) | (refine ld_set rfl (.tmp 1) rfl _ rfl _ _ (heap_alloc_new _ _) ?_))
  go_loop [3, 7] (fun n i => ∃ k : Nat, k ≤ 4 ∧ i = .int .i64 k ∧ n = .int .i64 (cnt s k)) (fun _ i => (4 - intOf i).toNat)
  case atStart => exact ⟨0, Nat.zero_le _, rfl, rfl⟩
  case round =>
    obtain ⟨k, hk, rfl, rfl⟩ := hrel
    have hc := cnt_le s k
    by_cases hlt : k < 4
    · go_wp2_with (first | (refine idx_set rfl (.tmp 6) (.tmp 7) rfl s (by rfl) k hlt (by rfl) ?_) | (go_at_call 32; obtain ⟨p, hp, hp64, hstep⟩ := ones_ex s k; refine (hp _).mono ?_; rintro e w1 ⟨rfl, rfl⟩; have HN := Lib.hid hstep; clear hp hstep))
      exact ⟨⟨k + 1, by omega, by go_num, by rw [HN.out]; go_num⟩, by simp [intOf]; omega⟩
    · obtain rfl : k = 4 := by omega
      go_wp2
      go_ret
      exact ⟨by rw [← cnt_four]; rfl, (Below.refl _ _).alloc (Nat.le_refl _) _⟩
set_option maxRecDepth 100000 in
theorem rcount_calls (s : BitVec 256) (w : World) :
    Calls Tryd.prog 14 #[setV s] w fun e w' => e = .returned (.int .i64 (countS s)) ∧ Below w.heap.size w w' := by
  go_enter Tryd.func14, Tryd.ntmps14
  go_wp2_with (refine box_set rfl (.tmp 0) rfl s rfl ?_)
  go_loopw [3, 4] (fun n i wr => ∃ k : Nat, k ≤ 256 ∧ i = .int .i64 k ∧ n = .int .i64 (bc s k) ∧ wr.heap[w.heap.size]? = some (.cells (setC s) 24 (0, 0)) ∧ Below w.heap.size w wr) (fun _ i _ => (256 - intOf i).toNat)
  case atStart => exact ⟨0, Nat.zero_le _, rfl, rfl, heap_alloc_new _ _, (Below.refl _ _).alloc (Nat.le_refl _) _⟩
  case round =>
    obtain ⟨k, hk, rfl, rfl, hg, hB⟩ := hrel
    have HG := Lib.hid hg
    have hsz := hB.size
    clear hg
    have hc := bc_le s k
    by_cases hlt : k < 256
    · cases hb : s.getLsbD k
      all_goals
        have HGB := Lib.hid hb
        clear hb
        go_wp2_with (first | (refine ld_set rfl (.tmp 1) rfl _ rfl _ _ HG.out ?_) | (go_at_call 12; refine (rhas_calls s k (by omega) _).mono ?_; rintro e w1 ⟨rfl, hb1⟩; rw [HGB.out]))
        exact ⟨⟨k + 1, by omega, by go_num, by rw [bc, HGB.out]; go_num, below_all hb1 HG.out, below_more hB hsz hb1⟩, by simp [intOf]; omega⟩
    · obtain rfl : k = 256 := by omega
      go_wp2
      go_ret
      exact ⟨rfl, hB⟩
end Go.Proofs.YtekodfpjoehooaaDoor.Bs
