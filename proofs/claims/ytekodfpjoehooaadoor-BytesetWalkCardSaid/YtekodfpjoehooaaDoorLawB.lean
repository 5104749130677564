/- The walk of BytesetWalk. -/
import Derived.Test.YtekodfpjoehooaaDoorLawA
namespace Go.Proofs.YtekodfpjoehooaaDoor.Bs
open Go.RowKit Mem Reg
theorem bc_gap (s : BitVec 256) (f : Nat) : ∀ n, (∀ c, f ≤ c → c < f + n → s.getLsbD c = false) → bc s (f + n) = bc s f
  | 0, _ => rfl
  | n + 1, h => by
    rw [show f + (n + 1) = (f + n) + 1 by omega, bc, h (f + n) (by omega) (by omega), bc_gap s f n (fun c h1 h2 => h c h1 (by omega))]; simp
theorem bc_first (s : BitVec 256) (f b : Nat) (hf : f ≤ b) (hb : s.getLsbD b = true) (hno : ∀ c, f ≤ c → c < b → s.getLsbD c = false) : bc s (b + 1) = bc s f + 1 := by
  have h := bc_gap s f (b - f) (fun c h1 h2 => hno c h1 (by omega))
  rw [show f + (b - f) = b by omega] at h
  rw [bc, hb, h]; simp
theorem bc_not (s : BitVec 256) : ∀ k, k ≤ 256 → bc s k + bc (~~~s) k = k
  | 0, _ => rfl
  | k + 1, h => by
    have ih := bc_not s k (by omega)
    simp only [bc, BitVec.getLsbD_not]
    cases hs : s.getLsbD k <;> simp [show k < 256 by omega] <;> omega
theorem countS_not (s : BitVec 256) : countS s + countS (~~~s) = 256 := bc_not s 256 (Nat.le_refl _)
set_option maxHeartbeats 3200000 in
set_option maxRecDepth 100000 in
theorem walk_calls (s : BitVec 256) (w : World) (hT : Tab w) :
    Calls Tryd.prog 7 #[setV s] w fun e w' => e = .returned (.bool true) ∧ Below w.heap.size w w' := by
  go_enter Tryd.func7, Tryd.ntmps7
  go_wp2_with (first | (refine box_set rfl (.tmp 0) rfl s rfl ?_) | (go_at_call 8; refine (awake_calls _ (hT.below ((Below.refl _ _).alloc (Nat.le_refl _) _))).mono ?_; rintro e w1 ⟨rfl, hb1⟩))
  have hg1 := below_all hb1 (heap_alloc_new w (.cells (setC s) 24))
  have hB1 := below_more ((Below.refl w.heap.size w).alloc (Nat.le_refl _) (.cells (setC s) 24)) (by simp) hb1
  clear hb1
  go_loopw [4, 5] (fun n f wr => ∃ k : Nat, k ≤ 256 ∧ f = .int .i64 k ∧ n = .int .i64 (bc s k) ∧ wr.heap[w.heap.size]? = some (.cells (setC s) 24 (0, 0)) ∧ Below w.heap.size w wr) (fun _ f _ => (257 - intOf f).toNat)
  case atStart => exact ⟨0, by omega, rfl, rfl, hg1, hB1⟩
  case round =>
    obtain ⟨k, hk, rfl, rfl, hg, hB⟩ := hrel
    have HG := Lib.hid hg
    have HT := Lib.hid (hT.below hB)
    have hsz := hB.size
    clear hg
    have hf := isFirst_firstF s k
    cases hfk : firstF s k with
    | none =>
      rw [hfk] at hf
      have hbc : bc s k = countS s := by
        have := bc_gap s k (256 - k) (fun c h1 h2 => hf c h1 (by omega))
        rw [show k + (256 - k) = 256 by omega] at this
        exact this.symm
      rw [hbc]
      have HFV : Hid (firstV (firstF s k) = .tuple #[.int .u8 0, .bool false]) := Lib.hid (by rw [hfk]; rfl)
      have HCN := Lib.hid (countS_not s)
      have HC1 : Hid (∀ w : World, Calls Tryd.prog 13 #[setV s] w fun e w' => e = .returned (.int .i64 (countS s)) ∧ Below w.heap.size w w') := Lib.hid (count_calls s)
      have HC2 : Hid (∀ w : World, Calls Tryd.prog 13 #[setV (~~~s)] w fun e w' => e = .returned (.int .i64 (countS (~~~s))) ∧ Below w.heap.size w w') := Lib.hid (count_calls (~~~s))
      have HNC := Lib.hid (not_calls s)
      clear hbc hf hfk
      have hcs := HCN.out
      generalize countS (~~~s) = c2 at *
      generalize countS s = c1 at *
      have hc1 : c1 ≤ 256 := by omega
      have hsum : ((c1 : Int) + c2 == 256) = true := by simp; omega
      generalize ~~~s = s2 at *
      go_wp2_with (first | (refine ld_set rfl (.tmp 1) rfl _ rfl _ _ HG.out ?_) | (go_at_call 9; refine (first_calls' s k hk _ HT.out).mono ?_; rintro e w2 ⟨rfl, hb2⟩; rw [HFV.out]; have HG2 := Lib.hid (below_all hb2 HG.out); have HB2 := Lib.hid (below_more hB hsz hb2)) |
        (refine ld_set rfl (.tmp 1) rfl _ rfl _ _ HG2.out ?_) | (have HB4' := HB4; clear HB4'; go_at_call 13; refine (HC2.out _).mono ?_; rintro e w5 ⟨rfl, hb5⟩; have HB5 := Lib.hid (below_more HB4.out HB4.out.size hb5)) | (go_at_call 13; refine (HC1.out _).mono ?_; rintro e w3 ⟨rfl, hb3⟩; have HG3 := Lib.hid (below_all hb3 HG2.out); have HB3 := Lib.hid (below_more HB2.out HB2.out.size hb3)) |
        (refine ld_set_mid_g (.tmp 1) rfl rfl _ _ rfl _ (range_row HG3.out) ?_) | (go_at_call 18; refine (HNC.out _).mono ?_; rintro e w4 ⟨rfl, hb4⟩; have HB4 := Lib.hid (below_more HB3.out HB3.out.size hb4)))
      go_ret
      exact ⟨rfl, HB5.out⟩
    | some b =>
      rw [hfk] at hf
      obtain ⟨f1, f2, f3, f4⟩ := hf
      have HFV : Hid (firstV (firstF s k) = .tuple #[.int .u8 (b : Int), .bool true]) := Lib.hid (by rw [hfk]; rfl)
      have HBC := Lib.hid (bc_first s k b f1 f3 f4)
      have hle := bc_le s k
      have HHC := Lib.hid f3
      have hlt : decide ((b : Int) < (k : Int)) = false := by simp; omega
      have hlt2 : ¬ (b : Int) < (k : Int) := by omega
      clear f3 f4 hfk
      generalize bc s k = n at *
      go_wp2_with (first | (refine ld_set rfl (.tmp 1) rfl _ rfl _ _ HG.out ?_) | (go_at_call 9; refine (first_calls' s k hk _ HT.out).mono ?_; rintro e w2 ⟨rfl, hb2⟩; rw [HFV.out]; have HG2 := Lib.hid (below_all hb2 HG.out); have HB2 := Lib.hid (below_more hB hsz hb2)) |
        (refine ld_set rfl (.tmp 1) rfl _ rfl _ _ HG2.out ?_) | (go_at_call 11; refine (has_calls s b (by omega) _).mono ?_; rintro e w3 ⟨rfl, hb3⟩; rw [HHC.out]; have HG3 := Lib.hid (below_all hb3 HG2.out); have HB3 := Lib.hid (below_more HB2.out HB2.out.size hb3)))
      exact ⟨⟨b + 1, by omega, by go_num, by rw [HBC.out]; go_num, HG3.out, HB3.out⟩, by simp [intOf]; omega⟩
end Go.Proofs.YtekodfpjoehooaaDoor.Bs
