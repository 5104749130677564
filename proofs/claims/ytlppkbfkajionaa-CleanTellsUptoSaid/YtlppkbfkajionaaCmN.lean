/- The walks of grammars, the reference: comparing, made, By. -/
import Derived.Test.YtlppkbfkajionaaCmL
namespace Go.Proofs.Ytlppkbfkajionaa.Cm
open Go Go.RowKit Gw Go.Shelf
set_option linter.unusedSimpArgs false
set_option linter.unusedVariables false
set_option linter.unusedSectionVars false
theorem take_eq {α : Type} {xs ys : List α} {k : Nat} {x : α} (hx : xs[k]? = some x) (hy : ys[k]? = some x) (h : xs.take k = ys.take k) : xs.take (k + 1) = ys.take (k + 1) := by
  rw [List.take_add_one, List.take_add_one, hx, hy, h]
theorem at_ne {α : Type} {xs ys : List α} {k : Nat} {x y : α} (hx : xs[k]? = some x) (hy : ys[k]? = some y) (h : x ≠ y) : xs ≠ ys := fun e => by
  rw [e, hy] at hx
  exact h (Option.some.inj hx).symm
theorem rsame_calls (p q : Option Addr) (c d : Nat) (xs ys : List Int) (w : World) (hp : Rv w p c (xs.map iv)) (hq : Rv w q d (ys.map iv)) : Calls Try.prog 140 #[.slice p xs.length c, .slice q ys.length d] w fun e w' => e = .returned (.bool (decide (xs = ys))) ∧ Below w.heap.size w w' := by
  have hcp := hp.cap
  have hcq := hq.cap
  rw [List.length_map] at hcp hcq
  refine calls_start Try.func140 rfl (N := 26) rfl rfl _ (St.start _) rfl ?_
  refine wc_seq ?_
  refine wc_region ?_
  refine wl_go rfl (wo_val rfl (rv_assign rfl) rfl rfl ?_)
  refine wl_nil ?_
  refine wq_then ?_
  refine wc_seq ?_
  refine wc_seq ?_
  refine wc_region ?_
  refine wl_go rfl (wo_val rfl (rv_move rfl) rfl rfl ?_)
  refine wl_go rfl (wo_val rfl (rv_len rfl) rfl rfl ?_)
  refine wl_go rfl (wo_val rfl (rv_move rfl) rfl rfl ?_)
  refine wl_go rfl (wo_val rfl (rv_len rfl) rfl rfl ?_)
  refine wl_go rfl (wo_val rfl (rv_cmp_i rfl rfl rfl) rfl rfl ?_)
  refine wl_nil ?_
  refine wq_then ?_
  refine wc_cond rfl (fun hc10 => ?_) (fun hc10 => ?_)
  · simp only [decide_eq_true_eq, decide_eq_false_iff_not, Bool.not_eq_true', Bool.not_eq_false', bne_iff_ne, beq_iff_eq, bne_eq_false_iff_eq, beq_eq_false_iff_ne, Int.not_lt, Int.not_le] at hc10
    have hl : xs.length ≠ ys.length := by omega
    refine wc_seq ?_
    refine wc_region ?_
    refine wl_go rfl (wo_val rfl (rv_assign rfl) rfl rfl ?_)
    refine wl_nil ?_
    refine wq_then ?_
    refine wc_ret ?_
    refine wq_then_ret ?_
    refine wq_ret1 rfl rfl (rr_tmp rfl) (fun w9 hs9 => ?_)
    rw [decide_eq_false (fun h => hl (congrArg List.length h))]
    exact ⟨rfl, hs9.below rfl⟩
  · simp only [decide_eq_true_eq, decide_eq_false_iff_not, Bool.not_eq_true', Bool.not_eq_false', bne_iff_ne, beq_iff_eq, bne_eq_false_iff_eq, beq_eq_false_iff_ne, Int.not_lt, Int.not_le] at hc10
    have hl : xs.length = ys.length := by omega
    refine wc_skip ?_
    refine wq_then ?_
    refine wc_seq ?_
    refine wc_seq ?_
    refine wc_region ?_
    refine wl_go rfl (wo_val rfl (rv_assign rfl) rfl rfl ?_)
    refine wl_nil ?_
    refine wq_then ?_
    refine wc_block ?_
    refine wc_loop (fun m l S => ∃ k : Nat, k ≤ xs.length ∧ xs.take k = ys.take k ∧ m = xs.length - k ∧ l = [(0, .slice p xs.length c), (1, .slice q ys.length d), (5, iv (k : Int))] ∧ S = ⟨w, G0, w, []⟩) ⟨_, _, ⟨0, Nat.zero_le _, rfl, rfl, rfl, rfl⟩, by repeat (first | exact sub_nil | refine sub_cons rfl ?_)⟩ ?_
    intro m l S hJ
    obtain ⟨k, hk, hkk, rfl, rfl, rfl⟩ := hJ
    refine wc_seq ?_
    refine wc_seq ?_
    refine wc_region ?_
    refine wl_go rfl (wo_val rfl (rv_move rfl) rfl rfl ?_)
    refine wl_go rfl (wo_val rfl (rv_move rfl) rfl rfl ?_)
    refine wl_go rfl (wo_val rfl (rv_len rfl) rfl rfl ?_)
    refine wl_go rfl (wo_val rfl (rv_cmp_i rfl rfl rfl) rfl rfl ?_)
    refine wl_nil ?_
    refine wq_then ?_
    refine wc_cond rfl (fun hc14 => ?_) (fun hc14 => ?_)
    · simp only [decide_eq_true_eq, decide_eq_false_iff_not, Bool.not_eq_true', Bool.not_eq_false', bne_iff_ne, beq_iff_eq, bne_eq_false_iff_eq, beq_eq_false_iff_ne, Int.not_lt, Int.not_le] at hc14
      obtain ⟨x, hx⟩ := getE (l := xs) (i := k) (by omega)
      obtain ⟨y, hy⟩ := getE (l := ys) (i := k) (by omega)
      obtain ⟨g0, o0, rfl, hcx⟩ := hp.read (map_get hx)
      obtain ⟨g1, o1, rfl, hcy⟩ := hq.read (map_get hy)
      refine wc_skip ?_
      refine wq_then ?_
      refine wc_seq ?_
      refine wc_block ?_
      refine wc_seq ?_
      refine wc_region_quiet (by kernel_rfl) (by kernel_rfl) ?_
      refine wk_val rfl rfl (rv_move rfl) rfl rfl ?_
      refine wk_val rfl rfl (rv_move rfl) rfl rfl ?_
      refine wk_val rfl rfl (rv_indexAddr rfl rfl (by omega)) rfl rfl ?_
      refine wk_val rfl rfl (rv_load_cell rfl (fun w4 hs4 => hcx w4 (hs4.below rfl))) rfl rfl ?_
      refine wk_val rfl rfl (rv_move rfl) rfl rfl ?_
      refine wk_val rfl rfl (rv_move rfl) rfl rfl ?_
      refine wk_val rfl rfl (rv_indexAddr rfl rfl (by omega)) rfl rfl ?_
      refine wk_val rfl rfl (rv_load_cell rfl (fun w4 hs4 => hcy w4 (hs4.below rfl))) rfl rfl ?_
      refine wk_val rfl rfl (rv_cmp_i rfl rfl rfl) rfl rfl ?_
      refine wk_nil ?_
      refine wq_then ?_
      refine wc_cond rfl (fun hc25 => ?_) (fun hc25 => ?_)
      · simp only [decide_eq_true_eq, decide_eq_false_iff_not, Bool.not_eq_true', Bool.not_eq_false', bne_iff_ne, beq_iff_eq, bne_eq_false_iff_eq, beq_eq_false_iff_ne, Int.not_lt, Int.not_le] at hc25
        refine wc_seq ?_
        refine wc_region ?_
        refine wl_go rfl (wo_val rfl (rv_assign rfl) rfl rfl ?_)
        refine wl_nil ?_
        refine wq_then ?_
        refine wc_ret ?_
        refine wq_in_ret ?_
        refine wq_then_ret ?_
        refine wq_then_ret ?_
        refine wq_in_ret ?_
        refine wq_then_ret ?_
        refine wq_ret1 rfl rfl (rr_tmp rfl) (fun w9 hs9 => ?_)
        rw [decide_eq_false (at_ne hx hy hc25)]
        exact ⟨rfl, hs9.below rfl⟩
      · simp only [decide_eq_true_eq, decide_eq_false_iff_not, Bool.not_eq_true', Bool.not_eq_false', bne_iff_ne, beq_iff_eq, bne_eq_false_iff_eq, beq_eq_false_iff_ne, Int.not_lt, Int.not_le] at hc25
        obtain rfl : x = y := hc25
        refine wc_skip ?_
        refine wq_in_normal ?_
        refine wq_then ?_
        refine wc_region ?_
        refine wl_go rfl (wo_val rfl (rv_move rfl) rfl rfl ?_)
        refine wl_go rfl (wo_val rfl (rv_add rfl rfl (by omega)) rfl rfl ?_)
        refine wl_go rfl (wo_val rfl (rv_assign rfl) rfl rfl ?_)
        refine wl_nil ?_
        exact wq_round ⟨_, _, ⟨k + 1, by omega, take_eq hx hy hkk, rfl, rfl, rfl⟩, by omega, by repeat (first | exact sub_nil | refine sub_cons rfl ?_)⟩
    · simp only [decide_eq_true_eq, decide_eq_false_iff_not, Bool.not_eq_true', Bool.not_eq_false', bne_iff_ne, beq_iff_eq, bne_eq_false_iff_eq, beq_eq_false_iff_ne, Int.not_lt, Int.not_le] at hc14
      obtain rfl : k = xs.length := by omega
      refine wc_exit ?_
      refine wq_then_exit ?_
      refine wq_then_exit ?_
      refine wq_in_here ?_
      refine wq_then ?_
      refine wc_seq ?_
      refine wc_region ?_
      refine wl_go rfl (wo_val rfl (rv_assign rfl) rfl rfl ?_)
      refine wl_nil ?_
      refine wq_then ?_
      refine wc_ret ?_
      refine wq_ret1 rfl rfl (rr_tmp rfl) (fun w9 hs9 => ?_)
      rw [List.take_length, hl, List.take_length] at hkk
      rw [decide_eq_true hkk]
      exact ⟨rfl, hs9.below rfl⟩
theorem isame_calls (p q : Option Addr) (c d : Nat) (xs ys : List Int) (w : World) (hp : Rv w p c (xs.map iv)) (hq : Rv w q d (ys.map iv)) : Calls Try.prog 87 #[.slice p xs.length c, .slice q ys.length d] w fun e w' => e = .returned (.bool (decide (xs = ys))) ∧ Below w.heap.size w w' := by
  have hcp := hp.cap
  have hcq := hq.cap
  rw [List.length_map] at hcp hcq
  refine calls_start Try.func87 rfl (N := 26) rfl rfl _ (St.start _) rfl ?_
  refine wc_seq ?_
  refine wc_region ?_
  refine wl_go rfl (wo_val rfl (rv_assign rfl) rfl rfl ?_)
  refine wl_nil ?_
  refine wq_then ?_
  refine wc_seq ?_
  refine wc_seq ?_
  refine wc_region ?_
  refine wl_go rfl (wo_val rfl (rv_move rfl) rfl rfl ?_)
  refine wl_go rfl (wo_val rfl (rv_len rfl) rfl rfl ?_)
  refine wl_go rfl (wo_val rfl (rv_move rfl) rfl rfl ?_)
  refine wl_go rfl (wo_val rfl (rv_len rfl) rfl rfl ?_)
  refine wl_go rfl (wo_val rfl (rv_cmp_i rfl rfl rfl) rfl rfl ?_)
  refine wl_nil ?_
  refine wq_then ?_
  refine wc_cond rfl (fun hc10 => ?_) (fun hc10 => ?_)
  · simp only [decide_eq_true_eq, decide_eq_false_iff_not, Bool.not_eq_true', Bool.not_eq_false', bne_iff_ne, beq_iff_eq, bne_eq_false_iff_eq, beq_eq_false_iff_ne, Int.not_lt, Int.not_le] at hc10
    have hl : xs.length ≠ ys.length := by omega
    refine wc_seq ?_
    refine wc_region ?_
    refine wl_go rfl (wo_val rfl (rv_assign rfl) rfl rfl ?_)
    refine wl_nil ?_
    refine wq_then ?_
    refine wc_ret ?_
    refine wq_then_ret ?_
    refine wq_ret1 rfl rfl (rr_tmp rfl) (fun w9 hs9 => ?_)
    rw [decide_eq_false (fun h => hl (congrArg List.length h))]
    exact ⟨rfl, hs9.below rfl⟩
  · simp only [decide_eq_true_eq, decide_eq_false_iff_not, Bool.not_eq_true', Bool.not_eq_false', bne_iff_ne, beq_iff_eq, bne_eq_false_iff_eq, beq_eq_false_iff_ne, Int.not_lt, Int.not_le] at hc10
    have hl : xs.length = ys.length := by omega
    refine wc_skip ?_
    refine wq_then ?_
    refine wc_seq ?_
    refine wc_seq ?_
    refine wc_region ?_
    refine wl_go rfl (wo_val rfl (rv_assign rfl) rfl rfl ?_)
    refine wl_nil ?_
    refine wq_then ?_
    refine wc_block ?_
    refine wc_loop (fun m l S => ∃ k : Nat, k ≤ xs.length ∧ xs.take k = ys.take k ∧ m = xs.length - k ∧ l = [(0, .slice p xs.length c), (1, .slice q ys.length d), (5, iv (k : Int))] ∧ S = ⟨w, G0, w, []⟩) ⟨_, _, ⟨0, Nat.zero_le _, rfl, rfl, rfl, rfl⟩, by repeat (first | exact sub_nil | refine sub_cons rfl ?_)⟩ ?_
    intro m l S hJ
    obtain ⟨k, hk, hkk, rfl, rfl, rfl⟩ := hJ
    refine wc_seq ?_
    refine wc_seq ?_
    refine wc_region ?_
    refine wl_go rfl (wo_val rfl (rv_move rfl) rfl rfl ?_)
    refine wl_go rfl (wo_val rfl (rv_move rfl) rfl rfl ?_)
    refine wl_go rfl (wo_val rfl (rv_len rfl) rfl rfl ?_)
    refine wl_go rfl (wo_val rfl (rv_cmp_i rfl rfl rfl) rfl rfl ?_)
    refine wl_nil ?_
    refine wq_then ?_
    refine wc_cond rfl (fun hc14 => ?_) (fun hc14 => ?_)
    · simp only [decide_eq_true_eq, decide_eq_false_iff_not, Bool.not_eq_true', Bool.not_eq_false', bne_iff_ne, beq_iff_eq, bne_eq_false_iff_eq, beq_eq_false_iff_ne, Int.not_lt, Int.not_le] at hc14
      obtain ⟨x, hx⟩ := getE (l := xs) (i := k) (by omega)
      obtain ⟨y, hy⟩ := getE (l := ys) (i := k) (by omega)
      obtain ⟨g0, o0, rfl, hcx⟩ := hp.read (map_get hx)
      obtain ⟨g1, o1, rfl, hcy⟩ := hq.read (map_get hy)
      refine wc_skip ?_
      refine wq_then ?_
      refine wc_seq ?_
      refine wc_block ?_
      refine wc_seq ?_
      refine wc_region_quiet (by kernel_rfl) (by kernel_rfl) ?_
      refine wk_val rfl rfl (rv_move rfl) rfl rfl ?_
      refine wk_val rfl rfl (rv_move rfl) rfl rfl ?_
      refine wk_val rfl rfl (rv_indexAddr rfl rfl (by omega)) rfl rfl ?_
      refine wk_val rfl rfl (rv_load_cell rfl (fun w4 hs4 => hcx w4 (hs4.below rfl))) rfl rfl ?_
      refine wk_val rfl rfl (rv_move rfl) rfl rfl ?_
      refine wk_val rfl rfl (rv_move rfl) rfl rfl ?_
      refine wk_val rfl rfl (rv_indexAddr rfl rfl (by omega)) rfl rfl ?_
      refine wk_val rfl rfl (rv_load_cell rfl (fun w4 hs4 => hcy w4 (hs4.below rfl))) rfl rfl ?_
      refine wk_val rfl rfl (rv_cmp_i rfl rfl rfl) rfl rfl ?_
      refine wk_nil ?_
      refine wq_then ?_
      refine wc_cond rfl (fun hc25 => ?_) (fun hc25 => ?_)
      · simp only [decide_eq_true_eq, decide_eq_false_iff_not, Bool.not_eq_true', Bool.not_eq_false', bne_iff_ne, beq_iff_eq, bne_eq_false_iff_eq, beq_eq_false_iff_ne, Int.not_lt, Int.not_le] at hc25
        refine wc_seq ?_
        refine wc_region ?_
        refine wl_go rfl (wo_val rfl (rv_assign rfl) rfl rfl ?_)
        refine wl_nil ?_
        refine wq_then ?_
        refine wc_ret ?_
        refine wq_in_ret ?_
        refine wq_then_ret ?_
        refine wq_then_ret ?_
        refine wq_in_ret ?_
        refine wq_then_ret ?_
        refine wq_ret1 rfl rfl (rr_tmp rfl) (fun w9 hs9 => ?_)
        rw [decide_eq_false (at_ne hx hy hc25)]
        exact ⟨rfl, hs9.below rfl⟩
      · simp only [decide_eq_true_eq, decide_eq_false_iff_not, Bool.not_eq_true', Bool.not_eq_false', bne_iff_ne, beq_iff_eq, bne_eq_false_iff_eq, beq_eq_false_iff_ne, Int.not_lt, Int.not_le] at hc25
        obtain rfl : x = y := hc25
        refine wc_skip ?_
        refine wq_in_normal ?_
        refine wq_then ?_
        refine wc_region ?_
        refine wl_go rfl (wo_val rfl (rv_move rfl) rfl rfl ?_)
        refine wl_go rfl (wo_val rfl (rv_add rfl rfl (by omega)) rfl rfl ?_)
        refine wl_go rfl (wo_val rfl (rv_assign rfl) rfl rfl ?_)
        refine wl_nil ?_
        exact wq_round ⟨_, _, ⟨k + 1, by omega, take_eq hx hy hkk, rfl, rfl, rfl⟩, by omega, by repeat (first | exact sub_nil | refine sub_cons rfl ?_)⟩
    · simp only [decide_eq_true_eq, decide_eq_false_iff_not, Bool.not_eq_true', Bool.not_eq_false', bne_iff_ne, beq_iff_eq, bne_eq_false_iff_eq, beq_eq_false_iff_ne, Int.not_lt, Int.not_le] at hc14
      obtain rfl : k = xs.length := by omega
      refine wc_exit ?_
      refine wq_then_exit ?_
      refine wq_then_exit ?_
      refine wq_in_here ?_
      refine wq_then ?_
      refine wc_seq ?_
      refine wc_region ?_
      refine wl_go rfl (wo_val rfl (rv_assign rfl) rfl rfl ?_)
      refine wl_nil ?_
      refine wq_then ?_
      refine wc_ret ?_
      refine wq_ret1 rfl rfl (rr_tmp rfl) (fun w9 hs9 => ?_)
      rw [List.take_length, hl, List.take_length] at hkk
      rw [decide_eq_true hkk]
      exact ⟨rfl, hs9.below rfl⟩
theorem tsame_calls (p q : Option Addr) (c d : Nat) (xs ys : List Bs) (w : World) (hp : Rv w p c (xs.map sv)) (hq : Rv w q d (ys.map sv)) : Calls Try.prog 88 #[.slice p xs.length c, .slice q ys.length d] w fun e w' => e = .returned (.bool (decide (xs = ys))) ∧ Below w.heap.size w w' := by
  have hcp := hp.cap
  have hcq := hq.cap
  rw [List.length_map] at hcp hcq
  refine calls_start Try.func88 rfl (N := 26) rfl rfl _ (St.start _) rfl ?_
  refine wc_seq ?_
  refine wc_region ?_
  refine wl_go rfl (wo_val rfl (rv_assign rfl) rfl rfl ?_)
  refine wl_nil ?_
  refine wq_then ?_
  refine wc_seq ?_
  refine wc_seq ?_
  refine wc_region ?_
  refine wl_go rfl (wo_val rfl (rv_move rfl) rfl rfl ?_)
  refine wl_go rfl (wo_val rfl (rv_len rfl) rfl rfl ?_)
  refine wl_go rfl (wo_val rfl (rv_move rfl) rfl rfl ?_)
  refine wl_go rfl (wo_val rfl (rv_len rfl) rfl rfl ?_)
  refine wl_go rfl (wo_val rfl (rv_cmp_i rfl rfl rfl) rfl rfl ?_)
  refine wl_nil ?_
  refine wq_then ?_
  refine wc_cond rfl (fun hc10 => ?_) (fun hc10 => ?_)
  · simp only [decide_eq_true_eq, decide_eq_false_iff_not, Bool.not_eq_true', Bool.not_eq_false', bne_iff_ne, beq_iff_eq, bne_eq_false_iff_eq, beq_eq_false_iff_ne, Int.not_lt, Int.not_le] at hc10
    have hl : xs.length ≠ ys.length := by omega
    refine wc_seq ?_
    refine wc_region ?_
    refine wl_go rfl (wo_val rfl (rv_assign rfl) rfl rfl ?_)
    refine wl_nil ?_
    refine wq_then ?_
    refine wc_ret ?_
    refine wq_then_ret ?_
    refine wq_ret1 rfl rfl (rr_tmp rfl) (fun w9 hs9 => ?_)
    rw [decide_eq_false (fun h => hl (congrArg List.length h))]
    exact ⟨rfl, hs9.below rfl⟩
  · simp only [decide_eq_true_eq, decide_eq_false_iff_not, Bool.not_eq_true', Bool.not_eq_false', bne_iff_ne, beq_iff_eq, bne_eq_false_iff_eq, beq_eq_false_iff_ne, Int.not_lt, Int.not_le] at hc10
    have hl : xs.length = ys.length := by omega
    refine wc_skip ?_
    refine wq_then ?_
    refine wc_seq ?_
    refine wc_seq ?_
    refine wc_region ?_
    refine wl_go rfl (wo_val rfl (rv_assign rfl) rfl rfl ?_)
    refine wl_nil ?_
    refine wq_then ?_
    refine wc_block ?_
    refine wc_loop (fun m l S => ∃ k : Nat, k ≤ xs.length ∧ xs.take k = ys.take k ∧ m = xs.length - k ∧ l = [(0, .slice p xs.length c), (1, .slice q ys.length d), (5, iv (k : Int))] ∧ S = ⟨w, G0, w, []⟩) ⟨_, _, ⟨0, Nat.zero_le _, rfl, rfl, rfl, rfl⟩, by repeat (first | exact sub_nil | refine sub_cons rfl ?_)⟩ ?_
    intro m l S hJ
    obtain ⟨k, hk, hkk, rfl, rfl, rfl⟩ := hJ
    refine wc_seq ?_
    refine wc_seq ?_
    refine wc_region ?_
    refine wl_go rfl (wo_val rfl (rv_move rfl) rfl rfl ?_)
    refine wl_go rfl (wo_val rfl (rv_move rfl) rfl rfl ?_)
    refine wl_go rfl (wo_val rfl (rv_len rfl) rfl rfl ?_)
    refine wl_go rfl (wo_val rfl (rv_cmp_i rfl rfl rfl) rfl rfl ?_)
    refine wl_nil ?_
    refine wq_then ?_
    refine wc_cond rfl (fun hc14 => ?_) (fun hc14 => ?_)
    · simp only [decide_eq_true_eq, decide_eq_false_iff_not, Bool.not_eq_true', Bool.not_eq_false', bne_iff_ne, beq_iff_eq, bne_eq_false_iff_eq, beq_eq_false_iff_ne, Int.not_lt, Int.not_le] at hc14
      obtain ⟨x, hx⟩ := getE (l := xs) (i := k) (by omega)
      obtain ⟨y, hy⟩ := getE (l := ys) (i := k) (by omega)
      obtain ⟨g0, o0, rfl, hcx⟩ := hp.read (map_get hx)
      obtain ⟨g1, o1, rfl, hcy⟩ := hq.read (map_get hy)
      refine wc_skip ?_
      refine wq_then ?_
      refine wc_seq ?_
      refine wc_block ?_
      refine wc_seq ?_
      refine wc_region_quiet (by kernel_rfl) (by kernel_rfl) ?_
      refine wk_val rfl rfl (rv_move rfl) rfl rfl ?_
      refine wk_val rfl rfl (rv_move rfl) rfl rfl ?_
      refine wk_val rfl rfl (rv_indexAddr rfl rfl (by omega)) rfl rfl ?_
      refine wk_val rfl rfl (rv_load_cell rfl (fun w4 hs4 => hcx w4 (hs4.below rfl))) rfl rfl ?_
      refine wk_val rfl rfl (rv_move rfl) rfl rfl ?_
      refine wk_val rfl rfl (rv_move rfl) rfl rfl ?_
      refine wk_val rfl rfl (rv_indexAddr rfl rfl (by omega)) rfl rfl ?_
      refine wk_val rfl rfl (rv_load_cell rfl (fun w4 hs4 => hcy w4 (hs4.below rfl))) rfl rfl ?_
      refine wk_val rfl rfl (rb_neq rfl rfl) rfl rfl ?_
      refine wk_nil ?_
      refine wq_then ?_
      refine wc_cond rfl (fun hc25 => ?_) (fun hc25 => ?_)
      · simp only [decide_eq_true_eq, decide_eq_false_iff_not, Bool.not_eq_true', Bool.not_eq_false', bne_iff_ne, beq_iff_eq, bne_eq_false_iff_eq, beq_eq_false_iff_ne, Int.not_lt, Int.not_le] at hc25
        refine wc_seq ?_
        refine wc_region ?_
        refine wl_go rfl (wo_val rfl (rv_assign rfl) rfl rfl ?_)
        refine wl_nil ?_
        refine wq_then ?_
        refine wc_ret ?_
        refine wq_in_ret ?_
        refine wq_then_ret ?_
        refine wq_then_ret ?_
        refine wq_in_ret ?_
        refine wq_then_ret ?_
        refine wq_ret1 rfl rfl (rr_tmp rfl) (fun w9 hs9 => ?_)
        rw [decide_eq_false (at_ne hx hy hc25)]
        exact ⟨rfl, hs9.below rfl⟩
      · simp only [decide_eq_true_eq, decide_eq_false_iff_not, Bool.not_eq_true', Bool.not_eq_false', bne_iff_ne, beq_iff_eq, bne_eq_false_iff_eq, beq_eq_false_iff_ne, Int.not_lt, Int.not_le] at hc25
        obtain rfl : x = y := hc25
        refine wc_skip ?_
        refine wq_in_normal ?_
        refine wq_then ?_
        refine wc_region ?_
        refine wl_go rfl (wo_val rfl (rv_move rfl) rfl rfl ?_)
        refine wl_go rfl (wo_val rfl (rv_add rfl rfl (by omega)) rfl rfl ?_)
        refine wl_go rfl (wo_val rfl (rv_assign rfl) rfl rfl ?_)
        refine wl_nil ?_
        exact wq_round ⟨_, _, ⟨k + 1, by omega, take_eq hx hy hkk, rfl, rfl, rfl⟩, by omega, by repeat (first | exact sub_nil | refine sub_cons rfl ?_)⟩
    · simp only [decide_eq_true_eq, decide_eq_false_iff_not, Bool.not_eq_true', Bool.not_eq_false', bne_iff_ne, beq_iff_eq, bne_eq_false_iff_eq, beq_eq_false_iff_ne, Int.not_lt, Int.not_le] at hc14
      obtain rfl : k = xs.length := by omega
      refine wc_exit ?_
      refine wq_then_exit ?_
      refine wq_then_exit ?_
      refine wq_in_here ?_
      refine wq_then ?_
      refine wc_seq ?_
      refine wc_region ?_
      refine wl_go rfl (wo_val rfl (rv_assign rfl) rfl rfl ?_)
      refine wl_nil ?_
      refine wq_then ?_
      refine wc_ret ?_
      refine wq_ret1 rfl rfl (rr_tmp rfl) (fun w9 hs9 => ?_)
      rw [List.take_length, hl, List.take_length] at hkk
      rw [decide_eq_true hkk]
      exact ⟨rfl, hs9.below rfl⟩
def madeR (g : Gr) (n : Int) : Bool := decide (g.terms ≤ n) && decide (n < (g.names.length : Int))
theorem madeR_eq {g : Gr} (h : 0 ≤ g.terms) (n : Int) : madeR g n = madeB g n := by
  rw [Bool.eq_iff_iff, madeB_iff]
  simp [madeR]; omega
theorem rmade_calls (x : GS) (g : Gr) (n : Int) (w : World) : Calls Try.prog 182 #[.agg (gC x g).toArray, iv n] w fun e w' => e = .returned (.bool (madeR g n)) ∧ Below w.heap.size w w' := by
  unfold madeR
  refine calls_start Try.func182 rfl (N := 16) rfl rfl _ (St.start _) rfl ?_
  refine wc_seq ?_
  refine wc_region ?_
  refine wl_go rfl (wo_box rfl rfl rfl rfl rfl (fun b2 hb2 => ?_))
  refine wl_go rfl (wo_val rfl (rv_assign rfl) rfl rfl ?_)
  refine wl_nil ?_
  refine wq_then ?_
  refine wc_seq ?_
  refine wc_region ?_
  refine wl_go rfl (wo_val rfl (rv_move rfl) rfl rfl ?_)
  refine wl_go rfl (wo_val rfl (rv_fieldAddr rfl) rfl rfl ?_)
  refine wl_go rfl (wo_val rfl (rv_load_own rfl rfl) rfl rfl ?_)
  refine wl_go rfl (wo_val rfl (rv_cmp_i rfl rfl rfl) rfl rfl ?_)
  refine wl_go rfl (wo_val rfl (rv_move rfl) rfl rfl ?_)
  refine wl_split (d := 9) rfl true (fun hg1_4 => ?_) (fun hg1_4 => ?_)
  · skip
    refine wl_want rfl rfl rfl rfl rfl hg1_4 (wo_val rfl (rv_move rfl) rfl rfl ?_)
    refine wl_want rfl rfl rfl rfl rfl hg1_4 (wo_val rfl (rv_fieldAddr0 rfl) rfl rfl ?_)
    refine wl_want rfl rfl rfl rfl rfl hg1_4 (wo_val rfl (rv_load_own rfl rfl) rfl rfl ?_)
    refine wl_want rfl rfl rfl rfl rfl hg1_4 (wo_val rfl (rv_len rfl) rfl rfl ?_)
    refine wl_want rfl rfl rfl rfl rfl hg1_4 (wo_val rfl (rv_cmp_i rfl rfl rfl) rfl rfl ?_)
    refine wl_go rfl (wo_val rfl (rv_pick_t rfl hg1_4 rfl) rfl rfl ?_)
    refine wl_go rfl (wo_val rfl (rv_assign rfl) rfl rfl ?_)
    refine wl_nil ?_
    refine wq_then ?_
    refine wc_ret ?_
    refine wq_ret1 rfl rfl (rr_tmp rfl) (fun w9 hs9 => ?_)
    exact ⟨(by simp only [*, Bool.not_true, Bool.not_false, Bool.or_false, Bool.false_or, Bool.and_false, Bool.false_and, Bool.and_true, Bool.true_and, Bool.or_true, Bool.true_or]), hs9.below rfl⟩
  · skip
    refine wl_skip rfl rfl rfl rfl rfl hg1_4 rfl ?_
    refine wl_skip rfl rfl rfl rfl rfl hg1_4 rfl ?_
    refine wl_skip rfl rfl rfl rfl rfl hg1_4 rfl ?_
    refine wl_skip rfl rfl rfl rfl rfl hg1_4 rfl ?_
    refine wl_skip rfl rfl rfl rfl rfl hg1_4 rfl ?_
    refine wl_go rfl (wo_val rfl (rv_pick_f rfl hg1_4 rfl) rfl rfl ?_)
    refine wl_go rfl (wo_val rfl (rv_assign rfl) rfl rfl ?_)
    refine wl_nil ?_
    refine wq_then ?_
    refine wc_ret ?_
    refine wq_ret1 rfl rfl (rr_tmp rfl) (fun w9 hs9 => ?_)
    exact ⟨(by simp only [*, Bool.not_true, Bool.not_false, Bool.or_false, Bool.false_or, Bool.and_false, Bool.false_and, Bool.and_true, Bool.true_and, Bool.or_true, Bool.true_or]), hs9.below rfl⟩
theorem rby_calls (x : GS) (g : Gr) (s : Int) (w : World) (hg : Gm w x g) (hlen : g.rules.length ≤ 1000000) : Calls Try.prog 141 #[.agg (gC x g).toArray, iv s] w fun e w' => ∃ v, e = .returned v ∧ w'.ownsRow w.heap.size 3 1 v (byL g.rules s).length ((byL g.rules s).map iv) ∧ Below w.heap.size w w' := by
  refine calls_start Try.func141 rfl (N := 37) rfl rfl _ (St.start _) rfl ?_
  refine wc_seq ?_
  refine wc_region ?_
  refine wl_go rfl (wo_box rfl rfl rfl rfl rfl (fun b2 hb2 => ?_))
  refine wl_go rfl (wo_val rfl (rv_assign rfl) rfl rfl ?_)
  refine wl_nil ?_
  refine wq_then ?_
  refine wc_seq ?_
  refine wc_region ?_
  refine wl_go rfl (wo_val rfl (rv_assign rfl) rfl rfl ?_)
  refine wl_nil ?_
  refine wq_then ?_
  refine wc_seq ?_
  refine wc_seq ?_
  refine wc_region ?_
  refine wl_go rfl (wo_val rfl (rv_assign rfl) rfl rfl ?_)
  refine wl_nil ?_
  refine wq_then ?_
  refine wc_block ?_
  refine wc_loop (fun m l S => ∃ (k : Nat) (v : Value) (w1 : World), k ≤ g.rules.length ∧ Rw ⟨w, G0, w1, [⟨b2, .cells (gC x g).toArray 60 (0, 0)⟩]⟩ 3 1 v (byL (g.rules.take k) s).length ((byL (g.rules.take k) s).map iv) ∧ m = g.rules.length - k ∧ l = [(1, iv s), (2, .pointer (some ⟨b2, 0, none⟩)), (5, v), (6, iv (k : Int))] ∧ S = ⟨w, G0, w1, [⟨b2, .cells (gC x g).toArray 60 (0, 0)⟩]⟩) ⟨_, _, ⟨0, .slice none 0 0, _, Nat.zero_le _, Rw.nil _ _ _, rfl, rfl, rfl⟩, by repeat (first | exact sub_nil | refine sub_cons rfl ?_)⟩ ?_
  intro m l S hJ
  obtain ⟨k, v, w1, hk, hR, rfl, rfl, rfl⟩ := hJ
  refine wc_seq ?_
  refine wc_seq ?_
  refine wc_region ?_
  refine wl_go rfl (wo_val rfl (rv_move rfl) rfl rfl ?_)
  refine wl_go rfl (wo_val rfl (rv_fieldAddr rfl) rfl rfl ?_)
  refine wl_go rfl (wo_val rfl (rv_load_own rfl rfl) rfl rfl ?_)
  refine wl_go rfl (wo_val rfl (rv_len rfl) rfl rfl ?_)
  refine wl_go rfl (wo_val rfl (rv_cmp_i rfl rfl rfl) rfl rfl ?_)
  refine wl_nil ?_
  refine wq_then ?_
  refine wc_cond rfl (fun hc11 => ?_) (fun hc11 => ?_)
  · simp only [decide_eq_true_eq, decide_eq_false_iff_not, Bool.not_eq_true', Bool.not_eq_false', bne_iff_ne, beq_iff_eq, bne_eq_false_iff_eq, beq_eq_false_iff_ne, Int.not_lt, Int.not_le] at hc11
    have hbl : (byL (g.rules.take k) s).length ≤ k := Nat.le_trans (byL_len _ _) (List.length_take_le _ _)
    obtain ⟨r, hr⟩ := getE (l := g.rules) (i := k) (by omega)
    obtain ⟨g0, o0, q, d, hrp, hcell, hrow⟩ := hg.rules.read hr
    refine wc_skip ?_
    refine wq_then ?_
    refine wc_seq ?_
    refine wc_block ?_
    refine wc_seq ?_
    refine wc_region ?_
    refine wl_go rfl (wo_val rfl (rv_fieldAddr rfl) rfl rfl ?_)
    refine wl_go rfl (wo_val rfl (rv_load_own (v := .slice (some ⟨g0, o0, none⟩) g.rules.length x.rc) rfl (by rw [← hrp]; rfl)) rfl rfl ?_)
    refine wl_go rfl (wo_val rfl (rv_move rfl) rfl rfl ?_)
    refine wl_go rfl (wo_val rfl (rv_indexAddr rfl rfl (by omega)) rfl rfl ?_)
    refine wl_go rfl (wo_val rfl (rv_load_cell rfl (fun w4 hs4 => hcell w4 (hs4.below rfl))) rfl rfl ?_)
    refine wl_go rfl (wo_val rfl (rv_len rfl) rfl rfl ?_)
    refine wl_go rfl (wo_val rfl (rv_cmp_i rfl rfl rfl) rfl rfl ?_)
    refine wl_go rfl (wo_val rfl (rv_move rfl) rfl rfl ?_)
    refine wl_split (d := 21) rfl true (fun hg5_7 => ?_) (fun hg5_7 => ?_)
    · skip
      have h0 : 0 < r.length := by simpa using hg5_7
      obtain ⟨y, hy⟩ := getE h0
      obtain ⟨g1, o1, rfl, hcell1⟩ := hrow.read (map_get hy)
      have hhd : r.head? = some y := by rw [List.head?_eq_getElem?, hy]
      refine wl_want rfl rfl rfl rfl rfl hg5_7 (wo_val rfl (rv_fieldAddr rfl) rfl rfl ?_)
      refine wl_want rfl rfl rfl rfl rfl hg5_7 (wo_val rfl (rv_load_own (v := .slice (some ⟨g0, o0, none⟩) g.rules.length x.rc) rfl (by rw [← hrp]; rfl)) rfl rfl ?_)
      refine wl_want rfl rfl rfl rfl rfl hg5_7 (wo_val rfl (rv_move rfl) rfl rfl ?_)
      refine wl_want rfl rfl rfl rfl rfl hg5_7 (wo_val rfl (rv_indexAddr rfl rfl (by omega)) rfl rfl ?_)
      refine wl_want rfl rfl rfl rfl rfl hg5_7 (wo_val rfl (rv_load_cell rfl (fun w4 hs4 => hcell w4 (hs4.below rfl))) rfl rfl ?_)
      refine wl_want rfl rfl rfl rfl rfl hg5_7 (wo_val rfl (rv_indexAddr rfl rfl (by omega)) rfl rfl ?_)
      refine wl_want rfl rfl rfl rfl rfl hg5_7 (wo_val rfl (rv_load_cell rfl (fun w4 hs4 => hcell1 w4 (hs4.below rfl))) rfl rfl ?_)
      refine wl_want rfl rfl rfl rfl rfl hg5_7 (wo_val rfl (rv_move rfl) rfl rfl ?_)
      refine wl_want rfl rfl rfl rfl rfl hg5_7 (wo_val rfl (rv_cmp_i rfl rfl rfl) rfl rfl ?_)
      refine wl_go rfl (wo_val rfl (rv_pick_t rfl hg5_7 rfl) rfl rfl ?_)
      refine wl_nil ?_
      refine wq_then ?_
      refine wc_cond rfl (fun hc31 => ?_) (fun hc31 => ?_)
      · simp only [decide_eq_true_eq, decide_eq_false_iff_not, Bool.not_eq_true', Bool.not_eq_false', bne_iff_ne, beq_iff_eq, bne_eq_false_iff_eq, beq_eq_false_iff_ne, Int.not_lt, Int.not_le] at hc31
        have hyes : (r.head? == some s) = true := by rw [hhd]; simpa using hc31
        refine wc_region ?_
        refine wl_go rfl (wo_val rfl (rv_move rfl) rfl rfl ?_)
        refine wl_go rfl (wo_val rfl (rv_move rfl) rfl rfl ?_)
        refine wl_go rfl (wo_bs [_] rfl rfl rfl (⟨rfl, rfl, ⟨_, rfl, rfl⟩, trivial⟩) rfl rfl (fun b34 hb34 => ?_))
        refine wl_go rfl (wo_append rfl rfl rfl rfl rfl [_] ⟨[_], rfl⟩ (hR.beside hb34 |>.ids rfl) (by unfold maxLen; omega) rfl rfl rfl (fun v6 w6 hR6 hm6 ho6 => ?_))
        refine wl_go rfl (wo_val rfl (rv_assign rfl) rfl rfl ?_)
        refine wl_nil ?_
        refine wq_in_normal ?_
        refine wq_then ?_
        refine wc_region ?_
        refine wl_go rfl (wo_val rfl (rv_move rfl) rfl rfl ?_)
        refine wl_go rfl (wo_val rfl (rv_add rfl rfl (by omega)) rfl rfl ?_)
        refine wl_go rfl (wo_val rfl (rv_assign rfl) rfl rfl ?_)
        refine wl_nil ?_
        refine wq_round ⟨_, _, ⟨k + 1, v6, _, by omega, ?_, rfl, rfl, rfl⟩, by omega, by repeat (first | exact sub_nil | refine sub_cons rfl ?_)⟩
        rw [List.take_add_one, hr, Option.toList_some, byL_snoc, if_pos hyes, List.length_append, List.map_append]
        rw [List.length_take, Nat.min_eq_left (by omega)]
        exact hR6
      · simp only [decide_eq_true_eq, decide_eq_false_iff_not, Bool.not_eq_true', Bool.not_eq_false', bne_iff_ne, beq_iff_eq, bne_eq_false_iff_eq, beq_eq_false_iff_ne, Int.not_lt, Int.not_le] at hc31
        refine wc_skip ?_
        refine wq_in_normal ?_
        refine wq_then ?_
        refine wc_region ?_
        refine wl_go rfl (wo_val rfl (rv_move rfl) rfl rfl ?_)
        refine wl_go rfl (wo_val rfl (rv_add rfl rfl (by omega)) rfl rfl ?_)
        refine wl_go rfl (wo_val rfl (rv_assign rfl) rfl rfl ?_)
        refine wl_nil ?_
        have hno : ¬ (r.head? == some s) = true := by rw [hhd]; simpa using hc31
        refine wq_round ⟨_, _, ⟨k + 1, v, _, by omega, ?_, rfl, rfl, rfl⟩, by omega, by repeat (first | exact sub_nil | refine sub_cons rfl ?_)⟩
        rw [List.take_add_one, hr, Option.toList_some, byL_snoc, if_neg hno, List.append_nil]
        exact hR
    · skip
      have h0 : r = [] := by simpa using hg5_7
      refine wl_skip rfl rfl rfl rfl rfl hg5_7 rfl ?_
      refine wl_skip rfl rfl rfl rfl rfl hg5_7 rfl ?_
      refine wl_skip rfl rfl rfl rfl rfl hg5_7 rfl ?_
      refine wl_skip rfl rfl rfl rfl rfl hg5_7 rfl ?_
      refine wl_skip rfl rfl rfl rfl rfl hg5_7 rfl ?_
      refine wl_skip rfl rfl rfl rfl rfl hg5_7 rfl ?_
      refine wl_skip rfl rfl rfl rfl rfl hg5_7 rfl ?_
      refine wl_skip rfl rfl rfl rfl rfl hg5_7 rfl ?_
      refine wl_skip rfl rfl rfl rfl rfl hg5_7 rfl ?_
      refine wl_go rfl (wo_val rfl (rv_pick_f rfl hg5_7 rfl) rfl rfl ?_)
      refine wl_nil ?_
      refine wq_then ?_
      refine wc_cond_f rfl rfl ?_
      refine wc_skip ?_
      refine wq_in_normal ?_
      refine wq_then ?_
      refine wc_region ?_
      refine wl_go rfl (wo_val rfl (rv_move rfl) rfl rfl ?_)
      refine wl_go rfl (wo_val rfl (rv_add rfl rfl (by omega)) rfl rfl ?_)
      refine wl_go rfl (wo_val rfl (rv_assign rfl) rfl rfl ?_)
      refine wl_nil ?_
      have hno : ¬ (r.head? == some s) = true := by rw [h0]; simp
      refine wq_round ⟨_, _, ⟨k + 1, v, _, by omega, ?_, rfl, rfl, rfl⟩, by omega, by repeat (first | exact sub_nil | refine sub_cons rfl ?_)⟩
      rw [List.take_add_one, hr, Option.toList_some, byL_snoc, if_neg hno, List.append_nil]
      exact hR
  · simp only [decide_eq_true_eq, decide_eq_false_iff_not, Bool.not_eq_true', Bool.not_eq_false', bne_iff_ne, beq_iff_eq, bne_eq_false_iff_eq, beq_eq_false_iff_ne, Int.not_lt, Int.not_le] at hc11
    obtain rfl : k = g.rules.length := by omega
    simp only [List.take_length] at hR
    refine wc_exit ?_
    refine wq_then_exit ?_
    refine wq_then_exit ?_
    refine wq_in_here ?_
    refine wq_then ?_
    refine wc_seq ?_
    refine wc_region ?_
    refine wl_go rfl (wo_val rfl (rv_move rfl) rfl rfl ?_)
    refine wl_go rfl (wo_val rfl (rv_assign rfl) rfl rfl ?_)
    refine wl_nil ?_
    refine wq_then ?_
    refine wc_ret ?_
    refine wq_ret1 rfl rfl (rr_tmp rfl) (fun w9 hs9 => ?_)
    exact ⟨_, rfl, hR.at hs9, hs9.below rfl⟩
end Go.Proofs.Ytlppkbfkajionaa.Cm
