/- The walks of grammars: the functions' values of Useful; IndexFunc, DeleteFunc over rules. -/
import Derived.Test.YtlppkbfkajionaaCmH
namespace Go.Proofs.Ytlppkbfkajionaa.Cm
open Go Go.RowKit Gw Go.Shelf
set_option linter.unusedSimpArgs false
set_option linter.unusedVariables false
set_option linter.unusedSectionVars false
theorem u1_calls (bp : Nat) (p : Option Addr) (c : Nat) (σ : List Bool) (n : Int) (hn : 0 ≤ n ∧ n < (σ.length : Int)) (w : World) (hb : Boxed w bp [.slice p σ.length c]) (hr : Rv w p c (σ.map bv)) : Calls Try.prog 101 #[iv n, .pointer (some ⟨bp, 0, none⟩)] w fun e w' => e = .returned (.bool (!bg σ n)) ∧ Below w.heap.size w w' := by
  obtain ⟨g0, o0, rfl, hc⟩ := hr.read (map_get (f := bv) (bg_get (σ := σ) (n := n) (by omega)))
  refine calls_start Try.func101 rfl (N := 9) rfl rfl _ (St.start _) rfl ?_
  refine wc_seq ?_
  refine wc_region ?_
  refine wl_go rfl (wo_val rfl (rv_assign rfl) rfl rfl ?_)
  refine wl_nil ?_
  refine wq_then ?_
  refine wc_seq ?_
  refine wc_region ?_
  refine wl_go rfl (wo_val rfl (rv_load_cell rfl (fun w4 hs4 => hb.cell (hs4.below rfl) 0 rfl)) rfl rfl ?_)
  refine wl_go rfl (wo_val rfl (rv_move rfl) rfl rfl ?_)
  refine wl_go rfl (wo_val rfl (rv_indexAddr rfl rfl (by omega)) rfl rfl ?_)
  refine wl_go rfl (wo_val rfl (rv_load_cell rfl (fun w4 hs4 => hc w4 (hs4.below rfl))) rfl rfl ?_)
  refine wl_go rfl (wo_val rfl (rv_not rfl) rfl rfl ?_)
  refine wl_go rfl (wo_val rfl (rv_assign rfl) rfl rfl ?_)
  refine wl_nil ?_
  refine wq_then ?_
  refine wc_ret ?_
  refine wq_ret1 rfl rfl (rr_tmp rfl) (fun w9 hs9 => ?_)
  exact ⟨rfl, hs9.below rfl⟩
theorem u2_calls (b6 b5 : Nat) (p : Option Addr) (c : Nat) (σ : List Bool) (q : Option Addr) (d : Nat) (r : List Int) (w : World) (hb6 : Boxed w b6 [.func (.func 101) #[] #[.pointer (some ⟨b5, 0, none⟩)]]) (hb5 : Boxed w b5 [.slice p σ.length c]) (hr : Rv w p c (σ.map bv)) (hv : Rv w q d (r.map iv)) (hin : ∀ x ∈ r, 0 ≤ x ∧ x < (σ.length : Int)) : Calls Try.prog 104 #[.slice q r.length d, .pointer (some ⟨b6, 0, none⟩)] w fun e w' => e = .returned (.bool (r.any fun n => !bg σ n)) ∧ Below w.heap.size w w' := by
  refine calls_start Try.func104 rfl (N := 7) rfl rfl _ (St.start _) rfl ?_
  refine wc_seq ?_
  refine wc_region ?_
  refine wl_go rfl (wo_val rfl (rv_assign rfl) rfl rfl ?_)
  refine wl_nil ?_
  refine wq_then ?_
  refine wc_seq ?_
  refine wc_region ?_
  refine wl_go rfl (wo_val rfl (rv_move rfl) rfl rfl ?_)
  refine wl_go rfl (wo_val rfl (rv_load_cell rfl (fun w4 hs4 => hb6.cell (hs4.below rfl) 0 rfl)) rfl rfl ?_)
  refine wl_go rfl (wo_call (R := fun _ v _ => v = _) rfl rfl (enters_of Try.func105 (by kernel_rfl) rfl) rfl rfl rfl (fun w4 hs4 => (cont_calls 101 [.pointer (some ⟨b5, 0, none⟩)] (enters_of Try.func101 (by kernel_rfl) rfl) (fun n => !bg σ n) q d r w4 (hv.below (hs4.below rfl)) (fun n hn w5 hbl => u1_calls b5 p c σ n (hin n hn) w5 (hb5.below (below_trans (hs4.below rfl) hbl)) (hr.below (below_trans (hs4.below rfl) hbl)))).mono fun e w' h => ⟨_, h.1, rfl, h.2⟩) (fun w2 v w3 hs2 hv hb2 hm2 => ?_))
  subst hv
  refine wl_go rfl (wo_val rfl (rv_assign rfl) rfl rfl ?_)
  refine wl_nil ?_
  refine wq_then ?_
  refine wc_ret ?_
  refine wq_ret1 rfl rfl (rr_tmp rfl) (fun w9 hs9 => ?_)
  exact ⟨rfl, hs9.below rfl⟩
/-- a function's value answers as some function does, on these rules, while one block turns -/
def AsksR (w : World) (B gf : Nat) (ca : List Value) (pr : List Int → Bool) (rs : List (List Int)) : Prop := ∀ r ∈ rs, ∀ q d w', w.grownBy w' (some B) → Rv w' q d (r.map iv) → Calls Try.prog gf (.slice q r.length d :: ca).toArray w' (fun e w'' => e = .returned (.bool (pr r)) ∧ Below w'.heap.size w' w'')
theorem below_grown {w w' : World} (h : Below w.heap.size w w') (q : Option Nat) : w.grownBy w' q := ⟨h.os, h.tape, h.output, h.size, fun k hk _ => h.block k hk⟩
set_option maxHeartbeats 1000000 in
theorem idxr_calls (B gf : Nat) (ca : List Value) (heg : Enter gf) (pr : List Int → Bool) (p : Option Addr) (c : Nat) (rs : List (List Int)) (w : World) (hrv : Rr w p c rs) (hF : AsksR w B gf ca pr rs) : Calls Try.prog 144 #[.slice p rs.length c, .func (.func gf) #[] ca.toArray] w fun e w' => e = .returned (iv (idxI pr rs)) ∧ Below w.heap.size w w' := by
  have hcap := hrv.cap
  refine calls_start Try.func144 rfl (N := 19) rfl rfl _ (St.start _) rfl ?_
  refine wc_seq ?_
  refine wc_region ?_
  refine wl_go rfl (wo_val rfl (rv_assign rfl) rfl rfl ?_)
  refine wl_nil ?_
  refine wq_then ?_
  refine wc_seq ?_
  refine wc_seq ?_
  refine wc_region ?_
  refine wl_go rfl (wo_val rfl (rv_move rfl) rfl rfl ?_)
  refine wl_go rfl (wo_val rfl (rv_len rfl) rfl rfl ?_)
  refine wl_go rfl (wo_val rfl (rv_move rfl) rfl rfl ?_)
  refine wl_nil ?_
  refine wq_then ?_
  refine wc_block ?_
  refine wc_loop (fun m l S => ∃ (k : Nat) (w1 : World), k ≤ rs.length ∧ (∀ y ∈ rs.take k, pr y = false) ∧ m = rs.length - k ∧ l = [(0, .slice p rs.length c), (1, .func (.func gf) #[] ca.toArray), (7, iv (rs.length : Int)), (8, iv (k : Int))] ∧ S = ⟨w, G0, w1, []⟩) ⟨_, _, ⟨0, w, Nat.zero_le _, by simp, rfl, rfl, rfl⟩, by repeat (first | exact sub_nil | refine sub_cons rfl ?_)⟩ ?_
  intro m l S hJ
  obtain ⟨k, w1, hk, hno, rfl, rfl, rfl⟩ := hJ
  refine wc_seq ?_
  refine wc_region ?_
  refine wl_go rfl (wo_val rfl (rv_cmp_i rfl rfl rfl) rfl rfl ?_)
  refine wl_nil ?_
  refine wq_then ?_
  refine wc_seq ?_
  refine wc_cond rfl (fun hc9 => ?_) (fun hc9 => ?_)
  · simp only [decide_eq_true_eq, decide_eq_false_iff_not, Bool.not_eq_true', Bool.not_eq_false', bne_iff_ne, beq_iff_eq, bne_eq_false_iff_eq, beq_eq_false_iff_ne, Int.not_lt, Int.not_le] at hc9
    obtain ⟨x, hx⟩ := getE (l := rs) (i := k) (by omega)
    obtain ⟨g, o, q, d, rfl, hcell, hrow⟩ := hrv.read hx
    refine wc_skip ?_
    refine wq_then ?_
    refine wc_seq ?_
    refine wc_block ?_
    refine wc_seq ?_
    refine wc_region ?_
    refine wl_go rfl (wo_val rfl (rv_move rfl) rfl rfl ?_)
    refine wl_go rfl (wo_val rfl (rv_assign rfl) rfl rfl ?_)
    refine wl_nil ?_
    refine wq_then ?_
    refine wc_seq ?_
    refine wc_region ?_
    refine wl_go rfl (wo_val rfl (rv_move rfl) rfl rfl ?_)
    refine wl_go rfl (wo_val rfl (rv_move rfl) rfl rfl ?_)
    refine wl_go rfl (wo_val rfl (rv_move rfl) rfl rfl ?_)
    refine wl_go rfl (wo_val rfl (rv_indexAddr rfl rfl (by omega)) rfl rfl ?_)
    refine wl_go rfl (wo_val rfl (rv_load_cell rfl (fun w4 hs4 => hcell w4 (hs4.below rfl))) rfl rfl ?_)
    refine wl_go rfl (wo_call (R := fun _ v _ => v = _) rfl rfl heg rfl rfl rfl (fun w4 hs4 => (hF x (List.mem_of_getElem? hx) q d w4 (below_grown (hs4.below rfl) _) (hrow.below (hs4.below rfl))).mono fun e w' h => ⟨_, h.1, rfl, h.2⟩) (fun w2 v w3 hs2 hv hb2 hm2 => ?_))
    subst hv
    refine wl_nil ?_
    refine wq_then ?_
    refine wc_cond rfl (fun hc16 => ?_) (fun hc16 => ?_)
    · skip
      refine wc_seq ?_
      refine wc_region ?_
      refine wl_go rfl (wo_val rfl (rv_move rfl) rfl rfl ?_)
      refine wl_go rfl (wo_val rfl (rv_assign rfl) rfl rfl ?_)
      refine wl_nil ?_
      refine wq_then ?_
      refine wc_ret ?_
      refine wq_in_ret ?_
      refine wq_then_ret ?_
      refine wq_then_ret ?_
      refine wq_in_ret ?_
      refine wq_then_ret ?_
      refine wq_ret1 rfl rfl (rr_tmp rfl) (fun w9 hs9 => ?_)
      rw [idx_found hx hc16 hno]
      exact ⟨rfl, hs9.below rfl⟩
    · skip
      refine wc_skip ?_
      refine wq_in_normal ?_
      refine wq_then ?_
      refine wc_region ?_
      refine wl_go rfl (wo_val rfl (rv_add rfl rfl (by omega)) rfl rfl ?_)
      refine wl_go rfl (wo_val rfl (rv_move rfl) rfl rfl ?_)
      refine wl_nil ?_
      exact wq_round ⟨_, _, ⟨k + 1, _, by omega, take_false hx hc16 hno, rfl, rfl, rfl⟩, by omega, by repeat (first | exact sub_nil | refine sub_cons rfl ?_)⟩
  · simp only [decide_eq_true_eq, decide_eq_false_iff_not, Bool.not_eq_true', Bool.not_eq_false', bne_iff_ne, beq_iff_eq, bne_eq_false_iff_eq, beq_eq_false_iff_ne, Int.not_lt, Int.not_le] at hc9
    refine wc_exit ?_
    refine wq_then_exit ?_
    refine wq_then_exit ?_
    refine wq_in_here ?_
    refine wq_then ?_
    refine wc_seq ?_
    refine wc_region ?_
    refine wl_go rfl (wo_val rfl (rv_assign rfl) rfl rfl ?_)
    refine wl_nil ?_
    refine wq_then ?_
    refine wc_ret ?_
    refine wq_ret1 rfl rfl (rr_tmp rfl) (fun w9 hs9 => ?_)
    obtain rfl : k = rs.length := by omega
    rw [List.take_length] at hno
    rw [idx_not hno]
    exact ⟨rfl, hs9.below rfl⟩
end Go.Proofs.Ytlppkbfkajionaa.Cm
