/- The walks of grammars: made, plain. -/
import Derived.Test.YtlppkbfkajionaaCmZ
namespace Go.Proofs.Ytlppkbfkajionaa.Cm
open Go Go.RowKit Gw Go.Shelf
set_option linter.unusedSimpArgs false
set_option linter.unusedVariables false
set_option linter.unusedSectionVars false
set_option maxHeartbeats 4000000
theorem gmade_calls (code : Bs) (hlen : code.length ≤ 60) (w : World) : Calls Try.prog 35 #[sv code] w fun e w' => ∃ x1 g1, e = .returned (.agg (gC x1 g1).toArray) ∧ Gm w' x1 g1 ∧ Ok g1 ∧ Short g1 ∧ g1.names.length ≤ 12 ∧ g1.rules.length ≤ 16 ∧ Below w.heap.size w w' := by
  refine calls_start Try.func35 rfl (N := 17) rfl rfl _ (St.start _) rfl ?_
  refine wc_seq ?_
  refine wc_region ?_
  refine wl_go rfl (wo_alloc rfl rfl rfl (fun b2 hb2 => ?_))
  refine wl_nil ?_
  refine wq_then ?_
  refine wc_seq ?_
  refine wc_region ?_
  refine wl_go rfl (wo_val rfl (rv_move rfl) rfl rfl ?_)
  refine wl_go rfl (wo_call (R := fun w2 v w3 => ∃ x1 g1, v = .agg (gC x1 g1).toArray ∧ (∀ w5 : World, (∀ k, w2.heap.size ≤ k → k < w3.heap.size → w5.heap[k]? = w3.heap[k]?) → Gm w5 x1 g1) ∧ Ok g1 ∧ Short g1 ∧ g1.names.length ≤ 12 ∧ g1.rules.length ≤ 16) rfl rfl (enters_of Try.func94 (by kernel_rfl) rfl) rfl rfl rfl (fun w4 hs4 => (make_calls code hlen w4).mono fun e w' h => let ⟨x1, g1, h1, h2, h3, h4, h5, h6, h7⟩ := h; ⟨_, h1, ⟨x1, g1, rfl, h2, h3, h4, h5, h6⟩, h7⟩) (fun w2 v w3 hs2 hv hb2 hm2 => ?_))
  obtain ⟨x1, g1, rfl, hG1, hok, hsh, hnl, hrl⟩ := hv
  have h3 := (hs2.more hb2).name
  have hlt2 := hs2.lt (x := ⟨b2, _⟩) List.mem_cons_self
  refine wl_go rfl (wo_alloc rfl rfl rfl (fun b3 hb3 => ?_))
  refine wl_go rfl (wo_st rfl rfl rfl rfl rfl rfl rfl ?_)
  refine wl_nil ?_
  refine wq_then ?_
  refine wc_seq ?_
  refine wc_region ?_
  refine wl_go rfl (wo_val rfl (rv_fieldAddr0 rfl) rfl rfl ?_)
  refine wl_go rfl (wo_val rfl (rv_load_own rfl rfl) rfl rfl ?_)
  refine wl_go rfl (wo_val rfl (rv_fieldAddr rfl) rfl rfl ?_)
  refine wl_go rfl (wo_val rfl (rv_load_own rfl rfl) rfl rfl ?_)
  refine wl_go rfl (wo_val rfl (rv_fieldAddr rfl) rfl rfl ?_)
  refine wl_go rfl (wo_val rfl (rv_load_own rfl rfl) rfl rfl ?_)
  refine wl_go rfl (wo_val rfl (rv_fieldAddr rfl) rfl rfl ?_)
  refine wl_go rfl (wo_val rfl (rv_load_own rfl rfl) rfl rfl ?_)
  refine wl_go rfl (wo_val rfl (rv_fieldAddr rfl) rfl rfl ?_)
  refine wl_go rfl (wo_val rfl (rv_load_own rfl rfl) rfl rfl ?_)
  refine wl_go rfl (wo_val rfl (rv_build [(0, _), (1, _), (2, _), (3, _), (4, _)] (⟨rfl, ⟨_, rfl, rfl⟩, ⟨rfl, ⟨_, rfl, rfl⟩, ⟨rfl, ⟨_, rfl, rfl⟩, ⟨rfl, ⟨_, rfl, rfl⟩, ⟨rfl, ⟨_, rfl, rfl⟩, trivial⟩⟩⟩⟩⟩)) rfl rfl ?_)
  refine wl_go rfl (wo_st rfl rfl rfl rfl rfl rfl rfl ?_)
  refine wl_nil ?_
  refine wq_then ?_
  refine wc_ret ?_
  refine wq_ret1 rfl rfl (rr_row rfl) (fun w9 hs9 => ?_)
  refine ⟨x1, g1, rfl, hG1 _ fun k h1 h2 => hs9.old0 k h2 fun y hy e => ?_, hok, hsh, hnl, hrl, hs9.below rfl⟩
  simp only [List.mem_cons, List.not_mem_nil, or_false] at hy
  rcases hy with rfl | rfl <;> simp only at e h2 hb3 hlt2 <;> omega
theorem plain_calls (x : GS) (g : Gr) (w : World) : Calls Try.prog 38 #[.agg (gC x g).toArray] w fun e w' => e = .returned (.agg (gC x g).toArray) ∧ Below w.heap.size w w' := by
  refine calls_start Try.func38 rfl (N := 14) rfl rfl _ (St.start _) rfl ?_
  refine wc_seq ?_
  refine wc_region ?_
  refine wl_go rfl (wo_box rfl rfl rfl rfl rfl (fun b1 hb1 => ?_))
  refine wl_go rfl (wo_alloc rfl rfl rfl (fun b2 hb2 => ?_))
  refine wl_nil ?_
  refine wq_then ?_
  refine wc_seq ?_
  refine wc_region ?_
  refine wl_go rfl (wo_val rfl (rv_fieldAddr0 rfl) rfl rfl ?_)
  refine wl_go rfl (wo_val rfl (rv_load_own rfl rfl) rfl rfl ?_)
  refine wl_go rfl (wo_val rfl (rv_fieldAddr rfl) rfl rfl ?_)
  refine wl_go rfl (wo_val rfl (rv_load_own rfl rfl) rfl rfl ?_)
  refine wl_go rfl (wo_val rfl (rv_fieldAddr rfl) rfl rfl ?_)
  refine wl_go rfl (wo_val rfl (rv_load_own rfl rfl) rfl rfl ?_)
  refine wl_go rfl (wo_val rfl (rv_fieldAddr rfl) rfl rfl ?_)
  refine wl_go rfl (wo_val rfl (rv_load_own rfl rfl) rfl rfl ?_)
  refine wl_go rfl (wo_val rfl (rv_fieldAddr rfl) rfl rfl ?_)
  refine wl_go rfl (wo_val rfl (rv_load_own rfl rfl) rfl rfl ?_)
  refine wl_go rfl (wo_val rfl (rv_build [(0, _), (1, _), (2, _), (3, _), (4, _)] (⟨rfl, ⟨_, rfl, rfl⟩, ⟨rfl, ⟨_, rfl, rfl⟩, ⟨rfl, ⟨_, rfl, rfl⟩, ⟨rfl, ⟨_, rfl, rfl⟩, ⟨rfl, ⟨_, rfl, rfl⟩, trivial⟩⟩⟩⟩⟩)) rfl rfl ?_)
  refine wl_go rfl (wo_st rfl rfl rfl rfl rfl rfl rfl ?_)
  refine wl_nil ?_
  refine wq_then ?_
  refine wc_ret ?_
  refine wq_ret1 rfl rfl (rr_row rfl) (fun w9 hs9 => ?_)
  exact ⟨rfl, hs9.below rfl⟩
end Go.Proofs.Ytlppkbfkajionaa.Cm
