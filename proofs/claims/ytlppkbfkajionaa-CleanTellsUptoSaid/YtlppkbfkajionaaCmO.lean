/- The walks of grammars, the reference: Check, right, Same. -/
import Derived.Test.YtlppkbfkajionaaCmN
namespace Go.Proofs.Ytlppkbfkajionaa.Cm
open Go Go.RowKit Gw Go.Shelf
set_option linter.unusedSimpArgs false
set_option linter.unusedVariables false
set_option linter.unusedSectionVars false
theorem byL_none {rs : List (List Int)} {s : Int} : byL rs s = [] ↔ ∀ r ∈ rs, r.head? ≠ some s := by
  constructor
  · intro h r hr hh
    obtain ⟨k, hk⟩ := List.mem_iff_getElem?.1 hr
    have : (k : Int) ∈ byL rs s := byL_mem.2 ⟨k, rfl, r, hk, hh⟩
    rw [h] at this; cases this
  · intro h
    cases hb : byL rs s with
    | nil => rfl
    | cons i l =>
      obtain ⟨k, _, r, hr, hh⟩ := byL_mem.1 (show i ∈ byL rs s by rw [hb]; simp)
      exact absurd hh (h r (List.mem_of_getElem? hr))
set_option maxHeartbeats 1000000 in
theorem rcheck_calls (x : GS) (g : Gr) (w : World) (hg : Gm w x g) : Calls Try.prog 137 #[.agg (gC x g).toArray] w fun e w' => e = .returned (iv (okE g)) ∧ Below w.heap.size w w' := by
  have hcap := hg.rules.cap
  refine calls_start Try.func137 rfl (N := 114) rfl rfl _ (St.start _) rfl ?_
  refine wc_seq ?_
  refine wc_region ?_
  refine wl_go rfl (wo_box rfl rfl rfl rfl rfl (fun b1 hb1 => ?_))
  refine wl_go rfl (wo_val rfl (rv_assign rfl) rfl rfl ?_)
  refine wl_nil ?_
  refine wq_then ?_
  refine wc_seq ?_
  refine wc_seq ?_
  refine wc_region ?_
  refine wl_go rfl (wo_val rfl (rv_fieldAddr rfl) rfl rfl ?_)
  refine wl_go rfl (wo_val rfl (rv_load_own rfl rfl) rfl rfl ?_)
  refine wl_go rfl (wo_val rfl (rv_cmp_i rfl rfl rfl) rfl rfl ?_)
  refine wl_go rfl (wo_val rfl (rv_move rfl) rfl rfl ?_)
  refine wl_split (d := 10) rfl true (fun hg1_3 => ?_) (fun hg1_3 => ?_)
  · skip
    have hq : g.terms < 0 := by simpa using hg1_3
    have hbad : ¬ Ok g := fun h => by have := h.t0; omega
    refine wl_skip rfl rfl rfl rfl rfl hg1_3 rfl ?_
    refine wl_skip rfl rfl rfl rfl rfl hg1_3 rfl ?_
    refine wl_skip rfl rfl rfl rfl rfl hg1_3 rfl ?_
    refine wl_skip rfl rfl rfl rfl rfl hg1_3 rfl ?_
    refine wl_skip rfl rfl rfl rfl rfl hg1_3 rfl ?_
    refine wl_skip rfl rfl rfl rfl rfl hg1_3 rfl ?_
    refine wl_go rfl (wo_val rfl (rv_pick_t rfl hg1_3 rfl) rfl rfl ?_)
    refine wl_go rfl (wo_val rfl (rv_move rfl) rfl rfl ?_)
    refine wl_skip rfl rfl rfl rfl rfl rfl rfl ?_
    refine wl_skip rfl rfl rfl rfl rfl rfl rfl ?_
    refine wl_skip rfl rfl rfl rfl rfl rfl rfl ?_
    refine wl_skip rfl rfl rfl rfl rfl rfl rfl ?_
    refine wl_skip rfl rfl rfl rfl rfl rfl rfl ?_
    refine wl_skip rfl rfl rfl rfl rfl rfl rfl ?_
    refine wl_go rfl (wo_val rfl (rv_pick_t rfl rfl rfl) rfl rfl ?_)
    refine wl_go rfl (wo_val rfl (rv_move rfl) rfl rfl ?_)
    refine wl_skip rfl rfl rfl rfl rfl rfl rfl ?_
    refine wl_skip rfl rfl rfl rfl rfl rfl rfl ?_
    refine wl_skip rfl rfl rfl rfl rfl rfl rfl ?_
    refine wl_skip rfl rfl rfl rfl rfl rfl rfl ?_
    refine wl_go rfl (wo_val rfl (rv_pick_t rfl rfl rfl) rfl rfl ?_)
    refine wl_go rfl (wo_val rfl (rv_move rfl) rfl rfl ?_)
    refine wl_skip rfl rfl rfl rfl rfl rfl rfl ?_
    refine wl_skip rfl rfl rfl rfl rfl rfl rfl ?_
    refine wl_skip rfl rfl rfl rfl rfl rfl rfl ?_
    refine wl_skip rfl rfl rfl rfl rfl rfl rfl ?_
    refine wl_go rfl (wo_val rfl (rv_pick_t rfl rfl rfl) rfl rfl ?_)
    refine wl_go rfl (wo_val rfl (rv_move rfl) rfl rfl ?_)
    refine wl_skip rfl rfl rfl rfl rfl rfl rfl ?_
    refine wl_skip rfl rfl rfl rfl rfl rfl rfl ?_
    refine wl_skip rfl rfl rfl rfl rfl rfl rfl ?_
    refine wl_skip rfl rfl rfl rfl rfl rfl rfl ?_
    refine wl_go rfl (wo_val rfl (rv_pick_t rfl rfl rfl) rfl rfl ?_)
    refine wl_go rfl (wo_val rfl (rv_move rfl) rfl rfl ?_)
    refine wl_skip rfl rfl rfl rfl rfl rfl rfl ?_
    refine wl_skip rfl rfl rfl rfl rfl rfl rfl ?_
    refine wl_skip rfl rfl rfl rfl rfl rfl rfl ?_
    refine wl_skip rfl rfl rfl rfl rfl rfl rfl ?_
    refine wl_skip rfl rfl rfl rfl rfl rfl rfl ?_
    refine wl_go rfl (wo_val rfl (rv_pick_t rfl rfl rfl) rfl rfl ?_)
    refine wl_nil ?_
    refine wq_then ?_
    refine wc_cond_t rfl rfl ?_
    refine wc_seq ?_
    refine wc_region ?_
    refine wl_go rfl (wo_val rfl (rv_assign rfl) rfl rfl ?_)
    refine wl_nil ?_
    refine wq_then ?_
    refine wc_ret ?_
    refine wq_then_ret ?_
    refine wq_ret1 rfl rfl (rr_tmp rfl) (fun w9 hs9 => ?_)
    first | (rw [okE_no hbad]; exact ⟨rfl, hs9.below rfl⟩) | (rw [okE_yes hgood]; exact ⟨rfl, hs9.below rfl⟩)
  · skip
    have hq : 0 ≤ g.terms := by simpa using hg1_3
    have c0 := hq
    refine wl_want rfl rfl rfl rfl rfl hg1_3 (wo_val rfl (rv_fieldAddr rfl) rfl rfl ?_)
    refine wl_want rfl rfl rfl rfl rfl hg1_3 (wo_val rfl (rv_load_own rfl rfl) rfl rfl ?_)
    refine wl_want rfl rfl rfl rfl rfl hg1_3 (wo_val rfl (rv_fieldAddr0 rfl) rfl rfl ?_)
    refine wl_want rfl rfl rfl rfl rfl hg1_3 (wo_val rfl (rv_load_own rfl rfl) rfl rfl ?_)
    refine wl_want rfl rfl rfl rfl rfl hg1_3 (wo_val rfl (rv_len rfl) rfl rfl ?_)
    refine wl_want rfl rfl rfl rfl rfl hg1_3 (wo_val rfl (rv_cmp_i rfl rfl rfl) rfl rfl ?_)
    refine wl_go rfl (wo_val rfl (rv_pick_f rfl hg1_3 rfl) rfl rfl ?_)
    refine wl_go rfl (wo_val rfl (rv_move rfl) rfl rfl ?_)
    refine wl_split (d := 18) rfl true (fun hg1_11 => ?_) (fun hg1_11 => ?_)
    · skip
      have hq : (g.names.length : Int) < g.terms := by simpa using hg1_11
      have hbad : ¬ Ok g := fun h => by have := h.t1; omega
      refine wl_skip rfl rfl rfl rfl rfl hg1_11 rfl ?_
      refine wl_skip rfl rfl rfl rfl rfl hg1_11 rfl ?_
      refine wl_skip rfl rfl rfl rfl rfl hg1_11 rfl ?_
      refine wl_skip rfl rfl rfl rfl rfl hg1_11 rfl ?_
      refine wl_skip rfl rfl rfl rfl rfl hg1_11 rfl ?_
      refine wl_skip rfl rfl rfl rfl rfl hg1_11 rfl ?_
      refine wl_go rfl (wo_val rfl (rv_pick_t rfl hg1_11 rfl) rfl rfl ?_)
      refine wl_go rfl (wo_val rfl (rv_move rfl) rfl rfl ?_)
      refine wl_skip rfl rfl rfl rfl rfl rfl rfl ?_
      refine wl_skip rfl rfl rfl rfl rfl rfl rfl ?_
      refine wl_skip rfl rfl rfl rfl rfl rfl rfl ?_
      refine wl_skip rfl rfl rfl rfl rfl rfl rfl ?_
      refine wl_go rfl (wo_val rfl (rv_pick_t rfl rfl rfl) rfl rfl ?_)
      refine wl_go rfl (wo_val rfl (rv_move rfl) rfl rfl ?_)
      refine wl_skip rfl rfl rfl rfl rfl rfl rfl ?_
      refine wl_skip rfl rfl rfl rfl rfl rfl rfl ?_
      refine wl_skip rfl rfl rfl rfl rfl rfl rfl ?_
      refine wl_skip rfl rfl rfl rfl rfl rfl rfl ?_
      refine wl_go rfl (wo_val rfl (rv_pick_t rfl rfl rfl) rfl rfl ?_)
      refine wl_go rfl (wo_val rfl (rv_move rfl) rfl rfl ?_)
      refine wl_skip rfl rfl rfl rfl rfl rfl rfl ?_
      refine wl_skip rfl rfl rfl rfl rfl rfl rfl ?_
      refine wl_skip rfl rfl rfl rfl rfl rfl rfl ?_
      refine wl_skip rfl rfl rfl rfl rfl rfl rfl ?_
      refine wl_go rfl (wo_val rfl (rv_pick_t rfl rfl rfl) rfl rfl ?_)
      refine wl_go rfl (wo_val rfl (rv_move rfl) rfl rfl ?_)
      refine wl_skip rfl rfl rfl rfl rfl rfl rfl ?_
      refine wl_skip rfl rfl rfl rfl rfl rfl rfl ?_
      refine wl_skip rfl rfl rfl rfl rfl rfl rfl ?_
      refine wl_skip rfl rfl rfl rfl rfl rfl rfl ?_
      refine wl_skip rfl rfl rfl rfl rfl rfl rfl ?_
      refine wl_go rfl (wo_val rfl (rv_pick_t rfl rfl rfl) rfl rfl ?_)
      refine wl_nil ?_
      refine wq_then ?_
      refine wc_cond_t rfl rfl ?_
      refine wc_seq ?_
      refine wc_region ?_
      refine wl_go rfl (wo_val rfl (rv_assign rfl) rfl rfl ?_)
      refine wl_nil ?_
      refine wq_then ?_
      refine wc_ret ?_
      refine wq_then_ret ?_
      refine wq_ret1 rfl rfl (rr_tmp rfl) (fun w9 hs9 => ?_)
      first | (rw [okE_no hbad]; exact ⟨rfl, hs9.below rfl⟩) | (rw [okE_yes hgood]; exact ⟨rfl, hs9.below rfl⟩)
    · skip
      have hq : g.terms ≤ (g.names.length : Int) := by simpa using hg1_11
      have c1 := hq
      refine wl_want rfl rfl rfl rfl rfl hg1_11 (wo_val rfl (rv_fieldAddr rfl) rfl rfl ?_)
      refine wl_want rfl rfl rfl rfl rfl hg1_11 (wo_val rfl (rv_load_own rfl rfl) rfl rfl ?_)
      refine wl_want rfl rfl rfl rfl rfl hg1_11 (wo_val rfl (rv_len rfl) rfl rfl ?_)
      refine wl_want rfl rfl rfl rfl rfl hg1_11 (wo_val rfl (rv_fieldAddr rfl) rfl rfl ?_)
      refine wl_want rfl rfl rfl rfl rfl hg1_11 (wo_val rfl (rv_load_own rfl rfl) rfl rfl ?_)
      refine wl_want rfl rfl rfl rfl rfl hg1_11 (wo_val rfl (rv_cmp_i rfl rfl rfl) rfl rfl ?_)
      refine wl_go rfl (wo_val rfl (rv_pick_f rfl hg1_11 rfl) rfl rfl ?_)
      refine wl_go rfl (wo_val rfl (rv_move rfl) rfl rfl ?_)
      refine wl_split (d := 26) rfl true (fun hg1_19 => ?_) (fun hg1_19 => ?_)
      · skip
        have hq : ¬ (g.tokens.length : Int) = g.terms := by simpa using hg1_19
        have hbad : ¬ Ok g := fun h => by have := h.tk; omega
        refine wl_skip rfl rfl rfl rfl rfl hg1_19 rfl ?_
        refine wl_skip rfl rfl rfl rfl rfl hg1_19 rfl ?_
        refine wl_skip rfl rfl rfl rfl rfl hg1_19 rfl ?_
        refine wl_skip rfl rfl rfl rfl rfl hg1_19 rfl ?_
        refine wl_go rfl (wo_val rfl (rv_pick_t rfl hg1_19 rfl) rfl rfl ?_)
        refine wl_go rfl (wo_val rfl (rv_move rfl) rfl rfl ?_)
        refine wl_skip rfl rfl rfl rfl rfl rfl rfl ?_
        refine wl_skip rfl rfl rfl rfl rfl rfl rfl ?_
        refine wl_skip rfl rfl rfl rfl rfl rfl rfl ?_
        refine wl_skip rfl rfl rfl rfl rfl rfl rfl ?_
        refine wl_go rfl (wo_val rfl (rv_pick_t rfl rfl rfl) rfl rfl ?_)
        refine wl_go rfl (wo_val rfl (rv_move rfl) rfl rfl ?_)
        refine wl_skip rfl rfl rfl rfl rfl rfl rfl ?_
        refine wl_skip rfl rfl rfl rfl rfl rfl rfl ?_
        refine wl_skip rfl rfl rfl rfl rfl rfl rfl ?_
        refine wl_skip rfl rfl rfl rfl rfl rfl rfl ?_
        refine wl_go rfl (wo_val rfl (rv_pick_t rfl rfl rfl) rfl rfl ?_)
        refine wl_go rfl (wo_val rfl (rv_move rfl) rfl rfl ?_)
        refine wl_skip rfl rfl rfl rfl rfl rfl rfl ?_
        refine wl_skip rfl rfl rfl rfl rfl rfl rfl ?_
        refine wl_skip rfl rfl rfl rfl rfl rfl rfl ?_
        refine wl_skip rfl rfl rfl rfl rfl rfl rfl ?_
        refine wl_skip rfl rfl rfl rfl rfl rfl rfl ?_
        refine wl_go rfl (wo_val rfl (rv_pick_t rfl rfl rfl) rfl rfl ?_)
        refine wl_nil ?_
        refine wq_then ?_
        refine wc_cond_t rfl rfl ?_
        refine wc_seq ?_
        refine wc_region ?_
        refine wl_go rfl (wo_val rfl (rv_assign rfl) rfl rfl ?_)
        refine wl_nil ?_
        refine wq_then ?_
        refine wc_ret ?_
        refine wq_then_ret ?_
        refine wq_ret1 rfl rfl (rr_tmp rfl) (fun w9 hs9 => ?_)
        first | (rw [okE_no hbad]; exact ⟨rfl, hs9.below rfl⟩) | (rw [okE_yes hgood]; exact ⟨rfl, hs9.below rfl⟩)
      · skip
        have hq : (g.tokens.length : Int) = g.terms := by simpa using hg1_19
        have c2 := hq
        refine wl_want rfl rfl rfl rfl rfl hg1_19 (wo_val rfl (rv_fieldAddr0 rfl) rfl rfl ?_)
        refine wl_want rfl rfl rfl rfl rfl hg1_19 (wo_val rfl (rv_load_own rfl rfl) rfl rfl ?_)
        refine wl_want rfl rfl rfl rfl rfl hg1_19 (wo_val rfl (rv_len rfl) rfl rfl ?_)
        refine wl_want rfl rfl rfl rfl rfl hg1_19 (wo_val rfl (rv_cmp_i rfl rfl rfl) rfl rfl ?_)
        refine wl_go rfl (wo_val rfl (rv_pick_f rfl hg1_19 rfl) rfl rfl ?_)
        refine wl_go rfl (wo_val rfl (rv_move rfl) rfl rfl ?_)
        refine wl_split (d := 32) rfl true (fun hg1_25 => ?_) (fun hg1_25 => ?_)
        · skip
          have hq : 128 < (g.names.length : Int) := by simpa using hg1_25
          have hbad : ¬ Ok g := fun h => by have := h.nm; omega
          refine wl_skip rfl rfl rfl rfl rfl hg1_25 rfl ?_
          refine wl_skip rfl rfl rfl rfl rfl hg1_25 rfl ?_
          refine wl_skip rfl rfl rfl rfl rfl hg1_25 rfl ?_
          refine wl_skip rfl rfl rfl rfl rfl hg1_25 rfl ?_
          refine wl_go rfl (wo_val rfl (rv_pick_t rfl hg1_25 rfl) rfl rfl ?_)
          refine wl_go rfl (wo_val rfl (rv_move rfl) rfl rfl ?_)
          refine wl_skip rfl rfl rfl rfl rfl rfl rfl ?_
          refine wl_skip rfl rfl rfl rfl rfl rfl rfl ?_
          refine wl_skip rfl rfl rfl rfl rfl rfl rfl ?_
          refine wl_skip rfl rfl rfl rfl rfl rfl rfl ?_
          refine wl_go rfl (wo_val rfl (rv_pick_t rfl rfl rfl) rfl rfl ?_)
          refine wl_go rfl (wo_val rfl (rv_move rfl) rfl rfl ?_)
          refine wl_skip rfl rfl rfl rfl rfl rfl rfl ?_
          refine wl_skip rfl rfl rfl rfl rfl rfl rfl ?_
          refine wl_skip rfl rfl rfl rfl rfl rfl rfl ?_
          refine wl_skip rfl rfl rfl rfl rfl rfl rfl ?_
          refine wl_skip rfl rfl rfl rfl rfl rfl rfl ?_
          refine wl_go rfl (wo_val rfl (rv_pick_t rfl rfl rfl) rfl rfl ?_)
          refine wl_nil ?_
          refine wq_then ?_
          refine wc_cond_t rfl rfl ?_
          refine wc_seq ?_
          refine wc_region ?_
          refine wl_go rfl (wo_val rfl (rv_assign rfl) rfl rfl ?_)
          refine wl_nil ?_
          refine wq_then ?_
          refine wc_ret ?_
          refine wq_then_ret ?_
          refine wq_ret1 rfl rfl (rr_tmp rfl) (fun w9 hs9 => ?_)
          first | (rw [okE_no hbad]; exact ⟨rfl, hs9.below rfl⟩) | (rw [okE_yes hgood]; exact ⟨rfl, hs9.below rfl⟩)
        · skip
          have hq : (g.names.length : Int) ≤ 128 := by simpa using hg1_25
          have c3 := hq
          refine wl_want rfl rfl rfl rfl rfl hg1_25 (wo_val rfl (rv_fieldAddr rfl) rfl rfl ?_)
          refine wl_want rfl rfl rfl rfl rfl hg1_25 (wo_val rfl (rv_load_own rfl rfl) rfl rfl ?_)
          refine wl_want rfl rfl rfl rfl rfl hg1_25 (wo_val rfl (rv_len rfl) rfl rfl ?_)
          refine wl_want rfl rfl rfl rfl rfl hg1_25 (wo_val rfl (rv_cmp_i rfl rfl rfl) rfl rfl ?_)
          refine wl_go rfl (wo_val rfl (rv_pick_f rfl hg1_25 rfl) rfl rfl ?_)
          refine wl_go rfl (wo_val rfl (rv_move rfl) rfl rfl ?_)
          refine wl_split (d := 38) rfl true (fun hg1_31 => ?_) (fun hg1_31 => ?_)
          · skip
            have hq : (g.rules.length : Int) < 1 := by simpa using hg1_31
            have hbad : ¬ Ok g := fun h => by have := h.r1; omega
            refine wl_skip rfl rfl rfl rfl rfl hg1_31 rfl ?_
            refine wl_skip rfl rfl rfl rfl rfl hg1_31 rfl ?_
            refine wl_skip rfl rfl rfl rfl rfl hg1_31 rfl ?_
            refine wl_skip rfl rfl rfl rfl rfl hg1_31 rfl ?_
            refine wl_go rfl (wo_val rfl (rv_pick_t rfl hg1_31 rfl) rfl rfl ?_)
            refine wl_go rfl (wo_val rfl (rv_move rfl) rfl rfl ?_)
            refine wl_skip rfl rfl rfl rfl rfl rfl rfl ?_
            refine wl_skip rfl rfl rfl rfl rfl rfl rfl ?_
            refine wl_skip rfl rfl rfl rfl rfl rfl rfl ?_
            refine wl_skip rfl rfl rfl rfl rfl rfl rfl ?_
            refine wl_skip rfl rfl rfl rfl rfl rfl rfl ?_
            refine wl_go rfl (wo_val rfl (rv_pick_t rfl rfl rfl) rfl rfl ?_)
            refine wl_nil ?_
            refine wq_then ?_
            refine wc_cond_t rfl rfl ?_
            refine wc_seq ?_
            refine wc_region ?_
            refine wl_go rfl (wo_val rfl (rv_assign rfl) rfl rfl ?_)
            refine wl_nil ?_
            refine wq_then ?_
            refine wc_ret ?_
            refine wq_then_ret ?_
            refine wq_ret1 rfl rfl (rr_tmp rfl) (fun w9 hs9 => ?_)
            first | (rw [okE_no hbad]; exact ⟨rfl, hs9.below rfl⟩) | (rw [okE_yes hgood]; exact ⟨rfl, hs9.below rfl⟩)
          · skip
            have hq : 1 ≤ (g.rules.length : Int) := by simpa using hg1_31
            have c4 := hq
            refine wl_want rfl rfl rfl rfl rfl hg1_31 (wo_val rfl (rv_fieldAddr rfl) rfl rfl ?_)
            refine wl_want rfl rfl rfl rfl rfl hg1_31 (wo_val rfl (rv_load_own rfl rfl) rfl rfl ?_)
            refine wl_want rfl rfl rfl rfl rfl hg1_31 (wo_val rfl (rv_len rfl) rfl rfl ?_)
            refine wl_want rfl rfl rfl rfl rfl hg1_31 (wo_val rfl (rv_cmp_i rfl rfl rfl) rfl rfl ?_)
            refine wl_go rfl (wo_val rfl (rv_pick_f rfl hg1_31 rfl) rfl rfl ?_)
            refine wl_go rfl (wo_val rfl (rv_move rfl) rfl rfl ?_)
            refine wl_split (d := 44) rfl true (fun hg1_37 => ?_) (fun hg1_37 => ?_)
            · skip
              have hq : 256 < (g.rules.length : Int) := by simpa using hg1_37
              have hbad : ¬ Ok g := fun h => by have := h.r2; omega
              refine wl_skip rfl rfl rfl rfl rfl hg1_37 rfl ?_
              refine wl_skip rfl rfl rfl rfl rfl hg1_37 rfl ?_
              refine wl_skip rfl rfl rfl rfl rfl hg1_37 rfl ?_
              refine wl_skip rfl rfl rfl rfl rfl hg1_37 rfl ?_
              refine wl_skip rfl rfl rfl rfl rfl hg1_37 rfl ?_
              refine wl_go rfl (wo_val rfl (rv_pick_t rfl hg1_37 rfl) rfl rfl ?_)
              refine wl_nil ?_
              refine wq_then ?_
              refine wc_cond_t rfl rfl ?_
              refine wc_seq ?_
              refine wc_region ?_
              refine wl_go rfl (wo_val rfl (rv_assign rfl) rfl rfl ?_)
              refine wl_nil ?_
              refine wq_then ?_
              refine wc_ret ?_
              refine wq_then_ret ?_
              refine wq_ret1 rfl rfl (rr_tmp rfl) (fun w9 hs9 => ?_)
              first | (rw [okE_no hbad]; exact ⟨rfl, hs9.below rfl⟩) | (rw [okE_yes hgood]; exact ⟨rfl, hs9.below rfl⟩)
            · skip
              have hq : (g.rules.length : Int) ≤ 256 := by simpa using hg1_37
              have c5 := hq
              refine wl_want rfl rfl rfl rfl rfl hg1_37 (wo_val rfl (rv_load_own_row rfl) rfl rfl ?_)
              refine wl_want rfl rfl rfl rfl rfl hg1_37 (wo_val rfl (rv_fieldAddr rfl) rfl rfl ?_)
              refine wl_want rfl rfl rfl rfl rfl hg1_37 (wo_val rfl (rv_load_own rfl rfl) rfl rfl ?_)
              refine wl_want rfl rfl rfl rfl rfl hg1_37 (wo_call (R := fun _ v _ => v = _) rfl rfl (enters_of Try.func182 (by kernel_rfl) rfl) rfl rfl rfl (fun w4 hs4 => (rmade_calls x g g.start w4).mono fun e w' h => ⟨_, h.1, rfl, h.2⟩) (fun w2 v w3 hs2 hv hb2 hm2 => ?_))
              subst hv
              refine wl_want rfl rfl rfl rfl rfl hg1_37 (wo_val rfl (rv_not rfl) rfl rfl ?_)
              refine wl_go rfl (wo_val rfl (rv_pick_f rfl hg1_37 rfl) rfl rfl ?_)
              refine wl_nil ?_
              refine wq_then ?_
              refine wc_cond rfl (fun hc50 => ?_) (fun hc50 => ?_)
              · simp only [decide_eq_true_eq, decide_eq_false_iff_not, Bool.not_eq_true', Bool.not_eq_false', bne_iff_ne, beq_iff_eq, bne_eq_false_iff_eq, beq_eq_false_iff_ne, Int.not_lt, Int.not_le] at hc50
                have hbad : ¬ Ok g := fun h => by rw [madeR_eq h.t0, h.st] at hc50; cases hc50
                refine wc_seq ?_
                refine wc_region ?_
                refine wl_go rfl (wo_val rfl (rv_assign rfl) rfl rfl ?_)
                refine wl_nil ?_
                refine wq_then ?_
                refine wc_ret ?_
                refine wq_then_ret ?_
                refine wq_ret1 rfl rfl (rr_tmp rfl) (fun w9 hs9 => ?_)
                first | (rw [okE_no hbad]; exact ⟨rfl, hs9.below rfl⟩) | (rw [okE_yes hgood]; exact ⟨rfl, hs9.below rfl⟩)
              · simp only [decide_eq_true_eq, decide_eq_false_iff_not, Bool.not_eq_true', Bool.not_eq_false', bne_iff_ne, beq_iff_eq, bne_eq_false_iff_eq, beq_eq_false_iff_ne, Int.not_lt, Int.not_le] at hc50
                have c6 : madeB g g.start = true := by rw [← madeR_eq c0]; exact hc50
                refine wc_skip ?_
                refine wq_then ?_
                refine wc_seq ?_
                refine wc_seq ?_
                refine wc_region ?_
                refine wl_go rfl (wo_val rfl (rv_assign rfl) rfl rfl ?_)
                refine wl_nil ?_
                refine wq_then ?_
                refine wc_block ?_
                refine wc_loop (fun m l S => ∃ (k : Nat) (w1 : World), k ≤ g.rules.length ∧ (∀ r ∈ g.rules.take k, fitsB g r = true) ∧ m = g.rules.length - k ∧ l = [(1, .pointer (some ⟨b1, 0, none⟩)), (3, iv (k : Int))] ∧ S = ⟨w, G0, w1, [⟨b1, .cells (gC x g).toArray 60 (0, 0)⟩]⟩) ⟨_, _, ⟨0, _, Nat.zero_le _, by simp, rfl, rfl, rfl⟩, by repeat (first | exact sub_nil | refine sub_cons rfl ?_)⟩ ?_
                intro m l S hJ
                obtain ⟨k, w1, hk, hno, rfl, rfl, rfl⟩ := hJ
                refine wc_seq ?_
                refine wc_seq ?_
                refine wc_region ?_
                refine wl_go rfl (wo_val rfl (rv_move rfl) rfl rfl ?_)
                refine wl_go rfl (wo_val rfl (rv_fieldAddr rfl) rfl rfl ?_)
                refine wl_go rfl (wo_val rfl (rv_load_own rfl rfl) rfl rfl ?_)
                refine wl_go rfl (wo_val rfl (rv_len rfl) rfl rfl ?_)
                refine wl_go rfl (wo_val rfl (rv_cmp_i rfl rfl rfl) rfl rfl ?_)
                refine wl_nil ?_
                refine wq_then ?_
                refine wc_cond rfl (fun hc55 => ?_) (fun hc55 => ?_)
                · simp only [decide_eq_true_eq, decide_eq_false_iff_not, Bool.not_eq_true', Bool.not_eq_false', bne_iff_ne, beq_iff_eq, bne_eq_false_iff_eq, beq_eq_false_iff_ne, Int.not_lt, Int.not_le] at hc55
                  obtain ⟨r, hr⟩ := getE (l := g.rules) (i := k) (by omega)
                  have hrm := List.mem_of_getElem? hr
                  obtain ⟨g0, o0, q, d, hrp, hcell, hrow⟩ := hg.rules.read hr
                  refine wc_skip ?_
                  refine wq_then ?_
                  refine wc_seq ?_
                  refine wc_block ?_
                  refine wc_seq ?_
                  refine wc_region ?_
                  refine wl_go rfl (wo_val rfl (rv_fieldAddr rfl) rfl rfl ?_)
                  refine wl_go rfl (wo_val rfl (rv_load_own (v := .slice (some ⟨g0, o0, none⟩) g.rules.length x.rc) rfl (by rw [← hrp]; rfl)) rfl rfl ?_)
                  refine wl_go rfl (wo_val rfl (rv_move rfl) rfl rfl ?_)
                  refine wl_go rfl (wo_val rfl (rv_indexAddr rfl rfl (by omega)) rfl rfl ?_)
                  refine wl_go rfl (wo_val rfl (rv_load_cell rfl (fun w4 hs4 => hcell w4 (hs4.below rfl))) rfl rfl ?_)
                  refine wl_go rfl (wo_val rfl (rv_assign rfl) rfl rfl ?_)
                  refine wl_nil ?_
                  refine wq_then ?_
                  refine wc_seq ?_
                  refine wc_seq ?_
                  refine wc_region_quiet (by kernel_rfl) (by kernel_rfl) ?_
                  refine wk_val rfl rfl (rv_move rfl) rfl rfl ?_
                  refine wk_val rfl rfl (rv_len rfl) rfl rfl ?_
                  refine wk_val rfl rfl (rv_cmp_i rfl rfl rfl) rfl rfl ?_
                  refine wk_val rfl rfl (rv_move rfl) rfl rfl ?_
                  refine wk_split (d := 66) rfl true (fun hg7_3 => ?_) (fun hg7_3 => ?_)
                  · skip
                    have hq : (r.length : Int) < 1 := by simpa using hg7_3
                    have hbad : ¬ Ok g := fun h => by have := (h.fits hrm).pos; omega
                    refine wk_skip rfl rfl rfl rfl rfl hg7_3 rfl ?_
                    refine wk_skip rfl rfl rfl rfl rfl hg7_3 rfl ?_
                    refine wk_skip rfl rfl rfl rfl rfl hg7_3 rfl ?_
                    refine wk_val rfl rfl (rv_pick_t rfl hg7_3 rfl) rfl rfl ?_
                    refine wk_val rfl rfl (rv_move rfl) rfl rfl ?_
                    refine wk_skip rfl rfl rfl rfl rfl rfl rfl ?_
                    refine wk_skip rfl rfl rfl rfl rfl rfl rfl ?_
                    refine wk_skip rfl rfl rfl rfl rfl rfl rfl ?_
                    refine wk_skip rfl rfl rfl rfl rfl rfl rfl ?_
                    refine wk_skip rfl rfl rfl rfl rfl rfl rfl ?_
                    refine wk_skip rfl rfl rfl rfl rfl rfl rfl ?_
                    refine wk_val rfl rfl (rv_pick_t rfl rfl rfl) rfl rfl ?_
                    refine wk_nil ?_
                    refine wq_then ?_
                    refine wc_cond_t rfl rfl ?_
                    refine wc_seq ?_
                    refine wc_region ?_
                    refine wl_go rfl (wo_val rfl (rv_assign rfl) rfl rfl ?_)
                    refine wl_nil ?_
                    refine wq_then ?_
                    refine wc_ret ?_
                    refine wq_then_ret ?_
                    refine wq_in_ret ?_
                    refine wq_then_ret ?_
                    refine wq_then_ret ?_
                    refine wq_in_ret ?_
                    refine wq_then_ret ?_
                    refine wq_ret1 rfl rfl (rr_tmp rfl) (fun w9 hs9 => ?_)
                    first | (rw [okE_no hbad]; exact ⟨rfl, hs9.below rfl⟩) | (rw [okE_yes hgood]; exact ⟨rfl, hs9.below rfl⟩)
                  · skip
                    have hq : 1 ≤ (r.length : Int) := by simpa using hg7_3
                    have hpos : 0 < r.length := by omega
                    obtain ⟨y, hy⟩ := getE hpos
                    have hyd : r.headD 0 = y := by rw [List.headD_eq_head?_getD, List.head?_eq_getElem?, hy]; rfl
                    obtain ⟨g1, o1, rfl, hcell1⟩ := hrow.read (map_get hy)
                    refine wk_want rfl rfl rfl rfl rfl hg7_3 rfl (rv_move rfl) rfl rfl ?_
                    refine wk_want rfl rfl rfl rfl rfl hg7_3 rfl (rv_len rfl) rfl rfl ?_
                    refine wk_want rfl rfl rfl rfl rfl hg7_3 rfl (rv_cmp_i rfl rfl rfl) rfl rfl ?_
                    refine wk_val rfl rfl (rv_pick_f rfl hg7_3 rfl) rfl rfl ?_
                    refine wk_val rfl rfl (rv_move rfl) rfl rfl ?_
                    refine wk_split (d := 71) rfl true (fun hg7_8 => ?_) (fun hg7_8 => ?_)
                    · skip
                      have hq : 9 < (r.length : Int) := by simpa using hg7_8
                      have hbad : ¬ Ok g := fun h => by have := (h.fits hrm).len; omega
                      refine wk_skip rfl rfl rfl rfl rfl hg7_8 rfl ?_
                      refine wk_skip rfl rfl rfl rfl rfl hg7_8 rfl ?_
                      refine wk_skip rfl rfl rfl rfl rfl hg7_8 rfl ?_
                      refine wk_skip rfl rfl rfl rfl rfl hg7_8 rfl ?_
                      refine wk_skip rfl rfl rfl rfl rfl hg7_8 rfl ?_
                      refine wk_skip rfl rfl rfl rfl rfl hg7_8 rfl ?_
                      refine wk_val rfl rfl (rv_pick_t rfl hg7_8 rfl) rfl rfl ?_
                      refine wk_nil ?_
                      refine wq_then ?_
                      refine wc_cond_t rfl rfl ?_
                      refine wc_seq ?_
                      refine wc_region ?_
                      refine wl_go rfl (wo_val rfl (rv_assign rfl) rfl rfl ?_)
                      refine wl_nil ?_
                      refine wq_then ?_
                      refine wc_ret ?_
                      refine wq_then_ret ?_
                      refine wq_in_ret ?_
                      refine wq_then_ret ?_
                      refine wq_then_ret ?_
                      refine wq_in_ret ?_
                      refine wq_then_ret ?_
                      refine wq_ret1 rfl rfl (rr_tmp rfl) (fun w9 hs9 => ?_)
                      first | (rw [okE_no hbad]; exact ⟨rfl, hs9.below rfl⟩) | (rw [okE_yes hgood]; exact ⟨rfl, hs9.below rfl⟩)
                    · skip
                      have hq9 : (r.length : Int) ≤ 9 := by simpa using hg7_8
                      refine wk_want rfl rfl rfl rfl rfl hg7_8 rfl (rv_load_own_row rfl) rfl rfl ?_
                      refine wk_want rfl rfl rfl rfl rfl hg7_8 rfl (rv_move rfl) rfl rfl ?_
                      refine wk_want rfl rfl rfl rfl rfl hg7_8 rfl (rv_indexAddr rfl rfl (by omega)) rfl rfl ?_
                      refine wk_want rfl rfl rfl rfl rfl hg7_8 rfl (rv_load_cell rfl (fun w4 hs4 => hcell1 w4 (hs4.below rfl))) rfl rfl ?_
                      refine wk_call_want rfl rfl rfl rfl rfl hg7_8 rfl rfl (enters_of Try.func182 (by kernel_rfl) rfl) rfl rfl rfl (fun w hs => rmade_calls x g y w) ?_
                      refine wk_want rfl rfl rfl rfl rfl hg7_8 rfl (rv_not rfl) rfl rfl ?_
                      refine wk_val rfl rfl (rv_pick_f rfl hg7_8 rfl) rfl rfl ?_
                      refine wk_nil ?_
                      refine wq_then ?_
                      refine wc_cond rfl (fun hc78 => ?_) (fun hc78 => ?_)
                      · simp only [decide_eq_true_eq, decide_eq_false_iff_not, Bool.not_eq_true', Bool.not_eq_false', bne_iff_ne, beq_iff_eq, bne_eq_false_iff_eq, beq_eq_false_iff_ne, Int.not_lt, Int.not_le] at hc78
                        have hbad : ¬ Ok g := fun h => by have h2 := (fitsB_iff.1 (h.fit r hrm)).head; rw [hyd] at h2; rw [madeR_eq h.t0, madeB_iff.2 h2] at hc78; cases hc78
                        refine wc_seq ?_
                        refine wc_region ?_
                        refine wl_go rfl (wo_val rfl (rv_assign rfl) rfl rfl ?_)
                        refine wl_nil ?_
                        refine wq_then ?_
                        refine wc_ret ?_
                        refine wq_then_ret ?_
                        refine wq_in_ret ?_
                        refine wq_then_ret ?_
                        refine wq_then_ret ?_
                        refine wq_in_ret ?_
                        refine wq_then_ret ?_
                        refine wq_ret1 rfl rfl (rr_tmp rfl) (fun w9 hs9 => ?_)
                        first | (rw [okE_no hbad]; exact ⟨rfl, hs9.below rfl⟩) | (rw [okE_yes hgood]; exact ⟨rfl, hs9.below rfl⟩)
                      · simp only [decide_eq_true_eq, decide_eq_false_iff_not, Bool.not_eq_true', Bool.not_eq_false', bne_iff_ne, beq_iff_eq, bne_eq_false_iff_eq, beq_eq_false_iff_ne, Int.not_lt, Int.not_le] at hc78
                        have hmy := madeB_iff.1 (show madeB g y = true by rw [← madeR_eq c0]; exact hc78)
                        refine wc_skip ?_
                        refine wq_then ?_
                        refine wc_seq ?_
                        refine wc_region ?_
                        refine wl_go rfl (wo_val rfl (rv_assign rfl) rfl rfl ?_)
                        refine wl_nil ?_
                        refine wq_then ?_
                        refine wc_block ?_
                        refine wc_loop (fun m l S => ∃ (j : Nat) (w1 : World), 1 ≤ j ∧ j ≤ r.length ∧ (∀ y ∈ (r.take j).drop 1, 0 ≤ y ∧ y < (g.names.length : Int)) ∧ m = r.length - j ∧ l = [(1, .pointer (some ⟨b1, 0, none⟩)), (3, iv (k : Int)), (4, .slice (some ⟨g1, o1, none⟩) r.length d), (5, iv (j : Int))] ∧ S = ⟨w, G0, w1, [⟨b1, .cells (gC x g).toArray 60 (0, 0)⟩]⟩) ⟨_, _, ⟨1, _, Nat.le_refl _, hpos, (by intro y hy; rw [List.drop_eq_nil_of_le (by rw [List.length_take]; omega)] at hy; cases hy), rfl, rfl, rfl⟩, by repeat (first | exact sub_nil | refine sub_cons rfl ?_)⟩ ?_
                        intro m l S hJ
                        obtain ⟨j, w1, hj1, hj, hrest, rfl, rfl, rfl⟩ := hJ
                        refine wc_seq ?_
                        refine wc_seq ?_
                        refine wc_region ?_
                        refine wl_go rfl (wo_val rfl (rv_move rfl) rfl rfl ?_)
                        refine wl_go rfl (wo_val rfl (rv_move rfl) rfl rfl ?_)
                        refine wl_go rfl (wo_val rfl (rv_len rfl) rfl rfl ?_)
                        refine wl_go rfl (wo_val rfl (rv_cmp_i rfl rfl rfl) rfl rfl ?_)
                        refine wl_nil ?_
                        refine wq_then ?_
                        refine wc_cond rfl (fun hc82 => ?_) (fun hc82 => ?_)
                        · simp only [decide_eq_true_eq, decide_eq_false_iff_not, Bool.not_eq_true', Bool.not_eq_false', bne_iff_ne, beq_iff_eq, bne_eq_false_iff_eq, beq_eq_false_iff_ne, Int.not_lt, Int.not_le] at hc82
                          obtain ⟨z, hz⟩ := getE (l := r) (i := j) (by omega)
                          obtain ⟨_, _, ez, hcz⟩ := hrow.read (map_get hz)
                          cases ez
                          refine wc_skip ?_
                          refine wq_then ?_
                          refine wc_seq ?_
                          refine wc_block ?_
                          refine wc_seq ?_
                          refine wc_region_quiet (by kernel_rfl) (by kernel_rfl) ?_
                          refine wk_val rfl rfl (rv_move rfl) rfl rfl ?_
                          refine wk_val rfl rfl (rv_move rfl) rfl rfl ?_
                          refine wk_val rfl rfl (rv_indexAddr rfl rfl (by omega)) rfl rfl ?_
                          refine wk_val rfl rfl (rv_load_cell rfl (fun w4 hs4 => hcz w4 (hs4.below rfl))) rfl rfl ?_
                          refine wk_val rfl rfl (rv_cmp_i rfl rfl rfl) rfl rfl ?_
                          refine wk_val rfl rfl (rv_move rfl) rfl rfl ?_
                          refine wk_split (d := 90) rfl true (fun hg12_5 => ?_) (fun hg12_5 => ?_)
                          · skip
                            have hq : z < 0 := by simpa using hg12_5
                            have hbad : ¬ Ok g := fun h => by have := (h.fits hrm).all z (List.mem_of_getElem? hz); omega
                            refine wk_skip rfl rfl rfl rfl rfl hg12_5 rfl ?_
                            refine wk_skip rfl rfl rfl rfl rfl hg12_5 rfl ?_
                            refine wk_skip rfl rfl rfl rfl rfl hg12_5 rfl ?_
                            refine wk_skip rfl rfl rfl rfl rfl hg12_5 rfl ?_
                            refine wk_skip rfl rfl rfl rfl rfl hg12_5 rfl ?_
                            refine wk_skip rfl rfl rfl rfl rfl hg12_5 rfl ?_
                            refine wk_skip rfl rfl rfl rfl rfl hg12_5 rfl ?_
                            refine wk_skip rfl rfl rfl rfl rfl hg12_5 rfl ?_
                            refine wk_val rfl rfl (rv_pick_t rfl hg12_5 rfl) rfl rfl ?_
                            refine wk_nil ?_
                            refine wq_then ?_
                            refine wc_cond_t rfl rfl ?_
                            refine wc_seq ?_
                            refine wc_region ?_
                            refine wl_go rfl (wo_val rfl (rv_assign rfl) rfl rfl ?_)
                            refine wl_nil ?_
                            refine wq_then ?_
                            refine wc_ret ?_
                            refine wq_in_ret ?_
                            refine wq_then_ret ?_
                            refine wq_then_ret ?_
                            refine wq_in_ret ?_
                            refine wq_in_ret ?_
                            refine wq_then_ret ?_
                            refine wq_then_ret ?_
                            refine wq_in_ret ?_
                            refine wq_then_ret ?_
                            refine wq_ret1 rfl rfl (rr_tmp rfl) (fun w9 hs9 => ?_)
                            first | (rw [okE_no hbad]; exact ⟨rfl, hs9.below rfl⟩) | (rw [okE_yes hgood]; exact ⟨rfl, hs9.below rfl⟩)
                          · skip
                            have hz0 : 0 ≤ z := by simpa using hg12_5
                            refine wk_want rfl rfl rfl rfl rfl hg12_5 rfl (rv_move rfl) rfl rfl ?_
                            refine wk_want rfl rfl rfl rfl rfl hg12_5 rfl (rv_move rfl) rfl rfl ?_
                            refine wk_want rfl rfl rfl rfl rfl hg12_5 rfl (rv_indexAddr rfl rfl (by omega)) rfl rfl ?_
                            refine wk_want rfl rfl rfl rfl rfl hg12_5 rfl (rv_load_cell rfl (fun w4 hs4 => hcz w4 (hs4.below rfl))) rfl rfl ?_
                            refine wk_want rfl rfl rfl rfl rfl hg12_5 rfl (rv_fieldAddr0 rfl) rfl rfl ?_
                            refine wk_want rfl rfl rfl rfl rfl hg12_5 rfl (rv_load_own rfl rfl) rfl rfl ?_
                            refine wk_want rfl rfl rfl rfl rfl hg12_5 rfl (rv_len rfl) rfl rfl ?_
                            refine wk_want rfl rfl rfl rfl rfl hg12_5 rfl (rv_cmp_i rfl rfl rfl) rfl rfl ?_
                            refine wk_val rfl rfl (rv_pick_f rfl hg12_5 rfl) rfl rfl ?_
                            refine wk_nil ?_
                            refine wq_then ?_
                            refine wc_cond rfl (fun hc99 => ?_) (fun hc99 => ?_)
                            · simp only [decide_eq_true_eq, decide_eq_false_iff_not, Bool.not_eq_true', Bool.not_eq_false', bne_iff_ne, beq_iff_eq, bne_eq_false_iff_eq, beq_eq_false_iff_ne, Int.not_lt, Int.not_le] at hc99
                              have hbad : ¬ Ok g := fun h => by have := (h.fits hrm).all z (List.mem_of_getElem? hz); omega
                              refine wc_seq ?_
                              refine wc_region ?_
                              refine wl_go rfl (wo_val rfl (rv_assign rfl) rfl rfl ?_)
                              refine wl_nil ?_
                              refine wq_then ?_
                              refine wc_ret ?_
                              refine wq_in_ret ?_
                              refine wq_then_ret ?_
                              refine wq_then_ret ?_
                              refine wq_in_ret ?_
                              refine wq_in_ret ?_
                              refine wq_then_ret ?_
                              refine wq_then_ret ?_
                              refine wq_in_ret ?_
                              refine wq_then_ret ?_
                              refine wq_ret1 rfl rfl (rr_tmp rfl) (fun w9 hs9 => ?_)
                              first | (rw [okE_no hbad]; exact ⟨rfl, hs9.below rfl⟩) | (rw [okE_yes hgood]; exact ⟨rfl, hs9.below rfl⟩)
                            · simp only [decide_eq_true_eq, decide_eq_false_iff_not, Bool.not_eq_true', Bool.not_eq_false', bne_iff_ne, beq_iff_eq, bne_eq_false_iff_eq, beq_eq_false_iff_ne, Int.not_lt, Int.not_le] at hc99
                              refine wc_skip ?_
                              refine wq_in_normal ?_
                              refine wq_then ?_
                              refine wc_region ?_
                              refine wl_go rfl (wo_val rfl (rv_move rfl) rfl rfl ?_)
                              refine wl_go rfl (wo_val rfl (rv_add rfl rfl (by omega)) rfl rfl ?_)
                              refine wl_go rfl (wo_val rfl (rv_assign rfl) rfl rfl ?_)
                              refine wl_nil ?_
                              refine wq_round ⟨_, _, ⟨j + 1, _, by omega, by omega, ?_, rfl, rfl, rfl⟩, by omega, by repeat (first | exact sub_nil | refine sub_cons rfl ?_)⟩
                              intro y2 hy2
                              rw [List.take_add_one, hz, List.drop_append_of_le_length (by simp; omega)] at hy2
                              rcases List.mem_append.1 hy2 with h | h
                              · exact hrest y2 h
                              · simp at h; subst h; exact ⟨hz0, by omega⟩
                        · simp only [decide_eq_true_eq, decide_eq_false_iff_not, Bool.not_eq_true', Bool.not_eq_false', bne_iff_ne, beq_iff_eq, bne_eq_false_iff_eq, beq_eq_false_iff_ne, Int.not_lt, Int.not_le] at hc82
                          obtain rfl : j = r.length := by omega
                          simp only [List.take_length] at hrest
                          have hfit : fitsB g r = true := fitsB_iff.2 ⟨hpos, by omega, by rw [hyd]; exact hmy, hrest⟩
                          refine wc_exit ?_
                          refine wq_then_exit ?_
                          refine wq_then_exit ?_
                          refine wq_in_here ?_
                          refine wq_in_normal ?_
                          refine wq_then ?_
                          refine wc_region ?_
                          refine wl_go rfl (wo_val rfl (rv_move rfl) rfl rfl ?_)
                          refine wl_go rfl (wo_val rfl (rv_add rfl rfl (by omega)) rfl rfl ?_)
                          refine wl_go rfl (wo_val rfl (rv_assign rfl) rfl rfl ?_)
                          refine wl_nil ?_
                          refine wq_round ⟨_, _, ⟨k + 1, _, by omega, ?_, rfl, rfl, rfl⟩, by omega, by repeat (first | exact sub_nil | refine sub_cons rfl ?_)⟩
                          intro r2 hr2
                          rw [List.take_add_one, hr] at hr2
                          rcases List.mem_append.1 hr2 with h | h
                          · exact hno r2 h
                          · simp at h; subst h; exact hfit
                · simp only [decide_eq_true_eq, decide_eq_false_iff_not, Bool.not_eq_true', Bool.not_eq_false', bne_iff_ne, beq_iff_eq, bne_eq_false_iff_eq, beq_eq_false_iff_ne, Int.not_lt, Int.not_le] at hc55
                  obtain rfl : k = g.rules.length := by omega
                  simp only [List.take_length] at hno
                  refine wc_exit ?_
                  refine wq_then_exit ?_
                  refine wq_then_exit ?_
                  refine wq_in_here ?_
                  refine wq_then ?_
                  refine wc_seq ?_
                  refine wc_seq ?_
                  refine wc_region ?_
                  refine wl_go rfl (wo_val rfl (rv_fieldAddr rfl) rfl rfl ?_)
                  refine wl_go rfl (wo_val rfl (rv_load_own rfl rfl) rfl rfl ?_)
                  refine wl_go rfl (wo_val rfl (rv_assign rfl) rfl rfl ?_)
                  refine wl_nil ?_
                  refine wq_then ?_
                  refine wc_block ?_
                  refine wc_loop (fun m l S => ∃ (k : Nat) (w1 : World), g.terms + (k : Int) ≤ (g.names.length : Int) ∧ (∀ s : Int, g.terms ≤ s → s < g.terms + (k : Int) → ∃ r ∈ g.rules, r.headD 0 = s) ∧ m = g.names.length - k ∧ l = [(1, .pointer (some ⟨b1, 0, none⟩)), (6, iv (g.terms + (k : Int)))] ∧ S = ⟨w, G0, w1, [⟨b1, .cells (gC x g).toArray 60 (0, 0)⟩]⟩) ⟨_, _, ⟨0, _, by omega, fun s h1 h2 => by omega, rfl, by rw [Int.natCast_zero, Int.add_zero], rfl⟩, by repeat (first | exact sub_nil | refine sub_cons rfl ?_)⟩ ?_
                  intro m l S hJ
                  obtain ⟨k, w1, hk, hall, rfl, rfl, rfl⟩ := hJ
                  refine wc_seq ?_
                  refine wc_seq ?_
                  refine wc_region ?_
                  refine wl_go rfl (wo_val rfl (rv_move rfl) rfl rfl ?_)
                  refine wl_go rfl (wo_val rfl (rv_fieldAddr0 rfl) rfl rfl ?_)
                  refine wl_go rfl (wo_val rfl (rv_load_own rfl rfl) rfl rfl ?_)
                  refine wl_go rfl (wo_val rfl (rv_len rfl) rfl rfl ?_)
                  refine wl_go rfl (wo_val rfl (rv_cmp_i rfl rfl rfl) rfl rfl ?_)
                  refine wl_nil ?_
                  refine wq_then ?_
                  refine wc_cond rfl (fun hc106 => ?_) (fun hc106 => ?_)
                  · simp only [decide_eq_true_eq, decide_eq_false_iff_not, Bool.not_eq_true', Bool.not_eq_false', bne_iff_ne, beq_iff_eq, bne_eq_false_iff_eq, beq_eq_false_iff_ne, Int.not_lt, Int.not_le] at hc106
                    refine wc_skip ?_
                    refine wq_then ?_
                    refine wc_seq ?_
                    refine wc_block ?_
                    refine wc_seq ?_
                    refine wc_region ?_
                    refine wl_go rfl (wo_val rfl (rv_load_own_row rfl) rfl rfl ?_)
                    refine wl_go rfl (wo_val rfl (rv_move rfl) rfl rfl ?_)
                    refine wl_go rfl (wo_call (R := fun w2 v w3 => ∃ p c, v = .slice p (byL g.rules (g.terms + (k : Int))).length c) rfl rfl (enters_of Try.func141 (by kernel_rfl) rfl) rfl rfl rfl (fun w4 hs4 => (rby_calls x g (g.terms + (k : Int)) w4 (hg.below (hs4.below rfl)) (by omega)).mono fun e w' h => let ⟨v, h1, h2, h3⟩ := h; let ⟨p, c, h4, _⟩ := rv_ofn h2; ⟨v, h1, ⟨p, c, h4⟩, h3⟩) (fun w2b vb w3b hs2b hvb hb2b hm2b => ?_))
                    obtain ⟨pb, cb, rfl⟩ := hvb
                    refine wl_go rfl (wo_val rfl (rv_len rfl) rfl rfl ?_)
                    refine wl_go rfl (wo_val rfl (rv_cmp_i rfl rfl rfl) rfl rfl ?_)
                    refine wl_nil ?_
                    refine wq_then ?_
                    refine wc_cond rfl (fun hc113 => ?_) (fun hc113 => ?_)
                    · simp only [decide_eq_true_eq, decide_eq_false_iff_not, Bool.not_eq_true', Bool.not_eq_false', bne_iff_ne, beq_iff_eq, bne_eq_false_iff_eq, beq_eq_false_iff_ne, Int.not_lt, Int.not_le] at hc113
                      have hbn : byL g.rules (g.terms + (k : Int)) = [] := List.eq_nil_of_length_eq_zero (by omega)
                      have hbad : ¬ Ok g := fun h => by
                        obtain ⟨r, hr, hh⟩ := h.each (g.terms + (k : Int)) (by omega) (by omega)
                        exact byL_none.1 hbn r hr ((head_headD (h.fits hr).pos).2 hh)
                      refine wc_seq ?_
                      refine wc_region ?_
                      refine wl_go rfl (wo_val rfl (rv_assign rfl) rfl rfl ?_)
                      refine wl_nil ?_
                      refine wq_then ?_
                      refine wc_ret ?_
                      refine wq_in_ret ?_
                      refine wq_then_ret ?_
                      refine wq_then_ret ?_
                      refine wq_in_ret ?_
                      refine wq_then_ret ?_
                      refine wq_ret1 rfl rfl (rr_tmp rfl) (fun w9 hs9 => ?_)
                      first | (rw [okE_no hbad]; exact ⟨rfl, hs9.below rfl⟩) | (rw [okE_yes hgood]; exact ⟨rfl, hs9.below rfl⟩)
                    · simp only [decide_eq_true_eq, decide_eq_false_iff_not, Bool.not_eq_true', Bool.not_eq_false', bne_iff_ne, beq_iff_eq, bne_eq_false_iff_eq, beq_eq_false_iff_ne, Int.not_lt, Int.not_le] at hc113
                      have hbn : byL g.rules (g.terms + (k : Int)) ≠ [] := fun e => by rw [e] at hc113; exact hc113 rfl
                      obtain ⟨rk, hrk, hhk⟩ : ∃ r ∈ g.rules, r.headD 0 = g.terms + (k : Int) := by
                        apply Classical.byContradiction
                        intro hno2
                        refine hbn (byL_none.2 fun r hr hh => hno2 ⟨r, hr, (head_headD (fitsB_iff.1 (hno r hr)).pos).1 hh⟩)
                      refine wc_skip ?_
                      refine wq_in_normal ?_
                      refine wq_then ?_
                      refine wc_region ?_
                      refine wl_go rfl (wo_val rfl (rv_move rfl) rfl rfl ?_)
                      refine wl_go rfl (wo_val rfl (rv_add rfl rfl (by omega)) rfl rfl ?_)
                      refine wl_go rfl (wo_val rfl (rv_assign rfl) rfl rfl ?_)
                      refine wl_nil ?_
                      refine wq_round ⟨_, [(1, .pointer (some ⟨b1, 0, none⟩)), (6, iv (g.terms + (k : Int) + 1))], ⟨k + 1, _, by omega, fun s h1 h2 => ?_, rfl, ?_, rfl⟩, by omega, by repeat (first | exact sub_nil | refine sub_cons rfl ?_)⟩
                      · by_cases e : s = g.terms + (k : Int)
                        · exact ⟨rk, hrk, hhk.trans e.symm⟩
                        · exact hall s h1 (by omega)
                      · rw [show g.terms + (k : Int) + 1 = g.terms + ((k + 1 : Nat) : Int) by omega]
                  · simp only [decide_eq_true_eq, decide_eq_false_iff_not, Bool.not_eq_true', Bool.not_eq_false', bne_iff_ne, beq_iff_eq, bne_eq_false_iff_eq, beq_eq_false_iff_ne, Int.not_lt, Int.not_le] at hc106
                    have hgood : Ok g := ⟨c0, c1, c2, by omega, by omega, by omega, c6, hno, fun s h1 h2 => hall s h1 (by omega)⟩
                    refine wc_exit ?_
                    refine wq_then_exit ?_
                    refine wq_then_exit ?_
                    refine wq_in_here ?_
                    refine wq_then ?_
                    refine wc_seq ?_
                    refine wc_region ?_
                    refine wl_go rfl (wo_val rfl (rv_assign rfl) rfl rfl ?_)
                    refine wl_nil ?_
                    refine wq_then ?_
                    refine wc_ret ?_
                    refine wq_ret1 rfl rfl (rr_tmp rfl) (fun w9 hs9 => ?_)
                    first | (rw [okE_no hbad]; exact ⟨rfl, hs9.below rfl⟩) | (rw [okE_yes hgood]; exact ⟨rfl, hs9.below rfl⟩)
theorem rright_calls (x : GS) (g : Gr) (w : World) (hg : Gm w x g) : Calls Try.prog 183 #[.agg (gC x g).toArray] w fun e w' => e = .returned (.bool (okB g)) ∧ Below w.heap.size w w' := by
  rw [← okE_eq]
  refine calls_start Try.func183 rfl (N := 6) rfl rfl _ (St.start _) rfl ?_
  refine wc_seq ?_
  refine wc_region ?_
  refine wl_go rfl (wo_box rfl rfl rfl rfl rfl (fun b1 hb1 => ?_))
  refine wl_go rfl (wo_val rfl (rv_assign rfl) rfl rfl ?_)
  refine wl_nil ?_
  refine wq_then ?_
  refine wc_seq ?_
  refine wc_region ?_
  refine wl_go rfl (wo_val rfl (rv_load_own_row rfl) rfl rfl ?_)
  refine wl_go rfl (wo_call (R := fun _ v _ => v = _) rfl rfl (enters_of Try.func137 (by kernel_rfl) rfl) rfl rfl rfl (fun w4 hs4 => (rcheck_calls x g w4 (hg.below (hs4.below rfl))).mono fun e w' h => ⟨_, h.1, rfl, h.2⟩) (fun w2 v w3 hs2 hv hb2 hm2 => ?_))
  subst hv
  refine wl_go rfl (wo_val rfl (rv_cmp_i rfl rfl rfl) rfl rfl ?_)
  refine wl_go rfl (wo_val rfl (rv_assign rfl) rfl rfl ?_)
  refine wl_nil ?_
  refine wq_then ?_
  refine wc_ret ?_
  refine wq_ret1 rfl rfl (rr_tmp rfl) (fun w9 hs9 => ?_)
  exact ⟨rfl, hs9.below rfl⟩
end Go.Proofs.Ytlppkbfkajionaa.Cm
