/- The walks of grammars, the reference: Once, Is. -/
import Derived.Test.YtlppkbfkajionaaCmU
namespace Go.Proofs.Ytlppkbfkajionaa.Cm
open Go Go.RowKit Gw Go.Shelf
set_option linter.unusedSimpArgs false
set_option linter.unusedVariables false
set_option linter.unusedSectionVars false
theorem idx_first {α : Type} [BEq α] [LawfulBEq α] {acc : List α} {r : α} {i : Nat} (h : acc[i]? = some r) (hb : ∀ q ∈ acc.take i, q ≠ r) : acc.contains r = true ∧ acc.idxOf r = i := by
  refine ⟨by simpa using List.mem_of_getElem? h, ?_⟩
  induction acc generalizing i with
  | nil => simp at h
  | cons a l ih =>
    cases i with
    | zero => simp at h; subst h; simp [List.idxOf_cons]
    | succ i =>
      have ha : a ≠ r := hb a (by simp)
      rw [List.idxOf_cons, show (a == r) = false by simpa using ha]
      show List.idxOf r l + 1 = i + 1
      rw [ih (by simpa using h) (fun q hq => hb q (by simp [hq]))]
theorem idx_last {α : Type} [BEq α] [LawfulBEq α] {acc : List α} {r : α} (h : ∀ q ∈ acc, q ≠ r) : acc.contains r = false ∧ (acc ++ [r]).idxOf r = acc.length := by
  have hn : r ∉ acc := fun hm => h r hm rfl
  refine ⟨by simpa using hn, ?_⟩
  rw [List.idxOf_append, if_neg hn]; simp
theorem take_ne {α : Type} {acc : List α} {r q : α} {i : Nat} (hq : acc[i]? = some q) (h : ∀ y ∈ acc.take i, y ≠ r) (hne : q ≠ r) : ∀ y ∈ acc.take (i + 1), y ≠ r := fun y hy => by
  rw [List.take_add_one, hq] at hy
  rcases List.mem_append.1 hy with hy | hy
  · exact h y hy
  · simp at hy; subst hy; exact hne
def isR (g : Gr) : Bool := decide (usefulE g = 0) && (decide (usefulG g = g) && decide (onceG g = g))
set_option maxHeartbeats 2000000 in
theorem ronce_calls (x : GS) (g : Gr) (w : World) (hg : Gm w x g) : Calls Try.prog 91 #[.agg (gC x g).toArray] w fun e w' => ∃ x1 v, e = .returned (.tuple #[.agg (gC x1 (onceG g)).toArray, v]) ∧ Gm w' x1 (onceG g) ∧ w'.ownsRow w.heap.size 3 1 v (onceL g).length ((onceL g).map iv) ∧ Below w.heap.size w w' := by
  refine calls_start Try.func91 rfl (N := 68) rfl rfl _ (St.start _) rfl ?_
  refine wc_seq ?_
  refine wc_region ?_
  refine wl_go rfl (wo_box rfl rfl rfl rfl rfl (fun b1 hb1 => ?_))
  refine wl_go rfl (wo_alloc rfl rfl rfl (fun b2 hb2 => ?_))
  refine wl_go rfl (wo_val rfl (rv_assign rfl) rfl rfl ?_)
  refine wl_nil ?_
  refine wq_then ?_
  refine wc_seq ?_
  refine wc_seq ?_
  refine wc_region ?_
  refine wl_go rfl (wo_val rfl (rv_load_own_row rfl) rfl rfl ?_)
  refine wl_go rfl (wo_call (R := fun _ v _ => v = _) rfl rfl (enters_of Try.func137 (by kernel_rfl) rfl) rfl rfl rfl (fun w4 hs4 => (rcheck_calls x g w4 (hg.below (hs4.below rfl))).mono fun e w' h => ⟨_, h.1, rfl, h.2⟩) (fun w2 v w3 hs2 hv hb2 hm2 => ?_))
  subst hv
  refine wl_go rfl (wo_val rfl (rv_cmp_i rfl rfl rfl) rfl rfl ?_)
  refine wl_nil ?_
  refine wq_then ?_
  refine wc_cond rfl (fun hc12 => ?_) (fun hc12 => ?_)
  · simp only [decide_eq_true_eq, decide_eq_false_iff_not, Bool.not_eq_true', Bool.not_eq_false', bne_iff_ne, beq_iff_eq, bne_eq_false_iff_eq, beq_eq_false_iff_ne, Int.not_lt, Int.not_le] at hc12
    have hbad : okB g = false := by rw [← okE_eq]; simpa using hc12
    refine wc_seq ?_
    refine wc_region ?_
    refine wl_go rfl (wo_val rfl (rv_build [] (trivial)) rfl rfl ?_)
    refine wl_go rfl (wo_st rfl rfl rfl rfl rfl rfl rfl ?_)
    refine wl_go rfl (wo_val rfl (rv_assign rfl) rfl rfl ?_)
    refine wl_nil ?_
    refine wq_then ?_
    refine wc_ret ?_
    refine wq_then_ret ?_
    refine wq_ret2 rfl rfl (rr_row rfl) (rr_tmp rfl) (fun w9 hs9 => ?_)
    have e1 : onceG g = zeroG := by unfold onceG; rw [hbad]; rfl
    have e2 : onceL g = [] := by unfold onceL; rw [hbad]; rfl
    rw [e1, e2]
    exact ⟨zeroX, _, rfl, zero_gm _, World.ownsRow_nil _ _ _ _, hs9.below rfl⟩
  · simp only [decide_eq_true_eq, decide_eq_false_iff_not, Bool.not_eq_true', Bool.not_eq_false', bne_iff_ne, beq_iff_eq, bne_eq_false_iff_eq, beq_eq_false_iff_ne, Int.not_lt, Int.not_le] at hc12
    have hgood : okB g = true := by rw [← okE_eq]; simpa using hc12
    have hok := (okB_iff g).1 hgood
    have hr2 := hok.r2
    refine wc_skip ?_
    refine wq_then ?_
    refine wc_seq ?_
    refine wc_region ?_
    refine wl_go rfl (wo_val rfl (rv_load_own_row rfl) rfl rfl ?_)
    refine wl_go rfl (wo_alloc rfl rfl rfl (fun b4 hb4 => ?_))
    refine wl_go rfl (wo_st rfl rfl rfl rfl rfl rfl rfl ?_)
    refine wl_nil ?_
    refine wq_then ?_
    refine wc_seq ?_
    refine wc_region ?_
    refine wl_go rfl (wo_val rfl (rv_fieldAddr rfl) rfl rfl ?_)
    refine wl_go rfl (wo_st rfl rfl rfl rfl rfl rfl rfl ?_)
    refine wl_nil ?_
    refine wq_then ?_
    refine wc_seq ?_
    refine wc_region ?_
    refine wl_go rfl (wo_val rfl (rv_assign rfl) rfl rfl ?_)
    refine wl_nil ?_
    refine wq_then ?_
    refine wc_seq ?_
    refine wc_seq ?_
    refine wc_region ?_
    refine wl_go rfl (wo_val rfl (rv_assign rfl) rfl rfl ?_)
    refine wl_nil ?_
    refine wq_then ?_
    refine wc_block ?_
    have hH00 := ((Hp.nil ⟨w, G0, w3, [⟨b4, .cells ([.slice x.np g.names.length x.nc, iv g.terms, .slice x.tp g.tokens.length x.tc, .slice none 0 0, iv g.start] : List Value).toArray 60 (0, 0)⟩, ⟨b2, .cells ([.slice none 0 0, .int .i64 0, .slice none 0 0, .slice none 0 0, .int .i64 0] : List Value).toArray 60 (0, 0)⟩, ⟨b1, .cells (gC x g).toArray 60 (0, 0)⟩]⟩).none_ 50).none_ 3
    refine wc_loop (fun m l S => ∃ (k : Nat) (vn vr : Value) (vs : List Value) (w1 : World), k ≤ g.rules.length ∧ Vals w vs (onceF (g.rules.take k)).1 ∧ Hp ⟨w, G0, w1, [⟨b4, .cells ([.slice x.np g.names.length x.nc, iv g.terms, .slice x.tp g.tokens.length x.tc, vr, iv g.start] : List Value).toArray 60 (0, 0)⟩, ⟨b2, .cells ([.slice none 0 0, .int .i64 0, .slice none 0 0, .slice none 0 0, .int .i64 0] : List Value).toArray 60 (0, 0)⟩, ⟨b1, .cells (gC x g).toArray 60 (0, 0)⟩]⟩ [(3, vn, (onceF (g.rules.take k)).2.map iv), (50, vr, vs)] ∧ m = g.rules.length - k ∧ l = [(1, .pointer (some ⟨b1, 0, none⟩)), (2, .pointer (some ⟨b2, 0, none⟩)), (4, .pointer (some ⟨b4, 0, none⟩)), (5, vn), (6, iv (k : Int))] ∧ S = ⟨w, G0, w1, [⟨b4, .cells ([.slice x.np g.names.length x.nc, iv g.terms, .slice x.tp g.tokens.length x.tc, vr, iv g.start] : List Value).toArray 60 (0, 0)⟩, ⟨b2, .cells ([.slice none 0 0, .int .i64 0, .slice none 0 0, .slice none 0 0, .int .i64 0] : List Value).toArray 60 (0, 0)⟩, ⟨b1, .cells (gC x g).toArray 60 (0, 0)⟩]⟩) ⟨_, _, ⟨0, .slice none 0 0, .slice none 0 0, [], _, Nat.zero_le _, vals_nil w, hH00, rfl, rfl, rfl⟩, by repeat (first | exact sub_nil | refine sub_cons rfl ?_)⟩ ?_
    intro m l S hJ
    obtain ⟨k, vn, vr, vs, w1, hk, hvals, hH, rfl, rfl, rfl⟩ := hJ
    have hvr : w1.ownsRow w.heap.size 50 1 vr vs.length vs := (hH.row (50, vr, vs) (by simp)).own
    obtain ⟨pr, cr, rfl, _⟩ := rv_ofn hvr
    refine wc_seq ?_
    refine wc_seq ?_
    refine wc_region ?_
    refine wl_go rfl (wo_val rfl (rv_move rfl) rfl rfl ?_)
    refine wl_go rfl (wo_val rfl (rv_fieldAddr rfl) rfl rfl ?_)
    refine wl_go rfl (wo_val rfl (rv_load_own rfl rfl) rfl rfl ?_)
    refine wl_go rfl (wo_val rfl (rv_len rfl) rfl rfl ?_)
    refine wl_go rfl (wo_val rfl (rv_cmp_i rfl rfl rfl) rfl rfl ?_)
    refine wl_nil ?_
    refine wq_then ?_
    refine wc_cond rfl (fun hc20 => ?_) (fun hc20 => ?_)
    · simp only [decide_eq_true_eq, decide_eq_false_iff_not, Bool.not_eq_true', Bool.not_eq_false', bne_iff_ne, beq_iff_eq, bne_eq_false_iff_eq, beq_eq_false_iff_ne, Int.not_lt, Int.not_le] at hc20
      obtain ⟨r, hr⟩ := getE (l := g.rules) (i := k) (by omega)
      obtain ⟨g0, o0, q, d, hrp, hcell, hrow⟩ := hg.rules.read hr
      have hacc : (onceF (g.rules.take k)).1.length ≤ k := Nat.le_trans (onceF_len _).2 (List.length_take_le _ _)
      refine wc_skip ?_
      refine wq_then ?_
      refine wc_seq ?_
      refine wc_block ?_
      refine wc_seq ?_
      refine wc_region ?_
      refine wl_go rfl (wo_val rfl (rv_assign rfl) rfl rfl ?_)
      refine wl_nil ?_
      refine wq_then ?_
      refine wc_seq ?_
      refine wc_seq ?_
      refine wc_region ?_
      refine wl_go rfl (wo_val rfl (rv_assign rfl) rfl rfl ?_)
      refine wl_nil ?_
      refine wq_then ?_
      refine wc_block ?_
      refine wc_loop (fun m l S => ∃ (i : Nat) (at_ : Int) (w1 : World), i ≤ (onceF (g.rules.take k)).1.length ∧ ((at_ = -1 ∧ ∀ y ∈ (onceF (g.rules.take k)).1.take i, y ≠ r) ∨ ∃ i0 : Nat, i = i0 + 1 ∧ at_ = (i0 : Int) ∧ (onceF (g.rules.take k)).1[i0]? = some r ∧ ∀ y ∈ (onceF (g.rules.take k)).1.take i0, y ≠ r) ∧ Hp ⟨w, G0, w1, [⟨b4, .cells ([.slice x.np g.names.length x.nc, iv g.terms, .slice x.tp g.tokens.length x.tc, .slice pr vs.length cr, iv g.start] : List Value).toArray 60 (0, 0)⟩, ⟨b2, .cells ([.slice none 0 0, .int .i64 0, .slice none 0 0, .slice none 0 0, .int .i64 0] : List Value).toArray 60 (0, 0)⟩, ⟨b1, .cells (gC x g).toArray 60 (0, 0)⟩]⟩ [(3, vn, (onceF (g.rules.take k)).2.map iv), (50, .slice pr vs.length cr, vs)] ∧ m = (onceF (g.rules.take k)).1.length - i ∧ l = [(1, .pointer (some ⟨b1, 0, none⟩)), (2, .pointer (some ⟨b2, 0, none⟩)), (4, .pointer (some ⟨b4, 0, none⟩)), (5, vn), (6, iv (k : Int)), (7, iv at_), (8, iv (i : Int))] ∧ S = ⟨w, G0, w1, [⟨b4, .cells ([.slice x.np g.names.length x.nc, iv g.terms, .slice x.tp g.tokens.length x.tc, .slice pr vs.length cr, iv g.start] : List Value).toArray 60 (0, 0)⟩, ⟨b2, .cells ([.slice none 0 0, .int .i64 0, .slice none 0 0, .slice none 0 0, .int .i64 0] : List Value).toArray 60 (0, 0)⟩, ⟨b1, .cells (gC x g).toArray 60 (0, 0)⟩]⟩) ⟨_, _, ⟨0, -1, _, Nat.zero_le _, .inl ⟨rfl, by simp⟩, hH, rfl, rfl, rfl⟩, by repeat (first | exact sub_nil | refine sub_cons rfl ?_)⟩ ?_
      intro m l S hJ
      obtain ⟨i, at_, w1, hi, hfnd, hH, rfl, rfl, rfl⟩ := hJ
      refine wc_seq ?_
      refine wc_seq ?_
      refine wc_region ?_
      refine wl_go rfl (wo_val rfl (rv_move rfl) rfl rfl ?_)
      refine wl_go rfl (wo_val rfl (rv_fieldAddr rfl) rfl rfl ?_)
      refine wl_go rfl (wo_val rfl (rv_load_own rfl rfl) rfl rfl ?_)
      refine wl_go rfl (wo_val rfl (rv_len rfl) rfl rfl ?_)
      refine wl_go rfl (wo_val rfl (rv_cmp_i rfl rfl rfl) rfl rfl ?_)
      refine wl_go rfl (wo_val rfl (rv_move rfl) rfl rfl ?_)
      refine wl_split (d := 28) rfl true (fun hg11_5 => ?_) (fun hg11_5 => ?_)
      · skip
        have hil : (i : Int) < (vs.length : Int) := by simpa using hg11_5
        refine wl_want rfl rfl rfl rfl rfl hg11_5 (wo_val rfl (rv_move rfl) rfl rfl ?_)
        refine wl_want rfl rfl rfl rfl rfl hg11_5 (wo_val rfl (rv_cmp_i rfl rfl rfl) rfl rfl ?_)
        refine wl_go rfl (wo_val rfl (rv_pick_t rfl hg11_5 rfl) rfl rfl ?_)
        refine wl_nil ?_
        refine wq_then ?_
        refine wc_cond rfl (fun hc31 => ?_) (fun hc31 => ?_)
        · simp only [decide_eq_true_eq, decide_eq_false_iff_not, Bool.not_eq_true', Bool.not_eq_false', bne_iff_ne, beq_iff_eq, bne_eq_false_iff_eq, beq_eq_false_iff_ne, Int.not_lt, Int.not_le] at hc31
          obtain ⟨rq, hrq0⟩ := getE (l := (onceF (g.rules.take k)).1) (i := i) (by have := hvals.1; omega)
          obtain ⟨vi, hvi⟩ := getE (l := vs) (i := i) (by omega)
          obtain ⟨q2, d2, rfl, hrq⟩ := hvals.2 i vi rq hvi hrq0
          obtain ⟨g2, o2, rfl, _⟩ := (rv_slice_of (hH.row (50, .slice pr vs.length cr, vs) (by simp)).own).at_ i _ hvi
          have hbefi : ∀ y ∈ (onceF (g.rules.take k)).1.take i, y ≠ r := by
            rcases hfnd with ⟨_, h⟩ | ⟨i0, _, h, _⟩
            · exact h
            · omega
          refine wc_skip ?_
          refine wq_then ?_
          refine wc_seq ?_
          refine wc_block ?_
          refine wc_seq ?_
          refine wc_region_quiet (by kernel_rfl) (by kernel_rfl) ?_
          refine wk_val rfl rfl (rv_fieldAddr rfl) rfl rfl ?_
          refine wk_val rfl rfl (rv_load_own rfl rfl) rfl rfl ?_
          refine wk_val rfl rfl (rv_move rfl) rfl rfl ?_
          refine wk_val rfl rfl (rv_indexAddr rfl rfl (by omega)) rfl rfl ?_
          refine wk_val rfl rfl (rv_load_cell (v := .slice q2 rq.length d2) rfl (fun w4 hs4 => rw_cell (rw_conv (hH.row (50, .slice (some ⟨g2, o2, none⟩) vs.length cr, vs) (by simp)) rfl rfl) hvi hs4)) rfl rfl ?_
          refine wk_val rfl rfl (rv_fieldAddr rfl) rfl rfl ?_
          refine wk_val rfl rfl (rv_load_own (v := .slice (some ⟨g0, o0, none⟩) g.rules.length x.rc) rfl (by rw [← hrp]; rfl)) rfl rfl ?_
          refine wk_val rfl rfl (rv_move rfl) rfl rfl ?_
          refine wk_val rfl rfl (rv_indexAddr rfl rfl (by omega)) rfl rfl ?_
          refine wk_val rfl rfl (rv_load_cell rfl (fun w4 hs4 => hcell w4 (hs4.below rfl))) rfl rfl ?_
          refine wk_call rfl rfl rfl (enters_of Try.func140 (by kernel_rfl) rfl) rfl rfl rfl (fun w hs => rsame_calls q2 q d2 d rq r w (hrq.below (hs.below rfl)) (hrow.below (hs.below rfl))) ?_
          refine wk_val rfl rfl (rv_assign rfl) rfl rfl ?_
          refine wk_nil ?_
          refine wq_then ?_
          refine wc_seq ?_
          refine wc_region ?_
          refine wl_go rfl (wo_val rfl (rv_move rfl) rfl rfl ?_)
          refine wl_nil ?_
          refine wq_then ?_
          refine wc_cond rfl (fun hc45 => ?_) (fun hc45 => ?_)
          · skip
            obtain rfl : rq = r := of_decide_eq_true hc45
            refine wc_region ?_
            refine wl_go rfl (wo_val rfl (rv_move rfl) rfl rfl ?_)
            refine wl_go rfl (wo_val rfl (rv_assign rfl) rfl rfl ?_)
            refine wl_nil ?_
            refine wq_in_normal ?_
            refine wq_then ?_
            refine wc_region ?_
            refine wl_go rfl (wo_val rfl (rv_move rfl) rfl rfl ?_)
            refine wl_go rfl (wo_val rfl (rv_add rfl rfl (by omega)) rfl rfl ?_)
            refine wl_go rfl (wo_val rfl (rv_assign rfl) rfl rfl ?_)
            refine wl_nil ?_
            exact wq_round ⟨_, _, ⟨i + 1, (i : Int), _, by have := hvals.1; omega, .inr ⟨i, rfl, rfl, hrq0, hbefi⟩, hH, rfl, rfl, rfl⟩, by have := hvals.1; omega, by repeat (first | exact sub_nil | refine sub_cons rfl ?_)⟩
          · skip
            have hqne : rq ≠ r := of_decide_eq_false hc45
            refine wc_skip ?_
            refine wq_in_normal ?_
            refine wq_then ?_
            refine wc_region ?_
            refine wl_go rfl (wo_val rfl (rv_move rfl) rfl rfl ?_)
            refine wl_go rfl (wo_val rfl (rv_add rfl rfl (by omega)) rfl rfl ?_)
            refine wl_go rfl (wo_val rfl (rv_assign rfl) rfl rfl ?_)
            refine wl_nil ?_
            exact wq_round ⟨_, _, ⟨i + 1, at_, _, by have := hvals.1; omega, .inl ⟨by rcases hfnd with h | ⟨_, _, h, _⟩ <;> omega, take_ne hrq0 hbefi hqne⟩, hH, rfl, rfl, rfl⟩, by have := hvals.1; omega, by repeat (first | exact sub_nil | refine sub_cons rfl ?_)⟩
        · simp only [decide_eq_true_eq, decide_eq_false_iff_not, Bool.not_eq_true', Bool.not_eq_false', bne_iff_ne, beq_iff_eq, bne_eq_false_iff_eq, beq_eq_false_iff_ne, Int.not_lt, Int.not_le] at hc31
          refine wc_exit ?_
          refine wq_then_exit ?_
          refine wq_then_exit ?_
          refine wq_in_here ?_
          refine wq_then ?_
          refine wc_seq ?_
          refine wc_seq ?_
          refine wc_region ?_
          refine wl_go rfl (wo_val rfl (rv_move rfl) rfl rfl ?_)
          refine wl_go rfl (wo_val rfl (rv_cmp_i rfl rfl rfl) rfl rfl ?_)
          refine wl_nil ?_
          refine wq_then ?_
          refine wc_cond rfl (fun hc48 => ?_) (fun hc48 => ?_)
          · simp only [decide_eq_true_eq, decide_eq_false_iff_not, Bool.not_eq_true', Bool.not_eq_false', bne_iff_ne, beq_iff_eq, bne_eq_false_iff_eq, beq_eq_false_iff_ne, Int.not_lt, Int.not_le] at hc48
            have hall : ∀ y ∈ (onceF (g.rules.take k)).1, y ≠ r := by
              rcases hfnd with ⟨_, h⟩ | ⟨i0, _, h, _⟩
              · exact absurd h (by omega)
              · omega
            refine wc_seq ?_
            refine wc_region ?_
            refine wl_go rfl (wo_val rfl (rv_fieldAddr rfl) rfl rfl ?_)
            refine wl_go rfl (wo_val rfl (rv_load_own rfl rfl) rfl rfl ?_)
            refine wl_go rfl (wo_val rfl (rv_len rfl) rfl rfl ?_)
            refine wl_go rfl (wo_val rfl (rv_assign rfl) rfl rfl ?_)
            refine wl_nil ?_
            refine wq_then ?_
            refine wc_region_stage (by kernel_rfl) (by kernel_rfl) ?_
            refine ws_q (i := 0) rfl (by kernel_rfl) (rq_val rfl rfl rfl (rv_fieldAddr rfl)) rfl rfl ?_
            refine ws_q (i := 1) rfl (by kernel_rfl) (rq_val rfl rfl rfl (rv_load_own rfl rfl)) rfl rfl ?_
            refine ws_q (i := 2) rfl (by kernel_rfl) (rq_val rfl rfl rfl (rv_fieldAddr rfl)) rfl rfl ?_
            refine ws_q (i := 3) rfl (by kernel_rfl) (rq_val rfl rfl rfl (rv_load_own (v := .slice (some ⟨g0, o0, none⟩) g.rules.length x.rc) rfl (by rw [← hrp]; rfl))) rfl rfl ?_
            refine ws_q (i := 4) rfl (by kernel_rfl) (rq_val rfl rfl rfl (rv_move rfl)) rfl rfl ?_
            refine ws_q (i := 5) rfl (by kernel_rfl) (rq_val rfl rfl rfl (rv_indexAddr rfl rfl (by omega))) rfl rfl ?_
            refine ws_q (i := 6) rfl (by kernel_rfl) (rq_val rfl rfl rfl (rv_load_cell rfl (fun w4 hs4 => hcell w4 (hs4.below rfl)))) rfl rfl ?_
            refine ws_w 7 rfl (by kernel_rfl) (by kernel_rfl) rfl (wo_bs [_] rfl rfl rfl (⟨rfl, rfl, ⟨_, rfl, rfl⟩, trivial⟩) rfl rfl (fun b59 hb59 => ?_))
            refine wl_stage (pa_drop (by kernel_rfl) (pa_drop (by kernel_rfl) (pa_drop (by kernel_rfl) (pa_drop (by kernel_rfl) (pa_drop (by kernel_rfl) (pa_keep (rq_val rfl rfl rfl (rv_load_own rfl rfl)) (pa_keep (rq_val rfl rfl rfl (rv_fieldAddr rfl)) (pa_nil)))))))) ?_
            refine ws_w 8 rfl (by kernel_rfl) (by kernel_rfl) rfl (wo_append rfl rfl rfl rfl rfl [_, _, _] ⟨[_], rfl⟩ ((hH.row (50, .slice pr vs.length cr, vs) (by simp)).beside hb59 |>.ids rfl) (by have := hvals.1; have := (onceF_len (g.rules.take k)).2; have := List.length_take_le k g.rules; unfold maxLen; simp only; omega) rfl rfl rfl (fun v6 w6 hR6 hm6 ho6 => ?_))
            have hH6 := (hH.swap.first (own3 := _ :: _) hm6 (by intro y hy; rcases List.mem_cons.1 hy with rfl | hy; exact .inr hb59; exact .inl ⟨y, hy, rfl⟩) (rw_snoc hR6) ho6 (fun y hy => ⟨y, hy, rfl⟩)).swap
            have hR8 : w6.ownsRow w.heap.size 50 1 v6 (vs.length + 1) (vs ++ [.slice q r.length d]) := hR6.own
            obtain ⟨p6, c6, rfl, _⟩ := rv_ofn hR8
            refine wl_stage (pa_drop (by kernel_rfl) (pa_drop (by kernel_rfl) (pa_nil))) ?_
            refine ws_q (i := 9) rfl (by kernel_rfl) (rq_val rfl rfl rfl (rv_fieldAddr rfl)) rfl rfl ?_
            refine ws_w 10 rfl (by kernel_rfl) (by kernel_rfl) rfl (wo_st rfl rfl rfl rfl rfl rfl rfl ?_)
            have hH7 := hH6.ids (gs' := G0) (own' := [⟨b4, .cells ([.slice x.np g.names.length x.nc, iv g.terms, .slice x.tp g.tokens.length x.tc, .slice p6 (vs.length + 1) c6, iv g.start] : List Value).toArray 60 (0, 0)⟩, ⟨b2, .cells ([.slice none 0 0, .int .i64 0, .slice none 0 0, .slice none 0 0, .int .i64 0] : List Value).toArray 60 (0, 0)⟩, ⟨b1, .cells (gC x g).toArray 60 (0, 0)⟩]) rfl
            refine wl_stage (pa_drop (by kernel_rfl) (pa_nil)) ?_
            refine ws_nil (by kernel_rfl) ?_
            refine wq_then ?_
            refine wc_region ?_
            refine wl_go rfl (wo_val rfl (rv_move rfl) rfl rfl ?_)
            refine wl_go rfl (wo_val rfl (rv_move rfl) rfl rfl ?_)
            refine wl_go rfl (wo_bs [_] rfl rfl rfl (⟨rfl, rfl, ⟨_, rfl, rfl⟩, trivial⟩) rfl rfl (fun b64 hb64 => ?_))
            refine wl_go rfl (wo_append rfl rfl rfl rfl rfl [_, _, _] ⟨[_], rfl⟩ ((hH7.row (3, vn, (onceF (g.rules.take k)).2.map iv) (by simp)).beside hb64 |>.ids rfl) (by rw [List.length_map, (onceF_len _).1, List.length_take]; unfold maxLen; omega) rfl rfl rfl (fun v9 w9 hR9 hm9 ho9 => ?_))
            have hH9 := hH7.first (own3 := _ :: _) hm9 (by intro y hy; rcases List.mem_cons.1 hy with rfl | hy; exact .inr hb64; exact .inl ⟨y, hy, rfl⟩) (rw_snoc hR9) ho9 (fun y hy => ⟨y, hy, rfl⟩)
            refine wl_go rfl (wo_val rfl (rv_assign rfl) rfl rfl ?_)
            refine wl_nil ?_
            refine wq_in_normal ?_
            refine wq_then ?_
            refine wc_region ?_
            refine wl_go rfl (wo_val rfl (rv_move rfl) rfl rfl ?_)
            refine wl_go rfl (wo_val rfl (rv_add rfl rfl (by omega)) rfl rfl ?_)
            refine wl_go rfl (wo_val rfl (rv_assign rfl) rfl rfl ?_)
            refine wl_nil ?_
            have e1 : onceF (g.rules.take (k + 1)) = ((onceF (g.rules.take k)).1 ++ [r], (onceF (g.rules.take k)).2 ++ [((onceF (g.rules.take k)).1.length : Int)]) := by
              rw [List.take_add_one, hr, Option.toList_some, onceF_snoc]
              unfold onceS
              rw [(idx_last hall).1]
              show ((onceF (g.rules.take k)).1 ++ [r], _ ++ [((((onceF (g.rules.take k)).1 ++ [r]).idxOf r : Nat) : Int)]) = _
              rw [(idx_last hall).2]
            refine wq_round ⟨_, _, ⟨k + 1, _, _, vs ++ [.slice q r.length d], _, by omega, ?_, ?_, rfl, rfl, rfl⟩, by omega, by repeat (first | exact sub_nil | refine sub_cons rfl ?_)⟩
            · rw [e1]; exact vals_snoc hvals hrow
            · rw [e1, List.map_append]
              have h := hH9
              rw [show (vs.length : Int) = ((onceF (g.rules.take k)).1.length : Int) by rw [hvals.1]] at h
              exact h.ids rfl
          · simp only [decide_eq_true_eq, decide_eq_false_iff_not, Bool.not_eq_true', Bool.not_eq_false', bne_iff_ne, beq_iff_eq, bne_eq_false_iff_eq, beq_eq_false_iff_ne, Int.not_lt, Int.not_le] at hc48
            obtain ⟨i0, rfl, rfl, hi0, hbef⟩ : ∃ i0 : Nat, i = i0 + 1 ∧ at_ = (i0 : Int) ∧ (onceF (g.rules.take k)).1[i0]? = some r ∧ ∀ y ∈ (onceF (g.rules.take k)).1.take i0, y ≠ r := by
              rcases hfnd with ⟨h, _⟩ | h
              · omega
              · exact h
            refine wc_skip ?_
            refine wq_then ?_
            refine wc_region ?_
            refine wl_go rfl (wo_val rfl (rv_move rfl) rfl rfl ?_)
            refine wl_go rfl (wo_val rfl (rv_move rfl) rfl rfl ?_)
            refine wl_go rfl (wo_bs [_] rfl rfl rfl (⟨rfl, rfl, ⟨_, rfl, rfl⟩, trivial⟩) rfl rfl (fun b64 hb64 => ?_))
            refine wl_go rfl (wo_append rfl rfl rfl rfl rfl [_, _, _] ⟨[_], rfl⟩ ((hH.row (3, vn, (onceF (g.rules.take k)).2.map iv) (by simp)).beside hb64 |>.ids rfl) (by rw [List.length_map, (onceF_len _).1, List.length_take]; unfold maxLen; omega) rfl rfl rfl (fun v9 w9 hR9 hm9 ho9 => ?_))
            have hH9 := hH.first (own3 := _ :: _) hm9 (by intro y hy; rcases List.mem_cons.1 hy with rfl | hy; exact .inr hb64; exact .inl ⟨y, hy, rfl⟩) (rw_snoc hR9) ho9 (fun y hy => ⟨y, hy, rfl⟩)
            refine wl_go rfl (wo_val rfl (rv_assign rfl) rfl rfl ?_)
            refine wl_nil ?_
            refine wq_in_normal ?_
            refine wq_then ?_
            refine wc_region ?_
            refine wl_go rfl (wo_val rfl (rv_move rfl) rfl rfl ?_)
            refine wl_go rfl (wo_val rfl (rv_add rfl rfl (by omega)) rfl rfl ?_)
            refine wl_go rfl (wo_val rfl (rv_assign rfl) rfl rfl ?_)
            refine wl_nil ?_
            have e1 : onceF (g.rules.take (k + 1)) = ((onceF (g.rules.take k)).1, (onceF (g.rules.take k)).2 ++ [(i0 : Int)]) := by
              rw [List.take_add_one, hr, Option.toList_some, onceF_snoc]
              unfold onceS
              rw [(idx_first hi0 hbef).1]
              show ((onceF (g.rules.take k)).1, _ ++ [(((onceF (g.rules.take k)).1.idxOf r : Nat) : Int)]) = _
              rw [(idx_first hi0 hbef).2]
            refine wq_round ⟨_, _, ⟨k + 1, _, _, vs, _, by omega, ?_, ?_, rfl, rfl, rfl⟩, by omega, by repeat (first | exact sub_nil | refine sub_cons rfl ?_)⟩
            · rw [e1]; exact hvals
            · rw [e1, List.map_append]; exact hH9
      · skip
        have hil : (vs.length : Int) ≤ (i : Int) := by simpa using hg11_5
        refine wl_skip rfl rfl rfl rfl rfl hg11_5 rfl ?_
        refine wl_skip rfl rfl rfl rfl rfl hg11_5 rfl ?_
        refine wl_go rfl (wo_val rfl (rv_pick_f rfl hg11_5 rfl) rfl rfl ?_)
        refine wl_nil ?_
        refine wq_then ?_
        refine wc_cond_f rfl rfl ?_
        refine wc_exit ?_
        refine wq_then_exit ?_
        refine wq_then_exit ?_
        refine wq_in_here ?_
        refine wq_then ?_
        refine wc_seq ?_
        refine wc_seq ?_
        refine wc_region ?_
        refine wl_go rfl (wo_val rfl (rv_move rfl) rfl rfl ?_)
        refine wl_go rfl (wo_val rfl (rv_cmp_i rfl rfl rfl) rfl rfl ?_)
        refine wl_nil ?_
        refine wq_then ?_
        refine wc_cond rfl (fun hc48 => ?_) (fun hc48 => ?_)
        · simp only [decide_eq_true_eq, decide_eq_false_iff_not, Bool.not_eq_true', Bool.not_eq_false', bne_iff_ne, beq_iff_eq, bne_eq_false_iff_eq, beq_eq_false_iff_ne, Int.not_lt, Int.not_le] at hc48
          have hall : ∀ y ∈ (onceF (g.rules.take k)).1, y ≠ r := by
            rcases hfnd with ⟨_, h⟩ | ⟨i0, _, h, _⟩
            · exact by rw [List.take_of_length_le (by have := hvals.1; omega)] at h; exact h
            · omega
          refine wc_seq ?_
          refine wc_region ?_
          refine wl_go rfl (wo_val rfl (rv_fieldAddr rfl) rfl rfl ?_)
          refine wl_go rfl (wo_val rfl (rv_load_own rfl rfl) rfl rfl ?_)
          refine wl_go rfl (wo_val rfl (rv_len rfl) rfl rfl ?_)
          refine wl_go rfl (wo_val rfl (rv_assign rfl) rfl rfl ?_)
          refine wl_nil ?_
          refine wq_then ?_
          refine wc_region_stage (by kernel_rfl) (by kernel_rfl) ?_
          refine ws_q (i := 0) rfl (by kernel_rfl) (rq_val rfl rfl rfl (rv_fieldAddr rfl)) rfl rfl ?_
          refine ws_q (i := 1) rfl (by kernel_rfl) (rq_val rfl rfl rfl (rv_load_own rfl rfl)) rfl rfl ?_
          refine ws_q (i := 2) rfl (by kernel_rfl) (rq_val rfl rfl rfl (rv_fieldAddr rfl)) rfl rfl ?_
          refine ws_q (i := 3) rfl (by kernel_rfl) (rq_val rfl rfl rfl (rv_load_own (v := .slice (some ⟨g0, o0, none⟩) g.rules.length x.rc) rfl (by rw [← hrp]; rfl))) rfl rfl ?_
          refine ws_q (i := 4) rfl (by kernel_rfl) (rq_val rfl rfl rfl (rv_move rfl)) rfl rfl ?_
          refine ws_q (i := 5) rfl (by kernel_rfl) (rq_val rfl rfl rfl (rv_indexAddr rfl rfl (by omega))) rfl rfl ?_
          refine ws_q (i := 6) rfl (by kernel_rfl) (rq_val rfl rfl rfl (rv_load_cell rfl (fun w4 hs4 => hcell w4 (hs4.below rfl)))) rfl rfl ?_
          refine ws_w 7 rfl (by kernel_rfl) (by kernel_rfl) rfl (wo_bs [_] rfl rfl rfl (⟨rfl, rfl, ⟨_, rfl, rfl⟩, trivial⟩) rfl rfl (fun b59 hb59 => ?_))
          refine wl_stage (pa_drop (by kernel_rfl) (pa_drop (by kernel_rfl) (pa_drop (by kernel_rfl) (pa_drop (by kernel_rfl) (pa_drop (by kernel_rfl) (pa_keep (rq_val rfl rfl rfl (rv_load_own rfl rfl)) (pa_keep (rq_val rfl rfl rfl (rv_fieldAddr rfl)) (pa_nil)))))))) ?_
          refine ws_w 8 rfl (by kernel_rfl) (by kernel_rfl) rfl (wo_append rfl rfl rfl rfl rfl [_, _, _] ⟨[_], rfl⟩ ((hH.row (50, .slice pr vs.length cr, vs) (by simp)).beside hb59 |>.ids rfl) (by have := hvals.1; have := (onceF_len (g.rules.take k)).2; have := List.length_take_le k g.rules; unfold maxLen; simp only; omega) rfl rfl rfl (fun v6 w6 hR6 hm6 ho6 => ?_))
          have hH6 := (hH.swap.first (own3 := _ :: _) hm6 (by intro y hy; rcases List.mem_cons.1 hy with rfl | hy; exact .inr hb59; exact .inl ⟨y, hy, rfl⟩) (rw_snoc hR6) ho6 (fun y hy => ⟨y, hy, rfl⟩)).swap
          have hR8 : w6.ownsRow w.heap.size 50 1 v6 (vs.length + 1) (vs ++ [.slice q r.length d]) := hR6.own
          obtain ⟨p6, c6, rfl, _⟩ := rv_ofn hR8
          refine wl_stage (pa_drop (by kernel_rfl) (pa_drop (by kernel_rfl) (pa_nil))) ?_
          refine ws_q (i := 9) rfl (by kernel_rfl) (rq_val rfl rfl rfl (rv_fieldAddr rfl)) rfl rfl ?_
          refine ws_w 10 rfl (by kernel_rfl) (by kernel_rfl) rfl (wo_st rfl rfl rfl rfl rfl rfl rfl ?_)
          have hH7 := hH6.ids (gs' := G0) (own' := [⟨b4, .cells ([.slice x.np g.names.length x.nc, iv g.terms, .slice x.tp g.tokens.length x.tc, .slice p6 (vs.length + 1) c6, iv g.start] : List Value).toArray 60 (0, 0)⟩, ⟨b2, .cells ([.slice none 0 0, .int .i64 0, .slice none 0 0, .slice none 0 0, .int .i64 0] : List Value).toArray 60 (0, 0)⟩, ⟨b1, .cells (gC x g).toArray 60 (0, 0)⟩]) rfl
          refine wl_stage (pa_drop (by kernel_rfl) (pa_nil)) ?_
          refine ws_nil (by kernel_rfl) ?_
          refine wq_then ?_
          refine wc_region ?_
          refine wl_go rfl (wo_val rfl (rv_move rfl) rfl rfl ?_)
          refine wl_go rfl (wo_val rfl (rv_move rfl) rfl rfl ?_)
          refine wl_go rfl (wo_bs [_] rfl rfl rfl (⟨rfl, rfl, ⟨_, rfl, rfl⟩, trivial⟩) rfl rfl (fun b64 hb64 => ?_))
          refine wl_go rfl (wo_append rfl rfl rfl rfl rfl [_, _, _] ⟨[_], rfl⟩ ((hH7.row (3, vn, (onceF (g.rules.take k)).2.map iv) (by simp)).beside hb64 |>.ids rfl) (by rw [List.length_map, (onceF_len _).1, List.length_take]; unfold maxLen; omega) rfl rfl rfl (fun v9 w9 hR9 hm9 ho9 => ?_))
          have hH9 := hH7.first (own3 := _ :: _) hm9 (by intro y hy; rcases List.mem_cons.1 hy with rfl | hy; exact .inr hb64; exact .inl ⟨y, hy, rfl⟩) (rw_snoc hR9) ho9 (fun y hy => ⟨y, hy, rfl⟩)
          refine wl_go rfl (wo_val rfl (rv_assign rfl) rfl rfl ?_)
          refine wl_nil ?_
          refine wq_in_normal ?_
          refine wq_then ?_
          refine wc_region ?_
          refine wl_go rfl (wo_val rfl (rv_move rfl) rfl rfl ?_)
          refine wl_go rfl (wo_val rfl (rv_add rfl rfl (by omega)) rfl rfl ?_)
          refine wl_go rfl (wo_val rfl (rv_assign rfl) rfl rfl ?_)
          refine wl_nil ?_
          have e1 : onceF (g.rules.take (k + 1)) = ((onceF (g.rules.take k)).1 ++ [r], (onceF (g.rules.take k)).2 ++ [((onceF (g.rules.take k)).1.length : Int)]) := by
            rw [List.take_add_one, hr, Option.toList_some, onceF_snoc]
            unfold onceS
            rw [(idx_last hall).1]
            show ((onceF (g.rules.take k)).1 ++ [r], _ ++ [((((onceF (g.rules.take k)).1 ++ [r]).idxOf r : Nat) : Int)]) = _
            rw [(idx_last hall).2]
          refine wq_round ⟨_, _, ⟨k + 1, _, _, vs ++ [.slice q r.length d], _, by omega, ?_, ?_, rfl, rfl, rfl⟩, by omega, by repeat (first | exact sub_nil | refine sub_cons rfl ?_)⟩
          · rw [e1]; exact vals_snoc hvals hrow
          · rw [e1, List.map_append]
            have h := hH9
            rw [show (vs.length : Int) = ((onceF (g.rules.take k)).1.length : Int) by rw [hvals.1]] at h
            exact h.ids rfl
        · simp only [decide_eq_true_eq, decide_eq_false_iff_not, Bool.not_eq_true', Bool.not_eq_false', bne_iff_ne, beq_iff_eq, bne_eq_false_iff_eq, beq_eq_false_iff_ne, Int.not_lt, Int.not_le] at hc48
          obtain ⟨i0, rfl, rfl, hi0, hbef⟩ : ∃ i0 : Nat, i = i0 + 1 ∧ at_ = (i0 : Int) ∧ (onceF (g.rules.take k)).1[i0]? = some r ∧ ∀ y ∈ (onceF (g.rules.take k)).1.take i0, y ≠ r := by
            rcases hfnd with ⟨h, _⟩ | h
            · omega
            · exact h
          refine wc_skip ?_
          refine wq_then ?_
          refine wc_region ?_
          refine wl_go rfl (wo_val rfl (rv_move rfl) rfl rfl ?_)
          refine wl_go rfl (wo_val rfl (rv_move rfl) rfl rfl ?_)
          refine wl_go rfl (wo_bs [_] rfl rfl rfl (⟨rfl, rfl, ⟨_, rfl, rfl⟩, trivial⟩) rfl rfl (fun b64 hb64 => ?_))
          refine wl_go rfl (wo_append rfl rfl rfl rfl rfl [_, _, _] ⟨[_], rfl⟩ ((hH.row (3, vn, (onceF (g.rules.take k)).2.map iv) (by simp)).beside hb64 |>.ids rfl) (by rw [List.length_map, (onceF_len _).1, List.length_take]; unfold maxLen; omega) rfl rfl rfl (fun v9 w9 hR9 hm9 ho9 => ?_))
          have hH9 := hH.first (own3 := _ :: _) hm9 (by intro y hy; rcases List.mem_cons.1 hy with rfl | hy; exact .inr hb64; exact .inl ⟨y, hy, rfl⟩) (rw_snoc hR9) ho9 (fun y hy => ⟨y, hy, rfl⟩)
          refine wl_go rfl (wo_val rfl (rv_assign rfl) rfl rfl ?_)
          refine wl_nil ?_
          refine wq_in_normal ?_
          refine wq_then ?_
          refine wc_region ?_
          refine wl_go rfl (wo_val rfl (rv_move rfl) rfl rfl ?_)
          refine wl_go rfl (wo_val rfl (rv_add rfl rfl (by omega)) rfl rfl ?_)
          refine wl_go rfl (wo_val rfl (rv_assign rfl) rfl rfl ?_)
          refine wl_nil ?_
          have e1 : onceF (g.rules.take (k + 1)) = ((onceF (g.rules.take k)).1, (onceF (g.rules.take k)).2 ++ [(i0 : Int)]) := by
            rw [List.take_add_one, hr, Option.toList_some, onceF_snoc]
            unfold onceS
            rw [(idx_first hi0 hbef).1]
            show ((onceF (g.rules.take k)).1, _ ++ [(((onceF (g.rules.take k)).1.idxOf r : Nat) : Int)]) = _
            rw [(idx_first hi0 hbef).2]
          refine wq_round ⟨_, _, ⟨k + 1, _, _, vs, _, by omega, ?_, ?_, rfl, rfl, rfl⟩, by omega, by repeat (first | exact sub_nil | refine sub_cons rfl ?_)⟩
          · rw [e1]; exact hvals
          · rw [e1, List.map_append]; exact hH9
    · simp only [decide_eq_true_eq, decide_eq_false_iff_not, Bool.not_eq_true', Bool.not_eq_false', bne_iff_ne, beq_iff_eq, bne_eq_false_iff_eq, beq_eq_false_iff_ne, Int.not_lt, Int.not_le] at hc20
      obtain rfl : k = g.rules.length := by omega
      simp only [List.take_length] at hvals hH
      refine wc_exit ?_
      refine wq_then_exit ?_
      refine wq_then_exit ?_
      refine wq_in_here ?_
      refine wq_then ?_
      refine wc_seq ?_
      refine wc_region ?_
      refine wl_go rfl (wo_val rfl (rv_load_own_row rfl) rfl rfl ?_)
      refine wl_go rfl (wo_val rfl (rv_move rfl) rfl rfl ?_)
      refine wl_go rfl (wo_st rfl rfl rfl rfl rfl rfl rfl ?_)
      refine wl_go rfl (wo_val rfl (rv_assign rfl) rfl rfl ?_)
      refine wl_nil ?_
      refine wq_then ?_
      refine wc_ret ?_
      refine wq_ret2 rfl rfl (rr_row rfl) (rr_tmp rfl) (fun w9 hs9 => ?_)
      have e1 : onceG g = { g with rules := (onceF g.rules).1 } := by unfold onceG; rw [hgood]; rfl
      have e2 : onceL g = (onceF g.rules).2 := by unfold onceL; rw [hgood]; rfl
      rw [e1, e2]
      have hS := hH.ends hs9 rfl
      have hnum := (hS.row (3, vn, (onceF g.rules).2.map iv) (by simp)).own
      simp only [List.length_map] at hnum
      refine ⟨⟨x.np, x.nc, x.tp, x.tc, pr, cr⟩, vn, by first | (rw [hvals.1]; rfl) | rw [hvals.1], ⟨hg.names.below (hs9.below rfl), hg.tokens.below (hs9.below rfl), vals_rr (rv_slice_of (hS.row (50, .slice pr vs.length cr, vs) (by simp)).own) (hvals.same (fun k hk => (hs9.below rfl).block k hk))⟩, hnum, hs9.below rfl⟩
end Go.Proofs.Ytlppkbfkajionaa.Cm
