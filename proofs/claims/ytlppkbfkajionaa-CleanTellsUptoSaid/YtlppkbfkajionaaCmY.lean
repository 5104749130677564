/- The walks of grammars, the reference: the lines. -/
import Derived.Test.YtlppkbfkajionaaCmX
namespace Go.Proofs.Ytlppkbfkajionaa.Cm
open Go Go.RowKit Gw Go.Shelf
set_option linter.unusedSimpArgs false
set_option linter.unusedVariables false
set_option linter.unusedSectionVars false
def sp (l : List Bs) : Bs := l.flatMap fun t => [32] ++ t
def lR (g : Gr) (s : Int) : Nat → Bs
  | 0 => nmA g s ++ [32, 58]
  | i + 1 => lR g s i ++ sp (wAdd g i ((byL g.rules s).getD i 0))
theorem join_add (t : Bs) (r q : List Bs) : Lib.join ((t :: r) ++ q) [32] = Lib.join (t :: r) [32] ++ sp q := by
  rw [List.cons_append, Lib.join_cons, Lib.join_cons, List.append_assoc]
  congr 1
  unfold Lib.joinTail sp
  rw [List.map_append, List.flatten_append, List.flatMap_def]
theorem wK_cons (g : Gr) (s : Int) : ∀ i, ∃ r, wK g s i = nmA g s :: r
  | 0 => ⟨_, rfl⟩
  | i + 1 => by
    obtain ⟨r, h⟩ := wK_cons g s i
    exact ⟨r ++ _, by rw [wK, h]; rfl⟩
theorem join_lR (g : Gr) (s : Int) : ∀ i, Lib.join (wK g s i) [32] = lR g s i
  | 0 => by
    show Lib.join [nmA g s, [58]] [32] = _
    rw [Lib.join_cons]
    unfold Lib.joinTail lR
    simp
  | i + 1 => by
    obtain ⟨r, h⟩ := wK_cons g s i
    have ih := join_lR g s i
    rw [wK, lR, ← ih, h, join_add]
theorem line_eq (g : Gr) (s : Int) : line g s = lR g s (byL g.rules s).length ++ [59] := by
  unfold line; rw [join_lR]
theorem lR_len {g : Gr} (hs : Short g) (hl : ∀ r ∈ g.rules, r.length ≤ 9) (s : Int) (i : Nat) (hi : i ≤ 256) : (lR g s i).length ≤ 2600 * 1048577 := by
  rw [← join_lR]
  have h1 := join_len (wK g s i) 1048576 (wK_short hs s i)
  have h2 := wK_len hl s i
  have h3 : (wK g s i).length * 1048577 ≤ 2600 * 1048577 := Nat.mul_le_mul_right _ (by omega)
  exact Nat.le_trans h1 h3
theorem sp_len (l : List Bs) (h : ∀ t ∈ l, t.length ≤ 1048576) : (sp l).length ≤ l.length * 1048577 := by
  unfold sp
  induction l with
  | nil => simp
  | cons t r ih =>
    have h1 := h t (by simp)
    have h2 := ih (fun u hu => h u (by simp [hu]))
    have e : (t :: r).length * 1048577 = r.length * 1048577 + 1048577 := by rw [List.length_cons, Nat.succ_mul]
    rw [e, List.flatMap_cons, List.length_append, List.length_append]
    simp only [List.length_cons, List.length_nil]
    omega
set_option maxHeartbeats 4000000 in
theorem rrules_calls (x : GS) (g : Gr) (hsh : Short g) (w : World) (hg : Gm w x g) : Calls Try.prog 93 #[.agg (gC x g).toArray] w fun e w' => ∃ v, e = .returned v ∧ w'.ownsRow w.heap.size 9 1 v (linesF g).length ((linesF g).map sv) ∧ Below w.heap.size w w' := by
  refine calls_start Try.func93 rfl (N := 72) rfl rfl _ (St.start _) rfl ?_
  refine wc_seq ?_
  refine wc_region ?_
  refine wl_go rfl (wo_box rfl rfl rfl rfl rfl (fun b1 hb1 => ?_))
  refine wl_go rfl (wo_val rfl (rv_assign rfl) rfl rfl ?_)
  refine wl_nil ?_
  refine wq_then ?_
  refine wc_seq ?_
  refine wc_seq ?_
  refine wc_region ?_
  refine wl_go rfl (wo_val rfl (rv_load_own_row rfl) rfl rfl ?_)
  refine wl_go rfl (wo_call (R := fun _ v _ => v = _) rfl rfl (enters_of Try.func137 (by kernel_rfl) rfl) rfl rfl rfl (fun w4 hs4 => (rcheck_calls x g w4 (hg.below (hs4.below rfl))).mono fun e w' h => ⟨_, h.1, rfl, h.2⟩) (fun w2 v w3 hs2 hv hb2 hm2 => ?_))
  subst hv
  refine wl_go rfl (wo_val rfl (rv_cmp_i rfl rfl rfl) rfl rfl ?_)
  refine wl_nil ?_
  refine wq_then ?_
  refine wc_cond rfl (fun hc12 => ?_) (fun hc12 => ?_)
  · simp only [decide_eq_true_eq, decide_eq_false_iff_not, Bool.not_eq_true', Bool.not_eq_false', bne_iff_ne, beq_iff_eq, bne_eq_false_iff_eq, beq_eq_false_iff_ne, Int.not_lt, Int.not_le] at hc12
    have hbad : okB g = false := by rw [← okE_eq]; simpa using hc12
    refine wc_seq ?_
    refine wc_region ?_
    refine wl_go rfl (wo_val rfl (rv_assign rfl) rfl rfl ?_)
    refine wl_nil ?_
    refine wq_then ?_
    refine wc_ret ?_
    refine wq_then_ret ?_
    refine wq_ret1 rfl rfl (rr_tmp rfl) (fun w9 hs9 => ?_)
    have e1 : linesF g = [] := by unfold linesF; rw [hbad]; rfl
    rw [e1]
    exact ⟨_, rfl, World.ownsRow_nil _ _ _ _, hs9.below rfl⟩
  · simp only [decide_eq_true_eq, decide_eq_false_iff_not, Bool.not_eq_true', Bool.not_eq_false', bne_iff_ne, beq_iff_eq, bne_eq_false_iff_eq, beq_eq_false_iff_ne, Int.not_lt, Int.not_le] at hc12
    have hgood : okB g = true := by rw [← okE_eq]; simpa using hc12
    have hok := (okB_iff g).1 hgood
    have hnm := hok.nm
    have hr2 := hok.r2
    have ht0 := hok.t0
    have ht1 := hok.t1
    have hl9 : ∀ r ∈ g.rules, r.length ≤ 9 := fun r hr => (hok.fits hr).len
    refine wc_skip ?_
    refine wq_then ?_
    refine wc_seq ?_
    refine wc_region ?_
    refine wl_go rfl (wo_val rfl (rv_assign rfl) rfl rfl ?_)
    refine wl_nil ?_
    refine wq_then ?_
    refine wc_seq ?_
    refine wc_seq ?_
    refine wc_region ?_
    refine wl_go rfl (wo_val rfl (rv_fieldAddr rfl) rfl rfl ?_)
    refine wl_go rfl (wo_val rfl (rv_load_own rfl rfl) rfl rfl ?_)
    refine wl_go rfl (wo_val rfl (rv_assign rfl) rfl rfl ?_)
    refine wl_nil ?_
    refine wq_then ?_
    refine wc_block ?_
    have hH00 := (Hp.nil ⟨w, G0, w3, [⟨b1, .cells (gC x g).toArray 60 (0, 0)⟩]⟩).none_ 9
    refine wc_loop (fun m l S => ∃ (k : Nat) (v3 : Value) (w1 : World), g.terms + (k : Int) ≤ (g.names.length : Int) ∧ Hp ⟨w, G0, w1, [⟨b1, .cells (gC x g).toArray 60 (0, 0)⟩]⟩ [(9, v3, (linesK g k).map sv)] ∧ m = g.names.length - k ∧ l = [(1, .pointer (some ⟨b1, 0, none⟩)), (3, v3), (4, iv (g.terms + (k : Int)))] ∧ S = ⟨w, G0, w1, [⟨b1, .cells (gC x g).toArray 60 (0, 0)⟩]⟩) ⟨_, _, ⟨0, .slice none 0 0, _, by omega, hH00, rfl, by rw [Int.natCast_zero, Int.add_zero], rfl⟩, by repeat (first | exact sub_nil | refine sub_cons rfl ?_)⟩ ?_
    intro m l S hJ
    obtain ⟨k, v3, w1, hk, hH, rfl, rfl, rfl⟩ := hJ
    refine wc_seq ?_
    refine wc_seq ?_
    refine wc_region ?_
    refine wl_go rfl (wo_val rfl (rv_move rfl) rfl rfl ?_)
    refine wl_go rfl (wo_val rfl (rv_fieldAddr0 rfl) rfl rfl ?_)
    refine wl_go rfl (wo_val rfl (rv_load_own rfl rfl) rfl rfl ?_)
    refine wl_go rfl (wo_val rfl (rv_len rfl) rfl rfl ?_)
    refine wl_go rfl (wo_val rfl (rv_cmp_i rfl rfl rfl) rfl rfl ?_)
    refine wl_nil ?_
    refine wq_then ?_
    refine wc_cond rfl (fun hc19 => ?_) (fun hc19 => ?_)
    · simp only [decide_eq_true_eq, decide_eq_false_iff_not, Bool.not_eq_true', Bool.not_eq_false', bne_iff_ne, beq_iff_eq, bne_eq_false_iff_eq, beq_eq_false_iff_ne, Int.not_lt, Int.not_le] at hc19
      obtain ⟨nk, hnk⟩ := getE (l := g.names) (i := (g.terms + (k : Int)).toNat) (by omega)
      have hnks := hsh nk (List.mem_of_getElem? hnk)
      have hbl : (byL g.rules (g.terms + (k : Int))).length ≤ 256 := Nat.le_trans (byL_len _ _) hr2
      have hnA : nmA g (g.terms + (k : Int)) = nk := by unfold nmA; rw [List.getD_eq_getElem?_getD, hnk]; rfl
      obtain ⟨g0, o0, hnp, hcn⟩ := hg.names.read (map_get hnk)
      refine wc_skip ?_
      refine wq_then ?_
      refine wc_seq ?_
      refine wc_block ?_
      refine wc_seq ?_
      refine wc_region ?_
      refine wl_go rfl (wo_val rfl (rv_fieldAddr0 rfl) rfl rfl ?_)
      refine wl_go rfl (wo_val rfl (rv_load_own (v := .slice (some ⟨g0, o0, none⟩) g.names.length x.nc) rfl (by rw [← hnp]; rfl)) rfl rfl ?_)
      refine wl_go rfl (wo_val rfl (rv_move rfl) rfl rfl ?_)
      refine wl_go rfl (wo_val rfl (rv_indexAddr rfl rfl (by omega)) rfl rfl ?_)
      refine wl_go rfl (wo_val rfl (rv_load_cell rfl (fun w4 hs4 => hcn w4 (hs4.below rfl))) rfl rfl ?_)
      refine wl_go rfl (wo_val rfl (rb_cat (t := [32, 58]) rfl rfl (by simp only [List.length_cons, List.length_nil]; omega)) rfl rfl ?_)
      refine wl_go rfl (wo_val rfl (rv_assign rfl) rfl rfl ?_)
      refine wl_nil ?_
      refine wq_then ?_
      refine wc_seq ?_
      refine wc_region ?_
      refine wl_go rfl (wo_val rfl (rv_load_own_row rfl) rfl rfl ?_)
      refine wl_go rfl (wo_val rfl (rv_move rfl) rfl rfl ?_)
      refine wl_go rfl (wo_call (R := fun w2 v w3 => w3.ownsRow w2.heap.size 3 1 v (byL g.rules (g.terms + (k : Int))).length ((byL g.rules (g.terms + (k : Int))).map iv)) rfl rfl (enters_of Try.func141 (by kernel_rfl) rfl) rfl rfl rfl (fun w4 hs4 => (rby_calls x g (g.terms + (k : Int)) w4 (hg.below (hs4.below rfl)) (by omega)).mono fun e w' h => let ⟨v, h1, h2, h3⟩ := h; ⟨v, h1, h2, h3⟩) (fun w2b vb w3b hs2b hvb hb2b hm2b => ?_))
      obtain ⟨pb, cb, rfl, _⟩ := rv_ofn hvb
      have hH20 := hH.new hs2b hm2b hvb
      refine wl_go rfl (wo_val rfl (rv_assign rfl) rfl rfl ?_)
      refine wl_nil ?_
      refine wq_then ?_
      refine wc_seq ?_
      refine wc_seq ?_
      refine wc_region ?_
      refine wl_go rfl (wo_val rfl (rv_assign rfl) rfl rfl ?_)
      refine wl_nil ?_
      refine wq_then ?_
      refine wc_block ?_
      rw [show nk ++ [32, 58] = lR g (g.terms + (k : Int)) 0 by rw [lR, hnA]]
      refine wc_loop (fun m l S => ∃ i : Nat, i ≤ (byL g.rules (g.terms + (k : Int))).length ∧ m = (byL g.rules (g.terms + (k : Int))).length - i ∧ l = [(1, .pointer (some ⟨b1, 0, none⟩)), (3, v3), (4, iv (g.terms + (k : Int))), (5, sv (lR g (g.terms + (k : Int)) i)), (6, .slice pb (byL g.rules (g.terms + (k : Int))).length cb), (7, iv (i : Int))] ∧ S = ⟨w, G0, w3b, [⟨b1, .cells (gC x g).toArray 60 (0, 0)⟩]⟩) ⟨_, _, ⟨0, Nat.zero_le _, rfl, rfl, rfl⟩, by repeat (first | exact sub_nil | refine sub_cons rfl ?_)⟩ ?_
      intro m l S hJ
      obtain ⟨i, hi, rfl, rfl, rfl⟩ := hJ
      refine wc_seq ?_
      refine wc_seq ?_
      refine wc_region ?_
      refine wl_go rfl (wo_val rfl (rv_move rfl) rfl rfl ?_)
      refine wl_go rfl (wo_val rfl (rv_move rfl) rfl rfl ?_)
      refine wl_go rfl (wo_val rfl (rv_len rfl) rfl rfl ?_)
      refine wl_go rfl (wo_val rfl (rv_cmp_i rfl rfl rfl) rfl rfl ?_)
      refine wl_nil ?_
      refine wq_then ?_
      refine wc_cond rfl (fun hc34 => ?_) (fun hc34 => ?_)
      · simp only [decide_eq_true_eq, decide_eq_false_iff_not, Bool.not_eq_true', Bool.not_eq_false', bne_iff_ne, beq_iff_eq, bne_eq_false_iff_eq, beq_eq_false_iff_ne, Int.not_lt, Int.not_le] at hc34
        have hLR := lR_len hsh hl9 (g.terms + (k : Int)) i (by omega)
        obtain ⟨ik, hik⟩ := getE (l := (byL g.rules (g.terms + (k : Int)))) (i := i) (by omega)
        obtain ⟨k2, rfl, r, hr, _⟩ := byL_mem.1 (List.mem_of_getElem? hik)
        have hk2 := (List.getElem?_eq_some_iff.1 hr).1
        obtain ⟨g7, o7, rfl, _⟩ := (rv_slice_of (hH20.row (3, .slice pb (byL g.rules (g.terms + (k : Int))).length cb, (byL g.rules (g.terms + (k : Int))).map iv) (by simp)).own).at_ _ _ (map_get hik)
        obtain ⟨g2, o2, q, d, hrp, hcr, hrow⟩ := hg.rules.read hr
        have hrm := List.mem_of_getElem? hr
        have hfit := hok.fits hrm
        have hfp := hfit.pos
        have hfl := hfit.len
        obtain ⟨y0, hy0⟩ := getE hfp
        obtain ⟨g1, o1, rfl, _⟩ := hrow.read (map_get hy0)
        have hgk : (byL g.rules (g.terms + (k : Int))).getD i 0 = (k2 : Int) := by rw [List.getD_eq_getElem?_getD, hik]; rfl
        have hwA : sp (wAdd g i ((byL g.rules (g.terms + (k : Int))).getD i 0)) = (if 0 < i then [32, 124] else []) ++ sp ((r.drop 1).map (nmA g)) := by
          unfold wAdd sp
          rw [hgk, Int.toNat_natCast, List.getD_eq_getElem?_getD, hr, List.flatMap_append]
          congr 1
          split <;> rfl
        refine wc_skip ?_
        refine wq_then ?_
        refine wc_seq ?_
        refine wc_block ?_
        refine wc_seq ?_
        refine wc_seq ?_
        refine wc_region ?_
        refine wl_go rfl (wo_val rfl (rv_move rfl) rfl rfl ?_)
        refine wl_go rfl (wo_val rfl (rv_cmp_i rfl rfl rfl) rfl rfl ?_)
        refine wl_nil ?_
        refine wq_then ?_
        refine wc_cut (fun l S => l = [(1, .pointer (some ⟨b1, 0, none⟩)), (3, v3), (4, iv (g.terms + (k : Int))), (5, sv (lR g (g.terms + (k : Int)) i ++ (if 0 < i then [32, 124] else []))), (6, .slice (some ⟨g7, o7, none⟩) (byL g.rules (g.terms + (k : Int))).length cb), (7, iv (i : Int))] ∧ S = ⟨w, G0, w3b, [⟨b1, .cells (gC x g).toArray 60 (0, 0)⟩]⟩) ?_ ?_
        · skip
          refine wc_cond rfl (fun hc38 => ?_) (fun hc38 => ?_)
          · simp only [decide_eq_true_eq, decide_eq_false_iff_not, Bool.not_eq_true', Bool.not_eq_false', bne_iff_ne, beq_iff_eq, bne_eq_false_iff_eq, beq_eq_false_iff_ne, Int.not_lt, Int.not_le] at hc38
            have hi0 : 0 < i := by omega
            refine wc_region ?_
            refine wl_go rfl (wo_val rfl (rv_move rfl) rfl rfl ?_)
            refine wl_go rfl (wo_val rfl (rb_cat (t := [32, 124]) rfl rfl (by simp only [List.length_cons, List.length_nil]; omega)) rfl rfl ?_)
            refine wl_go rfl (wo_val rfl (rv_assign rfl) rfl rfl ?_)
            refine wl_nil ?_
            rw [show lR g (g.terms + (k : Int)) i ++ [32, 124] = (lR g (g.terms + (k : Int)) i ++ (if 0 < i then [32, 124] else [])) by rw [if_pos hi0]]
            exact wq_cut ⟨_, ⟨rfl, rfl⟩, by repeat (first | exact sub_nil | refine sub_cons rfl ?_)⟩
          · simp only [decide_eq_true_eq, decide_eq_false_iff_not, Bool.not_eq_true', Bool.not_eq_false', bne_iff_ne, beq_iff_eq, bne_eq_false_iff_eq, beq_eq_false_iff_ne, Int.not_lt, Int.not_le] at hc38
            have hi0 : ¬ 0 < i := by omega
            refine wc_skip ?_
            refine wq_cut ⟨[(1, .pointer (some ⟨b1, 0, none⟩)), (3, v3), (4, iv (g.terms + (k : Int))), (5, sv (lR g (g.terms + (k : Int)) i)), (6, .slice (some ⟨g7, o7, none⟩) (byL g.rules (g.terms + (k : Int))).length cb), (7, iv (i : Int))], ⟨?_, rfl⟩, by repeat (first | exact sub_nil | refine sub_cons rfl ?_)⟩
            rw [if_neg hi0, List.append_nil]
        · rintro l S ⟨rfl, rfl⟩
          refine wq_then ?_
          refine wc_seq ?_
          refine wc_region_quiet (by kernel_rfl) (by kernel_rfl) ?_
          refine wk_val rfl rfl (rv_fieldAddr rfl) rfl rfl ?_
          refine wk_val rfl rfl (rv_load_own (v := .slice (some ⟨g2, o2, none⟩) g.rules.length x.rc) rfl (by rw [← hrp]; rfl)) rfl rfl ?_
          refine wk_val rfl rfl (rv_move rfl) rfl rfl ?_
          refine wk_val rfl rfl (rv_move rfl) rfl rfl ?_
          refine wk_val rfl rfl (rv_indexAddr rfl rfl (by omega)) rfl rfl ?_
          refine wk_val rfl rfl (rv_load_cell (v := iv (k2 : Int)) rfl (fun w4 hs4 => rw_cell (rw_conv (hH20.row (3, .slice (some ⟨g7, o7, none⟩) (byL g.rules (g.terms + (k : Int))).length cb, (byL g.rules (g.terms + (k : Int))).map iv) (by simp)) (m := (byL g.rules (g.terms + (k : Int))).length) (by rw [List.length_map]) rfl) (map_get hik) hs4)) rfl rfl ?_
          refine wk_val rfl rfl (rv_indexAddr rfl rfl (by omega)) rfl rfl ?_
          refine wk_val rfl rfl (rv_load_cell rfl (fun w4 hs4 => hcr w4 (hs4.below rfl))) rfl rfl ?_
          refine wk_val rfl rfl (rv_assign rfl) rfl rfl ?_
          refine wk_nil ?_
          refine wq_then ?_
          refine wc_seq ?_
          refine wc_region ?_
          refine wl_go rfl (wo_val rfl (rv_assign rfl) rfl rfl ?_)
          refine wl_nil ?_
          refine wq_then ?_
          refine wc_block ?_
          have e0 : (lR g (g.terms + (k : Int)) i ++ (if 0 < i then [32, 124] else [])) = (lR g (g.terms + (k : Int)) i ++ (if 0 < i then [32, 124] else [])) ++ sp (((r.take 1).drop 1).map (nmA g)) := by rw [List.drop_eq_nil_of_le (by rw [List.length_take]; omega)]; show _ = _ ++ []; rw [List.append_nil]
          rw [e0]
          refine wc_loop (fun m l S => ∃ j : Nat, 1 ≤ j ∧ j ≤ r.length ∧ m = r.length - j ∧ l = [(1, .pointer (some ⟨b1, 0, none⟩)), (3, v3), (4, iv (g.terms + (k : Int))), (5, sv ((lR g (g.terms + (k : Int)) i ++ (if 0 < i then [32, 124] else [])) ++ sp (((r.take j).drop 1).map (nmA g)))), (6, .slice (some ⟨g7, o7, none⟩) (byL g.rules (g.terms + (k : Int))).length cb), (7, iv (i : Int)), (8, .slice (some ⟨g1, o1, none⟩) r.length d), (9, iv (j : Int))] ∧ S = ⟨w, G0, w3b, [⟨b1, .cells (gC x g).toArray 60 (0, 0)⟩]⟩) ⟨_, _, ⟨1, Nat.le_refl _, hfp, rfl, rfl, rfl⟩, by repeat (first | exact sub_nil | refine sub_cons rfl ?_)⟩ ?_
          intro m l S hJ
          obtain ⟨j, hj1, hj, rfl, rfl, rfl⟩ := hJ
          refine wc_seq ?_
          refine wc_seq ?_
          refine wc_region ?_
          refine wl_go rfl (wo_val rfl (rv_move rfl) rfl rfl ?_)
          refine wl_go rfl (wo_val rfl (rv_move rfl) rfl rfl ?_)
          refine wl_go rfl (wo_val rfl (rv_len rfl) rfl rfl ?_)
          refine wl_go rfl (wo_val rfl (rv_cmp_i rfl rfl rfl) rfl rfl ?_)
          refine wl_nil ?_
          refine wq_then ?_
          refine wc_cond rfl (fun hc52 => ?_) (fun hc52 => ?_)
          · simp only [decide_eq_true_eq, decide_eq_false_iff_not, Bool.not_eq_true', Bool.not_eq_false', bne_iff_ne, beq_iff_eq, bne_eq_false_iff_eq, beq_eq_false_iff_ne, Int.not_lt, Int.not_le] at hc52
            obtain ⟨y, hy⟩ := getE (l := r) (i := j) (by omega)
            have hyr := hfit.all y (List.mem_of_getElem? hy)
            obtain ⟨_, _, ez, hcy⟩ := hrow.read (map_get hy)
            cases ez
            obtain ⟨ny, hny⟩ := getE (l := g.names) (i := y.toNat) (by omega)
            have hnyA : nmA g y = ny := by unfold nmA; rw [List.getD_eq_getElem?_getD, hny]; rfl
            have hnys := hsh ny (List.mem_of_getElem? hny)
            obtain ⟨g3, o3, hnp3, hcn3⟩ := hg.names.read (map_get hny)
            have hsl := sp_len (((r.take j).drop 1).map (nmA g)) (fun t ht => by obtain ⟨n, _, rfl⟩ := List.mem_map.1 ht; exact nmA_short hsh n)
            have hsl2 : (((r.take j).drop 1).map (nmA g)).length * 1048577 ≤ 9 * 1048577 := Nat.mul_le_mul_right _ (by rw [List.length_map, List.length_drop, List.length_take]; omega)
            have hif : (if 0 < i then ([32, 124] : Bs) else []).length ≤ 2 := by split <;> simp
            refine wc_skip ?_
            refine wq_then ?_
            refine wc_seq ?_
            refine wc_block ?_
            refine wc_region_quiet (by kernel_rfl) (by kernel_rfl) ?_
            refine wk_val rfl rfl (rv_move rfl) rfl rfl ?_
            refine wk_val rfl rfl (rv_fieldAddr0 rfl) rfl rfl ?_
            refine wk_val rfl rfl (rv_load_own (v := .slice (some ⟨g3, o3, none⟩) g.names.length x.nc) rfl (by rw [← hnp3]; rfl)) rfl rfl ?_
            refine wk_val rfl rfl (rv_move rfl) rfl rfl ?_
            refine wk_val rfl rfl (rv_move rfl) rfl rfl ?_
            refine wk_val rfl rfl (rv_indexAddr rfl rfl (by omega)) rfl rfl ?_
            refine wk_val rfl rfl (rv_load_cell rfl (fun w4 hs4 => hcy w4 (hs4.below rfl))) rfl rfl ?_
            refine wk_val rfl rfl (rv_indexAddr rfl rfl (by omega)) rfl rfl ?_
            refine wk_val rfl rfl (rv_load_cell rfl (fun w4 hs4 => hcn3 w4 (hs4.below rfl))) rfl rfl ?_
            refine wk_val rfl rfl (rb_cat (s := [32]) rfl rfl (by simp only [List.length_cons, List.length_nil]; omega)) rfl rfl ?_
            refine wk_val rfl rfl (rb_cat rfl rfl (by rw [List.length_append, List.length_append, List.length_append, List.length_cons, List.length_nil]; omega)) rfl rfl ?_
            refine wk_val rfl rfl (rv_assign rfl) rfl rfl ?_
            refine wk_nil ?_
            refine wq_in_normal ?_
            refine wq_then ?_
            refine wc_region ?_
            refine wl_go rfl (wo_val rfl (rv_move rfl) rfl rfl ?_)
            refine wl_go rfl (wo_val rfl (rv_add rfl rfl (by omega)) rfl rfl ?_)
            refine wl_go rfl (wo_val rfl (rv_assign rfl) rfl rfl ?_)
            refine wl_nil ?_
            have e4 : ((lR g (g.terms + (k : Int)) i ++ (if 0 < i then [32, 124] else [])) ++ sp (((r.take j).drop 1).map (nmA g))) ++ ([32] ++ ny) = (lR g (g.terms + (k : Int)) i ++ (if 0 < i then [32, 124] else [])) ++ sp (((r.take (j + 1)).drop 1).map (nmA g)) := by
              rw [List.take_add_one, hy, List.drop_append_of_le_length (by rw [List.length_take]; omega), Option.toList_some, List.map_append, List.append_assoc]
              congr 1
              unfold sp
              rw [List.flatMap_append]
              congr 1
              simp [hnyA]
            rw [e4]
            exact wq_round ⟨_, _, ⟨j + 1, by omega, by omega, rfl, rfl, rfl⟩, by omega, by repeat (first | exact sub_nil | refine sub_cons rfl ?_)⟩
          · simp only [decide_eq_true_eq, decide_eq_false_iff_not, Bool.not_eq_true', Bool.not_eq_false', bne_iff_ne, beq_iff_eq, bne_eq_false_iff_eq, beq_eq_false_iff_ne, Int.not_lt, Int.not_le] at hc52
            obtain rfl : j = r.length := by omega
            rw [List.take_length, List.append_assoc, ← hwA]
            refine wc_exit ?_
            refine wq_then_exit ?_
            refine wq_then_exit ?_
            refine wq_in_here ?_
            refine wq_in_normal ?_
            refine wq_then ?_
            refine wc_region ?_
            refine wl_go rfl (wo_val rfl (rv_move rfl) rfl rfl ?_)
            refine wl_go rfl (wo_val rfl (rv_add rfl rfl (by omega)) rfl rfl ?_)
            refine wl_go rfl (wo_val rfl (rv_assign rfl) rfl rfl ?_)
            refine wl_nil ?_
            exact wq_round ⟨_, _, ⟨i + 1, by omega, rfl, rfl, rfl⟩, by omega, by repeat (first | exact sub_nil | refine sub_cons rfl ?_)⟩
      · simp only [decide_eq_true_eq, decide_eq_false_iff_not, Bool.not_eq_true', Bool.not_eq_false', bne_iff_ne, beq_iff_eq, bne_eq_false_iff_eq, beq_eq_false_iff_ne, Int.not_lt, Int.not_le] at hc34
        obtain rfl : i = (byL g.rules (g.terms + (k : Int))).length := by omega
        have hLR := lR_len hsh hl9 (g.terms + (k : Int)) (byL g.rules (g.terms + (k : Int))).length (by omega)
        refine wc_exit ?_
        refine wq_then_exit ?_
        refine wq_then_exit ?_
        refine wq_in_here ?_
        refine wq_then ?_
        refine wc_region ?_
        refine wl_go rfl (wo_val rfl (rv_move rfl) rfl rfl ?_)
        refine wl_go rfl (wo_val rfl (rv_move rfl) rfl rfl ?_)
        refine wl_go rfl (wo_val rfl (rb_cat (t := [59]) rfl rfl (by simp only [List.length_cons, List.length_nil]; omega)) rfl rfl ?_)
        refine wl_go rfl (wo_bs [_] rfl rfl rfl (⟨rfl, rfl, ⟨_, rfl, rfl⟩, trivial⟩) rfl rfl (fun b69 hb69 => ?_))
        refine wl_go rfl (wo_append rfl rfl rfl rfl rfl [_] ⟨[_], rfl⟩ ((hH20.swap.row (9, v3, (linesK g k).map sv) (by simp)).beside hb69 |>.ids rfl) (by rw [List.length_map]; unfold linesK; rw [List.length_map, List.length_range]; unfold maxLen; omega) rfl rfl rfl (fun v6 w6 hR6 hm6 ho6 => ?_))
        have hH6 := hH20.swap.first (own3 := _ :: _) hm6 (by intro y hy; rcases List.mem_cons.1 hy with rfl | hy; exact .inr hb69; exact .inl ⟨y, hy, rfl⟩) (rw_snoc hR6) ho6 (fun y hy => ⟨y, hy, rfl⟩)
        refine wl_go rfl (wo_val rfl (rv_assign rfl) rfl rfl ?_)
        refine wl_nil ?_
        refine wq_in_normal ?_
        refine wq_then ?_
        refine wc_region ?_
        refine wl_go rfl (wo_val rfl (rv_move rfl) rfl rfl ?_)
        refine wl_go rfl (wo_val rfl (rv_add rfl rfl (by omega)) rfl rfl ?_)
        refine wl_go rfl (wo_val rfl (rv_assign rfl) rfl rfl ?_)
        refine wl_nil ?_
        refine wq_round ⟨_, [(1, .pointer (some ⟨b1, 0, none⟩)), (3, v6), (4, iv ((g.terms + (k : Int)) + 1))], ⟨k + 1, v6, _, by omega, ?_, rfl, ?_, rfl⟩, by omega, by repeat (first | exact sub_nil | refine sub_cons rfl ?_)⟩
        · rw [linesK_succ, List.map_append, line_eq]; exact hH6.only
        · rw [show (g.terms + (k : Int)) + 1 = g.terms + ((k + 1 : Nat) : Int) by omega]
    · simp only [decide_eq_true_eq, decide_eq_false_iff_not, Bool.not_eq_true', Bool.not_eq_false', bne_iff_ne, beq_iff_eq, bne_eq_false_iff_eq, beq_eq_false_iff_ne, Int.not_lt, Int.not_le] at hc19
      have hkn : k = g.names.length - g.terms.toNat := by omega
      refine wc_exit ?_
      refine wq_then_exit ?_
      refine wq_then_exit ?_
      refine wq_in_here ?_
      refine wq_then ?_
      refine wc_seq ?_
      refine wc_region ?_
      refine wl_go rfl (wo_val rfl (rv_move rfl) rfl rfl ?_)
      refine wl_go rfl (wo_val rfl (rv_assign rfl) rfl rfl ?_)
      refine wl_nil ?_
      refine wq_then ?_
      refine wc_ret ?_
      refine wq_ret1 rfl rfl (rr_tmp rfl) (fun w9 hs9 => ?_)
      have e1 : linesF g = linesK g k := by unfold linesF; rw [hgood, hkn]; rfl
      rw [e1]
      have h := (hH.head).at hs9
      simp only [List.length_map] at h
      exact ⟨_, rfl, h, hs9.below rfl⟩
end Go.Proofs.Ytlppkbfkajionaa.Cm
