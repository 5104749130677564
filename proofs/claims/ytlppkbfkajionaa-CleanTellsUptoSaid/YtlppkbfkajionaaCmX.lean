/- The walks of grammars: the lines. -/
import Derived.Test.YtlppkbfkajionaaCmShelf
import Derived.Test.YtlppkbfkajionaaCmW
namespace Go.Proofs.Ytlppkbfkajionaa.Cm
open Go Go.RowKit Gw Go.Shelf
set_option linter.unusedSimpArgs false
set_option linter.unusedVariables false
set_option linter.unusedSectionVars false
def nmA (g : Gr) (n : Int) : Bs := g.names.getD n.toNat []
def wAdd (g : Gr) (i : Nat) (k : Int) : List Bs := (if 0 < i then [[124]] else []) ++ ((g.rules.getD k.toNat []).drop 1).map (nmA g)
def wK (g : Gr) (s : Int) : Nat → List Bs
  | 0 => [nmA g s, [58]]
  | i + 1 => wK g s i ++ wAdd g i ((byL g.rules s).getD i 0)
def line (g : Gr) (s : Int) : Bs := Lib.join (wK g s (byL g.rules s).length) [32] ++ [59]
def linesK (g : Gr) (k : Nat) : List Bs := (List.range k).map fun (i : Nat) => line g (g.terms + (i : Int))
def linesF (g : Gr) : List Bs := if okB g then linesK g (g.names.length - g.terms.toNat) else []
theorem linesK_succ (g : Gr) (k : Nat) : linesK g (k + 1) = linesK g k ++ [line g (g.terms + (k : Int))] := by
  unfold linesK; rw [List.range_succ, List.map_append]; rfl
def Short (g : Gr) : Prop := ∀ s ∈ g.names, s.length ≤ 1048576
theorem nmA_short {g : Gr} (h : Short g) (n : Int) : (nmA g n).length ≤ 1048576 := by
  unfold nmA
  rw [List.getD_eq_getElem?_getD]
  cases hn : g.names[n.toNat]? with
  | none => simp
  | some s => exact h s (List.mem_of_getElem? hn)
theorem wK_len {g : Gr} (h : ∀ r ∈ g.rules, r.length ≤ 9) (s : Int) : ∀ i, (wK g s i).length ≤ 2 + i * 10
  | 0 => by simp [wK]
  | i + 1 => by
    have ih := wK_len h s i
    have hw : (wAdd g i ((byL g.rules s).getD i 0)).length ≤ 10 := by
      unfold wAdd
      rw [List.length_append, List.length_map, List.length_drop]
      have h1 : (g.rules.getD ((byL g.rules s).getD i 0).toNat []).length ≤ 9 := by
        rw [List.getD_eq_getElem?_getD]
        cases hr : g.rules[((byL g.rules s).getD i 0).toNat]? with
        | none => simp
        | some r => exact h r (List.mem_of_getElem? hr)
      have h2 : (if 0 < i then ([[124]] : List Bs) else []).length ≤ 1 := by split <;> simp
      omega
    unfold wK
    rw [List.length_append]; omega
theorem wK_short {g : Gr} (h : Short g) (s : Int) : ∀ i, ∀ t ∈ wK g s i, t.length ≤ 1048576
  | 0 => fun t ht => by
    simp [wK] at ht
    rcases ht with rfl | rfl
    · exact nmA_short h s
    · simp
  | i + 1 => fun t ht => by
    unfold wK at ht
    rcases List.mem_append.1 ht with ht | ht
    · exact wK_short h s i t ht
    · unfold wAdd at ht
      rcases List.mem_append.1 ht with ht | ht
      · split at ht
        · simp at ht; subst ht; simp
        · cases ht
      · obtain ⟨n, _, rfl⟩ := List.mem_map.1 ht
        exact nmA_short h n
theorem tail_len (ts : List Bs) (M : Nat) (h : ∀ t ∈ ts, t.length ≤ M) : (Lib.joinTail [32] ts).length ≤ ts.length * (M + 1) := by
  unfold Lib.joinTail
  induction ts with
  | nil => simp
  | cons t r ih =>
    rw [List.map_cons, List.flatten_cons, List.length_append, List.length_append, List.length_singleton, List.length_cons]
    have h1 := h t (by simp)
    have h2 := ih (fun u hu => h u (by simp [hu]))
    rw [Nat.succ_mul]
    omega
theorem join_len (ts : List Bs) (M : Nat) (h : ∀ t ∈ ts, t.length ≤ M) : (Lib.join ts [32]).length ≤ ts.length * (M + 1) := by
  cases ts with
  | nil => rw [Lib.join_nil]; simp
  | cons t r =>
    rw [Lib.join_cons, List.length_append]
    have h1 := h t (by simp)
    have h2 := tail_len r M (fun u hu => h u (by simp [hu]))
    rw [List.length_cons, Nat.succ_mul]
    omega
theorem join_of (w : World) (v : Value) (ts : List Bs) (base n : Nat) (h : w.ownsRow base 9 1 v n (ts.map sv)) (h1 : ts.length ≤ 70000) (h2 : ∀ t ∈ ts, t.length ≤ 1048576) :
    Calls Try.prog 136 #[v, .string (toB [32])] w fun e w' => e = .returned (.string (toB (Lib.join ts [32]))) ∧ Below w.heap.size w w' := by
  have hn : n = ts.length := by have := h.1; simp at this; omega
  subst hn
  obtain ⟨_, hc⟩ := h
  rcases hc with ⟨rfl, hn⟩ | ⟨g, cap, cur, rfl, _, hh, hnc, _, hcs, htk⟩
  · obtain rfl := List.eq_nil_of_length_eq_zero hn
    exact (Try.strings_Join_none none 0 (toB [32]) w).mono fun e w' h => ⟨h.1, h.2 ▸ Below.refl _ _⟩
  · have hl := join_len ts 1048576 h2
    have em : (ts.map toB).map (·.data.toList) = ts := by rw [List.map_map]; simp [Function.comp_def]
    have hj := Try.strings_Join g 0 cap (ts.map toB) (toB [32]) w (fun j x hx => ?_) (Array.getElem?_eq_some_iff.1 hh).1 (by rw [List.length_map]; omega) (by rw [List.length_map]; exact hnc) (by
      rw [em]
      show (Lib.join ts [32]).length ≤ _
      have : ts.length * 1048577 ≤ 70000 * 1048577 := Nat.mul_le_mul_right _ h1
      omega)
    · rw [List.length_map] at hj
      rw [em] at hj
      exact hj
    · rw [List.getElem?_map] at hx
      obtain ⟨t, ht, rfl⟩ := Option.map_eq_some_iff.1 hx
      have h3 : (ts.map sv)[j]? = some (sv t) := by rw [List.getElem?_map, ht]; rfl
      rw [← htk, List.getElem?_take] at h3
      split at h3
      · simp only [World.cell?, hh, Nat.zero_add]
        simpa using h3
      · cases h3
theorem Hp.only {S : Sx} {y : RowOf} {L : List RowOf} (h : Hp S (y :: L)) : Hp S [y] := ⟨fun z hz => h.row z (by simp at hz; simp [hz]), List.pairwise_singleton _ _⟩
theorem hp_lit {W w0 w1 : World} {gs : Gx} {own : List Blk} {L : List RowOf} {b t : Nat} {cs : List Value} (hs : St ⟨W, gs, w0, ⟨b, .cells cs.toArray t (0, 0)⟩ :: own⟩ w1) (h : Hp ⟨W, gs, w0, own⟩ L) (hb : w0.heap.size ≤ b) (hR : Rw ⟨W, gs, w1, own⟩ t 1 (.slice (some ⟨b, 0, none⟩) cs.length cs.length) cs.length cs) : Hp ⟨W, gs, w1, own⟩ ((t, .slice (some ⟨b, 0, none⟩) cs.length cs.length, cs) :: L) := by
  refine ⟨fun y hy => ?_, List.pairwise_cons.2 ⟨fun y hy b2 hb2 e => ?_, h.ap⟩⟩
  · rcases List.mem_cons.1 hy with rfl | hy
    · exact hR
    · have hr := h.row y hy
      refine ⟨own_moved hr.own fun b2 hb2 => hs.old0 b2 (hr.lt b2 hb2).2 fun x hx e => ?_, hr.off⟩
      have h2 := (hr.lt b2 hb2).2
      rcases List.mem_cons.1 hx with rfl | hx
      · simp at e h2; omega
      · exact hr.off x hx (by rw [hb2, e])
  · have h2 := ((h.row y hy).lt b2 e).2
    simp [Value.ownBlock] at hb2
    simp at h2; omega
set_option maxHeartbeats 4000000 in
theorem rules_calls (x : GS) (g : Gr) (hsh : Short g) (w : World) (hg : Gm w x g) : Calls Try.prog 89 #[.agg (gC x g).toArray] w fun e w' => ∃ v, e = .returned v ∧ w'.ownsRow w.heap.size 9 1 v (linesF g).length ((linesF g).map sv) ∧ Below w.heap.size w w' := by
  refine calls_start Try.func89 rfl (N := 70) rfl rfl _ (St.start _) rfl ?_
  refine wc_seq ?_
  refine wc_region ?_
  refine wl_go rfl (wo_box rfl rfl rfl rfl rfl (fun b1 hb1 => ?_))
  refine wl_go rfl (wo_val rfl (rv_assign rfl) rfl rfl ?_)
  refine wl_nil ?_
  refine wq_then ?_
  refine wc_seq ?_
  refine wc_seq ?_
  refine wc_region ?_
  refine wl_go rfl (wo_val rfl (rv_load_own_row rfl) rfl rfl ?_)
  refine wl_go rfl (wo_call (R := fun _ v _ => v = _) rfl rfl (enters_of Try.func95 (by kernel_rfl) rfl) rfl rfl rfl (fun w4 hs4 => (cright_calls x g w4 (hg.below (hs4.below rfl))).mono fun e w' h => ⟨_, h.1, rfl, h.2⟩) (fun w2 v w3 hs2 hv hb2 hm2 => ?_))
  subst hv
  refine wl_go rfl (wo_val rfl (rv_not rfl) rfl rfl ?_)
  refine wl_nil ?_
  refine wq_then ?_
  refine wc_cond rfl (fun hc12 => ?_) (fun hc12 => ?_)
  · simp only [decide_eq_true_eq, decide_eq_false_iff_not, Bool.not_eq_true', Bool.not_eq_false', bne_iff_ne, beq_iff_eq, bne_eq_false_iff_eq, beq_eq_false_iff_ne, Int.not_lt, Int.not_le] at hc12
    have hbad : okB g = false := hc12
    refine wc_seq ?_
    refine wc_region ?_
    refine wl_go rfl (wo_val rfl (rv_assign rfl) rfl rfl ?_)
    refine wl_nil ?_
    refine wq_then ?_
    refine wc_ret ?_
    refine wq_then_ret ?_
    refine wq_ret1 rfl rfl (rr_tmp rfl) (fun w9 hs9 => ?_)
    have e1 : linesF g = [] := by unfold linesF; rw [hbad]; rfl
    rw [e1]
    exact ⟨_, rfl, World.ownsRow_nil _ _ _ _, hs9.below rfl⟩
  · simp only [decide_eq_true_eq, decide_eq_false_iff_not, Bool.not_eq_true', Bool.not_eq_false', bne_iff_ne, beq_iff_eq, bne_eq_false_iff_eq, beq_eq_false_iff_ne, Int.not_lt, Int.not_le] at hc12
    have hok := (okB_iff g).1 hc12
    have hgood : okB g = true := hc12
    have hww : w.heap.size ≤ w3.heap.size := Nat.le_trans hs2.size0 hb2.size
    have hnm := hok.nm
    have hr2 := hok.r2
    have ht0 := hok.t0
    have ht1 := hok.t1
    have hl9 : ∀ r ∈ g.rules, r.length ≤ 9 := fun r hr => (hok.fits hr).len
    refine wc_skip ?_
    refine wq_then ?_
    refine wc_seq ?_
    refine wc_region ?_
    refine wl_go rfl (wo_val rfl (rv_assign rfl) rfl rfl ?_)
    refine wl_nil ?_
    refine wq_then ?_
    refine wc_seq ?_
    refine wc_seq ?_
    refine wc_region ?_
    refine wl_go rfl (wo_val rfl (rv_fieldAddr rfl) rfl rfl ?_)
    refine wl_go rfl (wo_val rfl (rv_load_own rfl rfl) rfl rfl ?_)
    refine wl_go rfl (wo_val rfl (rv_assign rfl) rfl rfl ?_)
    refine wl_nil ?_
    refine wq_then ?_
    refine wc_block ?_
    have hH00 := (Hp.nil ⟨w, G0, w3, [⟨b1, .cells (gC x g).toArray 53 (0, 0)⟩]⟩).none_ 9
    refine wc_loop (fun m l S => ∃ (k : Nat) (v3 : Value) (w1 : World), g.terms + (k : Int) ≤ (g.names.length : Int) ∧ Hp ⟨w, G0, w1, [⟨b1, .cells (gC x g).toArray 53 (0, 0)⟩]⟩ [(9, v3, (linesK g k).map sv)] ∧ m = g.names.length - k ∧ l = [(1, .pointer (some ⟨b1, 0, none⟩)), (3, v3), (4, iv (g.terms + (k : Int)))] ∧ S = ⟨w, G0, w1, [⟨b1, .cells (gC x g).toArray 53 (0, 0)⟩]⟩) ⟨_, _, ⟨0, .slice none 0 0, _, by omega, hH00, rfl, by rw [Int.natCast_zero, Int.add_zero], rfl⟩, by repeat (first | exact sub_nil | refine sub_cons rfl ?_)⟩ ?_
    intro m l S hJ
    obtain ⟨k, v3, w1, hk, hH, rfl, rfl, rfl⟩ := hJ
    refine wc_seq ?_
    refine wc_seq ?_
    refine wc_region ?_
    refine wl_go rfl (wo_val rfl (rv_move rfl) rfl rfl ?_)
    refine wl_go rfl (wo_val rfl (rv_fieldAddr0 rfl) rfl rfl ?_)
    refine wl_go rfl (wo_val rfl (rv_load_own rfl rfl) rfl rfl ?_)
    refine wl_go rfl (wo_val rfl (rv_len rfl) rfl rfl ?_)
    refine wl_go rfl (wo_val rfl (rv_cmp_i rfl rfl rfl) rfl rfl ?_)
    refine wl_nil ?_
    refine wq_then ?_
    refine wc_cond rfl (fun hc19 => ?_) (fun hc19 => ?_)
    · simp only [decide_eq_true_eq, decide_eq_false_iff_not, Bool.not_eq_true', Bool.not_eq_false', bne_iff_ne, beq_iff_eq, bne_eq_false_iff_eq, beq_eq_false_iff_ne, Int.not_lt, Int.not_le] at hc19
      obtain ⟨nk, hnk⟩ := getE (l := g.names) (i := (g.terms + (k : Int)).toNat) (by omega)
      have hbl : (byL g.rules (g.terms + (k : Int))).length ≤ 256 := Nat.le_trans (byL_len _ _) hr2
      have hnA : nmA g (g.terms + (k : Int)) = nk := by unfold nmA; rw [List.getD_eq_getElem?_getD, hnk]; rfl
      obtain ⟨g0, o0, hnp, hcn⟩ := hg.names.read (map_get hnk)
      refine wc_skip ?_
      refine wq_then ?_
      refine wc_seq ?_
      refine wc_block ?_
      refine wc_seq ?_
      refine wc_region ?_
      refine wl_go rfl (wo_val rfl (rv_fieldAddr0 rfl) rfl rfl ?_)
      refine wl_go rfl (wo_val rfl (rv_load_own (v := .slice (some ⟨g0, o0, none⟩) g.names.length x.nc) rfl (by rw [← hnp]; rfl)) rfl rfl ?_)
      refine wl_go rfl (wo_val rfl (rv_move rfl) rfl rfl ?_)
      refine wl_go rfl (wo_val rfl (rv_indexAddr rfl rfl (by omega)) rfl rfl ?_)
      refine wl_go rfl (wo_val rfl (rv_load_cell rfl (fun w4 hs4 => hcn w4 (hs4.below rfl))) rfl rfl ?_)
      refine wl_go rfl (wo_bs [[sv nk], [sv [58]]] rfl rfl rfl (⟨rfl, rfl, ⟨_, rfl, rfl⟩, ⟨rfl, rfl, ⟨_, rfl, rfl⟩, trivial⟩⟩) rfl rfl (fun b27 hb27 => ?_))
      refine wl_go rfl (wo_val rfl (rv_assign rfl) rfl rfl ?_)
      refine wl_name [_] ⟨[_], rfl⟩ (fun w5 hs5 => ?_)
      have hR5 := rw_lit (cs := [sv nk, sv [58]]) hs5 ((hs5.base ⟨b27, _⟩ List.mem_cons_self).resolve_left (by simp)) (by simp [maxLen])
      have hHw := hp_lit (cs := [sv nk, sv [58]]) (hs5) hH hb27 hR5
      refine wl_nil ?_
      refine wq_then ?_
      refine wc_seq ?_
      refine wc_seq ?_
      refine wc_region ?_
      refine wl_go rfl (wo_val rfl (rv_load_own_row rfl) rfl rfl ?_)
      refine wl_go rfl (wo_val rfl (rv_move rfl) rfl rfl ?_)
      refine wl_go rfl (wo_call (R := fun w2 v w3 => w3.ownsRow w2.heap.size 3 1 v (byL g.rules (g.terms + (k : Int))).length ((byL g.rules (g.terms + (k : Int))).map iv)) rfl rfl (enters_of Try.func135 (by kernel_rfl) rfl) rfl rfl rfl (fun w4 hs4 => (by_calls x g (g.terms + (k : Int)) w4 (hg.below (hs4.below rfl)) (by omega)).mono fun e w' h => let ⟨v, h1, h2, h3⟩ := h; ⟨v, h1, h2, h3⟩) (fun w2b vb w3b hs2b hvb hb2b hm2b => ?_))
      obtain ⟨pb, cb, rfl, _⟩ := rv_ofn hvb
      have hH20 := (hHw.new hs2b hm2b hvb).swap
      refine wl_go rfl (wo_val rfl (rv_len rfl) rfl rfl ?_)
      refine wl_go rfl (wo_val rfl (rv_move rfl) rfl rfl ?_)
      refine wl_nil ?_
      refine wq_then ?_
      refine wc_block ?_
      refine wc_loop (fun m l S => ∃ (i : Nat) (v5 : Value) (w1 : World), i ≤ (byL g.rules (g.terms + (k : Int))).length ∧ Hp ⟨w, G0, w1, [⟨b1, .cells (gC x g).toArray 53 (0, 0)⟩]⟩ ((9, v5, (wK g (g.terms + (k : Int)) i).map sv) :: (3, .slice pb (byL g.rules (g.terms + (k : Int))).length cb, (byL g.rules (g.terms + (k : Int))).map iv) :: (9, v3, (linesK g k).map sv) :: []) ∧ m = (byL g.rules (g.terms + (k : Int))).length - i ∧ l = [(1, .pointer (some ⟨b1, 0, none⟩)), (3, v3), (4, iv (g.terms + (k : Int))), (5, v5), (30, .slice pb (byL g.rules (g.terms + (k : Int))).length cb), (31, iv ((byL g.rules (g.terms + (k : Int))).length : Int)), (32, iv (i : Int))] ∧ S = ⟨w, G0, w1, [⟨b1, .cells (gC x g).toArray 53 (0, 0)⟩]⟩) ⟨_, _, ⟨0, _, _, Nat.zero_le _, (by have h := hH20; rw [← hnA] at h; exact h), rfl, rfl, rfl⟩, by repeat (first | exact sub_nil | refine sub_cons rfl ?_)⟩ ?_
      intro m l S hJ
      obtain ⟨i, v5, w1, hi, hH, rfl, rfl, rfl⟩ := hJ
      refine wc_seq ?_
      refine wc_region ?_
      refine wl_go rfl (wo_val rfl (rv_cmp_i rfl rfl rfl) rfl rfl ?_)
      refine wl_nil ?_
      refine wq_then ?_
      refine wc_seq ?_
      refine wc_cond rfl (fun hc33 => ?_) (fun hc33 => ?_)
      · simp only [decide_eq_true_eq, decide_eq_false_iff_not, Bool.not_eq_true', Bool.not_eq_false', bne_iff_ne, beq_iff_eq, bne_eq_false_iff_eq, beq_eq_false_iff_ne, Int.not_lt, Int.not_le] at hc33
        obtain ⟨ik, hik⟩ := getE (l := (byL g.rules (g.terms + (k : Int)))) (i := i) (by omega)
        obtain ⟨k2, rfl, r, hr, _⟩ := byL_mem.1 (List.mem_of_getElem? hik)
        have hk2 := (List.getElem?_eq_some_iff.1 hr).1
        obtain ⟨g7, o7, rfl, _⟩ := (rv_slice_of (hH.row (3, .slice pb (byL g.rules (g.terms + (k : Int))).length cb, (byL g.rules (g.terms + (k : Int))).map iv) (by simp)).own).at_ _ _ (map_get hik)
        obtain ⟨g2, o2, q, d, hrp, hcr, hrow⟩ := hg.rules.read hr
        have hrm := List.mem_of_getElem? hr
        have hfit := hok.fits hrm
        have hfp := hfit.pos
        have hfl := hfit.len
        obtain ⟨y0, hy0⟩ := getE hfp
        obtain ⟨g1, o1, rfl, _⟩ := hrow.read (map_get hy0)
        obtain ⟨g8, o8, e8, hdr⟩ := drop_row hrow hfp
        have hdl : (r.drop 1).length = r.length - 1 := by rw [List.length_drop]
        have hcd := hrow.cap
        rw [List.length_map] at hcd
        have hgk : (byL g.rules (g.terms + (k : Int))).getD i 0 = (k2 : Int) := by rw [List.getD_eq_getElem?_getD, hik]; rfl
        have hwA : wAdd g i ((byL g.rules (g.terms + (k : Int))).getD i 0) = (if 0 < i then [[124]] else []) ++ (r.drop 1).map (nmA g) := by
          unfold wAdd
          rw [hgk, Int.toNat_natCast, List.getD_eq_getElem?_getD, hr]; rfl
        refine wc_skip ?_
        refine wq_then ?_
        refine wc_seq ?_
        refine wc_block ?_
        refine wc_seq ?_
        refine wc_region ?_
        refine wl_go rfl (wo_val rfl (rv_move rfl) rfl rfl ?_)
        refine wl_go rfl (wo_val rfl (rv_indexAddr rfl rfl (by omega)) rfl rfl ?_)
        refine wl_go rfl (wo_val rfl (rv_load_cell (v := iv (k2 : Int)) rfl (fun w4 hs4 => rw_cell (rw_conv (hH.row (3, .slice (some ⟨g7, o7, none⟩) (byL g.rules (g.terms + (k : Int))).length cb, (byL g.rules (g.terms + (k : Int))).map iv) (by simp)) (m := (byL g.rules (g.terms + (k : Int))).length) (by rw [List.length_map]) rfl) (map_get hik) hs4)) rfl rfl ?_)
        refine wl_go rfl (wo_val rfl (rv_assign rfl) rfl rfl ?_)
        refine wl_go rfl (wo_val rfl (rv_assign rfl) rfl rfl ?_)
        refine wl_nil ?_
        refine wq_then ?_
        refine wc_seq ?_
        refine wc_seq ?_
        refine wc_region ?_
        refine wl_go rfl (wo_val rfl (rv_move rfl) rfl rfl ?_)
        refine wl_go rfl (wo_val rfl (rv_cmp_i rfl rfl rfl) rfl rfl ?_)
        refine wl_nil ?_
        refine wq_then ?_
        refine wc_cut (fun l S => ∃ (v5 : Value) (w1 : World), Hp ⟨w, G0, w1, [⟨b1, .cells (gC x g).toArray 53 (0, 0)⟩]⟩ ((9, v5, (wK g (g.terms + (k : Int)) i ++ (if 0 < i then [[124]] else [])).map sv) :: (3, .slice (some ⟨g7, o7, none⟩) (byL g.rules (g.terms + (k : Int))).length cb, (byL g.rules (g.terms + (k : Int))).map iv) :: (9, v3, (linesK g k).map sv) :: []) ∧ l = [(1, .pointer (some ⟨b1, 0, none⟩)), (3, v3), (4, iv (g.terms + (k : Int))), (5, v5), (7, iv (k2 : Int)), (30, .slice (some ⟨g7, o7, none⟩) (byL g.rules (g.terms + (k : Int))).length cb), (31, iv ((byL g.rules (g.terms + (k : Int))).length : Int)), (32, iv (i : Int))] ∧ S = ⟨w, G0, w1, [⟨b1, .cells (gC x g).toArray 53 (0, 0)⟩]⟩) ?_ ?_
        · skip
          refine wc_cond rfl (fun hc38 => ?_) (fun hc38 => ?_)
          · simp only [decide_eq_true_eq, decide_eq_false_iff_not, Bool.not_eq_true', Bool.not_eq_false', bne_iff_ne, beq_iff_eq, bne_eq_false_iff_eq, beq_eq_false_iff_ne, Int.not_lt, Int.not_le] at hc38
            have hi0 : 0 < i := by omega
            refine wc_region ?_
            refine wl_go rfl (wo_val rfl (rv_move rfl) rfl rfl ?_)
            refine wl_go rfl (wo_bs [_] rfl rfl rfl (⟨rfl, rfl, ⟨_, rfl, rfl⟩, trivial⟩) rfl rfl (fun b40 hb40 => ?_))
            refine wl_go rfl (wo_append rfl rfl rfl rfl rfl [_] ⟨[_], rfl⟩ ((hH.row (9, v5, (wK g (g.terms + (k : Int)) i).map sv) (by simp)).beside hb40 |>.ids rfl) (by rw [List.length_map]; have := wK_len hl9 (g.terms + (k : Int)) i; unfold maxLen; omega) rfl rfl rfl (fun v7 w7 hR7 hm7 ho7 => ?_))
            have hH7 := hH.first (own3 := _ :: _) hm7 (by intro y hy; rcases List.mem_cons.1 hy with rfl | hy; exact .inr hb40; exact .inl ⟨y, hy, rfl⟩) (rw_snoc hR7) ho7 (fun y hy => ⟨y, hy, rfl⟩)
            refine wl_go rfl (wo_val rfl (rv_assign rfl) rfl rfl ?_)
            refine wl_nil ?_
            refine wq_cut ⟨_, ⟨v7, _, ?_, rfl, rfl⟩, by repeat (first | exact sub_nil | refine sub_cons rfl ?_)⟩
            rw [if_pos hi0, List.map_append]
            exact hH7
          · simp only [decide_eq_true_eq, decide_eq_false_iff_not, Bool.not_eq_true', Bool.not_eq_false', bne_iff_ne, beq_iff_eq, bne_eq_false_iff_eq, beq_eq_false_iff_ne, Int.not_lt, Int.not_le] at hc38
            have hi0 : ¬ 0 < i := by omega
            refine wc_skip ?_
            refine wq_cut ⟨_, ⟨v5, _, ?_, rfl, rfl⟩, by repeat (first | exact sub_nil | refine sub_cons rfl ?_)⟩
            rw [if_neg hi0, List.append_nil]
            exact hH
        · rintro l S ⟨v5, w1, hH, rfl, rfl⟩
          refine wq_then ?_
          refine wc_seq ?_
          refine wc_region ?_
          refine wl_go rfl (wo_val rfl (rv_fieldAddr rfl) rfl rfl ?_)
          refine wl_go rfl (wo_val rfl (rv_load_own (v := .slice (some ⟨g2, o2, none⟩) g.rules.length x.rc) rfl (by rw [← hrp]; rfl)) rfl rfl ?_)
          refine wl_go rfl (wo_val rfl (rv_move rfl) rfl rfl ?_)
          refine wl_go rfl (wo_val rfl (rv_indexAddr rfl rfl (by omega)) rfl rfl ?_)
          refine wl_go rfl (wo_val rfl (rv_load_cell rfl (fun w4 hs4 => hcr w4 (hs4.below rfl))) rfl rfl ?_)
          refine wl_go rfl (wo_val rfl (rv_slice_some (lv := 1) rfl ⟨.i64, 1, rfl, by omega, rfl⟩ bnd_none (by omega)) rfl rfl ?_)
          rw [e8]
          refine wl_go rfl (wo_val rfl (rv_len rfl) rfl rfl ?_)
          refine wl_go rfl (wo_val rfl (rv_move rfl) rfl rfl ?_)
          refine wl_nil ?_
          refine wq_then ?_
          refine wc_block ?_
          refine wc_loop (fun m l S => ∃ (j : Nat) (v5 : Value) (w1 : World), j ≤ (r.drop 1).length ∧ Hp ⟨w, G0, w1, [⟨b1, .cells (gC x g).toArray 53 (0, 0)⟩]⟩ ((9, v5, ((wK g (g.terms + (k : Int)) i ++ (if 0 < i then [[124]] else [])) ++ ((r.drop 1).take j).map (nmA g)).map sv) :: (3, .slice (some ⟨g7, o7, none⟩) (byL g.rules (g.terms + (k : Int))).length cb, (byL g.rules (g.terms + (k : Int))).map iv) :: (9, v3, (linesK g k).map sv) :: []) ∧ m = (r.drop 1).length - j ∧ l = [(1, .pointer (some ⟨b1, 0, none⟩)), (3, v3), (4, iv (g.terms + (k : Int))), (5, v5), (30, .slice (some ⟨g7, o7, none⟩) (byL g.rules (g.terms + (k : Int))).length cb), (31, iv ((byL g.rules (g.terms + (k : Int))).length : Int)), (32, iv (i : Int)), (47, .slice (some ⟨g8, o8, none⟩) (r.length - 1) (d - 1)), (48, iv ((r.length - 1 : Nat) : Int)), (49, iv (j : Int))] ∧ S = ⟨w, G0, w1, [⟨b1, .cells (gC x g).toArray 53 (0, 0)⟩]⟩) ⟨_, _, ⟨0, v5, _, Nat.zero_le _, (by rw [List.take_zero, List.map_nil, List.append_nil]; exact hH), rfl, rfl, rfl⟩, by repeat (first | exact sub_nil | refine sub_cons rfl ?_)⟩ ?_
          intro m l S hJ
          obtain ⟨j, v5, w1, hj, hH4, rfl, rfl, rfl⟩ := hJ
          refine wc_seq ?_
          refine wc_region ?_
          refine wl_go rfl (wo_val rfl (rv_cmp_i rfl rfl rfl) rfl rfl ?_)
          refine wl_nil ?_
          refine wq_then ?_
          refine wc_seq ?_
          refine wc_cond rfl (fun hc50 => ?_) (fun hc50 => ?_)
          · simp only [decide_eq_true_eq, decide_eq_false_iff_not, Bool.not_eq_true', Bool.not_eq_false', bne_iff_ne, beq_iff_eq, bne_eq_false_iff_eq, beq_eq_false_iff_ne, Int.not_lt, Int.not_le] at hc50
            obtain ⟨y, hy⟩ := getE (l := r.drop 1) (i := j) (by omega)
            have hyr := hfit.all y (List.mem_of_mem_drop (List.mem_of_getElem? hy))
            obtain ⟨_, _, ez, hcy⟩ := hdr.read (map_get hy)
            cases ez
            obtain ⟨ny, hny⟩ := getE (l := g.names) (i := y.toNat) (by omega)
            have hnyA : nmA g y = ny := by unfold nmA; rw [List.getD_eq_getElem?_getD, hny]; rfl
            obtain ⟨g3, o3, hnp3, hcn3⟩ := hg.names.read (map_get hny)
            refine wc_skip ?_
            refine wq_then ?_
            refine wc_seq ?_
            refine wc_block ?_
            refine wc_seq ?_
            refine wc_region ?_
            refine wl_go rfl (wo_val rfl (rv_indexAddr rfl rfl (by omega)) rfl rfl ?_)
            refine wl_go rfl (wo_val rfl (rv_load_cell rfl (fun w4 hs4 => hcy w4 (hs4.below rfl))) rfl rfl ?_)
            refine wl_go rfl (wo_val rfl (rv_assign rfl) rfl rfl ?_)
            refine wl_nil ?_
            refine wq_then ?_
            refine wc_region ?_
            refine wl_go rfl (wo_val rfl (rv_move rfl) rfl rfl ?_)
            refine wl_go rfl (wo_val rfl (rv_fieldAddr0 rfl) rfl rfl ?_)
            refine wl_go rfl (wo_val rfl (rv_load_own (v := .slice (some ⟨g3, o3, none⟩) g.names.length x.nc) rfl (by rw [← hnp3]; rfl)) rfl rfl ?_)
            refine wl_go rfl (wo_val rfl (rv_move rfl) rfl rfl ?_)
            refine wl_go rfl (wo_val rfl (rv_indexAddr rfl rfl (by omega)) rfl rfl ?_)
            refine wl_go rfl (wo_val rfl (rv_load_cell rfl (fun w4 hs4 => hcn3 w4 (hs4.below rfl))) rfl rfl ?_)
            refine wl_go rfl (wo_bs [_] rfl rfl rfl (⟨rfl, rfl, ⟨_, rfl, rfl⟩, trivial⟩) rfl rfl (fun b59 hb59 => ?_))
            refine wl_go rfl (wo_append rfl rfl rfl rfl rfl [_] ⟨[_], rfl⟩ ((hH4.row (9, v5, ((wK g (g.terms + (k : Int)) i ++ (if 0 < i then [[124]] else [])) ++ ((r.drop 1).take j).map (nmA g)).map sv) (by simp)).beside hb59 |>.ids rfl) (by have h1 := wK_len hl9 (g.terms + (k : Int)) i; have h2 := List.length_take_le j (r.drop 1); have h3 : (if 0 < i then ([[124]] : List Bs) else []).length ≤ 1 := (by split <;> simp); rw [List.length_map, List.length_append, List.length_append, List.length_map]; unfold maxLen; omega) rfl rfl rfl (fun v9 w9 hR9 hm9 ho9 => ?_))
            have hH9 := hH4.first (own3 := _ :: _) hm9 (by intro y hy; rcases List.mem_cons.1 hy with rfl | hy; exact .inr hb59; exact .inl ⟨y, hy, rfl⟩) (rw_snoc hR9) ho9 (fun y hy => ⟨y, hy, rfl⟩)
            refine wl_go rfl (wo_val rfl (rv_assign rfl) rfl rfl ?_)
            refine wl_nil ?_
            refine wq_in_normal ?_
            refine wq_then ?_
            refine wc_region ?_
            refine wl_go rfl (wo_val rfl (rv_add rfl rfl (by omega)) rfl rfl ?_)
            refine wl_go rfl (wo_val rfl (rv_move rfl) rfl rfl ?_)
            refine wl_nil ?_
            refine wq_round ⟨_, _, ⟨j + 1, v9, _, by omega, ?_, rfl, rfl, rfl⟩, by omega, by repeat (first | exact sub_nil | refine sub_cons rfl ?_)⟩
            have e4 : (wK g (g.terms + (k : Int)) i ++ (if 0 < i then [[124]] else [])) ++ ((r.drop 1).take (j + 1)).map (nmA g) = ((wK g (g.terms + (k : Int)) i ++ (if 0 < i then [[124]] else [])) ++ ((r.drop 1).take j).map (nmA g)) ++ [nmA g y] := by
              rw [List.take_add_one, hy, Option.toList_some, List.map_append, ← List.append_assoc]; rfl
            rw [e4, List.map_append]
            show Hp _ ((9, v9, _ ++ [sv (nmA g y)]) :: _)
            rw [hnyA]
            exact hH9
          · simp only [decide_eq_true_eq, decide_eq_false_iff_not, Bool.not_eq_true', Bool.not_eq_false', bne_iff_ne, beq_iff_eq, bne_eq_false_iff_eq, beq_eq_false_iff_ne, Int.not_lt, Int.not_le] at hc50
            obtain rfl : j = (r.drop 1).length := by omega
            rw [List.take_length] at hH4
            refine wc_exit ?_
            refine wq_then_exit ?_
            refine wq_then_exit ?_
            refine wq_in_here ?_
            refine wq_in_normal ?_
            refine wq_then ?_
            refine wc_region ?_
            refine wl_go rfl (wo_val rfl (rv_add rfl rfl (by omega)) rfl rfl ?_)
            refine wl_go rfl (wo_val rfl (rv_move rfl) rfl rfl ?_)
            refine wl_nil ?_
            refine wq_round ⟨_, _, ⟨i + 1, v5, _, by omega, ?_, rfl, rfl, rfl⟩, by omega, by repeat (first | exact sub_nil | refine sub_cons rfl ?_)⟩
            rw [wK, hwA, ← List.append_assoc]
            exact hH4
      · simp only [decide_eq_true_eq, decide_eq_false_iff_not, Bool.not_eq_true', Bool.not_eq_false', bne_iff_ne, beq_iff_eq, bne_eq_false_iff_eq, beq_eq_false_iff_ne, Int.not_lt, Int.not_le] at hc33
        obtain rfl : i = (byL g.rules (g.terms + (k : Int))).length := by omega
        refine wc_exit ?_
        refine wq_then_exit ?_
        refine wq_then_exit ?_
        refine wq_in_here ?_
        refine wq_then ?_
        refine wc_region ?_
        refine wl_go rfl (wo_val rfl (rv_move rfl) rfl rfl ?_)
        refine wl_go rfl (wo_val rfl (rv_move rfl) rfl rfl ?_)
        refine wl_go rfl (wo_call (R := fun _ v _ => v = _) rfl rfl (enters_of Try.func136 (by kernel_rfl) rfl) rfl rfl rfl (fun w4 hs4 => (join_of w4 v5 (wK g (g.terms + (k : Int)) (byL g.rules (g.terms + (k : Int))).length) w.heap.size _ (hH.head.at hs4) (by have := wK_len hl9 (g.terms + (k : Int)) (byL g.rules (g.terms + (k : Int))).length; omega) (wK_short hsh _ _)).mono fun e w' h => ⟨_, h.1, rfl, h.2⟩) (fun w2j vj w3j hs2j hvj hb2j hm2j => ?_))
        subst hvj
        have hHj := (hH.call hm2j rfl).third
        refine wl_go rfl (wo_val rfl (rb_cat (t := [59]) rfl rfl (by have h1 := join_len (wK g (g.terms + (k : Int)) (byL g.rules (g.terms + (k : Int))).length) 1048576 (wK_short hsh _ _); have h2 := wK_len hl9 (g.terms + (k : Int)) (byL g.rules (g.terms + (k : Int))).length; have h3 : (wK g (g.terms + (k : Int)) (byL g.rules (g.terms + (k : Int))).length).length * 1048577 ≤ 2600 * 1048577 := Nat.mul_le_mul_right _ (by omega); simp only [List.length_cons, List.length_nil]; omega)) rfl rfl ?_)
        refine wl_go rfl (wo_bs [_] rfl rfl rfl (⟨rfl, rfl, ⟨_, rfl, rfl⟩, trivial⟩) rfl rfl (fun b67 hb67 => ?_))
        refine wl_go rfl (wo_append rfl rfl rfl rfl rfl [_] ⟨[_], rfl⟩ ((hHj.row (9, v3, (linesK g k).map sv) (by simp)).beside hb67 |>.ids rfl) (by rw [List.length_map]; unfold linesK; rw [List.length_map, List.length_range]; unfold maxLen; omega) rfl rfl rfl (fun v6 w6 hR6 hm6 ho6 => ?_))
        have hH6 := hHj.first (own3 := _ :: _) hm6 (by intro y hy; rcases List.mem_cons.1 hy with rfl | hy; exact .inr hb67; exact .inl ⟨y, hy, rfl⟩) (rw_snoc hR6) ho6 (fun y hy => ⟨y, hy, rfl⟩)
        refine wl_go rfl (wo_val rfl (rv_assign rfl) rfl rfl ?_)
        refine wl_nil ?_
        refine wq_in_normal ?_
        refine wq_then ?_
        refine wc_region ?_
        refine wl_go rfl (wo_val rfl (rv_move rfl) rfl rfl ?_)
        refine wl_go rfl (wo_val rfl (rv_add rfl rfl (by omega)) rfl rfl ?_)
        refine wl_go rfl (wo_val rfl (rv_assign rfl) rfl rfl ?_)
        refine wl_nil ?_
        refine wq_round ⟨_, [(1, .pointer (some ⟨b1, 0, none⟩)), (3, v6), (4, iv ((g.terms + (k : Int)) + 1))], ⟨k + 1, v6, _, by omega, ?_, rfl, ?_, rfl⟩, by omega, by repeat (first | exact sub_nil | refine sub_cons rfl ?_)⟩
        · rw [linesK_succ, List.map_append]; exact hH6.only
        · rw [show (g.terms + (k : Int)) + 1 = g.terms + ((k + 1 : Nat) : Int) by omega]
    · simp only [decide_eq_true_eq, decide_eq_false_iff_not, Bool.not_eq_true', Bool.not_eq_false', bne_iff_ne, beq_iff_eq, bne_eq_false_iff_eq, beq_eq_false_iff_ne, Int.not_lt, Int.not_le] at hc19
      have hkn : k = g.names.length - g.terms.toNat := by omega
      refine wc_exit ?_
      refine wq_then_exit ?_
      refine wq_then_exit ?_
      refine wq_in_here ?_
      refine wq_then ?_
      refine wc_seq ?_
      refine wc_region ?_
      refine wl_go rfl (wo_val rfl (rv_move rfl) rfl rfl ?_)
      refine wl_go rfl (wo_val rfl (rv_assign rfl) rfl rfl ?_)
      refine wl_nil ?_
      refine wq_then ?_
      refine wc_ret ?_
      refine wq_ret1 rfl rfl (rr_tmp rfl) (fun w9 hs9 => ?_)
      have e1 : linesF g = linesK g k := by unfold linesF; rw [hgood, hkn]; rfl
      rw [e1]
      have h := (hH.head).at hs9
      simp only [List.length_map] at h
      exact ⟨_, rfl, h, hs9.below rfl⟩
end Go.Proofs.Ytlppkbfkajionaa.Cm
