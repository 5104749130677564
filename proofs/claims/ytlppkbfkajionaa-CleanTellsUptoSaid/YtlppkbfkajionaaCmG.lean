/- The walks of grammars: marked, Productive, Reached. -/
import Derived.Test.YtlppkbfkajionaaCmR
import Derived.Test.YtlppkbfkajionaaCmF
namespace Go.Proofs.Ytlppkbfkajionaa.Cm
open Go Go.RowKit Gw Go.Shelf
set_option linter.unusedSimpArgs false
set_option linter.unusedVariables false
set_option linter.unusedSectionVars false
def mark0k (n : Nat) (k : Nat) (t : Bool) : List Bool := (List.range n).map fun (i : Nat) => decide (i < k) && t
theorem mark0k_zero (n : Nat) (t : Bool) : List.replicate n (Value.bool false) = (mark0k n 0 t).map bv := by
  apply List.ext_getElem?
  intro i
  unfold mark0k
  rw [List.map_map, List.getElem?_map, List.getElem?_replicate]
  by_cases h : i < n
  · rw [if_pos h, List.getElem?_range h]; simp
  · rw [if_neg h, List.getElem?_eq_none (by simpa using h)]; rfl
theorem mark0k_set (n k : Nat) (t : Bool) (hk : k < n) : ((mark0k n k t).map bv).set (0 + ((k : Nat) : Int).toNat * 1) (bv t) = (mark0k n (k + 1) t).map bv := by
  apply List.ext_getElem?
  intro i
  unfold mark0k
  rw [List.getElem?_set, List.map_map, List.map_map, List.getElem?_map, List.getElem?_map]
  by_cases h : i < n
  · rw [List.getElem?_range h]
    by_cases e : 0 + ((k : Nat) : Int).toNat * 1 = i
    · rw [if_pos e, if_pos (by simp; omega)]
      simp
      intro h2; omega
    · rw [if_neg e]
      simp
      rw [show decide (i < k) = decide (i < k + 1) by rw [Bool.eq_iff_iff]; simp; omega]
  · rw [List.getElem?_eq_none (by simpa using h), if_neg (by simp; omega)]; rfl
theorem mark0k_all (g : Gr) (t : Bool) (h : 0 ≤ g.terms) : mark0k g.names.length g.terms.toNat t = mark0 g t := by
  unfold mark0k mark0
  refine List.map_congr_left fun i _ => ?_
  rw [show decide (i < g.terms.toNat) = decide ((i : Int) < g.terms) by rw [Bool.eq_iff_iff]; simp <;> omega]
theorem own_base {w : World} {b0 b1 e n : Nat} {v : Value} {cs : List Value} (h : w.ownsRow b1 e 1 v n cs) (hle : b0 ≤ b1) : w.ownsRow b0 e 1 v n cs := ⟨h.1, h.2.imp id (fun ⟨g, cap, cur, hv, hg, r⟩ => ⟨g, cap, cur, hv, Nat.le_trans hle hg, r⟩)⟩
theorem own_all {w : World} {base b n : Nat} {σ : List Bool} (hl : σ.length = n) (ho : w.heap[b]? = some (.cells (σ.map bv).toArray 4 (0, 0))) (hb : base ≤ b) (hn : n ≤ maxLen) : w.ownsRow base 4 1 (.slice (some ⟨b, 0, none⟩) σ.length n) σ.length (σ.map bv) := by
  subst hl
  exact ⟨by simp, .inr ⟨b, σ.length, _, rfl, hb, ho, Nat.le_refl _, hn, by simp, by rw [Nat.mul_one]; exact List.take_of_length_le (by simp)⟩⟩
theorem still_blk {W w3 w9 : World} {gs gs' : Gx} {own : List Blk} (h3 : St ⟨W, gs, w3, own⟩ w3) (h9 : St ⟨W, gs', w3, own⟩ w9) (g : Nat) (hg : g < w3.heap.size) : w9.heap[g]? = w3.heap[g]? := by
  by_cases e : ∃ x ∈ own, x.b = g
  · obtain ⟨x, hx, rfl⟩ := e
    rw [h9.blk x hx, h3.blk x hx]
  · exact h9.old0 g hg (fun x hx e2 => e ⟨x, hx, e2⟩)
theorem own_still {W w3 w9 : World} {gs gs' : Gx} {own : List Blk} {base e n : Nat} {v : Value} {cs : List Value} (h : w3.ownsRow base e 1 v n cs) (h3 : St ⟨W, gs, w3, own⟩ w3) (h9 : St ⟨W, gs', w3, own⟩ w9) : w9.ownsRow base e 1 v n cs := own_moved h fun b hb => still_blk h3 h9 b (World.ownsRow.lt h b hb).2
set_option maxHeartbeats 1000000 in
theorem marked_calls (x : GS) (g : Gr) (t : Bool) (w : World) (hg : Gm w x g) : Calls Try.prog 108 #[.agg (gC x g).toArray, bv t] w fun e w' => ∃ p c, e = .returned (.slice p (markF g t).length c) ∧ Rv w' p c ((markF g t).map bv) ∧ w'.ownsRow w.heap.size 4 1 (.slice p (markF g t).length c) (markF g t).length ((markF g t).map bv) ∧ Below w.heap.size w w' := by
  refine calls_start Try.func108 rfl (N := 29) rfl rfl _ (St.start _) rfl ?_
  refine wc_seq ?_
  refine wc_region ?_
  refine wl_go rfl (wo_box rfl rfl rfl rfl rfl (fun b2 hb2 => ?_))
  refine wl_go rfl (wo_val rfl (rv_assign rfl) rfl rfl ?_)
  refine wl_nil ?_
  refine wq_then ?_
  refine wc_seq ?_
  refine wc_seq ?_
  refine wc_region ?_
  refine wl_go rfl (wo_val rfl (rv_load_own_row rfl) rfl rfl ?_)
  refine wl_go rfl (wo_call (R := fun _ v _ => v = _) rfl rfl (enters_of Try.func146 (by kernel_rfl) rfl) rfl rfl rfl (fun w4 hs4 => (sright_calls x g w4 (hg.below (hs4.below rfl))).mono fun e w' h => ⟨_, h.1, rfl, h.2⟩) (fun w2 v w3 hs2 hv hb2 hm2 => ?_))
  subst hv
  refine wl_go rfl (wo_val rfl (rv_not rfl) rfl rfl ?_)
  refine wl_nil ?_
  refine wq_then ?_
  refine wc_cond rfl (fun hc9 => ?_) (fun hc9 => ?_)
  · simp only [decide_eq_true_eq, decide_eq_false_iff_not, Bool.not_eq_true', Bool.not_eq_false', bne_iff_ne, beq_iff_eq, bne_eq_false_iff_eq, beq_eq_false_iff_ne, Int.not_lt, Int.not_le] at hc9
    have hbad : okB g = false := hc9
    refine wc_seq ?_
    refine wc_region ?_
    refine wl_go rfl (wo_val rfl (rv_assign rfl) rfl rfl ?_)
    refine wl_nil ?_
    refine wq_then ?_
    refine wc_ret ?_
    refine wq_then_ret ?_
    refine wq_ret1 rfl rfl (rr_tmp rfl) (fun w9 hs9 => ?_)
    have e1 : markF g t = [] := by unfold markF; rw [hbad]; rfl
    rw [e1]
    exact ⟨none, 0, rfl, Rv.nil _, World.ownsRow_nil _ _ _ _, hs9.below rfl⟩
  · simp only [decide_eq_true_eq, decide_eq_false_iff_not, Bool.not_eq_true', Bool.not_eq_false', bne_iff_ne, beq_iff_eq, bne_eq_false_iff_eq, beq_eq_false_iff_ne, Int.not_lt, Int.not_le] at hc9
    have hok := (okB_iff g).1 hc9
    have hgood : okB g = true := hc9
    have hw3 : w.heap.size ≤ w3.heap.size := Nat.le_trans hs2.size0 hb2.size
    have hnm := hok.nm
    have ht0 := hok.t0
    have ht1 := hok.t1
    refine wc_skip ?_
    refine wq_then ?_
    refine wc_seq ?_
    refine wc_region ?_
    refine wl_go rfl (wo_val rfl (rv_fieldAddr0 rfl) rfl rfl ?_)
    refine wl_go rfl (wo_val rfl (rv_load_own rfl rfl) rfl rfl ?_)
    refine wl_go rfl (wo_val rfl (rv_len rfl) rfl rfl ?_)
    refine wl_go rfl (wo_makeSlice (m := g.names.length) rfl rfl rfl rfl rfl (by omega) (fun b13 hb13 => ?_))
    refine wl_go rfl (wo_alloc rfl rfl rfl (fun b5 hb5 => ?_))
    refine wl_go rfl (wo_st rfl rfl rfl rfl rfl rfl rfl ?_)
    refine wl_nil ?_
    refine wq_then ?_
    refine wc_seq ?_
    refine wc_seq ?_
    refine wc_region ?_
    refine wl_go rfl (wo_val rfl (rv_fieldAddr rfl) rfl rfl ?_)
    refine wl_go rfl (wo_val rfl (rv_load_own rfl rfl) rfl rfl ?_)
    refine wl_go rfl (wo_val rfl (rv_move rfl) rfl rfl ?_)
    refine wl_nil ?_
    refine wq_then ?_
    refine wc_block ?_
    rw [mark0k_zero _ t]
    refine wc_loop (fun m l S => ∃ (k : Nat) (w1 : World), (k : Int) ≤ g.terms ∧ w.heap.size ≤ w1.heap.size ∧ m = g.terms.toNat - k ∧ l = [(1, bv t), (2, .pointer (some ⟨b2, 0, none⟩)), (5, .pointer (some ⟨b5, 0, none⟩)), (15, iv g.terms), (16, iv (k : Int))] ∧ S = ⟨w, G0, w1, [⟨b5, .cells ([.slice (some ⟨b13, 0, none⟩) g.names.length g.names.length] : List Value).toArray 28 (0, 0)⟩, ⟨b13, .cells ((mark0k g.names.length k t).map bv).toArray 4 (0, 0)⟩, ⟨b2, .cells (gC x g).toArray 53 (0, 0)⟩]⟩) ⟨_, _, ⟨0, _, by omega, (Nat.le_trans hs2.size0 hb2.size), rfl, rfl, rfl⟩, by repeat (first | exact sub_nil | refine sub_cons rfl ?_)⟩ ?_
    intro m l S hJ
    obtain ⟨k, w1, hk, hw1, rfl, rfl, rfl⟩ := hJ
    refine wc_seq ?_
    refine wc_region ?_
    refine wl_go rfl (wo_val rfl (rv_cmp_i rfl rfl rfl) rfl rfl ?_)
    refine wl_nil ?_
    refine wq_then ?_
    refine wc_seq ?_
    refine wc_cond rfl (fun hc17 => ?_) (fun hc17 => ?_)
    · simp only [decide_eq_true_eq, decide_eq_false_iff_not, Bool.not_eq_true', Bool.not_eq_false', bne_iff_ne, beq_iff_eq, bne_eq_false_iff_eq, beq_eq_false_iff_ne, Int.not_lt, Int.not_le] at hc17
      refine wc_skip ?_
      refine wq_then ?_
      refine wc_seq ?_
      refine wc_block ?_
      refine wc_seq ?_
      refine wc_region ?_
      refine wl_go rfl (wo_val rfl (rv_move rfl) rfl rfl ?_)
      refine wl_go rfl (wo_val rfl (rv_assign rfl) rfl rfl ?_)
      refine wl_nil ?_
      refine wq_then ?_
      refine wc_region ?_
      refine wl_go rfl (wo_val rfl (rv_load_own rfl rfl) rfl rfl ?_)
      refine wl_go rfl (wo_val rfl (rv_move rfl) rfl rfl ?_)
      refine wl_go rfl (wo_val rfl (rv_move rfl) rfl rfl ?_)
      refine wl_go rfl (wo_val rfl (rv_indexAddr rfl rfl (by omega)) rfl rfl ?_)
      refine wl_go rfl (wo_store_at rfl rfl rfl rfl rfl rfl (by simp [mark0k]; omega) ?_)
      refine wl_nil ?_
      refine wq_in_normal ?_
      refine wq_then ?_
      refine wc_region ?_
      refine wl_go rfl (wo_val rfl (rv_add rfl rfl (by omega)) rfl rfl ?_)
      refine wl_go rfl (wo_val rfl (rv_move rfl) rfl rfl ?_)
      refine wl_nil ?_
      rw [mark0k_set _ _ _ (by omega)]
      exact wq_round ⟨_, _, ⟨k + 1, _, by omega, hw1, rfl, rfl, rfl⟩, by omega, by repeat (first | exact sub_nil | refine sub_cons rfl ?_)⟩
    · simp only [decide_eq_true_eq, decide_eq_false_iff_not, Bool.not_eq_true', Bool.not_eq_false', bne_iff_ne, beq_iff_eq, bne_eq_false_iff_eq, beq_eq_false_iff_ne, Int.not_lt, Int.not_le] at hc17
      obtain rfl : k = g.terms.toNat := by omega
      rw [mark0k_all g t ht0]
      have hSg : ∀ {w4}, St ⟨w, G0, w1, [⟨b5, .cells ([.slice (some ⟨b13, 0, none⟩) g.names.length g.names.length] : List Value).toArray 28 (0, 0)⟩, ⟨b13, .cells ((mark0 g t).map bv).toArray 4 (0, 0)⟩, ⟨b2, .cells (gC x g).toArray 53 (0, 0)⟩]⟩ w4 → Sg w4 b5 b13 (mark0 g t) := fun hs => ⟨by rw [mark0_len]; exact hs.blk ⟨b5, _⟩ (by simp), hs.blk ⟨b13, _⟩ (by simp), by rw [mark0_len]; omega⟩
      refine wc_exit ?_
      refine wq_then_exit ?_
      refine wq_then_exit ?_
      refine wq_in_here ?_
      refine wq_then ?_
      refine wc_seq ?_
      refine wc_region ?_
      refine wl_go rfl (wo_val rfl (rv_fieldAddr rfl) rfl rfl ?_)
      refine wl_go rfl (wo_val rfl (rv_load_own rfl rfl) rfl rfl ?_)
      refine wl_go rfl (wo_val rfl (rv_makeFunc rfl rfl) rfl rfl ?_)
      refine wl_go rfl (wo_call_own (R := fun w2 v w3 => ∃ n, (sweep g.rules (it (fun σ => (sweep g.rules σ).2) n (mark0 g t))).1 = false ∧ Sg w3 b5 b13 (it (fun σ => (sweep g.rules σ).2) n (mark0 g t))) (q := b13) (own2 := [⟨b5, _⟩, ⟨b2, _⟩]) rfl rfl (enters_of Try.func147 (by kernel_rfl) rfl) rfl rfl rfl 1 rfl rfl (fun w4 hs4 => (until_calls b5 b13 (mark0 g t) x.rp x.rc g.rules w4 (hSg hs4) (hg.rules.below (hs4.below rfl)) (fun r hr => by rw [mark0_len]; exact hok.ins r hr)).mono fun e w' h => let ⟨n, h1, h2, h3, h4⟩ := h; ⟨_, h1, ⟨n, h2, h3⟩, h4⟩) (fun w2 v w3 hs2 hv hg2 hm2 hne2 => ?_))
      obtain ⟨n, hend, hS3⟩ := hv
      rw [mark_is hok t hend] at hS3
      refine wl_nil ?_
      refine wq_then ?_
      refine wc_seq ?_
      refine wc_region ?_
      refine wl_go rfl (wo_val rfl (rv_load_own rfl rfl) rfl rfl ?_)
      refine wl_go rfl (wo_val rfl (rv_assign rfl) rfl rfl ?_)
      refine wl_nil ?_
      refine wq_then ?_
      refine wc_ret ?_
      refine wq_ret1 rfl rfl (rr_tmp rfl) (fun w9 hs9 => ?_)
      have hml := markF_len hgood t
      refine ⟨some ⟨b13, 0, none⟩, g.names.length, by rw [hml], ?_, ?_, hs9.below rfl⟩
      all_goals have ho : w9.heap[b13]? = some (.cells ((markF g t).map bv).toArray 4 (0, 0)) := by rw [hs9.old0 b13 hS3.lto hne2]; exact hS3.o
      · exact Rv.own ho (by rw [List.length_map, hml]; omega)
      · exact own_all hml ho (Nat.le_trans hw3 hb13) (by unfold maxLen; omega)
theorem productive_calls (x : GS) (g : Gr) (w : World) (hg : Gm w x g) : Calls Try.prog 41 #[.agg (gC x g).toArray] w fun e w' => ∃ p c, e = .returned (.slice p (markF g true).length c) ∧ Rv w' p c ((markF g true).map bv) ∧ w'.ownsRow w.heap.size 4 1 (.slice p (markF g true).length c) (markF g true).length ((markF g true).map bv) ∧ Below w.heap.size w w' := by
  refine calls_start Try.func41 rfl (N := 5) rfl rfl _ (St.start _) rfl ?_
  refine wc_seq ?_
  refine wc_region ?_
  refine wl_go rfl (wo_box rfl rfl rfl rfl rfl (fun b1 hb1 => ?_))
  refine wl_go rfl (wo_val rfl (rv_assign rfl) rfl rfl ?_)
  refine wl_nil ?_
  refine wq_then ?_
  refine wc_seq ?_
  refine wc_region ?_
  refine wl_go rfl (wo_val rfl (rv_load_own_row rfl) rfl rfl ?_)
  refine wl_go rfl (wo_call (R := fun w2 v w3 => ∃ p c, v = .slice p (markF g true).length c ∧ Rv w3 p c ((markF g true).map bv) ∧ w3.ownsRow w2.heap.size 4 1 (.slice p (markF g true).length c) (markF g true).length ((markF g true).map bv)) rfl rfl (enters_of Try.func108 (by kernel_rfl) rfl) rfl rfl rfl (fun w4 hs4 => (marked_calls x g true w4 (hg.below (hs4.below rfl))).mono fun e w' h => let ⟨p, c, h1, h2, h4, h3⟩ := h; ⟨_, h1, ⟨p, c, rfl, h2, h4⟩, h3⟩) (fun w2 v w3 hs2 hv hb2 hm2 => ?_))
  obtain ⟨p, c, rfl, hr, ho⟩ := hv
  refine wl_go rfl (wo_val rfl (rv_assign rfl) rfl rfl ?_)
  refine wl_nil ?_
  refine wq_then ?_
  refine wc_ret ?_
  refine wq_ret1 rfl rfl (rr_tmp rfl) (fun w9 hs9 => ?_)
  have h3 := (hs2.more hb2).name
  exact ⟨p, c, rfl, hr.still h3 hs9, own_still (own_base ho hs2.size0) h3 hs9, hs9.below rfl⟩
theorem rw_cell {S : Sx} {e g o n c i : Nat} {xs : List Value} {u : Value} {w4 : World} (h : Rw S e 1 (.slice (some ⟨g, o, none⟩) n c) n xs) (hx : xs[i]? = some u) (hs : St S w4) : w4.cell? ⟨g, o + i * 1, none⟩ = some u := by
  obtain ⟨g1, o1, hp, hc⟩ := (rv_slice_of (h.at hs)).at_ i u hx
  cases hp; exact hc
theorem push_snoc (rs : List (List Int)) (bl : List Int) (k : Nat) {i : Int} {r : List Int} (hk : bl[k]? = some i) (hr : rs[i.toNat]? = some r) : pushL rs (bl.take (k + 1)) = pushL rs (bl.take k) ++ r.drop 1 := by
  unfold pushL
  rw [List.take_add_one, hk, Option.toList_some, List.flatMap_append]
  simp [List.getD_eq_getElem?_getD, hr]
theorem push_len (rs : List (List Int)) (bl : List Int) (h : ∀ r ∈ rs, r.length ≤ 9) : (pushL rs bl).length ≤ bl.length * 9 := by
  unfold pushL
  induction bl with
  | nil => simp
  | cons i bl ih =>
    rw [List.flatMap_cons, List.length_append, List.length_cons, Nat.succ_mul]
    have : ((rs.getD i.toNat []).drop 1).length ≤ 9 := by
      rw [List.length_drop, List.getD_eq_getElem?_getD]
      cases h1 : rs[i.toNat]? with
      | none => simp
      | some r => have := h r (List.mem_of_getElem? h1); simp; omega
    omega
theorem rw_conv {S : Sx} {e n m : Nat} {v : Value} {xs ys : List Value} (h : Rw S e 1 v n xs) (hn : n = m) (hx : xs = ys) : Rw S e 1 v m ys := by subst hn; subst hx; exact h
theorem Hp.one {S : Sx} {e : Nat} {v : Value} {xs : List Value} (h : Rw S e 1 v xs.length xs) : Hp S [(e, v, xs)] := ⟨fun y hy => (by simp at hy; subst hy; exact h), List.pairwise_singleton _ _⟩
theorem meas {a b j s t : Nat} (hf : a < b) (h1 : s ≤ j + 2304) (h2 : t = j + 1) : a * 3000 + s < b * 3000 + t := by omega
theorem falses_mk {σ : List Bool} {z : Int} (hz : 0 ≤ z ∧ z < (σ.length : Int)) (h : bg σ z = false) : falses (mk σ z) < falses σ := (falses_mono (le_mk σ hz)).2 fun e => by
  have h1 := bg_mk σ hz hz.1
  rw [e, h] at h1
  simp at h1
theorem drop_cells {w w4 : World} {g1 o1 d : Nat} {r : List Int} (hrow : Rv w (some ⟨g1, o1, none⟩) d (r.map iv)) (hp : 1 ≤ r.length) (hb4 : Below w.heap.size w w4) (j : Nat) (u : Value) (hu : ((r.drop 1).map iv)[j]? = some u) : w4.cell? ((if d = 1 then (⟨g1, o1, none⟩ : Addr) else (⟨g1, o1, none⟩ : Addr).add (1 * 1)).add j) = some u := by
  have h := (hrow.drop 1 (by simpa using hp)).below hb4
  rw [← List.map_drop] at h
  obtain ⟨g6, o6, hp, hc⟩ := h.at_ j u hu
  have e1 : (if d = 1 then (⟨g1, o1, none⟩ : Addr) else (⟨g1, o1, none⟩ : Addr).add (1 * 1)) = ⟨g6, o6, none⟩ := by
    by_cases h1 : d = 1
    · rw [if_pos h1] at hp ⊢
      cases hp; rfl
    · rw [if_neg h1] at hp ⊢
      simpa using hp
  rw [e1, add_addr]; simpa using hc
set_option maxHeartbeats 2000000 in
theorem reached_calls (x : GS) (g : Gr) (w : World) (hg : Gm w x g) : Calls Try.prog 109 #[.agg (gC x g).toArray] w fun e w' => ∃ p c, e = .returned (.slice p (reachF g).length c) ∧ Rv w' p c ((reachF g).map bv) ∧ Below w.heap.size w w' := by
  refine calls_start Try.func109 rfl (N := 57) rfl rfl _ (St.start _) rfl ?_
  refine wc_seq ?_
  refine wc_region ?_
  refine wl_go rfl (wo_box rfl rfl rfl rfl rfl (fun b1 hb1 => ?_))
  refine wl_go rfl (wo_val rfl (rv_assign rfl) rfl rfl ?_)
  refine wl_nil ?_
  refine wq_then ?_
  refine wc_seq ?_
  refine wc_seq ?_
  refine wc_region ?_
  refine wl_go rfl (wo_val rfl (rv_load_own_row rfl) rfl rfl ?_)
  refine wl_go rfl (wo_call (R := fun _ v _ => v = _) rfl rfl (enters_of Try.func146 (by kernel_rfl) rfl) rfl rfl rfl (fun w4 hs4 => (sright_calls x g w4 (hg.below (hs4.below rfl))).mono fun e w' h => ⟨_, h.1, rfl, h.2⟩) (fun w2 v w3 hs2 hv hb2 hm2 => ?_))
  subst hv
  refine wl_go rfl (wo_val rfl (rv_not rfl) rfl rfl ?_)
  refine wl_nil ?_
  refine wq_then ?_
  refine wc_cond rfl (fun hc10 => ?_) (fun hc10 => ?_)
  · simp only [decide_eq_true_eq, decide_eq_false_iff_not, Bool.not_eq_true', Bool.not_eq_false', bne_iff_ne, beq_iff_eq, bne_eq_false_iff_eq, beq_eq_false_iff_ne, Int.not_lt, Int.not_le] at hc10
    have hbad : okB g = false := hc10
    refine wc_seq ?_
    refine wc_region ?_
    refine wl_go rfl (wo_val rfl (rv_assign rfl) rfl rfl ?_)
    refine wl_nil ?_
    refine wq_then ?_
    refine wc_ret ?_
    refine wq_then_ret ?_
    refine wq_ret1 rfl rfl (rr_tmp rfl) (fun w9 hs9 => ?_)
    have e1 : reachF g = [] := by unfold reachF; rw [hbad]; rfl
    rw [e1]
    exact ⟨none, 0, rfl, Rv.nil _, hs9.below rfl⟩
  · simp only [decide_eq_true_eq, decide_eq_false_iff_not, Bool.not_eq_true', Bool.not_eq_false', bne_iff_ne, beq_iff_eq, bne_eq_false_iff_eq, beq_eq_false_iff_ne, Int.not_lt, Int.not_le] at hc10
    have hok := (okB_iff g).1 hc10
    have hgood : okB g = true := hc10
    have hw3 : w.heap.size ≤ w3.heap.size := Nat.le_trans hs2.size0 hb2.size
    have hnm := hok.nm
    have hr2 := hok.r2
    have hst := hok.start
    have hI : Ins g.names.length g.rules := hok.ins
    refine wc_skip ?_
    refine wq_then ?_
    refine wc_seq ?_
    refine wc_region ?_
    refine wl_go rfl (wo_val rfl (rv_fieldAddr0 rfl) rfl rfl ?_)
    refine wl_go rfl (wo_val rfl (rv_load_own rfl rfl) rfl rfl ?_)
    refine wl_go rfl (wo_val rfl (rv_len rfl) rfl rfl ?_)
    refine wl_go rfl (wo_makeSlice (m := g.names.length) rfl rfl rfl rfl rfl (by omega) (fun b14 hb14 => ?_))
    refine wl_go rfl (wo_val rfl (rv_assign rfl) rfl rfl ?_)
    refine wl_nil ?_
    refine wq_then ?_
    refine wc_seq ?_
    refine wc_region ?_
    refine wl_go rfl (wo_val rfl (rv_fieldAddr rfl) rfl rfl ?_)
    refine wl_go rfl (wo_val rfl (rv_load_own rfl rfl) rfl rfl ?_)
    refine wl_go rfl (wo_bs [_] rfl rfl rfl (⟨rfl, rfl, ⟨_, rfl, rfl⟩, trivial⟩) rfl rfl (fun b17 hb17 => ?_))
    refine wl_go rfl (wo_val rfl (rv_assign rfl) rfl rfl ?_)
    refine wl_name [_, _] ⟨[_], rfl⟩ (fun w5 hs5 => ?_)
    have hR0 := rw_lit (cs := [iv g.start]) hs5 (Nat.le_trans hw3 hb17) (by simp [maxLen])
    refine wl_nil ?_
    refine wq_then ?_
    refine wc_seq ?_
    refine wc_block ?_
    have e0 : List.replicate g.names.length (Value.bool false) = (List.replicate g.names.length false).map bv := by rw [List.map_replicate]
    rw [e0]
    rw [e0] at hR0
    refine wc_loop (fun m l S => ∃ (σ : List Bool) (st : List Int) (v : Value) (w1 : World), Rw ⟨w, G0, w1, [⟨b14, .cells (σ.map bv).toArray 4 (0, 0)⟩, ⟨b1, .cells (gC x g).toArray 53 (0, 0)⟩]⟩ 3 1 v st.length (st.map iv) ∧ DI g.rules g.start g.names.length σ st ∧ falses σ * 3000 + st.length ≤ g.names.length * 3000 + 1 ∧ m = falses σ * 3000 + st.length ∧ l = [(1, .pointer (some ⟨b1, 0, none⟩)), (3, .slice (some ⟨b14, 0, none⟩) g.names.length g.names.length), (4, v)] ∧ S = ⟨w, G0, w1, [⟨b14, .cells (σ.map bv).toArray 4 (0, 0)⟩, ⟨b1, .cells (gC x g).toArray 53 (0, 0)⟩]⟩) ⟨_, _, ⟨List.replicate g.names.length false, [g.start], _, _, hR0, di_start _ hst.2, by have := falses_le (List.replicate g.names.length false); simp at this ⊢; omega, rfl, rfl, rfl⟩, by repeat (first | exact sub_nil | refine sub_cons rfl ?_)⟩ ?_
    intro m l S hJ
    obtain ⟨σ, st, v, w1, hR, hD, hms, rfl, rfl, rfl⟩ := hJ
    obtain ⟨pv, cv, rfl, hrvv⟩ := rv_ofn hR.own
    have hcv := hrvv.cap
    rw [List.length_map] at hcv
    refine wc_seq ?_
    refine wc_seq ?_
    refine wc_region ?_
    refine wl_go rfl (wo_val rfl (rv_move rfl) rfl rfl ?_)
    refine wl_go rfl (wo_val rfl (rv_len rfl) rfl rfl ?_)
    refine wl_go rfl (wo_val rfl (rv_cmp_i rfl rfl rfl) rfl rfl ?_)
    refine wl_nil ?_
    refine wq_then ?_
    refine wc_cond rfl (fun hc20 => ?_) (fun hc20 => ?_)
    · simp only [decide_eq_true_eq, decide_eq_false_iff_not, Bool.not_eq_true', Bool.not_eq_false', bne_iff_ne, beq_iff_eq, bne_eq_false_iff_eq, beq_eq_false_iff_ne, Int.not_lt, Int.not_le] at hc20
      obtain ⟨j, hj⟩ : ∃ j, st.length = j + 1 := ⟨st.length - 1, by omega⟩
      obtain ⟨z, hz⟩ := getE (l := st) (i := j) (by omega)
      have hzr := hD.inn z (List.mem_of_getElem? hz)
      obtain ⟨g5, o5, rfl, _⟩ := hrvv.at_ j _ (map_get hz)
      have hz4 : ∀ w4, St ⟨w, G0, w1, [⟨b14, .cells (σ.map bv).toArray 4 (0, 0)⟩, ⟨b1, .cells (gC x g).toArray 53 (0, 0)⟩]⟩ w4 → w4.cell? ⟨g5, o5 + ((st.length : Int) - 1).toNat * 1, none⟩ = some (iv z) := fun w4 hs4 => by
        rw [show ((st.length : Int) - 1).toNat = j by omega]
        exact rw_cell hR (map_get hz) hs4
      have hk9 : ((st.length : Int) - 1).toNat = j := by omega
      have hjl : (st.take j).length = j := by rw [List.length_take]; omega
      have hRc := rw_cut hR (k := ((st.length : Int) - 1).toNat) (by omega)
      have hRd := rw_conv hRc (m := ((st.take j).map iv).length) (ys := (st.take j).map iv) (by rw [List.length_map, hjl]; exact hk9) (by rw [hk9, List.map_take])
      have hstj : st = st.take j ++ [z] := by
        have h := List.take_append_drop j st
        rw [List.drop_eq_getElem_cons (by omega), List.drop_eq_nil_of_le (by omega)] at h
        have hz2 : st[j]'(by omega) = z := by rw [List.getElem?_eq_getElem (by omega)] at hz; exact Option.some.inj hz
        rw [hz2] at h; exact h.symm
      have hD1 := hD
      rw [hstj] at hD1
      refine wc_skip ?_
      refine wq_then ?_
      refine wc_block ?_
      refine wc_seq ?_
      refine wc_region ?_
      refine wl_go rfl (wo_val rfl (rv_move rfl) rfl rfl ?_)
      refine wl_go rfl (wo_val rfl (rv_move rfl) rfl rfl ?_)
      refine wl_go rfl (wo_val rfl (rv_len rfl) rfl rfl ?_)
      refine wl_go rfl (wo_val rfl (rv_sub rfl rfl (by omega)) rfl rfl ?_)
      refine wl_go rfl (wo_val rfl (rv_indexAddr rfl rfl (by omega)) rfl rfl ?_)
      refine wl_go rfl (wo_val rfl (rv_load_cell rfl (fun w4 hs4 => hz4 w4 hs4)) rfl rfl ?_)
      refine wl_go rfl (wo_val rfl (rv_assign rfl) rfl rfl ?_)
      refine wl_nil ?_
      refine wq_then ?_
      refine wc_seq ?_
      refine wc_region ?_
      refine wl_go rfl (wo_val rfl (rv_move rfl) rfl rfl ?_)
      refine wl_go rfl (wo_val rfl (rv_move rfl) rfl rfl ?_)
      refine wl_go rfl (wo_val rfl (rv_len rfl) rfl rfl ?_)
      refine wl_go rfl (wo_val rfl (rv_sub rfl rfl (by omega)) rfl rfl ?_)
      refine wl_go rfl (wo_val rfl (rv_slice rfl bnd_none (bnd_some rfl (by omega)) (by omega)) rfl rfl ?_)
      refine wl_go rfl (wo_val rfl (rv_assign rfl) rfl rfl ?_)
      refine wl_nil ?_
      refine wq_then ?_
      refine wc_seq ?_
      refine wc_seq ?_
      refine wc_region ?_
      refine wl_go rfl (wo_val rfl (rv_move rfl) rfl rfl ?_)
      refine wl_go rfl (wo_val rfl (rv_move rfl) rfl rfl ?_)
      refine wl_go rfl (wo_val rfl (rv_indexAddr rfl rfl (by omega)) rfl rfl ?_)
      refine wl_go rfl (wo_val rfl (rv_load_own (v := bv (bg σ z)) rfl (bg_cell (by rw [hD.len]; exact hzr))) rfl rfl ?_)
      refine wl_nil ?_
      refine wq_then ?_
      refine wc_cond rfl (fun hc35 => ?_) (fun hc35 => ?_)
      · skip
        refine wc_exit ?_
        refine wq_then_exit ?_
        refine wq_in_here ?_
        refine wq_round ⟨_, _, ⟨σ, st.take j, _, _, rw_conv hRd (by rw [List.length_map]) rfl, di_skip hD1 hc35, by omega, rfl, rfl, rfl⟩, by omega, by repeat (first | exact sub_nil | refine sub_cons rfl ?_)⟩
      · skip
        refine wc_skip ?_
        refine wq_then ?_
        refine wc_seq ?_
        refine wc_region ?_
        refine wl_go rfl (wo_val rfl (rv_move rfl) rfl rfl ?_)
        refine wl_go rfl (wo_val rfl (rv_move rfl) rfl rfl ?_)
        refine wl_go rfl (wo_val rfl (rv_indexAddr rfl rfl (by omega)) rfl rfl ?_)
        refine wl_go rfl (wo_store_at rfl rfl rfl rfl rfl rfl (by rw [List.length_map, hD.len]; omega) ?_)
        rw [map_mk]
        refine wl_nil ?_
        refine wq_then ?_
        refine wc_seq ?_
        refine wc_region ?_
        refine wl_go rfl (wo_val rfl (rv_load_own_row rfl) rfl rfl ?_)
        refine wl_go rfl (wo_val rfl (rv_move rfl) rfl rfl ?_)
        refine wl_go rfl (wo_call (R := fun w2 v w3 => w3.ownsRow w2.heap.size 3 1 v (byL g.rules z).length ((byL g.rules z).map iv)) rfl rfl (enters_of Try.func135 (by kernel_rfl) rfl) rfl rfl rfl (fun w4 hs4 => (by_calls x g z w4 (hg.below (hs4.below rfl)) (by omega)).mono fun e w' h => let ⟨v, h1, h2, h3⟩ := h; ⟨v, h1, h2, h3⟩) (fun w2b vb w3b hs2b hvb hb2b hm2b => ?_))
        obtain ⟨pb, cb, rfl, _⟩ := rv_ofn hvb
        refine wl_go rfl (wo_val rfl (rv_len rfl) rfl rfl ?_)
        refine wl_go rfl (wo_val rfl (rv_move rfl) rfl rfl ?_)
        refine wl_nil ?_
        refine wq_then ?_
        refine wc_block ?_
        have hH0 := (((Hp.one hRd).ids (gs' := G0) (own' := [⟨b14, .cells ((mk σ z).map bv).toArray 4 (0, 0)⟩, ⟨b1, .cells (gC x g).toArray 53 (0, 0)⟩]) rfl).new hs2b hm2b hvb).swap
        have hbl : (byL g.rules z).length ≤ 256 := Nat.le_trans (byL_len _ _) hr2
        refine wc_loop (fun m l S => ∃ (k : Nat) (v : Value) (st2 : List Int) (w1 : World), k ≤ (byL g.rules z).length ∧ Hp ⟨w, G0, w1, [⟨b14, .cells ((mk σ z).map bv).toArray 4 (0, 0)⟩, ⟨b1, .cells (gC x g).toArray 53 (0, 0)⟩]⟩ [(3, v, st2.map iv), (3, .slice pb (byL g.rules z).length cb, (byL g.rules z).map iv)] ∧ st2 = st.take j ++ pushL g.rules ((byL g.rules z).take k) ∧ m = (byL g.rules z).length - k ∧ l = [(1, .pointer (some ⟨b1, 0, none⟩)), (3, .slice (some ⟨b14, 0, none⟩) g.names.length g.names.length), (4, v), (41, .slice pb (byL g.rules z).length cb), (42, iv ((byL g.rules z).length : Int)), (43, iv (k : Int))] ∧ S = ⟨w, G0, w1, [⟨b14, .cells ((mk σ z).map bv).toArray 4 (0, 0)⟩, ⟨b1, .cells (gC x g).toArray 53 (0, 0)⟩]⟩) ⟨_, _, ⟨0, _, st.take j, _, Nat.zero_le _, hH0, by simp [pushL], rfl, rfl, rfl⟩, by repeat (first | exact sub_nil | refine sub_cons rfl ?_)⟩ ?_
        intro m l S hJ
        obtain ⟨k, v, st2, w1, hk, hH, hst2, rfl, rfl, rfl⟩ := hJ
        have hs2l : st2.length ≤ j + 2304 := by
          have h1 := push_len g.rules ((byL g.rules z).take k) (fun r hr => (hok.fits hr).len)
          have h2 := List.length_take_le k (byL g.rules z)
          rw [hst2, List.length_append, hjl]; omega
        refine wc_seq ?_
        refine wc_region ?_
        refine wl_go rfl (wo_val rfl (rv_cmp_i rfl rfl rfl) rfl rfl ?_)
        refine wl_nil ?_
        refine wq_then ?_
        refine wc_seq ?_
        refine wc_cond rfl (fun hc44 => ?_) (fun hc44 => ?_)
        · simp only [decide_eq_true_eq, decide_eq_false_iff_not, Bool.not_eq_true', Bool.not_eq_false', bne_iff_ne, beq_iff_eq, bne_eq_false_iff_eq, beq_eq_false_iff_ne, Int.not_lt, Int.not_le] at hc44
          obtain ⟨i, hik⟩ := getE (l := (byL g.rules z)) (i := k) (by omega)
          obtain ⟨k2, rfl, r, hr, _⟩ := byL_mem.1 (List.mem_of_getElem? hik)
          obtain ⟨g7, o7, rfl, _⟩ := (rv_slice_of (hH.row (3, .slice pb (byL g.rules z).length cb, (byL g.rules z).map iv) (by simp)).own).at_ k _ (map_get hik)
          have hk2 := (List.getElem?_eq_some_iff.1 hr).1
          obtain ⟨g0, o0, q, d, hrp, hcr, hrow⟩ := hg.rules.read hr
          have hfit := hok.fits (List.mem_of_getElem? hr)
          have hfp := hfit.pos
          have hfl := hfit.len
          obtain ⟨y0, hy0⟩ := getE hfp
          obtain ⟨g1, o1, rfl, _⟩ := hrow.at_ 0 _ (map_get hy0)
          have hcd := hrow.cap
          rw [List.length_map] at hcd
          refine wc_skip ?_
          refine wq_then ?_
          refine wc_seq ?_
          refine wc_block ?_
          refine wc_seq ?_
          refine wc_region ?_
          refine wl_go rfl (wo_val rfl (rv_indexAddr rfl rfl (by omega)) rfl rfl ?_)
          refine wl_go rfl (wo_val rfl (rv_load_cell rfl (fun w4 hs4 => rw_cell (rw_conv (hH.row (3, .slice (some ⟨g7, o7, none⟩) (byL g.rules z).length cb, (byL g.rules z).map iv) (by simp)) (by rw [List.length_map]) rfl) (map_get hik) hs4)) rfl rfl ?_)
          refine wl_go rfl (wo_val rfl (rv_assign rfl) rfl rfl ?_)
          refine wl_nil ?_
          refine wq_then ?_
          refine wc_region ?_
          refine wl_go rfl (wo_val rfl (rv_move rfl) rfl rfl ?_)
          refine wl_go rfl (wo_val rfl (rv_fieldAddr rfl) rfl rfl ?_)
          refine wl_go rfl (wo_val rfl (rv_load_own (v := .slice (some ⟨g0, o0, none⟩) g.rules.length x.rc) rfl (by rw [← hrp]; rfl)) rfl rfl ?_)
          refine wl_go rfl (wo_val rfl (rv_move rfl) rfl rfl ?_)
          refine wl_go rfl (wo_val rfl (rv_indexAddr rfl rfl (by omega)) rfl rfl ?_)
          refine wl_go rfl (wo_val rfl (rv_load_cell rfl (fun w4 hs4 => hcr w4 (hs4.below rfl))) rfl rfl ?_)
          refine wl_go rfl (wo_val rfl (rv_slice_some (lv := 1) rfl ⟨.i64, 1, rfl, by omega, rfl⟩ bnd_none (by omega)) rfl rfl ?_)
          refine wl_go rfl (wo_append_from (news := (r.drop 1).map iv) rfl rfl (fun w4 hs4 j u hu => drop_cells hrow hfp (hs4.below rfl) j u hu) (by simp) (ints_one _) [_, _] ⟨[], rfl⟩ (hH.row (3, v, st2.map iv) (by simp)) (by rw [List.length_map]; unfold maxLen; omega) rfl rfl rfl (fun v6 w6 hR6 hm6 ho6 => ?_))
          have hH6 := hH.first (xs' := (st2 ++ r.drop 1).map iv) hm6 (fun y hy => .inl ⟨y, hy, rfl⟩) (rw_conv hR6 (by simp) (by rw [List.map_append])) ho6 (fun y hy => ⟨y, hy, rfl⟩)
          refine wl_go rfl (wo_val rfl (rv_assign rfl) rfl rfl ?_)
          refine wl_nil ?_
          refine wq_in_normal ?_
          refine wq_then ?_
          refine wc_region ?_
          refine wl_go rfl (wo_val rfl (rv_add rfl rfl (by omega)) rfl rfl ?_)
          refine wl_go rfl (wo_val rfl (rv_move rfl) rfl rfl ?_)
          refine wl_nil ?_
          refine wq_round ⟨_, _, ⟨k + 1, v6, st2 ++ r.drop 1, _, by omega, hH6, ?_, rfl, rfl, rfl⟩, by omega, by repeat (first | exact sub_nil | refine sub_cons rfl ?_)⟩
          rw [push_snoc g.rules (byL g.rules z) k hik (by rw [Int.toNat_natCast]; exact hr), hst2, List.append_assoc]
        · simp only [decide_eq_true_eq, decide_eq_false_iff_not, Bool.not_eq_true', Bool.not_eq_false', bne_iff_ne, beq_iff_eq, bne_eq_false_iff_eq, beq_eq_false_iff_ne, Int.not_lt, Int.not_le] at hc44
          obtain rfl : k = (byL g.rules z).length := by omega
          simp only [List.take_length] at hst2
          have hf := falses_mk (by rw [hD.len]; exact hzr) (show bg σ z = false from hc35)
          refine wc_exit ?_
          refine wq_then_exit ?_
          refine wq_then_exit ?_
          refine wq_in_here ?_
          refine wq_in_normal ?_
          refine wq_round ⟨_, _, ⟨mk σ z, st2, v, _, rw_conv hH.head (by rw [List.length_map]) rfl, by rw [hst2]; exact di_mark hD1 hI, Nat.le_trans (Nat.le_of_lt (meas hf hs2l hj)) hms, rfl, rfl, rfl⟩, meas hf hs2l hj, by repeat (first | exact sub_nil | refine sub_cons rfl ?_)⟩
    · simp only [decide_eq_true_eq, decide_eq_false_iff_not, Bool.not_eq_true', Bool.not_eq_false', bne_iff_ne, beq_iff_eq, bne_eq_false_iff_eq, beq_eq_false_iff_ne, Int.not_lt, Int.not_le] at hc20
      obtain rfl : st = [] := List.eq_nil_of_length_eq_zero (by omega)
      refine wc_exit ?_
      refine wq_then_exit ?_
      refine wq_then_exit ?_
      refine wq_in_here ?_
      refine wq_then ?_
      refine wc_seq ?_
      refine wc_region ?_
      refine wl_go rfl (wo_val rfl (rv_move rfl) rfl rfl ?_)
      refine wl_go rfl (wo_val rfl (rv_assign rfl) rfl rfl ?_)
      refine wl_nil ?_
      refine wq_then ?_
      refine wc_ret ?_
      refine wq_ret1 rfl rfl (rr_tmp rfl) (fun w9 hs9 => ?_)
      have e1 : reachF g = σ := by unfold reachF; rw [hgood]; exact (di_end hD hI hst.2).symm
      rw [e1]
      exact ⟨some ⟨b14, 0, none⟩, g.names.length, by rw [hD.len], Rv.own (hs9.blk ⟨b14, _⟩ List.mem_cons_self) (by rw [List.length_map, hD.len]; omega), hs9.below rfl⟩
end Go.Proofs.Ytlppkbfkajionaa.Cm
