/- The walks of grammars: symbol, made, IndexFunc, ContainsFunc, fits. -/
import Derived.Test.YtlppkbfkajionaaGwTy
import Derived.Shelf.Abstract
import Derived.Test.YtlppkbfkajionaaCmP
namespace Go.Proofs.Ytlppkbfkajionaa.Cm
open Go Go.RowKit Gw Go.Shelf
set_option linter.unusedSimpArgs false
set_option linter.unusedVariables false
set_option linter.unusedSectionVars false
theorem symbol_calls (x : GS) (g : Gr) (n : Int) (w : World) : Calls Try.prog 142 #[.agg (gC x g).toArray, iv n] w fun e w' => e = .returned (.bool (symB g n)) ∧ Below w.heap.size w w' := by
  unfold symB
  refine calls_start Try.func142 rfl (N := 14) rfl rfl _ (St.start _) rfl ?_
  refine wc_seq ?_
  refine wc_region ?_
  refine wl_go rfl (wo_box rfl rfl rfl rfl rfl (fun b2 hb2 => ?_))
  refine wl_go rfl (wo_val rfl (rv_assign rfl) rfl rfl ?_)
  refine wl_nil ?_
  refine wq_then ?_
  refine wc_seq ?_
  refine wc_region ?_
  refine wl_go rfl (wo_val rfl (rv_move rfl) rfl rfl ?_)
  refine wl_go rfl (wo_val rfl (rv_cmp_i rfl rfl rfl) rfl rfl ?_)
  refine wl_go rfl (wo_val rfl (rv_move rfl) rfl rfl ?_)
  refine wl_split (d := 7) rfl true (fun hg1_2 => ?_) (fun hg1_2 => ?_)
  · skip
    refine wl_want rfl rfl rfl rfl rfl hg1_2 (wo_val rfl (rv_move rfl) rfl rfl ?_)
    refine wl_want rfl rfl rfl rfl rfl hg1_2 (wo_val rfl (rv_fieldAddr0 rfl) rfl rfl ?_)
    refine wl_want rfl rfl rfl rfl rfl hg1_2 (wo_val rfl (rv_load_own rfl rfl) rfl rfl ?_)
    refine wl_want rfl rfl rfl rfl rfl hg1_2 (wo_val rfl (rv_len rfl) rfl rfl ?_)
    refine wl_want rfl rfl rfl rfl rfl hg1_2 (wo_val rfl (rv_cmp_i rfl rfl rfl) rfl rfl ?_)
    refine wl_go rfl (wo_val rfl (rv_pick_t rfl hg1_2 rfl) rfl rfl ?_)
    refine wl_go rfl (wo_val rfl (rv_assign rfl) rfl rfl ?_)
    refine wl_nil ?_
    refine wq_then ?_
    refine wc_ret ?_
    refine wq_ret1 rfl rfl (rr_tmp rfl) (fun w9 hs9 => ?_)
    exact ⟨(by simp only [*, Bool.not_true, Bool.not_false, Bool.or_false, Bool.false_or, Bool.and_false, Bool.false_and, Bool.and_true, Bool.true_and, Bool.or_true, Bool.true_or]), hs9.below rfl⟩
  · skip
    refine wl_skip rfl rfl rfl rfl rfl hg1_2 rfl ?_
    refine wl_skip rfl rfl rfl rfl rfl hg1_2 rfl ?_
    refine wl_skip rfl rfl rfl rfl rfl hg1_2 rfl ?_
    refine wl_skip rfl rfl rfl rfl rfl hg1_2 rfl ?_
    refine wl_skip rfl rfl rfl rfl rfl hg1_2 rfl ?_
    refine wl_go rfl (wo_val rfl (rv_pick_f rfl hg1_2 rfl) rfl rfl ?_)
    refine wl_go rfl (wo_val rfl (rv_assign rfl) rfl rfl ?_)
    refine wl_nil ?_
    refine wq_then ?_
    refine wc_ret ?_
    refine wq_ret1 rfl rfl (rr_tmp rfl) (fun w9 hs9 => ?_)
    exact ⟨(by simp only [*, Bool.not_true, Bool.not_false, Bool.or_false, Bool.false_or, Bool.and_false, Bool.false_and, Bool.and_true, Bool.true_and, Bool.or_true, Bool.true_or]), hs9.below rfl⟩
theorem made_calls (x : GS) (g : Gr) (n : Int) (w : World) : Calls Try.prog 99 #[.agg (gC x g).toArray, iv n] w fun e w' => e = .returned (.bool (madeB g n)) ∧ Below w.heap.size w w' := by
  unfold madeB
  refine calls_start Try.func99 rfl (N := 14) rfl rfl _ (St.start _) rfl ?_
  refine wc_seq ?_
  refine wc_region ?_
  refine wl_go rfl (wo_box rfl rfl rfl rfl rfl (fun b2 hb2 => ?_))
  refine wl_go rfl (wo_val rfl (rv_assign rfl) rfl rfl ?_)
  refine wl_nil ?_
  refine wq_then ?_
  refine wc_seq ?_
  refine wc_region ?_
  refine wl_go rfl (wo_val rfl (rv_move rfl) rfl rfl ?_)
  refine wl_go rfl (wo_val rfl (rv_fieldAddr rfl) rfl rfl ?_)
  refine wl_go rfl (wo_val rfl (rv_load_own rfl rfl) rfl rfl ?_)
  refine wl_go rfl (wo_val rfl (rv_cmp_i rfl rfl rfl) rfl rfl ?_)
  refine wl_go rfl (wo_val rfl (rv_move rfl) rfl rfl ?_)
  refine wl_split (d := 9) rfl true (fun hg1_4 => ?_) (fun hg1_4 => ?_)
  · skip
    refine wl_want rfl rfl rfl rfl rfl hg1_4 (wo_val rfl (rv_load_own_row rfl) rfl rfl ?_)
    refine wl_want rfl rfl rfl rfl rfl hg1_4 (wo_val rfl (rv_move rfl) rfl rfl ?_)
    refine wl_want rfl rfl rfl rfl rfl hg1_4 (wo_call (R := fun _ v _ => v = _) rfl rfl (enters_of Try.func142 (by kernel_rfl) rfl) rfl rfl rfl (fun w4 hs4 => (symbol_calls x g n w4).mono fun e w' h => ⟨_, h.1, rfl, h.2⟩) (fun w2 v w3 hs2 hv hb2 hm2 => ?_))
    subst hv
    refine wl_go rfl (wo_val rfl (rv_pick_t rfl hg1_4 rfl) rfl rfl ?_)
    refine wl_go rfl (wo_val rfl (rv_assign rfl) rfl rfl ?_)
    refine wl_nil ?_
    refine wq_then ?_
    refine wc_ret ?_
    refine wq_ret1 rfl rfl (rr_tmp rfl) (fun w9 hs9 => ?_)
    exact ⟨(by simp only [*, Bool.not_true, Bool.not_false, Bool.or_false, Bool.false_or, Bool.and_false, Bool.false_and, Bool.and_true, Bool.true_and, Bool.or_true, Bool.true_or]), hs9.below rfl⟩
  · skip
    refine wl_skip rfl rfl rfl rfl rfl hg1_4 rfl ?_
    refine wl_skip rfl rfl rfl rfl rfl hg1_4 rfl ?_
    refine wl_skip rfl rfl rfl rfl rfl hg1_4 rfl ?_
    refine wl_go rfl (wo_val rfl (rv_pick_f rfl hg1_4 rfl) rfl rfl ?_)
    refine wl_go rfl (wo_val rfl (rv_assign rfl) rfl rfl ?_)
    refine wl_nil ?_
    refine wq_then ?_
    refine wc_ret ?_
    refine wq_ret1 rfl rfl (rr_tmp rfl) (fun w9 hs9 => ?_)
    exact ⟨(by simp only [*, Bool.not_true, Bool.not_false, Bool.or_false, Bool.false_or, Bool.and_false, Bool.false_and, Bool.and_true, Bool.true_and, Bool.or_true, Bool.true_or]), hs9.below rfl⟩
/-- a grammar in a box -/
structure Boxed (w : World) (b : Nat) (cs : List Value) : Prop where
  h : ∃ t fr, w.heap[b]? = some (.cells cs.toArray t fr)
theorem Boxed.below {w w1 : World} {b : Nat} {cs : List Value} (h : Boxed w b cs) (hb : Below w.heap.size w w1) : Boxed w1 b cs :=
  let ⟨t, fr, h⟩ := h.h; ⟨t, fr, by rw [hb.block b (Array.getElem?_eq_some_iff.1 h).1]; exact h⟩
theorem Boxed.row {w : World} {b : Nat} {cs : List Value} (h : Boxed w b cs) {w' : World} (hb : Below w.heap.size w w') : w'.rangeAt b 0 cs := fun j v hj => by
  obtain ⟨t, fr, h⟩ := (h.below hb).h
  rw [cell_blk h]; simpa using hj
theorem Boxed.cell {w : World} {b : Nat} {cs : List Value} (h : Boxed w b cs) {w' : World} (hb : Below w.heap.size w w') (j : Nat) {v : Value} (hj : cs[j]? = some v) : w'.cell? ⟨b, j, none⟩ = some v := by
  have := h.row hb j v hj
  simpa using this
theorem Boxed.of {w : World} {b : Nat} {cs : List Value} {t : TypeId} {fr : Nat × Nat} (h : w.heap[b]? = some (.cells cs.toArray t fr)) : Boxed w b cs := ⟨t, fr, h⟩
theorem boxed_st {S : Sx} {w : World} {b i : Nat} {cs : List Value} {t : TypeId} {fr : Nat × Nat} [hB : HasB S.own b i (.cells cs.toArray t fr)] (hs : St S w) : Boxed w b cs := Boxed.of (hs.blk ⟨b, _⟩ (List.mem_of_getElem? hB.h))
theorem fits1_calls (x : GS) (g : Gr) (n : Int) (b : Nat) (w : World) (hb : Boxed w b (gC x g)) : Calls Try.prog 143 #[iv n, .pointer (some ⟨b, 0, none⟩)] w fun e w' => e = .returned (.bool (!symB g n)) ∧ Below w.heap.size w w' := by
  refine calls_start Try.func143 rfl (N := 8) rfl rfl _ (St.start _) rfl ?_
  refine wc_seq ?_
  refine wc_region ?_
  refine wl_go rfl (wo_val rfl (rv_assign rfl) rfl rfl ?_)
  refine wl_nil ?_
  refine wq_then ?_
  refine wc_seq ?_
  refine wc_region ?_
  refine wl_go rfl (wo_val rfl (rv_load_range rfl rfl (fun w4 hs4 => hb.row (hs4.below rfl))) rfl rfl ?_)
  refine wl_go rfl (wo_val rfl (rv_move rfl) rfl rfl ?_)
  refine wl_go rfl (wo_call (R := fun _ v _ => v = _) rfl rfl (enters_of Try.func142 (by kernel_rfl) rfl) rfl rfl rfl (fun w4 hs4 => (symbol_calls x g n w4).mono fun e w' h => ⟨_, h.1, rfl, h.2⟩) (fun w2 v w3 hs2 hv hb2 hm2 => ?_))
  subst hv
  refine wl_go rfl (wo_val rfl (rv_not rfl) rfl rfl ?_)
  refine wl_go rfl (wo_val rfl (rv_assign rfl) rfl rfl ?_)
  refine wl_nil ?_
  refine wq_then ?_
  refine wc_ret ?_
  refine wq_ret1 rfl rfl (rr_tmp rfl) (fun w9 hs9 => ?_)
  exact ⟨rfl, hs9.below rfl⟩
/-- the first place at which something is so; below 0: none -/
def idxI {α : Type} (pr : α → Bool) (xs : List α) : Int := match xs.findIdx? pr with
  | some i => (i : Int)
  | none => -1
theorem idx_found {α : Type} {pr : α → Bool} {xs : List α} {k : Nat} {x : α} (hx : xs[k]? = some x) (hp : pr x = true) (h : ∀ y ∈ xs.take k, pr y = false) : idxI pr xs = k := by
  have e : xs.findIdx? pr = some k := by
    obtain ⟨hk, rfl⟩ := List.getElem?_eq_some_iff.1 hx
    refine List.findIdx?_eq_some_iff_getElem.2 ⟨hk, hp, fun j hj => ?_⟩
    have := h xs[j] (List.mem_iff_getElem?.2 ⟨j, by rw [List.getElem?_take, if_pos hj]; exact List.getElem?_eq_getElem (by omega)⟩)
    simp [this]
  unfold idxI
  rw [e]
theorem idx_not {α : Type} {pr : α → Bool} {xs : List α} (h : ∀ y ∈ xs, pr y = false) : idxI pr xs = -1 := by
  have e : xs.findIdx? pr = none := List.findIdx?_eq_none_iff.2 (fun x hx => by simp [h x hx])
  unfold idxI
  rw [e]
theorem idx_any {α : Type} (pr : α → Bool) (xs : List α) : decide (0 ≤ idxI pr xs) = xs.any pr := by
  unfold idxI
  cases h : xs.findIdx? pr with
  | none =>
    have := List.findIdx?_eq_none_iff.1 h
    rw [Bool.eq_iff_iff]
    simp only [decide_eq_true_eq, List.any_eq_true]
    constructor
    · intro h; omega
    · rintro ⟨x, hx, hp⟩
      have := this x hx
      rw [hp] at this; cases this
  | some i =>
    obtain ⟨hi, hp, _⟩ := List.findIdx?_eq_some_iff_getElem.1 h
    have : xs.any pr = true := List.any_eq_true.2 ⟨xs[i], List.getElem_mem _, hp⟩
    rw [this]
    simp
theorem take_false {α : Type} {pr : α → Bool} {xs : List α} {k : Nat} {x : α} (hx : xs[k]? = some x) (hp : pr x = false) (h : ∀ y ∈ xs.take k, pr y = false) : ∀ y ∈ xs.take (k + 1), pr y = false := fun y hy => by
  rw [List.take_add_one, hx] at hy
  rcases List.mem_append.1 hy with hy | hy
  · exact h y hy
  · simp at hy; subst hy; exact hp
abbrev Enter (f : Nat) : Prop := ∀ args w, (callFunc f args).run Try.prog w = .ok (.enter f args) w
/-- a function's value answers as some function does, on these numbers, in all worlds of a kind -/
def Asks (w : World) (gf : Nat) (ca : List Value) (pr : Int → Bool) (xs : List Int) : Prop := ∀ x ∈ xs, ∀ w', Below w.heap.size w w' → Calls Try.prog gf (iv x :: ca).toArray w' (fun e w'' => e = .returned (.bool (pr x)) ∧ Below w'.heap.size w' w'')
set_option maxHeartbeats 1000000 in
theorem idx_calls (gf : Nat) (ca : List Value) (heg : Enter gf) (pr : Int → Bool) (p : Option Addr) (c : Nat) (xs : List Int) (w : World) (hrv : Rv w p c (xs.map iv)) (hF : Asks w gf ca pr xs) : Calls Try.prog 145 #[.slice p xs.length c, .func (.func gf) #[] ca.toArray] w fun e w' => e = .returned (iv (idxI pr xs)) ∧ Below w.heap.size w w' := by
  have hcap := hrv.cap
  rw [List.length_map] at hcap
  refine calls_start Try.func145 rfl (N := 19) rfl rfl _ (St.start _) rfl ?_
  refine wc_seq ?_
  refine wc_region ?_
  refine wl_go rfl (wo_val rfl (rv_assign rfl) rfl rfl ?_)
  refine wl_nil ?_
  refine wq_then ?_
  refine wc_seq ?_
  refine wc_seq ?_
  refine wc_region ?_
  refine wl_go rfl (wo_val rfl (rv_move rfl) rfl rfl ?_)
  refine wl_go rfl (wo_val rfl (rv_len rfl) rfl rfl ?_)
  refine wl_go rfl (wo_val rfl (rv_move rfl) rfl rfl ?_)
  refine wl_nil ?_
  refine wq_then ?_
  refine wc_block ?_
  refine wc_loop (fun m l S => ∃ (k : Nat) (w1 : World), k ≤ xs.length ∧ (∀ y ∈ xs.take k, pr y = false) ∧ m = xs.length - k ∧ l = [(0, .slice p xs.length c), (1, .func (.func gf) #[] ca.toArray), (7, iv (xs.length : Int)), (8, iv (k : Int))] ∧ S = ⟨w, G0, w1, []⟩) ⟨_, _, ⟨0, w, Nat.zero_le _, by simp, rfl, rfl, rfl⟩, by repeat (first | exact sub_nil | refine sub_cons rfl ?_)⟩ ?_
  intro m l S hJ
  obtain ⟨k, w1, hk, hno, rfl, rfl, rfl⟩ := hJ
  refine wc_seq ?_
  refine wc_region ?_
  refine wl_go rfl (wo_val rfl (rv_cmp_i rfl rfl rfl) rfl rfl ?_)
  refine wl_nil ?_
  refine wq_then ?_
  refine wc_seq ?_
  refine wc_cond rfl (fun hc9 => ?_) (fun hc9 => ?_)
  · simp only [decide_eq_true_eq, decide_eq_false_iff_not, Bool.not_eq_true', Bool.not_eq_false', bne_iff_ne, beq_iff_eq, bne_eq_false_iff_eq, beq_eq_false_iff_ne, Int.not_lt, Int.not_le] at hc9
    obtain ⟨x, hx⟩ := getE (l := xs) (i := k) (by omega)
    obtain ⟨g, o, rfl, hcell⟩ := hrv.read (map_get hx)
    refine wc_skip ?_
    refine wq_then ?_
    refine wc_seq ?_
    refine wc_block ?_
    refine wc_seq ?_
    refine wc_region ?_
    refine wl_go rfl (wo_val rfl (rv_move rfl) rfl rfl ?_)
    refine wl_go rfl (wo_val rfl (rv_assign rfl) rfl rfl ?_)
    refine wl_nil ?_
    refine wq_then ?_
    refine wc_seq ?_
    refine wc_region ?_
    refine wl_go rfl (wo_val rfl (rv_move rfl) rfl rfl ?_)
    refine wl_go rfl (wo_val rfl (rv_move rfl) rfl rfl ?_)
    refine wl_go rfl (wo_val rfl (rv_move rfl) rfl rfl ?_)
    refine wl_go rfl (wo_val rfl (rv_indexAddr rfl rfl (by omega)) rfl rfl ?_)
    refine wl_go rfl (wo_val rfl (rv_load_cell rfl (fun w4 hs4 => hcell w4 (hs4.below rfl))) rfl rfl ?_)
    refine wl_go rfl (wo_call (R := fun _ v _ => v = _) rfl rfl heg rfl rfl rfl (fun w4 hs4 => (hF x (List.mem_of_getElem? hx) w4 (hs4.below rfl)).mono fun e w' h => ⟨_, h.1, rfl, h.2⟩) (fun w2 v w3 hs2 hv hb2 hm2 => ?_))
    subst hv
    refine wl_nil ?_
    refine wq_then ?_
    refine wc_cond rfl (fun hc16 => ?_) (fun hc16 => ?_)
    · skip
      refine wc_seq ?_
      refine wc_region ?_
      refine wl_go rfl (wo_val rfl (rv_move rfl) rfl rfl ?_)
      refine wl_go rfl (wo_val rfl (rv_assign rfl) rfl rfl ?_)
      refine wl_nil ?_
      refine wq_then ?_
      refine wc_ret ?_
      refine wq_in_ret ?_
      refine wq_then_ret ?_
      refine wq_then_ret ?_
      refine wq_in_ret ?_
      refine wq_then_ret ?_
      refine wq_ret1 rfl rfl (rr_tmp rfl) (fun w9 hs9 => ?_)
      rw [idx_found hx hc16 hno]
      exact ⟨rfl, hs9.below rfl⟩
    · skip
      refine wc_skip ?_
      refine wq_in_normal ?_
      refine wq_then ?_
      refine wc_region ?_
      refine wl_go rfl (wo_val rfl (rv_add rfl rfl (by omega)) rfl rfl ?_)
      refine wl_go rfl (wo_val rfl (rv_move rfl) rfl rfl ?_)
      refine wl_nil ?_
      exact wq_round ⟨_, _, ⟨k + 1, _, by omega, take_false hx hc16 hno, rfl, rfl, rfl⟩, by omega, by repeat (first | exact sub_nil | refine sub_cons rfl ?_)⟩
  · simp only [decide_eq_true_eq, decide_eq_false_iff_not, Bool.not_eq_true', Bool.not_eq_false', bne_iff_ne, beq_iff_eq, bne_eq_false_iff_eq, beq_eq_false_iff_ne, Int.not_lt, Int.not_le] at hc9
    refine wc_exit ?_
    refine wq_then_exit ?_
    refine wq_then_exit ?_
    refine wq_in_here ?_
    refine wq_then ?_
    refine wc_seq ?_
    refine wc_region ?_
    refine wl_go rfl (wo_val rfl (rv_assign rfl) rfl rfl ?_)
    refine wl_nil ?_
    refine wq_then ?_
    refine wc_ret ?_
    refine wq_ret1 rfl rfl (rr_tmp rfl) (fun w9 hs9 => ?_)
    obtain rfl : k = xs.length := by omega
    rw [List.take_length] at hno
    rw [idx_not hno]
    exact ⟨rfl, hs9.below rfl⟩
theorem cont_calls (gf : Nat) (ca : List Value) (heg : Enter gf) (pr : Int → Bool) (p : Option Addr) (c : Nat) (xs : List Int) (w : World) (hrv : Rv w p c (xs.map iv)) (hF : Asks w gf ca pr xs) : Calls Try.prog 105 #[.slice p xs.length c, .func (.func gf) #[] ca.toArray] w fun e w' => e = .returned (.bool (xs.any pr)) ∧ Below w.heap.size w w' := by
  rw [← idx_any]
  refine calls_start Try.func105 rfl (N := 9) rfl rfl _ (St.start _) rfl ?_
  refine wc_seq ?_
  refine wc_region ?_
  refine wl_go rfl (wo_val rfl (rv_assign rfl) rfl rfl ?_)
  refine wl_nil ?_
  refine wq_then ?_
  refine wc_seq ?_
  refine wc_region ?_
  refine wl_go rfl (wo_val rfl (rv_move rfl) rfl rfl ?_)
  refine wl_go rfl (wo_val rfl (rv_move rfl) rfl rfl ?_)
  refine wl_go rfl (wo_call (R := fun _ v _ => v = _) rfl rfl (enters_of Try.func145 (by kernel_rfl) rfl) rfl rfl rfl (fun w4 hs4 => (idx_calls gf ca heg pr p c xs w4 (hrv.below (hs4.below rfl)) (fun x hx w5 hb5 => hF x hx w5 (below_trans (hs4.below rfl) hb5))).mono fun e w' h => ⟨_, h.1, rfl, h.2⟩) (fun w2 v w3 hs2 hv hb2 hm2 => ?_))
  subst hv
  refine wl_go rfl (wo_val rfl (rv_cmp_i rfl rfl rfl) rfl rfl ?_)
  refine wl_go rfl (wo_val rfl (rv_assign rfl) rfl rfl ?_)
  refine wl_nil ?_
  refine wq_then ?_
  refine wc_ret ?_
  refine wq_ret1 rfl rfl (rr_tmp rfl) (fun w9 hs9 => ?_)
  exact ⟨rfl, hs9.below rfl⟩
theorem fits_calls (x : GS) (g : Gr) (p : Option Addr) (c : Nat) (r : List Int) (w : World) (hrv : Rv w p c (r.map iv)) : Calls Try.prog 100 #[.agg (gC x g).toArray, .slice p r.length c] w fun e w' => e = .returned (.bool (fitsB g r)) ∧ Below w.heap.size w w' := by
  have hfb : fitsB g r = (decide (0 < (r.length : Int)) && decide ((r.length : Int) ≤ 9) && madeB g (r.headD 0) && !((r.drop 1).any fun n => !symB g n)) := by
    unfold fitsB
    rw [List.all_eq_not_any_not]
    congr 1
    congr 1
    congr 1
    · rw [Bool.eq_iff_iff]; simp only [decide_eq_true_eq]; omega
    · rw [Bool.eq_iff_iff]; simp only [decide_eq_true_eq]; omega
  rw [hfb]
  clear hfb
  have hcap := hrv.cap
  rw [List.length_map] at hcap
  refine calls_start Try.func100 rfl (N := 27) rfl rfl _ (St.start _) rfl ?_
  refine wc_seq ?_
  refine wc_region ?_
  refine wl_go rfl (wo_box rfl rfl rfl rfl rfl (fun b2 hb2 => ?_))
  refine wl_go rfl (wo_val rfl (rv_assign rfl) rfl rfl ?_)
  refine wl_nil ?_
  refine wq_then ?_
  refine wc_seq ?_
  refine wc_region_quiet (by kernel_rfl) (by kernel_rfl) ?_
  refine wk_val rfl rfl (rv_move rfl) rfl rfl ?_
  refine wk_val rfl rfl (rv_len rfl) rfl rfl ?_
  refine wk_val rfl rfl (rv_cmp_i rfl rfl rfl) rfl rfl ?_
  refine wk_val rfl rfl (rv_move rfl) rfl rfl ?_
  refine wk_split (d := 8) rfl true (fun hg1_3 => ?_) (fun hg1_3 => ?_)
  · skip
    have h0 : 0 < r.length := by simpa using hg1_3
    obtain ⟨y, hy⟩ := getE h0
    obtain ⟨g1, o1, rfl, hcell⟩ := hrv.read (map_get hy)
    have hyd : r.headD 0 = y := by rw [List.headD_eq_head?_getD, List.head?_eq_getElem?, hy]; rfl
    refine wk_want rfl rfl rfl rfl rfl hg1_3 rfl (rv_move rfl) rfl rfl ?_
    refine wk_want rfl rfl rfl rfl rfl hg1_3 rfl (rv_len rfl) rfl rfl ?_
    refine wk_want rfl rfl rfl rfl rfl hg1_3 rfl (rv_cmp_i rfl rfl rfl) rfl rfl ?_
    refine wk_val rfl rfl (rv_pick_t rfl hg1_3 rfl) rfl rfl ?_
    refine wk_val rfl rfl (rv_move rfl) rfl rfl ?_
    refine wk_split (d := 13) rfl true (fun hg1_8 => ?_) (fun hg1_8 => ?_)
    · skip
      refine wk_want rfl rfl rfl rfl rfl hg1_8 rfl (rv_load_own_row rfl) rfl rfl ?_
      refine wk_want rfl rfl rfl rfl rfl hg1_8 rfl (rv_move rfl) rfl rfl ?_
      refine wk_want rfl rfl rfl rfl rfl hg1_8 rfl (rv_indexAddr rfl rfl (by omega)) rfl rfl ?_
      refine wk_want rfl rfl rfl rfl rfl hg1_8 rfl (rv_load_cell rfl (fun w4 hs4 => hcell w4 (hs4.below rfl))) rfl rfl ?_
      refine wk_call_want rfl rfl rfl rfl rfl hg1_8 rfl rfl (enters_of Try.func99 (by kernel_rfl) rfl) rfl rfl rfl (fun w hs => made_calls x g y w) ?_
      refine wk_val rfl rfl (rv_pick_t rfl hg1_8 rfl) rfl rfl ?_
      refine wk_val rfl rfl (rv_move rfl) rfl rfl ?_
      refine wk_split (d := 20) rfl true (fun hg1_15 => ?_) (fun hg1_15 => ?_)
      · skip
        refine wk_want rfl rfl rfl rfl rfl hg1_15 rfl (rv_move rfl) rfl rfl ?_
        refine wk_want rfl rfl rfl rfl rfl hg1_15 rfl (rv_slice (lv := 1) rfl ⟨.i64, 1, rfl, by omega, rfl⟩ (bnd_none) (by omega)) rfl rfl ?_
        refine wk_want rfl rfl rfl rfl rfl hg1_15 rfl (rv_makeFunc rfl rfl) rfl rfl ?_
        refine wk_call_want rfl rfl rfl rfl rfl hg1_15 rfl rfl (enters_of Try.func105 (by kernel_rfl) rfl) rfl rfl rfl (fun w hs => by
          have h := cont_calls 143 [.pointer (some ⟨b2, 0, none⟩)] (enters_of Try.func143 (by kernel_rfl) rfl) (fun n => !symB g n) _ _ (r.drop 1) w (by have := (hrv.drop 1 (by simp; omega)).below (hs.below rfl); rw [← List.map_drop] at this; exact this) (fun n hn w5 hb5 => fits1_calls x g n _ w5 ((boxed_st hs).below hb5))
          rw [List.length_drop] at h
          exact h) ?_
        refine wk_want rfl rfl rfl rfl rfl hg1_15 rfl (rv_not rfl) rfl rfl ?_
        refine wk_val rfl rfl (rv_pick_t rfl hg1_15 rfl) rfl rfl ?_
        refine wk_val rfl rfl (rv_assign rfl) rfl rfl ?_
        refine wk_nil ?_
        refine wq_then ?_
        refine wc_ret ?_
        refine wq_ret1 rfl rfl (rr_tmp rfl) (fun w9 hs9 => ?_)
        exact ⟨(by simp only [*, Bool.not_true, Bool.not_false, Bool.or_false, Bool.false_or, Bool.and_false, Bool.false_and, Bool.and_true, Bool.true_and, Bool.or_true, Bool.true_or]), hs9.below rfl⟩
      · skip
        refine wk_skip rfl rfl rfl rfl rfl hg1_15 rfl ?_
        refine wk_skip rfl rfl rfl rfl rfl hg1_15 rfl ?_
        refine wk_skip rfl rfl rfl rfl rfl hg1_15 rfl ?_
        refine wk_skip rfl rfl rfl rfl rfl hg1_15 rfl ?_
        refine wk_skip rfl rfl rfl rfl rfl hg1_15 rfl ?_
        refine wk_val rfl rfl (rv_pick_f rfl hg1_15 rfl) rfl rfl ?_
        refine wk_val rfl rfl (rv_assign rfl) rfl rfl ?_
        refine wk_nil ?_
        refine wq_then ?_
        refine wc_ret ?_
        refine wq_ret1 rfl rfl (rr_tmp rfl) (fun w9 hs9 => ?_)
        exact ⟨(by simp only [*, Bool.not_true, Bool.not_false, Bool.or_false, Bool.false_or, Bool.and_false, Bool.false_and, Bool.and_true, Bool.true_and, Bool.or_true, Bool.true_or]), hs9.below rfl⟩
    · skip
      refine wk_skip rfl rfl rfl rfl rfl hg1_8 rfl ?_
      refine wk_skip rfl rfl rfl rfl rfl hg1_8 rfl ?_
      refine wk_skip rfl rfl rfl rfl rfl hg1_8 rfl ?_
      refine wk_skip rfl rfl rfl rfl rfl hg1_8 rfl ?_
      refine wk_skip rfl rfl rfl rfl rfl hg1_8 rfl ?_
      refine wk_val rfl rfl (rv_pick_f rfl hg1_8 rfl) rfl rfl ?_
      refine wk_val rfl rfl (rv_move rfl) rfl rfl ?_
      refine wk_skip rfl rfl rfl rfl rfl rfl rfl ?_
      refine wk_skip rfl rfl rfl rfl rfl rfl rfl ?_
      refine wk_skip rfl rfl rfl rfl rfl rfl rfl ?_
      refine wk_skip rfl rfl rfl rfl rfl rfl rfl ?_
      refine wk_skip rfl rfl rfl rfl rfl rfl rfl ?_
      refine wk_val rfl rfl (rv_pick_f rfl rfl rfl) rfl rfl ?_
      refine wk_val rfl rfl (rv_assign rfl) rfl rfl ?_
      refine wk_nil ?_
      refine wq_then ?_
      refine wc_ret ?_
      refine wq_ret1 rfl rfl (rr_tmp rfl) (fun w9 hs9 => ?_)
      exact ⟨(by simp only [*, Bool.not_true, Bool.not_false, Bool.or_false, Bool.false_or, Bool.and_false, Bool.false_and, Bool.and_true, Bool.true_and, Bool.or_true, Bool.true_or]), hs9.below rfl⟩
  · skip
    refine wk_skip rfl rfl rfl rfl rfl hg1_3 rfl ?_
    refine wk_skip rfl rfl rfl rfl rfl hg1_3 rfl ?_
    refine wk_skip rfl rfl rfl rfl rfl hg1_3 rfl ?_
    refine wk_val rfl rfl (rv_pick_f rfl hg1_3 rfl) rfl rfl ?_
    refine wk_val rfl rfl (rv_move rfl) rfl rfl ?_
    refine wk_skip rfl rfl rfl rfl rfl rfl rfl ?_
    refine wk_skip rfl rfl rfl rfl rfl rfl rfl ?_
    refine wk_skip rfl rfl rfl rfl rfl rfl rfl ?_
    refine wk_skip rfl rfl rfl rfl rfl rfl rfl ?_
    refine wk_skip rfl rfl rfl rfl rfl rfl rfl ?_
    refine wk_val rfl rfl (rv_pick_f rfl rfl rfl) rfl rfl ?_
    refine wk_val rfl rfl (rv_move rfl) rfl rfl ?_
    refine wk_skip rfl rfl rfl rfl rfl rfl rfl ?_
    refine wk_skip rfl rfl rfl rfl rfl rfl rfl ?_
    refine wk_skip rfl rfl rfl rfl rfl rfl rfl ?_
    refine wk_skip rfl rfl rfl rfl rfl rfl rfl ?_
    refine wk_skip rfl rfl rfl rfl rfl rfl rfl ?_
    refine wk_val rfl rfl (rv_pick_f rfl rfl rfl) rfl rfl ?_
    refine wk_val rfl rfl (rv_assign rfl) rfl rfl ?_
    refine wk_nil ?_
    refine wq_then ?_
    refine wc_ret ?_
    refine wq_ret1 rfl rfl (rr_tmp rfl) (fun w9 hs9 => ?_)
    exact ⟨(by simp only [*, Bool.not_true, Bool.not_false, Bool.or_false, Bool.false_or, Bool.and_false, Bool.false_and, Bool.and_true, Bool.true_and, Bool.or_true, Bool.true_or]), hs9.below rfl⟩
end Go.Proofs.Ytlppkbfkajionaa.Cm
