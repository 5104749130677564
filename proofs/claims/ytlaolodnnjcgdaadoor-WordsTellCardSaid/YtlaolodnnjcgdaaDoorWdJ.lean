/- The walks of words: rows of words in memory; plain, Same. -/
import Derived.Test.YtlaolodnnjcgdaaDoorWdI
namespace Go.Proofs.YtlaolodnnjcgdaaDoor.Wd
open Go Go.RowKit Gw Go.Shelf
/-- a slice in memory that reads as these words -/
structure Rd (w : World) (p : Option Addr) (c : Nat) (ws : List Wo) : Prop where
  cap : ws.length ≤ c
  at_ : ∀ (i : Nat) x, ws[i]? = some x → ∃ g o, p = some ⟨g, o, none⟩ ∧ ∀ (j : Nat) u, (woC x)[j]? = some u → w.cell? ⟨g, o + i * 3 + j, none⟩ = some u
theorem cell_below {w w1 : World} (hb : Below w.heap.size w w1) {g k : Nat} {u : Value} (h : w.cell? ⟨g, k, none⟩ = some u) : w1.cell? ⟨g, k, none⟩ = some u := by
  have hlt : g < w.heap.size := by
    rcases Nat.lt_or_ge g w.heap.size with h1 | h1
    · exact h1
    · simp [World.cell?, Array.getElem?_eq_none h1] at h
  have e := hb.block g hlt
  simp only [World.cell?] at h ⊢
  rw [e]; exact h
theorem Rd.below {w w1 : World} {p : Option Addr} {c : Nat} {ws : List Wo} (h : Rd w p c ws) (hb : Below w.heap.size w w1) : Rd w1 p c ws :=
  ⟨h.cap, fun i x hx => let ⟨g, o, hp, hc⟩ := h.at_ i x hx; ⟨g, o, hp, fun j u hu => cell_below hb (hc j u hu)⟩⟩
theorem Rd.read {w : World} {p : Option Addr} {c : Nat} {ws : List Wo} (h : Rd w p c ws) {i : Nat} {x : Wo} (hx : ws[i]? = some x) : ∃ g o, p = some ⟨g, o, none⟩ ∧ ∀ w', Below w.heap.size w w' → ∀ (j : Nat) u, (woC x)[j]? = some u → w'.cell? ⟨g, o + i * 3 + j, none⟩ = some u :=
  let ⟨g, o, hp, hc⟩ := h.at_ i x hx; ⟨g, o, hp, fun w' hb j u hu => cell_below hb (hc j u hu)⟩
theorem flat_get (ws : List Wo) : ∀ (i j : Nat) x u, ws[i]? = some x → (woC x)[j]? = some u → (ws.flatMap woC)[i * 3 + j]? = some u := by
  induction ws with
  | nil => intro i j x u h; simp at h
  | cons y r ih =>
    intro i j x u hx hu
    have hj : j < 3 := by have := (List.getElem?_eq_some_iff.1 hu).1; simpa using this
    cases i with
    | zero =>
      simp at hx
      subst hx
      rw [List.flatMap_cons, List.getElem?_append_left (by simp; omega), Nat.zero_mul, Nat.zero_add]
      exact hu
    | succ i =>
      rw [List.flatMap_cons, List.getElem?_append_right (by simp; omega)]
      rw [show (i + 1) * 3 + j - (woC y).length = i * 3 + j by simp; omega]
      exact ih i j x u (by simpa using hx) hu
theorem flat_len (ws : List Wo) : (ws.flatMap woC).length = ws.length * 3 := by
  induction ws with
  | nil => rfl
  | cons y r ih => rw [List.flatMap_cons, List.length_append, ih]; simp; omega
theorem rd_of {w : World} {base e : Nat} {v : Value} {ws : List Wo} (h : w.ownsRow base e 3 v ws.length (ws.flatMap woC)) : ∃ p c, v = .slice p ws.length c ∧ Rd w p c ws := by
  obtain ⟨_, h2⟩ := h
  rcases h2 with ⟨rfl, hn⟩ | ⟨g, cap, cur, rfl, _, hh, hnc, _, hcs, htk⟩
  · refine ⟨none, 0, by rw [hn], by omega, fun i x hx => ?_⟩
    obtain rfl := List.eq_nil_of_length_eq_zero hn
    simp at hx
  · refine ⟨_, _, rfl, hnc, fun i x hx => ⟨g, 0, rfl, fun j u hu => ?_⟩⟩
    have h3 := flat_get ws i j x u hx hu
    rw [← htk] at h3
    have hlt := (List.getElem?_eq_some_iff.1 h3).1
    rw [List.getElem?_take] at h3
    split at h3
    · simp only [World.cell?, hh, Nat.zero_add]
      simpa using h3
    · cases h3
set_option maxHeartbeats 1000000 in
theorem plain_calls (p : Option Addr) (c : Nat) (ws : List Wo) (hws : ws.length ≤ 70000) (w : World) (hrd : Rd w p c ws) : Calls Tryd.prog 11 #[.slice p ws.length c] w fun e w' => ∃ v, e = .returned v ∧ w'.ownsRow w.heap.size 45 3 v ws.length (ws.flatMap woC) ∧ Below w.heap.size w w' := by
  refine calls_start Tryd.func11 rfl (N := 31) rfl rfl _ (St.start _) rfl ?_
  refine wc_seq ?_
  refine wc_region ?_
  refine wl_go rfl (wo_val rfl (rv_assign rfl) rfl rfl ?_)
  refine wl_nil ?_
  refine wq_then ?_
  refine wc_seq ?_
  refine wc_region ?_
  refine wl_go rfl (wo_val rfl (rv_assign rfl) rfl rfl ?_)
  refine wl_nil ?_
  refine wq_then ?_
  refine wc_seq ?_
  refine wc_seq ?_
  refine wc_region ?_
  refine wl_go rfl (wo_val rfl (rv_assign rfl) rfl rfl ?_)
  refine wl_nil ?_
  refine wq_then ?_
  refine wc_block ?_
  refine wc_loop (fun m l S => ∃ (k : Nat) (v : Value) (w1 : World), k ≤ ws.length ∧ Rw ⟨w, G0, w1, []⟩ 45 3 v k ((ws.take k).flatMap woC) ∧ m = ws.length - k ∧ l = [(0, .slice p ws.length c), (3, v), (4, .int .i64 (k : Int))] ∧ S = ⟨w, G0, w1, []⟩) ⟨_, _, ⟨0, .slice none 0 0, w, Nat.zero_le _, Rw.nil _ _ _, rfl, rfl, rfl⟩, by repeat (first | exact sub_nil | refine sub_cons rfl ?_)⟩ ?_
  intro m l S hJ
  obtain ⟨k, v, w1, hk, hR, rfl, rfl, rfl⟩ := hJ
  refine wc_seq ?_
  refine wc_seq ?_
  refine wc_region ?_
  refine wl_go rfl (wo_val rfl (rv_move rfl) rfl rfl ?_)
  refine wl_go rfl (wo_val rfl (rv_move rfl) rfl rfl ?_)
  refine wl_go rfl (wo_val rfl (rv_len rfl) rfl rfl ?_)
  refine wl_go rfl (wo_val rfl (rv_cmp_i rfl rfl rfl) rfl rfl ?_)
  refine wl_nil ?_
  refine wq_then ?_
  refine wc_cond rfl (fun hc8 => ?_) (fun hc8 => ?_)
  · simp only [decide_eq_true_eq, decide_eq_false_iff_not, Bool.not_eq_true', Bool.not_eq_false', bne_iff_ne, beq_iff_eq, bne_eq_false_iff_eq, beq_eq_false_iff_ne, Int.not_lt, Int.not_le] at hc8
    obtain ⟨x, hx⟩ : ∃ x, ws[k]? = some x := ⟨_, List.getElem?_eq_getElem (by omega)⟩
    obtain ⟨g, o, rfl, hcell⟩ := hrd.read hx
    refine wc_skip ?_
    refine wq_then ?_
    refine wc_seq ?_
    refine wc_block ?_
    refine wc_region_stage (by kernel_rfl) (by kernel_rfl) ?_
    refine ws_q (i := 0) rfl (by kernel_rfl) (rq_val rfl rfl rfl (rv_move rfl)) rfl rfl ?_
    refine ws_q (i := 1) rfl (by kernel_rfl) (rq_val rfl rfl rfl (rv_move rfl)) rfl rfl ?_
    refine ws_q (i := 2) rfl (by kernel_rfl) (rq_val rfl rfl rfl (rv_move rfl)) rfl rfl ?_
    refine ws_q (i := 3) rfl (by kernel_rfl) (rq_val rfl rfl rfl (rv_indexAddr rfl rfl (by omega))) rfl rfl ?_
    refine ws_q (i := 4) rfl (by kernel_rfl) (rq_val rfl rfl rfl (rv_fieldAddr0 rfl)) rfl rfl ?_
    refine ws_q (i := 5) rfl (by kernel_rfl) (rq_val rfl rfl rfl (rv_load_cell rfl (fun w4 hs4 => hcell w4 (hs4.below rfl) 0 _ rfl))) rfl rfl ?_
    refine ws_q (i := 6) rfl (by kernel_rfl) (rq_val rfl rfl rfl (rv_move rfl)) rfl rfl ?_
    refine ws_q (i := 7) rfl (by kernel_rfl) (rq_val rfl rfl rfl (rv_move rfl)) rfl rfl ?_
    refine ws_q (i := 8) rfl (by kernel_rfl) (rq_val rfl rfl rfl (rv_indexAddr rfl rfl (by omega))) rfl rfl ?_
    refine ws_q (i := 9) rfl (by kernel_rfl) (rq_val rfl rfl rfl (rv_fieldAddr rfl)) rfl rfl ?_
    refine ws_q (i := 10) rfl (by kernel_rfl) (rq_val rfl rfl rfl (rv_load_cell rfl (fun w4 hs4 => hcell w4 (hs4.below rfl) 1 _ rfl))) rfl rfl ?_
    refine ws_q (i := 11) rfl (by kernel_rfl) (rq_val rfl rfl rfl (rv_move rfl)) rfl rfl ?_
    refine ws_q (i := 12) rfl (by kernel_rfl) (rq_val rfl rfl rfl (rv_move rfl)) rfl rfl ?_
    refine ws_q (i := 13) rfl (by kernel_rfl) (rq_val rfl rfl rfl (rv_indexAddr rfl rfl (by omega))) rfl rfl ?_
    refine ws_q (i := 14) rfl (by kernel_rfl) (rq_val rfl rfl rfl (rv_fieldAddr rfl)) rfl rfl ?_
    refine ws_q (i := 15) rfl (by kernel_rfl) (rq_val rfl rfl rfl (rv_load_cell rfl (fun w4 hs4 => hcell w4 (hs4.below rfl) 2 _ rfl))) rfl rfl ?_
    refine ws_q (i := 16) rfl (by kernel_rfl) (rq_val rfl rfl rfl (rv_build [(0, _), (1, _), (2, _)] (⟨rfl, ⟨_, rfl, rfl⟩, ⟨rfl, ⟨_, rfl, rfl⟩, ⟨rfl, ⟨_, rfl, rfl⟩, trivial⟩⟩⟩))) rfl rfl ?_
    refine ws_w 17 rfl (by kernel_rfl) (by kernel_rfl) rfl (wo_bs [_] rfl rfl rfl (⟨rfl, rfl, ⟨_, rfl, rfl⟩, trivial⟩) rfl rfl (fun b28 hb28 => ?_))
    refine wl_stage (pa_drop (by kernel_rfl) (pa_drop (by kernel_rfl) (pa_drop (by kernel_rfl) (pa_drop (by kernel_rfl) (pa_drop (by kernel_rfl) (pa_drop (by kernel_rfl) (pa_drop (by kernel_rfl) (pa_drop (by kernel_rfl) (pa_drop (by kernel_rfl) (pa_drop (by kernel_rfl) (pa_drop (by kernel_rfl) (pa_drop (by kernel_rfl) (pa_drop (by kernel_rfl) (pa_drop (by kernel_rfl) (pa_drop (by kernel_rfl) (pa_drop (by kernel_rfl) (pa_keep (rq_val rfl rfl rfl (rv_move rfl)) (pa_nil)))))))))))))))))) ?_
    refine ws_w 18 rfl (by kernel_rfl) (by kernel_rfl) rfl (wo_append rfl rfl rfl rfl rfl [] ⟨[_], rfl⟩ (hR.beside hb28 |>.ids rfl) (by unfold maxLen; omega) rfl rfl rfl (fun v6 w6 hR6 hm6 ho6 => ?_))
    refine wl_stage (pa_drop (by kernel_rfl) (pa_nil)) ?_
    refine ws_q (i := 19) rfl (by kernel_rfl) (rq_val rfl rfl rfl (rv_assign rfl)) rfl rfl ?_
    refine ws_nil (by kernel_rfl) ?_
    refine wq_in_normal ?_
    refine wq_then ?_
    refine wc_region ?_
    refine wl_go rfl (wo_val rfl (rv_move rfl) rfl rfl ?_)
    refine wl_go rfl (wo_val rfl (rv_add rfl rfl (by omega)) rfl rfl ?_)
    refine wl_go rfl (wo_val rfl (rv_assign rfl) rfl rfl ?_)
    refine wl_nil ?_
    refine wq_round ⟨_, _, ⟨k + 1, v6, _, by omega, ?_, rfl, rfl, rfl⟩, by omega, by repeat (first | exact sub_nil | refine sub_cons rfl ?_)⟩
    rw [List.take_add_one, hx]
    have e : ((ws.take k ++ [x]).flatMap woC) = (ws.take k).flatMap woC ++ woC x := by simp [List.flatMap_append]
    exact e ▸ hR6
  · simp only [decide_eq_true_eq, decide_eq_false_iff_not, Bool.not_eq_true', Bool.not_eq_false', bne_iff_ne, beq_iff_eq, bne_eq_false_iff_eq, beq_eq_false_iff_ne, Int.not_lt, Int.not_le] at hc8
    refine wc_exit ?_
    refine wq_then_exit ?_
    refine wq_then_exit ?_
    refine wq_in_here ?_
    refine wq_then ?_
    refine wc_seq ?_
    refine wc_region ?_
    refine wl_go rfl (wo_val rfl (rv_move rfl) rfl rfl ?_)
    refine wl_go rfl (wo_val rfl (rv_assign rfl) rfl rfl ?_)
    refine wl_nil ?_
    refine wq_then ?_
    refine wc_ret ?_
    refine wq_ret1 rfl rfl (rr_tmp rfl) (fun w9 hs9 => ?_)
    obtain rfl : k = ws.length := by omega
    rw [List.take_length] at hR
    exact ⟨_, rfl, hR.at hs9, hs9.below rfl⟩

/-- what is compared of a word -/
def key (pl : Bool) (x : Wo) : Int × Bs × Nat := (x.k, x.t, if pl then x.at_ else 0)
theorem take_key {pl : Bool} {ws vs : List Wo} {k : Nat} {x y : Wo} (hx : ws[k]? = some x) (hy : vs[k]? = some y) (h : (ws.take k).map (key pl) = (vs.take k).map (key pl)) (hk : key pl x = key pl y) : (ws.take (k + 1)).map (key pl) = (vs.take (k + 1)).map (key pl) := by
  rw [List.take_add_one, List.take_add_one, hx, hy, List.map_append, List.map_append, h]
  simp [hk]
theorem key_ne {pl : Bool} {ws vs : List Wo} {k : Nat} {x y : Wo} (hx : ws[k]? = some x) (hy : vs[k]? = some y) (hk : key pl x ≠ key pl y) : ¬ ws.map (key pl) = vs.map (key pl) := fun h => by
  have := congrArg (fun l => l[k]?) h
  simp only [List.getElem?_map, hx, hy, Option.map_some, Option.some.injEq] at this
  exact hk this
set_option maxHeartbeats 1000000 in
theorem same_calls (p q : Option Addr) (c d : Nat) (ws vs : List Wo) (hws : ws.length ≤ 70000) (pl : Bool) (w : World) (hrd : Rd w p c ws) (hrd2 : Rd w q d vs) : Calls Tryd.prog 10 #[.slice p ws.length c, .slice q vs.length d, .bool pl] w fun e w' => e = .returned (.bool (decide (ws.map (key pl) = vs.map (key pl)))) ∧ Below w.heap.size w w' := by
  refine calls_start Tryd.func10 rfl (N := 59) rfl rfl _ (St.start _) rfl ?_
  refine wc_seq ?_
  refine wc_region ?_
  refine wl_go rfl (wo_val rfl (rv_assign rfl) rfl rfl ?_)
  refine wl_nil ?_
  refine wq_then ?_
  refine wc_seq ?_
  refine wc_seq ?_
  refine wc_region ?_
  refine wl_go rfl (wo_val rfl (rv_move rfl) rfl rfl ?_)
  refine wl_go rfl (wo_val rfl (rv_len rfl) rfl rfl ?_)
  refine wl_go rfl (wo_val rfl (rv_move rfl) rfl rfl ?_)
  refine wl_go rfl (wo_val rfl (rv_len rfl) rfl rfl ?_)
  refine wl_go rfl (wo_val rfl (rv_cmp_i rfl rfl rfl) rfl rfl ?_)
  refine wl_nil ?_
  refine wq_then ?_
  refine wc_cond rfl (fun hc12 => ?_) (fun hc12 => ?_)
  · simp only [decide_eq_true_eq, decide_eq_false_iff_not, Bool.not_eq_true', Bool.not_eq_false', bne_iff_ne, beq_iff_eq, bne_eq_false_iff_eq, beq_eq_false_iff_ne, Int.not_lt, Int.not_le] at hc12
    have hl : ws.length ≠ vs.length := by omega
    refine wc_seq ?_
    refine wc_region ?_
    refine wl_go rfl (wo_val rfl (rv_assign rfl) rfl rfl ?_)
    refine wl_nil ?_
    refine wq_then ?_
    refine wc_ret ?_
    refine wq_then_ret ?_
    refine wq_ret1 rfl rfl (rr_tmp rfl) (fun w9 hs9 => ?_)
    rw [decide_eq_false (fun h => hl (by simpa using congrArg List.length h))]
    exact ⟨rfl, hs9.below rfl⟩
  · simp only [decide_eq_true_eq, decide_eq_false_iff_not, Bool.not_eq_true', Bool.not_eq_false', bne_iff_ne, beq_iff_eq, bne_eq_false_iff_eq, beq_eq_false_iff_ne, Int.not_lt, Int.not_le] at hc12
    have hl : ws.length = vs.length := by omega
    refine wc_skip ?_
    refine wq_then ?_
    refine wc_seq ?_
    refine wc_seq ?_
    refine wc_region ?_
    refine wl_go rfl (wo_val rfl (rv_assign rfl) rfl rfl ?_)
    refine wl_nil ?_
    refine wq_then ?_
    refine wc_block ?_
    refine wc_loop (fun m l S => ∃ (k : Nat) (w1 : World), k ≤ ws.length ∧ (ws.take k).map (key pl) = (vs.take k).map (key pl) ∧ m = ws.length - k ∧ l = [(0, .slice p ws.length c), (1, .slice q vs.length d), (2, .bool pl), (7, .int .i64 (k : Int))] ∧ S = ⟨w, G0, w1, []⟩) ⟨_, _, ⟨0, w, Nat.zero_le _, rfl, rfl, rfl, rfl⟩, by repeat (first | exact sub_nil | refine sub_cons rfl ?_)⟩ ?_
    intro m l S hJ
    obtain ⟨k, w1, hk, hkk, rfl, rfl, rfl⟩ := hJ
    refine wc_seq ?_
    refine wc_seq ?_
    refine wc_region ?_
    refine wl_go rfl (wo_val rfl (rv_move rfl) rfl rfl ?_)
    refine wl_go rfl (wo_val rfl (rv_move rfl) rfl rfl ?_)
    refine wl_go rfl (wo_val rfl (rv_len rfl) rfl rfl ?_)
    refine wl_go rfl (wo_val rfl (rv_cmp_i rfl rfl rfl) rfl rfl ?_)
    refine wl_nil ?_
    refine wq_then ?_
    refine wc_cond rfl (fun hc16 => ?_) (fun hc16 => ?_)
    · simp only [decide_eq_true_eq, decide_eq_false_iff_not, Bool.not_eq_true', Bool.not_eq_false', bne_iff_ne, beq_iff_eq, bne_eq_false_iff_eq, beq_eq_false_iff_ne, Int.not_lt, Int.not_le] at hc16
      obtain ⟨x, hx⟩ : ∃ x, ws[k]? = some x := ⟨_, List.getElem?_eq_getElem (by omega)⟩
      obtain ⟨y, hy⟩ : ∃ y, vs[k]? = some y := ⟨_, List.getElem?_eq_getElem (by omega)⟩
      obtain ⟨g, o, rfl, hcx⟩ := hrd.read hx
      obtain ⟨g2, o2, rfl, hcy⟩ := hrd2.read hy
      refine wc_skip ?_
      refine wq_then ?_
      refine wc_seq ?_
      refine wc_block ?_
      refine wc_seq ?_
      refine wc_region_quiet (by kernel_rfl) (by kernel_rfl) ?_
      refine wk_val rfl rfl (rv_move rfl) rfl rfl ?_
      refine wk_val rfl rfl (rv_move rfl) rfl rfl ?_
      refine wk_val rfl rfl (rv_indexAddr rfl rfl (by omega)) rfl rfl ?_
      refine wk_val rfl rfl (rv_fieldAddr0 rfl) rfl rfl ?_
      refine wk_val rfl rfl (rv_load_cell rfl (fun w4 hs4 => hcx w4 (hs4.below rfl) 0 _ rfl)) rfl rfl ?_
      refine wk_val rfl rfl (rv_move rfl) rfl rfl ?_
      refine wk_val rfl rfl (rv_move rfl) rfl rfl ?_
      refine wk_val rfl rfl (rv_indexAddr rfl rfl (by omega)) rfl rfl ?_
      refine wk_val rfl rfl (rv_fieldAddr0 rfl) rfl rfl ?_
      refine wk_val rfl rfl (rv_load_cell rfl (fun w4 hs4 => hcy w4 (hs4.below rfl) 0 _ rfl)) rfl rfl ?_
      refine wk_val rfl rfl (rv_cmp_i rfl rfl rfl) rfl rfl ?_
      refine wk_val rfl rfl (rv_move rfl) rfl rfl ?_
      refine wk_split (d := 30) rfl true (fun hg6_11 => ?_) (fun hg6_11 => ?_)
      · skip
        have hkn : ¬ (x.k : Int) = (y.k : Int) := by simpa using hg6_11
        refine wk_skip rfl rfl rfl rfl rfl hg6_11 rfl ?_
        refine wk_skip rfl rfl rfl rfl rfl hg6_11 rfl ?_
        refine wk_skip rfl rfl rfl rfl rfl hg6_11 rfl ?_
        refine wk_skip rfl rfl rfl rfl rfl hg6_11 rfl ?_
        refine wk_skip rfl rfl rfl rfl rfl hg6_11 rfl ?_
        refine wk_skip rfl rfl rfl rfl rfl hg6_11 rfl ?_
        refine wk_skip rfl rfl rfl rfl rfl hg6_11 rfl ?_
        refine wk_skip rfl rfl rfl rfl rfl hg6_11 rfl ?_
        refine wk_skip rfl rfl rfl rfl rfl hg6_11 rfl ?_
        refine wk_skip rfl rfl rfl rfl rfl hg6_11 rfl ?_
        refine wk_skip rfl rfl rfl rfl rfl hg6_11 rfl ?_
        refine wk_val rfl rfl (rv_pick_t rfl hg6_11 rfl) rfl rfl ?_
        refine wk_val rfl rfl (rv_move rfl) rfl rfl ?_
        refine wk_skip rfl rfl rfl rfl rfl rfl rfl ?_
        refine wk_skip rfl rfl rfl rfl rfl rfl rfl ?_
        refine wk_skip_u rfl rfl rfl rfl rfl rfl ?_
        refine wk_skip_u rfl rfl rfl rfl rfl rfl ?_
        refine wk_skip_u rfl rfl rfl rfl rfl rfl ?_
        refine wk_skip_u rfl rfl rfl rfl rfl rfl ?_
        refine wk_skip_u rfl rfl rfl rfl rfl rfl ?_
        refine wk_skip_u rfl rfl rfl rfl rfl rfl ?_
        refine wk_skip_u rfl rfl rfl rfl rfl rfl ?_
        refine wk_skip_u rfl rfl rfl rfl rfl rfl ?_
        refine wk_skip_u rfl rfl rfl rfl rfl rfl ?_
        refine wk_skip_u rfl rfl rfl rfl rfl rfl ?_
        refine wk_skip_u rfl rfl rfl rfl rfl rfl ?_
        refine wk_skip rfl rfl rfl rfl rfl rfl rfl ?_
        refine wk_val rfl rfl (rv_pick_t rfl rfl rfl) rfl rfl ?_
        refine wk_nil ?_
        refine wq_then ?_
        refine wc_cond_t rfl rfl ?_
        refine wc_seq ?_
        refine wc_region ?_
        refine wl_go rfl (wo_val rfl (rv_assign rfl) rfl rfl ?_)
        refine wl_nil ?_
        refine wq_then ?_
        refine wc_ret ?_
        refine wq_in_ret ?_
        refine wq_then_ret ?_
        refine wq_then_ret ?_
        refine wq_in_ret ?_
        refine wq_then_ret ?_
        refine wq_ret1 rfl rfl (rr_tmp rfl) (fun w9 hs9 => ?_)
        rw [decide_eq_false (key_ne hx hy (fun h => hkn (by rw [show x.k = y.k from congrArg (·.1) h])))]
        exact ⟨rfl, hs9.below rfl⟩
      · skip
        have hke0 : (x.k : Int) = (y.k : Int) := by simpa using hg6_11
        have hke : x.k = y.k := by omega
        refine wk_want rfl rfl rfl rfl rfl hg6_11 rfl (rv_move rfl) rfl rfl ?_
        refine wk_want rfl rfl rfl rfl rfl hg6_11 rfl (rv_move rfl) rfl rfl ?_
        refine wk_want rfl rfl rfl rfl rfl hg6_11 rfl (rv_indexAddr rfl rfl (by omega)) rfl rfl ?_
        refine wk_want rfl rfl rfl rfl rfl hg6_11 rfl (rv_fieldAddr rfl) rfl rfl ?_
        refine wk_want rfl rfl rfl rfl rfl hg6_11 rfl (rv_load_cell rfl (fun w4 hs4 => hcx w4 (hs4.below rfl) 1 _ rfl)) rfl rfl ?_
        refine wk_want rfl rfl rfl rfl rfl hg6_11 rfl (rv_move rfl) rfl rfl ?_
        refine wk_want rfl rfl rfl rfl rfl hg6_11 rfl (rv_move rfl) rfl rfl ?_
        refine wk_want rfl rfl rfl rfl rfl hg6_11 rfl (rv_indexAddr rfl rfl (by omega)) rfl rfl ?_
        refine wk_want rfl rfl rfl rfl rfl hg6_11 rfl (rv_fieldAddr rfl) rfl rfl ?_
        refine wk_want rfl rfl rfl rfl rfl hg6_11 rfl (rv_load_cell rfl (fun w4 hs4 => hcy w4 (hs4.below rfl) 1 _ rfl)) rfl rfl ?_
        refine wk_want rfl rfl rfl rfl rfl hg6_11 rfl (rb_neq rfl rfl) rfl rfl ?_
        refine wk_val rfl rfl (rv_pick_f rfl hg6_11 rfl) rfl rfl ?_
        refine wk_val rfl rfl (rv_move rfl) rfl rfl ?_
        refine wk_split (d := 43) rfl true (fun hg6_24 => ?_) (fun hg6_24 => ?_)
        · skip
          have htn : ¬ x.t = y.t := by simpa using hg6_24
          refine wk_skip rfl rfl rfl rfl rfl hg6_24 rfl ?_
          refine wk_skip rfl rfl rfl rfl rfl hg6_24 rfl ?_
          refine wk_skip_u rfl rfl rfl rfl rfl rfl ?_
          refine wk_skip_u rfl rfl rfl rfl rfl rfl ?_
          refine wk_skip_u rfl rfl rfl rfl rfl rfl ?_
          refine wk_skip_u rfl rfl rfl rfl rfl rfl ?_
          refine wk_skip_u rfl rfl rfl rfl rfl rfl ?_
          refine wk_skip_u rfl rfl rfl rfl rfl rfl ?_
          refine wk_skip_u rfl rfl rfl rfl rfl rfl ?_
          refine wk_skip_u rfl rfl rfl rfl rfl rfl ?_
          refine wk_skip_u rfl rfl rfl rfl rfl rfl ?_
          refine wk_skip_u rfl rfl rfl rfl rfl rfl ?_
          refine wk_skip_u rfl rfl rfl rfl rfl rfl ?_
          refine wk_skip rfl rfl rfl rfl rfl hg6_24 rfl ?_
          refine wk_val rfl rfl (rv_pick_t rfl hg6_24 rfl) rfl rfl ?_
          refine wk_nil ?_
          refine wq_then ?_
          refine wc_cond_t rfl rfl ?_
          refine wc_seq ?_
          refine wc_region ?_
          refine wl_go rfl (wo_val rfl (rv_assign rfl) rfl rfl ?_)
          refine wl_nil ?_
          refine wq_then ?_
          refine wc_ret ?_
          refine wq_in_ret ?_
          refine wq_then_ret ?_
          refine wq_then_ret ?_
          refine wq_in_ret ?_
          refine wq_then_ret ?_
          refine wq_ret1 rfl rfl (rr_tmp rfl) (fun w9 hs9 => ?_)
          rw [decide_eq_false (key_ne hx hy (fun h => htn (congrArg (·.2.1) h)))]
          exact ⟨rfl, hs9.below rfl⟩
        · skip
          have hte : x.t = y.t := by simpa using hg6_24
          refine wk_want rfl rfl rfl rfl rfl hg6_24 rfl (rv_move rfl) rfl rfl ?_
          refine wk_want rfl rfl rfl rfl rfl hg6_24 rfl (rv_move rfl) rfl rfl ?_
          refine wk_split (d := 45) rfl true (fun hg6_26 => ?_) (fun hg6_26 => ?_)
          · skip
            refine wk_want rfl rfl rfl rfl rfl hg6_26 rfl (rv_move rfl) rfl rfl ?_
            refine wk_want rfl rfl rfl rfl rfl hg6_26 rfl (rv_move rfl) rfl rfl ?_
            refine wk_want rfl rfl rfl rfl rfl hg6_26 rfl (rv_indexAddr rfl rfl (by omega)) rfl rfl ?_
            refine wk_want rfl rfl rfl rfl rfl hg6_26 rfl (rv_fieldAddr rfl) rfl rfl ?_
            refine wk_want rfl rfl rfl rfl rfl hg6_26 rfl (rv_load_cell rfl (fun w4 hs4 => hcx w4 (hs4.below rfl) 2 _ rfl)) rfl rfl ?_
            refine wk_want rfl rfl rfl rfl rfl hg6_26 rfl (rv_move rfl) rfl rfl ?_
            refine wk_want rfl rfl rfl rfl rfl hg6_26 rfl (rv_move rfl) rfl rfl ?_
            refine wk_want rfl rfl rfl rfl rfl hg6_26 rfl (rv_indexAddr rfl rfl (by omega)) rfl rfl ?_
            refine wk_want rfl rfl rfl rfl rfl hg6_26 rfl (rv_fieldAddr rfl) rfl rfl ?_
            refine wk_want rfl rfl rfl rfl rfl hg6_26 rfl (rv_load_cell rfl (fun w4 hs4 => hcy w4 (hs4.below rfl) 2 _ rfl)) rfl rfl ?_
            refine wk_want rfl rfl rfl rfl rfl hg6_26 rfl (rv_cmp_i rfl rfl rfl) rfl rfl ?_
            refine wk_want rfl rfl rfl rfl rfl hg6_24 rfl (rv_pick_t rfl hg6_26 rfl) rfl rfl ?_
            refine wk_val rfl rfl (rv_pick_f rfl hg6_24 rfl) rfl rfl ?_
            refine wk_nil ?_
            refine wq_then ?_
            refine wc_cond rfl (fun hc58 => ?_) (fun hc58 => ?_)
            · skip
              have han : ¬ (x.at_ : Int) = (y.at_ : Int) := by simpa using hc58
              refine wc_seq ?_
              refine wc_region ?_
              refine wl_go rfl (wo_val rfl (rv_assign rfl) rfl rfl ?_)
              refine wl_nil ?_
              refine wq_then ?_
              refine wc_ret ?_
              refine wq_in_ret ?_
              refine wq_then_ret ?_
              refine wq_then_ret ?_
              refine wq_in_ret ?_
              refine wq_then_ret ?_
              refine wq_ret1 rfl rfl (rr_tmp rfl) (fun w9 hs9 => ?_)
              rw [decide_eq_false (key_ne hx hy (fun h => han (by have h2 : (if pl then x.at_ else 0) = (if pl then y.at_ else 0) := congrArg (·.2.2) h; rw [hg6_26] at h2; simp only [if_true] at h2; rw [h2])))]
              exact ⟨rfl, hs9.below rfl⟩
            · skip
              have hae0 : (x.at_ : Int) = (y.at_ : Int) := by simpa using hc58
              have hae : x.at_ = y.at_ := by omega
              refine wc_skip ?_
              refine wq_in_normal ?_
              refine wq_then ?_
              refine wc_region ?_
              refine wl_go rfl (wo_val rfl (rv_move rfl) rfl rfl ?_)
              refine wl_go rfl (wo_val rfl (rv_add rfl rfl (by omega)) rfl rfl ?_)
              refine wl_go rfl (wo_val rfl (rv_assign rfl) rfl rfl ?_)
              refine wl_nil ?_
              refine wq_round ⟨_, _, ⟨k + 1, _, by omega, ?_, rfl, rfl, rfl⟩, by omega, by repeat (first | exact sub_nil | refine sub_cons rfl ?_)⟩
              exact take_key hx hy hkk (by unfold key; rw [hke, hte, hae])
          · skip
            refine wk_skip rfl rfl rfl rfl rfl hg6_26 rfl ?_
            refine wk_skip rfl rfl rfl rfl rfl hg6_26 rfl ?_
            refine wk_skip rfl rfl rfl rfl rfl hg6_26 rfl ?_
            refine wk_skip rfl rfl rfl rfl rfl hg6_26 rfl ?_
            refine wk_skip rfl rfl rfl rfl rfl hg6_26 rfl ?_
            refine wk_skip rfl rfl rfl rfl rfl hg6_26 rfl ?_
            refine wk_skip rfl rfl rfl rfl rfl hg6_26 rfl ?_
            refine wk_skip rfl rfl rfl rfl rfl hg6_26 rfl ?_
            refine wk_skip rfl rfl rfl rfl rfl hg6_26 rfl ?_
            refine wk_skip rfl rfl rfl rfl rfl hg6_26 rfl ?_
            refine wk_skip rfl rfl rfl rfl rfl hg6_26 rfl ?_
            refine wk_want rfl rfl rfl rfl rfl hg6_24 rfl (rv_pick_f rfl hg6_26 rfl) rfl rfl ?_
            refine wk_val rfl rfl (rv_pick_f rfl hg6_24 rfl) rfl rfl ?_
            refine wk_nil ?_
            refine wq_then ?_
            refine wc_cond_f rfl rfl ?_
            refine wc_skip ?_
            refine wq_in_normal ?_
            refine wq_then ?_
            refine wc_region ?_
            refine wl_go rfl (wo_val rfl (rv_move rfl) rfl rfl ?_)
            refine wl_go rfl (wo_val rfl (rv_add rfl rfl (by omega)) rfl rfl ?_)
            refine wl_go rfl (wo_val rfl (rv_assign rfl) rfl rfl ?_)
            refine wl_nil ?_
            refine wq_round ⟨_, _, ⟨k + 1, _, by omega, ?_, rfl, rfl, rfl⟩, by omega, by repeat (first | exact sub_nil | refine sub_cons rfl ?_)⟩
            exact take_key hx hy hkk (by unfold key; rw [hke, hte, hg6_26]; rfl)
    · simp only [decide_eq_true_eq, decide_eq_false_iff_not, Bool.not_eq_true', Bool.not_eq_false', bne_iff_ne, beq_iff_eq, bne_eq_false_iff_eq, beq_eq_false_iff_ne, Int.not_lt, Int.not_le] at hc16
      refine wc_exit ?_
      refine wq_then_exit ?_
      refine wq_then_exit ?_
      refine wq_in_here ?_
      refine wq_then ?_
      refine wc_seq ?_
      refine wc_region ?_
      refine wl_go rfl (wo_val rfl (rv_assign rfl) rfl rfl ?_)
      refine wl_nil ?_
      refine wq_then ?_
      refine wc_ret ?_
      refine wq_ret1 rfl rfl (rr_tmp rfl) (fun w9 hs9 => ?_)
      obtain rfl : k = ws.length := by omega
      rw [List.take_length, hl, List.take_length] at hkk
      rw [decide_eq_true hkk]
      exact ⟨rfl, hs9.below rfl⟩
end Go.Proofs.YtlaolodnnjcgdaaDoor.Wd
