/- The walks of grammars: By; keys that are arrays. -/
import Derived.DeepKeys4
import Derived.Test.YtlppkbfkajionaaCmC
namespace Go.Proofs.Ytlppkbfkajionaa.Cm
open Go Go.RowKit Gw Go.Shelf
set_option linter.unusedSimpArgs false
set_option linter.unusedVariables false
set_option linter.unusedSectionVars false
theorem mapM_some {α β : Type} (f : α → Option β) (g : α → β) : ∀ (l : List α), (∀ x ∈ l, f x = some (g x)) → l.mapM f = some (l.map g)
  | [], _ => rfl
  | x :: r, h => by
    rw [List.mapM_cons, h x (by simp), mapM_some f g r (fun y hy => h y (by simp [hy]))]
    rfl
theorem arr_key {P : Program} {k n e : Nat} {q : IntKind} (hu : P.underlying k = some (.array n e)) (he : P.underlying e = some (.int q)) (hk : P.keyType k = true) (hc : P.cellsOf k = n) (hce : P.cellsOf e = 1) (hp : Nat.ble 1 P.types.size = true) (xs : List Int) (hn : xs.length = n) (hw : ∀ x ∈ xs, (Lit.int q x).wf = true) : ∃ l, keyOf P k (.agg (xs.map (.int q)).toArray) = some l := by
  obtain ⟨d, hd⟩ : ∃ d, P.types.size = d + 1 := ⟨P.types.size - 1, by have := Nat.le_of_ble_eq_true hp; omega⟩
  have h1 : (List.range n).mapM (fun i => P.keyLits (d + 1) e (((xs.map (Value.int q)).drop (i * 1)).take 1)) = some ((List.range n).map fun i => [Lit.int q (xs.getD i 0)]) := by
    refine mapM_some _ _ _ fun i hi => ?_
    have hi' : i < xs.length := by have := List.mem_range.1 hi; omega
    have e1 : ((xs.map (Value.int q)).drop (i * 1)).take 1 = [Value.int q xs[i]] := by
      rw [Nat.mul_one, List.drop_eq_getElem_cons (by simpa using hi')]
      simp
    rw [e1]
    unfold Program.keyLits
    simp [he, hw _ (List.getElem_mem hi'), List.getD, hi']
  have h2 : P.keyLits (P.types.size + 1) k (xs.map (Value.int q)) = some (((List.range n).map fun i => [Lit.int q (xs.getD i 0)]).flatten) := by
    rw [hd]
    unfold Program.keyLits
    simp only [hu, hc, List.length_map, hn, if_true, hce, h1, Option.map_some]
  exact ⟨_, by
    unfold keyOf
    simp only [hu, hk, Value.formed, hc, List.size_toArray, List.length_map, hn, beq_self_eq_true, Bool.and_self, if_true]
    rw [show (Value.agg (xs.map (Value.int q)).toArray).cells.toList = xs.map (Value.int q) from rfl, h2]
    rfl⟩
def ek (r : List Int) : Value := .agg ((keyL r).map iv).toArray
theorem ek_inj : ∀ r s : List Int, ek r = ek s → r = s := fun r s h => by
  unfold ek at h
  simp only [Value.agg.injEq] at h
  have h := congrArg Array.toList h
  simp only at h
  refine keyL_inj ?_
  have := congrArg (List.map (fun v : Value => match v with | .int _ x => x | _ => 0)) h
  simpa [List.map_map, Function.comp_def] using this
theorem ek_key {g : Gr} (h1 : g.names.length ≤ 128) {r : List Int} (hf : Fit g r) : ∃ l, keyOf Try.prog 152 (ek r) = some l :=
  arr_key (q := .i64) Try.underlying152 Try.underlying3 (by kernel_rfl) (by kernel_rfl) (by kernel_rfl) (by kernel_rfl) (keyL r) (keyL_len hf.len) (fun x hx => by
    have hb : -9223372036854775808 ≤ x ∧ x ≤ 9223372036854775807 := by
      unfold keyL at hx
      rcases List.mem_cons.1 hx with rfl | hx
      · have := hf.len; omega
      · rcases List.mem_append.1 hx with hx | hx
        · have := hf.all x hx; omega
        · have := List.eq_of_mem_replicate hx; omega
    simp [Lit.wf, IntKind.min, IntKind.max, IntKind.signed, IntKind.bits]; omega)
theorem keyed152 : Maps.Keyed Try.prog 152 := Maps.Keyed.of_law (deep_law_laid (m := 2) (by kernel_rfl) (by omega) (show 153 ≤ _ from Nat.le_of_ble_eq_true (by kernel_rfl)) (by kernel_rfl) (by kernel_rfl))
set_option maxHeartbeats 1000000 in
theorem by_calls (x : GS) (g : Gr) (s : Int) (w : World) (hg : Gm w x g) (hlen : g.rules.length ≤ 1000000) : Calls Try.prog 135 #[.agg (gC x g).toArray, iv s] w fun e w' => ∃ v, e = .returned v ∧ w'.ownsRow w.heap.size 3 1 v (byL g.rules s).length ((byL g.rules s).map iv) ∧ Below w.heap.size w w' := by
  refine calls_start Try.func135 rfl (N := 32) rfl rfl _ (St.start _) rfl ?_
  refine wc_seq ?_
  refine wc_region ?_
  refine wl_go rfl (wo_box rfl rfl rfl rfl rfl (fun b2 hb2 => ?_))
  refine wl_go rfl (wo_val rfl (rv_assign rfl) rfl rfl ?_)
  refine wl_nil ?_
  refine wq_then ?_
  refine wc_seq ?_
  refine wc_region ?_
  refine wl_go rfl (wo_val rfl (rv_assign rfl) rfl rfl ?_)
  refine wl_nil ?_
  refine wq_then ?_
  refine wc_seq ?_
  refine wc_seq ?_
  refine wc_region ?_
  refine wl_go rfl (wo_val rfl (rv_fieldAddr rfl) rfl rfl ?_)
  refine wl_go rfl (wo_val rfl (rv_load_own rfl rfl) rfl rfl ?_)
  refine wl_go rfl (wo_val rfl (rv_len rfl) rfl rfl ?_)
  refine wl_go rfl (wo_val rfl (rv_move rfl) rfl rfl ?_)
  refine wl_nil ?_
  refine wq_then ?_
  refine wc_block ?_
  refine wc_loop (fun m l S => ∃ (k : Nat) (v : Value) (w1 : World), k ≤ g.rules.length ∧ Rw ⟨w, G0, w1, [⟨b2, .cells (gC x g).toArray 53 (0, 0)⟩]⟩ 3 1 v (byL (g.rules.take k) s).length ((byL (g.rules.take k) s).map iv) ∧ m = g.rules.length - k ∧ l = [(1, iv s), (5, v), (9, .slice x.rp g.rules.length x.rc), (10, iv (g.rules.length : Int)), (11, iv (k : Int))] ∧ S = ⟨w, G0, w1, [⟨b2, .cells (gC x g).toArray 53 (0, 0)⟩]⟩) ⟨_, _, ⟨0, .slice none 0 0, _, Nat.zero_le _, Rw.nil _ _ _, rfl, rfl, rfl⟩, by repeat (first | exact sub_nil | refine sub_cons rfl ?_)⟩ ?_
  intro m l S hJ
  obtain ⟨k, v, w1, hk, hR, rfl, rfl, rfl⟩ := hJ
  refine wc_seq ?_
  refine wc_region ?_
  refine wl_go rfl (wo_val rfl (rv_cmp_i rfl rfl rfl) rfl rfl ?_)
  refine wl_nil ?_
  refine wq_then ?_
  refine wc_seq ?_
  refine wc_cond rfl (fun hc12 => ?_) (fun hc12 => ?_)
  · simp only [decide_eq_true_eq, decide_eq_false_iff_not, Bool.not_eq_true', Bool.not_eq_false', bne_iff_ne, beq_iff_eq, bne_eq_false_iff_eq, beq_eq_false_iff_ne, Int.not_lt, Int.not_le] at hc12
    have hbl : (byL (g.rules.take k) s).length ≤ k := Nat.le_trans (byL_len _ _) (List.length_take_le _ _)
    obtain ⟨r, hr⟩ := getE (l := g.rules) (i := k) (by omega)
    obtain ⟨g0, o0, q, d, hrp, hcell, hrow⟩ := hg.rules.read hr
    rw [hrp]
    refine wc_skip ?_
    refine wq_then ?_
    refine wc_seq ?_
    refine wc_block ?_
    refine wc_seq ?_
    refine wc_region ?_
    refine wl_go rfl (wo_val rfl (rv_move rfl) rfl rfl ?_)
    refine wl_go rfl (wo_val rfl (rv_indexAddr rfl rfl (by omega)) rfl rfl ?_)
    refine wl_go rfl (wo_val rfl (rv_load_cell rfl (fun w4 hs4 => hcell w4 (hs4.below rfl))) rfl rfl ?_)
    refine wl_go rfl (wo_val rfl (rv_assign rfl) rfl rfl ?_)
    refine wl_go rfl (wo_val rfl (rv_assign rfl) rfl rfl ?_)
    refine wl_nil ?_
    refine wq_then ?_
    refine wc_seq ?_
    refine wc_region ?_
    refine wl_go rfl (wo_val rfl (rv_move rfl) rfl rfl ?_)
    refine wl_go rfl (wo_val rfl (rv_len rfl) rfl rfl ?_)
    refine wl_go rfl (wo_val rfl (rv_cmp_i rfl rfl rfl) rfl rfl ?_)
    refine wl_go rfl (wo_val rfl (rv_move rfl) rfl rfl ?_)
    refine wl_split (d := 19) rfl true (fun hg5_3 => ?_) (fun hg5_3 => ?_)
    · skip
      have h0 : 0 < r.length := by simpa using hg5_3
      obtain ⟨y, hy⟩ := getE h0
      obtain ⟨g1, o1, rfl, hcell1⟩ := hrow.read (map_get hy)
      have hhd : r.head? = some y := by rw [List.head?_eq_getElem?, hy]
      refine wl_want rfl rfl rfl rfl rfl hg5_3 (wo_val rfl (rv_move rfl) rfl rfl ?_)
      refine wl_want rfl rfl rfl rfl rfl hg5_3 (wo_val rfl (rv_indexAddr rfl rfl (by omega)) rfl rfl ?_)
      refine wl_want rfl rfl rfl rfl rfl hg5_3 (wo_val rfl (rv_load_cell rfl (fun w4 hs4 => hcell1 w4 (hs4.below rfl))) rfl rfl ?_)
      refine wl_want rfl rfl rfl rfl rfl hg5_3 (wo_val rfl (rv_move rfl) rfl rfl ?_)
      refine wl_want rfl rfl rfl rfl rfl hg5_3 (wo_val rfl (rv_cmp_i rfl rfl rfl) rfl rfl ?_)
      refine wl_go rfl (wo_val rfl (rv_pick_t rfl hg5_3 rfl) rfl rfl ?_)
      refine wl_nil ?_
      refine wq_then ?_
      refine wc_cond rfl (fun hc25 => ?_) (fun hc25 => ?_)
      · simp only [decide_eq_true_eq, decide_eq_false_iff_not, Bool.not_eq_true', Bool.not_eq_false', bne_iff_ne, beq_iff_eq, bne_eq_false_iff_eq, beq_eq_false_iff_ne, Int.not_lt, Int.not_le] at hc25
        have hyes : (r.head? == some s) = true := by rw [hhd]; simpa using hc25
        refine wc_region ?_
        refine wl_go rfl (wo_val rfl (rv_move rfl) rfl rfl ?_)
        refine wl_go rfl (wo_val rfl (rv_move rfl) rfl rfl ?_)
        refine wl_go rfl (wo_bs [_] rfl rfl rfl (⟨rfl, rfl, ⟨_, rfl, rfl⟩, trivial⟩) rfl rfl (fun b28 hb28 => ?_))
        refine wl_go rfl (wo_append rfl rfl rfl rfl rfl [_] ⟨[_], rfl⟩ (hR.beside hb28 |>.ids rfl) (by unfold maxLen; omega) rfl rfl rfl (fun v6 w6 hR6 hm6 ho6 => ?_))
        refine wl_go rfl (wo_val rfl (rv_assign rfl) rfl rfl ?_)
        refine wl_nil ?_
        refine wq_in_normal ?_
        refine wq_then ?_
        refine wc_region ?_
        refine wl_go rfl (wo_val rfl (rv_add rfl rfl (by omega)) rfl rfl ?_)
        refine wl_go rfl (wo_val rfl (rv_move rfl) rfl rfl ?_)
        refine wl_nil ?_
        refine wq_round ⟨_, _, ⟨k + 1, v6, _, by omega, ?_, rfl, rfl, rfl⟩, by omega, by repeat (first | exact sub_nil | refine sub_cons rfl ?_)⟩
        rw [List.take_add_one, hr, Option.toList_some, byL_snoc, if_pos hyes, List.length_append, List.map_append]
        rw [List.length_take, Nat.min_eq_left (by omega)]
        exact hR6
      · simp only [decide_eq_true_eq, decide_eq_false_iff_not, Bool.not_eq_true', Bool.not_eq_false', bne_iff_ne, beq_iff_eq, bne_eq_false_iff_eq, beq_eq_false_iff_ne, Int.not_lt, Int.not_le] at hc25
        refine wc_skip ?_
        refine wq_in_normal ?_
        refine wq_then ?_
        refine wc_region ?_
        refine wl_go rfl (wo_val rfl (rv_add rfl rfl (by omega)) rfl rfl ?_)
        refine wl_go rfl (wo_val rfl (rv_move rfl) rfl rfl ?_)
        refine wl_nil ?_
        have hno : ¬ (r.head? == some s) = true := by rw [hhd]; simpa using hc25
        refine wq_round ⟨_, _, ⟨k + 1, v, _, by omega, ?_, rfl, rfl, rfl⟩, by omega, by repeat (first | exact sub_nil | refine sub_cons rfl ?_)⟩
        rw [List.take_add_one, hr, Option.toList_some, byL_snoc, if_neg hno, List.append_nil]
        exact hR
    · skip
      have h0 : r = [] := by simpa using hg5_3
      refine wl_skip rfl rfl rfl rfl rfl hg5_3 rfl ?_
      refine wl_skip rfl rfl rfl rfl rfl hg5_3 rfl ?_
      refine wl_skip rfl rfl rfl rfl rfl hg5_3 rfl ?_
      refine wl_skip rfl rfl rfl rfl rfl hg5_3 rfl ?_
      refine wl_skip rfl rfl rfl rfl rfl hg5_3 rfl ?_
      refine wl_go rfl (wo_val rfl (rv_pick_f rfl hg5_3 rfl) rfl rfl ?_)
      refine wl_nil ?_
      refine wq_then ?_
      refine wc_cond_f rfl rfl ?_
      refine wc_skip ?_
      refine wq_in_normal ?_
      refine wq_then ?_
      refine wc_region ?_
      refine wl_go rfl (wo_val rfl (rv_add rfl rfl (by omega)) rfl rfl ?_)
      refine wl_go rfl (wo_val rfl (rv_move rfl) rfl rfl ?_)
      refine wl_nil ?_
      have hno : ¬ (r.head? == some s) = true := by rw [h0]; simp
      refine wq_round ⟨_, _, ⟨k + 1, v, _, by omega, ?_, rfl, rfl, rfl⟩, by omega, by repeat (first | exact sub_nil | refine sub_cons rfl ?_)⟩
      rw [List.take_add_one, hr, Option.toList_some, byL_snoc, if_neg hno, List.append_nil]
      exact hR
  · simp only [decide_eq_true_eq, decide_eq_false_iff_not, Bool.not_eq_true', Bool.not_eq_false', bne_iff_ne, beq_iff_eq, bne_eq_false_iff_eq, beq_eq_false_iff_ne, Int.not_lt, Int.not_le] at hc12
    obtain rfl : k = g.rules.length := by omega
    simp only [List.take_length] at hR
    refine wc_exit ?_
    refine wq_then_exit ?_
    refine wq_then_exit ?_
    refine wq_in_here ?_
    refine wq_then ?_
    refine wc_seq ?_
    refine wc_region ?_
    refine wl_go rfl (wo_val rfl (rv_move rfl) rfl rfl ?_)
    refine wl_go rfl (wo_val rfl (rv_assign rfl) rfl rfl ?_)
    refine wl_nil ?_
    refine wq_then ?_
    refine wc_ret ?_
    refine wq_ret1 rfl rfl (rr_tmp rfl) (fun w9 hs9 => ?_)
    exact ⟨_, rfl, hR.at hs9, hs9.below rfl⟩
end Go.Proofs.Ytlppkbfkajionaa.Cm
