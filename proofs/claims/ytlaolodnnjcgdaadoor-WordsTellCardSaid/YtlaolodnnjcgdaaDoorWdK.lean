/- The walks of words: Join, and the reference's Join, Line, IsName. -/
import Derived.Test.YtlaolodnnjcgdaaDoorWdJ
namespace Go.Proofs.YtlaolodnnjcgdaaDoor.Wd
open Go Go.RowKit Gw Go.Shelf
/-- a word as it is written -/
def jn (x : Wo) : Bs := if x.k = 2 then [47] ++ x.t ++ [47] else x.t
def joinW (ws : List Wo) : Bs := Lib.join (ws.map jn) [32]
theorem tail_len (ts : List Bs) (M : Nat) (h : ∀ t ∈ ts, t.length ≤ M) : (Lib.joinTail [32] ts).length ≤ ts.length * (M + 1) := by
  unfold Lib.joinTail
  induction ts with
  | nil => simp
  | cons t r ih =>
    rw [List.map_cons, List.flatten_cons, List.length_append, List.length_append, List.length_singleton, List.length_cons]
    have h1 := h t (by simp)
    have h2 := ih (fun u hu => h u (by simp [hu]))
    rw [Nat.succ_mul]
    omega
theorem join_len (ts : List Bs) (M : Nat) (h : ∀ t ∈ ts, t.length ≤ M) : (Lib.join ts [32]).length ≤ ts.length * (M + 1) := by
  cases ts with
  | nil => rw [Lib.join_nil]; simp
  | cons t r =>
    rw [Lib.join_cons, List.length_append]
    have h1 := h t (by simp)
    have h2 := tail_len r M (fun u hu => h u (by simp [hu]))
    rw [List.length_cons, Nat.succ_mul]
    omega
theorem join_of (w : World) (v : Value) (ts : List Bs) (base : Nat) (h : w.ownsRow base 9 1 v ts.length (ts.map fun t => .string (toB t))) (h1 : ts.length ≤ 70000) (h2 : ∀ t ∈ ts, t.length ≤ 70002) :
    Calls Tryd.prog 28 #[v, .string (toB [32])] w fun e w' => e = .returned (.string (toB (Lib.join ts [32]))) ∧ Below w.heap.size w w' := by
  obtain ⟨_, hc⟩ := h
  rcases hc with ⟨rfl, hn⟩ | ⟨g, cap, cur, rfl, _, hh, hnc, _, hcs, htk⟩
  · obtain rfl := List.eq_nil_of_length_eq_zero hn
    exact (Tryd.strings_Join_none none 0 (toB [32]) w).mono fun e w' h => ⟨h.1, h.2 ▸ Below.refl _ _⟩
  · have hl := join_len ts 70002 h2
    have em : (ts.map toB).map (·.data.toList) = ts := by rw [List.map_map]; simp [Function.comp_def]
    have hj := Tryd.strings_Join g 0 cap (ts.map toB) (toB [32]) w (fun j x hx => ?_) (Array.getElem?_eq_some_iff.1 hh).1 (by rw [List.length_map]; omega) (by rw [List.length_map]; exact hnc) (by
      rw [em]
      show (Lib.join ts [32]).length ≤ _
      have : ts.length * 70003 ≤ 70000 * 70003 := Nat.mul_le_mul_right _ h1
      omega)
    · rw [List.length_map] at hj
      rw [em] at hj
      exact hj
    · rw [List.getElem?_map] at hx
      obtain ⟨t, ht, rfl⟩ := Option.map_eq_some_iff.1 hx
      have hlt := (List.getElem?_eq_some_iff.1 ht).1
      have h3 : (ts.map fun t => Value.string (toB t))[j]? = some (.string (toB t)) := by rw [List.getElem?_map, ht]; rfl
      rw [← htk, List.getElem?_take] at h3
      split at h3
      · simp only [World.cell?, hh, Nat.zero_add]
        simpa using h3
      · cases h3
set_option maxHeartbeats 1000000 in
theorem join_calls (p : Option Addr) (c : Nat) (ws : List Wo) (hws : ws.length ≤ 70000) (hts : ∀ x ∈ ws, x.t.length ≤ 70000) (w : World) (hrd : Rd w p c ws) : Calls Tryd.prog 16 #[.slice p ws.length c] w fun e w' => e = .returned (.string (toB (joinW ws))) ∧ Below w.heap.size w w' := by
  refine calls_start Tryd.func16 rfl (N := 28) rfl rfl _ (St.start _) rfl ?_
  refine wc_seq ?_
  refine wc_region ?_
  refine wl_go rfl (wo_val rfl (rv_assign rfl) rfl rfl ?_)
  refine wl_nil ?_
  refine wq_then ?_
  refine wc_seq ?_
  refine wc_region ?_
  refine wl_go rfl (wo_val rfl (rv_assign rfl) rfl rfl ?_)
  refine wl_nil ?_
  refine wq_then ?_
  refine wc_seq ?_
  refine wc_seq ?_
  refine wc_region ?_
  refine wl_go rfl (wo_val rfl (rv_move rfl) rfl rfl ?_)
  refine wl_go rfl (wo_val rfl (rv_len rfl) rfl rfl ?_)
  refine wl_go rfl (wo_val rfl (rv_move rfl) rfl rfl ?_)
  refine wl_nil ?_
  refine wq_then ?_
  refine wc_block ?_
  refine wc_loop (fun m l S => ∃ (k : Nat) (v : Value) (w1 : World), k ≤ ws.length ∧ Rw ⟨w, G0, w1, []⟩ 9 1 v k ((ws.take k).map fun x => .string (toB (jn x))) ∧ m = ws.length - k ∧ l = [(3, v), (6, .slice p ws.length c), (7, .int .i64 (ws.length : Int)), (8, .int .i64 (k : Int))] ∧ S = ⟨w, G0, w1, []⟩) ⟨_, _, ⟨0, .slice none 0 0, w, Nat.zero_le _, Rw.nil _ _ _, rfl, rfl, rfl⟩, by repeat (first | exact sub_nil | refine sub_cons rfl ?_)⟩ ?_
  intro m l S hJ
  obtain ⟨k, v, w1, hk, hR, rfl, rfl, rfl⟩ := hJ
  refine wc_seq ?_
  refine wc_region ?_
  refine wl_go rfl (wo_val rfl (rv_cmp_i rfl rfl rfl) rfl rfl ?_)
  refine wl_nil ?_
  refine wq_then ?_
  refine wc_seq ?_
  refine wc_cond rfl (fun hc9 => ?_) (fun hc9 => ?_)
  · simp only [decide_eq_true_eq, decide_eq_false_iff_not, Bool.not_eq_true', Bool.not_eq_false', bne_iff_ne, beq_iff_eq, bne_eq_false_iff_eq, beq_eq_false_iff_ne, Int.not_lt, Int.not_le] at hc9
    obtain ⟨x, hx⟩ : ∃ x, ws[k]? = some x := ⟨_, List.getElem?_eq_getElem (by omega)⟩
    obtain ⟨g, o, rfl, hcell⟩ := hrd.read hx
    have hxt := hts x (List.mem_of_getElem? hx)
    refine wc_skip ?_
    refine wq_then ?_
    refine wc_seq ?_
    refine wc_block ?_
    refine wc_seq ?_
    refine wc_region ?_
    refine wl_go rfl (wo_val rfl (rv_indexAddr rfl rfl (by omega)) rfl rfl ?_)
    refine wl_go rfl (wo_val rfl (rv_load_range rfl rfl (fun w4 hs4 j u hu => hcell w4 (hs4.below rfl) j u hu)) rfl rfl ?_)
    refine wl_go rfl (wo_alloc rfl rfl rfl (fun b5 hb5 => ?_))
    refine wl_go rfl (wo_st rfl rfl rfl rfl rfl rfl rfl ?_)
    refine wl_nil ?_
    refine wq_then ?_
    refine wc_seq ?_
    refine wc_seq ?_
    refine wc_region ?_
    refine wl_go rfl (wo_val rfl (rv_fieldAddr0 rfl) rfl rfl ?_)
    refine wl_go rfl (wo_val rfl (rv_load_own rfl rfl) rfl rfl ?_)
    refine wl_go rfl (wo_val rfl (rv_cmp_i rfl rfl rfl) rfl rfl ?_)
    refine wl_nil ?_
    refine wq_then ?_
    refine wc_cond rfl (fun hc14 => ?_) (fun hc14 => ?_)
    · simp only [decide_eq_true_eq, decide_eq_false_iff_not, Bool.not_eq_true', Bool.not_eq_false', bne_iff_ne, beq_iff_eq, bne_eq_false_iff_eq, beq_eq_false_iff_ne, Int.not_lt, Int.not_le] at hc14
      have hk2 : x.k = 2 := by omega
      refine wc_region ?_
      refine wl_go rfl (wo_val rfl (rv_fieldAddr rfl) rfl rfl ?_)
      refine wl_go rfl (wo_val rfl (rv_load_own rfl rfl) rfl rfl ?_)
      refine wl_go rfl (wo_val rfl (rb_cat (s := [47]) rfl rfl (by simp; omega)) rfl rfl ?_)
      refine wl_go rfl (wo_val rfl (rb_cat (t := [47]) rfl rfl (by simp; omega)) rfl rfl ?_)
      refine wl_go rfl (wo_val rfl (rv_fieldAddr rfl) rfl rfl ?_)
      refine wl_go rfl (wo_st rfl rfl rfl rfl rfl rfl rfl ?_)
      refine wl_nil ?_
      refine wq_then ?_
      refine wc_region ?_
      refine wl_go rfl (wo_val rfl (rv_move rfl) rfl rfl ?_)
      refine wl_go rfl (wo_val rfl (rv_fieldAddr rfl) rfl rfl ?_)
      refine wl_go rfl (wo_val rfl (rv_load_own rfl rfl) rfl rfl ?_)
      refine wl_go rfl (wo_bs [_] rfl rfl rfl (⟨rfl, rfl, ⟨_, rfl, rfl⟩, trivial⟩) rfl rfl (fun b23 hb23 => ?_))
      refine wl_go rfl (wo_append rfl rfl rfl rfl rfl [] ⟨[_, _], rfl⟩ ((hR.beside hb5).beside hb23 |>.ids rfl) (by unfold maxLen; omega) rfl rfl rfl (fun v6 w6 hR6 hm6 ho6 => ?_))
      refine wl_go rfl (wo_val rfl (rv_assign rfl) rfl rfl ?_)
      refine wl_nil ?_
      refine wq_in_normal ?_
      refine wq_then ?_
      refine wc_region ?_
      refine wl_go rfl (wo_val rfl (rv_add rfl rfl (by omega)) rfl rfl ?_)
      refine wl_go rfl (wo_val rfl (rv_move rfl) rfl rfl ?_)
      refine wl_nil ?_
      refine wq_round ⟨_, _, ⟨k + 1, v6, _, by omega, ?_, rfl, rfl, rfl⟩, by omega, by repeat (first | exact sub_nil | refine sub_cons rfl ?_)⟩
      rw [List.take_add_one, hx]
      have e : ((ws.take k ++ [x]).map fun x => Value.string (toB (jn x))) = ((ws.take k).map fun x => Value.string (toB (jn x))) ++ [.string (toB ([47] ++ x.t ++ [47]))] := by rw [List.map_append]; simp [jn, hk2]
      exact e ▸ hR6
    · simp only [decide_eq_true_eq, decide_eq_false_iff_not, Bool.not_eq_true', Bool.not_eq_false', bne_iff_ne, beq_iff_eq, bne_eq_false_iff_eq, beq_eq_false_iff_ne, Int.not_lt, Int.not_le] at hc14
      have hk2 : ¬ x.k = 2 := fun e => by rw [e] at hc14; exact hc14 rfl
      refine wc_skip ?_
      refine wq_then ?_
      refine wc_region ?_
      refine wl_go rfl (wo_val rfl (rv_move rfl) rfl rfl ?_)
      refine wl_go rfl (wo_val rfl (rv_fieldAddr rfl) rfl rfl ?_)
      refine wl_go rfl (wo_val rfl (rv_load_own rfl rfl) rfl rfl ?_)
      refine wl_go rfl (wo_bs [_] rfl rfl rfl (⟨rfl, rfl, ⟨_, rfl, rfl⟩, trivial⟩) rfl rfl (fun b23 hb23 => ?_))
      refine wl_go rfl (wo_append rfl rfl rfl rfl rfl [] ⟨[_, _], rfl⟩ ((hR.beside hb5).beside hb23 |>.ids rfl) (by unfold maxLen; omega) rfl rfl rfl (fun v6 w6 hR6 hm6 ho6 => ?_))
      refine wl_go rfl (wo_val rfl (rv_assign rfl) rfl rfl ?_)
      refine wl_nil ?_
      refine wq_in_normal ?_
      refine wq_then ?_
      refine wc_region ?_
      refine wl_go rfl (wo_val rfl (rv_add rfl rfl (by omega)) rfl rfl ?_)
      refine wl_go rfl (wo_val rfl (rv_move rfl) rfl rfl ?_)
      refine wl_nil ?_
      refine wq_round ⟨_, _, ⟨k + 1, v6, _, by omega, ?_, rfl, rfl, rfl⟩, by omega, by repeat (first | exact sub_nil | refine sub_cons rfl ?_)⟩
      rw [List.take_add_one, hx]
      have e : ((ws.take k ++ [x]).map fun x => Value.string (toB (jn x))) = ((ws.take k).map fun x => Value.string (toB (jn x))) ++ [.string (toB (x.t))] := by rw [List.map_append]; simp [jn, hk2]
      exact e ▸ hR6
  · simp only [decide_eq_true_eq, decide_eq_false_iff_not, Bool.not_eq_true', Bool.not_eq_false', bne_iff_ne, beq_iff_eq, bne_eq_false_iff_eq, beq_eq_false_iff_ne, Int.not_lt, Int.not_le] at hc9
    obtain rfl : k = ws.length := by omega
    have hRt : ∀ {w4}, St ⟨w, G0, w1, []⟩ w4 → w4.ownsRow w.heap.size 9 1 v (ws.map jn).length ((ws.map jn).map fun t => .string (toB t)) := fun hs => by
      have h := hR.at hs
      rw [List.take_length] at h
      rw [List.length_map, List.map_map]
      exact h
    refine wc_exit ?_
    refine wq_then_exit ?_
    refine wq_then_exit ?_
    refine wq_in_here ?_
    refine wq_then ?_
    refine wc_seq ?_
    refine wc_region ?_
    refine wl_go rfl (wo_val rfl (rv_move rfl) rfl rfl ?_)
    refine wl_go rfl (wo_call (R := fun _ v _ => v = _) rfl rfl (enters_of Tryd.func28 (by kernel_rfl) rfl) rfl rfl rfl (fun w4 hs4 => (join_of w4 v (ws.map jn) w.heap.size (hRt hs4) (by rw [List.length_map]; exact hws) (fun t ht => by obtain ⟨x, hx, rfl⟩ := List.mem_map.1 ht; have := hts x hx; unfold jn; split <;> simp <;> omega)).mono fun e w' h => ⟨_, h.1, rfl, h.2⟩) (fun w2 v2 w3 hs2 hv hb2 hm2 => ?_))
    subst hv
    refine wl_go rfl (wo_val rfl (rv_assign rfl) rfl rfl ?_)
    refine wl_nil ?_
    refine wq_then ?_
    refine wc_ret ?_
    refine wq_ret1 rfl rfl (rr_tmp rfl) (fun w9 hs9 => ?_)
    exact ⟨rfl, hs9.below rfl⟩
end Go.Proofs.YtlaolodnnjcgdaaDoor.Wd
