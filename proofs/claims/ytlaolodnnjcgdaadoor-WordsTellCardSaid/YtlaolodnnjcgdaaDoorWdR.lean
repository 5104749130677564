/- The laws of words: Tell. -/
import Derived.Test.YtlaolodnnjcgdaaDoorWdN
namespace Go.Proofs.YtlaolodnnjcgdaaDoor.Wd
open Go Go.RowKit Gw Go.Shelf
/-- a slice in memory that reads as these numbers -/
structure Ri (w : World) (p : Option Addr) (c : Nat) (ks : List Int) : Prop where
  cap : ks.length ≤ c
  at_ : ∀ (i : Nat) x, ks[i]? = some x → ∃ g o, p = some ⟨g, o, none⟩ ∧ w.cell? ⟨g, o + i, none⟩ = some (.int .i64 x)
theorem Ri.read {w : World} {p : Option Addr} {c : Nat} {ks : List Int} (h : Ri w p c ks) {i : Nat} {x : Int} (hx : ks[i]? = some x) : ∃ g o, p = some ⟨g, o, none⟩ ∧ ∀ w', Below w.heap.size w w' → w'.cell? ⟨g, o + i * 1, none⟩ = some (.int .i64 x) :=
  let ⟨g, o, hp, hc⟩ := h.at_ i x hx; ⟨g, o, hp, fun w' hb => by rw [Nat.mul_one]; exact cell_below hb hc⟩
/-- the words that the law makes -/
def mkW (s : Bs) (ks : List Int) : List Wo := (List.range ks.length).map fun i => ⟨ks.getD i 0, s.take (min i s.length), 0⟩
theorem mkW_len (s : Bs) (ks : List Int) : (mkW s ks).length = ks.length := by simp [mkW]
theorem mkW_at (s : Bs) (ks : List Int) {i : Nat} {x : Int} (hx : ks[i]? = some x) : (mkW s ks)[i]? = some ⟨x, s.take (min i s.length), 0⟩ := by
  have hlt := (List.getElem?_eq_some_iff.1 hx).1
  unfold mkW
  rw [List.getElem?_map, List.getElem?_range hlt]
  simp [List.getD, hx]
theorem mkW_text (s : Bs) (ks : List Int) (hs : s.length ≤ 300) : ∀ x ∈ mkW s ks, x.t.length ≤ 70000 := fun x hx => by
  obtain ⟨i, _, rfl⟩ := List.mem_map.1 hx
  show (s.take (min i s.length)).length ≤ _
  rw [List.length_take]
  omega
theorem rlineN_calls (s : Bs) (i : Int) (hsz : s.length ≤ 4611686018427387000) (w : World) : Calls Tryd.prog 13 #[.string (toB s), .int .i64 i] w fun e w' => e = .returned (.tuple #[.int .i64 (LN s i), .int .i64 (CN s i)]) ∧ Below w.heap.size w w' := rLine_calls s i hsz w
set_option maxHeartbeats 1000000 in
theorem lawTell_calls (s : Bs) (i : Int) (p : Option Addr) (c : Nat) (ks : List Int) (w : World) (hri : Ri w p c ks) : Calls Tryd.prog 4 #[.string (toB s), .int .i64 i, .slice p ks.length c] w fun e w' => e = .returned (.bool true) ∧ Below w.heap.size w w' := by
  refine calls_start Tryd.func4 rfl (N := 80) rfl rfl _ (St.start _) rfl ?_
  refine wc_seq ?_
  refine wc_region ?_
  refine wl_go rfl (wo_val rfl (rv_assign rfl) rfl rfl ?_)
  refine wl_nil ?_
  refine wq_then ?_
  refine wc_seq ?_
  refine wc_region ?_
  refine wl_go rfl (wo_call (R := fun _ v _ => v = _) rfl rfl (enters_of Tryd.func7 (by kernel_rfl) rfl) rfl rfl rfl (fun w hs => (awake_calls _).mono fun e w' h => ⟨_, h.1, rfl, h.2⟩) (fun w2w vw w3w hs2w hvw hb2w hm2w => ?_))
  subst hvw
  refine wl_go rfl (wo_val rfl (rv_assign rfl) rfl rfl ?_)
  refine wl_nil ?_
  refine wq_then ?_
  refine wc_seq ?_
  refine wc_seq ?_
  refine wc_region ?_
  refine wl_go rfl (wo_val rfl (rv_move rfl) rfl rfl ?_)
  refine wl_go rfl (wo_val rfl (rv_not rfl) rfl rfl ?_)
  refine wl_nil ?_
  refine wq_then ?_
  refine wc_cond_f rfl rfl ?_
  refine wc_skip ?_
  refine wq_then ?_
  refine wc_seq ?_
  refine wc_seq ?_
  refine wc_region ?_
  refine wl_go rfl (wo_val rfl (rv_move rfl) rfl rfl ?_)
  refine wl_go rfl (wo_val rfl (rb_len rfl) rfl rfl ?_)
  refine wl_go rfl (wo_val rfl (rv_cmp_i rfl rfl rfl) rfl rfl ?_)
  refine wl_go rfl (wo_val rfl (rv_move rfl) rfl rfl ?_)
  refine wl_split (d := 20) rfl true (fun hg4_3 => ?_) (fun hg4_3 => ?_)
  · skip
    have h3 := of_decide_eq_true hg4_3
    refine wl_skip rfl rfl rfl rfl rfl hg4_3 rfl ?_
    refine wl_skip rfl rfl rfl rfl rfl hg4_3 rfl ?_
    refine wl_skip rfl rfl rfl rfl rfl hg4_3 rfl ?_
    refine wl_go rfl (wo_val rfl (rv_pick_t rfl hg4_3 rfl) rfl rfl ?_)
    refine wl_nil ?_
    refine wq_then ?_
    refine wc_cond_t rfl rfl ?_
    refine wc_seq ?_
    refine wc_region ?_
    refine wl_go rfl (wo_val rfl (rv_assign rfl) rfl rfl ?_)
    refine wl_nil ?_
    refine wq_then ?_
    refine wc_ret ?_
    refine wq_then_ret ?_
    refine wq_ret1 rfl rfl (rr_tmp rfl) (fun w9 hs9 => ?_)
    exact ⟨rfl, hs9.below rfl⟩
  · skip
    have h3 := of_decide_eq_false hg4_3
    refine wl_want rfl rfl rfl rfl rfl hg4_3 (wo_val rfl (rv_move rfl) rfl rfl ?_)
    refine wl_want rfl rfl rfl rfl rfl hg4_3 (wo_val rfl (rv_len rfl) rfl rfl ?_)
    refine wl_want rfl rfl rfl rfl rfl hg4_3 (wo_val rfl (rv_cmp_i rfl rfl rfl) rfl rfl ?_)
    refine wl_go rfl (wo_val rfl (rv_pick_f rfl hg4_3 rfl) rfl rfl ?_)
    refine wl_nil ?_
    refine wq_then ?_
    refine wc_cond rfl (fun hc24 => ?_) (fun hc24 => ?_)
    · simp only [decide_eq_true_eq, decide_eq_false_iff_not, Bool.not_eq_true', Bool.not_eq_false', bne_iff_ne, beq_iff_eq, bne_eq_false_iff_eq, beq_eq_false_iff_ne, Int.not_lt, Int.not_le] at hc24
      refine wc_seq ?_
      refine wc_region ?_
      refine wl_go rfl (wo_val rfl (rv_assign rfl) rfl rfl ?_)
      refine wl_nil ?_
      refine wq_then ?_
      refine wc_ret ?_
      refine wq_then_ret ?_
      refine wq_ret1 rfl rfl (rr_tmp rfl) (fun w9 hs9 => ?_)
      exact ⟨rfl, hs9.below rfl⟩
    · simp only [decide_eq_true_eq, decide_eq_false_iff_not, Bool.not_eq_true', Bool.not_eq_false', bne_iff_ne, beq_iff_eq, bne_eq_false_iff_eq, beq_eq_false_iff_ne, Int.not_lt, Int.not_le] at hc24
      refine wc_skip ?_
      refine wq_then ?_
      refine wc_seq ?_
      refine wc_region ?_
      refine wl_go rfl (wo_val rfl (rv_assign rfl) rfl rfl ?_)
      refine wl_nil ?_
      refine wq_then ?_
      refine wc_seq ?_
      refine wc_seq ?_
      refine wc_region ?_
      refine wl_go rfl (wo_val rfl (rv_assign rfl) rfl rfl ?_)
      refine wl_nil ?_
      refine wq_then ?_
      refine wc_block ?_
      refine wc_loop (fun m l S => ∃ (k : Nat) (v : Value) (w1 : World), k ≤ ks.length ∧ Rw ⟨w, G0, w1, []⟩ 35 3 v k (((mkW s ks).take k).flatMap woC) ∧ m = ks.length - k ∧ l = [(0, .string (toB s)), (1, .int .i64 i), (2, .slice p ks.length c), (8, v), (9, .int .i64 (k : Int))] ∧ S = ⟨w, G0, w1, []⟩) ⟨_, _, ⟨0, .slice none 0 0, _, Nat.zero_le _, Rw.nil _ _ _, rfl, rfl, rfl⟩, by repeat (first | exact sub_nil | refine sub_cons rfl ?_)⟩ ?_
      intro m l S hJ
      obtain ⟨k, v, w1, hk, hR, rfl, rfl, rfl⟩ := hJ
      refine wc_seq ?_
      refine wc_seq ?_
      refine wc_region ?_
      refine wl_go rfl (wo_val rfl (rv_move rfl) rfl rfl ?_)
      refine wl_go rfl (wo_val rfl (rv_move rfl) rfl rfl ?_)
      refine wl_go rfl (wo_val rfl (rv_len rfl) rfl rfl ?_)
      refine wl_go rfl (wo_val rfl (rv_cmp_i rfl rfl rfl) rfl rfl ?_)
      refine wl_nil ?_
      refine wq_then ?_
      refine wc_cond rfl (fun hc28 => ?_) (fun hc28 => ?_)
      · simp only [decide_eq_true_eq, decide_eq_false_iff_not, Bool.not_eq_true', Bool.not_eq_false', bne_iff_ne, beq_iff_eq, bne_eq_false_iff_eq, beq_eq_false_iff_ne, Int.not_lt, Int.not_le] at hc28
        obtain ⟨x, hx⟩ : ∃ x, ks[k]? = some x := ⟨_, List.getElem?_eq_getElem (by omega)⟩
        obtain ⟨g, o, rfl, hcell⟩ := hri.read hx
        refine wc_skip ?_
        refine wq_then ?_
        refine wc_seq ?_
        refine wc_block ?_
        refine wc_region_stage (by kernel_rfl) (by kernel_rfl) ?_
        refine ws_q (i := 0) rfl (by kernel_rfl) (rq_val rfl rfl rfl (rv_move rfl)) rfl rfl ?_
        refine ws_q (i := 1) rfl (by kernel_rfl) (rq_val rfl rfl rfl (rv_move rfl)) rfl rfl ?_
        refine ws_q (i := 2) rfl (by kernel_rfl) (rq_val rfl rfl rfl (rv_move rfl)) rfl rfl ?_
        refine ws_q (i := 3) rfl (by kernel_rfl) (rq_val rfl rfl rfl (rv_indexAddr rfl rfl (by omega))) rfl rfl ?_
        refine ws_q (i := 4) rfl (by kernel_rfl) (rq_val rfl rfl rfl (rv_load_cell rfl (fun w4 hs4 => hcell w4 (hs4.below rfl)))) rfl rfl ?_
        refine ws_q (i := 5) rfl (by kernel_rfl) (rq_val rfl rfl rfl (rv_move rfl)) rfl rfl ?_
        refine ws_q (i := 6) rfl (by kernel_rfl) (rq_val rfl rfl rfl (rv_move rfl)) rfl rfl ?_
        refine ws_q (i := 7) rfl (by kernel_rfl) (rq_val rfl rfl rfl (rv_move rfl)) rfl rfl ?_
        refine ws_q (i := 8) rfl (by kernel_rfl) (rq_val rfl rfl rfl (rb_len rfl)) rfl rfl ?_
        refine ws_q (i := 9) rfl (by kernel_rfl) (rq_val rfl rfl rfl (rv_minmax rfl rfl (q := ((min k s.length : Nat) : Int)) (by show some _ = _; congr 1; split <;> omega))) rfl rfl ?_
        refine ws_q (i := 10) rfl (by kernel_rfl) (rq_val rfl rfl rfl (rb_slice_as (t := s.take (min k s.length)) rfl bnd_none (bnd_some rfl (by omega)) (by omega) rfl)) rfl rfl ?_
        refine ws_q (i := 11) rfl (by kernel_rfl) (rq_val rfl rfl rfl (rv_build [(0, _), (1, _)] (⟨rfl, ⟨_, rfl, rfl⟩, ⟨rfl, ⟨_, rfl, rfl⟩, trivial⟩⟩))) rfl rfl ?_
        refine ws_w 12 rfl (by kernel_rfl) (by kernel_rfl) rfl (wo_bs [_] rfl rfl rfl (⟨rfl, rfl, ⟨_, rfl, rfl⟩, trivial⟩) rfl rfl (fun b43 hb43 => ?_))
        refine wl_stage (pa_drop (by kernel_rfl) (pa_drop (by kernel_rfl) (pa_drop (by kernel_rfl) (pa_drop (by kernel_rfl) (pa_drop (by kernel_rfl) (pa_drop (by kernel_rfl) (pa_drop (by kernel_rfl) (pa_drop (by kernel_rfl) (pa_drop (by kernel_rfl) (pa_drop (by kernel_rfl) (pa_drop (by kernel_rfl) (pa_keep (rq_val rfl rfl rfl (rv_move rfl)) (pa_nil))))))))))))) ?_
        refine ws_w 13 rfl (by kernel_rfl) (by kernel_rfl) rfl (wo_append rfl rfl rfl rfl rfl [] ⟨[_], rfl⟩ (hR.beside hb43 |>.ids rfl) (by unfold maxLen; omega) rfl rfl rfl (fun v6 w6 hR6 hm6 ho6 => ?_))
        refine wl_stage (pa_drop (by kernel_rfl) (pa_nil)) ?_
        refine ws_q (i := 14) rfl (by kernel_rfl) (rq_val rfl rfl rfl (rv_assign rfl)) rfl rfl ?_
        refine ws_nil (by kernel_rfl) ?_
        refine wq_in_normal ?_
        refine wq_then ?_
        refine wc_region ?_
        refine wl_go rfl (wo_val rfl (rv_move rfl) rfl rfl ?_)
        refine wl_go rfl (wo_val rfl (rv_add rfl rfl (by omega)) rfl rfl ?_)
        refine wl_go rfl (wo_val rfl (rv_assign rfl) rfl rfl ?_)
        refine wl_nil ?_
        refine wq_round ⟨_, _, ⟨k + 1, v6, _, by omega, ?_, rfl, rfl, rfl⟩, by omega, by repeat (first | exact sub_nil | refine sub_cons rfl ?_)⟩
        rw [List.take_add_one, mkW_at s ks hx]
        have e : (((mkW s ks).take k ++ [(⟨x, s.take (min k s.length), 0⟩ : Wo)]).flatMap woC) = ((mkW s ks).take k).flatMap woC ++ woC ⟨x, s.take (min k s.length), 0⟩ := by simp [List.flatMap_append]
        exact e ▸ hR6
      · simp only [decide_eq_true_eq, decide_eq_false_iff_not, Bool.not_eq_true', Bool.not_eq_false', bne_iff_ne, beq_iff_eq, bne_eq_false_iff_eq, beq_eq_false_iff_ne, Int.not_lt, Int.not_le] at hc28
        obtain rfl : k = ks.length := by omega
        have hRa := hR.own
        rw [List.take_of_length_le (by rw [mkW_len]; omega), ← mkW_len s ks] at hRa
        obtain ⟨pa, ca, rfl, hra⟩ := rd_of hRa
        refine wc_exit ?_
        refine wq_then_exit ?_
        refine wq_then_exit ?_
        refine wq_in_here ?_
        refine wq_then ?_
        refine wc_seq ?_
        refine wc_region ?_
        refine wl_go rfl (wo_val rfl (rv_move rfl) rfl rfl ?_)
        refine wl_go rfl (wo_val rfl (rv_move rfl) rfl rfl ?_)
        refine wl_go rfl (wo_call (R := fun _ v _ => v = _) rfl rfl (enters_of Tryd.func12 (by kernel_rfl) rfl) rfl rfl rfl (fun w hs => (lineN_calls s i (by omega) _).mono fun e w' h => ⟨_, h.1, rfl, h.2⟩) (fun w2b vb w3b hs2b hvb hb2b hm2b => ?_))
        subst hvb
        replace hra := hra.go hs2b hb2b
        refine wl_go rfl (wo_val rfl (rv_move rfl) rfl rfl ?_)
        refine wl_go rfl (wo_val rfl (rv_extract rfl rfl) rfl rfl ?_)
        refine wl_go rfl (wo_val rfl (rv_extract rfl rfl) rfl rfl ?_)
        refine wl_go rfl (wo_val rfl (rv_assign rfl) rfl rfl ?_)
        refine wl_go rfl (wo_val rfl (rv_assign rfl) rfl rfl ?_)
        refine wl_nil ?_
        refine wq_then ?_
        refine wc_seq ?_
        refine wc_region ?_
        refine wl_go rfl (wo_val rfl (rv_move rfl) rfl rfl ?_)
        refine wl_go rfl (wo_val rfl (rv_move rfl) rfl rfl ?_)
        refine wl_go rfl (wo_call (R := fun _ v _ => v = _) rfl rfl (enters_of Tryd.func13 (by kernel_rfl) rfl) rfl rfl rfl (fun w hs => (rlineN_calls s i (by omega) _).mono fun e w' h => ⟨_, h.1, rfl, h.2⟩) (fun w2c vc w3c hs2c hvc hb2c hm2c => ?_))
        subst hvc
        replace hra := hra.go hs2c hb2c
        refine wl_go rfl (wo_val rfl (rv_move rfl) rfl rfl ?_)
        refine wl_go rfl (wo_val rfl (rv_extract rfl rfl) rfl rfl ?_)
        refine wl_go rfl (wo_val rfl (rv_extract rfl rfl) rfl rfl ?_)
        refine wl_go rfl (wo_val rfl (rv_assign rfl) rfl rfl ?_)
        refine wl_go rfl (wo_val rfl (rv_assign rfl) rfl rfl ?_)
        refine wl_nil ?_
        refine wq_then ?_
        refine wc_seq ?_
        refine wc_region ?_
        refine wl_go rfl (wo_val rfl (rv_move rfl) rfl rfl ?_)
        refine wl_go rfl (wo_call (R := fun _ v _ => v = _) rfl rfl (enters_of Tryd.func14 (by kernel_rfl) rfl) rfl rfl rfl (fun w hs => (IsName_calls s (by omega) _).mono fun e w' h => ⟨_, h.1, rfl, h.2⟩) (fun w2d vd w3d hs2d hvd hb2d hm2d => ?_))
        subst hvd
        replace hra := hra.go hs2d hb2d
        refine wl_go rfl (wo_val rfl (rv_move rfl) rfl rfl ?_)
        refine wl_go rfl (wo_call (R := fun _ v _ => v = _) rfl rfl (enters_of Tryd.func15 (by kernel_rfl) rfl) rfl rfl rfl (fun w hs => (rIsName_calls s (by omega) _).mono fun e w' h => ⟨_, h.1, rfl, h.2⟩) (fun w2e ve w3e hs2e hve hb2e hm2e => ?_))
        subst hve
        replace hra := hra.go hs2e hb2e
        refine wl_go rfl (wo_val rfl (rv_eql_b rfl rfl) rfl rfl ?_)
        refine wl_go rfl (wo_val rfl (rv_move rfl) rfl rfl ?_)
        refine wl_want rfl rfl rfl rfl rfl (beq_self_eq_true _) (wo_val rfl (rv_move rfl) rfl rfl ?_)
        refine wl_want rfl rfl rfl rfl rfl (beq_self_eq_true _) (wo_val rfl (rv_move rfl) rfl rfl ?_)
        refine wl_want rfl rfl rfl rfl rfl (beq_self_eq_true _) (wo_val rfl (rv_cmp_i rfl rfl rfl) rfl rfl ?_)
        refine wl_go rfl (wo_val rfl (rv_pick_t rfl (beq_self_eq_true _) rfl) rfl rfl ?_)
        refine wl_go rfl (wo_val rfl (rv_move rfl) rfl rfl ?_)
        refine wl_want rfl rfl rfl rfl rfl (beq_self_eq_true _) (wo_val rfl (rv_move rfl) rfl rfl ?_)
        refine wl_want rfl rfl rfl rfl rfl (beq_self_eq_true _) (wo_val rfl (rv_move rfl) rfl rfl ?_)
        refine wl_want rfl rfl rfl rfl rfl (beq_self_eq_true _) (wo_val rfl (rv_cmp_i rfl rfl rfl) rfl rfl ?_)
        refine wl_go rfl (wo_val rfl (rv_pick_t rfl (beq_self_eq_true _) rfl) rfl rfl ?_)
        refine wl_go rfl (wo_val rfl (rv_move rfl) rfl rfl ?_)
        refine wl_want rfl rfl rfl rfl rfl (beq_self_eq_true _) (wo_val rfl (rv_move rfl) rfl rfl ?_)
        refine wl_want rfl rfl rfl rfl rfl (beq_self_eq_true _) (wo_call (R := fun _ v _ => v = _) rfl rfl (enters_of Tryd.func16 (by kernel_rfl) rfl) rfl rfl rfl (fun w4 hs4 => (join_calls pa ca (mkW s ks) (by rw [mkW_len]; omega) (mkW_text s ks (by omega)) w4 (hra.now hs4)).mono fun e w' h => ⟨_, h.1, rfl, h.2⟩) (fun w2j v2j w3j hs2j hvj hb2j hm2j => ?_))
        subst hvj
        replace hra := hra.go hs2j hb2j
        refine wl_want rfl rfl rfl rfl rfl (beq_self_eq_true _) (wo_val rfl (rv_move rfl) rfl rfl ?_)
        refine wl_want rfl rfl rfl rfl rfl (beq_self_eq_true _) (wo_call (R := fun w v w' => w'.ownsRow w.heap.size 45 3 v (mkW s ks).length ((mkW s ks).flatMap woC)) rfl rfl (enters_of Tryd.func11 (by kernel_rfl) rfl) rfl rfl rfl (fun w4 hs4 => (plain_calls pa ca (mkW s ks) (by rw [mkW_len]; omega) w4 (hra.now hs4)).mono fun e w' ⟨x, h1, h2, h3⟩ => ⟨_, h1, h2, h3⟩) (fun w2f v2f w3f hs2f hvf hb2f hm2f => ?_))
        obtain ⟨pf, cf, rfl, hrf⟩ := rd_of hvf
        refine wl_want rfl rfl rfl rfl rfl (beq_self_eq_true _) (wo_call (R := fun _ v _ => v = _) rfl rfl (enters_of Tryd.func17 (by kernel_rfl) rfl) rfl rfl rfl (fun w4 hs4 => (rjoin_calls pf cf (mkW s ks) (by rw [mkW_len]; omega) (mkW_text s ks (by omega)) w4 (hrf.now hs4)).mono fun e w' h => ⟨_, h.1, rfl, h.2⟩) (fun w2k v2k w3k hs2k hvk hb2k hm2k => ?_))
        subst hvk
        refine wl_want rfl rfl rfl rfl rfl (beq_self_eq_true _) (wo_val rfl (rb_eql rfl rfl) rfl rfl ?_)
        refine wl_go rfl (wo_val rfl (rv_pick_t rfl (beq_self_eq_true _) rfl) rfl rfl ?_)
        refine wl_go rfl (wo_val rfl (rv_assign rfl) rfl rfl ?_)
        refine wl_nil ?_
        refine wq_then ?_
        refine wc_ret ?_
        refine wq_ret1 rfl rfl (rr_tmp rfl) (fun w9 hs9 => ?_)
        refine ⟨?_, hs9.below rfl⟩
        rw [beq_self_eq_true]
end Go.Proofs.YtlaolodnnjcgdaaDoor.Wd
