/- The walks of words: the reference's Join, Line, IsName. -/
import Derived.Test.YtlaolodnnjcgdaaDoorWdK
namespace Go.Proofs.YtlaolodnnjcgdaaDoor.Wd
open Go Go.RowKit Gw Go.Shelf
theorem tail_snoc (ts : List Bs) (t : Bs) : Lib.joinTail [32] (ts ++ [t]) = Lib.joinTail [32] ts ++ [32] ++ t := by
  unfold Lib.joinTail
  rw [List.map_append, List.flatten_append]
  simp
theorem join_snoc (ts : List Bs) (t : Bs) : Lib.join (ts ++ [t]) [32] = if ts = [] then t else Lib.join ts [32] ++ [32] ++ t := by
  cases ts with
  | nil => rw [List.nil_append, Lib.join_one]; rfl
  | cons u r =>
    rw [List.cons_append, Lib.join_cons, tail_snoc, Lib.join_cons, if_neg (by simp)]
    simp
theorem joinW_snoc {ws : List Wo} {k : Nat} {x : Wo} (hx : ws[k]? = some x) (h0 : 0 < k) : joinW (ws.take (k + 1)) = joinW (ws.take k) ++ [32] ++ jn x := by
  have hlt := (List.getElem?_eq_some_iff.1 hx).1
  unfold joinW
  rw [List.take_add_one, hx, List.map_append]
  show Lib.join ((ws.take k).map jn ++ [jn x]) [32] = _
  rw [join_snoc, if_neg (fun e => by have := congrArg List.length e; rw [List.length_map, List.length_take, List.length_nil] at this; omega)]
theorem joinW_first {ws : List Wo} {x : Wo} (hx : ws[0]? = some x) : joinW (ws.take (0 + 1)) = jn x := by
  unfold joinW
  rw [List.take_add_one, hx]
  show Lib.join [jn x] [32] = _
  rw [Lib.join_one]
theorem joinW_len (ws : List Wo) (h : ∀ x ∈ ws, x.t.length ≤ 70000) : (joinW ws).length ≤ ws.length * 70003 := by
  unfold joinW
  have := join_len (ws.map jn) 70002 (fun t ht => by
    obtain ⟨x, hx, rfl⟩ := List.mem_map.1 ht
    have := h x hx
    unfold jn
    split <;> simp <;> omega)
  rwa [List.length_map] at this
theorem nl_spec (l : Bs) : (lastNl l = -1 ∧ ∀ (j : Nat) c, l[j]? = some c → c ≠ 10) ∨ ∃ i : Nat, lastNl l = i ∧ l[i]? = some 10 ∧ ∀ (j : Nat) c, i < j → l[j]? = some c → c ≠ 10 := by
  have h := Lib.lastIdx_spec (toB l) 10 (toB l).size
  have e : ∀ (j : Nat) c, l[j]? = some c → (((toB l).data[j]!).toNat : Int) = c.toNat := fun j c hc => by simp [toB, getElem!_def, hc]
  rcases h with ⟨h1, h2⟩ | ⟨i, h1, h2, h3, h4⟩
  · refine .inl ⟨h1, fun j c hc hc2 => ?_⟩
    have hlt := (List.getElem?_eq_some_iff.1 hc).1
    refine h2 j (by rw [toB_size]; exact hlt) ?_
    rw [e j c hc, hc2]; rfl
  · rw [toB_size] at h1
    refine .inr ⟨i, h2, ?_, fun j c hij hc hc2 => ?_⟩
    · have hg : l[i]? = some l[i] := List.getElem?_eq_getElem h1
      rw [e i _ hg] at h3
      rw [hg]
      congr 1
      exact UInt8.toNat_inj.1 (by have : (10 : UInt8).toNat = 10 := rfl; omega)
    · have hlt := (List.getElem?_eq_some_iff.1 hc).1
      refine h4 j hij (by rw [toB_size]; exact hlt) ?_
      rw [e j c hc, hc2]; rfl
theorem nl_snoc {s : Bs} {k : Nat} {c : UInt8} (hc : s[k]? = some c) : lastNl (s.take (k + 1)) = if c = 10 then (k : Int) else lastNl (s.take k) := by
  have hk := (List.getElem?_eq_some_iff.1 hc).1
  have g1 : ∀ j, j < k → (s.take (k + 1))[j]? = s[j]? := fun j hj => by rw [List.getElem?_take, if_pos (by omega)]
  have g2 : (s.take (k + 1))[k]? = some c := by rw [List.getElem?_take, if_pos (by omega)]; exact hc
  have g3 : ∀ j, j < k → (s.take k)[j]? = s[j]? := fun j hj => by rw [List.getElem?_take, if_pos hj]
  have g4 : ∀ (j : Nat) d, (s.take k)[j]? = some d → j < k := fun j d hd => by have := (List.getElem?_eq_some_iff.1 hd).1; rw [List.length_take] at this; omega
  have g5 : ∀ (j : Nat) d, (s.take (k + 1))[j]? = some d → j < k + 1 := fun j d hd => by have := (List.getElem?_eq_some_iff.1 hd).1; rw [List.length_take] at this; omega
  by_cases h10 : c = 10
  · rw [if_pos h10]
    rcases nl_spec (s.take (k + 1)) with ⟨_, h2⟩ | ⟨i, h1, h2, h3⟩
    · exact absurd h10 (h2 k c g2)
    · have := g5 i _ h2
      rcases Nat.lt_or_ge i k with hl | hl
      · exact absurd h10 (h3 k c hl g2)
      · rw [h1]; congr 1; omega
  · rw [if_neg h10]
    rcases nl_spec (s.take (k + 1)) with ⟨h1, h2⟩ | ⟨i, h1, h2, h3⟩
    · rcases nl_spec (s.take k) with ⟨h4, h5⟩ | ⟨i, h4, h5, h6⟩
      · rw [h1, h4]
      · have hi := g4 i _ h5
        exact absurd rfl (h2 i 10 (by rw [g1 i hi, ← g3 i hi]; exact h5))
    · have hik : i < k := by
        have := g5 i _ h2
        rcases Nat.lt_or_ge i k with hl | hl
        · exact hl
        · obtain rfl : i = k := by omega
          rw [g2] at h2
          exact absurd (Option.some.inj h2) h10
      have h2' : (s.take k)[i]? = some 10 := by rw [g3 i hik, ← g1 i hik]; exact h2
      rcases nl_spec (s.take k) with ⟨_, h5⟩ | ⟨i', h4, h5, h6⟩
      · exact absurd rfl (h5 i 10 h2')
      · have hi' := g4 i' _ h5
        rw [h1, h4]
        congr 1
        rcases Nat.lt_trichotomy i i' with hl | hl | hl
        · exact absurd rfl (h3 i' 10 hl (by rw [g1 i' hi', ← g3 i' hi']; exact h5))
        · exact hl
        · exact absurd rfl (h6 i 10 hl h2')
theorem cnt_snoc {s : Bs} {k : Nat} {c : UInt8} (hc : s[k]? = some c) : (s.take (k + 1)).count 10 = (s.take k).count 10 + if c = 10 then 1 else 0 := by
  rw [List.take_add_one, hc, List.count_append]
  show _ + List.count 10 [c] = _
  rw [List.count_singleton]
  simp [beq_iff_eq]
set_option maxHeartbeats 1000000 in
theorem rLine_calls (s : Bs) (i : Int) (hsz : s.length ≤ 4611686018427387000) (w : World) : Calls Tryd.prog 13 #[.string (toB s), .int .i64 i] w fun e w' => e = .returned (.tuple #[.int .i64 (1 + ((s.take (cutAt s i)).count 10 : Int)), .int .i64 (((s.take (cutAt s i)).length : Int) - lastNl (s.take (cutAt s i)))]) ∧ Below w.heap.size w w' := by
  refine calls_start Tryd.func13 rfl (N := 30) rfl rfl _ (St.start _) rfl ?_
  refine wc_seq ?_
  refine wc_region ?_
  refine wl_go rfl (wo_val rfl (rv_assign rfl) rfl rfl ?_)
  refine wl_go rfl (wo_val rfl (rv_assign rfl) rfl rfl ?_)
  refine wl_nil ?_
  refine wq_then ?_
  refine wc_seq ?_
  refine wc_region ?_
  refine wl_go rfl (wo_val rfl (rv_assign rfl) rfl rfl ?_)
  refine wl_nil ?_
  refine wq_then ?_
  refine wc_seq ?_
  refine wc_region ?_
  refine wl_go rfl (wo_val rfl (rv_assign rfl) rfl rfl ?_)
  refine wl_nil ?_
  refine wq_then ?_
  refine wc_seq ?_
  refine wc_seq ?_
  refine wc_region ?_
  refine wl_go rfl (wo_val rfl (rv_assign rfl) rfl rfl ?_)
  refine wl_nil ?_
  refine wq_then ?_
  refine wc_block ?_
  refine wc_loop (fun m l S => ∃ (k : Nat) (w1 : World), (k : Int) ≤ max i 0 ∧ k ≤ s.length ∧ m = s.length - k ∧ l = [(0, .string (toB s)), (1, .int .i64 i), (6, .int .i64 (1 + ((s.take k).count 10 : Int))), (7, .int .i64 ((k : Int) - lastNl (s.take k))), (8, .int .i64 (k : Int))] ∧ S = ⟨w, G0, w1, []⟩) ⟨_, _, ⟨0, w, by omega, Nat.zero_le _, rfl, rfl, rfl⟩, by repeat (first | exact sub_nil | refine sub_cons rfl ?_)⟩ ?_
  intro m l S hJ
  obtain ⟨k, w1, hki0, hk, rfl, rfl, rfl⟩ := hJ
  refine wc_seq ?_
  refine wc_seq ?_
  refine wc_region ?_
  refine wl_go rfl (wo_val rfl (rv_move rfl) rfl rfl ?_)
  refine wl_go rfl (wo_val rfl (rv_move rfl) rfl rfl ?_)
  refine wl_go rfl (wo_val rfl (rv_cmp_i rfl rfl rfl) rfl rfl ?_)
  refine wl_go rfl (wo_val rfl (rv_move rfl) rfl rfl ?_)
  refine wl_split (d := 12) rfl true (fun hg4_3 => ?_) (fun hg4_3 => ?_)
  · skip
    have hki := of_decide_eq_true hg4_3
    refine wl_want rfl rfl rfl rfl rfl hg4_3 (wo_val rfl (rv_move rfl) rfl rfl ?_)
    refine wl_want rfl rfl rfl rfl rfl hg4_3 (wo_val rfl (rv_move rfl) rfl rfl ?_)
    refine wl_want rfl rfl rfl rfl rfl hg4_3 (wo_val rfl (rb_len rfl) rfl rfl ?_)
    refine wl_want rfl rfl rfl rfl rfl hg4_3 (wo_val rfl (rv_cmp_i rfl rfl rfl) rfl rfl ?_)
    refine wl_go rfl (wo_val rfl (rv_pick_t rfl hg4_3 rfl) rfl rfl ?_)
    refine wl_nil ?_
    refine wq_then ?_
    refine wc_cond rfl (fun hc17 => ?_) (fun hc17 => ?_)
    · simp only [decide_eq_true_eq, decide_eq_false_iff_not, Bool.not_eq_true', Bool.not_eq_false', bne_iff_ne, beq_iff_eq, bne_eq_false_iff_eq, beq_eq_false_iff_ne, Int.not_lt, Int.not_le] at hc17
      have hlt : k < s.length := by omega
      obtain ⟨c, hc0⟩ : ∃ c, s[k]? = some c := ⟨_, List.getElem?_eq_getElem hlt⟩
      have hn := nl_snoc hc0
      have hq := cnt_snoc hc0
      have hnb : -1 ≤ lastNl (s.take k) ∧ lastNl (s.take k) ≤ k := by
        rcases nl_spec (s.take k) with ⟨h1, _⟩ | ⟨j, h1, h2, _⟩
        · omega
        · have := (List.getElem?_eq_some_iff.1 h2).1; rw [List.length_take] at this; omega
      have hcb : (s.take k).count 10 ≤ k := Nat.le_trans List.count_le_length (by rw [List.length_take]; omega)
      refine wc_skip ?_
      refine wq_then ?_
      refine wc_seq ?_
      refine wc_block ?_
      refine wc_seq ?_
      refine wc_region ?_
      refine wl_go rfl (wo_val rfl (rv_move rfl) rfl rfl ?_)
      refine wl_go rfl (wo_val rfl (rv_add rfl rfl (by omega)) rfl rfl ?_)
      refine wl_go rfl (wo_val rfl (rv_assign rfl) rfl rfl ?_)
      refine wl_nil ?_
      refine wq_then ?_
      refine wc_seq ?_
      refine wc_region ?_
      refine wl_go rfl (wo_val rfl (rv_move rfl) rfl rfl ?_)
      refine wl_go rfl (wo_val rfl (rv_move rfl) rfl rfl ?_)
      refine wl_go rfl (wo_val rfl (rb_index rfl rfl (by omega) hc0) rfl rfl ?_)
      refine wl_go rfl (wo_val rfl (rv_cmp_i rfl rfl rfl) rfl rfl ?_)
      refine wl_nil ?_
      refine wq_then ?_
      refine wc_cond rfl (fun hc25 => ?_) (fun hc25 => ?_)
      · skip
        have e10 : c = 10 := beq_iff_eq.1 ((beq_byte c 10).symm.trans hc25)
        rw [if_pos e10] at hn hq
        refine wc_seq ?_
        refine wc_region ?_
        refine wl_go rfl (wo_val rfl (rv_move rfl) rfl rfl ?_)
        refine wl_go rfl (wo_val rfl (rv_add rfl rfl (by omega)) rfl rfl ?_)
        refine wl_go rfl (wo_val rfl (rv_assign rfl) rfl rfl ?_)
        refine wl_nil ?_
        refine wq_then ?_
        refine wc_region ?_
        refine wl_go rfl (wo_val rfl (rv_assign rfl) rfl rfl ?_)
        refine wl_nil ?_
        refine wq_in_normal ?_
        refine wq_then ?_
        refine wc_region ?_
        refine wl_go rfl (wo_val rfl (rv_move rfl) rfl rfl ?_)
        refine wl_go rfl (wo_val rfl (rv_add rfl rfl (by omega)) rfl rfl ?_)
        refine wl_go rfl (wo_val rfl (rv_assign rfl) rfl rfl ?_)
        refine wl_nil ?_
        refine wq_round ⟨_, _, ⟨k + 1, _, by omega, by omega, rfl, rfl, rfl⟩, by omega, ?_⟩
        rw [hn, hq]
        refine sub_cons rfl (sub_cons rfl (sub_cons ?_ (sub_cons ?_ (sub_cons rfl sub_nil))))
        · show some (Value.int _ _) = _
          congr 2 <;> omega
        · show some (Value.int _ _) = _
          congr 2 <;> omega
      · skip
        have e10 : ¬ c = 10 := fun e => by have := (beq_byte c 10).symm.trans hc25; rw [e] at this; cases this
        rw [if_neg e10] at hn hq
        refine wc_skip ?_
        refine wq_in_normal ?_
        refine wq_then ?_
        refine wc_region ?_
        refine wl_go rfl (wo_val rfl (rv_move rfl) rfl rfl ?_)
        refine wl_go rfl (wo_val rfl (rv_add rfl rfl (by omega)) rfl rfl ?_)
        refine wl_go rfl (wo_val rfl (rv_assign rfl) rfl rfl ?_)
        refine wl_nil ?_
        refine wq_round ⟨_, _, ⟨k + 1, _, by omega, by omega, rfl, rfl, rfl⟩, by omega, ?_⟩
        rw [hn, hq]
        refine sub_cons rfl (sub_cons rfl (sub_cons ?_ (sub_cons ?_ (sub_cons rfl sub_nil))))
        · show some (Value.int _ _) = _
          congr 2 <;> omega
        · show some (Value.int _ _) = _
          congr 2 <;> omega
    · simp only [decide_eq_true_eq, decide_eq_false_iff_not, Bool.not_eq_true', Bool.not_eq_false', bne_iff_ne, beq_iff_eq, bne_eq_false_iff_eq, beq_eq_false_iff_ne, Int.not_lt, Int.not_le] at hc17
      refine wc_exit ?_
      refine wq_then_exit ?_
      refine wq_then_exit ?_
      refine wq_in_here ?_
      refine wq_then ?_
      refine wc_seq ?_
      refine wc_region ?_
      refine wl_go rfl (wo_val rfl (rv_move rfl) rfl rfl ?_)
      refine wl_go rfl (wo_val rfl (rv_move rfl) rfl rfl ?_)
      refine wl_go rfl (wo_val rfl (rv_assign rfl) rfl rfl ?_)
      refine wl_go rfl (wo_val rfl (rv_assign rfl) rfl rfl ?_)
      refine wl_nil ?_
      refine wq_then ?_
      refine wc_ret ?_
      refine wq_ret2 rfl rfl (rr_tmp rfl) (rr_tmp rfl) (fun w9 hs9 => ?_)
      have hcut : cutAt s i = k := by unfold cutAt; omega
      have htl : (s.take k).length = k := by rw [List.length_take]; omega
      rw [hcut, htl]
      exact ⟨rfl, hs9.below rfl⟩
  · skip
    have hki := of_decide_eq_false hg4_3
    refine wl_skip rfl rfl rfl rfl rfl hg4_3 rfl ?_
    refine wl_skip rfl rfl rfl rfl rfl hg4_3 rfl ?_
    refine wl_skip rfl rfl rfl rfl rfl hg4_3 rfl ?_
    refine wl_skip rfl rfl rfl rfl rfl hg4_3 rfl ?_
    refine wl_go rfl (wo_val rfl (rv_pick_f rfl hg4_3 rfl) rfl rfl ?_)
    refine wl_nil ?_
    refine wq_then ?_
    refine wc_cond_f rfl rfl ?_
    refine wc_exit ?_
    refine wq_then_exit ?_
    refine wq_then_exit ?_
    refine wq_in_here ?_
    refine wq_then ?_
    refine wc_seq ?_
    refine wc_region ?_
    refine wl_go rfl (wo_val rfl (rv_move rfl) rfl rfl ?_)
    refine wl_go rfl (wo_val rfl (rv_move rfl) rfl rfl ?_)
    refine wl_go rfl (wo_val rfl (rv_assign rfl) rfl rfl ?_)
    refine wl_go rfl (wo_val rfl (rv_assign rfl) rfl rfl ?_)
    refine wl_nil ?_
    refine wq_then ?_
    refine wc_ret ?_
    refine wq_ret2 rfl rfl (rr_tmp rfl) (rr_tmp rfl) (fun w9 hs9 => ?_)
    have hcut : cutAt s i = k := by unfold cutAt; omega
    have htl : (s.take k).length = k := by rw [List.length_take]; omega
    rw [hcut, htl]
    exact ⟨rfl, hs9.below rfl⟩
theorem rIsName_calls (s : Bs) (hsz : s.length ≤ 4611686018427387000) (w : World) : Calls Tryd.prog 15 #[.string (toB s)] w fun e w' => e = .returned (.bool (nmB s)) ∧ Below w.heap.size w w' := by
  refine calls_start Tryd.func15 rfl (N := 22) rfl rfl _ (St.start _) rfl ?_
  refine wc_seq ?_
  refine wc_region ?_
  refine wl_go rfl (wo_val rfl (rv_assign rfl) rfl rfl ?_)
  refine wl_nil ?_
  refine wq_then ?_
  refine wc_seq ?_
  refine wc_region ?_
  refine wl_go rfl (wo_val rfl (rv_move rfl) rfl rfl ?_)
  refine wl_go rfl (wo_val rfl (rb_neq (t := []) rfl rfl) rfl rfl ?_)
  refine wl_go rfl (wo_val rfl (rv_move rfl) rfl rfl ?_)
  refine wl_split (d := 5) rfl true (fun hg1_2 => ?_) (fun hg1_2 => ?_)
  · skip
    obtain ⟨c, r, rfl⟩ : ∃ c r, s = c :: r := by
      cases s with
      | nil => cases hg1_2
      | cons c r => exact ⟨c, r, rfl⟩
    refine wl_want rfl rfl rfl rfl rfl hg1_2 (wo_val rfl (rv_move rfl) rfl rfl ?_)
    refine wl_want rfl rfl rfl rfl rfl hg1_2 (wo_val rfl (rb_len rfl) rfl rfl ?_)
    refine wl_want rfl rfl rfl rfl rfl hg1_2 (wo_val rfl (rv_cmp_i rfl rfl rfl) rfl rfl ?_)
    refine wl_go rfl (wo_val rfl (rv_pick_t rfl hg1_2 rfl) rfl rfl ?_)
    refine wl_go rfl (wo_val rfl (rv_move rfl) rfl rfl ?_)
    refine wl_split (d := 10) rfl true (fun hg1_7 => ?_) (fun hg1_7 => ?_)
    · skip
      have h32 := of_decide_eq_true hg1_7
      refine wl_want rfl rfl rfl rfl rfl hg1_7 (wo_val rfl (rv_move rfl) rfl rfl ?_)
      refine wl_want rfl rfl rfl rfl rfl hg1_7 (wo_val rfl (rb_index rfl rfl (by omega) (b := c) rfl) rfl rfl ?_)
      refine wl_want rfl rfl rfl rfl rfl hg1_7 (wo_call (R := fun _ v _ => v = _) rfl rfl (enters_of Tryd.func20 (by kernel_rfl) rfl) rfl rfl rfl (fun w hs => (rletter_calls c _).mono fun e w' h => ⟨_, h.1, rfl, h.2⟩) (fun w2a va w3a hs2a hva hb2a hm2a => ?_))
      subst hva
      refine wl_go rfl (wo_val rfl (rv_pick_t rfl hg1_7 rfl) rfl rfl ?_)
      refine wl_go rfl (wo_val rfl (rv_move rfl) rfl rfl ?_)
      refine wl_split (d := 15) rfl true (fun hg1_12 => ?_) (fun hg1_12 => ?_)
      · skip
        have hl : isL c = true := hg1_12
        refine wl_want rfl rfl rfl rfl rfl hg1_12 (wo_val rfl (rv_move rfl) rfl rfl ?_)
        refine wl_want rfl rfl rfl rfl rfl hg1_12 (wo_call (R := fun _ v _ => v = _) rfl rfl (enters_of Tryd.func21 (by kernel_rfl) rfl) rfl rfl rfl (fun w hs => (rrun_calls (c :: r) hsz 0 (Nat.zero_le _) true _).mono fun e w' h => ⟨_, h.1, rfl, h.2⟩) (fun w2b vb w3b hs2b hvb hb2b hm2b => ?_))
        subst hvb
        rw [Nat.zero_add, List.drop_zero, runP_t]
        refine wl_want rfl rfl rfl rfl rfl hg1_12 (wo_val rfl (rv_move rfl) rfl rfl ?_)
        refine wl_want rfl rfl rfl rfl rfl hg1_12 (wo_val rfl (rb_len rfl) rfl rfl ?_)
        refine wl_want rfl rfl rfl rfl rfl hg1_12 (wo_val rfl (rv_cmp_i rfl rfl rfl) rfl rfl ?_)
        refine wl_go rfl (wo_val rfl (rv_pick_t rfl hg1_12 rfl) rfl rfl ?_)
        refine wl_go rfl (wo_val rfl (rv_assign rfl) rfl rfl ?_)
        refine wl_nil ?_
        refine wq_then ?_
        refine wc_ret ?_
        refine wq_ret1 rfl rfl (rr_tmp rfl) (fun w9 hs9 => ?_)
        refine ⟨?_, hs9.below rfl⟩
        have hlen : ((c :: r).takeWhile isN).length ≤ (c :: r).length := (List.takeWhile_sublist _).length_le
        rw [nmB, hl, first_L r hl, if_neg (by omega), Bool.true_and]
        congr 2
        rw [Bool.eq_iff_iff, beq_iff_eq, beq_iff_eq]
        show ((List.takeWhile isN (c :: r)).length : Int) = ((c :: r).length : Int) ↔ (List.takeWhile isN (c :: r)).length = (c :: r).length
        omega
      · skip
        have hl : isL c = false := hg1_12
        refine wl_skip rfl rfl rfl rfl rfl hg1_12 rfl ?_
        refine wl_skip rfl rfl rfl rfl rfl hg1_12 rfl ?_
        refine wl_skip rfl rfl rfl rfl rfl hg1_12 rfl ?_
        refine wl_skip rfl rfl rfl rfl rfl hg1_12 rfl ?_
        refine wl_skip rfl rfl rfl rfl rfl hg1_12 rfl ?_
        refine wl_go rfl (wo_val rfl (rv_pick_f rfl hg1_12 rfl) rfl rfl ?_)
        refine wl_go rfl (wo_val rfl (rv_assign rfl) rfl rfl ?_)
        refine wl_nil ?_
        refine wq_then ?_
        refine wc_ret ?_
        refine wq_ret1 rfl rfl (rr_tmp rfl) (fun w9 hs9 => ?_)
        refine ⟨?_, hs9.below rfl⟩
        rw [nmB, hl]; rfl
    · skip
      have h32 := of_decide_eq_false hg1_7
      refine wl_skip rfl rfl rfl rfl rfl hg1_7 rfl ?_
      refine wl_skip rfl rfl rfl rfl rfl hg1_7 rfl ?_
      refine wl_skip rfl rfl rfl rfl rfl hg1_7 rfl ?_
      refine wl_go rfl (wo_val rfl (rv_pick_f rfl hg1_7 rfl) rfl rfl ?_)
      refine wl_go rfl (wo_val rfl (rv_move rfl) rfl rfl ?_)
      refine wl_skip rfl rfl rfl rfl rfl rfl rfl ?_
      refine wl_skip rfl rfl rfl rfl rfl rfl rfl ?_
      refine wl_skip rfl rfl rfl rfl rfl rfl rfl ?_
      refine wl_skip rfl rfl rfl rfl rfl rfl rfl ?_
      refine wl_skip rfl rfl rfl rfl rfl rfl rfl ?_
      refine wl_go rfl (wo_val rfl (rv_pick_f rfl rfl rfl) rfl rfl ?_)
      refine wl_go rfl (wo_val rfl (rv_assign rfl) rfl rfl ?_)
      refine wl_nil ?_
      refine wq_then ?_
      refine wc_ret ?_
      refine wq_ret1 rfl rfl (rr_tmp rfl) (fun w9 hs9 => ?_)
      refine ⟨?_, hs9.below rfl⟩
      unfold nmB
      congr 2
      have hlen : ((c :: r).takeWhile isN).length ≤ (c :: r).length := (List.takeWhile_sublist _).length_le
      symm
      rw [Bool.and_eq_false_iff, beq_eq_false_iff_ne]
      by_cases hl : isL c = true
      · right; rw [first_L r hl]; simp only; split <;> omega
      · left; simpa using hl
  · skip
    obtain rfl : s = [] := by simpa using hg1_2
    refine wl_skip rfl rfl rfl rfl rfl hg1_2 rfl ?_
    refine wl_skip rfl rfl rfl rfl rfl hg1_2 rfl ?_
    refine wl_skip rfl rfl rfl rfl rfl hg1_2 rfl ?_
    refine wl_go rfl (wo_val rfl (rv_pick_f rfl hg1_2 rfl) rfl rfl ?_)
    refine wl_go rfl (wo_val rfl (rv_move rfl) rfl rfl ?_)
    refine wl_skip rfl rfl rfl rfl rfl rfl rfl ?_
    refine wl_skip rfl rfl rfl rfl rfl rfl rfl ?_
    refine wl_skip rfl rfl rfl rfl rfl rfl rfl ?_
    refine wl_go rfl (wo_val rfl (rv_pick_f rfl rfl rfl) rfl rfl ?_)
    refine wl_go rfl (wo_val rfl (rv_move rfl) rfl rfl ?_)
    refine wl_skip rfl rfl rfl rfl rfl rfl rfl ?_
    refine wl_skip rfl rfl rfl rfl rfl rfl rfl ?_
    refine wl_skip rfl rfl rfl rfl rfl rfl rfl ?_
    refine wl_skip rfl rfl rfl rfl rfl rfl rfl ?_
    refine wl_skip rfl rfl rfl rfl rfl rfl rfl ?_
    refine wl_go rfl (wo_val rfl (rv_pick_f rfl rfl rfl) rfl rfl ?_)
    refine wl_go rfl (wo_val rfl (rv_assign rfl) rfl rfl ?_)
    refine wl_nil ?_
    refine wq_then ?_
    refine wc_ret ?_
    refine wq_ret1 rfl rfl (rr_tmp rfl) (fun w9 hs9 => ?_)
    refine ⟨?_, hs9.below rfl⟩
    rfl
set_option maxHeartbeats 1000000 in
theorem rjoin_calls (p : Option Addr) (c : Nat) (ws : List Wo) (hws : ws.length ≤ 70000) (hts : ∀ x ∈ ws, x.t.length ≤ 70000) (w : World) (hrd : Rd w p c ws) : Calls Tryd.prog 17 #[.slice p ws.length c] w fun e w' => e = .returned (.string (toB (joinW ws))) ∧ Below w.heap.size w w' := by
  refine calls_start Tryd.func17 rfl (N := 38) rfl rfl _ (St.start _) rfl ?_
  refine wc_seq ?_
  refine wc_region ?_
  refine wl_go rfl (wo_val rfl (rv_assign rfl) rfl rfl ?_)
  refine wl_nil ?_
  refine wq_then ?_
  refine wc_seq ?_
  refine wc_region ?_
  refine wl_go rfl (wo_val rfl (rv_assign rfl) rfl rfl ?_)
  refine wl_nil ?_
  refine wq_then ?_
  refine wc_seq ?_
  refine wc_seq ?_
  refine wc_region ?_
  refine wl_go rfl (wo_val rfl (rv_assign rfl) rfl rfl ?_)
  refine wl_nil ?_
  refine wq_then ?_
  refine wc_block ?_
  refine wc_loop (fun m l S => ∃ (k : Nat) (w1 : World), k ≤ ws.length ∧ m = ws.length - k ∧ l = [(0, .slice p ws.length c), (3, .string (toB (joinW (ws.take k)))), (4, .int .i64 (k : Int))] ∧ S = ⟨w, G0, w1, []⟩) ⟨_, _, ⟨0, w, Nat.zero_le _, rfl, rfl, rfl⟩, by repeat (first | exact sub_nil | refine sub_cons rfl ?_)⟩ ?_
  intro m l S hJ
  obtain ⟨k, w1, hk, rfl, rfl, rfl⟩ := hJ
  refine wc_seq ?_
  refine wc_seq ?_
  refine wc_region ?_
  refine wl_go rfl (wo_val rfl (rv_move rfl) rfl rfl ?_)
  refine wl_go rfl (wo_val rfl (rv_move rfl) rfl rfl ?_)
  refine wl_go rfl (wo_val rfl (rv_len rfl) rfl rfl ?_)
  refine wl_go rfl (wo_val rfl (rv_cmp_i rfl rfl rfl) rfl rfl ?_)
  refine wl_nil ?_
  refine wq_then ?_
  refine wc_cond rfl (fun hc8 => ?_) (fun hc8 => ?_)
  · simp only [decide_eq_true_eq, decide_eq_false_iff_not, Bool.not_eq_true', Bool.not_eq_false', bne_iff_ne, beq_iff_eq, bne_eq_false_iff_eq, beq_eq_false_iff_ne, Int.not_lt, Int.not_le] at hc8
    obtain ⟨x, hx⟩ : ∃ x, ws[k]? = some x := ⟨_, List.getElem?_eq_getElem (by omega)⟩
    obtain ⟨g, o, rfl, hcell⟩ := hrd.read hx
    have hxt := hts x (List.mem_of_getElem? hx)
    have hjl := joinW_len (ws.take k) (fun y hy => hts y (List.mem_of_mem_take hy))
    have hjm : (ws.take k).length * 70003 ≤ 70000 * 70003 := Nat.mul_le_mul_right _ (by rw [List.length_take]; omega)
    refine wc_skip ?_
    refine wq_then ?_
    refine wc_seq ?_
    refine wc_block ?_
    refine wc_seq ?_
    refine wc_seq ?_
    refine wc_region ?_
    refine wl_go rfl (wo_val rfl (rv_move rfl) rfl rfl ?_)
    refine wl_go rfl (wo_val rfl (rv_cmp_i rfl rfl rfl) rfl rfl ?_)
    refine wl_nil ?_
    refine wq_then ?_
    refine wc_cond rfl (fun hc12 => ?_) (fun hc12 => ?_)
    · simp only [decide_eq_true_eq, decide_eq_false_iff_not, Bool.not_eq_true', Bool.not_eq_false', bne_iff_ne, beq_iff_eq, bne_eq_false_iff_eq, beq_eq_false_iff_ne, Int.not_lt, Int.not_le] at hc12
      refine wc_region ?_
      refine wl_go rfl (wo_val rfl (rv_move rfl) rfl rfl ?_)
      refine wl_go rfl (wo_val rfl (rb_cat (t := [32]) rfl rfl (by first | omega | (simp; omega))) rfl rfl ?_)
      refine wl_go rfl (wo_val rfl (rv_assign rfl) rfl rfl ?_)
      refine wl_nil ?_
      refine wq_then ?_
      refine wc_seq ?_
      refine wc_region ?_
      refine wl_go rfl (wo_val rfl (rv_move rfl) rfl rfl ?_)
      refine wl_go rfl (wo_val rfl (rv_move rfl) rfl rfl ?_)
      refine wl_go rfl (wo_val rfl (rv_indexAddr rfl rfl (by omega)) rfl rfl ?_)
      refine wl_go rfl (wo_val rfl (rv_fieldAddr0 rfl) rfl rfl ?_)
      refine wl_go rfl (wo_val rfl (rv_load_cell rfl (fun w4 hs4 => hcell w4 (hs4.below rfl) 0 _ rfl)) rfl rfl ?_)
      refine wl_go rfl (wo_val rfl (rv_cmp_i rfl rfl rfl) rfl rfl ?_)
      refine wl_nil ?_
      refine wq_then ?_
      refine wc_cond rfl (fun hc20 => ?_) (fun hc20 => ?_)
      · simp only [decide_eq_true_eq, decide_eq_false_iff_not, Bool.not_eq_true', Bool.not_eq_false', bne_iff_ne, beq_iff_eq, bne_eq_false_iff_eq, beq_eq_false_iff_ne, Int.not_lt, Int.not_le] at hc20
        have hk2 : x.k = 2 := by omega
        refine wc_region ?_
        refine wl_go rfl (wo_val rfl (rv_move rfl) rfl rfl ?_)
        refine wl_go rfl (wo_val rfl (rv_move rfl) rfl rfl ?_)
        refine wl_go rfl (wo_val rfl (rv_move rfl) rfl rfl ?_)
        refine wl_go rfl (wo_val rfl (rv_indexAddr rfl rfl (by omega)) rfl rfl ?_)
        refine wl_go rfl (wo_val rfl (rv_fieldAddr rfl) rfl rfl ?_)
        refine wl_go rfl (wo_val rfl (rv_load_cell rfl (fun w4 hs4 => hcell w4 (hs4.below rfl) 1 _ rfl)) rfl rfl ?_)
        refine wl_go rfl (wo_val rfl (rb_cat (s := [47]) rfl rfl (by simp; omega)) rfl rfl ?_)
        refine wl_go rfl (wo_val rfl (rb_cat (t := [47]) rfl rfl (by simp; omega)) rfl rfl ?_)
        refine wl_go rfl (wo_val rfl (rb_cat rfl rfl (by first | omega | (simp; omega))) rfl rfl ?_)
        refine wl_go rfl (wo_val rfl (rv_assign rfl) rfl rfl ?_)
        refine wl_nil ?_
        refine wq_in_normal ?_
        refine wq_then ?_
        refine wc_region ?_
        refine wl_go rfl (wo_val rfl (rv_move rfl) rfl rfl ?_)
        refine wl_go rfl (wo_val rfl (rv_add rfl rfl (by omega)) rfl rfl ?_)
        refine wl_go rfl (wo_val rfl (rv_assign rfl) rfl rfl ?_)
        refine wl_nil ?_
        refine wq_round ⟨_, _, ⟨k + 1, _, by omega, rfl, rfl, rfl⟩, by omega, ?_⟩
        rw [joinW_snoc hx (by omega)]
        refine sub_cons rfl (sub_cons ?_ (sub_cons rfl sub_nil))
        unfold jn
        rw [if_pos hk2]
        rfl
      · simp only [decide_eq_true_eq, decide_eq_false_iff_not, Bool.not_eq_true', Bool.not_eq_false', bne_iff_ne, beq_iff_eq, bne_eq_false_iff_eq, beq_eq_false_iff_ne, Int.not_lt, Int.not_le] at hc20
        have hk2n : ¬ x.k = 2 := fun e => by rw [e] at hc20; exact hc20 rfl
        refine wc_region ?_
        refine wl_go rfl (wo_val rfl (rv_move rfl) rfl rfl ?_)
        refine wl_go rfl (wo_val rfl (rv_move rfl) rfl rfl ?_)
        refine wl_go rfl (wo_val rfl (rv_move rfl) rfl rfl ?_)
        refine wl_go rfl (wo_val rfl (rv_indexAddr rfl rfl (by omega)) rfl rfl ?_)
        refine wl_go rfl (wo_val rfl (rv_fieldAddr rfl) rfl rfl ?_)
        refine wl_go rfl (wo_val rfl (rv_load_cell rfl (fun w4 hs4 => hcell w4 (hs4.below rfl) 1 _ rfl)) rfl rfl ?_)
        refine wl_go rfl (wo_val rfl (rb_cat rfl rfl (by first | omega | (simp; omega))) rfl rfl ?_)
        refine wl_go rfl (wo_val rfl (rv_assign rfl) rfl rfl ?_)
        refine wl_nil ?_
        refine wq_in_normal ?_
        refine wq_then ?_
        refine wc_region ?_
        refine wl_go rfl (wo_val rfl (rv_move rfl) rfl rfl ?_)
        refine wl_go rfl (wo_val rfl (rv_add rfl rfl (by omega)) rfl rfl ?_)
        refine wl_go rfl (wo_val rfl (rv_assign rfl) rfl rfl ?_)
        refine wl_nil ?_
        refine wq_round ⟨_, _, ⟨k + 1, _, by omega, rfl, rfl, rfl⟩, by omega, ?_⟩
        rw [joinW_snoc hx (by omega)]
        refine sub_cons rfl (sub_cons ?_ (sub_cons rfl sub_nil))
        unfold jn
        rw [if_neg hk2n]
        rfl
    · simp only [decide_eq_true_eq, decide_eq_false_iff_not, Bool.not_eq_true', Bool.not_eq_false', bne_iff_ne, beq_iff_eq, bne_eq_false_iff_eq, beq_eq_false_iff_ne, Int.not_lt, Int.not_le] at hc12
      refine wc_skip ?_
      refine wq_then ?_
      refine wc_seq ?_
      refine wc_region ?_
      refine wl_go rfl (wo_val rfl (rv_move rfl) rfl rfl ?_)
      refine wl_go rfl (wo_val rfl (rv_move rfl) rfl rfl ?_)
      refine wl_go rfl (wo_val rfl (rv_indexAddr rfl rfl (by omega)) rfl rfl ?_)
      refine wl_go rfl (wo_val rfl (rv_fieldAddr0 rfl) rfl rfl ?_)
      refine wl_go rfl (wo_val rfl (rv_load_cell rfl (fun w4 hs4 => hcell w4 (hs4.below rfl) 0 _ rfl)) rfl rfl ?_)
      refine wl_go rfl (wo_val rfl (rv_cmp_i rfl rfl rfl) rfl rfl ?_)
      refine wl_nil ?_
      refine wq_then ?_
      refine wc_cond rfl (fun hc20 => ?_) (fun hc20 => ?_)
      · simp only [decide_eq_true_eq, decide_eq_false_iff_not, Bool.not_eq_true', Bool.not_eq_false', bne_iff_ne, beq_iff_eq, bne_eq_false_iff_eq, beq_eq_false_iff_ne, Int.not_lt, Int.not_le] at hc20
        have hk2 : x.k = 2 := by omega
        refine wc_region ?_
        refine wl_go rfl (wo_val rfl (rv_move rfl) rfl rfl ?_)
        refine wl_go rfl (wo_val rfl (rv_move rfl) rfl rfl ?_)
        refine wl_go rfl (wo_val rfl (rv_move rfl) rfl rfl ?_)
        refine wl_go rfl (wo_val rfl (rv_indexAddr rfl rfl (by omega)) rfl rfl ?_)
        refine wl_go rfl (wo_val rfl (rv_fieldAddr rfl) rfl rfl ?_)
        refine wl_go rfl (wo_val rfl (rv_load_cell rfl (fun w4 hs4 => hcell w4 (hs4.below rfl) 1 _ rfl)) rfl rfl ?_)
        refine wl_go rfl (wo_val rfl (rb_cat (s := [47]) rfl rfl (by simp; omega)) rfl rfl ?_)
        refine wl_go rfl (wo_val rfl (rb_cat (t := [47]) rfl rfl (by simp; omega)) rfl rfl ?_)
        refine wl_go rfl (wo_val rfl (rb_cat rfl rfl (by first | omega | (simp; omega))) rfl rfl ?_)
        refine wl_go rfl (wo_val rfl (rv_assign rfl) rfl rfl ?_)
        refine wl_nil ?_
        refine wq_in_normal ?_
        refine wq_then ?_
        refine wc_region ?_
        refine wl_go rfl (wo_val rfl (rv_move rfl) rfl rfl ?_)
        refine wl_go rfl (wo_val rfl (rv_add rfl rfl (by omega)) rfl rfl ?_)
        refine wl_go rfl (wo_val rfl (rv_assign rfl) rfl rfl ?_)
        refine wl_nil ?_
        refine wq_round ⟨_, _, ⟨k + 1, _, by omega, rfl, rfl, rfl⟩, by omega, ?_⟩
        obtain rfl : k = 0 := by omega
        rw [joinW_first hx]
        refine sub_cons rfl (sub_cons ?_ (sub_cons rfl sub_nil))
        unfold jn
        rw [if_pos hk2]
        rfl
      · simp only [decide_eq_true_eq, decide_eq_false_iff_not, Bool.not_eq_true', Bool.not_eq_false', bne_iff_ne, beq_iff_eq, bne_eq_false_iff_eq, beq_eq_false_iff_ne, Int.not_lt, Int.not_le] at hc20
        have hk2n : ¬ x.k = 2 := fun e => by rw [e] at hc20; exact hc20 rfl
        refine wc_region ?_
        refine wl_go rfl (wo_val rfl (rv_move rfl) rfl rfl ?_)
        refine wl_go rfl (wo_val rfl (rv_move rfl) rfl rfl ?_)
        refine wl_go rfl (wo_val rfl (rv_move rfl) rfl rfl ?_)
        refine wl_go rfl (wo_val rfl (rv_indexAddr rfl rfl (by omega)) rfl rfl ?_)
        refine wl_go rfl (wo_val rfl (rv_fieldAddr rfl) rfl rfl ?_)
        refine wl_go rfl (wo_val rfl (rv_load_cell rfl (fun w4 hs4 => hcell w4 (hs4.below rfl) 1 _ rfl)) rfl rfl ?_)
        refine wl_go rfl (wo_val rfl (rb_cat rfl rfl (by first | omega | (simp; omega))) rfl rfl ?_)
        refine wl_go rfl (wo_val rfl (rv_assign rfl) rfl rfl ?_)
        refine wl_nil ?_
        refine wq_in_normal ?_
        refine wq_then ?_
        refine wc_region ?_
        refine wl_go rfl (wo_val rfl (rv_move rfl) rfl rfl ?_)
        refine wl_go rfl (wo_val rfl (rv_add rfl rfl (by omega)) rfl rfl ?_)
        refine wl_go rfl (wo_val rfl (rv_assign rfl) rfl rfl ?_)
        refine wl_nil ?_
        refine wq_round ⟨_, _, ⟨k + 1, _, by omega, rfl, rfl, rfl⟩, by omega, ?_⟩
        obtain rfl : k = 0 := by omega
        rw [joinW_first hx]
        refine sub_cons rfl (sub_cons ?_ (sub_cons rfl sub_nil))
        unfold jn
        rw [if_neg hk2n]
        rfl
  · simp only [decide_eq_true_eq, decide_eq_false_iff_not, Bool.not_eq_true', Bool.not_eq_false', bne_iff_ne, beq_iff_eq, bne_eq_false_iff_eq, beq_eq_false_iff_ne, Int.not_lt, Int.not_le] at hc8
    refine wc_exit ?_
    refine wq_then_exit ?_
    refine wq_then_exit ?_
    refine wq_in_here ?_
    refine wq_then ?_
    refine wc_seq ?_
    refine wc_region ?_
    refine wl_go rfl (wo_val rfl (rv_move rfl) rfl rfl ?_)
    refine wl_go rfl (wo_val rfl (rv_assign rfl) rfl rfl ?_)
    refine wl_nil ?_
    refine wq_then ?_
    refine wc_ret ?_
    refine wq_ret1 rfl rfl (rr_tmp rfl) (fun w9 hs9 => ?_)
    obtain rfl : k = ws.length := by omega
    rw [List.take_length]
    exact ⟨rfl, hs9.below rfl⟩
end Go.Proofs.YtlaolodnnjcgdaaDoor.Wd
