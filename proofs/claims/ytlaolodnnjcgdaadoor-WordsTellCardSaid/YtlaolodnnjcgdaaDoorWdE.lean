/- The walks of words: the iterator. -/
import Derived.Test.YtlaolodnnjcgdaaDoorWdD
import Derived.Test.YtlaolodnnjcgdaaDoorGwI
namespace Go.Proofs.YtlaolodnnjcgdaaDoor.Wd
open Go Go.RowKit Gw Go.Shelf
/-- what the iterator hands over -/
def its (L : Nat) : Nat → Bs → List (Wo × Bool)
  | 0, _ => []
  | n + 1, s => match s with
    | [] => []
    | _ :: _ => if (first s).2.2 = 0 then [(⟨(first s).1, (first s).2.1, L - s.length⟩, false)] else (⟨(first s).1, (first s).2.1, L - s.length⟩, true) :: its L n (sk false (s.drop (first s).2.2))
theorem its_more (L : Nat) : ∀ (n m : Nat) (s : Bs), s.length ≤ n → n ≤ m → its L m s = its L n s
  | 0, m, s, h, _ => by
    obtain rfl := List.eq_nil_of_length_eq_zero (Nat.le_zero.1 h)
    cases m <;> simp [its]
  | n + 1, 0, s, _, h => by omega
  | n + 1, m + 1, s, h, hm => by
    cases s with
    | nil => simp [its]
    | cons c r =>
      unfold its
      simp only
      split
      · rfl
      · rename_i hf
        rw [its_more L n m _ ?_ (by omega)]
        have := sk_length false ((c :: r).drop (first (c :: r)).2.2)
        simp at this h ⊢; omega
theorem its_nil (L n : Nat) : its L n [] = [] := by cases n <;> rfl
theorem its_bad (L n : Nat) (c : UInt8) (r : Bs) (hn : (c :: r).length ≤ n) (h : (first (c :: r)).2.2 = 0) : its L n (c :: r) = [(⟨(first (c :: r)).1, (first (c :: r)).2.1, L - (c :: r).length⟩, false)] := by
  obtain ⟨m, rfl⟩ : ∃ m, n = m + 1 := ⟨n - 1, by simp at hn; omega⟩
  rw [its]
  simp only [if_pos h]
theorem its_step (L n : Nat) (c : UInt8) (r : Bs) (hn : (c :: r).length ≤ n) (h : (first (c :: r)).2.2 ≠ 0) : its L n (c :: r) = (⟨(first (c :: r)).1, (first (c :: r)).2.1, L - (c :: r).length⟩, true) :: its L n (sk false ((c :: r).drop (first (c :: r)).2.2)) := by
  obtain ⟨m, rfl⟩ : ∃ m, n = m + 1 := ⟨n - 1, by simp at hn; omega⟩
  rw [its]
  simp only [if_neg h]
  have := sk_length false ((c :: r).drop (first (c :: r)).2.2)
  rw [its_more L m (m + 1) _ (by simp at this hn ⊢; omega) (by omega)]
theorem its_length (L : Nat) : ∀ (n : Nat) (s : Bs), (its L n s).length ≤ s.length
  | 0, s => by simp [its]
  | n + 1, [] => by simp [its]
  | n + 1, c :: r => by
    unfold its
    simp only
    split
    · simp
    · rename_i h
      have h1 := its_length L n (sk false ((c :: r).drop (first (c :: r)).2.2))
      have h2 := sk_length false ((c :: r).drop (first (c :: r)).2.2)
      simp at h2 ⊢
      omega
theorem wds_its (L : Nat) : ∀ (n : Nat) (s : Bs), ((wds L n s).2 = none ∧ its L n s = (wds L n s).1.map (·, true)) ∨ ∃ k t p, (wds L n s).2 = some p ∧ its L n s = (wds L n s).1.map (·, true) ++ [(⟨k, t, p⟩, false)]
  | 0, s => .inl ⟨rfl, rfl⟩
  | n + 1, [] => .inl ⟨rfl, rfl⟩
  | n + 1, c :: r => by
    unfold wds its
    simp only
    split
    · exact .inr ⟨_, _, _, rfl, rfl⟩
    · rcases wds_its L n (sk false ((c :: r).drop (first (c :: r)).2.2)) with ⟨h1, h2⟩ | ⟨k, t, p, h1, h2⟩
      · exact .inl ⟨h1, by rw [h2]; rfl⟩
      · exact .inr ⟨k, t, p, h1, by rw [h2]; rfl⟩
theorem its_head (L : Nat) (c : UInt8) (r : Bs) (hn : (c :: r).length ≤ L) : ∃ q, its L L (c :: r) = (⟨(first (c :: r)).1, (first (c :: r)).2.1, L - (c :: r).length⟩, decide ((0 : Int) < ((first (c :: r)).2.2 : Int))) :: q := by
  by_cases h : (first (c :: r)).2.2 = 0
  · exact ⟨[], by rw [its_bad L L c r hn h, decide_eq_false (by omega)]⟩
  · exact ⟨_, by rw [its_step L L c r hn h, decide_eq_true (by omega)]⟩
/-- what comes of a text -/
def itsOf (s : Bs) : List (Wo × Bool) := its s.length s.length (sk false s)
abbrev wEnc (x : Wo × Bool) : List Value := [.agg (wdC x.1.k x.1.t x.1.at_).toArray, .bool x.2]
def keepB (b1 : Nat) (W W' : World) : Prop := W.heap.size ≤ W'.heap.size ∧ ∀ o, W.heap[b1]? = some o → W'.heap[b1]? = some o
theorem cell_of {w w1 : World} {b : Nat} {v : Value} {t : TypeId} (h : w.heap[b]? = w1.heap[b]?) (h1 : w1.heap[b]? = some (.cells #[v] t (0, 0))) : w.cell? ⟨b, 0, none⟩ = some v := by
  simp [World.cell?, h, h1]
set_option maxHeartbeats 1000000 in
theorem each1_stops (n : Nat) (s : Bs) (hsz : s.length ≤ 4611686018427387000) (b1 : Nat) (w : World) (hb : w.heap[b1]? = some (.cells #[.string (toB s)] 9 (0, 0))) : SeqStopsK (FW none) n Tryd.prog 29 #[.pointer (some ⟨b1, 0, none⟩)] (fun x => (wEnc x).toArray) (keepB b1) (fun xs => xs = itsOf s) (fun xs => ∃ r, itsOf s = xs ++ r) (s.length + 1) w := by
  intro lp J Jx W hW hJa hJxa hY h0
  have hbW : W.heap[b1]? = some (.cells #[.string (toB s)] 9 (0, 0)) := (hW.block b1 (Array.getElem?_eq_some_iff.1 hb).1).trans hb
  have hlt : b1 < W.heap.size := (Array.getElem?_eq_some_iff.1 hbW).1
  refine iter_arr [.func (.yield lp) #[] #[], .pointer (some ⟨b1, 0, none⟩)] (by simp) ?_
  refine iter_start Tryd.func29 rfl (N := 35) rfl rfl _ (St.start _) rfl ?_
  refine wc_seq ?_
  refine wc_region ?_
  refine wl_go rfl (wo_val rfl (rv_load_cell rfl (fun w hs => cell_of (hs.oldW b1 (Array.getElem?_eq_some_iff.1 hbW).1 (by simp)) hbW)) rfl rfl ?_)
  refine wl_go rfl (wo_call (R := fun _ v _ => v = _) rfl rfl (enters_of Tryd.func30 (by kernel_rfl) rfl) rfl rfl rfl (fun w hs => (skip_calls s (by omega) _).mono fun e w' h => ⟨_, h.1, rfl, h.2⟩) (fun w2a va w3a hs2a hva hb2a hm2a => ?_))
  subst hva
  refine wl_go rfl (wo_val rfl (rv_assign rfl) rfl rfl ?_)
  refine wl_nil ?_
  refine wq_then ?_
  refine wc_block ?_
  refine wc_loop (fun m l S => ∃ (u : Bs) (pre : List (Wo × Bool)) (W1 w2 : World), itsOf s = pre ++ its s.length s.length u ∧ u.length ≤ s.length ∧ m = u.length ∧ l = [(0, .func (.yield lp) #[] #[]), (1, .pointer (some ⟨b1, 0, none⟩)), (3, .string (toB u))] ∧ S = ⟨W1, G0, w2, []⟩ ∧ J pre W1 ∧ W1.heap[b1]? = some (.cells #[.string (toB s)] 9 (0, 0))) ⟨_, _, ⟨sk false s, [], W, _, rfl, sk_length false s, rfl, rfl, rfl, h0, hbW⟩, by repeat (first | exact sub_nil | refine sub_cons rfl ?_)⟩ ?_
  intro m l S hJ
  obtain ⟨u, pre, W1, w2, hits, hul, rfl, rfl, rfl, hJ1, hb1⟩ := hJ
  refine wc_seq ?_
  refine wc_seq ?_
  refine wc_region ?_
  refine wl_go rfl (wo_val rfl (rv_move rfl) rfl rfl ?_)
  refine wl_go rfl (wo_val rfl (rb_neq (t := []) rfl rfl) rfl rfl ?_)
  refine wl_nil ?_
  refine wq_then ?_
  refine wc_cond rfl (fun hc9 => ?_) (fun hc9 => ?_)
  · skip
    obtain ⟨c, r, rfl⟩ : ∃ c r, u = c :: r := by
      cases u with
      | nil => cases hc9
      | cons c r => exact ⟨c, r, rfl⟩
    have hcl : (c :: r).length = r.length + 1 := rfl
    have hfl := first_le (c :: r)
    refine wc_skip ?_
    refine wq_then ?_
    refine wc_block ?_
    refine wc_seq ?_
    refine wc_region ?_
    refine wl_go rfl (wo_val rfl (rv_move rfl) rfl rfl ?_)
    refine wl_go rfl (wo_call (R := fun _ v _ => v = _) rfl rfl (enters_of Tryd.func27 (by kernel_rfl) rfl) rfl rfl rfl (fun w hs => (first_calls c r (by rw [List.length_cons] at hul; omega) _).mono fun e w' h => ⟨_, h.1, rfl, h.2⟩) (fun w2b vb w3b hs2b hvb hb2b hm2b => ?_))
    subst hvb
    refine wl_go rfl (wo_val rfl (rv_move rfl) rfl rfl ?_)
    refine wl_go rfl (wo_val rfl (rv_extract rfl rfl) rfl rfl ?_)
    refine wl_go rfl (wo_val rfl (rv_extract rfl rfl) rfl rfl ?_)
    refine wl_go rfl (wo_alloc rfl rfl rfl (fun b4 hb4 => ?_))
    refine wl_go rfl (wo_st rfl rfl rfl rfl rfl rfl rfl ?_)
    refine wl_go rfl (wo_val rfl (rv_assign rfl) rfl rfl ?_)
    refine wl_nil ?_
    refine wq_then ?_
    refine wc_seq ?_
    refine wc_region ?_
    refine wl_go rfl (wo_val rfl (rv_load_cell rfl (fun w hs => cell_of (hs.oldW b1 (Array.getElem?_eq_some_iff.1 hb1).1 (by simp)) hb1)) rfl rfl ?_)
    refine wl_go rfl (wo_val rfl (rb_len rfl) rfl rfl ?_)
    refine wl_go rfl (wo_val rfl (rv_move rfl) rfl rfl ?_)
    refine wl_go rfl (wo_val rfl (rb_len rfl) rfl rfl ?_)
    refine wl_go rfl (wo_val rfl (rv_sub rfl rfl (by omega)) rfl rfl ?_)
    rw [show ((s.length : Int) - ((c :: r).length : Int)) = ((s.length - (c :: r).length : Nat) : Int) by omega]
    refine wl_go rfl (wo_val rfl (rv_fieldAddr rfl) rfl rfl ?_)
    refine wl_go rfl (wo_st rfl rfl rfl rfl rfl rfl rfl ?_)
    refine wl_nil ?_
    refine wq_then ?_
    refine wc_seq ?_
    refine wc_seq ?_
    refine wc_region ?_
    refine wl_go rfl (wo_val rfl (rv_move rfl) rfl rfl ?_)
    refine wl_go rfl (wo_val rfl (rv_load_own_row rfl) rfl rfl ?_)
    refine wl_go rfl (wo_val rfl (rv_move rfl) rfl rfl ?_)
    refine wl_go rfl (wo_val rfl (rv_cmp_i rfl rfl rfl) rfl rfl ?_)
    refine wl_go rfl (wo_yield (args := wEnc (⟨(first (c :: r)).1, (first (c :: r)).2.1, s.length - (c :: r).length⟩, decide ((0 : Int) < ((first (c :: r)).2.2 : Int)))) rfl rfl rfl rfl rfl (fun w hs => hY pre (⟨(first (c :: r)).1, (first (c :: r)).2.1, s.length - (c :: r).length⟩, decide ((0 : Int) < ((first (c :: r)).2.2 : Int))) w (hJa pre W1 w none hJ1 (hs.grown rfl none) (fun r e => by cases e)) (by have := its_length s.length s.length (sk false s); have h2 := sk_length false s; unfold itsOf at hits; rw [hits] at this; simp at this; omega)) (fun w e w' h => by rcases h with ⟨rfl, _⟩ | ⟨rfl, _⟩ <;> exact ⟨_, rfl⟩) (fun w4 b4 w5 hs4 hq4 => ?_))
    simp only [Ending.returned.injEq, Value.bool.injEq] at hq4
    refine wl_go rfl (wo_val rfl (rv_not rfl) rfl rfl ?_)
    refine wl_go rfl (wo_val rfl (rv_move rfl) rfl rfl ?_)
    refine wl_split (d := 27) rfl true (fun hg4_6 => ?_) (fun hg4_6 => ?_)
    · skip
      obtain rfl : b4 = false := by simpa using hg4_6
      have hJ5 : Jx (pre ++ [(⟨(first (c :: r)).1, (first (c :: r)).2.1, s.length - (c :: r).length⟩, decide ((0 : Int) < ((first (c :: r)).2.2 : Int)))]) w5 := by simpa using hq4
      refine wl_skip rfl rfl rfl rfl rfl hg4_6 rfl ?_
      refine wl_skip rfl rfl rfl rfl rfl hg4_6 rfl ?_
      refine wl_go rfl (wo_val rfl (rv_pick_t rfl hg4_6 rfl) rfl rfl ?_)
      refine wl_nil ?_
      refine wq_then ?_
      refine wc_cond_t rfl rfl ?_
      refine wc_ret ?_
      refine wq_then_ret ?_
      refine wq_in_ret ?_
      refine wq_then_ret ?_
      refine wq_in_ret ?_
      refine wq_ret0 rfl rfl  (fun w9 hs9 => ?_)
      obtain ⟨q, hq⟩ := its_head s.length c r hul
      exact ⟨⟨_, rfl⟩, .inr ⟨_, ⟨q, by rw [hits, hq, List.append_assoc]; rfl⟩, hJxa _ w5 w9 none hJ5 (hs9.grown rfl none) (fun r e => by cases e)⟩⟩
    · skip
      obtain rfl : b4 = true := by simpa using hg4_6
      obtain ⟨hJ5, hk5⟩ : J (pre ++ [(⟨(first (c :: r)).1, (first (c :: r)).2.1, s.length - (c :: r).length⟩, decide ((0 : Int) < ((first (c :: r)).2.2 : Int)))]) w5 ∧ keepB b1 w4 w5 := by simpa using hq4
      refine wl_want rfl rfl rfl rfl rfl hg4_6 (wo_val rfl (rv_move rfl) rfl rfl ?_)
      refine wl_want rfl rfl rfl rfl rfl hg4_6 (wo_val rfl (rv_cmp_i rfl rfl rfl) rfl rfl ?_)
      refine wl_go rfl (wo_val rfl (rv_pick_f rfl hg4_6 rfl) rfl rfl ?_)
      refine wl_nil ?_
      refine wq_then ?_
      refine wc_cond rfl (fun hc30 => ?_) (fun hc30 => ?_)
      · simp only [decide_eq_true_eq, decide_eq_false_iff_not, Bool.not_eq_true', Bool.not_eq_false', bne_iff_ne, beq_iff_eq, bne_eq_false_iff_eq, beq_eq_false_iff_ne, Int.not_lt, Int.not_le] at hc30
        have h0n : (first (c :: r)).2.2 = 0 := by omega
        refine wc_ret ?_
        refine wq_then_ret ?_
        refine wq_in_ret ?_
        refine wq_then_ret ?_
        refine wq_in_ret ?_
        refine wq_ret0 rfl rfl  (fun w9 hs9 => ?_)
        refine ⟨⟨_, rfl⟩, .inl ⟨_, ?_, hJa _ w5 w9 none hJ5 (hs9.grown rfl none) (fun r e => by cases e)⟩⟩
        rw [hits, its_bad s.length s.length c r hul h0n, decide_eq_false (by omega)]
      · simp only [decide_eq_true_eq, decide_eq_false_iff_not, Bool.not_eq_true', Bool.not_eq_false', bne_iff_ne, beq_iff_eq, bne_eq_false_iff_eq, beq_eq_false_iff_ne, Int.not_lt, Int.not_le] at hc30
        have h0n : (first (c :: r)).2.2 ≠ 0 := by omega
        refine wc_skip ?_
        refine wq_then ?_
        refine wc_region ?_
        refine wl_go rfl (wo_val rfl (rv_move rfl) rfl rfl ?_)
        refine wl_go rfl (wo_val rfl (rv_move rfl) rfl rfl ?_)
        refine wl_go rfl (wo_val rfl (rb_slice_from rfl rfl (by omega)) rfl rfl ?_)
        refine wl_go rfl (wo_call (R := fun _ v _ => v = _) rfl rfl (enters_of Tryd.func30 (by kernel_rfl) rfl) rfl rfl rfl (fun w hs => (skip_calls _ (by rw [List.length_drop]; omega) _).mono fun e w' h => ⟨_, h.1, rfl, h.2⟩) (fun w2d vd w3d hs2d hvd hb2d hm2d => ?_))
        subst hvd
        refine wl_go rfl (wo_val rfl (rv_assign rfl) rfl rfl ?_)
        refine wl_nil ?_
        refine wq_in_normal ?_
        have hk6 := sk_length false ((c :: r).drop (first (c :: r)).2.2)
        rw [List.length_drop] at hk6
        refine wq_round ⟨_, _, ⟨sk false ((c :: r).drop (first (c :: r)).2.2), pre ++ [(⟨(first (c :: r)).1, (first (c :: r)).2.1, s.length - (c :: r).length⟩, decide ((0 : Int) < ((first (c :: r)).2.2 : Int)))], w5, _, ?_, by omega, rfl, rfl, rfl, hJ5, ?_⟩, by omega, by repeat (first | exact sub_nil | refine sub_cons rfl ?_)⟩
        · rw [hits, its_step s.length s.length c r hul h0n, decide_eq_true (by omega), List.append_assoc]; rfl
        · exact hk5.2 _ ((hs4.oldW b1 (Array.getElem?_eq_some_iff.1 hb1).1 (by simp)).trans hb1)
  · skip
    obtain rfl : u = [] := by simpa using hc9
    refine wc_exit ?_
    refine wq_then_exit ?_
    refine wq_then_exit ?_
    refine wq_in_here ?_
    refine wq_ret0n rfl rfl  (fun w9 hs9 => ?_)
    exact ⟨⟨_, rfl⟩, .inl ⟨pre, by rw [hits, its_nil, List.append_nil], hJa _ W1 w9 none hJ1 (hs9.grown rfl none) (fun r e => by cases e)⟩⟩
end Go.Proofs.YtlaolodnnjcgdaaDoor.Wd
