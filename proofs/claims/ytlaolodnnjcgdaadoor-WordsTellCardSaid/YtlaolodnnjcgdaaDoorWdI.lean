/- The walks of the reference's words: All. -/
import Derived.Test.YtlaolodnnjcgdaaDoorWdH
namespace Go.Proofs.YtlaolodnnjcgdaaDoor.Wd
open Go Go.RowKit Gw Go.Shelf
theorem sk_suffix : ∀ (b : Bool) (s : Bs), sk b s = s.drop (s.length - (sk b s).length)
  | b, [] => by cases b <;> simp [sk]
  | false, c :: r => by
    rw [sk]
    split
    · have h := sk_suffix false r
      have hl := sk_length false r
      rw [List.length_cons, show r.length + 1 - (sk false r).length = (r.length - (sk false r).length) + 1 by omega, List.drop_succ_cons]
      exact h
    · split
      · have h := sk_suffix true r
        have hl := sk_length true r
        rw [List.length_cons, show r.length + 1 - (sk true r).length = (r.length - (sk true r).length) + 1 by omega, List.drop_succ_cons]
        exact h
      · simp
  | true, c :: r => by
    rw [sk]
    split
    · have h := sk_suffix false r
      have hl := sk_length false r
      rw [List.length_cons, show r.length + 1 - (sk false r).length = (r.length - (sk false r).length) + 1 by omega, List.drop_succ_cons]
      exact h
    · have h := sk_suffix true r
      have hl := sk_length true r
      rw [List.length_cons, show r.length + 1 - (sk true r).length = (r.length - (sk true r).length) + 1 by omega, List.drop_succ_cons]
      exact h
theorem skI_drop (s : Bs) (e : Nat) (he : e ≤ s.length) : s.drop (skI s e) = sk false (s.drop e) ∧ e ≤ skI s e := by
  have h := sk_suffix false (s.drop e)
  have hl := sk_length false (s.drop e)
  rw [List.length_drop, List.drop_drop] at h
  rw [List.length_drop] at hl
  unfold skI
  refine ⟨?_, by omega⟩
  rw [show s.length - (sk false (s.drop e)).length = e + (s.length - e - (sk false (s.drop e)).length) by omega]
  exact h.symm
theorem runP_t : runP true = isN := by funext c; unfold runP isN; rw [Bool.true_and, Bool.or_comm]
theorem runP_f : runP false = isD := by funext c; unfold runP; simp
theorem take_run (p : UInt8 → Bool) (l : Bs) : l.take (l.takeWhile p).length = l.takeWhile p := by
  induction l with
  | nil => rfl
  | cons c r ih =>
    rw [List.takeWhile_cons]
    split
    · rw [List.length_cons, List.take_succ_cons, ih]
    · rfl
theorem cut_run (p : UInt8 → Bool) (s : Bs) (k : Nat) : (s.take (k + ((s.drop k).takeWhile p).length)).drop k = (s.drop k).takeWhile p := by
  rw [List.drop_take, show k + ((s.drop k).takeWhile p).length - k = ((s.drop k).takeWhile p).length by omega, take_run]
theorem slI_pos {s : Bs} {i : Nat} (h : 0 ≤ slI s i) : ∃ j, pat (s.drop i) = some j ∧ slI s i = ((i + j : Nat) : Int) ∧ i + j < s.length := by
  unfold slI at *
  cases hp : pat (s.drop i) with
  | none => rw [hp] at h; simp only at h; omega
  | some j => exact ⟨j, rfl, rfl, by have := pat_lt _ _ hp; rw [List.length_drop] at this; omega⟩
theorem slI_neg {s : Bs} {i : Nat} (h : slI s i < 0) : pat (s.drop i) = none := by
  unfold slI at *
  cases hp : pat (s.drop i) with
  | none => rfl
  | some j => rw [hp] at h; simp only at h; omega
theorem cut_slash {s : Bs} {k j : Nat} {n : Int} (h : n = ((k + 1 + j : Nat) : Int)) : (s.take n.toNat).drop (k + 1) = (s.drop (k + 1)).take j := by
  rw [h, Int.toNat_natCast, List.drop_take, show k + 1 + j - (k + 1) = j by omega]
theorem cut_one {s : Bs} {k : Nat} {c : UInt8} (h : s[k]? = some c) : (s.take (k + 1)).drop k = [c] := by
  rw [List.drop_take, show k + 1 - k = 1 by omega, drop_cons h]
  rfl
theorem rw_snoc {S : Sx} {e : Nat} {v : Value} {ws : List Wo} {x : Wo} (h : Rw S e 3 v (ws.length + 1) (ws.flatMap woC ++ woC x)) : Rw S e 3 v (ws ++ [x]).length ((ws ++ [x]).flatMap woC) := by
  have e2 : [x].flatMap woC = woC x := by simp [List.flatMap]
  rw [List.length_append, List.flatMap_append, e2]
  exact h
theorem tw_pos (p : UInt8 → Bool) (c : UInt8) (r : Bs) (h : p c = true) : 0 < ((c :: r).takeWhile p).length := by rw [List.takeWhile_cons, if_pos h]; simp
theorem allOf_done {s : Bs} {ws : List Wo} (hs : ¬ 65536 < s.length) (h : words s = (ws, none)) : allOf s = (ws, 0, 0) := by unfold allOf; rw [if_neg hs, h]
theorem allOf_bad {s : Bs} {ws : List Wo} {p : Nat} (hs : ¬ 65536 < s.length) (h : words s = (ws, some p)) : allOf s = ([], 120, p) := by unfold allOf; rw [if_neg hs, h]
/-- the words so far, and what is left -/
def SoFar (s : Bs) (ws : List Wo) (k : Nat) : Prop := words s = (ws ++ (wds s.length s.length (s.drop k)).1, (wds s.length s.length (s.drop k)).2)
theorem sofar_start (s : Bs) : SoFar s [] (skI s 0) := by
  unfold SoFar
  rw [(skI_drop s 0 (by omega)).1]
  rfl
theorem sofar_end {s : Bs} {ws : List Wo} {k : Nat} (h : SoFar s ws k) (hk : s.length ≤ k) : words s = (ws, none) := by
  unfold SoFar at h
  rw [List.drop_eq_nil_of_le hk] at h
  rw [h]
  cases s.length <;> simp [wds]
theorem sofar_bad {s r : Bs} {ws : List Wo} {k : Nat} {c : UInt8} (h : SoFar s ws k) (hd : s.drop k = c :: r) (hk : k < s.length) (hf : (first (c :: r)).2.2 = 0) : words s = (ws, some k) := by
  unfold SoFar at h
  have hl : (s.drop k).length ≤ s.length := by rw [List.length_drop]; omega
  rw [wds_step _ _ _ hl (by rw [hd]; simp), hd, if_pos hf] at h
  rw [h, ← hd, List.length_drop]
  simp
  omega
theorem sofar_step {s r t : Bs} {ws : List Wo} {k n kd : Nat} {c : UInt8} (h : SoFar s ws k) (hd : s.drop k = c :: r) (hk : k < s.length) (hf : first (c :: r) = (kd, t, n)) (hn : n ≠ 0) (hkn : k + n ≤ s.length) : SoFar s (ws ++ [⟨kd, t, k⟩]) (skI s (k + n)) := by
  unfold SoFar at *
  have hl : (s.drop k).length ≤ s.length := by rw [List.length_drop]; omega
  rw [wds_step _ _ _ hl (by rw [hd]; simp), hd, if_neg (by rw [hf]; exact hn), hf, ← hd, List.drop_drop, List.length_drop] at h
  rw [h, (skI_drop s (k + n) hkn).1, show s.length - (s.length - k) = k by omega]
  simp
set_option maxHeartbeats 1000000 in
theorem rAll_calls (s : Bs) (hsz : s.length ≤ 4611686018427387000) (w : World) : Calls Tryd.prog 9 #[.string (toB s)] w fun e w' => ∃ v, e = .returned (.tuple #[v, .int .i64 ((allOf s).2.1 : Int), .int .i64 ((allOf s).2.2 : Int)]) ∧ w'.ownsRow w.heap.size 45 3 v (allOf s).1.length ((allOf s).1.flatMap woC) ∧ Below w.heap.size w w' := by
  refine calls_start Tryd.func9 rfl (N := 116) rfl rfl _ (St.start _) rfl ?_
  refine wc_seq ?_
  refine wc_region ?_
  refine wl_go rfl (wo_val rfl (rv_assign rfl) rfl rfl ?_)
  refine wl_go rfl (wo_val rfl (rv_assign rfl) rfl rfl ?_)
  refine wl_go rfl (wo_val rfl (rv_assign rfl) rfl rfl ?_)
  refine wl_nil ?_
  refine wq_then ?_
  refine wc_seq ?_
  refine wc_seq ?_
  refine wc_region ?_
  refine wl_go rfl (wo_val rfl (rv_move rfl) rfl rfl ?_)
  refine wl_go rfl (wo_val rfl (rb_len rfl) rfl rfl ?_)
  refine wl_go rfl (wo_val rfl (rv_cmp_i rfl rfl rfl) rfl rfl ?_)
  refine wl_nil ?_
  refine wq_then ?_
  refine wc_cond rfl (fun hc13 => ?_) (fun hc13 => ?_)
  · simp only [decide_eq_true_eq, decide_eq_false_iff_not, Bool.not_eq_true', Bool.not_eq_false', bne_iff_ne, beq_iff_eq, bne_eq_false_iff_eq, beq_eq_false_iff_ne, Int.not_lt, Int.not_le] at hc13
    refine wc_seq ?_
    refine wc_region ?_
    refine wl_go rfl (wo_val rfl (rv_assign rfl) rfl rfl ?_)
    refine wl_go rfl (wo_val rfl (rv_assign rfl) rfl rfl ?_)
    refine wl_go rfl (wo_val rfl (rv_assign rfl) rfl rfl ?_)
    refine wl_nil ?_
    refine wq_then ?_
    refine wc_ret ?_
    refine wq_then_ret ?_
    refine wq_ret3 rfl rfl (rr_tmp rfl) (rr_tmp rfl) (rr_tmp rfl) (fun w9 hs9 => ?_)
    rw [show allOf s = ([], 2, 0) from if_pos (by omega)]
    exact ⟨_, rfl, World.ownsRow_nil _ _ _ _, hs9.below rfl⟩
  · simp only [decide_eq_true_eq, decide_eq_false_iff_not, Bool.not_eq_true', Bool.not_eq_false', bne_iff_ne, beq_iff_eq, bne_eq_false_iff_eq, beq_eq_false_iff_ne, Int.not_lt, Int.not_le] at hc13
    refine wc_skip ?_
    refine wq_then ?_
    refine wc_seq ?_
    refine wc_region ?_
    refine wl_go rfl (wo_val rfl (rv_assign rfl) rfl rfl ?_)
    refine wl_nil ?_
    refine wq_then ?_
    refine wc_seq ?_
    refine wc_region ?_
    refine wl_go rfl (wo_val rfl (rv_move rfl) rfl rfl ?_)
    refine wl_go rfl (wo_call (R := fun _ v _ => v = _) rfl rfl (enters_of Tryd.func19 (by kernel_rfl) rfl) rfl rfl rfl (fun w hs => (rskip_calls s hsz 0 (Nat.zero_le _) _).mono fun e w' h => ⟨_, h.1, rfl, h.2⟩) (fun w2s vs w3s hs2s hvs hb2s hm2s => ?_))
    subst hvs
    have hk0 := (skI_drop s 0 (Nat.zero_le _)).2
    refine wl_go rfl (wo_val rfl (rv_assign rfl) rfl rfl ?_)
    refine wl_nil ?_
    refine wq_then ?_
    refine wc_seq ?_
    refine wc_block ?_
    refine wc_loop (fun m l S => ∃ (k : Nat) (ws : List Wo) (v : Value) (w1 : World), k ≤ s.length ∧ ws.length ≤ k ∧ SoFar s ws k ∧ Rw ⟨w, G0, w1, []⟩ 45 3 v ws.length (ws.flatMap woC) ∧ m = s.length - k ∧ l = [(0, .string (toB s)), (5, v), (6, .int .i64 (k : Int))] ∧ S = ⟨w, G0, w1, []⟩) ⟨_, _, ⟨_, [], .slice none 0 0, _, skI_le s 0, Nat.zero_le _, sofar_start s, Rw.nil _ _ _, rfl, rfl, rfl⟩, by repeat (first | exact sub_nil | refine sub_cons rfl ?_)⟩ ?_
    intro m l S hJ
    obtain ⟨k, ws, v, w1, hk, hwl, hW, hR, rfl, rfl, rfl⟩ := hJ
    refine wc_seq ?_
    refine wc_seq ?_
    refine wc_region ?_
    refine wl_go rfl (wo_val rfl (rv_move rfl) rfl rfl ?_)
    refine wl_go rfl (wo_val rfl (rv_move rfl) rfl rfl ?_)
    refine wl_go rfl (wo_val rfl (rb_len rfl) rfl rfl ?_)
    refine wl_go rfl (wo_val rfl (rv_cmp_i rfl rfl rfl) rfl rfl ?_)
    refine wl_nil ?_
    refine wq_then ?_
    refine wc_cond rfl (fun hc19 => ?_) (fun hc19 => ?_)
    · simp only [decide_eq_true_eq, decide_eq_false_iff_not, Bool.not_eq_true', Bool.not_eq_false', bne_iff_ne, beq_iff_eq, bne_eq_false_iff_eq, beq_eq_false_iff_ne, Int.not_lt, Int.not_le] at hc19
      have hlt : k < s.length := by omega
      obtain ⟨c, hc0⟩ : ∃ c, s[k]? = some c := ⟨_, List.getElem?_eq_getElem hlt⟩
      have hdr := drop_cons hc0
      refine wc_skip ?_
      refine wq_then ?_
      refine wc_block ?_
      refine wc_seq ?_
      refine wc_region ?_
      refine wl_go rfl (wo_val rfl (rv_move rfl) rfl rfl ?_)
      refine wl_go rfl (wo_val rfl (rv_move rfl) rfl rfl ?_)
      refine wl_go rfl (wo_val rfl (rb_index rfl rfl (by omega) hc0) rfl rfl ?_)
      refine wl_go rfl (wo_val rfl (rv_assign rfl) rfl rfl ?_)
      refine wl_nil ?_
      refine wq_then ?_
      refine wc_seq ?_
      refine wc_region ?_
      refine wl_go rfl (wo_val rfl (rv_move rfl) rfl rfl ?_)
      refine wl_go rfl (wo_val rfl (rv_build [(2, _)] (⟨rfl, ⟨_, rfl, rfl⟩, trivial⟩)) rfl rfl ?_)
      refine wl_go rfl (wo_alloc rfl rfl rfl (fun b8 hb8 => ?_))
      replace hR := hR.beside hb8
      refine wl_go rfl (wo_st rfl rfl rfl rfl rfl rfl rfl ?_)
      refine wl_nil ?_
      refine wq_then ?_
      refine wc_seq ?_
      refine wc_region ?_
      refine wl_go rfl (wo_val rfl (rv_move rfl) rfl rfl ?_)
      refine wl_go rfl (wo_val rfl (rv_add rfl rfl (by omega)) rfl rfl ?_)
      refine wl_go rfl (wo_val rfl (rv_assign rfl) rfl rfl ?_)
      refine wl_nil ?_
      refine wq_then ?_
      refine wc_seq ?_
      refine wc_block ?_
      refine wc_seq ?_
      refine wc_region ?_
      refine wl_go rfl (wo_val rfl (rv_move rfl) rfl rfl ?_)
      refine wl_go rfl (wo_call (R := fun _ v _ => v = _) rfl rfl (enters_of Tryd.func20 (by kernel_rfl) rfl) rfl rfl rfl (fun w hs => (rletter_calls c _).mono fun e w' h => ⟨_, h.1, rfl, h.2⟩) (fun w2a va w3a hs2a hva hb2a hm2a => ?_))
      subst hva
      replace hR := hR.call hm2a rfl
      refine wl_go rfl (wo_val rfl (rv_assign rfl) rfl rfl ?_)
      refine wl_nil ?_
      refine wq_then ?_
      refine wc_cond rfl (fun hc28 => ?_) (fun hc28 => ?_)
      · skip
        refine wc_seq ?_
        refine wc_region ?_
        refine wl_go rfl (wo_val rfl (rv_move rfl) rfl rfl ?_)
        refine wl_go rfl (wo_val rfl (rv_move rfl) rfl rfl ?_)
        refine wl_go rfl (wo_call (R := fun _ v _ => v = _) rfl rfl (enters_of Tryd.func21 (by kernel_rfl) rfl) rfl rfl rfl (fun w hs => (rrun_calls s hsz k (by omega) true _).mono fun e w' h => ⟨_, h.1, rfl, h.2⟩) (fun w2b vb w3b hs2b hvb hb2b hm2b => ?_))
        subst hvb
        replace hR := hR.call hm2b rfl
        have hrl : ((s.drop k).takeWhile (runP true)).length ≤ (s.drop k).length := (List.takeWhile_sublist _).length_le
        rw [List.length_drop] at hrl
        refine wl_go rfl (wo_val rfl (rv_assign rfl) rfl rfl ?_)
        refine wl_nil ?_
        refine wq_then ?_
        refine wc_region ?_
        refine wl_go rfl (wo_val rfl (rv_move rfl) rfl rfl ?_)
        refine wl_go rfl (wo_val rfl (rv_move rfl) rfl rfl ?_)
        refine wl_go rfl (wo_val rfl (rv_move rfl) rfl rfl ?_)
        refine wl_go rfl (wo_val rfl (rb_slice_as (t := (s.drop k).takeWhile (runP true)) rfl (bnd_some rfl (by omega)) (bnd_some rfl (by omega)) (by omega) (cut_run (runP true) s k)) rfl rfl ?_)
        refine wl_go rfl (wo_val rfl (rv_fieldAddr rfl) rfl rfl ?_)
        refine wl_go rfl (wo_st rfl rfl rfl rfl rfl rfl rfl ?_)
        refine wl_nil ?_
        refine wq_in_normal ?_
        refine wq_then ?_
        refine wc_seq ?_
        refine wc_seq ?_
        refine wc_region ?_
        refine wl_go rfl (wo_val rfl (rv_fieldAddr0 rfl) rfl rfl ?_)
        refine wl_go rfl (wo_val rfl (rv_load_own rfl rfl) rfl rfl ?_)
        refine wl_go rfl (wo_val rfl (rv_cmp_i rfl rfl rfl) rfl rfl ?_)
        refine wl_go rfl (wo_val rfl (rv_move rfl) rfl rfl ?_)
        refine wl_want rfl rfl rfl rfl rfl rfl (wo_val rfl (rv_fieldAddr rfl) rfl rfl ?_)
        refine wl_want rfl rfl rfl rfl rfl rfl (wo_val rfl (rv_load_own rfl rfl) rfl rfl ?_)
        refine wl_want rfl rfl rfl rfl rfl rfl (wo_val rfl (rb_len rfl) rfl rfl ?_)
        refine wl_want rfl rfl rfl rfl rfl rfl (wo_val rfl (rv_cmp_i rfl rfl rfl) rfl rfl ?_)
        refine wl_go rfl (wo_val rfl (rv_pick_t rfl rfl rfl) rfl rfl ?_)
        refine wl_go rfl (wo_val rfl (rv_move rfl) rfl rfl ?_)
        refine wl_split (d := 96) rfl true (fun hg27_9 => ?_) (fun hg27_9 => ?_)
        · skip
          refine wl_skip rfl rfl rfl rfl rfl hg27_9 rfl ?_
          refine wl_skip rfl rfl rfl rfl rfl hg27_9 rfl ?_
          refine wl_skip rfl rfl rfl rfl rfl hg27_9 rfl ?_
          refine wl_skip rfl rfl rfl rfl rfl hg27_9 rfl ?_
          refine wl_skip_u rfl rfl rfl rfl rfl rfl ?_
          refine wl_skip_u rfl rfl rfl rfl rfl rfl ?_
          refine wl_skip_u rfl rfl rfl rfl rfl rfl ?_
          refine wl_skip_u rfl rfl rfl rfl rfl rfl ?_
          refine wl_skip rfl rfl rfl rfl rfl hg27_9 rfl ?_
          refine wl_go rfl (wo_val rfl (rv_pick_t rfl hg27_9 rfl) rfl rfl ?_)
          refine wl_nil ?_
          refine wq_then ?_
          refine wc_cond_t rfl rfl ?_
          refine wc_seq ?_
          refine wc_region ?_
          refine wl_go rfl (wo_val rfl (rv_move rfl) rfl rfl ?_)
          refine wl_go rfl (wo_val rfl (rv_assign rfl) rfl rfl ?_)
          refine wl_go rfl (wo_val rfl (rv_assign rfl) rfl rfl ?_)
          refine wl_go rfl (wo_val rfl (rv_assign rfl) rfl rfl ?_)
          refine wl_nil ?_
          refine wq_then ?_
          refine wc_ret ?_
          refine wq_then_ret ?_
          refine wq_in_ret ?_
          refine wq_then_ret ?_
          refine wq_in_ret ?_
          refine wq_then_ret ?_
          refine wq_ret3 rfl rfl (rr_tmp rfl) (rr_tmp rfl) (rr_tmp rfl) (fun w9 hs9 => ?_)
          have htw : (s.drop k).takeWhile (runP true) = (c :: s.drop (k + 1)).takeWhile isN := by rw [runP_t, hdr]
          have hlim : 32 < ((s.drop k).takeWhile (runP true)).length := by have := of_decide_eq_true hg27_9; omega
          rw [allOf_bad (by omega) (sofar_bad hW hdr hlt (by rw [first_L _ hc28, ← htw, if_pos hlim]))]
          exact ⟨_, rfl, World.ownsRow_nil _ _ _ _, hs9.below rfl⟩
        · skip
          refine wl_want rfl rfl rfl rfl rfl hg27_9 (wo_val rfl (rv_fieldAddr0 rfl) rfl rfl ?_)
          refine wl_want rfl rfl rfl rfl rfl hg27_9 (wo_val rfl (rv_load_own rfl rfl) rfl rfl ?_)
          refine wl_want rfl rfl rfl rfl rfl hg27_9 (wo_val rfl (rv_cmp_i rfl rfl rfl) rfl rfl ?_)
          refine wl_want rfl rfl rfl rfl rfl hg27_9 (wo_val rfl (rv_move rfl) rfl rfl ?_)
          refine wl_skip rfl rfl rfl rfl rfl rfl rfl ?_
          refine wl_skip rfl rfl rfl rfl rfl rfl rfl ?_
          refine wl_skip rfl rfl rfl rfl rfl rfl rfl ?_
          refine wl_skip rfl rfl rfl rfl rfl rfl rfl ?_
          refine wl_want rfl rfl rfl rfl rfl hg27_9 (wo_val rfl (rv_pick_f rfl rfl rfl) rfl rfl ?_)
          refine wl_go rfl (wo_val rfl (rv_pick_f rfl hg27_9 rfl) rfl rfl ?_)
          refine wl_nil ?_
          refine wq_then ?_
          refine wc_cond_f rfl rfl ?_
          refine wc_skip ?_
          refine wq_then ?_
          refine wc_seq ?_
          refine wc_region ?_
          refine wl_go rfl (wo_val rfl (rv_move rfl) rfl rfl ?_)
          refine wl_go rfl (wo_val rfl (rv_load_own_row rfl) rfl rfl ?_)
          refine wl_go rfl (wo_bs [_] rfl rfl rfl (⟨rfl, rfl, ⟨_, rfl, rfl⟩, trivial⟩) rfl rfl (fun b110 hb110 => ?_))
          refine wl_go rfl (wo_append rfl rfl rfl rfl rfl [] ⟨[_, _], rfl⟩ ((hR.beside hb110).ids rfl) (by unfold maxLen; omega) rfl rfl rfl (fun v6 w6 hR6 hm6 ho6 => ?_))
          refine wl_go rfl (wo_val rfl (rv_assign rfl) rfl rfl ?_)
          refine wl_nil ?_
          refine wq_then ?_
          refine wc_region ?_
          refine wl_go rfl (wo_val rfl (rv_move rfl) rfl rfl ?_)
          refine wl_go rfl (wo_val rfl (rv_move rfl) rfl rfl ?_)
          refine wl_go rfl (wo_call (R := fun _ v _ => v = _) rfl rfl (enters_of Tryd.func19 (by kernel_rfl) rfl) rfl rfl rfl (fun w hs => (rskip_calls s hsz (k + ((s.drop k).takeWhile (runP true)).length) (by omega) _).mono fun e w' h => ⟨_, h.1, rfl, h.2⟩) (fun w2z vz w3z hs2z hvz hb2z hm2z => ?_))
          subst hvz
          refine wl_go rfl (wo_val rfl (rv_assign rfl) rfl rfl ?_)
          refine wl_nil ?_
          refine wq_in_normal ?_
          have htw : (s.drop k).takeWhile (runP true) = (c :: s.drop (k + 1)).takeWhile isN := by rw [runP_t, hdr]
          have hpos : 0 < ((s.drop k).takeWhile (runP true)).length := by rw [htw]; exact tw_pos _ _ _ (by unfold isN; rw [hc28]; rfl)
          have hlim : ¬ 32 < ((s.drop k).takeWhile (runP true)).length := by have := of_decide_eq_false hg27_9; omega
          have hf : first (c :: s.drop (k + 1)) = (0, (s.drop k).takeWhile (runP true), ((s.drop k).takeWhile (runP true)).length) := by rw [first_L _ hc28, ← htw, if_neg hlim]
          have hsd := (skI_drop s (k + ((s.drop k).takeWhile (runP true)).length) (by omega)).2
          refine wq_round ⟨_, _, ⟨skI s (k + ((s.drop k).takeWhile (runP true)).length), ws ++ [⟨0, (s.drop k).takeWhile (runP true), k⟩], v6, _, skI_le _ _, by rw [List.length_append, List.length_singleton]; omega, sofar_step hW hdr hlt hf (by omega) (by omega), rw_snoc (hR6.call hm2z rfl), rfl, rfl, rfl⟩, by omega, by repeat (first | exact sub_nil | refine sub_cons rfl ?_)⟩
      · skip
        refine wc_seq ?_
        refine wc_region ?_
        refine wl_go rfl (wo_val rfl (rv_move rfl) rfl rfl ?_)
        refine wl_go rfl (wo_call (R := fun _ v _ => v = _) rfl rfl (enters_of Tryd.func22 (by kernel_rfl) rfl) rfl rfl rfl (fun w hs => (rdigit_calls c _).mono fun e w' h => ⟨_, h.1, rfl, h.2⟩) (fun w2c vc w3c hs2c hvc hb2c hm2c => ?_))
        subst hvc
        replace hR := hR.call hm2c rfl
        refine wl_go rfl (wo_val rfl (rv_assign rfl) rfl rfl ?_)
        refine wl_nil ?_
        refine wq_then ?_
        refine wc_cond rfl (fun hc39 => ?_) (fun hc39 => ?_)
        · skip
          refine wc_seq ?_
          refine wc_region ?_
          refine wl_go rfl (wo_val rfl (rv_move rfl) rfl rfl ?_)
          refine wl_go rfl (wo_val rfl (rv_move rfl) rfl rfl ?_)
          refine wl_go rfl (wo_call (R := fun _ v _ => v = _) rfl rfl (enters_of Tryd.func21 (by kernel_rfl) rfl) rfl rfl rfl (fun w hs => (rrun_calls s hsz k (by omega) false _).mono fun e w' h => ⟨_, h.1, rfl, h.2⟩) (fun w2d vd w3d hs2d hvd hb2d hm2d => ?_))
          subst hvd
          replace hR := hR.call hm2d rfl
          have hrl : ((s.drop k).takeWhile (runP false)).length ≤ (s.drop k).length := (List.takeWhile_sublist _).length_le
          rw [List.length_drop] at hrl
          refine wl_go rfl (wo_val rfl (rv_assign rfl) rfl rfl ?_)
          refine wl_nil ?_
          refine wq_then ?_
          refine wc_seq ?_
          refine wc_region ?_
          refine wl_go rfl (wo_val rfl (rv_fieldAddr0 rfl) rfl rfl ?_)
          refine wl_go rfl (wo_st rfl rfl rfl rfl rfl rfl rfl ?_)
          refine wl_nil ?_
          refine wq_then ?_
          refine wc_region ?_
          refine wl_go rfl (wo_val rfl (rv_move rfl) rfl rfl ?_)
          refine wl_go rfl (wo_val rfl (rv_move rfl) rfl rfl ?_)
          refine wl_go rfl (wo_val rfl (rv_move rfl) rfl rfl ?_)
          refine wl_go rfl (wo_val rfl (rb_slice_as (t := (s.drop k).takeWhile (runP false)) rfl (bnd_some rfl (by omega)) (bnd_some rfl (by omega)) (by omega) (cut_run (runP false) s k)) rfl rfl ?_)
          refine wl_go rfl (wo_val rfl (rv_fieldAddr rfl) rfl rfl ?_)
          refine wl_go rfl (wo_st rfl rfl rfl rfl rfl rfl rfl ?_)
          refine wl_nil ?_
          refine wq_in_normal ?_
          refine wq_then ?_
          refine wc_seq ?_
          refine wc_seq ?_
          refine wc_region ?_
          refine wl_go rfl (wo_val rfl (rv_fieldAddr0 rfl) rfl rfl ?_)
          refine wl_go rfl (wo_val rfl (rv_load_own rfl rfl) rfl rfl ?_)
          refine wl_go rfl (wo_val rfl (rv_cmp_i rfl rfl rfl) rfl rfl ?_)
          refine wl_go rfl (wo_val rfl (rv_move rfl) rfl rfl ?_)
          refine wl_skip rfl rfl rfl rfl rfl rfl rfl ?_
          refine wl_skip rfl rfl rfl rfl rfl rfl rfl ?_
          refine wl_skip rfl rfl rfl rfl rfl rfl rfl ?_
          refine wl_skip rfl rfl rfl rfl rfl rfl rfl ?_
          refine wl_go rfl (wo_val rfl (rv_pick_f rfl rfl rfl) rfl rfl ?_)
          refine wl_go rfl (wo_val rfl (rv_move rfl) rfl rfl ?_)
          refine wl_want rfl rfl rfl rfl rfl rfl (wo_val rfl (rv_fieldAddr0 rfl) rfl rfl ?_)
          refine wl_want rfl rfl rfl rfl rfl rfl (wo_val rfl (rv_load_own rfl rfl) rfl rfl ?_)
          refine wl_want rfl rfl rfl rfl rfl rfl (wo_val rfl (rv_cmp_i rfl rfl rfl) rfl rfl ?_)
          refine wl_want rfl rfl rfl rfl rfl rfl (wo_val rfl (rv_move rfl) rfl rfl ?_)
          refine wl_want rfl rfl rfl rfl rfl rfl (wo_val rfl (rv_fieldAddr rfl) rfl rfl ?_)
          refine wl_want rfl rfl rfl rfl rfl rfl (wo_val rfl (rv_load_own rfl rfl) rfl rfl ?_)
          refine wl_want rfl rfl rfl rfl rfl rfl (wo_val rfl (rb_len rfl) rfl rfl ?_)
          refine wl_want rfl rfl rfl rfl rfl rfl (wo_val rfl (rv_cmp_i rfl rfl rfl) rfl rfl ?_)
          refine wl_want rfl rfl rfl rfl rfl rfl (wo_val rfl (rv_pick_t rfl rfl rfl) rfl rfl ?_)
          refine wl_go rfl (wo_val rfl (rv_pick_f rfl rfl rfl) rfl rfl ?_)
          refine wl_nil ?_
          refine wq_then ?_
          refine wc_cond rfl (fun hc106 => ?_) (fun hc106 => ?_)
          · skip
            refine wc_seq ?_
            refine wc_region ?_
            refine wl_go rfl (wo_val rfl (rv_move rfl) rfl rfl ?_)
            refine wl_go rfl (wo_val rfl (rv_assign rfl) rfl rfl ?_)
            refine wl_go rfl (wo_val rfl (rv_assign rfl) rfl rfl ?_)
            refine wl_go rfl (wo_val rfl (rv_assign rfl) rfl rfl ?_)
            refine wl_nil ?_
            refine wq_then ?_
            refine wc_ret ?_
            refine wq_then_ret ?_
            refine wq_in_ret ?_
            refine wq_then_ret ?_
            refine wq_in_ret ?_
            refine wq_then_ret ?_
            refine wq_ret3 rfl rfl (rr_tmp rfl) (rr_tmp rfl) (rr_tmp rfl) (fun w9 hs9 => ?_)
            have htw : (s.drop k).takeWhile (runP false) = (c :: s.drop (k + 1)).takeWhile isD := by rw [runP_f, hdr]
            have hlim : 4 < ((s.drop k).takeWhile (runP false)).length := by have := of_decide_eq_true hc106; omega
            rw [allOf_bad (by omega) (sofar_bad hW hdr hlt (by rw [first_D _ hc28 hc39, ← htw, if_pos hlim]))]
            exact ⟨_, rfl, World.ownsRow_nil _ _ _ _, hs9.below rfl⟩
          · skip
            refine wc_skip ?_
            refine wq_then ?_
            refine wc_seq ?_
            refine wc_region ?_
            refine wl_go rfl (wo_val rfl (rv_move rfl) rfl rfl ?_)
            refine wl_go rfl (wo_val rfl (rv_load_own_row rfl) rfl rfl ?_)
            refine wl_go rfl (wo_bs [_] rfl rfl rfl (⟨rfl, rfl, ⟨_, rfl, rfl⟩, trivial⟩) rfl rfl (fun b110 hb110 => ?_))
            refine wl_go rfl (wo_append rfl rfl rfl rfl rfl [] ⟨[_, _], rfl⟩ ((hR.beside hb110).ids rfl) (by unfold maxLen; omega) rfl rfl rfl (fun v6 w6 hR6 hm6 ho6 => ?_))
            refine wl_go rfl (wo_val rfl (rv_assign rfl) rfl rfl ?_)
            refine wl_nil ?_
            refine wq_then ?_
            refine wc_region ?_
            refine wl_go rfl (wo_val rfl (rv_move rfl) rfl rfl ?_)
            refine wl_go rfl (wo_val rfl (rv_move rfl) rfl rfl ?_)
            refine wl_go rfl (wo_call (R := fun _ v _ => v = _) rfl rfl (enters_of Tryd.func19 (by kernel_rfl) rfl) rfl rfl rfl (fun w hs => (rskip_calls s hsz (k + ((s.drop k).takeWhile (runP false)).length) (by omega) _).mono fun e w' h => ⟨_, h.1, rfl, h.2⟩) (fun w2z vz w3z hs2z hvz hb2z hm2z => ?_))
            subst hvz
            refine wl_go rfl (wo_val rfl (rv_assign rfl) rfl rfl ?_)
            refine wl_nil ?_
            refine wq_in_normal ?_
            have htw : (s.drop k).takeWhile (runP false) = (c :: s.drop (k + 1)).takeWhile isD := by rw [runP_f, hdr]
            have hpos : 0 < ((s.drop k).takeWhile (runP false)).length := by rw [htw]; exact tw_pos _ _ _ (hc39)
            have hlim : ¬ 4 < ((s.drop k).takeWhile (runP false)).length := by have := of_decide_eq_false hc106; omega
            have hf : first (c :: s.drop (k + 1)) = (1, (s.drop k).takeWhile (runP false), ((s.drop k).takeWhile (runP false)).length) := by rw [first_D _ hc28 hc39, ← htw, if_neg hlim]
            have hsd := (skI_drop s (k + ((s.drop k).takeWhile (runP false)).length) (by omega)).2
            refine wq_round ⟨_, _, ⟨skI s (k + ((s.drop k).takeWhile (runP false)).length), ws ++ [⟨1, (s.drop k).takeWhile (runP false), k⟩], v6, _, skI_le _ _, by rw [List.length_append, List.length_singleton]; omega, sofar_step hW hdr hlt hf (by omega) (by omega), rw_snoc (hR6.call hm2z rfl), rfl, rfl, rfl⟩, by omega, by repeat (first | exact sub_nil | refine sub_cons rfl ?_)⟩
        · skip
          refine wc_seq ?_
          refine wc_region ?_
          refine wl_go rfl (wo_val rfl (rv_move rfl) rfl rfl ?_)
          refine wl_go rfl (wo_val rfl (rv_cmp_i rfl rfl rfl) rfl rfl ?_)
          refine wl_go rfl (wo_val rfl (rv_assign rfl) rfl rfl ?_)
          refine wl_nil ?_
          refine wq_then ?_
          refine wc_cond rfl (fun hc51 => ?_) (fun hc51 => ?_)
          · skip
            have e47 : (c == 47) = true := (beq_byte c 47).symm.trans hc51
            refine wc_seq ?_
            refine wc_region ?_
            refine wl_go rfl (wo_val rfl (rv_move rfl) rfl rfl ?_)
            refine wl_go rfl (wo_val rfl (rv_move rfl) rfl rfl ?_)
            refine wl_go rfl (wo_val rfl (rv_add rfl rfl (by omega)) rfl rfl ?_)
            refine wl_go rfl (wo_call (R := fun _ v _ => v = _) rfl rfl (enters_of Tryd.func23 (by kernel_rfl) rfl) rfl rfl rfl (fun w hs => (rslash_calls s hsz (k + 1) (by omega) _).mono fun e w' h => ⟨_, h.1, rfl, h.2⟩) (fun w2e ve w3e hs2e hve hb2e hm2e => ?_))
            subst hve
            replace hR := hR.call hm2e rfl
            refine wl_go rfl (wo_val rfl (rv_assign rfl) rfl rfl ?_)
            refine wl_nil ?_
            refine wq_then ?_
            refine wc_seq ?_
            refine wc_seq ?_
            refine wc_region ?_
            refine wl_go rfl (wo_val rfl (rv_move rfl) rfl rfl ?_)
            refine wl_go rfl (wo_val rfl (rv_cmp_i rfl rfl rfl) rfl rfl ?_)
            refine wl_nil ?_
            refine wq_then ?_
            refine wc_cond rfl (fun hc59 => ?_) (fun hc59 => ?_)
            · simp only [decide_eq_true_eq, decide_eq_false_iff_not, Bool.not_eq_true', Bool.not_eq_false', bne_iff_ne, beq_iff_eq, bne_eq_false_iff_eq, beq_eq_false_iff_ne, Int.not_lt, Int.not_le] at hc59
              have hpn := slI_neg hc59
              refine wc_seq ?_
              refine wc_region ?_
              refine wl_go rfl (wo_val rfl (rv_move rfl) rfl rfl ?_)
              refine wl_go rfl (wo_val rfl (rv_assign rfl) rfl rfl ?_)
              refine wl_go rfl (wo_val rfl (rv_assign rfl) rfl rfl ?_)
              refine wl_go rfl (wo_val rfl (rv_assign rfl) rfl rfl ?_)
              refine wl_nil ?_
              refine wq_then ?_
              refine wc_ret ?_
              refine wq_then_ret ?_
              refine wq_in_ret ?_
              refine wq_then_ret ?_
              refine wq_in_ret ?_
              refine wq_then_ret ?_
              refine wq_in_ret ?_
              refine wq_then_ret ?_
              refine wq_ret3 rfl rfl (rr_tmp rfl) (rr_tmp rfl) (rr_tmp rfl) (fun w9 hs9 => ?_)
              rw [allOf_bad (by omega) (sofar_bad hW hdr hlt (by rw [first_Q hc28 hc39 e47 hpn]))]
              exact ⟨_, rfl, World.ownsRow_nil _ _ _ _, hs9.below rfl⟩
            · simp only [decide_eq_true_eq, decide_eq_false_iff_not, Bool.not_eq_true', Bool.not_eq_false', bne_iff_ne, beq_iff_eq, bne_eq_false_iff_eq, beq_eq_false_iff_ne, Int.not_lt, Int.not_le] at hc59
              obtain ⟨j, hj, hsl, hjl⟩ := slI_pos hc59
              rw [hsl]
              refine wc_skip ?_
              refine wq_then ?_
              refine wc_seq ?_
              refine wc_region ?_
              refine wl_go rfl (wo_val rfl (rv_fieldAddr0 rfl) rfl rfl ?_)
              refine wl_go rfl (wo_st rfl rfl rfl rfl rfl rfl rfl ?_)
              refine wl_nil ?_
              refine wq_then ?_
              refine wc_seq ?_
              refine wc_region ?_
              refine wl_go rfl (wo_val rfl (rv_move rfl) rfl rfl ?_)
              refine wl_go rfl (wo_val rfl (rv_move rfl) rfl rfl ?_)
              refine wl_go rfl (wo_val rfl (rv_add rfl rfl (by omega)) rfl rfl ?_)
              refine wl_go rfl (wo_val rfl (rv_move rfl) rfl rfl ?_)
              refine wl_go rfl (wo_val rfl (rb_slice_as (t := (s.drop (k + 1)).take j) rfl (bnd_some rfl (by omega)) (bnd_some rfl (by omega)) (by omega) (cut_slash rfl)) rfl rfl ?_)
              refine wl_go rfl (wo_val rfl (rv_fieldAddr rfl) rfl rfl ?_)
              refine wl_go rfl (wo_st rfl rfl rfl rfl rfl rfl rfl ?_)
              refine wl_nil ?_
              refine wq_then ?_
              refine wc_region ?_
              refine wl_go rfl (wo_val rfl (rv_move rfl) rfl rfl ?_)
              refine wl_go rfl (wo_val rfl (rv_add rfl rfl (by omega)) rfl rfl ?_)
              refine wl_go rfl (wo_val rfl (rv_assign rfl) rfl rfl ?_)
              refine wl_nil ?_
              refine wq_in_normal ?_
              refine wq_then ?_
              refine wc_seq ?_
              refine wc_seq ?_
              refine wc_region ?_
              refine wl_go rfl (wo_val rfl (rv_fieldAddr0 rfl) rfl rfl ?_)
              refine wl_go rfl (wo_val rfl (rv_load_own rfl rfl) rfl rfl ?_)
              refine wl_go rfl (wo_val rfl (rv_cmp_i rfl rfl rfl) rfl rfl ?_)
              refine wl_go rfl (wo_val rfl (rv_move rfl) rfl rfl ?_)
              refine wl_skip rfl rfl rfl rfl rfl rfl rfl ?_
              refine wl_skip rfl rfl rfl rfl rfl rfl rfl ?_
              refine wl_skip rfl rfl rfl rfl rfl rfl rfl ?_
              refine wl_skip rfl rfl rfl rfl rfl rfl rfl ?_
              refine wl_go rfl (wo_val rfl (rv_pick_f rfl rfl rfl) rfl rfl ?_)
              refine wl_go rfl (wo_val rfl (rv_move rfl) rfl rfl ?_)
              refine wl_want rfl rfl rfl rfl rfl rfl (wo_val rfl (rv_fieldAddr0 rfl) rfl rfl ?_)
              refine wl_want rfl rfl rfl rfl rfl rfl (wo_val rfl (rv_load_own rfl rfl) rfl rfl ?_)
              refine wl_want rfl rfl rfl rfl rfl rfl (wo_val rfl (rv_cmp_i rfl rfl rfl) rfl rfl ?_)
              refine wl_want rfl rfl rfl rfl rfl rfl (wo_val rfl (rv_move rfl) rfl rfl ?_)
              refine wl_skip rfl rfl rfl rfl rfl rfl rfl ?_
              refine wl_skip rfl rfl rfl rfl rfl rfl rfl ?_
              refine wl_skip rfl rfl rfl rfl rfl rfl rfl ?_
              refine wl_skip rfl rfl rfl rfl rfl rfl rfl ?_
              refine wl_want rfl rfl rfl rfl rfl rfl (wo_val rfl (rv_pick_f rfl rfl rfl) rfl rfl ?_)
              refine wl_go rfl (wo_val rfl (rv_pick_f rfl rfl rfl) rfl rfl ?_)
              refine wl_nil ?_
              refine wq_then ?_
              refine wc_cond_f rfl rfl ?_
              refine wc_skip ?_
              refine wq_then ?_
              refine wc_seq ?_
              refine wc_region ?_
              refine wl_go rfl (wo_val rfl (rv_move rfl) rfl rfl ?_)
              refine wl_go rfl (wo_val rfl (rv_load_own_row rfl) rfl rfl ?_)
              refine wl_go rfl (wo_bs [_] rfl rfl rfl (⟨rfl, rfl, ⟨_, rfl, rfl⟩, trivial⟩) rfl rfl (fun b110 hb110 => ?_))
              refine wl_go rfl (wo_append rfl rfl rfl rfl rfl [] ⟨[_, _], rfl⟩ ((hR.beside hb110).ids rfl) (by unfold maxLen; omega) rfl rfl rfl (fun v6 w6 hR6 hm6 ho6 => ?_))
              refine wl_go rfl (wo_val rfl (rv_assign rfl) rfl rfl ?_)
              refine wl_nil ?_
              refine wq_then ?_
              refine wc_region ?_
              refine wl_go rfl (wo_val rfl (rv_move rfl) rfl rfl ?_)
              refine wl_go rfl (wo_val rfl (rv_move rfl) rfl rfl ?_)
              refine wl_go rfl (wo_call (R := fun _ v _ => v = _) rfl rfl (enters_of Tryd.func19 (by kernel_rfl) rfl) rfl rfl rfl (fun w hs => (rskip_calls s hsz (k + 1 + j + 1) (by omega) _).mono fun e w' h => ⟨_, h.1, rfl, h.2⟩) (fun w2z vz w3z hs2z hvz hb2z hm2z => ?_))
              subst hvz
              refine wl_go rfl (wo_val rfl (rv_assign rfl) rfl rfl ?_)
              refine wl_nil ?_
              refine wq_in_normal ?_
              have hsf := sofar_step hW hdr hlt (first_P hc28 hc39 e47 hj) (by omega) (by omega)
              rw [show k + (j + 2) = k + 1 + j + 1 by omega] at hsf
              have hsd := (skI_drop s (k + 1 + j + 1) (by omega)).2
              refine wq_round ⟨_, _, ⟨skI s (k + 1 + j + 1), ws ++ [⟨2, (s.drop (k + 1)).take j, k⟩], v6, _, skI_le _ _, by rw [List.length_append, List.length_singleton]; omega, hsf, rw_snoc (hR6.call hm2z rfl), rfl, rfl, rfl⟩, by omega, by repeat (first | exact sub_nil | refine sub_cons rfl ?_)⟩
          · skip
            have e47 : (c == 47) = false := (beq_byte c 47).symm.trans hc51
            refine wc_seq ?_
            refine wc_region ?_
            refine wl_go rfl (wo_val rfl (rv_move rfl) rfl rfl ?_)
            refine wl_go rfl (wo_val rfl (rv_cmp_i rfl rfl rfl) rfl rfl ?_)
            refine wl_go rfl (wo_val rfl (rv_move rfl) rfl rfl ?_)
            refine wl_split (d := 73) rfl true (fun hg24_2 => ?_) (fun hg24_2 => ?_)
            · skip
              refine wl_skip rfl rfl rfl rfl rfl hg24_2 rfl ?_
              refine wl_skip rfl rfl rfl rfl rfl hg24_2 rfl ?_
              refine wl_go rfl (wo_val rfl (rv_pick_t rfl hg24_2 rfl) rfl rfl ?_)
              refine wl_go rfl (wo_val rfl (rv_move rfl) rfl rfl ?_)
              refine wl_skip rfl rfl rfl rfl rfl rfl rfl ?_
              refine wl_skip rfl rfl rfl rfl rfl rfl rfl ?_
              refine wl_go rfl (wo_val rfl (rv_pick_t rfl rfl rfl) rfl rfl ?_)
              refine wl_go rfl (wo_val rfl (rv_assign rfl) rfl rfl ?_)
              refine wl_nil ?_
              refine wq_then ?_
              refine wc_cond_t rfl rfl ?_
              refine wc_seq ?_
              refine wc_region ?_
              refine wl_go rfl (wo_val rfl (rv_fieldAddr0 rfl) rfl rfl ?_)
              refine wl_go rfl (wo_st rfl rfl rfl rfl rfl rfl rfl ?_)
              refine wl_nil ?_
              refine wq_then ?_
              refine wc_region ?_
              refine wl_go rfl (wo_val rfl (rv_move rfl) rfl rfl ?_)
              refine wl_go rfl (wo_val rfl (rv_move rfl) rfl rfl ?_)
              refine wl_go rfl (wo_val rfl (rv_move rfl) rfl rfl ?_)
              refine wl_go rfl (wo_val rfl (rb_slice_as (t := [c]) rfl (bnd_some rfl (by omega)) (bnd_some rfl (by omega)) (by omega) (cut_one hc0)) rfl rfl ?_)
              refine wl_go rfl (wo_val rfl (rv_fieldAddr rfl) rfl rfl ?_)
              refine wl_go rfl (wo_st rfl rfl rfl rfl rfl rfl rfl ?_)
              refine wl_nil ?_
              refine wq_in_normal ?_
              refine wq_then ?_
              refine wc_seq ?_
              refine wc_seq ?_
              refine wc_region ?_
              refine wl_go rfl (wo_val rfl (rv_fieldAddr0 rfl) rfl rfl ?_)
              refine wl_go rfl (wo_val rfl (rv_load_own rfl rfl) rfl rfl ?_)
              refine wl_go rfl (wo_val rfl (rv_cmp_i rfl rfl rfl) rfl rfl ?_)
              refine wl_go rfl (wo_val rfl (rv_move rfl) rfl rfl ?_)
              refine wl_skip rfl rfl rfl rfl rfl rfl rfl ?_
              refine wl_skip rfl rfl rfl rfl rfl rfl rfl ?_
              refine wl_skip rfl rfl rfl rfl rfl rfl rfl ?_
              refine wl_skip rfl rfl rfl rfl rfl rfl rfl ?_
              refine wl_go rfl (wo_val rfl (rv_pick_f rfl rfl rfl) rfl rfl ?_)
              refine wl_go rfl (wo_val rfl (rv_move rfl) rfl rfl ?_)
              refine wl_want rfl rfl rfl rfl rfl rfl (wo_val rfl (rv_fieldAddr0 rfl) rfl rfl ?_)
              refine wl_want rfl rfl rfl rfl rfl rfl (wo_val rfl (rv_load_own rfl rfl) rfl rfl ?_)
              refine wl_want rfl rfl rfl rfl rfl rfl (wo_val rfl (rv_cmp_i rfl rfl rfl) rfl rfl ?_)
              refine wl_want rfl rfl rfl rfl rfl rfl (wo_val rfl (rv_move rfl) rfl rfl ?_)
              refine wl_skip rfl rfl rfl rfl rfl rfl rfl ?_
              refine wl_skip rfl rfl rfl rfl rfl rfl rfl ?_
              refine wl_skip rfl rfl rfl rfl rfl rfl rfl ?_
              refine wl_skip rfl rfl rfl rfl rfl rfl rfl ?_
              refine wl_want rfl rfl rfl rfl rfl rfl (wo_val rfl (rv_pick_f rfl rfl rfl) rfl rfl ?_)
              refine wl_go rfl (wo_val rfl (rv_pick_f rfl rfl rfl) rfl rfl ?_)
              refine wl_nil ?_
              refine wq_then ?_
              refine wc_cond_f rfl rfl ?_
              refine wc_skip ?_
              refine wq_then ?_
              refine wc_seq ?_
              refine wc_region ?_
              refine wl_go rfl (wo_val rfl (rv_move rfl) rfl rfl ?_)
              refine wl_go rfl (wo_val rfl (rv_load_own_row rfl) rfl rfl ?_)
              refine wl_go rfl (wo_bs [_] rfl rfl rfl (⟨rfl, rfl, ⟨_, rfl, rfl⟩, trivial⟩) rfl rfl (fun b110 hb110 => ?_))
              refine wl_go rfl (wo_append rfl rfl rfl rfl rfl [] ⟨[_, _], rfl⟩ ((hR.beside hb110).ids rfl) (by unfold maxLen; omega) rfl rfl rfl (fun v6 w6 hR6 hm6 ho6 => ?_))
              refine wl_go rfl (wo_val rfl (rv_assign rfl) rfl rfl ?_)
              refine wl_nil ?_
              refine wq_then ?_
              refine wc_region ?_
              refine wl_go rfl (wo_val rfl (rv_move rfl) rfl rfl ?_)
              refine wl_go rfl (wo_val rfl (rv_move rfl) rfl rfl ?_)
              refine wl_go rfl (wo_call (R := fun _ v _ => v = _) rfl rfl (enters_of Tryd.func19 (by kernel_rfl) rfl) rfl rfl rfl (fun w hs => (rskip_calls s hsz (k + 1) (by omega) _).mono fun e w' h => ⟨_, h.1, rfl, h.2⟩) (fun w2z vz w3z hs2z hvz hb2z hm2z => ?_))
              subst hvz
              refine wl_go rfl (wo_val rfl (rv_assign rfl) rfl rfl ?_)
              refine wl_nil ?_
              refine wq_in_normal ?_
              have hm : isM c = true := by unfold isM; rw [show (c == 58) = true from (beq_byte c 58).symm.trans hg24_2]; rfl
              have hsd := (skI_drop s (k + 1) (by omega)).2
              refine wq_round ⟨_, _, ⟨skI s (k + 1), ws ++ [⟨3, [c], k⟩], v6, _, skI_le _ _, by rw [List.length_append, List.length_singleton]; omega, sofar_step hW hdr hlt (first_M _ hc28 hc39 e47 hm) (by omega) (by omega), rw_snoc (hR6.call hm2z rfl), rfl, rfl, rfl⟩, by omega, by repeat (first | exact sub_nil | refine sub_cons rfl ?_)⟩
            · skip
              refine wl_want rfl rfl rfl rfl rfl hg24_2 (wo_val rfl (rv_move rfl) rfl rfl ?_)
              refine wl_want rfl rfl rfl rfl rfl hg24_2 (wo_val rfl (rv_cmp_i rfl rfl rfl) rfl rfl ?_)
              refine wl_go rfl (wo_val rfl (rv_pick_f rfl hg24_2 rfl) rfl rfl ?_)
              refine wl_go rfl (wo_val rfl (rv_move rfl) rfl rfl ?_)
              refine wl_split (d := 77) rfl true (fun hg24_6 => ?_) (fun hg24_6 => ?_)
              · skip
                refine wl_skip rfl rfl rfl rfl rfl hg24_6 rfl ?_
                refine wl_skip rfl rfl rfl rfl rfl hg24_6 rfl ?_
                refine wl_go rfl (wo_val rfl (rv_pick_t rfl hg24_6 rfl) rfl rfl ?_)
                refine wl_go rfl (wo_val rfl (rv_assign rfl) rfl rfl ?_)
                refine wl_nil ?_
                refine wq_then ?_
                refine wc_cond_t rfl rfl ?_
                refine wc_seq ?_
                refine wc_region ?_
                refine wl_go rfl (wo_val rfl (rv_fieldAddr0 rfl) rfl rfl ?_)
                refine wl_go rfl (wo_st rfl rfl rfl rfl rfl rfl rfl ?_)
                refine wl_nil ?_
                refine wq_then ?_
                refine wc_region ?_
                refine wl_go rfl (wo_val rfl (rv_move rfl) rfl rfl ?_)
                refine wl_go rfl (wo_val rfl (rv_move rfl) rfl rfl ?_)
                refine wl_go rfl (wo_val rfl (rv_move rfl) rfl rfl ?_)
                refine wl_go rfl (wo_val rfl (rb_slice_as (t := [c]) rfl (bnd_some rfl (by omega)) (bnd_some rfl (by omega)) (by omega) (cut_one hc0)) rfl rfl ?_)
                refine wl_go rfl (wo_val rfl (rv_fieldAddr rfl) rfl rfl ?_)
                refine wl_go rfl (wo_st rfl rfl rfl rfl rfl rfl rfl ?_)
                refine wl_nil ?_
                refine wq_in_normal ?_
                refine wq_then ?_
                refine wc_seq ?_
                refine wc_seq ?_
                refine wc_region ?_
                refine wl_go rfl (wo_val rfl (rv_fieldAddr0 rfl) rfl rfl ?_)
                refine wl_go rfl (wo_val rfl (rv_load_own rfl rfl) rfl rfl ?_)
                refine wl_go rfl (wo_val rfl (rv_cmp_i rfl rfl rfl) rfl rfl ?_)
                refine wl_go rfl (wo_val rfl (rv_move rfl) rfl rfl ?_)
                refine wl_skip rfl rfl rfl rfl rfl rfl rfl ?_
                refine wl_skip rfl rfl rfl rfl rfl rfl rfl ?_
                refine wl_skip rfl rfl rfl rfl rfl rfl rfl ?_
                refine wl_skip rfl rfl rfl rfl rfl rfl rfl ?_
                refine wl_go rfl (wo_val rfl (rv_pick_f rfl rfl rfl) rfl rfl ?_)
                refine wl_go rfl (wo_val rfl (rv_move rfl) rfl rfl ?_)
                refine wl_want rfl rfl rfl rfl rfl rfl (wo_val rfl (rv_fieldAddr0 rfl) rfl rfl ?_)
                refine wl_want rfl rfl rfl rfl rfl rfl (wo_val rfl (rv_load_own rfl rfl) rfl rfl ?_)
                refine wl_want rfl rfl rfl rfl rfl rfl (wo_val rfl (rv_cmp_i rfl rfl rfl) rfl rfl ?_)
                refine wl_want rfl rfl rfl rfl rfl rfl (wo_val rfl (rv_move rfl) rfl rfl ?_)
                refine wl_skip rfl rfl rfl rfl rfl rfl rfl ?_
                refine wl_skip rfl rfl rfl rfl rfl rfl rfl ?_
                refine wl_skip rfl rfl rfl rfl rfl rfl rfl ?_
                refine wl_skip rfl rfl rfl rfl rfl rfl rfl ?_
                refine wl_want rfl rfl rfl rfl rfl rfl (wo_val rfl (rv_pick_f rfl rfl rfl) rfl rfl ?_)
                refine wl_go rfl (wo_val rfl (rv_pick_f rfl rfl rfl) rfl rfl ?_)
                refine wl_nil ?_
                refine wq_then ?_
                refine wc_cond_f rfl rfl ?_
                refine wc_skip ?_
                refine wq_then ?_
                refine wc_seq ?_
                refine wc_region ?_
                refine wl_go rfl (wo_val rfl (rv_move rfl) rfl rfl ?_)
                refine wl_go rfl (wo_val rfl (rv_load_own_row rfl) rfl rfl ?_)
                refine wl_go rfl (wo_bs [_] rfl rfl rfl (⟨rfl, rfl, ⟨_, rfl, rfl⟩, trivial⟩) rfl rfl (fun b110 hb110 => ?_))
                refine wl_go rfl (wo_append rfl rfl rfl rfl rfl [] ⟨[_, _], rfl⟩ ((hR.beside hb110).ids rfl) (by unfold maxLen; omega) rfl rfl rfl (fun v6 w6 hR6 hm6 ho6 => ?_))
                refine wl_go rfl (wo_val rfl (rv_assign rfl) rfl rfl ?_)
                refine wl_nil ?_
                refine wq_then ?_
                refine wc_region ?_
                refine wl_go rfl (wo_val rfl (rv_move rfl) rfl rfl ?_)
                refine wl_go rfl (wo_val rfl (rv_move rfl) rfl rfl ?_)
                refine wl_go rfl (wo_call (R := fun _ v _ => v = _) rfl rfl (enters_of Tryd.func19 (by kernel_rfl) rfl) rfl rfl rfl (fun w hs => (rskip_calls s hsz (k + 1) (by omega) _).mono fun e w' h => ⟨_, h.1, rfl, h.2⟩) (fun w2z vz w3z hs2z hvz hb2z hm2z => ?_))
                subst hvz
                refine wl_go rfl (wo_val rfl (rv_assign rfl) rfl rfl ?_)
                refine wl_nil ?_
                refine wq_in_normal ?_
                have hm : isM c = true := by unfold isM; rw [show (c == 124) = true from (beq_byte c 124).symm.trans hg24_6]; simp
                have hsd := (skI_drop s (k + 1) (by omega)).2
                refine wq_round ⟨_, _, ⟨skI s (k + 1), ws ++ [⟨3, [c], k⟩], v6, _, skI_le _ _, by rw [List.length_append, List.length_singleton]; omega, sofar_step hW hdr hlt (first_M _ hc28 hc39 e47 hm) (by omega) (by omega), rw_snoc (hR6.call hm2z rfl), rfl, rfl, rfl⟩, by omega, by repeat (first | exact sub_nil | refine sub_cons rfl ?_)⟩
              · skip
                refine wl_want rfl rfl rfl rfl rfl hg24_6 (wo_val rfl (rv_move rfl) rfl rfl ?_)
                refine wl_want rfl rfl rfl rfl rfl hg24_6 (wo_val rfl (rv_cmp_i rfl rfl rfl) rfl rfl ?_)
                refine wl_go rfl (wo_val rfl (rv_pick_f rfl hg24_6 rfl) rfl rfl ?_)
                refine wl_go rfl (wo_val rfl (rv_assign rfl) rfl rfl ?_)
                refine wl_nil ?_
                refine wq_then ?_
                refine wc_cond rfl (fun hc70 => ?_) (fun hc70 => ?_)
                · skip
                  refine wc_seq ?_
                  refine wc_region ?_
                  refine wl_go rfl (wo_val rfl (rv_fieldAddr0 rfl) rfl rfl ?_)
                  refine wl_go rfl (wo_st rfl rfl rfl rfl rfl rfl rfl ?_)
                  refine wl_nil ?_
                  refine wq_then ?_
                  refine wc_region ?_
                  refine wl_go rfl (wo_val rfl (rv_move rfl) rfl rfl ?_)
                  refine wl_go rfl (wo_val rfl (rv_move rfl) rfl rfl ?_)
                  refine wl_go rfl (wo_val rfl (rv_move rfl) rfl rfl ?_)
                  refine wl_go rfl (wo_val rfl (rb_slice_as (t := [c]) rfl (bnd_some rfl (by omega)) (bnd_some rfl (by omega)) (by omega) (cut_one hc0)) rfl rfl ?_)
                  refine wl_go rfl (wo_val rfl (rv_fieldAddr rfl) rfl rfl ?_)
                  refine wl_go rfl (wo_st rfl rfl rfl rfl rfl rfl rfl ?_)
                  refine wl_nil ?_
                  refine wq_in_normal ?_
                  refine wq_then ?_
                  refine wc_seq ?_
                  refine wc_seq ?_
                  refine wc_region ?_
                  refine wl_go rfl (wo_val rfl (rv_fieldAddr0 rfl) rfl rfl ?_)
                  refine wl_go rfl (wo_val rfl (rv_load_own rfl rfl) rfl rfl ?_)
                  refine wl_go rfl (wo_val rfl (rv_cmp_i rfl rfl rfl) rfl rfl ?_)
                  refine wl_go rfl (wo_val rfl (rv_move rfl) rfl rfl ?_)
                  refine wl_skip rfl rfl rfl rfl rfl rfl rfl ?_
                  refine wl_skip rfl rfl rfl rfl rfl rfl rfl ?_
                  refine wl_skip rfl rfl rfl rfl rfl rfl rfl ?_
                  refine wl_skip rfl rfl rfl rfl rfl rfl rfl ?_
                  refine wl_go rfl (wo_val rfl (rv_pick_f rfl rfl rfl) rfl rfl ?_)
                  refine wl_go rfl (wo_val rfl (rv_move rfl) rfl rfl ?_)
                  refine wl_want rfl rfl rfl rfl rfl rfl (wo_val rfl (rv_fieldAddr0 rfl) rfl rfl ?_)
                  refine wl_want rfl rfl rfl rfl rfl rfl (wo_val rfl (rv_load_own rfl rfl) rfl rfl ?_)
                  refine wl_want rfl rfl rfl rfl rfl rfl (wo_val rfl (rv_cmp_i rfl rfl rfl) rfl rfl ?_)
                  refine wl_want rfl rfl rfl rfl rfl rfl (wo_val rfl (rv_move rfl) rfl rfl ?_)
                  refine wl_skip rfl rfl rfl rfl rfl rfl rfl ?_
                  refine wl_skip rfl rfl rfl rfl rfl rfl rfl ?_
                  refine wl_skip rfl rfl rfl rfl rfl rfl rfl ?_
                  refine wl_skip rfl rfl rfl rfl rfl rfl rfl ?_
                  refine wl_want rfl rfl rfl rfl rfl rfl (wo_val rfl (rv_pick_f rfl rfl rfl) rfl rfl ?_)
                  refine wl_go rfl (wo_val rfl (rv_pick_f rfl rfl rfl) rfl rfl ?_)
                  refine wl_nil ?_
                  refine wq_then ?_
                  refine wc_cond_f rfl rfl ?_
                  refine wc_skip ?_
                  refine wq_then ?_
                  refine wc_seq ?_
                  refine wc_region ?_
                  refine wl_go rfl (wo_val rfl (rv_move rfl) rfl rfl ?_)
                  refine wl_go rfl (wo_val rfl (rv_load_own_row rfl) rfl rfl ?_)
                  refine wl_go rfl (wo_bs [_] rfl rfl rfl (⟨rfl, rfl, ⟨_, rfl, rfl⟩, trivial⟩) rfl rfl (fun b110 hb110 => ?_))
                  refine wl_go rfl (wo_append rfl rfl rfl rfl rfl [] ⟨[_, _], rfl⟩ ((hR.beside hb110).ids rfl) (by unfold maxLen; omega) rfl rfl rfl (fun v6 w6 hR6 hm6 ho6 => ?_))
                  refine wl_go rfl (wo_val rfl (rv_assign rfl) rfl rfl ?_)
                  refine wl_nil ?_
                  refine wq_then ?_
                  refine wc_region ?_
                  refine wl_go rfl (wo_val rfl (rv_move rfl) rfl rfl ?_)
                  refine wl_go rfl (wo_val rfl (rv_move rfl) rfl rfl ?_)
                  refine wl_go rfl (wo_call (R := fun _ v _ => v = _) rfl rfl (enters_of Tryd.func19 (by kernel_rfl) rfl) rfl rfl rfl (fun w hs => (rskip_calls s hsz (k + 1) (by omega) _).mono fun e w' h => ⟨_, h.1, rfl, h.2⟩) (fun w2z vz w3z hs2z hvz hb2z hm2z => ?_))
                  subst hvz
                  refine wl_go rfl (wo_val rfl (rv_assign rfl) rfl rfl ?_)
                  refine wl_nil ?_
                  refine wq_in_normal ?_
                  have hm : isM c = true := by unfold isM; rw [show (c == 59) = true from (beq_byte c 59).symm.trans hc70]; simp
                  have hsd := (skI_drop s (k + 1) (by omega)).2
                  refine wq_round ⟨_, _, ⟨skI s (k + 1), ws ++ [⟨3, [c], k⟩], v6, _, skI_le _ _, by rw [List.length_append, List.length_singleton]; omega, sofar_step hW hdr hlt (first_M _ hc28 hc39 e47 hm) (by omega) (by omega), rw_snoc (hR6.call hm2z rfl), rfl, rfl, rfl⟩, by omega, by repeat (first | exact sub_nil | refine sub_cons rfl ?_)⟩
                · skip
                  refine wc_seq ?_
                  refine wc_region ?_
                  refine wl_go rfl (wo_val rfl (rv_move rfl) rfl rfl ?_)
                  refine wl_go rfl (wo_val rfl (rv_assign rfl) rfl rfl ?_)
                  refine wl_go rfl (wo_val rfl (rv_assign rfl) rfl rfl ?_)
                  refine wl_go rfl (wo_val rfl (rv_assign rfl) rfl rfl ?_)
                  refine wl_nil ?_
                  refine wq_then ?_
                  refine wc_ret ?_
                  refine wq_in_ret ?_
                  refine wq_then_ret ?_
                  refine wq_in_ret ?_
                  refine wq_then_ret ?_
                  refine wq_in_ret ?_
                  refine wq_then_ret ?_
                  refine wq_ret3 rfl rfl (rr_tmp rfl) (rr_tmp rfl) (rr_tmp rfl) (fun w9 hs9 => ?_)
                  have hm : isM c = false := by
                    unfold isM
                    rw [show (c == 58) = false from (beq_byte c 58).symm.trans hg24_2, show (c == 124) = false from (beq_byte c 124).symm.trans hg24_6, show (c == 59) = false from (beq_byte c 59).symm.trans hc70]; rfl
                  rw [allOf_bad (by omega) (sofar_bad hW hdr hlt (by rw [first_0 _ hc28 hc39 e47 hm]))]
                  exact ⟨_, rfl, World.ownsRow_nil _ _ _ _, hs9.below rfl⟩
    · simp only [decide_eq_true_eq, decide_eq_false_iff_not, Bool.not_eq_true', Bool.not_eq_false', bne_iff_ne, beq_iff_eq, bne_eq_false_iff_eq, beq_eq_false_iff_ne, Int.not_lt, Int.not_le] at hc19
      refine wc_exit ?_
      refine wq_then_exit ?_
      refine wq_then_exit ?_
      refine wq_in_here ?_
      refine wq_then ?_
      refine wc_seq ?_
      refine wc_region ?_
      refine wl_go rfl (wo_val rfl (rv_move rfl) rfl rfl ?_)
      refine wl_go rfl (wo_val rfl (rv_assign rfl) rfl rfl ?_)
      refine wl_go rfl (wo_val rfl (rv_assign rfl) rfl rfl ?_)
      refine wl_go rfl (wo_val rfl (rv_assign rfl) rfl rfl ?_)
      refine wl_nil ?_
      refine wq_then ?_
      refine wc_ret ?_
      refine wq_ret3 rfl rfl (rr_tmp rfl) (rr_tmp rfl) (rr_tmp rfl) (fun w9 hs9 => ?_)
      rw [allOf_done (by omega) (sofar_end hW (by omega))]
      exact ⟨_, rfl, hR.at hs9, hs9.below rfl⟩
end Go.Proofs.YtlaolodnnjcgdaaDoor.Wd
