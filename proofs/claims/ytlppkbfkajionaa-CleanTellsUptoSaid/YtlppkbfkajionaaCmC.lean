/- The walks of grammars: right, Clone, known, By. -/
import Derived.Test.YtlppkbfkajionaaCmB
namespace Go.Proofs.Ytlppkbfkajionaa.Cm
open Go Go.RowKit Gw Go.Shelf
set_option linter.unusedSimpArgs false
set_option linter.unusedVariables false
set_option linter.unusedSectionVars false
theorem okE_eq (g : Gr) : (okE g == 0) = okB g := by
  unfold okE
  cases okB g <;> rfl
theorem cright_calls (x : GS) (g : Gr) (w : World) (hg : Gm w x g) : Calls Try.prog 95 #[.agg (gC x g).toArray] w fun e w' => e = .returned (.bool (okB g)) ∧ Below w.heap.size w w' := by
  rw [← okE_eq]
  refine calls_start Try.func95 rfl (N := 6) rfl rfl _ (St.start _) rfl ?_
  refine wc_seq ?_
  refine wc_region ?_
  refine wl_go rfl (wo_box rfl rfl rfl rfl rfl (fun b1 hb1 => ?_))
  refine wl_go rfl (wo_val rfl (rv_assign rfl) rfl rfl ?_)
  refine wl_nil ?_
  refine wq_then ?_
  refine wc_seq ?_
  refine wc_region ?_
  refine wl_go rfl (wo_val rfl (rv_load_own_row rfl) rfl rfl ?_)
  refine wl_go rfl (wo_call (R := fun _ v _ => v = _) rfl rfl (enters_of Try.func39 (by kernel_rfl) rfl) rfl rfl rfl (fun w4 hs4 => (check_calls x g w4 (hg.below (hs4.below rfl))).mono fun e w' h => ⟨_, h.1, rfl, h.2⟩) (fun w2 v w3 hs2 hv hb2 hm2 => ?_))
  subst hv
  refine wl_go rfl (wo_val rfl (rv_cmp_i rfl rfl rfl) rfl rfl ?_)
  refine wl_go rfl (wo_val rfl (rv_assign rfl) rfl rfl ?_)
  refine wl_nil ?_
  refine wq_then ?_
  refine wc_ret ?_
  refine wq_ret1 rfl rfl (rr_tmp rfl) (fun w9 hs9 => ?_)
  exact ⟨rfl, hs9.below rfl⟩
theorem sright_calls (x : GS) (g : Gr) (w : World) (hg : Gm w x g) : Calls Try.prog 146 #[.agg (gC x g).toArray] w fun e w' => e = .returned (.bool (okB g)) ∧ Below w.heap.size w w' := by
  rw [← okE_eq]
  refine calls_start Try.func146 rfl (N := 6) rfl rfl _ (St.start _) rfl ?_
  refine wc_seq ?_
  refine wc_region ?_
  refine wl_go rfl (wo_box rfl rfl rfl rfl rfl (fun b1 hb1 => ?_))
  refine wl_go rfl (wo_val rfl (rv_assign rfl) rfl rfl ?_)
  refine wl_nil ?_
  refine wq_then ?_
  refine wc_seq ?_
  refine wc_region ?_
  refine wl_go rfl (wo_val rfl (rv_load_own_row rfl) rfl rfl ?_)
  refine wl_go rfl (wo_call (R := fun _ v _ => v = _) rfl rfl (enters_of Try.func39 (by kernel_rfl) rfl) rfl rfl rfl (fun w4 hs4 => (check_calls x g w4 (hg.below (hs4.below rfl))).mono fun e w' h => ⟨_, h.1, rfl, h.2⟩) (fun w2 v w3 hs2 hv hb2 hm2 => ?_))
  subst hv
  refine wl_go rfl (wo_val rfl (rv_cmp_i rfl rfl rfl) rfl rfl ?_)
  refine wl_go rfl (wo_val rfl (rv_assign rfl) rfl rfl ?_)
  refine wl_nil ?_
  refine wq_then ?_
  refine wc_ret ?_
  refine wq_ret1 rfl rfl (rr_tmp rfl) (fun w9 hs9 => ?_)
  exact ⟨rfl, hs9.below rfl⟩
/-- a slice that a call has made: its elements, at blocks of its own -/
abbrev Made (w w' : World) (e : Nat) (v : Value) (cs : List Value) : Prop := w'.ownsRow w.heap.size e 1 v cs.length cs
theorem sclone_calls (p : Option Addr) (c : Nat) (xs : List Value) (w : World) (hrv : Rv w p c xs) (hone : ∀ u ∈ xs, u.oneCell' = true) (hlen : xs.length ≤ 1000000) : Calls Try.prog 96 #[.slice p xs.length c] w fun e w' => ∃ v, e = .returned v ∧ (Made w w' 9 v xs ∧ (p.isSome = true → v.ownBlock.isSome = true)) ∧ Below w.heap.size w w' := by
  refine calls_start Try.func96 rfl (N := 8) rfl rfl _ (St.start _) rfl ?_
  refine wc_seq ?_
  refine wc_region ?_
  refine wl_go rfl (wo_val rfl (rv_assign rfl) rfl rfl ?_)
  refine wl_nil ?_
  refine wq_then ?_
  refine wc_seq ?_
  refine wc_seq ?_
  refine wc_region ?_
  refine wl_go rfl (wo_val rfl (rv_move rfl) rfl rfl ?_)
  refine wl_go rfl (wo_val rfl (rv_slice_nil rfl rfl rfl) rfl rfl ?_)
  refine wl_nil ?_
  refine wq_then ?_
  refine wc_cond rfl (fun hc4 => ?_) (fun hc4 => ?_)
  · skip
    have hp : p = none := by simpa using hc4
    have hx0 : xs = [] := by
      cases hxs : xs with
      | nil => rfl
      | cons y r => obtain ⟨g, o, h, _⟩ := hrv.at_ 0 y (by rw [hxs]; rfl); rw [hp] at h; cases h
    refine wc_seq ?_
    refine wc_region ?_
    refine wl_go rfl (wo_val rfl (rv_assign rfl) rfl rfl ?_)
    refine wl_nil ?_
    refine wq_then ?_
    refine wc_ret ?_
    refine wq_then_ret ?_
    refine wq_ret1 rfl rfl (rr_tmp rfl) (fun w9 hs9 => ?_)
    subst hx0; subst hp
    exact ⟨_, rfl, ⟨World.ownsRow_nil _ _ _ _, by simp⟩, hs9.below rfl⟩
  · skip
    obtain ⟨a, rfl⟩ : ∃ a, p = some a := by cases p with
      | none => simp at hc4
      | some a => exact ⟨a, rfl⟩
    refine wc_skip ?_
    refine wq_then ?_
    refine wc_seq ?_
    refine wc_region ?_
    refine wl_go rfl (wo_bs [] rfl rfl rfl (trivial) rfl rfl (fun b5 hb5 => ?_))
    refine wl_go rfl (wo_val rfl (rv_move rfl) rfl rfl ?_)
    refine wl_name [] ⟨[_], rfl⟩ (fun w5 hs5 => ?_)
    have hR := rw_empty hs5 rfl hb5
    refine wl_go rfl (wo_append_from (A := a) (news := xs) rfl rfl (fun w4 hs4 j u hu => by obtain ⟨g, o, hp, hc⟩ := hrv.at_ j u hu; cases hp; rw [add_addr]; simpa using cell_below (hs4.below rfl) hc) (by simp) hone [] ⟨[], rfl⟩ hR (by unfold maxLen; omega) rfl rfl rfl (fun v6 w6 hR6 hm6 ho6 => ?_))
    refine wl_go rfl (wo_val rfl (rv_assign rfl) rfl rfl ?_)
    refine wl_nil ?_
    refine wq_then ?_
    refine wc_ret ?_
    refine wq_ret1 rfl rfl (rr_tmp rfl) (fun w9 hs9 => ?_)
    refine ⟨_, rfl, ⟨?_, fun _ => ?_⟩, hs9.below rfl⟩
    · have h := hR6.at hs9
      rw [Nat.zero_add, List.nil_append] at h
      exact h
    · rcases ho6 with h | ⟨g, h, _⟩
      · rw [h]; rfl
      · rw [h]; rfl
theorem iclone_calls (p : Option Addr) (c : Nat) (xs : List Value) (w : World) (hrv : Rv w p c xs) (hone : ∀ u ∈ xs, u.oneCell' = true) (hlen : xs.length ≤ 1000000) : Calls Try.prog 97 #[.slice p xs.length c] w fun e w' => ∃ v, e = .returned v ∧ (Made w w' 3 v xs ∧ (p.isSome = true → v.ownBlock.isSome = true)) ∧ Below w.heap.size w w' := by
  refine calls_start Try.func97 rfl (N := 8) rfl rfl _ (St.start _) rfl ?_
  refine wc_seq ?_
  refine wc_region ?_
  refine wl_go rfl (wo_val rfl (rv_assign rfl) rfl rfl ?_)
  refine wl_nil ?_
  refine wq_then ?_
  refine wc_seq ?_
  refine wc_seq ?_
  refine wc_region ?_
  refine wl_go rfl (wo_val rfl (rv_move rfl) rfl rfl ?_)
  refine wl_go rfl (wo_val rfl (rv_slice_nil rfl rfl rfl) rfl rfl ?_)
  refine wl_nil ?_
  refine wq_then ?_
  refine wc_cond rfl (fun hc4 => ?_) (fun hc4 => ?_)
  · skip
    have hp : p = none := by simpa using hc4
    have hx0 : xs = [] := by
      cases hxs : xs with
      | nil => rfl
      | cons y r => obtain ⟨g, o, h, _⟩ := hrv.at_ 0 y (by rw [hxs]; rfl); rw [hp] at h; cases h
    refine wc_seq ?_
    refine wc_region ?_
    refine wl_go rfl (wo_val rfl (rv_assign rfl) rfl rfl ?_)
    refine wl_nil ?_
    refine wq_then ?_
    refine wc_ret ?_
    refine wq_then_ret ?_
    refine wq_ret1 rfl rfl (rr_tmp rfl) (fun w9 hs9 => ?_)
    subst hx0; subst hp
    exact ⟨_, rfl, ⟨World.ownsRow_nil _ _ _ _, by simp⟩, hs9.below rfl⟩
  · skip
    obtain ⟨a, rfl⟩ : ∃ a, p = some a := by cases p with
      | none => simp at hc4
      | some a => exact ⟨a, rfl⟩
    refine wc_skip ?_
    refine wq_then ?_
    refine wc_seq ?_
    refine wc_region ?_
    refine wl_go rfl (wo_bs [] rfl rfl rfl (trivial) rfl rfl (fun b5 hb5 => ?_))
    refine wl_go rfl (wo_val rfl (rv_move rfl) rfl rfl ?_)
    refine wl_name [] ⟨[_], rfl⟩ (fun w5 hs5 => ?_)
    have hR := rw_empty hs5 rfl hb5
    refine wl_go rfl (wo_append_from (A := a) (news := xs) rfl rfl (fun w4 hs4 j u hu => by obtain ⟨g, o, hp, hc⟩ := hrv.at_ j u hu; cases hp; rw [add_addr]; simpa using cell_below (hs4.below rfl) hc) (by simp) hone [] ⟨[], rfl⟩ hR (by unfold maxLen; omega) rfl rfl rfl (fun v6 w6 hR6 hm6 ho6 => ?_))
    refine wl_go rfl (wo_val rfl (rv_assign rfl) rfl rfl ?_)
    refine wl_nil ?_
    refine wq_then ?_
    refine wc_ret ?_
    refine wq_ret1 rfl rfl (rr_tmp rfl) (fun w9 hs9 => ?_)
    refine ⟨_, rfl, ⟨?_, fun _ => ?_⟩, hs9.below rfl⟩
    · have h := hR6.at hs9
      rw [Nat.zero_add, List.nil_append] at h
      exact h
    · rcases ho6 with h | ⟨g, h, _⟩
      · rw [h]; rfl
      · rw [h]; rfl
theorem rclone_calls (p : Option Addr) (c : Nat) (xs : List Value) (w : World) (hrv : Rv w p c xs) (hone : ∀ u ∈ xs, u.oneCell' = true) (hlen : xs.length ≤ 1000000) : Calls Try.prog 103 #[.slice p xs.length c] w fun e w' => ∃ v, e = .returned v ∧ (Made w w' 50 v xs ∧ (p.isSome = true → v.ownBlock.isSome = true)) ∧ Below w.heap.size w w' := by
  refine calls_start Try.func103 rfl (N := 8) rfl rfl _ (St.start _) rfl ?_
  refine wc_seq ?_
  refine wc_region ?_
  refine wl_go rfl (wo_val rfl (rv_assign rfl) rfl rfl ?_)
  refine wl_nil ?_
  refine wq_then ?_
  refine wc_seq ?_
  refine wc_seq ?_
  refine wc_region ?_
  refine wl_go rfl (wo_val rfl (rv_move rfl) rfl rfl ?_)
  refine wl_go rfl (wo_val rfl (rv_slice_nil rfl rfl rfl) rfl rfl ?_)
  refine wl_nil ?_
  refine wq_then ?_
  refine wc_cond rfl (fun hc4 => ?_) (fun hc4 => ?_)
  · skip
    have hp : p = none := by simpa using hc4
    have hx0 : xs = [] := by
      cases hxs : xs with
      | nil => rfl
      | cons y r => obtain ⟨g, o, h, _⟩ := hrv.at_ 0 y (by rw [hxs]; rfl); rw [hp] at h; cases h
    refine wc_seq ?_
    refine wc_region ?_
    refine wl_go rfl (wo_val rfl (rv_assign rfl) rfl rfl ?_)
    refine wl_nil ?_
    refine wq_then ?_
    refine wc_ret ?_
    refine wq_then_ret ?_
    refine wq_ret1 rfl rfl (rr_tmp rfl) (fun w9 hs9 => ?_)
    subst hx0; subst hp
    exact ⟨_, rfl, ⟨World.ownsRow_nil _ _ _ _, by simp⟩, hs9.below rfl⟩
  · skip
    obtain ⟨a, rfl⟩ : ∃ a, p = some a := by cases p with
      | none => simp at hc4
      | some a => exact ⟨a, rfl⟩
    refine wc_skip ?_
    refine wq_then ?_
    refine wc_seq ?_
    refine wc_region ?_
    refine wl_go rfl (wo_bs [] rfl rfl rfl (trivial) rfl rfl (fun b5 hb5 => ?_))
    refine wl_go rfl (wo_val rfl (rv_move rfl) rfl rfl ?_)
    refine wl_name [] ⟨[_], rfl⟩ (fun w5 hs5 => ?_)
    have hR := rw_empty hs5 rfl hb5
    refine wl_go rfl (wo_append_from (A := a) (news := xs) rfl rfl (fun w4 hs4 j u hu => by obtain ⟨g, o, hp, hc⟩ := hrv.at_ j u hu; cases hp; rw [add_addr]; simpa using cell_below (hs4.below rfl) hc) (by simp) hone [] ⟨[], rfl⟩ hR (by unfold maxLen; omega) rfl rfl rfl (fun v6 w6 hR6 hm6 ho6 => ?_))
    refine wl_go rfl (wo_val rfl (rv_assign rfl) rfl rfl ?_)
    refine wl_nil ?_
    refine wq_then ?_
    refine wc_ret ?_
    refine wq_ret1 rfl rfl (rr_tmp rfl) (fun w9 hs9 => ?_)
    refine ⟨_, rfl, ⟨?_, fun _ => ?_⟩, hs9.below rfl⟩
    · have h := hR6.at hs9
      rw [Nat.zero_add, List.nil_append] at h
      exact h
    · rcases ho6 with h | ⟨g, h, _⟩
      · rw [h]; rfl
      · rw [h]; rfl
theorem sclone_callsN (p : Option Addr) (c n : Nat) (xs : List Value) (hn : xs.length = n) (w : World) (hrv : Rv w p c xs) (hone : ∀ u ∈ xs, u.oneCell' = true) (hlen : n ≤ 1000000) : Calls Try.prog 96 #[.slice p n c] w fun e w' => ∃ v, e = .returned v ∧ w'.ownsRow w.heap.size 9 1 v n xs ∧ Below w.heap.size w w' := by
  subst hn
  exact (sclone_calls p c xs w hrv hone hlen).mono fun e w' h => let ⟨v, h1, h2, h3⟩ := h; ⟨v, h1, h2.1, h3⟩
theorem iclone_callsN (p : Option Addr) (c n : Nat) (xs : List Value) (hn : xs.length = n) (w : World) (hrv : Rv w p c xs) (hone : ∀ u ∈ xs, u.oneCell' = true) (hlen : n ≤ 1000000) : Calls Try.prog 97 #[.slice p n c] w fun e w' => ∃ v, e = .returned v ∧ w'.ownsRow w.heap.size 3 1 v n xs ∧ Below w.heap.size w w' := by
  subst hn
  exact (iclone_calls p c xs w hrv hone hlen).mono fun e w' h => let ⟨v, h1, h2, h3⟩ := h; ⟨v, h1, h2.1, h3⟩
theorem rclone_callsN (p : Option Addr) (c n : Nat) (xs : List Value) (hn : xs.length = n) (w : World) (hrv : Rv w p c xs) (hone : ∀ u ∈ xs, u.oneCell' = true) (hlen : n ≤ 1000000) : Calls Try.prog 103 #[.slice p n c] w fun e w' => ∃ v, e = .returned v ∧ w'.ownsRow w.heap.size 50 1 v n xs ∧ Below w.heap.size w w' := by
  subst hn
  exact (rclone_calls p c xs w hrv hone hlen).mono fun e w' h => let ⟨v, h1, h2, h3⟩ := h; ⟨v, h1, h2.1, h3⟩
/-- by what a rule is known -/
def keyL (r : List Int) : List Int := (r.length : Int) :: (r ++ List.replicate (9 - r.length) 0)
theorem keyL_len {r : List Int} (h : r.length ≤ 9) : (keyL r).length = 10 := by simp [keyL]; omega
theorem keyL_inj {r s : List Int} (h : keyL r = keyL s) : r = s := by
  unfold keyL at h
  simp only [List.cons.injEq] at h
  have hl : r.length = s.length := by omega
  have := congrArg (List.take r.length) h.2
  rw [List.take_left, hl, List.take_left] at this
  exact this
theorem ints_one (r : List Int) : ∀ u ∈ r.map iv, u.oneCell' = true := fun u hu => by
  obtain ⟨x, _, rfl⟩ := List.mem_map.1 hu
  rfl
theorem strs_one (r : List Bs) : ∀ u ∈ r.map sv, u.oneCell' = true := fun u hu => by
  obtain ⟨x, _, rfl⟩ := List.mem_map.1 hu
  rfl
theorem copied (r : List Int) (h : r.length ≤ 9) : (keyL r).map iv = ([iv (r.length : Int), iv 0, iv 0, iv 0, iv 0, iv 0, iv 0, iv 0, iv 0, iv 0] : List Value).take (0 + 1 * 1) ++ r.map iv ++ ([iv (r.length : Int), iv 0, iv 0, iv 0, iv 0, iv 0, iv 0, iv 0, iv 0, iv 0] : List Value).drop (0 + 1 * 1 + (r.map iv).length) := by
  have e : ([iv (r.length : Int), iv 0, iv 0, iv 0, iv 0, iv 0, iv 0, iv 0, iv 0, iv 0] : List Value) = iv (r.length : Int) :: List.replicate 9 (iv 0) := rfl
  rw [e]
  unfold keyL
  rw [show 0 + 1 * 1 + (r.map iv).length = r.length + 1 by simp; omega, show 0 + 1 * 1 = 1 from rfl]
  simp only [List.map_cons, List.map_append, List.map_replicate, List.take_succ_cons, List.take_zero, List.drop_succ_cons, List.drop_replicate, List.cons_append, List.nil_append]
theorem known_calls (q : Option Addr) (d : Nat) (r : List Int) (w : World) (hrv : Rv w q d (r.map iv)) (h1 : 1 ≤ r.length) (h9 : r.length ≤ 9) : Calls Try.prog 98 #[.slice q r.length d] w fun e w' => e = .returned (.agg ((keyL r).map iv).toArray) ∧ Below w.heap.size w w' := by
  have hcap := hrv.cap
  obtain ⟨y, hy⟩ := getE h1
  obtain ⟨g0, o0, rfl, _⟩ := hrv.read (map_get hy)
  refine calls_start Try.func98 rfl (N := 11) rfl rfl _ (St.start _) rfl ?_
  refine wc_seq ?_
  refine wc_region ?_
  refine wl_go rfl (wo_alloc rfl rfl rfl (fun b2 hb2 => ?_))
  refine wl_nil ?_
  refine wq_then ?_
  refine wc_seq ?_
  refine wc_region ?_
  refine wl_go rfl (wo_val rfl (rv_move rfl) rfl rfl ?_)
  refine wl_go rfl (wo_val rfl (rv_len rfl) rfl rfl ?_)
  refine wl_go rfl (wo_val rfl (rv_build_arr (k0 := 10) (cs := [iv (r.length : Int), iv 0, iv 0, iv 0, iv 0, iv 0, iv 0, iv 0, iv 0, iv 0]) [(0, _)] rfl ⟨rfl, by decide, rfl, rfl, trivial⟩ rfl) rfl rfl ?_)
  refine wl_go rfl (wo_alloc rfl rfl rfl (fun b3 hb3 => ?_))
  refine wl_go rfl (wo_st rfl rfl rfl rfl rfl rfl rfl ?_)
  refine wl_nil ?_
  refine wq_then ?_
  refine wc_seq ?_
  refine wc_region ?_
  refine wl_go rfl (wo_val rfl (rv_slice_arr (lv := 1) rfl ⟨.i64, 1, rfl, by omega, rfl⟩ bnd_none (by omega) (by omega)) rfl rfl ?_)
  refine wl_go rfl (wo_val rfl (rv_move rfl) rfl rfl ?_)
  refine wl_go rfl (wo_copy (xs := r.map iv) (cs' := (keyL r).map iv) rfl rfl (fun w4 hs4 j u hu => by obtain ⟨g, o, hp, hc⟩ := hrv.at_ j u hu; cases hp; rw [add_addr]; simpa using cell_below (hs4.below rfl) hc) (by rw [List.length_map, Nat.min_def]; split <;> omega) (ints_one r) (by simp; omega) (copied r h9) rfl rfl rfl ?_)
  refine wl_nil ?_
  refine wq_then ?_
  refine wc_seq ?_
  refine wc_region ?_
  refine wl_go rfl (wo_val rfl (rv_load_all (xs := (keyL r).map iv) rfl (by rw [List.length_map, keyL_len h9])) rfl rfl ?_)
  refine wl_go rfl (wo_store_all (xs := (keyL r).map iv) rfl rfl rfl rfl rfl (by rw [List.length_map, keyL_len h9]) (ints_one _) (by rw [List.length_map, keyL_len h9]; rfl) ?_)
  refine wl_nil ?_
  refine wq_then ?_
  refine wc_ret ?_
  refine wq_ret1 rfl rfl (rr_all (xs := (keyL r).map iv) rfl (by rw [List.length_map, keyL_len h9])) (fun w9 hs9 => ?_)
  exact ⟨rfl, hs9.below rfl⟩
end Go.Proofs.Ytlppkbfkajionaa.Cm
