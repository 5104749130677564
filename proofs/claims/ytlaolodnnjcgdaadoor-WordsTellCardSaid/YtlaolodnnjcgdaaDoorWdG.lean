/- The walks of words: Line, IsName. -/
import Derived.Test.YtlaolodnnjcgdaaDoorWdF
namespace Go.Proofs.YtlaolodnnjcgdaaDoor.Wd
open Go Go.RowKit Gw Go.Shelf
/-- the line of a place: how many bytes count -/
def cutAt (s : Bs) (i : Int) : Nat := (min (max i 0) s.length).toNat
/-- behind the last line feed -/
def lastNl (s : Bs) : Int := Lib.lastIndexByte (toB s) 10
theorem Line_calls (s : Bs) (i : Int) (hsz : s.length ≤ 4611686018427387000) (w : World) : Calls Tryd.prog 12 #[.string (toB s), .int .i64 i] w fun e w' => e = .returned (.tuple #[.int .i64 (1 + ((s.take (cutAt s i)).count 10 : Int)), .int .i64 (((s.take (cutAt s i)).length : Int) - lastNl (s.take (cutAt s i)))]) ∧ Below w.heap.size w w' := by
  refine calls_start Tryd.func12 rfl (N := 21) rfl rfl _ (St.start _) rfl ?_
  refine wc_seq ?_
  refine wc_region ?_
  refine wl_go rfl (wo_val rfl (rv_assign rfl) rfl rfl ?_)
  refine wl_go rfl (wo_val rfl (rv_assign rfl) rfl rfl ?_)
  refine wl_nil ?_
  refine wq_then ?_
  refine wc_seq ?_
  refine wc_region ?_
  refine wl_go rfl (wo_val rfl (rv_move rfl) rfl rfl ?_)
  refine wl_go rfl (wo_val rfl (rv_move rfl) rfl rfl ?_)
  refine wl_go rfl (wo_val rfl (rv_minmax rfl rfl (q := max i 0) (by show some _ = _; congr 1; omega)) rfl rfl ?_)
  refine wl_go rfl (wo_val rfl (rv_move rfl) rfl rfl ?_)
  refine wl_go rfl (wo_val rfl (rb_len rfl) rfl rfl ?_)
  refine wl_go rfl (wo_val rfl (rv_minmax rfl rfl (q := min (max i 0) s.length) (by show some _ = _; congr 1; omega)) rfl rfl ?_)
  refine wl_go rfl (wo_val rfl (rb_slice_to rfl rfl (by omega)) rfl rfl ?_)
  change WL _ _ _ _ _ _ _ ((12, .string (toB (s.take (cutAt s i)))) :: _) _
  have hsl : (s.take (cutAt s i)).length ≤ s.length := by rw [List.length_take]; omega
  generalize s.take (cutAt s i) = u at hsl ⊢
  refine wl_go rfl (wo_val rfl (rv_assign rfl) rfl rfl ?_)
  refine wl_nil ?_
  refine wq_then ?_
  refine wc_seq ?_
  refine wc_region ?_
  refine wl_go rfl (wo_val rfl (rv_move rfl) rfl rfl ?_)
  refine wl_go rfl (wo_call (R := fun _ v _ => v = _) rfl rfl (enters_of Tryd.func24 (by kernel_rfl) rfl) rfl rfl rfl (fun w hs => (Tryd.strings_Count_one _ _ _).mono fun e w' h => ⟨_, h.1, rfl, h.2 ▸ Below.refl _ _⟩) (fun w2a va w3a hs2a hva hb2a hm2a => ?_))
  subst hva
  rw [show (Lib.countByte (toB u).data.toList 10 : Int) = (u.count 10 : Int) from rfl]
  have hcl : u.count 10 ≤ u.length := List.count_le_length
  refine wl_go rfl (wo_val rfl (rv_add rfl rfl (by omega)) rfl rfl ?_)
  refine wl_go rfl (wo_val rfl (rv_move rfl) rfl rfl ?_)
  refine wl_go rfl (wo_val rfl (rb_len rfl) rfl rfl ?_)
  refine wl_go rfl (wo_val rfl (rv_move rfl) rfl rfl ?_)
  refine wl_go rfl (wo_call (R := fun _ v _ => v = _) rfl rfl (enters_of Tryd.func25 (by kernel_rfl) rfl) rfl rfl rfl (fun w hs => (Tryd.strings_LastIndexByte _ _ (by rw [toB_size]; omega) _).mono fun e w' h => ⟨_, h.1, rfl, h.2 ▸ Below.refl _ _⟩) (fun w2b vb w3b hs2b hvb hb2b hm2b => ?_))
  subst hvb
  have hli := Lib.lastIdx_spec (toB u) 10 (toB u).size
  rw [show Lib.lastIndexByte (toB u) 10 = lastNl u from rfl]
  have hl2 : -1 ≤ lastNl u ∧ lastNl u ≤ u.length := by
    unfold lastNl Lib.lastIndexByte
    rw [toB_size] at hli ⊢
    rcases hli with ⟨h, _⟩ | ⟨j, h1, h2, _⟩ <;> omega
  refine wl_go rfl (wo_val rfl (rv_sub rfl rfl (by omega)) rfl rfl ?_)
  refine wl_go rfl (wo_val rfl (rv_assign rfl) rfl rfl ?_)
  refine wl_go rfl (wo_val rfl (rv_assign rfl) rfl rfl ?_)
  refine wl_nil ?_
  refine wq_then ?_
  refine wc_ret ?_
  refine wq_ret2 rfl rfl (rr_tmp rfl) (rr_tmp rfl) (fun w9 hs9 => ?_)
  exact ⟨rfl, hs9.below rfl⟩
/-- is a text a name? -/
def nmB (s : Bs) : Bool := match s with
  | [] => false
  | c :: r => isL c && (first (c :: r)).2.2 == (c :: r).length
theorem IsName_calls (s : Bs) (hsz : s.length ≤ 4611686018427387000) (w : World) : Calls Tryd.prog 14 #[.string (toB s)] w fun e w' => e = .returned (.bool (nmB s)) ∧ Below w.heap.size w w' := by
  refine calls_start Tryd.func14 rfl (N := 27) rfl rfl _ (St.start _) rfl ?_
  refine wc_seq ?_
  refine wc_region ?_
  refine wl_go rfl (wo_val rfl (rv_assign rfl) rfl rfl ?_)
  refine wl_nil ?_
  refine wq_then ?_
  refine wc_seq ?_
  refine wc_seq ?_
  refine wc_region ?_
  refine wl_go rfl (wo_val rfl (rv_move rfl) rfl rfl ?_)
  refine wl_go rfl (wo_val rfl (rb_eql (t := []) rfl rfl) rfl rfl ?_)
  refine wl_go rfl (wo_val rfl (rv_move rfl) rfl rfl ?_)
  refine wl_split (d := 7) rfl true (fun hg1_2 => ?_) (fun hg1_2 => ?_)
  · skip
    obtain rfl : s = [] := by simpa using hg1_2
    refine wl_skip rfl rfl rfl rfl rfl hg1_2 rfl ?_
    refine wl_skip rfl rfl rfl rfl rfl hg1_2 rfl ?_
    refine wl_skip rfl rfl rfl rfl rfl hg1_2 rfl ?_
    refine wl_skip rfl rfl rfl rfl rfl hg1_2 rfl ?_
    refine wl_go rfl (wo_val rfl (rv_pick_t rfl hg1_2 rfl) rfl rfl ?_)
    refine wl_nil ?_
    refine wq_then ?_
    refine wc_cond_t rfl rfl ?_
    refine wc_seq ?_
    refine wc_region ?_
    refine wl_go rfl (wo_val rfl (rv_assign rfl) rfl rfl ?_)
    refine wl_nil ?_
    refine wq_then ?_
    refine wc_ret ?_
    refine wq_then_ret ?_
    refine wq_ret1 rfl rfl (rr_tmp rfl) (fun w9 hs9 => ?_)
    exact ⟨rfl, hs9.below rfl⟩
  · skip
    obtain ⟨c, r, rfl⟩ : ∃ c r, s = c :: r := by
      cases s with
      | nil => cases hg1_2
      | cons c r => exact ⟨c, r, rfl⟩
    refine wl_want rfl rfl rfl rfl rfl hg1_2 (wo_val rfl (rv_move rfl) rfl rfl ?_)
    refine wl_want rfl rfl rfl rfl rfl hg1_2 (wo_val rfl (rb_index rfl rfl (by omega) (b := c) rfl) rfl rfl ?_)
    refine wl_want rfl rfl rfl rfl rfl hg1_2 (wo_call (R := fun _ v _ => v = _) rfl rfl (enters_of Tryd.func26 (by kernel_rfl) rfl) rfl rfl rfl (fun w hs => (wletter_calls c _).mono fun e w' h => ⟨_, h.1, rfl, h.2⟩) (fun w2a va w3a hs2a hva hb2a hm2a => ?_))
    subst hva
    refine wl_want rfl rfl rfl rfl rfl hg1_2 (wo_val rfl (rv_not rfl) rfl rfl ?_)
    refine wl_go rfl (wo_val rfl (rv_pick_f rfl hg1_2 rfl) rfl rfl ?_)
    refine wl_nil ?_
    refine wq_then ?_
    refine wc_cond rfl (fun hc12 => ?_) (fun hc12 => ?_)
    · skip
      have hl : isL c = false := by simpa using hc12
      refine wc_seq ?_
      refine wc_region ?_
      refine wl_go rfl (wo_val rfl (rv_assign rfl) rfl rfl ?_)
      refine wl_nil ?_
      refine wq_then ?_
      refine wc_ret ?_
      refine wq_then_ret ?_
      refine wq_ret1 rfl rfl (rr_tmp rfl) (fun w9 hs9 => ?_)
      refine ⟨?_, hs9.below rfl⟩
      rw [nmB, hl]; rfl
    · skip
      have hl : isL c = true := by simpa using hc12
      refine wc_skip ?_
      refine wq_then ?_
      refine wc_seq ?_
      refine wc_region ?_
      refine wl_go rfl (wo_val rfl (rv_move rfl) rfl rfl ?_)
      refine wl_go rfl (wo_call (R := fun _ v _ => v = _) rfl rfl (enters_of Tryd.func27 (by kernel_rfl) rfl) rfl rfl rfl (fun w hs => (first_calls c r (by rw [List.length_cons] at hsz; omega) _).mono fun e w' h => ⟨_, h.1, rfl, h.2⟩) (fun w2b vb w3b hs2b hvb hb2b hm2b => ?_))
      subst hvb
      refine wl_go rfl (wo_val rfl (rv_move rfl) rfl rfl ?_)
      refine wl_go rfl (wo_val rfl (rv_extract rfl rfl) rfl rfl ?_)
      refine wl_go rfl (wo_val rfl (rv_extract rfl rfl) rfl rfl ?_)
      refine wl_go rfl (wo_alloc rfl rfl rfl (fun b3 hb3 => ?_))
      refine wl_go rfl (wo_st rfl rfl rfl rfl rfl rfl rfl ?_)
      refine wl_go rfl (wo_val rfl (rv_assign rfl) rfl rfl ?_)
      refine wl_nil ?_
      refine wq_then ?_
      refine wc_seq ?_
      refine wc_region ?_
      refine wl_go rfl (wo_val rfl (rv_move rfl) rfl rfl ?_)
      refine wl_go rfl (wo_val rfl (rv_move rfl) rfl rfl ?_)
      refine wl_go rfl (wo_val rfl (rb_len rfl) rfl rfl ?_)
      refine wl_go rfl (wo_val rfl (rv_cmp_i rfl rfl rfl) rfl rfl ?_)
      refine wl_go rfl (wo_val rfl (rv_move rfl) rfl rfl ?_)
      refine wl_split (d := 22) rfl true (fun hg4_4 => ?_) (fun hg4_4 => ?_)
      · skip
        have h4 : ((first (c :: r)).2.2 : Int) = ((c :: r).length : Int) := by simpa using hg4_4
        refine wl_want rfl rfl rfl rfl rfl hg4_4 (wo_val rfl (rv_fieldAddr0 rfl) rfl rfl ?_)
        refine wl_want rfl rfl rfl rfl rfl hg4_4 (wo_val rfl (rv_load_own rfl rfl) rfl rfl ?_)
        refine wl_want rfl rfl rfl rfl rfl hg4_4 (wo_val rfl (rv_cmp_i rfl rfl rfl) rfl rfl ?_)
        refine wl_go rfl (wo_val rfl (rv_pick_t rfl hg4_4 rfl) rfl rfl ?_)
        refine wl_go rfl (wo_val rfl (rv_assign rfl) rfl rfl ?_)
        refine wl_nil ?_
        refine wq_then ?_
        refine wc_ret ?_
        refine wq_ret1 rfl rfl (rr_tmp rfl) (fun w9 hs9 => ?_)
        refine ⟨?_, hs9.below rfl⟩
        have h5 : ((first (c :: r)).2.2 == (c :: r).length) = true := beq_iff_eq.2 (by omega)
        rw [nmB, hl, h5, first_L r hl]; rfl
      · skip
        have h4 : ¬ ((first (c :: r)).2.2 : Int) = ((c :: r).length : Int) := by simpa using hg4_4
        refine wl_skip rfl rfl rfl rfl rfl hg4_4 rfl ?_
        refine wl_skip rfl rfl rfl rfl rfl hg4_4 rfl ?_
        refine wl_skip rfl rfl rfl rfl rfl hg4_4 rfl ?_
        refine wl_go rfl (wo_val rfl (rv_pick_f rfl hg4_4 rfl) rfl rfl ?_)
        refine wl_go rfl (wo_val rfl (rv_assign rfl) rfl rfl ?_)
        refine wl_nil ?_
        refine wq_then ?_
        refine wc_ret ?_
        refine wq_ret1 rfl rfl (rr_tmp rfl) (fun w9 hs9 => ?_)
        refine ⟨?_, hs9.below rfl⟩
        have h5 : ((first (c :: r)).2.2 == (c :: r).length) = false := beq_eq_false_iff_ne.2 (fun e => h4 (by rw [e]))
        rw [nmB, hl, h5]; rfl
end Go.Proofs.YtlaolodnnjcgdaaDoor.Wd
