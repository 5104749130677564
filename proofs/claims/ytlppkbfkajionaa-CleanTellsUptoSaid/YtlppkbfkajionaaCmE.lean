/- The walks of grammars: Once. -/
import Derived.Test.YtlppkbfkajionaaCmD
namespace Go.Proofs.Ytlppkbfkajionaa.Cm
open Go Go.RowKit Gw Go.Shelf
set_option linter.unusedSimpArgs false
set_option linter.unusedVariables false
set_option linter.unusedSectionVars false
/-- rules without what is there already; which one each is -/
def onceS (st : List (List Int) × List Int) (r : List Int) : List (List Int) × List Int :=
  let acc := if st.1.contains r then st.1 else st.1 ++ [r]
  (acc, st.2 ++ [(acc.idxOf r : Int)])
def onceF (rs : List (List Int)) : List (List Int) × List Int := rs.foldl onceS ([], [])
theorem onceF_snoc (rs : List (List Int)) (r : List Int) : onceF (rs ++ [r]) = onceS (onceF rs) r := by
  unfold onceF
  rw [List.foldl_append]; rfl
theorem onceF_len0 (rs : List (List Int)) : ∀ st : List (List Int) × List Int, (rs.foldl onceS st).2.length = st.2.length + rs.length ∧ (rs.foldl onceS st).1.length ≤ st.1.length + rs.length := by
  induction rs with
  | nil => intro st; simp
  | cons r rs ih =>
    intro st
    obtain ⟨h1, h2⟩ := ih (onceS st r)
    rw [List.foldl_cons, h1]
    refine ⟨by unfold onceS; simp; omega, Nat.le_trans h2 ?_⟩
    have : (onceS st r).1.length ≤ st.1.length + 1 := by
      unfold onceS
      simp only
      split <;> simp
    rw [List.length_cons]; omega
theorem onceF_len (rs : List (List Int)) : (onceF rs).2.length = rs.length ∧ (onceF rs).1.length ≤ rs.length := by
  have := onceF_len0 rs ([], [])
  unfold onceF
  simpa using this
def zeroG : Gr := ⟨[], 0, [], [], 0⟩
def zeroX : GS := ⟨none, 0, none, 0, none, 0⟩
theorem zero_gm (w : World) : Gm w zeroX zeroG := ⟨Rv.nil w, Rv.nil w, ⟨by decide, fun i r h => by simp [zeroG] at h⟩⟩
def onceG (g : Gr) : Gr := if okB g then { g with rules := (onceF g.rules).1 } else zeroG
def onceL (g : Gr) : List Int := if okB g then (onceF g.rules).2 else []
def rowsL (vs : List Value) (rs : List (List Int)) : List RowOf := (vs.zip rs).map fun x => (3, x.1, x.2.map iv)
theorem rowsL_snoc {vs : List Value} {rs : List (List Int)} (h : vs.length = rs.length) (v : Value) (r : List Int) : rowsL (vs ++ [v]) (rs ++ [r]) = rowsL vs rs ++ [(3, v, r.map iv)] := by
  unfold rowsL
  rw [List.zip_append h, List.map_append]; rfl
theorem rv_slice_of {w : World} {base e n m c : Nat} {p : Option Addr} {cs : List Value} (h : w.ownsRow base e 1 (.slice p n c) m cs) : Rv w p c cs := by
  obtain ⟨_, _, h1, hr⟩ := rv_ofn h
  cases h1; exact hr
theorem rr_rows {S : Sx} {w : World} {p : Option Addr} {c : Nat} {vs : List Value} {rs : List (List Int)} (h : Rv w p c vs) (hl : vs.length = rs.length) (hr : ∀ y ∈ rowsL vs rs, Rw S y.1 1 y.2.1 y.2.2.length y.2.2) (hs : St S w) : Rr w p c rs :=
  ⟨by have := h.cap; omega, fun i r hi => by
    obtain ⟨v, hv⟩ := getE (l := vs) (i := i) (by rw [hl]; exact (List.getElem?_eq_some_iff.1 hi).1)
    have hm : ((3, v, r.map iv) : RowOf) ∈ rowsL vs rs := by
      refine List.mem_iff_getElem?.2 ⟨i, ?_⟩
      unfold rowsL
      rw [List.getElem?_map, show (vs.zip rs)[i]? = some (v, r) from List.getElem?_zip_eq_some.2 ⟨hv, hi⟩]; rfl
    have h3 : w.ownsRow S.W.heap.size 3 1 v (r.map iv).length (r.map iv) := (hr _ hm).at hs
    rw [List.length_map] at h3
    obtain ⟨q, d, rfl, hq⟩ := rv_ofn h3
    obtain ⟨g, o, hp, hc⟩ := h.at_ i _ hv
    exact ⟨g, o, q, d, hp, hc, hq⟩⟩
/-- what the map tells, once some rules are there -/
def Tells (D : List (List Int × Int)) (acc : List (List Int)) : Prop := ∀ r, mget D r = if acc.contains r then some (acc.idxOf r : Int) else none
theorem tells_nil : Tells [] [] := fun r => by simp [mget]
theorem tells_new {D : List (List Int × Int)} {acc : List (List Int)} {r : List Int} (h : Tells D acc) (hn : (mget D r).isSome = false) : acc.contains r = false ∧ Tells (mset D r (acc.length : Int)) (acc ++ [r]) := by
  have hc : acc.contains r = false := by
    rw [h r] at hn
    cases hb : acc.contains r with
    | false => rfl
    | true => rw [hb] at hn; simp at hn
  refine ⟨hc, fun s => ?_⟩
  rw [mget_mset]
  have hnm : r ∉ acc := by simpa using hc
  by_cases hs : r = s
  · subst hs
    rw [if_pos rfl, if_pos (by simp)]
    rw [List.idxOf_append, if_neg hnm]
    simp
  · rw [if_neg hs, h s]
    by_cases hm : s ∈ acc
    · rw [if_pos (by simpa using hm), if_pos (by simp [hm]), List.idxOf_append, if_pos hm]
    · rw [if_neg (by simpa using hm), if_neg (by simp [hm, Ne.symm hs])]
theorem tells_old {D : List (List Int × Int)} {acc : List (List Int)} {r : List Int} (h : Tells D acc) (hn : (mget D r).isSome = true) : acc.contains r = true := by
  rw [h r] at hn
  cases hb : acc.contains r with
  | true => rfl
  | false => rw [hb] at hn; simp at hn
theorem tells_at {D : List (List Int × Int)} {acc : List (List Int)} {r : List Int} (h : Tells D acc) (hc : acc.contains r = true) : (mget D r).getD 0 = (acc.idxOf r : Int) := by
  rw [h r, if_pos hc]; rfl
theorem mset_len {κ ν : Type} [DecidableEq κ] (D : List (κ × ν)) (x : κ) (u : ν) : (mset D x u).length ≤ D.length + 1 := by
  induction D with
  | nil => simp [mset]
  | cons y r ih =>
    obtain ⟨k, v⟩ := y
    unfold mset
    split
    · simp
    · simp; omega
set_option maxHeartbeats 2000000 in
theorem once_calls (x : GS) (g : Gr) (w : World) (hg : Gm w x g) : Calls Try.prog 36 #[.agg (gC x g).toArray] w fun e w' => ∃ x1 v, e = .returned (.tuple #[.agg (gC x1 (onceG g)).toArray, v]) ∧ Gm w' x1 (onceG g) ∧ w'.ownsRow w.heap.size 3 1 v (onceL g).length ((onceL g).map iv) ∧ Below w.heap.size w w' := by
  refine calls_start Try.func36 rfl (N := 66) rfl rfl _ (St.start _) rfl ?_
  refine wc_seq ?_
  refine wc_region ?_
  refine wl_go rfl (wo_box rfl rfl rfl rfl rfl (fun b1 hb1 => ?_))
  refine wl_go rfl (wo_alloc rfl rfl rfl (fun b2 hb2 => ?_))
  refine wl_go rfl (wo_val rfl (rv_assign rfl) rfl rfl ?_)
  refine wl_nil ?_
  refine wq_then ?_
  refine wc_seq ?_
  refine wc_seq ?_
  refine wc_region ?_
  refine wl_go rfl (wo_val rfl (rv_load_own_row rfl) rfl rfl ?_)
  refine wl_go rfl (wo_call (R := fun _ v _ => v = _) rfl rfl (enters_of Try.func95 (by kernel_rfl) rfl) rfl rfl rfl (fun w4 hs4 => (cright_calls x g w4 (hg.below (hs4.below rfl))).mono fun e w' h => ⟨_, h.1, rfl, h.2⟩) (fun w2 v w3 hs2 hv hb2 hm2 => ?_))
  subst hv
  refine wl_go rfl (wo_val rfl (rv_not rfl) rfl rfl ?_)
  refine wl_nil ?_
  refine wq_then ?_
  refine wc_cond rfl (fun hc14 => ?_) (fun hc14 => ?_)
  · simp only [decide_eq_true_eq, decide_eq_false_iff_not, Bool.not_eq_true', Bool.not_eq_false', bne_iff_ne, beq_iff_eq, bne_eq_false_iff_eq, beq_eq_false_iff_ne, Int.not_lt, Int.not_le] at hc14
    have hbad : okB g = false := hc14
    refine wc_seq ?_
    refine wc_region ?_
    refine wl_go rfl (wo_val rfl (rv_build [] (trivial)) rfl rfl ?_)
    refine wl_go rfl (wo_st rfl rfl rfl rfl rfl rfl rfl ?_)
    refine wl_go rfl (wo_val rfl (rv_assign rfl) rfl rfl ?_)
    refine wl_nil ?_
    refine wq_then ?_
    refine wc_ret ?_
    refine wq_then_ret ?_
    refine wq_ret2 rfl rfl (rr_row rfl) (rr_tmp rfl) (fun w9 hs9 => ?_)
    have e1 : onceG g = zeroG := by unfold onceG; rw [hbad]; rfl
    have e2 : onceL g = [] := by unfold onceL; rw [hbad]; rfl
    rw [e1, e2]
    exact ⟨zeroX, _, rfl, zero_gm _, World.ownsRow_nil _ _ _ _, hs9.below rfl⟩
  · simp only [decide_eq_true_eq, decide_eq_false_iff_not, Bool.not_eq_true', Bool.not_eq_false', bne_iff_ne, beq_iff_eq, bne_eq_false_iff_eq, beq_eq_false_iff_ne, Int.not_lt, Int.not_le] at hc14
    have hok := (okB_iff g).1 hc14
    have hr2 := hok.r2
    have hbad := hc14
    refine wc_skip ?_
    refine wq_then ?_
    refine wc_seq ?_
    refine wc_cut (fun l S => ∃ b4 p1 c1 p2 c2 w1, Hp ⟨w, G0, w1, [⟨b4, .cells ([.slice p1 g.names.length c1, iv g.terms, .slice p2 g.tokens.length c2, .slice none 0 0, iv g.start] : List Value).toArray 53 (0, 0)⟩, ⟨b2, .cells ([.slice none 0 0, .int .i64 0, .slice none 0 0, .slice none 0 0, .int .i64 0] : List Value).toArray 53 (0, 0)⟩, ⟨b1, .cells (gC x g).toArray 53 (0, 0)⟩]⟩ [(9, .slice p1 g.names.length c1, g.names.map sv), (3, .slice p2 g.tokens.length c2, g.tokens.map iv)] ∧ l = [(1, .pointer (some ⟨b1, 0, none⟩)), (2, .pointer (some ⟨b2, 0, none⟩)), (4, .pointer (some ⟨b4, 0, none⟩))] ∧ S = ⟨w, G0, w1, [⟨b4, .cells ([.slice p1 g.names.length c1, iv g.terms, .slice p2 g.tokens.length c2, .slice none 0 0, iv g.start] : List Value).toArray 53 (0, 0)⟩, ⟨b2, .cells ([.slice none 0 0, .int .i64 0, .slice none 0 0, .slice none 0 0, .int .i64 0] : List Value).toArray 53 (0, 0)⟩, ⟨b1, .cells (gC x g).toArray 53 (0, 0)⟩]⟩) ?_ ?_
    · skip
      refine wc_region_stage (by kernel_rfl) (by kernel_rfl) ?_
      refine ws_q (i := 0) rfl (by kernel_rfl) (rq_val rfl rfl rfl (rv_fieldAddr0 rfl)) rfl rfl ?_
      refine ws_q (i := 1) rfl (by kernel_rfl) (rq_val rfl rfl rfl (rv_load_own rfl rfl)) rfl rfl ?_
      refine ws_q (i := 3) rfl (by kernel_rfl) (rq_val rfl rfl rfl (rv_fieldAddr rfl)) rfl rfl ?_
      refine ws_q (i := 4) rfl (by kernel_rfl) (rq_val rfl rfl rfl (rv_load_own rfl rfl)) rfl rfl ?_
      refine ws_q (i := 5) rfl (by kernel_rfl) (rq_val rfl rfl rfl (rv_fieldAddr rfl)) rfl rfl ?_
      refine ws_q (i := 6) rfl (by kernel_rfl) (rq_val rfl rfl rfl (rv_load_own rfl rfl)) rfl rfl ?_
      refine ws_q (i := 8) rfl (by kernel_rfl) (rq_val rfl rfl rfl (rv_fieldAddr rfl)) rfl rfl ?_
      refine ws_q (i := 9) rfl (by kernel_rfl) (rq_val rfl rfl rfl (rv_load_own rfl rfl)) rfl rfl ?_
      refine ws_w2 2 11 rfl rfl (by kernel_rfl) (by kernel_rfl) (by kernel_rfl) rfl rfl ?_ ?_
      · skip
        refine  (wo_call (R := fun w2 v w3 => w3.ownsRow w2.heap.size 9 1 v g.names.length (g.names.map sv)) rfl rfl (enters_of Try.func96 (by kernel_rfl) rfl) rfl rfl rfl (fun w4 hs4 => (sclone_callsN x.np x.nc _ (g.names.map sv) (List.length_map _) w4 (hg.names.below (hs4.below rfl)) (strs_one _) (by have := hok.nm; omega)).mono fun e w' h => let ⟨v, h1, h2, h3⟩ := h; ⟨v, h1, h2, h3⟩) (fun w2n vn w3n hs2n hvn hb2n hm2n => ?_))
        obtain ⟨p1, c1, rfl, _⟩ := rv_ofn hvn
        refine wl_stage (pa_keep (rq_val rfl rfl rfl (rv_load_own rfl rfl)) (pa_keep (rq_val rfl rfl rfl (rv_fieldAddr rfl)) (pa_keep (rq_val rfl rfl rfl (rv_load_own rfl rfl)) (pa_keep (rq_val rfl rfl rfl (rv_fieldAddr rfl)) (pa_keep (rq_val rfl rfl rfl (rv_load_own rfl rfl)) (pa_keep (rq_val rfl rfl rfl (rv_fieldAddr rfl)) (pa_drop (by kernel_rfl) (pa_drop (by kernel_rfl) (pa_nil))))))))) ?_
        refine ws_w2 7 11 rfl rfl (by kernel_rfl) (by kernel_rfl) (by kernel_rfl) rfl rfl ?_ ?_
        · skip
          refine  (wo_call (R := fun w2 v w3 => w3.ownsRow w2.heap.size 3 1 v g.tokens.length (g.tokens.map iv)) rfl rfl (enters_of Try.func97 (by kernel_rfl) rfl) rfl rfl rfl (fun w4 hs4 => (iclone_callsN x.tp x.tc _ (g.tokens.map iv) (List.length_map _) w4 (hg.tokens.below (hs4.below rfl)) (ints_one _) (by have := hok.nm; have := hok.t1; have := hok.tk; omega)).mono fun e w' h => let ⟨v, h1, h2, h3⟩ := h; ⟨v, h1, h2, h3⟩) (fun w2t vt w3t hs2t hvt hb2t hm2t => ?_))
          obtain ⟨p2, c2, rfl, _⟩ := rv_ofn hvt
          refine wl_stage (pa_keep (rq_val rfl rfl rfl (rv_load_own rfl rfl)) (pa_keep (rq_val rfl rfl rfl (rv_fieldAddr rfl)) (pa_drop (by kernel_rfl) (pa_drop (by kernel_rfl) (pa_keep (rq_val rfl rfl rfl (rv_load_own rfl rfl)) (pa_keep (rq_val rfl rfl rfl (rv_fieldAddr rfl)) (pa_nil))))))) ?_
          refine ws_q (i := 10) rfl (by kernel_rfl) (rq_val rfl rfl rfl (rv_build [(0, _), (1, _), (2, _), (4, _)] (⟨rfl, ⟨_, rfl, rfl⟩, ⟨rfl, ⟨_, rfl, rfl⟩, ⟨rfl, ⟨_, rfl, rfl⟩, ⟨rfl, ⟨_, rfl, rfl⟩, trivial⟩⟩⟩⟩))) rfl rfl ?_
          refine ws_w 11 rfl (by kernel_rfl) (by kernel_rfl) rfl (wo_alloc rfl rfl rfl (fun b4 hb4 => ?_))
          refine wl_stage (pa_keep (rq_val rfl rfl rfl (rv_build [(0, _), (1, _), (2, _), (4, _)] (⟨rfl, ⟨_, rfl, rfl⟩, ⟨rfl, ⟨_, rfl, rfl⟩, ⟨rfl, ⟨_, rfl, rfl⟩, ⟨rfl, ⟨_, rfl, rfl⟩, trivial⟩⟩⟩⟩))) (pa_keep (rq_val rfl rfl rfl (rv_load_own rfl rfl)) (pa_keep (rq_val rfl rfl rfl (rv_fieldAddr rfl)) (pa_keep (rq_val rfl rfl rfl (rv_load_own rfl rfl)) (pa_keep (rq_val rfl rfl rfl (rv_fieldAddr rfl)) (pa_nil)))))) ?_
          refine ws_w 12 rfl (by kernel_rfl) (by kernel_rfl) rfl (wo_st rfl rfl rfl rfl rfl rfl rfl ?_)
          refine wl_stage (pa_drop (by kernel_rfl) (pa_drop (by kernel_rfl) (pa_drop (by kernel_rfl) (pa_drop (by kernel_rfl) (pa_drop (by kernel_rfl) (pa_nil)))))) ?_
          refine ws_nil (by kernel_rfl) ?_
          first | exact wq_cut ⟨_, ⟨b4, p1, c1, p2, c2, _, ((((Hp.nil _).new hs2n hm2n hvn).new hs2t hm2t hvt).swap.beside (o := .cells #[] 0) hb4).ids (gs' := G0) (own' := [⟨b4, .cells ([.slice p1 g.names.length c1, iv g.terms, .slice p2 g.tokens.length c2, .slice none 0 0, iv g.start] : List Value).toArray 53 (0, 0)⟩, ⟨b2, .cells ([.slice none 0 0, .int .i64 0, .slice none 0 0, .slice none 0 0, .int .i64 0] : List Value).toArray 53 (0, 0)⟩, ⟨b1, .cells (gC x g).toArray 53 (0, 0)⟩]) rfl, rfl, rfl⟩, by repeat (first | exact sub_nil | refine sub_cons rfl ?_)⟩ | exact wq_cut ⟨_, ⟨b4, p1, c1, p2, c2, _, (((((Hp.nil _).new hs2n hm2n hvn).beside (o := .cells ([.slice none 0 0, .int .i64 0, .slice none 0 0, .slice none 0 0, .int .i64 0] : List Value).toArray 53 (0, 0)) hb4).new hs2t hm2t hvt).swap).ids (gs' := G0) (own' := [⟨b4, .cells ([.slice p1 g.names.length c1, iv g.terms, .slice p2 g.tokens.length c2, .slice none 0 0, iv g.start] : List Value).toArray 53 (0, 0)⟩, ⟨b2, .cells ([.slice none 0 0, .int .i64 0, .slice none 0 0, .slice none 0 0, .int .i64 0] : List Value).toArray 53 (0, 0)⟩, ⟨b1, .cells (gC x g).toArray 53 (0, 0)⟩]) rfl, rfl, rfl⟩, by repeat (first | exact sub_nil | refine sub_cons rfl ?_)⟩ | exact wq_cut ⟨_, ⟨b4, p1, c1, p2, c2, _, ((((Hp.nil _).new hs2n hm2n hvn).new hs2t hm2t hvt).swap).ids (gs' := G0) (own' := [⟨b4, .cells ([.slice p1 g.names.length c1, iv g.terms, .slice p2 g.tokens.length c2, .slice none 0 0, iv g.start] : List Value).toArray 53 (0, 0)⟩, ⟨b2, .cells ([.slice none 0 0, .int .i64 0, .slice none 0 0, .slice none 0 0, .int .i64 0] : List Value).toArray 53 (0, 0)⟩, ⟨b1, .cells (gC x g).toArray 53 (0, 0)⟩]) rfl, rfl, rfl⟩, by repeat (first | exact sub_nil | refine sub_cons rfl ?_)⟩
        · skip
          refine  (wo_alloc rfl rfl rfl (fun b4 hb4 => ?_))
          refine wl_stage (pa_keep (rq_val rfl rfl rfl (rv_load_own rfl rfl)) (pa_keep (rq_val rfl rfl rfl (rv_fieldAddr rfl)) (pa_keep (rq_val rfl rfl rfl (rv_load_own rfl rfl)) (pa_keep (rq_val rfl rfl rfl (rv_fieldAddr rfl)) (pa_keep (rq_val rfl rfl rfl (rv_load_own rfl rfl)) (pa_keep (rq_val rfl rfl rfl (rv_fieldAddr rfl)) (pa_nil))))))) ?_
          refine ws_w 7 rfl (by kernel_rfl) (by kernel_rfl) rfl (wo_call (R := fun w2 v w3 => w3.ownsRow w2.heap.size 3 1 v g.tokens.length (g.tokens.map iv)) rfl rfl (enters_of Try.func97 (by kernel_rfl) rfl) rfl rfl rfl (fun w4 hs4 => (iclone_callsN x.tp x.tc _ (g.tokens.map iv) (List.length_map _) w4 (hg.tokens.below (hs4.below rfl)) (ints_one _) (by have := hok.nm; have := hok.t1; have := hok.tk; omega)).mono fun e w' h => let ⟨v, h1, h2, h3⟩ := h; ⟨v, h1, h2, h3⟩) (fun w2t vt w3t hs2t hvt hb2t hm2t => ?_))
          obtain ⟨p2, c2, rfl, _⟩ := rv_ofn hvt
          refine wl_stage (pa_keep (rq_val rfl rfl rfl (rv_load_own rfl rfl)) (pa_keep (rq_val rfl rfl rfl (rv_fieldAddr rfl)) (pa_drop (by kernel_rfl) (pa_drop (by kernel_rfl) (pa_keep (rq_val rfl rfl rfl (rv_load_own rfl rfl)) (pa_keep (rq_val rfl rfl rfl (rv_fieldAddr rfl)) (pa_nil))))))) ?_
          refine ws_q (i := 10) rfl (by kernel_rfl) (rq_val rfl rfl rfl (rv_build [(0, _), (1, _), (2, _), (4, _)] (⟨rfl, ⟨_, rfl, rfl⟩, ⟨rfl, ⟨_, rfl, rfl⟩, ⟨rfl, ⟨_, rfl, rfl⟩, ⟨rfl, ⟨_, rfl, rfl⟩, trivial⟩⟩⟩⟩))) rfl rfl ?_
          refine ws_w 12 rfl (by kernel_rfl) (by kernel_rfl) rfl (wo_st rfl rfl rfl rfl rfl rfl rfl ?_)
          refine wl_stage (pa_drop (by kernel_rfl) (pa_drop (by kernel_rfl) (pa_drop (by kernel_rfl) (pa_drop (by kernel_rfl) (pa_drop (by kernel_rfl) (pa_nil)))))) ?_
          refine ws_nil (by kernel_rfl) ?_
          first | exact wq_cut ⟨_, ⟨b4, p1, c1, p2, c2, _, ((((Hp.nil _).new hs2n hm2n hvn).new hs2t hm2t hvt).swap.beside (o := .cells #[] 0) hb4).ids (gs' := G0) (own' := [⟨b4, .cells ([.slice p1 g.names.length c1, iv g.terms, .slice p2 g.tokens.length c2, .slice none 0 0, iv g.start] : List Value).toArray 53 (0, 0)⟩, ⟨b2, .cells ([.slice none 0 0, .int .i64 0, .slice none 0 0, .slice none 0 0, .int .i64 0] : List Value).toArray 53 (0, 0)⟩, ⟨b1, .cells (gC x g).toArray 53 (0, 0)⟩]) rfl, rfl, rfl⟩, by repeat (first | exact sub_nil | refine sub_cons rfl ?_)⟩ | exact wq_cut ⟨_, ⟨b4, p1, c1, p2, c2, _, (((((Hp.nil _).new hs2n hm2n hvn).beside (o := .cells ([.slice none 0 0, .int .i64 0, .slice none 0 0, .slice none 0 0, .int .i64 0] : List Value).toArray 53 (0, 0)) hb4).new hs2t hm2t hvt).swap).ids (gs' := G0) (own' := [⟨b4, .cells ([.slice p1 g.names.length c1, iv g.terms, .slice p2 g.tokens.length c2, .slice none 0 0, iv g.start] : List Value).toArray 53 (0, 0)⟩, ⟨b2, .cells ([.slice none 0 0, .int .i64 0, .slice none 0 0, .slice none 0 0, .int .i64 0] : List Value).toArray 53 (0, 0)⟩, ⟨b1, .cells (gC x g).toArray 53 (0, 0)⟩]) rfl, rfl, rfl⟩, by repeat (first | exact sub_nil | refine sub_cons rfl ?_)⟩ | exact wq_cut ⟨_, ⟨b4, p1, c1, p2, c2, _, ((((Hp.nil _).new hs2n hm2n hvn).new hs2t hm2t hvt).swap).ids (gs' := G0) (own' := [⟨b4, .cells ([.slice p1 g.names.length c1, iv g.terms, .slice p2 g.tokens.length c2, .slice none 0 0, iv g.start] : List Value).toArray 53 (0, 0)⟩, ⟨b2, .cells ([.slice none 0 0, .int .i64 0, .slice none 0 0, .slice none 0 0, .int .i64 0] : List Value).toArray 53 (0, 0)⟩, ⟨b1, .cells (gC x g).toArray 53 (0, 0)⟩]) rfl, rfl, rfl⟩, by repeat (first | exact sub_nil | refine sub_cons rfl ?_)⟩
      · skip
        refine  (wo_alloc rfl rfl rfl (fun b4 hb4 => ?_))
        refine wl_stage (pa_keep (rq_val rfl rfl rfl (rv_load_own rfl rfl)) (pa_keep (rq_val rfl rfl rfl (rv_fieldAddr rfl)) (pa_keep (rq_val rfl rfl rfl (rv_load_own rfl rfl)) (pa_keep (rq_val rfl rfl rfl (rv_fieldAddr rfl)) (pa_keep (rq_val rfl rfl rfl (rv_load_own rfl rfl)) (pa_keep (rq_val rfl rfl rfl (rv_fieldAddr rfl)) (pa_keep (rq_val rfl rfl rfl (rv_load_own rfl rfl)) (pa_keep (rq_val rfl rfl rfl (rv_fieldAddr0 rfl)) (pa_nil))))))))) ?_
        refine ws_w 2 rfl (by kernel_rfl) (by kernel_rfl) rfl (wo_call (R := fun w2 v w3 => w3.ownsRow w2.heap.size 9 1 v g.names.length (g.names.map sv)) rfl rfl (enters_of Try.func96 (by kernel_rfl) rfl) rfl rfl rfl (fun w4 hs4 => (sclone_callsN x.np x.nc _ (g.names.map sv) (List.length_map _) w4 (hg.names.below (hs4.below rfl)) (strs_one _) (by have := hok.nm; omega)).mono fun e w' h => let ⟨v, h1, h2, h3⟩ := h; ⟨v, h1, h2, h3⟩) (fun w2n vn w3n hs2n hvn hb2n hm2n => ?_))
        obtain ⟨p1, c1, rfl, _⟩ := rv_ofn hvn
        refine wl_stage (pa_keep (rq_val rfl rfl rfl (rv_load_own rfl rfl)) (pa_keep (rq_val rfl rfl rfl (rv_fieldAddr rfl)) (pa_keep (rq_val rfl rfl rfl (rv_load_own rfl rfl)) (pa_keep (rq_val rfl rfl rfl (rv_fieldAddr rfl)) (pa_keep (rq_val rfl rfl rfl (rv_load_own rfl rfl)) (pa_keep (rq_val rfl rfl rfl (rv_fieldAddr rfl)) (pa_drop (by kernel_rfl) (pa_drop (by kernel_rfl) (pa_nil))))))))) ?_
        refine ws_w 7 rfl (by kernel_rfl) (by kernel_rfl) rfl (wo_call (R := fun w2 v w3 => w3.ownsRow w2.heap.size 3 1 v g.tokens.length (g.tokens.map iv)) rfl rfl (enters_of Try.func97 (by kernel_rfl) rfl) rfl rfl rfl (fun w4 hs4 => (iclone_callsN x.tp x.tc _ (g.tokens.map iv) (List.length_map _) w4 (hg.tokens.below (hs4.below rfl)) (ints_one _) (by have := hok.nm; have := hok.t1; have := hok.tk; omega)).mono fun e w' h => let ⟨v, h1, h2, h3⟩ := h; ⟨v, h1, h2, h3⟩) (fun w2t vt w3t hs2t hvt hb2t hm2t => ?_))
        obtain ⟨p2, c2, rfl, _⟩ := rv_ofn hvt
        refine wl_stage (pa_keep (rq_val rfl rfl rfl (rv_load_own rfl rfl)) (pa_keep (rq_val rfl rfl rfl (rv_fieldAddr rfl)) (pa_drop (by kernel_rfl) (pa_drop (by kernel_rfl) (pa_keep (rq_val rfl rfl rfl (rv_load_own rfl rfl)) (pa_keep (rq_val rfl rfl rfl (rv_fieldAddr rfl)) (pa_nil))))))) ?_
        refine ws_q (i := 10) rfl (by kernel_rfl) (rq_val rfl rfl rfl (rv_build [(0, _), (1, _), (2, _), (4, _)] (⟨rfl, ⟨_, rfl, rfl⟩, ⟨rfl, ⟨_, rfl, rfl⟩, ⟨rfl, ⟨_, rfl, rfl⟩, ⟨rfl, ⟨_, rfl, rfl⟩, trivial⟩⟩⟩⟩))) rfl rfl ?_
        refine ws_w 12 rfl (by kernel_rfl) (by kernel_rfl) rfl (wo_st rfl rfl rfl rfl rfl rfl rfl ?_)
        refine wl_stage (pa_drop (by kernel_rfl) (pa_drop (by kernel_rfl) (pa_drop (by kernel_rfl) (pa_drop (by kernel_rfl) (pa_drop (by kernel_rfl) (pa_nil)))))) ?_
        refine ws_nil (by kernel_rfl) ?_
        first | exact wq_cut ⟨_, ⟨b4, p1, c1, p2, c2, _, ((((Hp.nil _).new hs2n hm2n hvn).new hs2t hm2t hvt).swap.beside (o := .cells #[] 0) hb4).ids (gs' := G0) (own' := [⟨b4, .cells ([.slice p1 g.names.length c1, iv g.terms, .slice p2 g.tokens.length c2, .slice none 0 0, iv g.start] : List Value).toArray 53 (0, 0)⟩, ⟨b2, .cells ([.slice none 0 0, .int .i64 0, .slice none 0 0, .slice none 0 0, .int .i64 0] : List Value).toArray 53 (0, 0)⟩, ⟨b1, .cells (gC x g).toArray 53 (0, 0)⟩]) rfl, rfl, rfl⟩, by repeat (first | exact sub_nil | refine sub_cons rfl ?_)⟩ | exact wq_cut ⟨_, ⟨b4, p1, c1, p2, c2, _, (((((Hp.nil _).new hs2n hm2n hvn).beside (o := .cells ([.slice none 0 0, .int .i64 0, .slice none 0 0, .slice none 0 0, .int .i64 0] : List Value).toArray 53 (0, 0)) hb4).new hs2t hm2t hvt).swap).ids (gs' := G0) (own' := [⟨b4, .cells ([.slice p1 g.names.length c1, iv g.terms, .slice p2 g.tokens.length c2, .slice none 0 0, iv g.start] : List Value).toArray 53 (0, 0)⟩, ⟨b2, .cells ([.slice none 0 0, .int .i64 0, .slice none 0 0, .slice none 0 0, .int .i64 0] : List Value).toArray 53 (0, 0)⟩, ⟨b1, .cells (gC x g).toArray 53 (0, 0)⟩]) rfl, rfl, rfl⟩, by repeat (first | exact sub_nil | refine sub_cons rfl ?_)⟩ | exact wq_cut ⟨_, ⟨b4, p1, c1, p2, c2, _, ((((Hp.nil _).new hs2n hm2n hvn).new hs2t hm2t hvt).swap).ids (gs' := G0) (own' := [⟨b4, .cells ([.slice p1 g.names.length c1, iv g.terms, .slice p2 g.tokens.length c2, .slice none 0 0, iv g.start] : List Value).toArray 53 (0, 0)⟩, ⟨b2, .cells ([.slice none 0 0, .int .i64 0, .slice none 0 0, .slice none 0 0, .int .i64 0] : List Value).toArray 53 (0, 0)⟩, ⟨b1, .cells (gC x g).toArray 53 (0, 0)⟩]) rfl, rfl, rfl⟩, by repeat (first | exact sub_nil | refine sub_cons rfl ?_)⟩
    · rintro l S ⟨b4, p1, c1, p2, c2, w1, hH0, rfl, rfl⟩
      refine wq_then ?_
      refine wc_seq ?_
      refine wc_region ?_
      refine wl_go rfl (wo_makeMap rfl rfl rfl (fun b27 hb27 => ?_))
      refine wl_go rfl (wo_val rfl (rv_assign rfl) rfl rfl ?_)
      refine wl_nil ?_
      refine wq_then ?_
      refine wc_seq ?_
      refine wc_region ?_
      refine wl_go rfl (wo_val rfl (rv_assign rfl) rfl rfl ?_)
      refine wl_nil ?_
      refine wq_then ?_
      refine wc_seq ?_
      refine wc_seq ?_
      refine wc_region ?_
      refine wl_go rfl (wo_val rfl (rv_fieldAddr rfl) rfl rfl ?_)
      refine wl_go rfl (wo_val rfl (rv_load_own rfl rfl) rfl rfl ?_)
      refine wl_go rfl (wo_val rfl (rv_len rfl) rfl rfl ?_)
      refine wl_go rfl (wo_val rfl (rv_move rfl) rfl rfl ?_)
      refine wl_nil ?_
      refine wq_then ?_
      refine wc_block ?_
      have hH00 := (((hH0.beside (o := .map #[] 0) hb27).none_ 50).none_ 3)
      refine wc_loop (fun m l S => ∃ (k : Nat) (w1 : World) (es : Array MapEntry) (clock : Nat) (D : List (List Int × Int)) (vn vr : Value) (vs : List Value), k ≤ g.rules.length ∧ Mp Try.prog 152 ek iv es D ∧ Tells D (onceF (g.rules.take k)).1 ∧ D.length ≤ k ∧ vs.length = (onceF (g.rules.take k)).1.length ∧ Hp ⟨w, G0, w1, [⟨b27, .map es clock⟩, ⟨b4, .cells ([.slice p1 g.names.length c1, iv g.terms, .slice p2 g.tokens.length c2, vr, iv g.start] : List Value).toArray 53 (0, 0)⟩, ⟨b2, .cells ([.slice none 0 0, .int .i64 0, .slice none 0 0, .slice none 0 0, .int .i64 0] : List Value).toArray 53 (0, 0)⟩, ⟨b1, .cells (gC x g).toArray 53 (0, 0)⟩]⟩ ((3, vn, (onceF (g.rules.take k)).2.map iv) :: (50, vr, vs) :: (9, .slice p1 g.names.length c1, g.names.map sv) :: (3, .slice p2 g.tokens.length c2, g.tokens.map iv) :: rowsL vs (onceF (g.rules.take k)).1) ∧ m = g.rules.length - k ∧ l = [(1, .pointer (some ⟨b1, 0, none⟩)), (2, .pointer (some ⟨b2, 0, none⟩)), (4, .pointer (some ⟨b4, 0, none⟩)), (5, .map (some b27)), (6, vn), (29, .slice x.rp g.rules.length x.rc), (30, iv (g.rules.length : Int)), (31, iv (k : Int))] ∧ S = ⟨w, G0, w1, [⟨b27, .map es clock⟩, ⟨b4, .cells ([.slice p1 g.names.length c1, iv g.terms, .slice p2 g.tokens.length c2, vr, iv g.start] : List Value).toArray 53 (0, 0)⟩, ⟨b2, .cells ([.slice none 0 0, .int .i64 0, .slice none 0 0, .slice none 0 0, .int .i64 0] : List Value).toArray 53 (0, 0)⟩, ⟨b1, .cells (gC x g).toArray 53 (0, 0)⟩]⟩) ⟨_, _, ⟨0, _, #[], 0, [], .slice none 0 0, .slice none 0 0, [], Nat.zero_le _, Mp.nil, tells_nil, Nat.zero_le _, rfl, hH00, rfl, rfl, rfl⟩, by repeat (first | exact sub_nil | refine sub_cons rfl ?_)⟩ ?_
      intro m l S hJ
      obtain ⟨k, w1, es, clock, D, vn, vr, vs, hk, hM, hD, hDl, hvl, hH, rfl, rfl, rfl⟩ := hJ
      have hvr : w1.ownsRow w.heap.size 50 1 vr vs.length vs := (hH.row (50, vr, vs) (by simp)).own
      obtain ⟨pr, cr, rfl, _⟩ := rv_ofn hvr
      refine wc_seq ?_
      refine wc_region ?_
      refine wl_go rfl (wo_val rfl (rv_cmp_i rfl rfl rfl) rfl rfl ?_)
      refine wl_nil ?_
      refine wq_then ?_
      refine wc_seq ?_
      refine wc_cond rfl (fun hc32 => ?_) (fun hc32 => ?_)
      · simp only [decide_eq_true_eq, decide_eq_false_iff_not, Bool.not_eq_true', Bool.not_eq_false', bne_iff_ne, beq_iff_eq, bne_eq_false_iff_eq, beq_eq_false_iff_ne, Int.not_lt, Int.not_le] at hc32
        obtain ⟨r, hr⟩ := getE (l := g.rules) (i := k) (by omega)
        obtain ⟨g0, o0, q, d, hrp, hcell, hrow⟩ := hg.rules.read hr
        rw [hrp]
        have hfit := hok.fits (List.mem_of_getElem? hr)
        refine wc_skip ?_
        refine wq_then ?_
        refine wc_seq ?_
        refine wc_block ?_
        refine wc_seq ?_
        refine wc_region ?_
        refine wl_go rfl (wo_val rfl (rv_indexAddr rfl rfl (by omega)) rfl rfl ?_)
        refine wl_go rfl (wo_val rfl (rv_load_cell rfl (fun w4 hs4 => hcell w4 (hs4.below rfl))) rfl rfl ?_)
        refine wl_go rfl (wo_val rfl (rv_assign rfl) rfl rfl ?_)
        refine wl_nil ?_
        refine wq_then ?_
        refine wc_seq ?_
        refine wc_region ?_
        refine wl_go rfl (wo_val rfl (rv_move rfl) rfl rfl ?_)
        refine wl_go rfl (wo_call (R := fun _ v _ => v = _) rfl rfl (enters_of Try.func98 (by kernel_rfl) rfl) rfl rfl rfl (fun w4 hs4 => (known_calls q d r w4 (hrow.below (hs4.below rfl)) hfit.pos hfit.len).mono fun e w' h => ⟨_, h.1, rfl, h.2⟩) (fun w2k vk w3k hs2k hvk hb2k hm2k => ?_))
        subst hvk
        refine wl_go rfl (wo_alloc rfl rfl rfl (fun b9 hb9 => ?_))
        refine wl_go rfl (wo_store_all (xs := (keyL r).map iv) rfl rfl rfl rfl rfl (by rw [List.length_map, keyL_len hfit.len]) (ints_one _) (by rw [List.length_map, keyL_len hfit.len]; rfl) ?_)
        have hH1 := (hH.call hm2k rfl).beside (o := .cells ((keyL r).map iv).toArray 152 (0, 0)) hb9
        refine wl_nil ?_
        refine wq_then ?_
        refine wc_seq ?_
        refine wc_seq ?_
        refine wc_region ?_
        refine wl_go rfl (wo_val rfl (rv_move rfl) rfl rfl ?_)
        refine wl_go rfl (wo_val rfl (rv_load_all (xs := (keyL r).map iv) rfl (by rw [List.length_map, keyL_len hfit.len])) rfl rfl ?_)
        refine wl_go rfl (wo_val rfl (rv_lookup (ek := ek) (ew := iv) (key := r) (z := 0) keyed152 ek_inj hM rfl rfl (ek_key hok.nm hfit) rfl rfl) rfl rfl ?_)
        refine wl_go rfl (wo_val rfl (rv_move rfl) rfl rfl ?_)
        refine wl_go rfl (wo_val rfl (rv_extract rfl rfl) rfl rfl ?_)
        refine wl_go rfl (wo_val rfl (rv_extract rfl rfl) rfl rfl ?_)
        refine wl_go rfl (wo_val rfl (rv_assign rfl) rfl rfl ?_)
        refine wl_go rfl (wo_val rfl (rv_assign rfl) rfl rfl ?_)
        refine wl_nil ?_
        refine wq_then ?_
        refine wc_seq ?_
        refine wc_region ?_
        refine wl_go rfl (wo_val rfl (rv_move rfl) rfl rfl ?_)
        refine wl_go rfl (wo_val rfl (rv_not rfl) rfl rfl ?_)
        refine wl_nil ?_
        refine wq_then ?_
        refine wc_cond rfl (fun hc44 => ?_) (fun hc44 => ?_)
        · simp only [decide_eq_true_eq, decide_eq_false_iff_not, Bool.not_eq_true', Bool.not_eq_false', bne_iff_ne, beq_iff_eq, bne_eq_false_iff_eq, beq_eq_false_iff_ne, Int.not_lt, Int.not_le] at hc44
          obtain ⟨hcn, hD2⟩ := tells_new hD hc44
          refine wc_seq ?_
          refine wc_region ?_
          refine wl_go rfl (wo_val rfl (rv_move rfl) rfl rfl ?_)
          refine wl_go rfl (wo_val rfl (rv_load_all (xs := (keyL r).map iv) rfl (by rw [List.length_map, keyL_len hfit.len])) rfl rfl ?_)
          refine wl_go rfl (wo_val rfl (rv_fieldAddr rfl) rfl rfl ?_)
          refine wl_go rfl (wo_val rfl (rv_load_own rfl rfl) rfl rfl ?_)
          refine wl_go rfl (wo_val rfl (rv_len rfl) rfl rfl ?_)
          refine wl_go rfl (wo_mapUpdate (ek := ek) (ew := iv) (key := r) (val := (vs.length : Int)) rfl rfl rfl rfl rfl keyed152 ek_inj hM (ek_key hok.nm hfit) (by unfold maxLen; have := hok.r2; omega) (fun es2 clock2 own2 hM2 ho2 => ?_))
          simp only [List.set_cons_succ, List.set_cons_zero] at ho2
          subst ho2
          have hH2 := hH1.ids (gs' := G0) (own' := ⟨b9, .cells ((keyL r).map iv).toArray 152 (0, 0)⟩ :: ⟨b27, .map es2 clock2⟩ :: _) rfl
          refine wl_nil ?_
          refine wq_then ?_
          refine wc_region_stage (by kernel_rfl) (by kernel_rfl) ?_
          refine ws_q (i := 0) rfl (by kernel_rfl) (rq_val rfl rfl rfl (rv_fieldAddr rfl)) rfl rfl ?_
          refine ws_q (i := 1) rfl (by kernel_rfl) (rq_val rfl rfl rfl (rv_load_own rfl rfl)) rfl rfl ?_
          refine ws_q (i := 2) rfl (by kernel_rfl) (rq_val rfl rfl rfl (rv_move rfl)) rfl rfl ?_
          refine ws_w 3 rfl (by kernel_rfl) (by kernel_rfl) rfl (wo_call (R := fun w2 v w3 => w3.ownsRow w2.heap.size 3 1 v r.length (r.map iv)) rfl rfl (enters_of Try.func97 (by kernel_rfl) rfl) rfl rfl rfl (fun w4 hs4 => (iclone_callsN q d _ (r.map iv) (List.length_map _) w4 (hrow.below (hs4.below rfl)) (ints_one _) (by have := hfit.len; omega)).mono fun e w' h => let ⟨v, h1, h2, h3⟩ := h; ⟨v, h1, h2, h3⟩) (fun w2c vc w3c hs2c hvc hb2c hm2c => ?_))
          obtain ⟨p5, c5, rfl, _⟩ := rv_ofn hvc
          have hH3 := hH2.new hs2c hm2c hvc
          refine wl_stage (pa_drop (by kernel_rfl) (pa_keep (rq_val rfl rfl rfl (rv_load_own rfl rfl)) (pa_keep (rq_val rfl rfl rfl (rv_fieldAddr rfl)) (pa_nil)))) ?_
          refine ws_w 4 rfl (by kernel_rfl) (by kernel_rfl) rfl (wo_bs [_] rfl rfl rfl (⟨rfl, rfl, ⟨_, rfl, rfl⟩, trivial⟩) rfl rfl (fun b54 hb54 => ?_))
          refine wl_stage (pa_keep (rq_val rfl rfl rfl (rv_load_own rfl rfl)) (pa_keep (rq_val rfl rfl rfl (rv_fieldAddr rfl)) (pa_nil))) ?_
          refine ws_w 5 rfl (by kernel_rfl) (by kernel_rfl) rfl (wo_append rfl rfl rfl rfl rfl [_, _, _, _, _] ⟨[_], rfl⟩ ((hH3.row (50, .slice pr vs.length cr, vs) (by simp)).beside hb54 |>.ids rfl) (by have := hok.r2; have := (onceF_len (g.rules.take k)).2; have := List.length_take_le k g.rules; unfold maxLen; simp only; omega) rfl rfl rfl (fun v6 w6 hR6 hm6 ho6 => ?_))
          have hH4 := hH3.third.first (own3 := _ :: _) hm6 (by intro y hy; rcases List.mem_cons.1 hy with rfl | hy; exact .inr hb54; exact .inl ⟨y, hy, rfl⟩) (rw_snoc hR6) ho6 (fun y hy => ⟨y, hy, rfl⟩)
          have hR8 : w6.ownsRow w.heap.size 50 1 v6 (vs.length + 1) (vs ++ [.slice p5 r.length c5]) := hR6.own
          obtain ⟨p6, c6, rfl, _⟩ := rv_ofn hR8
          refine wl_stage (pa_drop (by kernel_rfl) (pa_drop (by kernel_rfl) (pa_nil))) ?_
          refine ws_q (i := 6) rfl (by kernel_rfl) (rq_val rfl rfl rfl (rv_fieldAddr rfl)) rfl rfl ?_
          refine ws_w 7 rfl (by kernel_rfl) (by kernel_rfl) rfl (wo_st rfl rfl rfl rfl rfl rfl rfl ?_)
          refine wl_stage (pa_drop (by kernel_rfl) (pa_nil)) ?_
          refine ws_nil (by kernel_rfl) ?_
          refine wq_then ?_
          refine wc_region ?_
          refine wl_go rfl (wo_val rfl (rv_move rfl) rfl rfl ?_)
          refine wl_go rfl (wo_val rfl (rv_move rfl) rfl rfl ?_)
          refine wl_go rfl (wo_val rfl (rv_load_all (xs := (keyL r).map iv) rfl (by rw [List.length_map, keyL_len hfit.len])) rfl rfl ?_)
          refine wl_go rfl (wo_val rfl (rv_lookup (ek := ek) (ew := iv) (key := r) (z := 0) keyed152 ek_inj hM2 rfl rfl (ek_key hok.nm hfit) rfl rfl) rfl rfl ?_)
          refine wl_go rfl (wo_bs [_] rfl rfl rfl (⟨rfl, rfl, ⟨_, rfl, rfl⟩, trivial⟩) rfl rfl (fun b61 hb61 => ?_))
          refine wl_go rfl (wo_append rfl rfl rfl rfl rfl [_, _, _, _] ⟨[_, _], rfl⟩ (((hH4.third.ids (gs' := G0) (own' := [⟨b9, .cells ((keyL r).map iv).toArray 152 (0, 0)⟩, ⟨b27, .map es2 clock2⟩, ⟨b4, .cells ([.slice p1 g.names.length c1, iv g.terms, .slice p2 g.tokens.length c2, .slice p6 (vs.length + 1) c6, iv g.start] : List Value).toArray 53 (0, 0)⟩, ⟨b2, .cells ([.slice none 0 0, .int .i64 0, .slice none 0 0, .slice none 0 0, .int .i64 0] : List Value).toArray 53 (0, 0)⟩, ⟨b1, .cells (gC x g).toArray 53 (0, 0)⟩]) rfl).row (3, vn, (onceF (g.rules.take k)).2.map iv) (by simp)).beside hb61 |>.ids rfl) (by have := hok.r2; rw [List.length_map, (onceF_len _).1, List.length_take]; unfold maxLen; omega) rfl rfl rfl (fun v7 w7 hR7 hm7 ho7 => ?_))
          have hH7 := ((hH4.third.ids (gs' := G0) (own' := [⟨b9, .cells ((keyL r).map iv).toArray 152 (0, 0)⟩, ⟨b27, .map es2 clock2⟩, ⟨b4, .cells ([.slice p1 g.names.length c1, iv g.terms, .slice p2 g.tokens.length c2, .slice p6 (vs.length + 1) c6, iv g.start] : List Value).toArray 53 (0, 0)⟩, ⟨b2, .cells ([.slice none 0 0, .int .i64 0, .slice none 0 0, .slice none 0 0, .int .i64 0] : List Value).toArray 53 (0, 0)⟩, ⟨b1, .cells (gC x g).toArray 53 (0, 0)⟩]) rfl)).first (own3 := _ :: _) hm7 (by intro y hy; rcases List.mem_cons.1 hy with rfl | hy; exact .inr hb61; exact .inl ⟨y, hy, rfl⟩) (rw_snoc hR7) ho7 (fun y hy => ⟨y, List.mem_cons_of_mem _ hy, rfl⟩)
          refine wl_go rfl (wo_val rfl (rv_assign rfl) rfl rfl ?_)
          refine wl_nil ?_
          refine wq_in_normal ?_
          refine wq_then ?_
          refine wc_region ?_
          refine wl_go rfl (wo_val rfl (rv_add rfl rfl (by omega)) rfl rfl ?_)
          refine wl_go rfl (wo_val rfl (rv_move rfl) rfl rfl ?_)
          refine wl_nil ?_
          have e1 : onceF (g.rules.take (k + 1)) = ((onceF (g.rules.take k)).1 ++ [r], (onceF (g.rules.take k)).2 ++ [(((onceF (g.rules.take k)).1 ++ [r]).idxOf r : Int)]) := by
            rw [List.take_add_one, hr, Option.toList_some, onceF_snoc]
            unfold onceS
            rw [hcn]; rfl
          refine wq_round ⟨_, _, ⟨k + 1, _, es2, clock2, _, v7, _, vs ++ [.slice p5 r.length c5], by omega, hM2, ?_, Nat.le_trans (mset_len _ _ _) (by omega), ?_, ?_, rfl, rfl, rfl⟩, by omega, by repeat (first | exact sub_nil | refine sub_cons rfl ?_)⟩
          · rw [e1, hvl]; exact hD2
          · rw [e1, List.length_append, List.length_append, hvl]; rfl
          · rw [e1, rowsL_snoc hvl, List.map_append]
            have h8 := tells_at (r := r) hD2 (by simp)
            rw [← hvl] at h8
            rw [h8] at hH7
            exact Hp.toEnd (A := [_, _]) (B := _ :: _ :: _) hH7
        · simp only [decide_eq_true_eq, decide_eq_false_iff_not, Bool.not_eq_true', Bool.not_eq_false', bne_iff_ne, beq_iff_eq, bne_eq_false_iff_eq, beq_eq_false_iff_ne, Int.not_lt, Int.not_le] at hc44
          have hcy := tells_old hD hc44
          refine wc_skip ?_
          refine wq_then ?_
          refine wc_region ?_
          refine wl_go rfl (wo_val rfl (rv_move rfl) rfl rfl ?_)
          refine wl_go rfl (wo_val rfl (rv_move rfl) rfl rfl ?_)
          refine wl_go rfl (wo_val rfl (rv_load_all (xs := (keyL r).map iv) rfl (by rw [List.length_map, keyL_len hfit.len])) rfl rfl ?_)
          refine wl_go rfl (wo_val rfl (rv_lookup (ek := ek) (ew := iv) (key := r) (z := 0) keyed152 ek_inj hM rfl rfl (ek_key hok.nm hfit) rfl rfl) rfl rfl ?_)
          refine wl_go rfl (wo_bs [_] rfl rfl rfl (⟨rfl, rfl, ⟨_, rfl, rfl⟩, trivial⟩) rfl rfl (fun b61 hb61 => ?_))
          refine wl_go rfl (wo_append rfl rfl rfl rfl rfl [_, _, _, _] ⟨[_, _], rfl⟩ ((hH1.row (3, vn, (onceF (g.rules.take k)).2.map iv) (by simp)).beside hb61 |>.ids rfl) (by have := hok.r2; rw [List.length_map, (onceF_len _).1, List.length_take]; unfold maxLen; omega) rfl rfl rfl (fun v7 w7 hR7 hm7 ho7 => ?_))
          have hH7 := (hH1).first (own3 := _ :: _) hm7 (by intro y hy; rcases List.mem_cons.1 hy with rfl | hy; exact .inr hb61; exact .inl ⟨y, hy, rfl⟩) (rw_snoc hR7) ho7 (fun y hy => ⟨y, List.mem_cons_of_mem _ hy, rfl⟩)
          refine wl_go rfl (wo_val rfl (rv_assign rfl) rfl rfl ?_)
          refine wl_nil ?_
          refine wq_in_normal ?_
          refine wq_then ?_
          refine wc_region ?_
          refine wl_go rfl (wo_val rfl (rv_add rfl rfl (by omega)) rfl rfl ?_)
          refine wl_go rfl (wo_val rfl (rv_move rfl) rfl rfl ?_)
          refine wl_nil ?_
          have e1 : onceF (g.rules.take (k + 1)) = ((onceF (g.rules.take k)).1, (onceF (g.rules.take k)).2 ++ [((onceF (g.rules.take k)).1.idxOf r : Int)]) := by
            rw [List.take_add_one, hr, Option.toList_some, onceF_snoc]
            unfold onceS
            rw [hcy]; rfl
          refine wq_round ⟨_, _, ⟨k + 1, _, es, clock, D, v7, _, vs, by omega, hM, ?_, by omega, ?_, ?_, rfl, rfl, rfl⟩, by omega, by repeat (first | exact sub_nil | refine sub_cons rfl ?_)⟩
          · rw [e1]; exact hD
          · rw [e1]; exact hvl
          · rw [e1, List.map_append]
            have h8 := tells_at hD hcy
            rw [h8] at hH7
            exact hH7
      · simp only [decide_eq_true_eq, decide_eq_false_iff_not, Bool.not_eq_true', Bool.not_eq_false', bne_iff_ne, beq_iff_eq, bne_eq_false_iff_eq, beq_eq_false_iff_ne, Int.not_lt, Int.not_le] at hc32
        obtain rfl : k = g.rules.length := by omega
        simp only [List.take_length] at hvl hH
        refine wc_exit ?_
        refine wq_then_exit ?_
        refine wq_then_exit ?_
        refine wq_in_here ?_
        refine wq_then ?_
        refine wc_seq ?_
        refine wc_region ?_
        refine wl_go rfl (wo_val rfl (rv_load_own_row rfl) rfl rfl ?_)
        refine wl_go rfl (wo_val rfl (rv_move rfl) rfl rfl ?_)
        refine wl_go rfl (wo_st rfl rfl rfl rfl rfl rfl rfl ?_)
        refine wl_go rfl (wo_val rfl (rv_assign rfl) rfl rfl ?_)
        refine wl_nil ?_
        refine wq_then ?_
        refine wc_ret ?_
        refine wq_ret2 rfl rfl (rr_row rfl) (rr_tmp rfl) (fun w9 hs9 => ?_)
        have e1 : onceG g = { g with rules := (onceF g.rules).1 } := by unfold onceG; rw [hbad]; rfl
        have e2 : onceL g = (onceF g.rules).2 := by unfold onceL; rw [hbad]; rfl
        rw [e1, e2]
        have hS := hH.ends hs9 rfl
        have hnum := (hS.row (3, vn, (onceF g.rules).2.map iv) (by simp)).own
        simp only [List.length_map] at hnum
        refine ⟨⟨p1, c1, p2, c2, pr, cr⟩, vn, by first | (rw [hvl]; rfl) | rw [hvl], ⟨rv_slice_of (hS.row (9, .slice p1 g.names.length c1, g.names.map sv) (by simp)).own, rv_slice_of (hS.row (3, .slice p2 g.tokens.length c2, g.tokens.map iv) (by simp)).own, rr_rows (rv_slice_of (hS.row (50, .slice pr vs.length cr, vs) (by simp)).own) hvl (fun y hy => hS.row y (by simp [hy])) hs9.name⟩, hnum, hs9.below rfl⟩
end Go.Proofs.Ytlppkbfkajionaa.Cm
