/- The walks of grammars: Useful. -/
import Derived.Test.YtlppkbfkajionaaCmJ
namespace Go.Proofs.Ytlppkbfkajionaa.Cm
open Go Go.RowKit Gw Go.Shelf
set_option linter.unusedSimpArgs false
set_option linter.unusedVariables false
set_option linter.unusedSectionVars false
/-- a symbol's new number -/
def lk (nl : List Int) (x : Int) : Int := nl.getD x.toNat 0
set_option maxHeartbeats 1000000 in
theorem u3_calls (bp : Nat) (p : Option Addr) (c : Nat) (nl : List Int) (q : Option Addr) (d : Nat) (r : List Int) (w : World) (hb : Boxed w bp [.slice p nl.length c]) (hr : Rv w p c (nl.map iv)) (hv : Rv w q d (r.map iv)) (hlen : r.length ≤ 1000000) (hin : ∀ x ∈ r, 0 ≤ x ∧ x < (nl.length : Int)) : Calls Try.prog 107 #[.slice q r.length d, .pointer (some ⟨bp, 0, none⟩)] w fun e w' => ∃ v, e = .returned v ∧ w'.ownsRow w.heap.size 3 1 v r.length ((r.map (lk nl)).map iv) ∧ Below w.heap.size w w' := by
  refine calls_start Try.func107 rfl (N := 22) rfl rfl _ (St.start _) rfl ?_
  refine wc_seq ?_
  refine wc_region ?_
  refine wl_go rfl (wo_val rfl (rv_assign rfl) rfl rfl ?_)
  refine wl_nil ?_
  refine wq_then ?_
  refine wc_seq ?_
  refine wc_region ?_
  refine wl_go rfl (wo_val rfl (rv_assign rfl) rfl rfl ?_)
  refine wl_nil ?_
  refine wq_then ?_
  refine wc_seq ?_
  refine wc_seq ?_
  refine wc_region ?_
  refine wl_go rfl (wo_val rfl (rv_move rfl) rfl rfl ?_)
  refine wl_go rfl (wo_val rfl (rv_len rfl) rfl rfl ?_)
  refine wl_go rfl (wo_val rfl (rv_move rfl) rfl rfl ?_)
  refine wl_nil ?_
  refine wq_then ?_
  refine wc_block ?_
  refine wc_loop (fun m l S => ∃ (k : Nat) (v : Value) (w1 : World), k ≤ r.length ∧ Rw ⟨w, G0, w1, []⟩ 3 1 v ((r.take k).map (lk nl)).length (((r.take k).map (lk nl)).map iv) ∧ m = r.length - k ∧ l = [(1, .pointer (some ⟨bp, 0, none⟩)), (4, v), (7, .slice q r.length d), (8, iv (r.length : Int)), (9, iv (k : Int))] ∧ S = ⟨w, G0, w1, []⟩) ⟨_, _, ⟨0, .slice none 0 0, w, Nat.zero_le _, Rw.nil _ _ _, rfl, rfl, rfl⟩, by repeat (first | exact sub_nil | refine sub_cons rfl ?_)⟩ ?_
  intro m l S hJ
  obtain ⟨k, v, w1, hk, hR, rfl, rfl, rfl⟩ := hJ
  refine wc_seq ?_
  refine wc_region ?_
  refine wl_go rfl (wo_val rfl (rv_cmp_i rfl rfl rfl) rfl rfl ?_)
  refine wl_nil ?_
  refine wq_then ?_
  refine wc_seq ?_
  refine wc_cond rfl (fun hc10 => ?_) (fun hc10 => ?_)
  · simp only [decide_eq_true_eq, decide_eq_false_iff_not, Bool.not_eq_true', Bool.not_eq_false', bne_iff_ne, beq_iff_eq, bne_eq_false_iff_eq, beq_eq_false_iff_ne, Int.not_lt, Int.not_le] at hc10
    obtain ⟨x, hx⟩ := getE (l := r) (i := k) (by omega)
    have hxr := hin x (List.mem_of_getElem? hx)
    obtain ⟨g0, o0, rfl, hcx⟩ := hv.read (map_get hx)
    obtain ⟨z, hz⟩ := getE (l := nl) (i := x.toNat) (by omega)
    have hlk : lk nl x = z := by unfold lk; rw [List.getD_eq_getElem?_getD, hz]; rfl
    obtain ⟨g1, o1, rfl, hcn⟩ := hr.read (map_get hz)
    refine wc_skip ?_
    refine wq_then ?_
    refine wc_seq ?_
    refine wc_block ?_
    refine wc_seq ?_
    refine wc_region ?_
    refine wl_go rfl (wo_val rfl (rv_indexAddr rfl rfl (by omega)) rfl rfl ?_)
    refine wl_go rfl (wo_val rfl (rv_load_cell rfl (fun w4 hs4 => hcx w4 (hs4.below rfl))) rfl rfl ?_)
    refine wl_go rfl (wo_val rfl (rv_assign rfl) rfl rfl ?_)
    refine wl_nil ?_
    refine wq_then ?_
    refine wc_region ?_
    refine wl_go rfl (wo_val rfl (rv_move rfl) rfl rfl ?_)
    refine wl_go rfl (wo_val rfl (rv_load_cell rfl (fun w4 hs4 => hb.cell (hs4.below rfl) 0 rfl)) rfl rfl ?_)
    refine wl_go rfl (wo_val rfl (rv_move rfl) rfl rfl ?_)
    refine wl_go rfl (wo_val rfl (rv_indexAddr rfl rfl (by omega)) rfl rfl ?_)
    refine wl_go rfl (wo_val rfl (rv_load_cell rfl (fun w4 hs4 => hcn w4 (hs4.below rfl))) rfl rfl ?_)
    refine wl_go rfl (wo_bs [_] rfl rfl rfl (⟨rfl, rfl, ⟨_, rfl, rfl⟩, trivial⟩) rfl rfl (fun b18 hb18 => ?_))
    refine wl_go rfl (wo_append rfl rfl rfl rfl rfl [] ⟨[_], rfl⟩ (hR.beside hb18 |>.ids rfl) (by rw [List.length_map, List.length_take]; unfold maxLen; omega) rfl rfl rfl (fun v6 w6 hR6 hm6 ho6 => ?_))
    refine wl_go rfl (wo_val rfl (rv_assign rfl) rfl rfl ?_)
    refine wl_nil ?_
    refine wq_in_normal ?_
    refine wq_then ?_
    refine wc_region ?_
    refine wl_go rfl (wo_val rfl (rv_add rfl rfl (by omega)) rfl rfl ?_)
    refine wl_go rfl (wo_val rfl (rv_move rfl) rfl rfl ?_)
    refine wl_nil ?_
    refine wq_round ⟨_, _, ⟨k + 1, v6, _, by omega, ?_, rfl, rfl, rfl⟩, by omega, by repeat (first | exact sub_nil | refine sub_cons rfl ?_)⟩
    rw [List.take_add_one, hx, Option.toList_some, List.map_append, List.map_append, List.length_append]
    show Rw _ 3 1 v6 _ (_ ++ [iv (lk nl x)])
    rw [hlk]
    exact hR6
  · simp only [decide_eq_true_eq, decide_eq_false_iff_not, Bool.not_eq_true', Bool.not_eq_false', bne_iff_ne, beq_iff_eq, bne_eq_false_iff_eq, beq_eq_false_iff_ne, Int.not_lt, Int.not_le] at hc10
    obtain rfl : k = r.length := by omega
    simp only [List.take_length] at hR
    refine wc_exit ?_
    refine wq_then_exit ?_
    refine wq_then_exit ?_
    refine wq_in_here ?_
    refine wq_then ?_
    refine wc_seq ?_
    refine wc_region ?_
    refine wl_go rfl (wo_val rfl (rv_move rfl) rfl rfl ?_)
    refine wl_go rfl (wo_val rfl (rv_assign rfl) rfl rfl ?_)
    refine wl_nil ?_
    refine wq_then ?_
    refine wc_ret ?_
    refine wq_ret1 rfl rfl (rr_tmp rfl) (fun w9 hs9 => ?_)
    have h := hR.at hs9
    rw [List.length_map] at h
    exact ⟨_, rfl, h, hs9.below rfl⟩

/-- rules whose symbols all make rows of tokens -/
def rules1 (g : Gr) : List (List Int) := g.rules.filter fun r => !(r.any fun n => !bg (markF g true) n)
def below1 (g : Gr) : List Bool := reachR (rules1 g) g.start g.names.length
/-- the new numbers, and the names that stay, of the first ones -/
def numS (g : Gr) (τ : List Bool) : Nat → List Int × List Bs
  | 0 => ([], [])
  | k + 1 => if decide (g.terms ≤ (k : Int)) && !bg τ (k : Int) then ((numS g τ k).1 ++ [-1], (numS g τ k).2) else ((numS g τ k).1 ++ [((numS g τ k).2.length : Int)], (numS g τ k).2 ++ [g.names.getD k []])
theorem numS_len (g : Gr) (τ : List Bool) : ∀ k, (numS g τ k).1.length = k ∧ (numS g τ k).2.length ≤ k
  | 0 => ⟨rfl, Nat.le_refl _⟩
  | k + 1 => by
    obtain ⟨h1, h2⟩ := numS_len g τ k
    unfold numS
    split <;> simp <;> omega
def numF (g : Gr) : List Int × List Bs := numS g (below1 g) g.names.length
def rules2 (nl : List Int) (τ : List Bool) (rs : List (List Int)) : List (List Int) := (rs.filter fun r => bg τ (r.headD 0)).map fun r => r.map (lk nl)
theorem rules2_snoc (nl : List Int) (τ : List Bool) (rs : List (List Int)) (r : List Int) : rules2 nl τ (rs ++ [r]) = rules2 nl τ rs ++ (if bg τ (r.headD 0) then [r.map (lk nl)] else []) := by
  unfold rules2
  rw [List.filter_append, List.map_append]
  congr 1
  cases h : bg τ (r.headD 0) <;> simp only [List.filter_cons, h, List.filter_nil] <;> rfl
theorem rules2_len (nl : List Int) (τ : List Bool) (rs : List (List Int)) : (rules2 nl τ rs).length ≤ rs.length := by
  unfold rules2
  rw [List.length_map]
  exact List.length_filter_le _ _
def usefulE (g : Gr) : Int := if okB g then (if bg (markF g true) g.start then 0 else 152) else 1
def usefulG (g : Gr) : Gr := if okB g && bg (markF g true) g.start then ⟨(numF g).2, g.terms, g.tokens, rules2 (numF g).1 (below1 g) (rules1 g), lk (numF g).1 g.start⟩ else zeroG
def usefulL (g : Gr) : List Int := if okB g && bg (markF g true) g.start then (numF g).1 else []
theorem rr_vals {w : World} {p : Option Addr} {c : Nat} {rs : List (List Int)} (h : Rr w p c rs) : ∃ vs, Rv w p c vs ∧ Vals w vs rs ∧ ∀ u ∈ vs, u.oneCell' = true := by
  have hex : ∀ i : Nat, ∃ v, ∀ r, rs[i]? = some r → ∃ g o q d, p = some ⟨g, o, none⟩ ∧ w.cell? ⟨g, o + i * 1, none⟩ = some v ∧ v = .slice q r.length d ∧ Rv w q d (r.map iv) := fun i => by
    cases hr : rs[i]? with
    | none => exact ⟨.slice none 0 0, fun r h => by cases h⟩
    | some r =>
      obtain ⟨g, o, q, d, hp, hc, hv⟩ := h.at_ i r hr
      exact ⟨_, fun r2 h2 => by cases h2; exact ⟨g, o, q, d, hp, hc, rfl, hv⟩⟩
  obtain ⟨f, hf⟩ := Classical.axiomOfChoice hex
  have hat : ∀ (i : Nat) v, ((List.range rs.length).map f)[i]? = some v → ∃ r, rs[i]? = some r ∧ v = f i := fun i v hv => by
    have hlt := (List.getElem?_eq_some_iff.1 hv).1
    rw [List.length_map, List.length_range] at hlt
    rw [List.getElem?_map, List.getElem?_range hlt] at hv
    exact ⟨rs[i], List.getElem?_eq_getElem hlt, by simpa using hv.symm⟩
  refine ⟨(List.range rs.length).map f, ⟨by simpa using h.cap, fun i u hu => ?_⟩, ⟨by simp, fun i v r hv hr => ?_⟩, fun u hu => ?_⟩
  · obtain ⟨r, hr, rfl⟩ := hat i u hu
    obtain ⟨g, o, q, d, hp, hc, _⟩ := hf i r hr
    exact ⟨g, o, hp, hc⟩
  · obtain ⟨_, _, rfl⟩ := hat i v hv
    obtain ⟨g, o, q, d, _, _, e, hq⟩ := hf i r hr
    exact ⟨q, d, e, hq⟩
  · obtain ⟨i, hi, rfl⟩ := List.mem_map.1 hu
    have hi := List.mem_range.1 hi
    obtain ⟨g, o, q, d, _, _, e, _⟩ := hf i _ (List.getElem?_eq_getElem hi)
    rw [e]; rfl
/-- the walk begins anew in a state's world -/
theorem st_again {W w0 w : World} {gs : Gx} {own own2 : List Blk} (h : St ⟨W, gs, w0, own⟩ w) (hsub : ∀ x ∈ own2, x ∈ own) (hap : own2.Pairwise (fun x y => x.b ≠ y.b)) : St ⟨w, ⟨own2.map (·.b), gs.ds⟩, w, own2⟩ w :=
  ⟨rfl, rfl, rfl, Nat.le_refl _, Nat.le_refl _, fun _ _ _ => rfl, fun _ _ _ => rfl, hap, fun x hx => .inl (List.mem_map_of_mem hx), fun x hx => h.blk x (hsub x hx)⟩
theorem wc_again {P : Program} {r : Option Nat} {n : Nat} {c : Code} {Q : Exit → Act → World → Prop} {N : Nat} {l : List (Nat × Value)} {W w0 : World} {gs : Gx} {own : List Blk} (own2 : List Blk) (hsub : ∃ pre, pre ++ own2 = own) (next : ∀ w1, St ⟨W, gs, w0, own⟩ w1 → WC P r n c Q N l ⟨w1, ⟨own2.map (·.b), gs.ds⟩, w1, own2⟩) : WC P r n c Q N l ⟨W, gs, w0, own⟩ := fun a w ha hs => by
  obtain ⟨pre, rfl⟩ := hsub
  exact next w hs a w ⟨ha.defers, ha.size, ha.slot⟩ (st_again hs (fun x hx => by simp [hx]) (List.pairwise_append.1 hs.apart).2.1)
theorem Vals.same {w w5 : World} {vs : List Value} {rs : List (List Int)} (h : Vals w vs rs) (hb : ∀ k, k < w.heap.size → w5.heap[k]? = w.heap[k]?) : Vals w5 vs rs := h.keep (fun g k u _ hc => cell_same (hb g (cell_lt hc)) hc)
theorem Gm.same {w w5 : World} {x : GS} {g : Gr} (h : Gm w x g) (hb : ∀ k, k < w.heap.size → w5.heap[k]? = w.heap[k]?) : Gm w5 x g := h.keep (fun g k u _ hc => cell_same (hb g (cell_lt hc)) hc)
theorem Hp.mut {W w0 w1 : World} {gs gs' : Gx} {own own' : List Blk} {L : List RowOf} {e B : Nat} {v : Value} {xs : List Value} (h : Hp ⟨W, gs, w0, own⟩ ((e, v, xs) :: L)) (hv : v.ownBlock = some B) (hm : Moved ⟨W, gs', w0, own'⟩ (some B) w1) (hi : own'.map (·.b) = own.map (·.b)) : Hp ⟨W, gs, w1, own⟩ L := by
  obtain ⟨h1, h2⟩ := List.pairwise_cons.1 h.ap
  refine ⟨fun y hy => ?_, h2⟩
  have hr := h.row y (List.mem_cons_of_mem _ hy)
  refine ⟨own_moved hr.own fun b hb => hm.block b (hr.lt b hb).2 (fun x hx e2 => ?_) (fun e2 => h1 y hy B hv (by rw [hb]; exact e2)), hr.off⟩
  have hm2 : x.b ∈ own.map (·.b) := hi ▸ List.mem_map_of_mem hx
  obtain ⟨z, hz, e3⟩ := List.mem_map.1 hm2
  exact hr.off z hz (by rw [hb, e3, e2])
/-- old blocks but two lie as they lay -/
def Old (W1 : World) (b1 b2 : Nat) (w4 : World) : Prop := ∀ k, k < W1.heap.size → k ≠ b1 → k ≠ b2 → w4.heap[k]? = W1.heap[k]?
theorem old_refl (W1 : World) (b1 b2 : Nat) : Old W1 b1 b2 W1 := fun _ _ _ _ => rfl
theorem rr_one {W1 : World} {b1 b2 B c : Nat} {rs : List (List Int)} (h : ∀ w4, Old W1 b1 b2 w4 → Rr w4 (some ⟨B, 0, none⟩) c rs) (hB : B ≠ b1 ∧ B ≠ b2) {k : Nat} {r : List Int} (hr : rs[k]? = some r) : ∃ q d, ∀ w4, Old W1 b1 b2 w4 → w4.cell? ⟨B, 0 + k * 1, none⟩ = some (.slice q r.length d) ∧ Rv w4 q d (r.map iv) := by
  obtain ⟨g, o, q, d, hp, hc, _⟩ := (h W1 (old_refl W1 b1 b2)).at_ k r hr
  cases hp
  refine ⟨q, d, fun w4 h4 => ?_⟩
  obtain ⟨g', o', q', d', hp', hc', hv'⟩ := (h w4 h4).at_ k r hr
  cases hp'
  have h5 := cell_same (h4 B (cell_lt hc) hB.1 hB.2) hc
  rw [hc'] at h5
  cases h5
  exact ⟨hc', hv'⟩
theorem rv_one {W1 : World} {b1 b2 : Nat} {x : GS} {g : Gr} (h : ∀ w4, Old W1 b1 b2 w4 → Gm w4 x g) {g0 o0 : Nat} (hnp : x.np = some ⟨g0, o0, none⟩) {k : Nat} {s : Bs} (hk : g.names[k]? = some s) {w4 : World} (h4 : Old W1 b1 b2 w4) : w4.cell? ⟨g0, o0 + k * 1, none⟩ = some (sv s) := by
  obtain ⟨g', o', hp', hc⟩ := (h w4 h4).names.at_ k _ (map_get hk)
  rw [hnp] at hp'
  cases hp'
  exact hc
set_option maxHeartbeats 4000000 in
theorem useful_calls (x : GS) (g : Gr) (w : World) (hg : Gm w x g) : Calls Try.prog 40 #[.agg (gC x g).toArray] w fun e w' => ∃ x1 v, e = .returned (.tuple #[.agg (gC x1 (usefulG g)).toArray, v, iv (usefulE g)]) ∧ Gm w' x1 (usefulG g) ∧ w'.ownsRow w.heap.size 3 1 v (usefulL g).length ((usefulL g).map iv) ∧ Below w.heap.size w w' := by
  refine calls_start Try.func40 rfl (N := 115) rfl rfl _ (St.start _) rfl ?_
  refine wc_seq ?_
  refine wc_region ?_
  refine wl_go rfl (wo_box rfl rfl rfl rfl rfl (fun b1 hb1 => ?_))
  refine wl_go rfl (wo_alloc rfl rfl rfl (fun b2 hb2 => ?_))
  refine wl_go rfl (wo_val rfl (rv_assign rfl) rfl rfl ?_)
  refine wl_go rfl (wo_val rfl (rv_assign rfl) rfl rfl ?_)
  refine wl_nil ?_
  refine wq_then ?_
  refine wc_seq ?_
  refine wc_seq ?_
  refine wc_region ?_
  refine wl_go rfl (wo_val rfl (rv_load_own_row rfl) rfl rfl ?_)
  refine wl_go rfl (wo_call (R := fun _ v _ => v = _) rfl rfl (enters_of Try.func95 (by kernel_rfl) rfl) rfl rfl rfl (fun w4 hs4 => (cright_calls x g w4 (hg.below (hs4.below rfl))).mono fun e w' h => ⟨_, h.1, rfl, h.2⟩) (fun w2 v w3 hs2 hv hb2 hm2 => ?_))
  subst hv
  refine wl_go rfl (wo_val rfl (rv_not rfl) rfl rfl ?_)
  refine wl_nil ?_
  refine wq_then ?_
  refine wc_cond rfl (fun hc18 => ?_) (fun hc18 => ?_)
  · simp only [decide_eq_true_eq, decide_eq_false_iff_not, Bool.not_eq_true', Bool.not_eq_false', bne_iff_ne, beq_iff_eq, bne_eq_false_iff_eq, beq_eq_false_iff_ne, Int.not_lt, Int.not_le] at hc18
    have hbad : okB g = false := hc18
    refine wc_seq ?_
    refine wc_region ?_
    refine wl_go rfl (wo_val rfl (rv_build [] (trivial)) rfl rfl ?_)
    refine wl_go rfl (wo_st rfl rfl rfl rfl rfl rfl rfl ?_)
    refine wl_go rfl (wo_val rfl (rv_assign rfl) rfl rfl ?_)
    refine wl_go rfl (wo_val rfl (rv_assign rfl) rfl rfl ?_)
    refine wl_nil ?_
    refine wq_then ?_
    refine wc_ret ?_
    refine wq_then_ret ?_
    refine wq_ret3 rfl rfl (rr_row rfl) (rr_tmp rfl) (rr_tmp rfl) (fun w9 hs9 => ?_)
    have e1 : usefulG g = zeroG := by unfold usefulG; rw [hbad]; rfl
    have e2 : usefulL g = [] := by unfold usefulL; rw [hbad]; rfl
    have e3 : usefulE g = 1 := by unfold usefulE; rw [hbad]; rfl
    rw [e1, e2, e3]
    exact ⟨zeroX, _, rfl, zero_gm _, World.ownsRow_nil _ _ _ _, hs9.below rfl⟩
  · simp only [decide_eq_true_eq, decide_eq_false_iff_not, Bool.not_eq_true', Bool.not_eq_false', bne_iff_ne, beq_iff_eq, bne_eq_false_iff_eq, beq_eq_false_iff_ne, Int.not_lt, Int.not_le] at hc18
    have hok := (okB_iff g).1 hc18
    have hgood : okB g = true := hc18
    have hnm := hok.nm
    have hr1 := hok.r1
    have hr2 := hok.r2
    have hst := hok.start
    have ht0 := hok.t0
    have ht1 := hok.t1
    have hml := markF_len hgood true
    obtain ⟨vs, hvv, hvals, hone⟩ := rr_vals hg.rules
    have hI1 : Ins g.names.length (rules1 g) := fun r hr => hok.ins r (List.mem_filter.1 hr).1
    refine wc_skip ?_
    refine wq_then ?_
    refine wc_seq ?_
    refine wc_region ?_
    refine wl_go rfl (wo_val rfl (rv_load_own_row rfl) rfl rfl ?_)
    refine wl_go rfl (wo_call (R := fun w2 v w3 => ∃ p c, v = .slice p (markF g true).length c ∧ w3.ownsRow w2.heap.size 4 1 (.slice p (markF g true).length c) (markF g true).length ((markF g true).map bv)) rfl rfl (enters_of Try.func41 (by kernel_rfl) rfl) rfl rfl rfl (fun w4 hs4 => (productive_calls x g w4 (hg.below (hs4.below rfl))).mono fun e w' h => let ⟨p, c, h1, h2, h4, h3⟩ := h; ⟨_, h1, ⟨p, c, rfl, h4⟩, h3⟩) (fun w2p vp w3p hs2p hvp hb2p hm2p => ?_))
    obtain ⟨p5, c5, rfl, hbo⟩ := hvp
    obtain ⟨g5, o5, rfl, _⟩ := (rv_slice_of hbo).at_ g.start.toNat _ (map_get (f := bv) (bg_get (n := g.start) (by omega)))
    have hH1 := Hp.one (rw_conv (rw_fresh (gs' := G0) hs2p hbo) (by rw [List.length_map]) rfl)
    refine wl_go rfl (wo_alloc rfl rfl rfl (fun b5 hb5 => ?_))
    refine wl_go rfl (wo_st rfl rfl rfl rfl rfl rfl rfl ?_)
    have hH2 := (hH1.beside (o := .cells #[] 0) hb5).ids (gs' := G0) (own' := [⟨b5, .cells ([.slice (some ⟨g5, o5, none⟩) (markF g true).length c5] : List Value).toArray 28 (0, 0)⟩, ⟨b2, .cells ([.slice none 0 0, .int .i64 0, .slice none 0 0, .slice none 0 0, .int .i64 0] : List Value).toArray 53 (0, 0)⟩, ⟨b1, .cells (gC x g).toArray 53 (0, 0)⟩]) rfl
    refine wl_nil ?_
    refine wq_then ?_
    refine wc_seq ?_
    refine wc_seq ?_
    refine wc_region ?_
    refine wl_go rfl (wo_val rfl (rv_load_own rfl rfl) rfl rfl ?_)
    refine wl_go rfl (wo_val rfl (rv_fieldAddr rfl) rfl rfl ?_)
    refine wl_go rfl (wo_val rfl (rv_load_own rfl rfl) rfl rfl ?_)
    refine wl_go rfl (wo_val rfl (rv_indexAddr rfl rfl (by omega)) rfl rfl ?_)
    refine wl_go rfl (wo_val rfl (rv_load_cell (v := bv (bg (markF g true) g.start)) rfl (fun w4 hs4 => rw_cell (rw_conv (hH2.row (4, .slice (some ⟨g5, o5, none⟩) (markF g true).length c5, (markF g true).map bv) (by simp)) (by rw [List.length_map]) rfl) (map_get (bg_get (by omega))) hs4)) rfl rfl ?_)
    refine wl_go rfl (wo_val rfl (rv_not rfl) rfl rfl ?_)
    refine wl_nil ?_
    refine wq_then ?_
    refine wc_cond rfl (fun hc27 => ?_) (fun hc27 => ?_)
    · simp only [decide_eq_true_eq, decide_eq_false_iff_not, Bool.not_eq_true', Bool.not_eq_false', bne_iff_ne, beq_iff_eq, bne_eq_false_iff_eq, beq_eq_false_iff_ne, Int.not_lt, Int.not_le] at hc27
      have hbad : bg (markF g true) g.start = false := hc27
      refine wc_seq ?_
      refine wc_region ?_
      refine wl_go rfl (wo_val rfl (rv_build [] (trivial)) rfl rfl ?_)
      refine wl_go rfl (wo_st rfl rfl rfl rfl rfl rfl rfl ?_)
      refine wl_go rfl (wo_val rfl (rv_assign rfl) rfl rfl ?_)
      refine wl_go rfl (wo_val rfl (rv_assign rfl) rfl rfl ?_)
      refine wl_nil ?_
      refine wq_then ?_
      refine wc_ret ?_
      refine wq_then_ret ?_
      refine wq_ret3 rfl rfl (rr_row rfl) (rr_tmp rfl) (rr_tmp rfl) (fun w9 hs9 => ?_)
      have e1 : usefulG g = zeroG := by unfold usefulG; rw [hgood, hbad]; rfl
      have e2 : usefulL g = [] := by unfold usefulL; rw [hgood, hbad]; rfl
      have e3 : usefulE g = 152 := by unfold usefulE; rw [hgood, hbad]; rfl
      rw [e1, e2, e3]
      exact ⟨zeroX, _, rfl, zero_gm _, World.ownsRow_nil _ _ _ _, hs9.below rfl⟩
    · simp only [decide_eq_true_eq, decide_eq_false_iff_not, Bool.not_eq_true', Bool.not_eq_false', bne_iff_ne, beq_iff_eq, bne_eq_false_iff_eq, beq_eq_false_iff_ne, Int.not_lt, Int.not_le] at hc27
      have hprod : bg (markF g true) g.start = true := hc27
      refine wc_skip ?_
      refine wq_then ?_
      refine wc_seq ?_
      refine wc_region ?_
      refine wl_go rfl (wo_val rfl (rv_makeFunc rfl rfl) rfl rfl ?_)
      refine wl_go rfl (wo_alloc rfl rfl rfl (fun b6 hb6 => ?_))
      refine wl_go rfl (wo_st rfl rfl rfl rfl rfl rfl rfl ?_)
      have hH3 := (hH2.beside (o := .cells #[] 0) hb6).ids (gs' := G0) (own' := [⟨b6, .cells ([.func (.func 101) #[] #[.pointer (some ⟨b5, 0, none⟩)]] : List Value).toArray 154 (0, 0)⟩, ⟨b5, .cells ([.slice (some ⟨g5, o5, none⟩) (markF g true).length c5] : List Value).toArray 28 (0, 0)⟩, ⟨b2, .cells ([.slice none 0 0, .int .i64 0, .slice none 0 0, .slice none 0 0, .int .i64 0] : List Value).toArray 53 (0, 0)⟩, ⟨b1, .cells (gC x g).toArray 53 (0, 0)⟩]) rfl
      refine wl_nil ?_
      refine wq_then ?_
      refine wc_seq ?_
      refine wc_region ?_
      refine wl_go rfl (wo_val rfl (rv_fieldAddr rfl) rfl rfl ?_)
      refine wl_go rfl (wo_val rfl (rv_load_own rfl rfl) rfl rfl ?_)
      refine wl_go rfl (wo_call (R := fun w2 v w3 => w3.ownsRow w2.heap.size 50 1 v g.rules.length vs) rfl rfl (enters_of Try.func103 (by kernel_rfl) rfl) rfl rfl rfl (fun w4 hs4 => (rclone_callsN x.rp x.rc _ vs hvals.1 w4 (hvv.below (hs4.below rfl)) hone (by omega)).mono fun e w' h => let ⟨v, h1, h2, h3⟩ := h; ⟨v, h1, h2, h3⟩) (fun w2c vc w3c hs2c hvc hb2c hm2c => ?_))
      have hH4 := hH3.new hs2c hm2c hvc
      obtain ⟨B, cap, cur, rfl, hBb, hBh, hBn, hBm, hBs, hBt⟩ : ∃ B cap cur, vc = .slice (some ⟨B, 0, none⟩) g.rules.length cap ∧ w2c.heap.size ≤ B ∧ w3c.heap[B]? = some (.cells cur 50 (0, 0)) ∧ g.rules.length ≤ cap ∧ cap ≤ maxLen ∧ cur.size = cap * 1 ∧ cur.toList.take (g.rules.length * 1) = vs := by
        rcases hvc.2 with ⟨_, h⟩ | h
        · omega
        · exact h
      have hoffB : ∀ y ∈ ([⟨b6, .cells ([.func (.func 101) #[] #[.pointer (some ⟨b5, 0, none⟩)]] : List Value).toArray 154 (0, 0)⟩, ⟨b5, .cells ([.slice (some ⟨g5, o5, none⟩) (markF g true).length c5] : List Value).toArray 28 (0, 0)⟩, ⟨b2, .cells ([.slice none 0 0, .int .i64 0, .slice none 0 0, .slice none 0 0, .int .i64 0] : List Value).toArray 53 (0, 0)⟩, ⟨b1, .cells (gC x g).toArray 53 (0, 0)⟩] : List Blk), y.b ≠ B := fun y hy e => hH4.head.off y hy (by rw [e]; rfl)
      have hBlt := (Array.getElem?_eq_some_iff.1 hBh).1
      have hBw : w.heap.size ≤ B := (hH4.head.lt B rfl).1
      obtain ⟨cl, rfl⟩ : ∃ cl : List Value, cur = cl.toArray := ⟨cur.toList, by simp⟩
      simp only [Nat.mul_one, List.size_toArray] at hBs hBt
      have hask : ∀ {w4}, St ⟨w, G0, w3c, [⟨b6, .cells ([.func (.func 101) #[] #[.pointer (some ⟨b5, 0, none⟩)]] : List Value).toArray 154 (0, 0)⟩, ⟨b5, .cells ([.slice (some ⟨g5, o5, none⟩) (markF g true).length c5] : List Value).toArray 28 (0, 0)⟩, ⟨b2, .cells ([.slice none 0 0, .int .i64 0, .slice none 0 0, .slice none 0 0, .int .i64 0] : List Value).toArray 53 (0, 0)⟩, ⟨b1, .cells (gC x g).toArray 53 (0, 0)⟩]⟩ w4 → AsksR w4 B 104 [.pointer (some ⟨b6, 0, none⟩)] (fun r => r.any fun n => !bg (markF g true) n) g.rules := fun hs4 r hr q d w5 hg5 hv => u2_calls b6 b5 (some ⟨g5, o5, none⟩) c5 (markF g true) q d r w5 (Boxed.of ((hg5.block b6 (hs4.lt (x := ⟨b6, .cells ([.func (.func 101) #[] #[.pointer (some ⟨b5, 0, none⟩)]] : List Value).toArray 154 (0, 0)⟩) (by simp)) (by have := hoffB ⟨b6, .cells ([.func (.func 101) #[] #[.pointer (some ⟨b5, 0, none⟩)]] : List Value).toArray 154 (0, 0)⟩ (by simp); simpa using this)).trans (hs4.blk ⟨b6, .cells ([.func (.func 101) #[] #[.pointer (some ⟨b5, 0, none⟩)]] : List Value).toArray 154 (0, 0)⟩ (by simp)))) (Boxed.of ((hg5.block b5 (hs4.lt (x := ⟨b5, .cells ([.slice (some ⟨g5, o5, none⟩) (markF g true).length c5] : List Value).toArray 28 (0, 0)⟩) (by simp)) (by have := hoffB ⟨b5, .cells ([.slice (some ⟨g5, o5, none⟩) (markF g true).length c5] : List Value).toArray 28 (0, 0)⟩ (by simp); simpa using this)).trans (hs4.blk ⟨b5, .cells ([.slice (some ⟨g5, o5, none⟩) (markF g true).length c5] : List Value).toArray 28 (0, 0)⟩ (by simp)))) (rv_slice_of (own_moved ((hH4.row (4, .slice (some ⟨g5, o5, none⟩) (markF g true).length c5, (markF g true).map bv) (by simp)).at hs4) (fun b hb => hg5.block b (World.ownsRow.lt ((hH4.row (4, .slice (some ⟨g5, o5, none⟩) (markF g true).length c5, (markF g true).map bv) (by simp)).at hs4) b hb).2 (fun e => (List.pairwise_cons.1 hH4.ap).1 (4, .slice (some ⟨g5, o5, none⟩) (markF g true).length c5, (markF g true).map bv) (by simp) B rfl (by rw [hb]; exact e))))) hv (fun y hy => by rw [hml]; exact (hok.fits hr).all y hy)
      refine wl_go rfl (wo_val rfl (rv_makeFunc rfl rfl) rfl rfl ?_)
      refine wl_go rfl (wo_call_row (q := B) (R := fun w2 v w3 => ∃ c, v = .slice (some ⟨B, 0, none⟩) (rules1 g).length c ∧ ∀ w5, w5.heap[B]? = w3.heap[B]? → Vals w5 vs g.rules → Rr w5 (some ⟨B, 0, none⟩) c (rules1 g)) rfl rfl (enters_of Try.func102 (by kernel_rfl) rfl) rfl rfl rfl (.inr hBw) hoffB (fun w4 hs4 => (del_calls B 104 [.pointer (some ⟨b6, 0, none⟩)] (enters_of Try.func104 (by kernel_rfl) rfl) (fun r => r.any fun n => !bg (markF g true) n) g.rules g.rules.length cap rfl cl vs w4 ((hs4.old0 B hBlt hoffB).trans hBh) ⟨hBs, hBn, by unfold maxLen at hBm; omega⟩ hBt (hvals.same (fun k hk => (hs4.below rfl).block k hk)) (fun w5 hg5 => hvals.same (fun k hk => (hg5.block k (Nat.lt_of_lt_of_le hk (hs4.below rfl).size) (by simp; omega)).trans ((hs4.below rfl).block k hk))) (hask hs4)).mono fun e w' h => let ⟨c, h1, h2, h3⟩ := h; ⟨_, h1, ⟨c, rfl, h2⟩, h3⟩) (fun w2d vd w3d hs2d hvd hg2d hm2d => ?_))
      obtain ⟨c7, rfl, hrr7⟩ := hvd
      have hH5 := hH4.mut rfl hm2d rfl
      have hBlt3 := Nat.lt_of_lt_of_le hBlt (Nat.le_trans hs2d.size0 hg2d.size)
      refine wl_go rfl (wo_val rfl (rv_assign rfl) rfl rfl ?_)
      refine wl_nil ?_
      refine wq_then ?_
      refine wc_seq ?_
      refine wc_region ?_
      refine wl_go rfl (wo_val rfl (rv_fieldAddr0 rfl) rfl rfl ?_)
      refine wl_go rfl (wo_val rfl (rv_load_own rfl rfl) rfl rfl ?_)
      refine wl_go rfl (wo_val rfl (rv_len rfl) rfl rfl ?_)
      refine wl_go rfl (wo_makeSlice (m := g.names.length) rfl rfl rfl rfl rfl (by omega) (fun b38 hb38 => ?_))
      have hoff38 : ∀ y ∈ (⟨b38, .cells ((List.replicate g.names.length false).map bv).toArray 4 (0, 0)⟩ :: [⟨b6, .cells ([.func (.func 101) #[] #[.pointer (some ⟨b5, 0, none⟩)]] : List Value).toArray 154 (0, 0)⟩, ⟨b5, .cells ([.slice (some ⟨g5, o5, none⟩) (markF g true).length c5] : List Value).toArray 28 (0, 0)⟩, ⟨b2, .cells ([.slice none 0 0, .int .i64 0, .slice none 0 0, .slice none 0 0, .int .i64 0] : List Value).toArray 53 (0, 0)⟩, ⟨b1, .cells (gC x g).toArray 53 (0, 0)⟩] : List Blk), y.b ≠ B := fun y hy => by
        rcases List.mem_cons.1 hy with rfl | hy
        · show b38 ≠ B
          omega
        · exact hoffB y hy
      rw [show List.replicate g.names.length (Value.bool false) = (List.replicate g.names.length false).map bv by rw [List.map_replicate]]
      refine wl_go rfl (wo_val rfl (rv_assign rfl) rfl rfl ?_)
      refine wl_nil ?_
      refine wq_then ?_
      refine wc_seq ?_
      refine wc_region ?_
      refine wl_go rfl (wo_val rfl (rv_move rfl) rfl rfl ?_)
      refine wl_go rfl (wo_val rfl (rv_fieldAddr rfl) rfl rfl ?_)
      refine wl_go rfl (wo_val rfl (rv_load_own rfl rfl) rfl rfl ?_)
      refine wl_go rfl (wo_val rfl (rv_move rfl) rfl rfl ?_)
      refine wl_go rfl (wo_call_own (q := b38) (own2 := [⟨b6, .cells ([.func (.func 101) #[] #[.pointer (some ⟨b5, 0, none⟩)]] : List Value).toArray 154 (0, 0)⟩, ⟨b5, .cells ([.slice (some ⟨g5, o5, none⟩) (markF g true).length c5] : List Value).toArray 28 (0, 0)⟩, ⟨b2, .cells ([.slice none 0 0, .int .i64 0, .slice none 0 0, .slice none 0 0, .int .i64 0] : List Value).toArray 53 (0, 0)⟩, ⟨b1, .cells (gC x g).toArray 53 (0, 0)⟩]) (R := fun w2 v w3 => v = .tuple #[] ∧ w3.heap[b38]? = some (.cells ((below1 g).map bv).toArray 4 (0, 0))) rfl rfl (enters_of Try.func106 (by kernel_rfl) rfl) rfl rfl rfl 0 rfl rfl (fun w4 hs4 => (under_calls (rules1 g) (some ⟨B, 0, none⟩) c7 g.names.length (g.names.length + 1) g.start (List.replicate g.names.length false) b38 w4 (by have := falses_le (List.replicate g.names.length false); simp at this; omega) (by simp) (by omega) hst.2 hI1 (hrr7 w4 (hs4.old0 B hBlt3 hoff38) (hvals.same (fun k hk => (hs4.below rfl).block k hk))) (hs4.blk ⟨b38, _⟩ List.mem_cons_self)).mono fun e w' h => let ⟨τ, h1, h2, h3, h4⟩ := h; ⟨_, h1, ⟨rfl, by rw [show below1 g = τ from (und_reach hI1 hst.2 h2).symm]; exact h3⟩, h4⟩) (fun w2u vu w3u hs2u hvu hg2u hm2u hne2u => ?_))
      obtain ⟨rfl, h38⟩ := hvu
      refine wl_nil ?_
      refine wq_then ?_
      refine wc_seq ?_
      refine wc_again [⟨b2, .cells ([.slice none 0 0, .int .i64 0, .slice none 0 0, .slice none 0 0, .int .i64 0] : List Value).toArray 53 (0, 0)⟩, ⟨b1, .cells (gC x g).toArray 53 (0, 0)⟩] ⟨[⟨b6, .cells ([.func (.func 101) #[] #[.pointer (some ⟨b5, 0, none⟩)]] : List Value).toArray 154 (0, 0)⟩, ⟨b5, .cells ([.slice (some ⟨g5, o5, none⟩) (markF g true).length c5] : List Value).toArray 28 (0, 0)⟩], rfl⟩ (fun W1 hW1 => ?_)
      have hbW : Below w.heap.size w W1 := hW1.below rfl
      have hOld : ∀ {wk w4 : World} {own : List Blk} {ds : List Deferred}, St ⟨W1, ⟨[b2, b1], ds⟩, wk, own⟩ w4 → Old W1 b1 b2 w4 := fun hs k hk h1 h2 => hs.oldW k hk (by simp [h1, h2])
      have hOw : ∀ {w4}, Old W1 b1 b2 w4 → ∀ k, k < w.heap.size → w4.heap[k]? = w.heap[k]? := fun h k hk => (h k (Nat.lt_of_lt_of_le hk hbW.size) (by omega) (by omega)).trans (hbW.block k hk)
      have hG4 : ∀ w4, Old W1 b1 b2 w4 → Gm w4 x g := fun w4 h => hg.same (hOw h)
      have hBne : B ≠ b1 ∧ B ≠ b2 := ⟨fun e => hoffB ⟨b1, .cells (gC x g).toArray 53 (0, 0)⟩ (by simp) e.symm, fun e => hoffB ⟨b2, .cells ([.slice none 0 0, .int .i64 0, .slice none 0 0, .slice none 0 0, .int .i64 0] : List Value).toArray 53 (0, 0)⟩ (by simp) e.symm⟩
      have h38ne : b38 ≠ b1 ∧ b38 ≠ b2 := ⟨fun e => hne2u ⟨b1, .cells (gC x g).toArray 53 (0, 0)⟩ (by simp) e.symm, fun e => hne2u ⟨b2, .cells ([.slice none 0 0, .int .i64 0, .slice none 0 0, .slice none 0 0, .int .i64 0] : List Value).toArray 53 (0, 0)⟩ (by simp) e.symm⟩
      have hBlt4 := Nat.lt_of_lt_of_le hBlt3 hs2u.size0
      have hBlt5 := Nat.lt_of_lt_of_le hBlt4 hg2u.size
      have hBW1 : W1.heap[B]? = w3d.heap[B]? := (hW1.old0 B hBlt5 hoffB).trans ((hg2u.block B hBlt4 (by simp; omega)).trans (hs2u.old0 B hBlt3 hoff38))
      have h38lt := (Array.getElem?_eq_some_iff.1 h38).1
      have hR4 : ∀ w4, Old W1 b1 b2 w4 → Rr w4 (some ⟨B, 0, none⟩) c7 (rules1 g) := fun w4 h => hrr7 w4 ((h B (Nat.lt_of_lt_of_le hBlt5 hW1.size0) hBne.1 hBne.2).trans hBW1) (hvals.same (hOw h))
      have hT4 : ∀ w4, Old W1 b1 b2 w4 → w4.heap[b38]? = some (.cells ((below1 g).map bv).toArray 4 (0, 0)) := fun w4 h => (h b38 (Nat.lt_of_lt_of_le h38lt hW1.size0) h38ne.1 h38ne.2).trans ((hW1.old0 b38 h38lt hne2u).trans h38)
      have hTl : (below1 g).length = g.names.length := reachR_len _ _ _
      refine wc_cut (fun l S => ∃ b9 p2 c2 w1, Hp ⟨W1, ⟨[b2, b1], []⟩, w1, [⟨b9, .cells ([.slice none 0 0, iv g.terms, .slice p2 g.tokens.length c2, .slice none 0 0, iv 0] : List Value).toArray 53 (0, 0)⟩, ⟨b2, .cells ([.slice none 0 0, .int .i64 0, .slice none 0 0, .slice none 0 0, .int .i64 0] : List Value).toArray 53 (0, 0)⟩, ⟨b1, .cells (gC x g).toArray 53 (0, 0)⟩]⟩ [(3, .slice p2 g.tokens.length c2, g.tokens.map iv)] ∧ l = [(1, .pointer (some ⟨b1, 0, none⟩)), (2, .pointer (some ⟨b2, 0, none⟩)), (7, .slice (some ⟨B, 0, none⟩) (rules1 g).length c7), (8, .slice (some ⟨b38, 0, none⟩) g.names.length g.names.length), (9, .pointer (some ⟨b9, 0, none⟩))] ∧ S = ⟨W1, ⟨[b2, b1], []⟩, w1, [⟨b9, .cells ([.slice none 0 0, iv g.terms, .slice p2 g.tokens.length c2, .slice none 0 0, iv 0] : List Value).toArray 53 (0, 0)⟩, ⟨b2, .cells ([.slice none 0 0, .int .i64 0, .slice none 0 0, .slice none 0 0, .int .i64 0] : List Value).toArray 53 (0, 0)⟩, ⟨b1, .cells (gC x g).toArray 53 (0, 0)⟩]⟩) ?_ ?_
      · skip
        refine wc_region_stage (by kernel_rfl) (by kernel_rfl) ?_
        refine ws_q (i := 0) rfl (by kernel_rfl) (rq_val rfl rfl rfl (rv_fieldAddr rfl)) rfl rfl ?_
        refine ws_q (i := 1) rfl (by kernel_rfl) (rq_val rfl rfl rfl (rv_load_own rfl rfl)) rfl rfl ?_
        refine ws_q (i := 2) rfl (by kernel_rfl) (rq_val rfl rfl rfl (rv_fieldAddr rfl)) rfl rfl ?_
        refine ws_q (i := 3) rfl (by kernel_rfl) (rq_val rfl rfl rfl (rv_load_own rfl rfl)) rfl rfl ?_
        refine ws_w2 4 6 rfl rfl (by kernel_rfl) (by kernel_rfl) (by kernel_rfl) rfl rfl ?_ ?_
        · skip
          refine  (wo_call (R := fun w2 v w3 => w3.ownsRow w2.heap.size 3 1 v g.tokens.length (g.tokens.map iv)) rfl rfl (enters_of Try.func97 (by kernel_rfl) rfl) rfl rfl rfl (fun w4 hs4 => (iclone_callsN x.tp x.tc _ (g.tokens.map iv) (List.length_map _) w4 (hG4 w4 (hOld hs4)).tokens (ints_one _) (by have := hok.tk; omega)).mono fun e w' h => let ⟨v, h1, h2, h3⟩ := h; ⟨v, h1, h2, h3⟩) (fun w2t vt w3t hs2t hvt hb2t hm2t => ?_))
          obtain ⟨p2, c2, rfl, _⟩ := rv_ofn hvt
          refine wl_stage (pa_drop (by kernel_rfl) (pa_drop (by kernel_rfl) (pa_keep (rq_val rfl rfl rfl (rv_load_own rfl rfl)) (pa_keep (rq_val rfl rfl rfl (rv_fieldAddr rfl)) (pa_nil))))) ?_
          refine ws_q (i := 5) rfl (by kernel_rfl) (rq_val rfl rfl rfl (rv_build [(1, _), (2, _)] (⟨rfl, ⟨_, rfl, rfl⟩, ⟨rfl, ⟨_, rfl, rfl⟩, trivial⟩⟩))) rfl rfl ?_
          refine ws_w 6 rfl (by kernel_rfl) (by kernel_rfl) rfl (wo_alloc rfl rfl rfl (fun b9 hb9 => ?_))
          refine wl_stage (pa_keep (rq_val rfl rfl rfl (rv_build [(1, _), (2, _)] (⟨rfl, ⟨_, rfl, rfl⟩, ⟨rfl, ⟨_, rfl, rfl⟩, trivial⟩⟩))) (pa_keep (rq_val rfl rfl rfl (rv_load_own rfl rfl)) (pa_keep (rq_val rfl rfl rfl (rv_fieldAddr rfl)) (pa_nil)))) ?_
          refine ws_w 7 rfl (by kernel_rfl) (by kernel_rfl) rfl (wo_st rfl rfl rfl rfl rfl rfl rfl ?_)
          refine wl_stage (pa_drop (by kernel_rfl) (pa_drop (by kernel_rfl) (pa_drop (by kernel_rfl) (pa_nil)))) ?_
          refine ws_nil (by kernel_rfl) ?_
          first | exact wq_cut ⟨_, ⟨b9, p2, c2, _, (((Hp.nil _).new hs2t hm2t hvt).beside (o := .cells #[] 0) hb9).ids (gs' := ⟨[b2, b1], []⟩) (own' := [⟨b9, .cells ([.slice none 0 0, iv g.terms, .slice p2 g.tokens.length c2, .slice none 0 0, iv 0] : List Value).toArray 53 (0, 0)⟩, ⟨b2, .cells ([.slice none 0 0, .int .i64 0, .slice none 0 0, .slice none 0 0, .int .i64 0] : List Value).toArray 53 (0, 0)⟩, ⟨b1, .cells (gC x g).toArray 53 (0, 0)⟩]) rfl, rfl, rfl⟩, by repeat (first | exact sub_nil | refine sub_cons rfl ?_)⟩ | exact wq_cut ⟨_, ⟨b9, p2, c2, _, ((Hp.nil _).new hs2t hm2t hvt).ids (gs' := ⟨[b2, b1], []⟩) (own' := [⟨b9, .cells ([.slice none 0 0, iv g.terms, .slice p2 g.tokens.length c2, .slice none 0 0, iv 0] : List Value).toArray 53 (0, 0)⟩, ⟨b2, .cells ([.slice none 0 0, .int .i64 0, .slice none 0 0, .slice none 0 0, .int .i64 0] : List Value).toArray 53 (0, 0)⟩, ⟨b1, .cells (gC x g).toArray 53 (0, 0)⟩]) rfl, rfl, rfl⟩, by repeat (first | exact sub_nil | refine sub_cons rfl ?_)⟩
        · skip
          refine  (wo_alloc rfl rfl rfl (fun b9 hb9 => ?_))
          refine wl_stage (pa_keep (rq_val rfl rfl rfl (rv_load_own rfl rfl)) (pa_keep (rq_val rfl rfl rfl (rv_fieldAddr rfl)) (pa_keep (rq_val rfl rfl rfl (rv_load_own rfl rfl)) (pa_keep (rq_val rfl rfl rfl (rv_fieldAddr rfl)) (pa_nil))))) ?_
          refine ws_w 4 rfl (by kernel_rfl) (by kernel_rfl) rfl (wo_call (R := fun w2 v w3 => w3.ownsRow w2.heap.size 3 1 v g.tokens.length (g.tokens.map iv)) rfl rfl (enters_of Try.func97 (by kernel_rfl) rfl) rfl rfl rfl (fun w4 hs4 => (iclone_callsN x.tp x.tc _ (g.tokens.map iv) (List.length_map _) w4 (hG4 w4 (hOld hs4)).tokens (ints_one _) (by have := hok.tk; omega)).mono fun e w' h => let ⟨v, h1, h2, h3⟩ := h; ⟨v, h1, h2, h3⟩) (fun w2t vt w3t hs2t hvt hb2t hm2t => ?_))
          obtain ⟨p2, c2, rfl, _⟩ := rv_ofn hvt
          refine wl_stage (pa_drop (by kernel_rfl) (pa_drop (by kernel_rfl) (pa_keep (rq_val rfl rfl rfl (rv_load_own rfl rfl)) (pa_keep (rq_val rfl rfl rfl (rv_fieldAddr rfl)) (pa_nil))))) ?_
          refine ws_q (i := 5) rfl (by kernel_rfl) (rq_val rfl rfl rfl (rv_build [(1, _), (2, _)] (⟨rfl, ⟨_, rfl, rfl⟩, ⟨rfl, ⟨_, rfl, rfl⟩, trivial⟩⟩))) rfl rfl ?_
          refine ws_w 7 rfl (by kernel_rfl) (by kernel_rfl) rfl (wo_st rfl rfl rfl rfl rfl rfl rfl ?_)
          refine wl_stage (pa_drop (by kernel_rfl) (pa_drop (by kernel_rfl) (pa_drop (by kernel_rfl) (pa_nil)))) ?_
          refine ws_nil (by kernel_rfl) ?_
          first | exact wq_cut ⟨_, ⟨b9, p2, c2, _, (((Hp.nil _).new hs2t hm2t hvt).beside (o := .cells #[] 0) hb9).ids (gs' := ⟨[b2, b1], []⟩) (own' := [⟨b9, .cells ([.slice none 0 0, iv g.terms, .slice p2 g.tokens.length c2, .slice none 0 0, iv 0] : List Value).toArray 53 (0, 0)⟩, ⟨b2, .cells ([.slice none 0 0, .int .i64 0, .slice none 0 0, .slice none 0 0, .int .i64 0] : List Value).toArray 53 (0, 0)⟩, ⟨b1, .cells (gC x g).toArray 53 (0, 0)⟩]) rfl, rfl, rfl⟩, by repeat (first | exact sub_nil | refine sub_cons rfl ?_)⟩ | exact wq_cut ⟨_, ⟨b9, p2, c2, _, ((Hp.nil _).new hs2t hm2t hvt).ids (gs' := ⟨[b2, b1], []⟩) (own' := [⟨b9, .cells ([.slice none 0 0, iv g.terms, .slice p2 g.tokens.length c2, .slice none 0 0, iv 0] : List Value).toArray 53 (0, 0)⟩, ⟨b2, .cells ([.slice none 0 0, .int .i64 0, .slice none 0 0, .slice none 0 0, .int .i64 0] : List Value).toArray 53 (0, 0)⟩, ⟨b1, .cells (gC x g).toArray 53 (0, 0)⟩]) rfl, rfl, rfl⟩, by repeat (first | exact sub_nil | refine sub_cons rfl ?_)⟩
      · rintro l S ⟨b9, p2, c2, w1, hH0, rfl, rfl⟩
        refine wq_then ?_
        refine wc_seq ?_
        refine wc_region ?_
        refine wl_go rfl (wo_alloc rfl rfl rfl (fun b10 hb10 => ?_))
        refine wl_nil ?_
        refine wq_then ?_
        refine wc_seq ?_
        refine wc_seq ?_
        refine wc_region ?_
        refine wl_go rfl (wo_val rfl (rv_fieldAddr0 rfl) rfl rfl ?_)
        refine wl_go rfl (wo_val rfl (rv_load_own rfl rfl) rfl rfl ?_)
        refine wl_go rfl (wo_val rfl (rv_len rfl) rfl rfl ?_)
        refine wl_go rfl (wo_val rfl (rv_move rfl) rfl rfl ?_)
        refine wl_nil ?_
        refine wq_then ?_
        refine wc_block ?_
        have hH00 := ((((hH0.none_ 9).none_ 3).beside (o := .cells #[] 0) hb10)).ids (gs' := ⟨[b2, b1], []⟩) (own' := [⟨b10, .cells ([.slice none 0 0] : List Value).toArray 50 (0, 0)⟩, ⟨b9, .cells ([.slice none 0 0, iv g.terms, .slice p2 g.tokens.length c2, .slice none 0 0, iv 0] : List Value).toArray 53 (0, 0)⟩, ⟨b2, .cells ([.slice none 0 0, .int .i64 0, .slice none 0 0, .slice none 0 0, .int .i64 0] : List Value).toArray 53 (0, 0)⟩, ⟨b1, .cells (gC x g).toArray 53 (0, 0)⟩]) rfl
        refine wc_loop (fun m l S => ∃ (k : Nat) (vn vm : Value) (w1 : World), k ≤ g.names.length ∧ Hp ⟨W1, ⟨[b2, b1], []⟩, w1, [⟨b10, .cells ([vn] : List Value).toArray 50 (0, 0)⟩, ⟨b9, .cells ([vm, iv g.terms, .slice p2 g.tokens.length c2, .slice none 0 0, iv 0] : List Value).toArray 53 (0, 0)⟩, ⟨b2, .cells ([.slice none 0 0, .int .i64 0, .slice none 0 0, .slice none 0 0, .int .i64 0] : List Value).toArray 53 (0, 0)⟩, ⟨b1, .cells (gC x g).toArray 53 (0, 0)⟩]⟩ ([(3, vn, (numS g (below1 g) k).1.map iv), (9, vm, (numS g (below1 g) k).2.map sv), (3, .slice p2 g.tokens.length c2, g.tokens.map iv)]) ∧ m = g.names.length - k ∧ l = [(1, .pointer (some ⟨b1, 0, none⟩)), (2, .pointer (some ⟨b2, 0, none⟩)), (7, .slice (some ⟨B, 0, none⟩) (rules1 g).length c7), (8, .slice (some ⟨b38, 0, none⟩) g.names.length g.names.length), (9, .pointer (some ⟨b9, 0, none⟩)), (10, .pointer (some ⟨b10, 0, none⟩)), (51, .slice x.np g.names.length x.nc), (52, iv (g.names.length : Int)), (53, iv (k : Int))] ∧ S = ⟨W1, ⟨[b2, b1], []⟩, w1, [⟨b10, .cells ([vn] : List Value).toArray 50 (0, 0)⟩, ⟨b9, .cells ([vm, iv g.terms, .slice p2 g.tokens.length c2, .slice none 0 0, iv 0] : List Value).toArray 53 (0, 0)⟩, ⟨b2, .cells ([.slice none 0 0, .int .i64 0, .slice none 0 0, .slice none 0 0, .int .i64 0] : List Value).toArray 53 (0, 0)⟩, ⟨b1, .cells (gC x g).toArray 53 (0, 0)⟩]⟩) ⟨_, _, ⟨0, .slice none 0 0, .slice none 0 0, _, Nat.zero_le _, hH00, rfl, rfl, rfl⟩, by repeat (first | exact sub_nil | refine sub_cons rfl ?_)⟩ ?_
        intro m l S hJ
        obtain ⟨k, vn, vm, w1, hk, hH, rfl, rfl, rfl⟩ := hJ
        obtain ⟨pn, cn, rfl, _⟩ := rv_ofn (rw_conv (hH.row (3, vn, (numS g (below1 g) k).1.map iv) (by simp)) (m := (numS g (below1 g) k).1.length) (by rw [List.length_map]) rfl).own
        obtain ⟨pm, cm, rfl, _⟩ := rv_ofn (rw_conv (hH.row (9, vm, (numS g (below1 g) k).2.map sv) (by simp)) (m := (numS g (below1 g) k).2.length) (by rw [List.length_map]) rfl).own
        refine wc_seq ?_
        refine wc_region ?_
        refine wl_go rfl (wo_val rfl (rv_cmp_i rfl rfl rfl) rfl rfl ?_)
        refine wl_nil ?_
        refine wq_then ?_
        refine wc_seq ?_
        refine wc_cond rfl (fun hc54 => ?_) (fun hc54 => ?_)
        · simp only [decide_eq_true_eq, decide_eq_false_iff_not, Bool.not_eq_true', Bool.not_eq_false', bne_iff_ne, beq_iff_eq, bne_eq_false_iff_eq, beq_eq_false_iff_ne, Int.not_lt, Int.not_le] at hc54
          obtain ⟨nk, hnk⟩ := getE (l := g.names) (i := k) (by omega)
          obtain ⟨g0, o0, hnp, _⟩ := hg.names.at_ k _ (map_get hnk)
          rw [hnp]
          refine wc_skip ?_
          refine wq_then ?_
          refine wc_seq ?_
          refine wc_block ?_
          refine wc_seq ?_
          refine wc_region ?_
          refine wl_go rfl (wo_val rfl (rv_move rfl) rfl rfl ?_)
          refine wl_go rfl (wo_val rfl (rv_indexAddr rfl rfl (by omega)) rfl rfl ?_)
          refine wl_go rfl (wo_val rfl (rv_load_cell rfl (fun w4 hs4 => rv_one hG4 hnp hnk (hOld hs4))) rfl rfl ?_)
          refine wl_go rfl (wo_val rfl (rv_assign rfl) rfl rfl ?_)
          refine wl_go rfl (wo_val rfl (rv_assign rfl) rfl rfl ?_)
          refine wl_nil ?_
          refine wq_then ?_
          refine wc_seq ?_
          refine wc_seq ?_
          refine wc_region ?_
          refine wl_go rfl (wo_val rfl (rv_move rfl) rfl rfl ?_)
          refine wl_go rfl (wo_val rfl (rv_fieldAddr rfl) rfl rfl ?_)
          refine wl_go rfl (wo_val rfl (rv_load_own rfl rfl) rfl rfl ?_)
          refine wl_go rfl (wo_val rfl (rv_cmp_i rfl rfl rfl) rfl rfl ?_)
          refine wl_go rfl (wo_val rfl (rv_move rfl) rfl rfl ?_)
          refine wl_split (d := 62) rfl true (fun hg15_4 => ?_) (fun hg15_4 => ?_)
          · skip
            have hkt : g.terms ≤ (k : Int) := by simpa using hg15_4
            refine wl_want rfl rfl rfl rfl rfl hg15_4 (wo_val rfl (rv_move rfl) rfl rfl ?_)
            refine wl_want rfl rfl rfl rfl rfl hg15_4 (wo_val rfl (rv_move rfl) rfl rfl ?_)
            refine wl_want rfl rfl rfl rfl rfl hg15_4 (wo_val rfl (rv_indexAddr rfl rfl (by omega)) rfl rfl ?_)
            refine wl_want rfl rfl rfl rfl rfl hg15_4 (wo_val rfl (rv_load_cell (v := bv (bg (below1 g) (k : Int))) rfl (fun w4 hs4 => by rw [cell_blk (hT4 w4 (hOld hs4))]; exact bg_cell (by rw [hTl]; omega))) rfl rfl ?_)
            refine wl_want rfl rfl rfl rfl rfl hg15_4 (wo_val rfl (rv_not rfl) rfl rfl ?_)
            refine wl_go rfl (wo_val rfl (rv_pick_t rfl hg15_4 rfl) rfl rfl ?_)
            refine wl_nil ?_
            refine wq_then ?_
            refine wc_cond rfl (fun hc68 => ?_) (fun hc68 => ?_)
            · simp only [decide_eq_true_eq, decide_eq_false_iff_not, Bool.not_eq_true', Bool.not_eq_false', bne_iff_ne, beq_iff_eq, bne_eq_false_iff_eq, beq_eq_false_iff_ne, Int.not_lt, Int.not_le] at hc68
              refine wc_seq ?_
              refine wc_region ?_
              refine wl_go rfl (wo_val rfl (rv_load_own rfl rfl) rfl rfl ?_)
              refine wl_go rfl (wo_bs [_] rfl rfl rfl (⟨rfl, rfl, ⟨_, rfl, rfl⟩, trivial⟩) rfl rfl (fun b70 hb70 => ?_))
              refine wl_go rfl (wo_append rfl rfl rfl rfl rfl [_, _, _, _] ⟨[_], rfl⟩ ((hH.row (3, .slice pn (numS g (below1 g) k).1.length cn, (numS g (below1 g) k).1.map iv) (by simp)).beside hb70 |>.ids rfl) (by rw [List.length_map]; have := numS_len g (below1 g) k; unfold maxLen; omega) rfl rfl rfl (fun v7 w7 hR7 hm7 ho7 => ?_))
              have hH7 := hH.first (own3 := _ :: _) hm7 (by intro y hy; rcases List.mem_cons.1 hy with rfl | hy; exact .inr hb70; exact .inl ⟨y, hy, rfl⟩) (rw_snoc hR7) ho7 (fun y hy => ⟨y, hy, rfl⟩)
              have hR7b : Rw ⟨W1, ⟨[b2, b1], []⟩, w7, [_, _, _, _]⟩ 3 1 v7 ((numS g (below1 g) k).1.length + 1) _ := rw_conv hR7 (by rw [List.length_map]) rfl
              obtain ⟨p7, c8, rfl, _⟩ := rv_ofn hR7b.own
              refine wl_go rfl (wo_st rfl rfl rfl rfl rfl rfl rfl ?_)
              refine wl_nil ?_
              refine wq_then ?_
              refine wc_exit ?_
              refine wq_then_exit ?_
              refine wq_in_here ?_
              refine wq_then ?_
              refine wc_region ?_
              refine wl_go rfl (wo_val rfl (rv_add rfl rfl (by omega)) rfl rfl ?_)
              refine wl_go rfl (wo_val rfl (rv_move rfl) rfl rfl ?_)
              refine wl_nil ?_
              have e1 : numS g (below1 g) (k + 1) = ((numS g (below1 g) k).1 ++ [-1], (numS g (below1 g) k).2) := by
                rw [numS, if_pos (by rw [decide_eq_true hkt, hc68]; rfl)]
              refine wq_round ⟨_, _, ⟨k + 1, _, _, _, by omega, ?_, rfl, rfl, rfl⟩, by omega, by repeat (first | exact sub_nil | refine sub_cons rfl ?_)⟩
              rw [e1, List.map_append]
              exact hH7.ids rfl
            · simp only [decide_eq_true_eq, decide_eq_false_iff_not, Bool.not_eq_true', Bool.not_eq_false', bne_iff_ne, beq_iff_eq, bne_eq_false_iff_eq, beq_eq_false_iff_ne, Int.not_lt, Int.not_le] at hc68
              refine wc_skip ?_
              refine wq_then ?_
              refine wc_seq ?_
              refine wc_region ?_
              refine wl_go rfl (wo_val rfl (rv_load_own rfl rfl) rfl rfl ?_)
              refine wl_go rfl (wo_val rfl (rv_fieldAddr0 rfl) rfl rfl ?_)
              refine wl_go rfl (wo_val rfl (rv_load_own rfl rfl) rfl rfl ?_)
              refine wl_go rfl (wo_val rfl (rv_len rfl) rfl rfl ?_)
              refine wl_go rfl (wo_bs [_] rfl rfl rfl (⟨rfl, rfl, ⟨_, rfl, rfl⟩, trivial⟩) rfl rfl (fun b76 hb76 => ?_))
              refine wl_go rfl (wo_append rfl rfl rfl rfl rfl [_, _, _, _] ⟨[_], rfl⟩ ((hH.row (3, .slice pn (numS g (below1 g) k).1.length cn, (numS g (below1 g) k).1.map iv) (by simp)).beside hb76 |>.ids rfl) (by rw [List.length_map]; have := numS_len g (below1 g) k; unfold maxLen; omega) rfl rfl rfl (fun v7 w7 hR7 hm7 ho7 => ?_))
              have hH7 := hH.first (own3 := _ :: _) hm7 (by intro y hy; rcases List.mem_cons.1 hy with rfl | hy; exact .inr hb76; exact .inl ⟨y, hy, rfl⟩) (rw_snoc hR7) ho7 (fun y hy => ⟨y, hy, rfl⟩)
              have hR7b : Rw ⟨W1, ⟨[b2, b1], []⟩, w7, [_, _, _, _]⟩ 3 1 v7 ((numS g (below1 g) k).1.length + 1) _ := rw_conv hR7 (by rw [List.length_map]) rfl
              obtain ⟨p7, c8, rfl, _⟩ := rv_ofn hR7b.own
              refine wl_go rfl (wo_st rfl rfl rfl rfl rfl rfl rfl ?_)
              have hH8 := hH7.ids (gs' := ⟨[b2, b1], []⟩) (own' := [⟨b10, .cells ([.slice p7 ((numS g (below1 g) k).1.length + 1) c8] : List Value).toArray 50 (0, 0)⟩, ⟨b9, .cells ([.slice pm (numS g (below1 g) k).2.length cm, iv g.terms, .slice p2 g.tokens.length c2, .slice none 0 0, iv 0] : List Value).toArray 53 (0, 0)⟩, ⟨b2, .cells ([.slice none 0 0, .int .i64 0, .slice none 0 0, .slice none 0 0, .int .i64 0] : List Value).toArray 53 (0, 0)⟩, ⟨b1, .cells (gC x g).toArray 53 (0, 0)⟩]) rfl
              refine wl_nil ?_
              refine wq_then ?_
              refine wc_region ?_
              refine wl_go rfl (wo_val rfl (rv_fieldAddr0 rfl) rfl rfl ?_)
              refine wl_go rfl (wo_val rfl (rv_load_own rfl rfl) rfl rfl ?_)
              refine wl_go rfl (wo_val rfl (rv_move rfl) rfl rfl ?_)
              refine wl_go rfl (wo_bs [_] rfl rfl rfl (⟨rfl, rfl, ⟨_, rfl, rfl⟩, trivial⟩) rfl rfl (fun b81 hb81 => ?_))
              refine wl_go rfl (wo_append rfl rfl rfl rfl rfl [_, _, _, _] ⟨[_], rfl⟩ ((hH8.row (9, .slice pm (numS g (below1 g) k).2.length cm, (numS g (below1 g) k).2.map sv) (by simp)).beside hb81 |>.ids rfl) (by rw [List.length_map]; have := numS_len g (below1 g) k; unfold maxLen; omega) rfl rfl rfl (fun v9 w9 hR9 hm9 ho9 => ?_))
              have hH9 := (hH8.swap.first (own3 := _ :: _) hm9 (by intro y hy; rcases List.mem_cons.1 hy with rfl | hy; exact .inr hb81; exact .inl ⟨y, hy, rfl⟩) (rw_snoc hR9) ho9 (fun y hy => ⟨y, hy, rfl⟩)).swap
              have hR9b : Rw ⟨W1, ⟨[b2, b1], []⟩, w9, [_, _, _, _]⟩ 9 1 v9 ((numS g (below1 g) k).2.length + 1) _ := rw_conv hR9 (by rw [List.length_map]) rfl
              obtain ⟨p9, c9, rfl, _⟩ := rv_ofn hR9b.own
              refine wl_go rfl (wo_val rfl (rv_fieldAddr0 rfl) rfl rfl ?_)
              refine wl_go rfl (wo_st rfl rfl rfl rfl rfl rfl rfl ?_)
              refine wl_nil ?_
              refine wq_in_normal ?_
              refine wq_then ?_
              refine wc_region ?_
              refine wl_go rfl (wo_val rfl (rv_add rfl rfl (by omega)) rfl rfl ?_)
              refine wl_go rfl (wo_val rfl (rv_move rfl) rfl rfl ?_)
              refine wl_nil ?_
              have e1 : numS g (below1 g) (k + 1) = ((numS g (below1 g) k).1 ++ [((numS g (below1 g) k).2.length : Int)], (numS g (below1 g) k).2 ++ [nk]) := by
                rw [numS, if_neg (by rw [hc68]; simp), List.getD_eq_getElem?_getD, hnk]; rfl
              refine wq_round ⟨_, _, ⟨k + 1, _, _, _, by omega, ?_, rfl, rfl, rfl⟩, by omega, by repeat (first | exact sub_nil | refine sub_cons rfl ?_)⟩
              rw [e1, List.map_append, List.map_append]
              exact hH9.ids rfl
          · skip
            have hkt : (k : Int) < g.terms := by simpa using hg15_4
            refine wl_skip rfl rfl rfl rfl rfl hg15_4 rfl ?_
            refine wl_skip rfl rfl rfl rfl rfl hg15_4 rfl ?_
            refine wl_skip rfl rfl rfl rfl rfl hg15_4 rfl ?_
            refine wl_skip rfl rfl rfl rfl rfl hg15_4 rfl ?_
            refine wl_skip rfl rfl rfl rfl rfl hg15_4 rfl ?_
            refine wl_go rfl (wo_val rfl (rv_pick_f rfl hg15_4 rfl) rfl rfl ?_)
            refine wl_nil ?_
            refine wq_then ?_
            refine wc_cond_f rfl rfl ?_
            refine wc_skip ?_
            refine wq_then ?_
            refine wc_seq ?_
            refine wc_region ?_
            refine wl_go rfl (wo_val rfl (rv_load_own rfl rfl) rfl rfl ?_)
            refine wl_go rfl (wo_val rfl (rv_fieldAddr0 rfl) rfl rfl ?_)
            refine wl_go rfl (wo_val rfl (rv_load_own rfl rfl) rfl rfl ?_)
            refine wl_go rfl (wo_val rfl (rv_len rfl) rfl rfl ?_)
            refine wl_go rfl (wo_bs [_] rfl rfl rfl (⟨rfl, rfl, ⟨_, rfl, rfl⟩, trivial⟩) rfl rfl (fun b76 hb76 => ?_))
            refine wl_go rfl (wo_append rfl rfl rfl rfl rfl [_, _, _, _] ⟨[_], rfl⟩ ((hH.row (3, .slice pn (numS g (below1 g) k).1.length cn, (numS g (below1 g) k).1.map iv) (by simp)).beside hb76 |>.ids rfl) (by rw [List.length_map]; have := numS_len g (below1 g) k; unfold maxLen; omega) rfl rfl rfl (fun v7 w7 hR7 hm7 ho7 => ?_))
            have hH7 := hH.first (own3 := _ :: _) hm7 (by intro y hy; rcases List.mem_cons.1 hy with rfl | hy; exact .inr hb76; exact .inl ⟨y, hy, rfl⟩) (rw_snoc hR7) ho7 (fun y hy => ⟨y, hy, rfl⟩)
            have hR7b : Rw ⟨W1, ⟨[b2, b1], []⟩, w7, [_, _, _, _]⟩ 3 1 v7 ((numS g (below1 g) k).1.length + 1) _ := rw_conv hR7 (by rw [List.length_map]) rfl
            obtain ⟨p7, c8, rfl, _⟩ := rv_ofn hR7b.own
            refine wl_go rfl (wo_st rfl rfl rfl rfl rfl rfl rfl ?_)
            have hH8 := hH7.ids (gs' := ⟨[b2, b1], []⟩) (own' := [⟨b10, .cells ([.slice p7 ((numS g (below1 g) k).1.length + 1) c8] : List Value).toArray 50 (0, 0)⟩, ⟨b9, .cells ([.slice pm (numS g (below1 g) k).2.length cm, iv g.terms, .slice p2 g.tokens.length c2, .slice none 0 0, iv 0] : List Value).toArray 53 (0, 0)⟩, ⟨b2, .cells ([.slice none 0 0, .int .i64 0, .slice none 0 0, .slice none 0 0, .int .i64 0] : List Value).toArray 53 (0, 0)⟩, ⟨b1, .cells (gC x g).toArray 53 (0, 0)⟩]) rfl
            refine wl_nil ?_
            refine wq_then ?_
            refine wc_region ?_
            refine wl_go rfl (wo_val rfl (rv_fieldAddr0 rfl) rfl rfl ?_)
            refine wl_go rfl (wo_val rfl (rv_load_own rfl rfl) rfl rfl ?_)
            refine wl_go rfl (wo_val rfl (rv_move rfl) rfl rfl ?_)
            refine wl_go rfl (wo_bs [_] rfl rfl rfl (⟨rfl, rfl, ⟨_, rfl, rfl⟩, trivial⟩) rfl rfl (fun b81 hb81 => ?_))
            refine wl_go rfl (wo_append rfl rfl rfl rfl rfl [_, _, _, _] ⟨[_], rfl⟩ ((hH8.row (9, .slice pm (numS g (below1 g) k).2.length cm, (numS g (below1 g) k).2.map sv) (by simp)).beside hb81 |>.ids rfl) (by rw [List.length_map]; have := numS_len g (below1 g) k; unfold maxLen; omega) rfl rfl rfl (fun v9 w9 hR9 hm9 ho9 => ?_))
            have hH9 := (hH8.swap.first (own3 := _ :: _) hm9 (by intro y hy; rcases List.mem_cons.1 hy with rfl | hy; exact .inr hb81; exact .inl ⟨y, hy, rfl⟩) (rw_snoc hR9) ho9 (fun y hy => ⟨y, hy, rfl⟩)).swap
            have hR9b : Rw ⟨W1, ⟨[b2, b1], []⟩, w9, [_, _, _, _]⟩ 9 1 v9 ((numS g (below1 g) k).2.length + 1) _ := rw_conv hR9 (by rw [List.length_map]) rfl
            obtain ⟨p9, c9, rfl, _⟩ := rv_ofn hR9b.own
            refine wl_go rfl (wo_val rfl (rv_fieldAddr0 rfl) rfl rfl ?_)
            refine wl_go rfl (wo_st rfl rfl rfl rfl rfl rfl rfl ?_)
            refine wl_nil ?_
            refine wq_in_normal ?_
            refine wq_then ?_
            refine wc_region ?_
            refine wl_go rfl (wo_val rfl (rv_add rfl rfl (by omega)) rfl rfl ?_)
            refine wl_go rfl (wo_val rfl (rv_move rfl) rfl rfl ?_)
            refine wl_nil ?_
            have e1 : numS g (below1 g) (k + 1) = ((numS g (below1 g) k).1 ++ [((numS g (below1 g) k).2.length : Int)], (numS g (below1 g) k).2 ++ [nk]) := by
              rw [numS, if_neg (by rw [decide_eq_false (by omega)]; simp), List.getD_eq_getElem?_getD, hnk]; rfl
            refine wq_round ⟨_, _, ⟨k + 1, _, _, _, by omega, ?_, rfl, rfl, rfl⟩, by omega, by repeat (first | exact sub_nil | refine sub_cons rfl ?_)⟩
            rw [e1, List.map_append, List.map_append]
            exact hH9.ids rfl
        · simp only [decide_eq_true_eq, decide_eq_false_iff_not, Bool.not_eq_true', Bool.not_eq_false', bne_iff_ne, beq_iff_eq, bne_eq_false_iff_eq, beq_eq_false_iff_ne, Int.not_lt, Int.not_le] at hc54
          obtain rfl : k = g.names.length := by omega
          have hnl : (numF g).1.length = g.names.length := (numS_len _ _ _).1
          have hr1l : (rules1 g).length ≤ 256 := Nat.le_trans (List.length_filter_le _ _) hr2
          refine wc_exit ?_
          refine wq_then_exit ?_
          refine wq_then_exit ?_
          refine wq_in_here ?_
          refine wq_then ?_
          refine wc_seq ?_
          refine wc_region ?_
          refine wl_go rfl (wo_val rfl (rv_makeFunc rfl rfl) rfl rfl ?_)
          refine wl_go rfl (wo_val rfl (rv_assign rfl) rfl rfl ?_)
          refine wl_nil ?_
          refine wq_then ?_
          refine wc_seq ?_
          refine wc_seq ?_
          refine wc_region ?_
          refine wl_go rfl (wo_val rfl (rv_move rfl) rfl rfl ?_)
          refine wl_go rfl (wo_val rfl (rv_len rfl) rfl rfl ?_)
          refine wl_go rfl (wo_val rfl (rv_move rfl) rfl rfl ?_)
          refine wl_nil ?_
          refine wq_then ?_
          refine wc_block ?_
          have hH20 := hH.none_ 50
          refine wc_loop (fun m l S => ∃ (k : Nat) (vr : Value) (vs2 : List Value) (w1 : World), k ≤ (rules1 g).length ∧ vs2.length = (rules2 (numF g).1 (below1 g) ((rules1 g).take k)).length ∧ Hp ⟨W1, ⟨[b2, b1], []⟩, w1, [⟨b10, .cells ([.slice pn (numF g).1.length cn] : List Value).toArray 50 (0, 0)⟩, ⟨b9, .cells ([.slice pm (numF g).2.length cm, iv g.terms, .slice p2 g.tokens.length c2, vr, iv 0] : List Value).toArray 53 (0, 0)⟩, ⟨b2, .cells ([.slice none 0 0, .int .i64 0, .slice none 0 0, .slice none 0 0, .int .i64 0] : List Value).toArray 53 (0, 0)⟩, ⟨b1, .cells (gC x g).toArray 53 (0, 0)⟩]⟩ ((50, vr, vs2) :: (3, .slice pn (numF g).1.length cn, (numF g).1.map iv) :: (9, .slice pm (numF g).2.length cm, (numF g).2.map sv) :: (3, .slice p2 g.tokens.length c2, g.tokens.map iv) :: rowsL vs2 (rules2 (numF g).1 (below1 g) ((rules1 g).take k))) ∧ m = (rules1 g).length - k ∧ l = [(1, .pointer (some ⟨b1, 0, none⟩)), (2, .pointer (some ⟨b2, 0, none⟩)), (7, .slice (some ⟨B, 0, none⟩) (rules1 g).length c7), (8, .slice (some ⟨b38, 0, none⟩) g.names.length g.names.length), (9, .pointer (some ⟨b9, 0, none⟩)), (10, .pointer (some ⟨b10, 0, none⟩)), (13, .func (.func 107) #[] #[.pointer (some ⟨b10, 0, none⟩)]), (86, .slice (some ⟨B, 0, none⟩) (rules1 g).length c7), (87, iv ((rules1 g).length : Int)), (88, iv (k : Int))] ∧ S = ⟨W1, ⟨[b2, b1], []⟩, w1, [⟨b10, .cells ([.slice pn (numF g).1.length cn] : List Value).toArray 50 (0, 0)⟩, ⟨b9, .cells ([.slice pm (numF g).2.length cm, iv g.terms, .slice p2 g.tokens.length c2, vr, iv 0] : List Value).toArray 53 (0, 0)⟩, ⟨b2, .cells ([.slice none 0 0, .int .i64 0, .slice none 0 0, .slice none 0 0, .int .i64 0] : List Value).toArray 53 (0, 0)⟩, ⟨b1, .cells (gC x g).toArray 53 (0, 0)⟩]⟩) ⟨_, _, ⟨0, .slice none 0 0, [], _, Nat.zero_le _, rfl, hH20, rfl, rfl, rfl⟩, by repeat (first | exact sub_nil | refine sub_cons rfl ?_)⟩ ?_
          intro m l S hJ
          obtain ⟨k, vr, vs2, w1, hk, hvl, hH, rfl, rfl, rfl⟩ := hJ
          have hvr : w1.ownsRow W1.heap.size 50 1 vr vs2.length vs2 := (hH.row (50, vr, vs2) (by simp)).own
          obtain ⟨pr, cr, rfl, _⟩ := rv_ofn hvr
          refine wc_seq ?_
          refine wc_region ?_
          refine wl_go rfl (wo_val rfl (rv_cmp_i rfl rfl rfl) rfl rfl ?_)
          refine wl_nil ?_
          refine wq_then ?_
          refine wc_seq ?_
          refine wc_cond rfl (fun hc89 => ?_) (fun hc89 => ?_)
          · simp only [decide_eq_true_eq, decide_eq_false_iff_not, Bool.not_eq_true', Bool.not_eq_false', bne_iff_ne, beq_iff_eq, bne_eq_false_iff_eq, beq_eq_false_iff_ne, Int.not_lt, Int.not_le] at hc89
            obtain ⟨r, hr⟩ := getE (l := rules1 g) (i := k) (by omega)
            obtain ⟨q, d, hrow4⟩ := rr_one hR4 hBne hr
            have hrm := hI1 r (List.mem_of_getElem? hr)
            have hrp1 := hrm.1
            obtain ⟨y0, hy0⟩ := getE hrp1
            have hyd : r.headD 0 = y0 := by rw [List.headD_eq_head?_getD, List.head?_eq_getElem?, hy0]; rfl
            obtain ⟨g1, o1, rfl, _⟩ := (hrow4 W1 (old_refl _ _ _)).2.at_ 0 _ (map_get hy0)
            have hyr := hrm.2 y0 (List.mem_of_getElem? hy0)
            refine wc_skip ?_
            refine wq_then ?_
            refine wc_seq ?_
            refine wc_block ?_
            refine wc_seq ?_
            refine wc_region ?_
            refine wl_go rfl (wo_val rfl (rv_indexAddr rfl rfl (by omega)) rfl rfl ?_)
            refine wl_go rfl (wo_val rfl (rv_load_cell rfl (fun w4 hs4 => (hrow4 w4 (hOld hs4)).1)) rfl rfl ?_)
            refine wl_go rfl (wo_val rfl (rv_assign rfl) rfl rfl ?_)
            refine wl_nil ?_
            refine wq_then ?_
            refine wc_seq ?_
            refine wc_region ?_
            refine wl_go rfl (wo_val rfl (rv_move rfl) rfl rfl ?_)
            refine wl_go rfl (wo_val rfl (rv_move rfl) rfl rfl ?_)
            refine wl_go rfl (wo_val rfl (rv_indexAddr rfl rfl (by omega)) rfl rfl ?_)
            refine wl_go rfl (wo_val rfl (rv_load_cell (v := iv y0) rfl (fun w4 hs4 => by obtain ⟨_, _, e, hc⟩ := (hrow4 w4 (hOld hs4)).2.at_ 0 _ (map_get hy0); cases e; exact hc)) rfl rfl ?_)
            refine wl_go rfl (wo_val rfl (rv_indexAddr rfl rfl (by omega)) rfl rfl ?_)
            refine wl_go rfl (wo_val rfl (rv_load_cell (v := bv (bg (below1 g) y0)) rfl (fun w4 hs4 => by rw [cell_blk (hT4 w4 (hOld hs4))]; exact bg_cell (by rw [hTl]; exact hyr))) rfl rfl ?_)
            refine wl_nil ?_
            refine wq_then ?_
            refine wc_cond rfl (fun hc97 => ?_) (fun hc97 => ?_)
            · skip
              refine wc_region_stage (by kernel_rfl) (by kernel_rfl) ?_
              refine ws_q (i := 0) rfl (by kernel_rfl) (rq_val rfl rfl rfl (rv_fieldAddr rfl)) rfl rfl ?_
              refine ws_q (i := 1) rfl (by kernel_rfl) (rq_val rfl rfl rfl (rv_load_own rfl rfl)) rfl rfl ?_
              refine ws_q (i := 2) rfl (by kernel_rfl) (rq_val rfl rfl rfl (rv_move rfl)) rfl rfl ?_
              refine ws_q (i := 3) rfl (by kernel_rfl) (rq_val rfl rfl rfl (rv_move rfl)) rfl rfl ?_
              refine ws_w 4 rfl (by kernel_rfl) (by kernel_rfl) rfl (wo_call (R := fun w2 v w3 => w3.ownsRow w2.heap.size 3 1 v r.length ((r.map (lk (numF g).1)).map iv)) rfl rfl (enters_of Try.func107 (by kernel_rfl) rfl) rfl rfl rfl (fun w4 hs4 => (u3_calls b10 pn cn (numF g).1 (some ⟨g1, o1, none⟩) d r w4 (Boxed.of (hs4.blk ⟨b10, _⟩ List.mem_cons_self)) (rv_slice_of ((hH.row (3, .slice pn (numF g).1.length cn, (numF g).1.map iv) (by simp)).at hs4)) (hrow4 w4 (hOld hs4)).2 (by have := (hok.fits (List.mem_filter.1 (List.mem_of_getElem? hr)).1).len; omega) (fun y hy => by rw [hnl]; exact hrm.2 y hy)).mono fun e w' h => let ⟨v, h1, h2, h3⟩ := h; ⟨v, h1, h2, h3⟩) (fun w2a va w3a hs2a hva hb2a hm2a => ?_))
              obtain ⟨p5x, c5x, rfl, _⟩ := rv_ofn hva
              have hH3x := hH.new hs2a hm2a hva
              refine wl_stage (pa_drop (by kernel_rfl) (pa_drop (by kernel_rfl) (pa_keep (rq_val rfl rfl rfl (rv_load_own rfl rfl)) (pa_keep (rq_val rfl rfl rfl (rv_fieldAddr rfl)) (pa_nil))))) ?_
              refine ws_w 5 rfl (by kernel_rfl) (by kernel_rfl) rfl (wo_bs [_] rfl rfl rfl (⟨rfl, rfl, ⟨_, rfl, rfl⟩, trivial⟩) rfl rfl (fun b103 hb103 => ?_))
              refine wl_stage (pa_keep (rq_val rfl rfl rfl (rv_load_own rfl rfl)) (pa_keep (rq_val rfl rfl rfl (rv_fieldAddr rfl)) (pa_nil))) ?_
              refine ws_w 6 rfl (by kernel_rfl) (by kernel_rfl) rfl (wo_append rfl rfl rfl rfl rfl [_, _, _, _] ⟨[_], rfl⟩ ((hH3x.row (50, .slice pr vs2.length cr, vs2) (by simp)).beside hb103 |>.ids rfl) (by have := rules2_len (numF g).1 (below1 g) ((rules1 g).take k); have := List.length_take_le k (rules1 g); unfold maxLen; simp only; omega) rfl rfl rfl (fun v6 w6 hR6 hm6 ho6 => ?_))
              have hH4x := hH3x.swap.first (own3 := _ :: _) hm6 (by intro y hy; rcases List.mem_cons.1 hy with rfl | hy; exact .inr hb103; exact .inl ⟨y, hy, rfl⟩) (rw_snoc hR6) ho6 (fun y hy => ⟨y, hy, rfl⟩)
              have hR8 : w6.ownsRow W1.heap.size 50 1 v6 (vs2.length + 1) (vs2 ++ [.slice p5x r.length c5x]) := hR6.own
              obtain ⟨p6, c6, rfl, _⟩ := rv_ofn hR8
              refine wl_stage (pa_drop (by kernel_rfl) (pa_drop (by kernel_rfl) (pa_nil))) ?_
              refine ws_q (i := 7) rfl (by kernel_rfl) (rq_val rfl rfl rfl (rv_fieldAddr rfl)) rfl rfl ?_
              refine ws_w 8 rfl (by kernel_rfl) (by kernel_rfl) rfl (wo_st rfl rfl rfl rfl rfl rfl rfl ?_)
              refine wl_stage (pa_drop (by kernel_rfl) (pa_nil)) ?_
              refine ws_nil (by kernel_rfl) ?_
              refine wq_in_normal ?_
              refine wq_then ?_
              refine wc_region ?_
              refine wl_go rfl (wo_val rfl (rv_add rfl rfl (by omega)) rfl rfl ?_)
              refine wl_go rfl (wo_val rfl (rv_move rfl) rfl rfl ?_)
              refine wl_nil ?_
              have e2 : (rules2 (numF g).1 (below1 g) ((rules1 g).take (k + 1))) = (rules2 (numF g).1 (below1 g) ((rules1 g).take k)) ++ [r.map (lk (numF g).1)] := by
                rw [List.take_add_one, hr, Option.toList_some, rules2_snoc, if_pos (by rw [hyd]; exact hc97)]
              refine wq_round ⟨_, _, ⟨k + 1, _, vs2 ++ [.slice p5x r.length c5x], _, by omega, ?_, ?_, rfl, rfl, rfl⟩, by omega, by repeat (first | exact sub_nil | refine sub_cons rfl ?_)⟩
              · rw [e2, List.length_append, List.length_append, hvl]; rfl
              · rw [e2, rowsL_snoc hvl]
                exact (Hp.toEnd (A := [_]) (B := _ :: _ :: _ :: _) hH4x).ids rfl
            · skip
              refine wc_skip ?_
              refine wq_in_normal ?_
              refine wq_then ?_
              refine wc_region ?_
              refine wl_go rfl (wo_val rfl (rv_add rfl rfl (by omega)) rfl rfl ?_)
              refine wl_go rfl (wo_val rfl (rv_move rfl) rfl rfl ?_)
              refine wl_nil ?_
              have e2 : (rules2 (numF g).1 (below1 g) ((rules1 g).take (k + 1))) = (rules2 (numF g).1 (below1 g) ((rules1 g).take k)) := by
                rw [List.take_add_one, hr, Option.toList_some, rules2_snoc, if_neg (by rw [hyd, show bg (below1 g) y0 = false from hc97]; simp), List.append_nil]
              refine wq_round ⟨_, _, ⟨k + 1, _, vs2, _, by omega, by rw [e2]; exact hvl, by rw [e2]; exact hH, rfl, rfl, rfl⟩, by omega, by repeat (first | exact sub_nil | refine sub_cons rfl ?_)⟩
          · simp only [decide_eq_true_eq, decide_eq_false_iff_not, Bool.not_eq_true', Bool.not_eq_false', bne_iff_ne, beq_iff_eq, bne_eq_false_iff_eq, beq_eq_false_iff_ne, Int.not_lt, Int.not_le] at hc89
            obtain rfl : k = (rules1 g).length := by omega
            simp only [List.take_length] at hvl hH
            obtain ⟨z, hz⟩ := getE (l := (numF g).1) (i := g.start.toNat) (by omega)
            have hlz : lk (numF g).1 g.start = z := by unfold lk; rw [List.getD_eq_getElem?_getD, hz]; rfl
            obtain ⟨gn, on, rfl, _⟩ := (rv_slice_of (hH.row (3, .slice pn (numF g).1.length cn, (numF g).1.map iv) (by simp)).own).at_ _ _ (map_get hz)
            refine wc_exit ?_
            refine wq_then_exit ?_
            refine wq_then_exit ?_
            refine wq_in_here ?_
            refine wq_then ?_
            refine wc_seq ?_
            refine wc_region ?_
            refine wl_go rfl (wo_val rfl (rv_load_own rfl rfl) rfl rfl ?_)
            refine wl_go rfl (wo_val rfl (rv_fieldAddr rfl) rfl rfl ?_)
            refine wl_go rfl (wo_val rfl (rv_load_own rfl rfl) rfl rfl ?_)
            refine wl_go rfl (wo_val rfl (rv_indexAddr rfl rfl (by omega)) rfl rfl ?_)
            refine wl_go rfl (wo_val rfl (rv_load_cell (v := iv z) rfl (fun w4 hs4 => rw_cell (rw_conv (hH.row (3, .slice (some ⟨gn, on, none⟩) (numF g).1.length cn, (numF g).1.map iv) (by simp)) (by rw [List.length_map]) rfl) (map_get hz) hs4)) rfl rfl ?_)
            refine wl_go rfl (wo_val rfl (rv_fieldAddr rfl) rfl rfl ?_)
            refine wl_go rfl (wo_st rfl rfl rfl rfl rfl rfl rfl ?_)
            refine wl_nil ?_
            refine wq_then ?_
            refine wc_seq ?_
            refine wc_region_stage (by kernel_rfl) (by kernel_rfl) ?_
            refine ws_q (i := 0) rfl (by kernel_rfl) (rq_val rfl rfl rfl (rv_load_own_row rfl)) rfl rfl ?_
            refine ws_q (i := 1) rfl (by kernel_rfl) (rq_val rfl rfl rfl (rv_load_own rfl rfl)) rfl rfl ?_
            refine ws_w 2 rfl (by kernel_rfl) (by kernel_rfl) rfl (wo_st rfl rfl rfl rfl rfl rfl rfl ?_)
            refine wl_stage (pa_keep (rq_val rfl rfl rfl (rv_load_own rfl rfl)) (pa_drop (by kernel_rfl) (pa_nil))) ?_
            refine ws_q (i := 3) rfl (by kernel_rfl) (rq_val rfl rfl rfl (rv_assign rfl)) rfl rfl ?_
            refine ws_q (i := 4) rfl (by kernel_rfl) (rq_val rfl rfl rfl (rv_assign rfl)) rfl rfl ?_
            refine ws_nil (by kernel_rfl) ?_
            refine wq_then ?_
            refine wc_ret ?_
            refine wq_ret3 rfl rfl (rr_row rfl) (rr_tmp rfl) (rr_tmp rfl) (fun w9 hs9 => ?_)
            have e1 : usefulG g = ⟨(numF g).2, g.terms, g.tokens, rules2 (numF g).1 (below1 g) (rules1 g), z⟩ := by unfold usefulG; rw [hgood, hprod, hlz]; rfl
            have e2 : usefulL g = (numF g).1 := by unfold usefulL; rw [hgood, hprod]; rfl
            have e3 : usefulE g = 0 := by unfold usefulE; rw [hgood, hprod]; rfl
            rw [e1, e2, e3]
            have hS := hH.ends hs9 rfl
            have hB9 : Below w.heap.size w w9 := ⟨hs9.os.trans hbW.os, hs9.tape.trans hbW.tape, hs9.output.trans hbW.output, Nat.le_trans hbW.size (Nat.le_trans hs9.sizeW hs9.size0), fun k hk => (hs9.oldW k (Nat.lt_of_lt_of_le hk hbW.size) (by simp; omega)).trans (hbW.block k hk)⟩
            have hnum := own_base (hS.row (3, .slice (some ⟨gn, on, none⟩) (numF g).1.length cn, (numF g).1.map iv) (by simp)).own hbW.size
            simp only [List.length_map] at hnum
            refine ⟨⟨pm, cm, p2, c2, pr, cr⟩, _, by first | (rw [hvl]; rfl) | rw [hvl], ⟨rv_slice_of (hS.row (9, .slice pm (numF g).2.length cm, (numF g).2.map sv) (by simp)).own, rv_slice_of (hS.row (3, .slice p2 g.tokens.length c2, g.tokens.map iv) (by simp)).own, rr_rows (rv_slice_of (hS.row (50, .slice pr vs2.length cr, vs2) (by simp)).own) hvl (fun y hy => hS.row y (by simp [hy])) hs9.name⟩, hnum, hB9⟩
end Go.Proofs.Ytlppkbfkajionaa.Cm
