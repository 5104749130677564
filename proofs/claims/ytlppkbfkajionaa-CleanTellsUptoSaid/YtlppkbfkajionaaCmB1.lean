/- The walks of grammars: awake. -/
import Derived.Test.YtlppkbfkajionaaCmA1
namespace Go.Proofs.Ytlppkbfkajionaa.Cm
open Go Go.RowKit Gw Go.Shelf
set_option linter.unusedSimpArgs false
set_option linter.unusedVariables false
set_option linter.unusedSectionVars false
def GA : Gr := ⟨[[97], [83], [85], [86]], 1, [0], [[1, 0], [1, 2], [2, 2, 0], [3, 0], [1, 0]], 1⟩
def GB : Gr := ⟨[[97], [83]], 1, [0], [[1, 0], [1, 0]], 1⟩
def GC : Gr := ⟨[[97], [83]], 1, [0], [[1, 0]], 1⟩
theorem aw1 : usefulE GA = 0 := by kernel_rfl
theorem aw2 : usefulL GA = [0, 1, -1, -1] := by kernel_rfl
theorem aw3 : usefulG GA = GB := by decide +kernel
theorem aw4 : onceG GB = GC := by decide +kernel
theorem aw5 : onceL GB = [0, 0] := by kernel_rfl
theorem aw6 : isB GA = false := by kernel_rfl
theorem aw7 : isB GB = false := by kernel_rfl
theorem aw8 : isB GC = true := by kernel_rfl
theorem aw9 : linesF GC = [[83, 32, 58, 32, 97, 59]] := by kernel_rfl
theorem awS : Short GC := by
  intro t ht
  simp [GC] at ht
  rcases ht with rfl | rfl <;> simp
theorem rr_of {w : World} {p : Option Addr} {c : Nat} {vs : List Value} {rs : List (List Int)} (h : Rv w p c vs) (hl : vs.length = rs.length) (hr : ∀ y ∈ vs.zip rs, ∃ q d, y.1 = .slice q y.2.length d ∧ Rv w q d (y.2.map iv)) : Rr w p c rs :=
  ⟨by have := h.cap; omega, fun i r hi => by
    obtain ⟨v, hv⟩ := getE (l := vs) (i := i) (by rw [hl]; exact (List.getElem?_eq_some_iff.1 hi).1)
    obtain ⟨q, d, e, hq⟩ := hr (v, r) (List.mem_iff_getElem?.2 ⟨i, List.getElem?_zip_eq_some.2 ⟨hv, hi⟩⟩)
    simp only at e hq
    subst e
    obtain ⟨g, o, hp, hc⟩ := h.at_ i _ hv
    exact ⟨g, o, q, d, hp, hc, hq⟩⟩
theorem isame_t (p q : Option Addr) (c d n m : Nat) (xs : List Int) (hn : n = xs.length) (hm : m = xs.length) (w : World) (hp : Rv w p c (xs.map iv)) (hq : Rv w q d (xs.map iv)) : Calls Try.prog 87 #[.slice p n c, .slice q m d] w fun e w' => e = .returned (.bool true) ∧ Below w.heap.size w w' := by
  subst hn; subst hm
  exact (isame_calls p q c d xs xs w hp hq).mono fun e w' h => ⟨by rw [h.1, decide_eq_true rfl], h.2⟩
theorem tsame_t (p q : Option Addr) (c d n m : Nat) (xs : List Bs) (hn : n = xs.length) (hm : m = xs.length) (w : World) (hp : Rv w p c (xs.map sv)) (hq : Rv w q d (xs.map sv)) : Calls Try.prog 88 #[.slice p n c, .slice q m d] w fun e w' => e = .returned (.bool true) ∧ Below w.heap.size w w' := by
  subst hn; subst hm
  exact (tsame_calls p q c d xs xs w hp hq).mono fun e w' h => ⟨by rw [h.1, decide_eq_true rfl], h.2⟩
theorem gsame_t (x y : GS) (a : Gr) (w : World) (ha : Gm w x a) (hb : Gm w y a) : Calls Try.prog 37 #[.agg (gC x a).toArray, .agg (gC y a).toArray] w fun e w' => e = .returned (.bool true) ∧ Below w.heap.size w w' :=
  (gsame_calls x y a a w ha hb).mono fun e w' h => ⟨by rw [h.1, decide_eq_true rfl], h.2⟩
/-- what was there is there as it was -/
def Kp (a b : World) : Prop := a.heap.size ≤ b.heap.size ∧ ∀ k, k < a.heap.size → b.heap[k]? = a.heap[k]?
theorem Kp.refl (a : World) : Kp a a := ⟨Nat.le_refl _, fun _ _ => rfl⟩
theorem Kp.go {W a w3 w9 : World} {gs gs' : Gx} {own pre : List Blk} (h : Kp a w3) (h3 : St ⟨W, gs, w3, own⟩ w3) (h9 : St ⟨W, gs', w3, pre ++ own⟩ w9) (hp : ∀ x ∈ pre, w3.heap.size ≤ x.b) : Kp a w9 :=
  ⟨Nat.le_trans h.1 h9.size0, fun k hk => (still2 h3 h9 hp k (Nat.lt_of_lt_of_le hk h.1)).trans (h.2 k hk)⟩
theorem Kp.below {a w9 w3 : World} (h : Kp a w9) (hb : Below w9.heap.size w9 w3) : Kp a w3 :=
  ⟨Nat.le_trans h.1 hb.size, fun k hk => (hb.block k (Nat.lt_of_lt_of_le hk h.1)).trans (h.2 k hk)⟩
theorem Gm.kp {a b : World} {x : GS} {g : Gr} (h : Gm a x g) (hk : Kp a b) : Gm b x g := h.same hk.2
theorem Rv.kp {a b : World} {p : Option Addr} {c : Nat} {cs : List Value} (h : Rv a p c cs) (hk : Kp a b) : Rv b p c cs := h.keep (U := fun _ => True) (fun g k u _ hc => cell_same (hk.2 g (cell_lt hc)) hc) (fun _ _ => trivial)
theorem is_ga (x : GS) (w : World) (hg : Gm w x GA) (a : Value) (ha : a = .agg (gC x GA).toArray) : Calls Try.prog 42 #[a] w fun e w' => e = .returned (.bool false) ∧ Below w.heap.size w w' := by
  have h := is_calls x GA w hg
  rw [aw6, ← ha] at h
  exact h
theorem rules_gc (x : GS) (w : World) (hg : Gm w x GC) : Calls Try.prog 89 #[.agg (gC x GC).toArray] w fun e w' => ∃ p c, e = .returned (.slice p 1 c) ∧ Rv w' p c ([[83, 32, 58, 32, 97, 59]].map sv) ∧ Below w.heap.size w w' := by
  have h := rules_calls x GC awS w hg
  rw [aw9] at h
  refine h.mono fun e w' h => ?_
  obtain ⟨v, h1, h2, h3⟩ := h
  obtain ⟨p, c, hv, hr⟩ := rv_ofn h2
  exact ⟨p, c, by rw [h1, hv]; rfl, hr, h3⟩
set_option maxHeartbeats 4000000
theorem awake_calls (w : World) : Calls Try.prog 33 #[] w fun e w' => e = .returned (.bool true) ∧ Below w.heap.size w w' := by
  refine calls_start Try.func33 rfl (N := 70) rfl rfl _ (St.start _) rfl ?_
  refine wc_seq ?_
  refine wc_region ?_
  refine wl_go rfl (wo_val rfl (rv_assign rfl) rfl rfl ?_)
  refine wl_nil ?_
  refine wq_then ?_
  refine wc_seq ?_
  refine wc_region ?_
  refine wl_go rfl (wo_bs [[sv [97]], [sv [83]], [sv [85]], [sv [86]]] rfl rfl rfl (⟨rfl, rfl, ⟨_, rfl, rfl⟩, ⟨rfl, rfl, ⟨_, rfl, rfl⟩, ⟨rfl, rfl, ⟨_, rfl, rfl⟩, ⟨rfl, rfl, ⟨_, rfl, rfl⟩, trivial⟩⟩⟩⟩) rfl rfl (fun b7 hb7 => ?_))
  refine wl_go rfl (wo_bs [[iv 0]] rfl rfl rfl (⟨rfl, rfl, ⟨_, rfl, rfl⟩, trivial⟩) rfl rfl (fun b8 hb8 => ?_))
  refine wl_go rfl (wo_bs [[iv 1], [iv 0]] rfl rfl rfl (⟨rfl, rfl, ⟨_, rfl, rfl⟩, ⟨rfl, rfl, ⟨_, rfl, rfl⟩, trivial⟩⟩) rfl rfl (fun b9 hb9 => ?_))
  refine wl_go rfl (wo_bs [[iv 1], [iv 2]] rfl rfl rfl (⟨rfl, rfl, ⟨_, rfl, rfl⟩, ⟨rfl, rfl, ⟨_, rfl, rfl⟩, trivial⟩⟩) rfl rfl (fun b10 hb10 => ?_))
  refine wl_go rfl (wo_bs [[iv 2], [iv 2], [iv 0]] rfl rfl rfl (⟨rfl, rfl, ⟨_, rfl, rfl⟩, ⟨rfl, rfl, ⟨_, rfl, rfl⟩, ⟨rfl, rfl, ⟨_, rfl, rfl⟩, trivial⟩⟩⟩) rfl rfl (fun b11 hb11 => ?_))
  refine wl_go rfl (wo_bs [[iv 3], [iv 0]] rfl rfl rfl (⟨rfl, rfl, ⟨_, rfl, rfl⟩, ⟨rfl, rfl, ⟨_, rfl, rfl⟩, trivial⟩⟩) rfl rfl (fun b12 hb12 => ?_))
  refine wl_go rfl (wo_bs [[iv 1], [iv 0]] rfl rfl rfl (⟨rfl, rfl, ⟨_, rfl, rfl⟩, ⟨rfl, rfl, ⟨_, rfl, rfl⟩, trivial⟩⟩) rfl rfl (fun b13 hb13 => ?_))
  refine wl_go rfl (wo_bs [[.slice (some ⟨b9, 0, none⟩) 2 2], [.slice (some ⟨b10, 0, none⟩) 2 2], [.slice (some ⟨b11, 0, none⟩) 3 3], [.slice (some ⟨b12, 0, none⟩) 2 2], [.slice (some ⟨b13, 0, none⟩) 2 2]] rfl rfl rfl (⟨rfl, rfl, ⟨_, rfl, rfl⟩, ⟨rfl, rfl, ⟨_, rfl, rfl⟩, ⟨rfl, rfl, ⟨_, rfl, rfl⟩, ⟨rfl, rfl, ⟨_, rfl, rfl⟩, ⟨rfl, rfl, ⟨_, rfl, rfl⟩, trivial⟩⟩⟩⟩⟩) rfl rfl (fun b14 hb14 => ?_))
  refine wl_go rfl (wo_val rfl (rv_build [(0, _), (1, _), (2, _), (3, _), (4, _)] (⟨rfl, ⟨_, rfl, rfl⟩, ⟨rfl, ⟨_, rfl, rfl⟩, ⟨rfl, ⟨_, rfl, rfl⟩, ⟨rfl, ⟨_, rfl, rfl⟩, ⟨rfl, ⟨_, rfl, rfl⟩, trivial⟩⟩⟩⟩⟩)) rfl rfl ?_)
  refine wl_go rfl (wo_alloc rfl rfl rfl (fun b1 hb1 => ?_))
  refine wl_go rfl (wo_st rfl rfl rfl rfl rfl rfl rfl ?_)
  refine wl_nil ?_
  refine wq_then ?_
  refine wc_seq ?_
  have hGA : ∀ w4, St ⟨w, G0, w, [⟨b1, .cells ([.slice (some ⟨b7, 0, none⟩) 4 4, iv 1, .slice (some ⟨b8, 0, none⟩) 1 1, .slice (some ⟨b14, 0, none⟩) 5 5, iv 1] : List Value).toArray 53 (0, 0)⟩, ⟨b14, .cells ([.slice (some ⟨b9, 0, none⟩) 2 2, .slice (some ⟨b10, 0, none⟩) 2 2, .slice (some ⟨b11, 0, none⟩) 3 3, .slice (some ⟨b12, 0, none⟩) 2 2, .slice (some ⟨b13, 0, none⟩) 2 2] : List Value).toArray 50 (0, 0)⟩, ⟨b13, .cells ([iv 1, iv 0] : List Value).toArray 3 (0, 0)⟩, ⟨b12, .cells ([iv 3, iv 0] : List Value).toArray 3 (0, 0)⟩, ⟨b11, .cells ([iv 2, iv 2, iv 0] : List Value).toArray 3 (0, 0)⟩, ⟨b10, .cells ([iv 1, iv 2] : List Value).toArray 3 (0, 0)⟩, ⟨b9, .cells ([iv 1, iv 0] : List Value).toArray 3 (0, 0)⟩, ⟨b8, .cells ([iv 0] : List Value).toArray 3 (0, 0)⟩, ⟨b7, .cells ([sv [97], sv [83], sv [85], sv [86]] : List Value).toArray 9 (0, 0)⟩]⟩ w4 → Gm w4 ⟨some ⟨b7, 0, none⟩, 4, some ⟨b8, 0, none⟩, 1, some ⟨b14, 0, none⟩, 5⟩ GA := fun w4 hs4 => ⟨Rv.own (hs4.blk ⟨b7, .cells ([sv [97], sv [83], sv [85], sv [86]] : List Value).toArray 9 (0, 0)⟩ (by simp)) ⟨Nat.le_of_ble_eq_true rfl, Nat.le_of_ble_eq_true rfl⟩, Rv.own (hs4.blk ⟨b8, .cells ([iv 0] : List Value).toArray 3 (0, 0)⟩ (by simp)) ⟨Nat.le_of_ble_eq_true rfl, Nat.le_of_ble_eq_true rfl⟩, rr_of (Rv.own (hs4.blk ⟨b14, .cells ([.slice (some ⟨b9, 0, none⟩) 2 2, .slice (some ⟨b10, 0, none⟩) 2 2, .slice (some ⟨b11, 0, none⟩) 3 3, .slice (some ⟨b12, 0, none⟩) 2 2, .slice (some ⟨b13, 0, none⟩) 2 2] : List Value).toArray 50 (0, 0)⟩ (by simp)) ⟨Nat.le_of_ble_eq_true rfl, Nat.le_of_ble_eq_true rfl⟩) rfl (by
      intro y hy
      simp only [GA, GB, List.zip_cons_cons, List.zip_nil_right, List.zip_nil_left, List.mem_cons, List.not_mem_nil, or_false] at hy
      rcases hy with rfl | rfl | rfl | rfl | rfl
      · exact ⟨_, _, rfl, Rv.own (hs4.blk ⟨b9, .cells ([iv 1, iv 0] : List Value).toArray 3 (0, 0)⟩ (by simp)) ⟨Nat.le_of_ble_eq_true rfl, Nat.le_of_ble_eq_true rfl⟩⟩
      · exact ⟨_, _, rfl, Rv.own (hs4.blk ⟨b10, .cells ([iv 1, iv 2] : List Value).toArray 3 (0, 0)⟩ (by simp)) ⟨Nat.le_of_ble_eq_true rfl, Nat.le_of_ble_eq_true rfl⟩⟩
      · exact ⟨_, _, rfl, Rv.own (hs4.blk ⟨b11, .cells ([iv 2, iv 2, iv 0] : List Value).toArray 3 (0, 0)⟩ (by simp)) ⟨Nat.le_of_ble_eq_true rfl, Nat.le_of_ble_eq_true rfl⟩⟩
      · exact ⟨_, _, rfl, Rv.own (hs4.blk ⟨b12, .cells ([iv 3, iv 0] : List Value).toArray 3 (0, 0)⟩ (by simp)) ⟨Nat.le_of_ble_eq_true rfl, Nat.le_of_ble_eq_true rfl⟩⟩
      · exact ⟨_, _, rfl, Rv.own (hs4.blk ⟨b13, .cells ([iv 1, iv 0] : List Value).toArray 3 (0, 0)⟩ (by simp)) ⟨Nat.le_of_ble_eq_true rfl, Nat.le_of_ble_eq_true rfl⟩⟩)⟩
  refine wc_region ?_
  refine wl_go rfl (wo_val rfl (rv_load_own_row rfl) rfl rfl ?_)
  refine wl_go rfl (wo_call (R := fun w2 v w3 => ∃ x1 v1, v = .tuple #[.agg (gC x1 (usefulG GA)).toArray, v1, iv (usefulE GA)] ∧ Gm w3 x1 (usefulG GA) ∧ w3.ownsRow w2.heap.size 3 1 v1 (usefulL GA).length ((usefulL GA).map iv)) rfl rfl (enters_of Try.func40 (by kernel_rfl) rfl) rfl rfl rfl (fun w4 hs4 => (useful_calls ⟨some ⟨b7, 0, none⟩, 4, some ⟨b8, 0, none⟩, 1, some ⟨b14, 0, none⟩, 5⟩ GA w4 (hGA w4 hs4)).mono fun e w' h => let ⟨x1, v1, h1, h2, h3, h4⟩ := h; ⟨_, h1, ⟨x1, v1, rfl, h2, h3⟩, h4⟩) (fun w2u vu w3u hs2u hvu hb2u hm2u => ?_))
  rw [aw1, aw2, aw3] at hvu
  obtain ⟨x1, v1, rfl, hG1, hv1⟩ := hvu
  obtain ⟨p1, c1, rfl, hr1⟩ := rv_of hv1
  have h3u := (hs2u.more hb2u).name
  have hGA3 := (hGA _ hs2u).below hb2u
  refine wl_go rfl (wo_val rfl (rv_move rfl) rfl rfl ?_)
  refine wl_go rfl (wo_val rfl (rv_extract rfl rfl) rfl rfl ?_)
  refine wl_go rfl (wo_val rfl (rv_extract rfl rfl) rfl rfl ?_)
  refine wl_go rfl (wo_val rfl (rv_extract rfl rfl) rfl rfl ?_)
  refine wl_go rfl (wo_alloc rfl rfl rfl (fun b2 hb2 => ?_))
  refine wl_go rfl (wo_st rfl rfl rfl rfl rfl rfl rfl ?_)
  refine wl_go rfl (wo_val rfl (rv_assign rfl) rfl rfl ?_)
  refine wl_go rfl (wo_val rfl (rv_assign rfl) rfl rfl ?_)
  refine wl_nil ?_
  refine wq_then ?_
  refine wc_seq ?_
  refine wc_region ?_
  refine wl_go rfl (wo_val rfl (rv_load_own_row rfl) rfl rfl ?_)
  refine wl_go rfl (wo_call (R := fun w2 v w3 => ∃ x2 v2, v = .tuple #[.agg (gC x2 (onceG GB)).toArray, v2] ∧ Gm w3 x2 (onceG GB) ∧ w3.ownsRow w2.heap.size 3 1 v2 (onceL GB).length ((onceL GB).map iv)) rfl rfl (enters_of Try.func36 (by kernel_rfl) rfl) rfl rfl rfl (fun w4 hs4 => (once_calls x1 GB w4 (hG1.kp ((Kp.refl w3u).go (pre := [_]) h3u hs4 (by intro y hy; simp only [List.mem_cons, List.not_mem_nil, or_false] at hy; rcases hy with rfl; exact hb2)))).mono fun e w' h => let ⟨x1, v1, h1, h2, h3, h4⟩ := h; ⟨_, h1, ⟨x1, v1, rfl, h2, h3⟩, h4⟩) (fun w2o vo w3o hs2o hvo hb2o hm2o => ?_))
  rw [aw4, aw5] at hvo
  obtain ⟨x2, v2, rfl, hG2, hv2⟩ := hvo
  obtain ⟨p2, c2, rfl, hr2⟩ := rv_of hv2
  have h3o := (hs2o.more hb2o).name
  have hK := ((Kp.refl w3u).go (pre := [_]) h3u hs2o (by intro y hy; simp only [List.mem_cons, List.not_mem_nil, or_false] at hy; rcases hy with rfl; exact hb2)).below hb2o
  have hA0 := hGA3.kp hK
  have hB0 := hG1.kp hK
  have hr1b := hr1.kp hK
  have hK0 := Kp.refl w3o
  refine wl_go rfl (wo_val rfl (rv_move rfl) rfl rfl ?_)
  refine wl_go rfl (wo_val rfl (rv_extract rfl rfl) rfl rfl ?_)
  refine wl_go rfl (wo_val rfl (rv_extract rfl rfl) rfl rfl ?_)
  refine wl_go rfl (wo_alloc rfl rfl rfl (fun b5 hb5 => ?_))
  refine wl_go rfl (wo_st rfl rfl rfl rfl rfl rfl rfl ?_)
  refine wl_go rfl (wo_val rfl (rv_assign rfl) rfl rfl ?_)
  refine wl_nil ?_
  refine wq_then ?_
  refine wc_seq ?_
  refine wc_region ?_
  refine wl_go rfl (wo_val rfl (rv_move rfl) rfl rfl ?_)
  refine wl_go rfl (wo_val rfl (rv_cmp_i rfl rfl rfl) rfl rfl ?_)
  refine wl_go rfl (wo_val rfl (rv_move rfl) rfl rfl ?_)
  refine wl_want rfl rfl rfl rfl rfl rfl (wo_val rfl (rv_move rfl) rfl rfl ?_)
  refine wl_want rfl rfl rfl rfl rfl rfl (wo_bs [[iv 0], [iv 1], [iv (-1)], [iv (-1)]] rfl rfl rfl (⟨rfl, rfl, ⟨_, rfl, rfl⟩, ⟨rfl, rfl, ⟨_, rfl, rfl⟩, ⟨rfl, rfl, ⟨_, rfl, rfl⟩, ⟨rfl, rfl, ⟨_, rfl, rfl⟩, trivial⟩⟩⟩⟩) rfl rfl (fun b31 hb31 => ?_))
  refine wl_want rfl rfl rfl rfl rfl rfl (wo_call (R := fun _ v _ => v = _) rfl rfl (enters_of Try.func87 (by kernel_rfl) rfl) rfl rfl rfl (fun w4 hs4 => (isame_t _ _ _ _ _ _ [0, 1, -1, -1] rfl rfl w4 (hr1b.kp (hK0.go (pre := [_, _]) h3o hs4 (by intro y hy; simp only [List.mem_cons, List.not_mem_nil, or_false] at hy; rcases hy with rfl | rfl; exact hb31; exact hb5))) (Rv.own (hs4.blk ⟨b31, .cells ([iv 0, iv 1, iv (-1), iv (-1)] : List Value).toArray 3 (0, 0)⟩ (by simp)) ⟨Nat.le_of_ble_eq_true rfl, Nat.le_of_ble_eq_true rfl⟩)).mono fun e w' h => ⟨_, h.1, rfl, h.2⟩) (fun w2x vx w3x hs2x hvx hb2x hm2x => ?_))
  subst hvx
  have h3x := (hs2x.more hb2x).name
  have hKx := (hK0.go (pre := [_, _]) h3o hs2x (by intro y hy; simp only [List.mem_cons, List.not_mem_nil, or_false] at hy; rcases hy with rfl | rfl; exact hb31; exact hb5)).below hb2x
  refine wl_go rfl (wo_val rfl (rv_pick_t rfl rfl rfl) rfl rfl ?_)
  refine wl_go rfl (wo_val rfl (rv_move rfl) rfl rfl ?_)
  refine wl_want rfl rfl rfl rfl rfl rfl (wo_val rfl (rv_load_own_row rfl) rfl rfl ?_)
  refine wl_want rfl rfl rfl rfl rfl rfl (wo_call (R := fun _ v _ => v = _) rfl rfl (enters_of Try.func38 (by kernel_rfl) rfl) rfl rfl rfl (fun w4 hs4 => (plain_calls x1 GB w4).mono fun e w' h => ⟨_, h.1, rfl, h.2⟩) (fun w2y vy w3y hs2y hvy hb2y hm2y => ?_))
  subst hvy
  have h3y := (hs2y.more hb2y).name
  have hKy := (hKx.go (pre := []) h3x hs2y (fun _ h => by cases h)).below hb2y
  refine wl_want rfl rfl rfl rfl rfl rfl (wo_bs [[sv [97]], [sv [83]]] rfl rfl rfl (⟨rfl, rfl, ⟨_, rfl, rfl⟩, ⟨rfl, rfl, ⟨_, rfl, rfl⟩, trivial⟩⟩) rfl rfl (fun b37 hb37 => ?_))
  refine wl_want rfl rfl rfl rfl rfl rfl (wo_bs [[iv 0]] rfl rfl rfl (⟨rfl, rfl, ⟨_, rfl, rfl⟩, trivial⟩) rfl rfl (fun b38 hb38 => ?_))
  refine wl_want rfl rfl rfl rfl rfl rfl (wo_bs [[iv 1], [iv 0]] rfl rfl rfl (⟨rfl, rfl, ⟨_, rfl, rfl⟩, ⟨rfl, rfl, ⟨_, rfl, rfl⟩, trivial⟩⟩) rfl rfl (fun b39 hb39 => ?_))
  refine wl_want rfl rfl rfl rfl rfl rfl (wo_bs [[iv 1], [iv 0]] rfl rfl rfl (⟨rfl, rfl, ⟨_, rfl, rfl⟩, ⟨rfl, rfl, ⟨_, rfl, rfl⟩, trivial⟩⟩) rfl rfl (fun b40 hb40 => ?_))
  refine wl_want rfl rfl rfl rfl rfl rfl (wo_bs [[.slice (some ⟨b39, 0, none⟩) 2 2], [.slice (some ⟨b40, 0, none⟩) 2 2]] rfl rfl rfl (⟨rfl, rfl, ⟨_, rfl, rfl⟩, ⟨rfl, rfl, ⟨_, rfl, rfl⟩, trivial⟩⟩) rfl rfl (fun b41 hb41 => ?_))
  refine wl_want rfl rfl rfl rfl rfl rfl (wo_val rfl (rv_build [(0, _), (1, _), (2, _), (3, _), (4, _)] (⟨rfl, ⟨_, rfl, rfl⟩, ⟨rfl, ⟨_, rfl, rfl⟩, ⟨rfl, ⟨_, rfl, rfl⟩, ⟨rfl, ⟨_, rfl, rfl⟩, ⟨rfl, ⟨_, rfl, rfl⟩, trivial⟩⟩⟩⟩⟩)) rfl rfl ?_)
  refine wl_want rfl rfl rfl rfl rfl rfl (wo_call (R := fun _ v _ => v = _) rfl rfl (enters_of Try.func37 (by kernel_rfl) rfl) rfl rfl rfl (fun w4 hs4 => (gsame_t x1 ⟨some ⟨b37, 0, none⟩, 2, some ⟨b38, 0, none⟩, 1, some ⟨b41, 0, none⟩, 2⟩ GB w4 (hB0.kp (hKy.go (pre := [_, _, _, _, _]) h3y hs4 (by intro y hy; simp only [List.mem_cons, List.not_mem_nil, or_false] at hy; rcases hy with rfl | rfl | rfl | rfl | rfl; exact hb41; exact hb40; exact hb39; exact hb38; exact hb37))) (⟨Rv.own (hs4.blk ⟨b37, .cells ([sv [97], sv [83]] : List Value).toArray 9 (0, 0)⟩ (by simp)) ⟨Nat.le_of_ble_eq_true rfl, Nat.le_of_ble_eq_true rfl⟩, Rv.own (hs4.blk ⟨b38, .cells ([iv 0] : List Value).toArray 3 (0, 0)⟩ (by simp)) ⟨Nat.le_of_ble_eq_true rfl, Nat.le_of_ble_eq_true rfl⟩, rr_of (Rv.own (hs4.blk ⟨b41, .cells ([.slice (some ⟨b39, 0, none⟩) 2 2, .slice (some ⟨b40, 0, none⟩) 2 2] : List Value).toArray 50 (0, 0)⟩ (by simp)) ⟨Nat.le_of_ble_eq_true rfl, Nat.le_of_ble_eq_true rfl⟩) rfl (by
      intro y hy
      simp only [GA, GB, List.zip_cons_cons, List.zip_nil_right, List.zip_nil_left, List.mem_cons, List.not_mem_nil, or_false] at hy
      rcases hy with rfl | rfl
      · exact ⟨_, _, rfl, Rv.own (hs4.blk ⟨b39, .cells ([iv 1, iv 0] : List Value).toArray 3 (0, 0)⟩ (by simp)) ⟨Nat.le_of_ble_eq_true rfl, Nat.le_of_ble_eq_true rfl⟩⟩
      · exact ⟨_, _, rfl, Rv.own (hs4.blk ⟨b40, .cells ([iv 1, iv 0] : List Value).toArray 3 (0, 0)⟩ (by simp)) ⟨Nat.le_of_ble_eq_true rfl, Nat.le_of_ble_eq_true rfl⟩⟩)⟩)).mono fun e w' h => ⟨_, h.1, rfl, h.2⟩) (fun w2z vz w3z hs2z hvz hb2z hm2z => ?_))
  subst hvz
  have h3z := (hs2z.more hb2z).name
  have hKz := (hKy.go (pre := [_, _, _, _, _]) h3y hs2z (by intro y hy; simp only [List.mem_cons, List.not_mem_nil, or_false] at hy; rcases hy with rfl | rfl | rfl | rfl | rfl; exact hb41; exact hb40; exact hb39; exact hb38; exact hb37)).below hb2z
  refine wl_go rfl (wo_val rfl (rv_pick_t rfl rfl rfl) rfl rfl ?_)
  refine wl_go rfl (wo_val rfl (rv_move rfl) rfl rfl ?_)
  refine wl_want rfl rfl rfl rfl rfl rfl (wo_val rfl (rv_move rfl) rfl rfl ?_)
  refine wl_want rfl rfl rfl rfl rfl rfl (wo_bs [[iv 0], [iv 0]] rfl rfl rfl (⟨rfl, rfl, ⟨_, rfl, rfl⟩, ⟨rfl, rfl, ⟨_, rfl, rfl⟩, trivial⟩⟩) rfl rfl (fun b47 hb47 => ?_))
  refine wl_want rfl rfl rfl rfl rfl rfl (wo_call (R := fun _ v _ => v = _) rfl rfl (enters_of Try.func87 (by kernel_rfl) rfl) rfl rfl rfl (fun w4 hs4 => (isame_t _ _ _ _ _ _ [0, 0] rfl rfl w4 (hr2.kp (hKz.go (pre := [_]) h3z hs4 (by intro y hy; simp only [List.mem_cons, List.not_mem_nil, or_false] at hy; rcases hy with rfl; exact hb47))) (Rv.own (hs4.blk ⟨b47, .cells ([iv 0, iv 0] : List Value).toArray 3 (0, 0)⟩ (by simp)) ⟨Nat.le_of_ble_eq_true rfl, Nat.le_of_ble_eq_true rfl⟩)).mono fun e w' h => ⟨_, h.1, rfl, h.2⟩) (fun w2a va w3a hs2a hva hb2a hm2a => ?_))
  subst hva
  have h3a := (hs2a.more hb2a).name
  have hKa := (hKz.go (pre := [_]) h3z hs2a (by intro y hy; simp only [List.mem_cons, List.not_mem_nil, or_false] at hy; rcases hy with rfl; exact hb47)).below hb2a
  refine wl_go rfl (wo_val rfl (rv_pick_t rfl rfl rfl) rfl rfl ?_)
  refine wl_go rfl (wo_val rfl (rv_move rfl) rfl rfl ?_)
  refine wl_want rfl rfl rfl rfl rfl rfl (wo_val rfl (rv_load_own_row rfl) rfl rfl ?_)
  refine wl_want rfl rfl rfl rfl rfl rfl (wo_call (R := fun _ v _ => v = _) rfl rfl (enters_of Try.func42 (by kernel_rfl) rfl) rfl rfl rfl (fun w4 hs4 => (is_calls x2 GC w4 (hG2.kp (hKa.go (pre := []) h3a hs4 (fun _ h => by cases h)))).mono fun e w' h => ⟨_, h.1, rfl, h.2⟩) (fun w2b vb w3b hs2b hvb hb2b hm2b => ?_))
  subst hvb
  have h3b := (hs2b.more hb2b).name
  have hKb := (hKa.go (pre := []) h3a hs2b (fun _ h => by cases h)).below hb2b
  rw [aw8]
  refine wl_go rfl (wo_val rfl (rv_pick_t rfl rfl rfl) rfl rfl ?_)
  refine wl_go rfl (wo_val rfl (rv_move rfl) rfl rfl ?_)
  refine wl_want rfl rfl rfl rfl rfl rfl (wo_val rfl (rv_load_own_row rfl) rfl rfl ?_)
  refine wl_want rfl rfl rfl rfl rfl rfl (wo_call (R := fun _ v _ => v = _) rfl rfl (enters_of Try.func42 (by kernel_rfl) rfl) rfl rfl rfl (fun w4 hs4 => (is_calls x1 GB w4 (hB0.kp (hKb.go (pre := []) h3b hs4 (fun _ h => by cases h)))).mono fun e w' h => ⟨_, h.1, rfl, h.2⟩) (fun w2c vc w3c hs2c hvc hb2c hm2c => ?_))
  subst hvc
  have h3c := (hs2c.more hb2c).name
  have hKc := (hKb.go (pre := []) h3b hs2c (fun _ h => by cases h)).below hb2c
  rw [aw7]
  refine wl_want rfl rfl rfl rfl rfl rfl (wo_val rfl (rv_not rfl) rfl rfl ?_)
  refine wl_go rfl (wo_val rfl (rv_pick_t rfl rfl rfl) rfl rfl ?_)
  refine wl_go rfl (wo_val rfl (rv_move rfl) rfl rfl ?_)
  refine wl_want rfl rfl rfl rfl rfl rfl (wo_val rfl (rv_load_own_row rfl) rfl rfl ?_)
  refine wl_want rfl rfl rfl rfl rfl rfl (wo_call (R := fun _ v _ => v = _) rfl rfl (enters_of Try.func42 (by kernel_rfl) rfl) rfl rfl rfl (fun w4 hs4 => (is_ga ⟨some ⟨b7, 0, none⟩, 4, some ⟨b8, 0, none⟩, 1, some ⟨b14, 0, none⟩, 5⟩ w4 (hA0.kp (hKc.go (pre := []) h3c hs4 (fun _ h => by cases h))) _ rfl).mono fun e w' h => ⟨_, h.1, rfl, h.2⟩) (fun w2d vd w3d hs2d hvd hb2d hm2d => ?_))
  subst hvd
  have h3d := (hs2d.more hb2d).name
  have hKd := (hKc.go (pre := []) h3c hs2d (fun _ h => by cases h)).below hb2d
  refine wl_want rfl rfl rfl rfl rfl rfl (wo_val rfl (rv_not rfl) rfl rfl ?_)
  refine wl_go rfl (wo_val rfl (rv_pick_t rfl rfl rfl) rfl rfl ?_)
  refine wl_go rfl (wo_val rfl (rv_move rfl) rfl rfl ?_)
  refine wl_want rfl rfl rfl rfl rfl rfl (wo_val rfl (rv_load_own_row rfl) rfl rfl ?_)
  refine wl_want rfl rfl rfl rfl rfl rfl (wo_call (R := fun w2 v w3 => ∃ p c, v = .slice p 1 c ∧ Rv w3 p c ([[83, 32, 58, 32, 97, 59]].map sv)) rfl rfl (enters_of Try.func89 (by kernel_rfl) rfl) rfl rfl rfl (fun w4 hs4 => (rules_gc x2 w4 (hG2.kp (hKd.go (pre := []) h3d hs4 (fun _ h => by cases h)))).mono fun e w' h => let ⟨p, c, h1, h2, h3⟩ := h; ⟨_, h1, ⟨p, c, rfl, h2⟩, h3⟩) (fun w2r vr w3r hs2r hvr hb2r hm2r => ?_))
  obtain ⟨p9, c9, rfl, hr9⟩ := hvr
  have h3r := (hs2r.more hb2r).name
  have hK9 := Kp.refl w3r
  refine wl_want rfl rfl rfl rfl rfl rfl (wo_bs [[sv [83, 32, 58, 32, 97, 59]]] rfl rfl rfl (⟨rfl, rfl, ⟨_, rfl, rfl⟩, trivial⟩) rfl rfl (fun b67 hb67 => ?_))
  refine wl_want rfl rfl rfl rfl rfl rfl (wo_call (R := fun _ v _ => v = _) rfl rfl (enters_of Try.func88 (by kernel_rfl) rfl) rfl rfl rfl (fun w4 hs4 => (tsame_t _ _ _ _ _ _ [[83, 32, 58, 32, 97, 59]] rfl rfl w4 (hr9.kp (hK9.go (pre := [_]) h3r hs4 (by intro y hy; simp only [List.mem_cons, List.not_mem_nil, or_false] at hy; rcases hy with rfl; exact hb67))) (Rv.own (hs4.blk ⟨b67, .cells ([sv [83, 32, 58, 32, 97, 59]] : List Value).toArray 9 (0, 0)⟩ (by simp)) ⟨Nat.le_of_ble_eq_true rfl, Nat.le_of_ble_eq_true rfl⟩)).mono fun e w' h => ⟨_, h.1, rfl, h.2⟩) (fun w2e ve w3e hs2e hve hb2e hm2e => ?_))
  subst hve
  have h3e := (hs2e.more hb2e).name
  have hKe := (hK9.go (pre := [_]) h3r hs2e (by intro y hy; simp only [List.mem_cons, List.not_mem_nil, or_false] at hy; rcases hy with rfl; exact hb67)).below hb2e
  refine wl_go rfl (wo_val rfl (rv_pick_t rfl rfl rfl) rfl rfl ?_)
  refine wl_go rfl (wo_val rfl (rv_assign rfl) rfl rfl ?_)
  refine wl_nil ?_
  refine wq_then ?_
  refine wc_ret ?_
  refine wq_ret1 rfl rfl (rr_tmp rfl) (fun w9 hs9 => ?_)
  exact ⟨rfl, hs9.below rfl⟩
end Go.Proofs.Ytlppkbfkajionaa.Cm
