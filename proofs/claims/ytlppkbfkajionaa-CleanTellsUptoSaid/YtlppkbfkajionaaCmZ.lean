/- The walks of grammars: Make, made, plain. -/
import Derived.Test.YtlppkbfkajionaaCmY
namespace Go.Proofs.Ytlppkbfkajionaa.Cm
open Go Go.RowKit Gw Go.Shelf
set_option linter.unusedSimpArgs false
set_option linter.unusedVariables false
set_option linter.unusedSectionVars false
section
variable {P : Program} {l : List (Nat × Value)} {S : Sx}
theorem rv_rem {T T' : Nat} {x y : Operand} {m p : Int} (hx : ev l x = some (.int .i64 m)) (hy : ev l y = some (.int .i64 p)) (h : 0 ≤ m ∧ 0 < p ∧ p ≤ 9223372036854775807) : RV P l S (.binOp .rem T x y T') (iv (m % p)) := ⟨rfl, fun N a w o ho ha hs => by
  have h1 : m.tmod p = m % p := IntWalk.rem_in m p h.1
  have h2 := Int.emod_nonneg m (show p ≠ 0 by omega)
  have h3 := Int.emod_lt_of_pos m h.2.1
  have hw : IntKind.i64.wrap (m % p) = m % p := IntWalk.i64_in _ (by omega)
  have hz : p ≠ 0 := by omega
  unfold execOp
  simp only [ho, ha.ev hx, ha.ev hy]
  go_simp⟩
theorem rv_conv {A B : Nat} {x : Operand} {m : Int} {k : IntKind} [hA : TInt P A k] [hB : TInt P B .i64] (hx : ev l x = some (.int k m)) (h : -9223372036854775808 ≤ m ∧ m ≤ 9223372036854775807) : RV P l S (.convert A B x) (iv m) := ⟨rfl, fun N a w o ho ha hs => by
  have hw : IntKind.i64.wrap m = m := IntWalk.i64_in _ h
  have hu := hA.h
  have hv := hB.h
  unfold execOp
  simp only [ho, ha.ev hx]
  go_simp⟩
end
structure RowOk (n : Int) (r : List Int) : Prop where
  pos : 0 < r.length
  len : r.length ≤ 4
  head : 2 ≤ r.headD 0 ∧ r.headD 0 < 2 + n
  all : ∀ x ∈ r, 0 ≤ x ∧ x < 2 + n
abbrev nms : List Bs := [[97], [98], [83], [84], [85]]
theorem rr_own {w : World} {base : Nat} {p : Option Addr} {c : Nat} {vs : List Value} {rs : List (List Int)} (h : Rv w p c vs) (hl : vs.length = rs.length) (hr : ∀ y ∈ rowsL vs rs, w.ownsRow base y.1 1 y.2.1 y.2.2.length y.2.2) : Rr w p c rs :=
  ⟨by have := h.cap; omega, fun i r hi => by
    obtain ⟨v, hv⟩ := getE (l := vs) (i := i) (by rw [hl]; exact (List.getElem?_eq_some_iff.1 hi).1)
    have hm : ((3, v, r.map iv) : RowOf) ∈ rowsL vs rs := by
      refine List.mem_iff_getElem?.2 ⟨i, ?_⟩
      unfold rowsL
      rw [List.getElem?_map, show (vs.zip rs)[i]? = some (v, r) from List.getElem?_zip_eq_some.2 ⟨hv, hi⟩]; rfl
    have h3 : w.ownsRow base 3 1 v (r.map iv).length (r.map iv) := hr _ hm
    rw [List.length_map] at h3
    obtain ⟨q, d, rfl, hq⟩ := rv_ofn h3
    obtain ⟨g, o, hp, hc⟩ := h.at_ i _ hv
    exact ⟨g, o, q, d, hp, hc, hq⟩⟩
def gM (n : Int) (rs : List (List Int)) : Gr := ⟨nms.take (2 + n).toNat, 2, [0, 1], rs, 2⟩
theorem gM_len {n : Int} (h : 1 ≤ n ∧ n ≤ 3) (rs : List (List Int)) : (gM n rs).names.length = (2 + n).toNat := by
  unfold gM
  rw [List.length_take]
  show min _ 5 = _
  omega
theorem gM_ok {n : Int} {rs : List (List Int)} (h : 1 ≤ n ∧ n ≤ 3) (hl : rs.length ≤ 9) (hr : ∀ r ∈ rs, RowOk n r) (he : ∀ y : Int, 2 ≤ y → y < 2 + n → ∃ r ∈ rs, r.headD 0 = y) : Ok (gM n rs) := by
  have hn := gM_len h rs
  have hi : ((gM n rs).names.length : Int) = 2 + n := by omega
  have h1 : 1 ≤ rs.length := by
    obtain ⟨r, hr, _⟩ := he 2 (by omega) (by omega)
    exact List.length_pos_of_mem hr
  refine ⟨by show (0 : Int) ≤ 2; omega, by rw [hi]; show (2 : Int) ≤ _; omega, rfl, by omega, h1, by show rs.length ≤ 256; omega, madeB_iff.2 ⟨by show (2 : Int) ≤ 2; omega, by show (0 : Int) ≤ 2; omega, by rw [hi]; show (2 : Int) < _; omega⟩, fun r hr2 => fitsB_iff.2 ?_, fun s h1 h2 => he s h1 (by omega)⟩
  have hr3 := hr r hr2
  exact ⟨hr3.pos, by have := hr3.len; omega, ⟨hr3.head.1, by have := hr3.head; omega, by rw [hi]; exact hr3.head.2⟩, fun x hx => by rw [hi]; exact hr3.all x (List.mem_of_mem_drop hx)⟩
theorem gM_short (n : Int) (rs : List (List Int)) : Short (gM n rs) := fun s hs => by
  have h := List.mem_of_mem_take hs
  simp at h
  rcases h with rfl | rfl | rfl | rfl | rfl <;> simp
set_option maxHeartbeats 4000000 in
theorem make_calls (code : Bs) (hlen : code.length ≤ 60) (w : World) : Calls Try.prog 94 #[sv code] w fun e w' => ∃ x1 g1, e = .returned (.agg (gC x1 g1).toArray) ∧ (∀ w2, (∀ k, w.heap.size ≤ k → k < w'.heap.size → w2.heap[k]? = w'.heap[k]?) → Gm w2 x1 g1) ∧ Ok g1 ∧ Short g1 ∧ g1.names.length ≤ 12 ∧ g1.rules.length ≤ 16 ∧ Below w.heap.size w w' := by
  refine calls_start Try.func94 rfl (N := 96) rfl rfl _ (St.start _) rfl ?_
  refine wc_seq ?_
  refine wc_region ?_
  refine wl_go rfl (wo_alloc rfl rfl rfl (fun b2 hb2 => ?_))
  refine wl_nil ?_
  refine wq_then ?_
  refine wc_seq ?_
  refine wc_region ?_
  refine wl_go rfl (wo_val rfl (rv_assign rfl) rfl rfl ?_)
  refine wl_nil ?_
  refine wq_then ?_
  refine wc_seq ?_
  refine wc_region ?_
  refine wl_go rfl (wo_bs [[iv 0], [iv 1]] rfl rfl rfl (⟨rfl, rfl, ⟨_, rfl, rfl⟩, ⟨rfl, rfl, ⟨_, rfl, rfl⟩, trivial⟩⟩) rfl rfl (fun b13 hb13 => ?_))
  refine wl_go rfl (wo_bs [[sv [97]], [sv [98]], [sv [83]], [sv [84]], [sv [85]]] rfl rfl rfl (⟨rfl, rfl, ⟨_, rfl, rfl⟩, ⟨rfl, rfl, ⟨_, rfl, rfl⟩, ⟨rfl, rfl, ⟨_, rfl, rfl⟩, ⟨rfl, rfl, ⟨_, rfl, rfl⟩, ⟨rfl, rfl, ⟨_, rfl, rfl⟩, trivial⟩⟩⟩⟩⟩) rfl rfl (fun b14 hb14 => ?_))
  refine wl_go rfl (wo_val rfl (rv_build [(1, _), (2, _), (0, _)] (⟨rfl, ⟨_, rfl, rfl⟩, ⟨rfl, ⟨_, rfl, rfl⟩, ⟨rfl, ⟨_, rfl, rfl⟩, trivial⟩⟩⟩)) rfl rfl ?_)
  refine wl_go rfl (wo_alloc rfl rfl rfl (fun b4 hb4 => ?_))
  refine wl_go rfl (wo_st rfl rfl rfl rfl rfl rfl rfl ?_)
  refine wl_nil ?_
  refine wq_then ?_
  refine wc_seq ?_
  refine wc_region ?_
  refine wl_go rfl (wo_val rfl (rv_assign rfl) rfl rfl ?_)
  refine wl_nil ?_
  refine wq_then ?_
  refine wc_seq ?_
  refine wc_seq ?_
  refine wc_region ?_
  refine wl_go rfl (wo_val rfl (rv_move rfl) rfl rfl ?_)
  refine wl_go rfl (wo_val rfl (rb_len rfl) rfl rfl ?_)
  refine wl_go rfl (wo_val rfl (rv_cmp_i rfl rfl rfl) rfl rfl ?_)
  refine wl_nil ?_
  refine wq_then ?_
  refine wc_cut (fun l S => ∃ (n : Int) (a : Nat), 1 ≤ n ∧ n ≤ 3 ∧ a ≤ code.length ∧ l = [(0, sv code), (2, .pointer (some ⟨b2, 0, none⟩)), (4, .pointer (some ⟨b4, 0, none⟩)), (3, iv (a : Int)), (5, iv n)] ∧ S = ⟨w, G0, w, [⟨b4, .cells ([.slice (some ⟨b14, 0, none⟩) 5 5, iv 2, .slice (some ⟨b13, 0, none⟩) 2 2, .slice none 0 0, iv 0] : List Value).toArray 60 (0, 0)⟩, ⟨b14, .cells ([sv [97], sv [98], sv [83], sv [84], sv [85]] : List Value).toArray 9 (0, 0)⟩, ⟨b13, .cells ([iv 0, iv 1] : List Value).toArray 3 (0, 0)⟩, ⟨b2, .cells ([.slice none 0 0, .int .i64 0, .slice none 0 0, .slice none 0 0, .int .i64 0] : List Value).toArray 60 (0, 0)⟩]⟩) ?_ ?_
  · skip
    refine wc_cond rfl (fun hc18 => ?_) (fun hc18 => ?_)
    · simp only [decide_eq_true_eq, decide_eq_false_iff_not, Bool.not_eq_true', Bool.not_eq_false', bne_iff_ne, beq_iff_eq, bne_eq_false_iff_eq, beq_eq_false_iff_ne, Int.not_lt, Int.not_le] at hc18
      obtain ⟨cb, hcb⟩ := getE (l := code) (i := 0) (by omega)
      refine wc_seq ?_
      refine wc_region ?_
      refine wl_go rfl (wo_val rfl (rv_move rfl) rfl rfl ?_)
      refine wl_go rfl (wo_val rfl (rb_index (b := cb) rfl rfl (by omega) hcb) rfl rfl ?_)
      refine wl_go rfl (wo_val rfl (rv_conv rfl (by have := cb.toNat_lt; omega)) rfl rfl ?_)
      refine wl_go rfl (wo_val rfl (rv_rem rfl rfl (by omega)) rfl rfl ?_)
      refine wl_go rfl (wo_val rfl (rv_add rfl rfl (by omega)) rfl rfl ?_)
      refine wl_go rfl (wo_val rfl (rv_assign rfl) rfl rfl ?_)
      refine wl_nil ?_
      refine wq_then ?_
      refine wc_region ?_
      refine wl_go rfl (wo_val rfl (rv_assign rfl) rfl rfl ?_)
      refine wl_nil ?_
      exact wq_cut ⟨_, ⟨1 + (cb.toNat : Int) % 3, 1, by omega, by omega, by omega, rfl, rfl⟩, by repeat (first | exact sub_nil | refine sub_cons rfl ?_)⟩
    · simp only [decide_eq_true_eq, decide_eq_false_iff_not, Bool.not_eq_true', Bool.not_eq_false', bne_iff_ne, beq_iff_eq, bne_eq_false_iff_eq, beq_eq_false_iff_ne, Int.not_lt, Int.not_le] at hc18
      refine wc_skip ?_
      exact wq_cut ⟨_, ⟨1, 0, by omega, by omega, by omega, rfl, rfl⟩, by repeat (first | exact sub_nil | refine sub_cons rfl ?_)⟩
  · rintro l S ⟨n, a, hn1, hn3, ha, rfl, rfl⟩
    refine wq_then ?_
    refine wc_seq ?_
    refine wc_region ?_
    refine wl_go rfl (wo_val rfl (rv_fieldAddr0 rfl) rfl rfl ?_)
    refine wl_go rfl (wo_val rfl (rv_load_own rfl rfl) rfl rfl ?_)
    refine wl_go rfl (wo_val rfl (rv_move rfl) rfl rfl ?_)
    refine wl_go rfl (wo_val rfl (rv_add rfl rfl (by omega)) rfl rfl ?_)
    refine wl_go rfl (wo_val rfl (rv_slice rfl bnd_none (bnd_some rfl (by omega)) (by omega)) rfl rfl ?_)
    rw [addr0, Nat.sub_zero]
    refine wl_go rfl (wo_val rfl (rv_fieldAddr0 rfl) rfl rfl ?_)
    refine wl_go rfl (wo_st rfl rfl rfl rfl rfl rfl rfl ?_)
    refine wl_nil ?_
    refine wq_then ?_
    refine wc_seq ?_
    refine wc_region ?_
    refine wl_go rfl (wo_val rfl (rv_fieldAddr rfl) rfl rfl ?_)
    refine wl_go rfl (wo_st rfl rfl rfl rfl rfl rfl rfl ?_)
    refine wl_nil ?_
    refine wq_then ?_
    refine wc_seq ?_
    refine wc_seq ?_
    refine wc_region ?_
    refine wl_go rfl (wo_val rfl (rv_assign rfl) rfl rfl ?_)
    refine wl_nil ?_
    refine wq_then ?_
    refine wc_block ?_
    have hH00 := (Hp.nil ⟨w, G0, w, [⟨b4, .cells ([.slice (some ⟨b14, 0, none⟩) (2 + n).toNat 5, iv 2, .slice (some ⟨b13, 0, none⟩) 2 2, .slice none 0 0, iv 2] : List Value).toArray 60 (0, 0)⟩, ⟨b14, .cells ([sv [97], sv [98], sv [83], sv [84], sv [85]] : List Value).toArray 9 (0, 0)⟩, ⟨b13, .cells ([iv 0, iv 1] : List Value).toArray 3 (0, 0)⟩, ⟨b2, .cells ([.slice none 0 0, .int .i64 0, .slice none 0 0, .slice none 0 0, .int .i64 0] : List Value).toArray 60 (0, 0)⟩]⟩).none_ 50
    refine wc_loop (fun m l S => ∃ (s : Nat) (RS : List (List Int)) (vr : Value) (vs : List Value) (a : Nat) (w1 : World), (s : Int) ≤ n ∧ RS.length ≤ 3 * s ∧ vs.length = RS.length ∧ Hp ⟨w, G0, w1, [⟨b4, .cells ([.slice (some ⟨b14, 0, none⟩) (2 + n).toNat 5, iv 2, .slice (some ⟨b13, 0, none⟩) 2 2, vr, iv 2] : List Value).toArray 60 (0, 0)⟩, ⟨b14, .cells ([sv [97], sv [98], sv [83], sv [84], sv [85]] : List Value).toArray 9 (0, 0)⟩, ⟨b13, .cells ([iv 0, iv 1] : List Value).toArray 3 (0, 0)⟩, ⟨b2, .cells ([.slice none 0 0, .int .i64 0, .slice none 0 0, .slice none 0 0, .int .i64 0] : List Value).toArray 60 (0, 0)⟩]⟩ ((50, vr, vs) :: rowsL vs RS) ∧ a ≤ code.length ∧ (∀ r ∈ RS, RowOk n r) ∧ (∀ y : Int, 2 ≤ y → y < 2 + (s : Int) → ∃ r ∈ RS, r.headD 0 = y) ∧ m = 3 - s ∧ l = [(0, sv code), (2, .pointer (some ⟨b2, 0, none⟩)), (4, .pointer (some ⟨b4, 0, none⟩)), (3, iv (a : Int)), (5, iv n), (6, iv (s : Int))] ∧ S = ⟨w, G0, w1, [⟨b4, .cells ([.slice (some ⟨b14, 0, none⟩) (2 + n).toNat 5, iv 2, .slice (some ⟨b13, 0, none⟩) 2 2, vr, iv 2] : List Value).toArray 60 (0, 0)⟩, ⟨b14, .cells ([sv [97], sv [98], sv [83], sv [84], sv [85]] : List Value).toArray 9 (0, 0)⟩, ⟨b13, .cells ([iv 0, iv 1] : List Value).toArray 3 (0, 0)⟩, ⟨b2, .cells ([.slice none 0 0, .int .i64 0, .slice none 0 0, .slice none 0 0, .int .i64 0] : List Value).toArray 60 (0, 0)⟩]⟩) ⟨_, _, ⟨0, [], .slice none 0 0, [], a, _, by omega, by simp, rfl, hH00, ha, by simp, fun y h1 h2 => by omega, rfl, rfl, rfl⟩, by repeat (first | exact sub_nil | refine sub_cons rfl ?_)⟩ ?_
    intro m l S hJ
    obtain ⟨s, RS, vr, vs, a, w1, hsn, hRl, hvl, hH, ha, hRok, hRe, rfl, rfl, rfl⟩ := hJ
    refine wc_seq ?_
    refine wc_seq ?_
    refine wc_region ?_
    refine wl_go rfl (wo_val rfl (rv_move rfl) rfl rfl ?_)
    refine wl_go rfl (wo_val rfl (rv_move rfl) rfl rfl ?_)
    refine wl_go rfl (wo_val rfl (rv_cmp_i rfl rfl rfl) rfl rfl ?_)
    refine wl_nil ?_
    refine wq_then ?_
    refine wc_cond rfl (fun hc33 => ?_) (fun hc33 => ?_)
    · simp only [decide_eq_true_eq, decide_eq_false_iff_not, Bool.not_eq_true', Bool.not_eq_false', bne_iff_ne, beq_iff_eq, bne_eq_false_iff_eq, beq_eq_false_iff_ne, Int.not_lt, Int.not_le] at hc33
      refine wc_skip ?_
      refine wq_then ?_
      refine wc_seq ?_
      refine wc_block ?_
      refine wc_seq ?_
      refine wc_region ?_
      refine wl_go rfl (wo_val rfl (rv_assign rfl) rfl rfl ?_)
      refine wl_nil ?_
      refine wq_then ?_
      refine wc_seq ?_
      refine wc_seq ?_
      refine wc_region ?_
      refine wl_go rfl (wo_val rfl (rv_move rfl) rfl rfl ?_)
      refine wl_go rfl (wo_val rfl (rv_move rfl) rfl rfl ?_)
      refine wl_go rfl (wo_val rfl (rb_len rfl) rfl rfl ?_)
      refine wl_go rfl (wo_val rfl (rv_cmp_i rfl rfl rfl) rfl rfl ?_)
      refine wl_nil ?_
      refine wq_then ?_
      refine wc_cut (fun l S => ∃ (rn : Int) (a2 : Nat), 1 ≤ rn ∧ rn ≤ 3 ∧ a2 ≤ code.length ∧ l = [(0, sv code), (2, .pointer (some ⟨b2, 0, none⟩)), (4, .pointer (some ⟨b4, 0, none⟩)), (3, iv (a2 : Int)), (5, iv n), (6, iv (s : Int)), (7, iv rn)] ∧ S = ⟨w, G0, w1, [⟨b4, .cells ([.slice (some ⟨b14, 0, none⟩) (2 + n).toNat 5, iv 2, .slice (some ⟨b13, 0, none⟩) 2 2, vr, iv 2] : List Value).toArray 60 (0, 0)⟩, ⟨b14, .cells ([sv [97], sv [98], sv [83], sv [84], sv [85]] : List Value).toArray 9 (0, 0)⟩, ⟨b13, .cells ([iv 0, iv 1] : List Value).toArray 3 (0, 0)⟩, ⟨b2, .cells ([.slice none 0 0, .int .i64 0, .slice none 0 0, .slice none 0 0, .int .i64 0] : List Value).toArray 60 (0, 0)⟩]⟩) ?_ ?_
      · skip
        refine wc_cond rfl (fun hc39 => ?_) (fun hc39 => ?_)
        · simp only [decide_eq_true_eq, decide_eq_false_iff_not, Bool.not_eq_true', Bool.not_eq_false', bne_iff_ne, beq_iff_eq, bne_eq_false_iff_eq, beq_eq_false_iff_ne, Int.not_lt, Int.not_le] at hc39
          obtain ⟨cb, hcb⟩ := getE (l := code) (i := a) (by omega)
          refine wc_seq ?_
          refine wc_region ?_
          refine wl_go rfl (wo_val rfl (rv_move rfl) rfl rfl ?_)
          refine wl_go rfl (wo_val rfl (rv_move rfl) rfl rfl ?_)
          refine wl_go rfl (wo_val rfl (rb_index (b := cb) rfl rfl (by omega) hcb) rfl rfl ?_)
          refine wl_go rfl (wo_val rfl (rv_conv rfl (by have := cb.toNat_lt; omega)) rfl rfl ?_)
          refine wl_go rfl (wo_val rfl (rv_rem rfl rfl (by omega)) rfl rfl ?_)
          refine wl_go rfl (wo_val rfl (rv_add rfl rfl (by omega)) rfl rfl ?_)
          refine wl_go rfl (wo_val rfl (rv_assign rfl) rfl rfl ?_)
          refine wl_nil ?_
          refine wq_then ?_
          refine wc_region ?_
          refine wl_go rfl (wo_val rfl (rv_move rfl) rfl rfl ?_)
          refine wl_go rfl (wo_val rfl (rv_add rfl rfl (by omega)) rfl rfl ?_)
          refine wl_go rfl (wo_val rfl (rv_assign rfl) rfl rfl ?_)
          refine wl_nil ?_
          exact wq_cut ⟨_, ⟨1 + (cb.toNat : Int) % 3, a + 1, by omega, by omega, by omega, rfl, rfl⟩, by repeat (first | exact sub_nil | refine sub_cons rfl ?_)⟩
        · simp only [decide_eq_true_eq, decide_eq_false_iff_not, Bool.not_eq_true', Bool.not_eq_false', bne_iff_ne, beq_iff_eq, bne_eq_false_iff_eq, beq_eq_false_iff_ne, Int.not_lt, Int.not_le] at hc39
          refine wc_skip ?_
          exact wq_cut ⟨_, ⟨1, a, by omega, by omega, by omega, rfl, rfl⟩, by repeat (first | exact sub_nil | refine sub_cons rfl ?_)⟩
      · rintro l S ⟨rn, a2, hrn1, hrn3, ha2, rfl, rfl⟩
        refine wq_then ?_
        refine wc_seq ?_
        refine wc_region ?_
        refine wl_go rfl (wo_val rfl (rv_assign rfl) rfl rfl ?_)
        refine wl_nil ?_
        refine wq_then ?_
        refine wc_block ?_
        refine wc_loop (fun m l S => ∃ (k : Nat) (RS : List (List Int)) (vr : Value) (vs : List Value) (a : Nat) (w1 : World), (k : Int) ≤ rn ∧ RS.length ≤ 3 * s + k ∧ (1 ≤ k → ∃ r ∈ RS, r.headD 0 = 2 + (s : Int)) ∧ vs.length = RS.length ∧ Hp ⟨w, G0, w1, [⟨b4, .cells ([.slice (some ⟨b14, 0, none⟩) (2 + n).toNat 5, iv 2, .slice (some ⟨b13, 0, none⟩) 2 2, vr, iv 2] : List Value).toArray 60 (0, 0)⟩, ⟨b14, .cells ([sv [97], sv [98], sv [83], sv [84], sv [85]] : List Value).toArray 9 (0, 0)⟩, ⟨b13, .cells ([iv 0, iv 1] : List Value).toArray 3 (0, 0)⟩, ⟨b2, .cells ([.slice none 0 0, .int .i64 0, .slice none 0 0, .slice none 0 0, .int .i64 0] : List Value).toArray 60 (0, 0)⟩]⟩ ((50, vr, vs) :: rowsL vs RS) ∧ a ≤ code.length ∧ (∀ r ∈ RS, RowOk n r) ∧ (∀ y : Int, 2 ≤ y → y < 2 + (s : Int) → ∃ r ∈ RS, r.headD 0 = y) ∧ m = 3 - k ∧ l = [(0, sv code), (2, .pointer (some ⟨b2, 0, none⟩)), (4, .pointer (some ⟨b4, 0, none⟩)), (3, iv (a : Int)), (5, iv n), (6, iv (s : Int)), (7, iv rn), (8, iv (k : Int))] ∧ S = ⟨w, G0, w1, [⟨b4, .cells ([.slice (some ⟨b14, 0, none⟩) (2 + n).toNat 5, iv 2, .slice (some ⟨b13, 0, none⟩) 2 2, vr, iv 2] : List Value).toArray 60 (0, 0)⟩, ⟨b14, .cells ([sv [97], sv [98], sv [83], sv [84], sv [85]] : List Value).toArray 9 (0, 0)⟩, ⟨b13, .cells ([iv 0, iv 1] : List Value).toArray 3 (0, 0)⟩, ⟨b2, .cells ([.slice none 0 0, .int .i64 0, .slice none 0 0, .slice none 0 0, .int .i64 0] : List Value).toArray 60 (0, 0)⟩]⟩) ⟨_, _, ⟨0, RS, vr, vs, a2, _, by omega, by omega, fun h => by omega, hvl, hH, ha2, hRok, hRe, rfl, rfl, rfl⟩, by repeat (first | exact sub_nil | refine sub_cons rfl ?_)⟩ ?_
        intro m l S hJ
        obtain ⟨k, RS, vr, vs, a, w1, hkr, hRl, hk1, hvl, hH, ha, hRok, hRe, rfl, rfl, rfl⟩ := hJ
        refine wc_seq ?_
        refine wc_seq ?_
        refine wc_region ?_
        refine wl_go rfl (wo_val rfl (rv_move rfl) rfl rfl ?_)
        refine wl_go rfl (wo_val rfl (rv_move rfl) rfl rfl ?_)
        refine wl_go rfl (wo_val rfl (rv_cmp_i rfl rfl rfl) rfl rfl ?_)
        refine wl_nil ?_
        refine wq_then ?_
        refine wc_cond rfl (fun hc50 => ?_) (fun hc50 => ?_)
        · simp only [decide_eq_true_eq, decide_eq_false_iff_not, Bool.not_eq_true', Bool.not_eq_false', bne_iff_ne, beq_iff_eq, bne_eq_false_iff_eq, beq_eq_false_iff_ne, Int.not_lt, Int.not_le] at hc50
          refine wc_skip ?_
          refine wq_then ?_
          refine wc_seq ?_
          refine wc_block ?_
          refine wc_seq ?_
          refine wc_region ?_
          refine wl_go rfl (wo_val rfl (rv_move rfl) rfl rfl ?_)
          refine wl_go rfl (wo_val rfl (rv_add rfl rfl (by omega)) rfl rfl ?_)
          refine wl_go rfl (wo_bs [_] rfl rfl rfl (⟨rfl, rfl, ⟨_, rfl, rfl⟩, trivial⟩) rfl rfl (fun b55 hb55 => ?_))
          refine wl_go rfl (wo_val rfl (rv_assign rfl) rfl rfl ?_)
          refine wl_name [_, _, _, _] ⟨[_], rfl⟩ (fun w5 hs5 => ?_)
          have hR5 := rw_lit (cs := [iv (2 + (s : Int))]) hs5 ((hs5.base ⟨b55, _⟩ List.mem_cons_self).resolve_left (by simp)) (by simp [maxLen])
          have hH4 := hp_lit (cs := [iv (2 + (s : Int))]) hs5 hH hb55 hR5
          refine wl_nil ?_
          refine wq_then ?_
          refine wc_seq ?_
          refine wc_region ?_
          refine wl_go rfl (wo_val rfl (rv_assign rfl) rfl rfl ?_)
          refine wl_nil ?_
          refine wq_then ?_
          refine wc_seq ?_
          refine wc_seq ?_
          refine wc_region ?_
          refine wl_go rfl (wo_val rfl (rv_move rfl) rfl rfl ?_)
          refine wl_go rfl (wo_val rfl (rv_move rfl) rfl rfl ?_)
          refine wl_go rfl (wo_val rfl (rb_len rfl) rfl rfl ?_)
          refine wl_go rfl (wo_val rfl (rv_cmp_i rfl rfl rfl) rfl rfl ?_)
          refine wl_nil ?_
          refine wq_then ?_
          refine wc_cut (fun l S => ∃ (lg : Int) (a2 : Nat), 0 ≤ lg ∧ lg ≤ 3 ∧ a2 ≤ code.length ∧ l = [(0, sv code), (2, .pointer (some ⟨b2, 0, none⟩)), (4, .pointer (some ⟨b4, 0, none⟩)), (3, iv (a2 : Int)), (5, iv n), (6, iv (s : Int)), (7, iv rn), (8, iv (k : Int)), (9, .slice (some ⟨b55, 0, none⟩) 1 1), (10, iv lg)] ∧ S = ⟨w, G0, w5, [⟨b4, .cells ([.slice (some ⟨b14, 0, none⟩) (2 + n).toNat 5, iv 2, .slice (some ⟨b13, 0, none⟩) 2 2, vr, iv 2] : List Value).toArray 60 (0, 0)⟩, ⟨b14, .cells ([sv [97], sv [98], sv [83], sv [84], sv [85]] : List Value).toArray 9 (0, 0)⟩, ⟨b13, .cells ([iv 0, iv 1] : List Value).toArray 3 (0, 0)⟩, ⟨b2, .cells ([.slice none 0 0, .int .i64 0, .slice none 0 0, .slice none 0 0, .int .i64 0] : List Value).toArray 60 (0, 0)⟩]⟩) ?_ ?_
          · skip
            refine wc_cond rfl (fun hc59 => ?_) (fun hc59 => ?_)
            · simp only [decide_eq_true_eq, decide_eq_false_iff_not, Bool.not_eq_true', Bool.not_eq_false', bne_iff_ne, beq_iff_eq, bne_eq_false_iff_eq, beq_eq_false_iff_ne, Int.not_lt, Int.not_le] at hc59
              obtain ⟨cb, hcb⟩ := getE (l := code) (i := a) (by omega)
              refine wc_seq ?_
              refine wc_region ?_
              refine wl_go rfl (wo_val rfl (rv_move rfl) rfl rfl ?_)
              refine wl_go rfl (wo_val rfl (rv_move rfl) rfl rfl ?_)
              refine wl_go rfl (wo_val rfl (rb_index (b := cb) rfl rfl (by omega) hcb) rfl rfl ?_)
              refine wl_go rfl (wo_val rfl (rv_conv rfl (by have := cb.toNat_lt; omega)) rfl rfl ?_)
              refine wl_go rfl (wo_val rfl (rv_rem rfl rfl (by omega)) rfl rfl ?_)
              refine wl_go rfl (wo_val rfl (rv_assign rfl) rfl rfl ?_)
              refine wl_nil ?_
              refine wq_then ?_
              refine wc_region ?_
              refine wl_go rfl (wo_val rfl (rv_move rfl) rfl rfl ?_)
              refine wl_go rfl (wo_val rfl (rv_add rfl rfl (by omega)) rfl rfl ?_)
              refine wl_go rfl (wo_val rfl (rv_assign rfl) rfl rfl ?_)
              refine wl_nil ?_
              exact wq_cut ⟨_, ⟨(cb.toNat : Int) % 4, a + 1, by omega, by omega, by omega, rfl, rfl⟩, by repeat (first | exact sub_nil | refine sub_cons rfl ?_)⟩
            · simp only [decide_eq_true_eq, decide_eq_false_iff_not, Bool.not_eq_true', Bool.not_eq_false', bne_iff_ne, beq_iff_eq, bne_eq_false_iff_eq, beq_eq_false_iff_ne, Int.not_lt, Int.not_le] at hc59
              refine wc_skip ?_
              exact wq_cut ⟨_, ⟨1, a, by omega, by omega, by omega, rfl, rfl⟩, by repeat (first | exact sub_nil | refine sub_cons rfl ?_)⟩
          · rintro l S ⟨lg, a2, hlg0, hlg3, ha2, rfl, rfl⟩
            refine wq_then ?_
            refine wc_seq ?_
            refine wc_seq ?_
            refine wc_region ?_
            refine wl_go rfl (wo_val rfl (rv_assign rfl) rfl rfl ?_)
            refine wl_nil ?_
            refine wq_then ?_
            refine wc_block ?_
            refine wc_loop (fun m l S => ∃ (j : Nat) (q : List Int) (v9 : Value) (a : Nat) (w1 : World), (j : Int) ≤ lg ∧ q.length = 1 + j ∧ q.headD 0 = 2 + (s : Int) ∧ (∀ x ∈ q, 0 ≤ x ∧ x < 2 + n) ∧ Hp ⟨w, G0, w1, [⟨b4, .cells ([.slice (some ⟨b14, 0, none⟩) (2 + n).toNat 5, iv 2, .slice (some ⟨b13, 0, none⟩) 2 2, vr, iv 2] : List Value).toArray 60 (0, 0)⟩, ⟨b14, .cells ([sv [97], sv [98], sv [83], sv [84], sv [85]] : List Value).toArray 9 (0, 0)⟩, ⟨b13, .cells ([iv 0, iv 1] : List Value).toArray 3 (0, 0)⟩, ⟨b2, .cells ([.slice none 0 0, .int .i64 0, .slice none 0 0, .slice none 0 0, .int .i64 0] : List Value).toArray 60 (0, 0)⟩]⟩ ((3, v9, q.map iv) :: (50, vr, vs) :: rowsL vs RS) ∧ a ≤ code.length ∧ m = 3 - j ∧ l = [(0, sv code), (2, .pointer (some ⟨b2, 0, none⟩)), (4, .pointer (some ⟨b4, 0, none⟩)), (3, iv (a : Int)), (5, iv n), (6, iv (s : Int)), (7, iv rn), (8, iv (k : Int)), (9, v9), (10, iv lg), (11, iv (j : Int))] ∧ S = ⟨w, G0, w1, [⟨b4, .cells ([.slice (some ⟨b14, 0, none⟩) (2 + n).toNat 5, iv 2, .slice (some ⟨b13, 0, none⟩) 2 2, vr, iv 2] : List Value).toArray 60 (0, 0)⟩, ⟨b14, .cells ([sv [97], sv [98], sv [83], sv [84], sv [85]] : List Value).toArray 9 (0, 0)⟩, ⟨b13, .cells ([iv 0, iv 1] : List Value).toArray 3 (0, 0)⟩, ⟨b2, .cells ([.slice none 0 0, .int .i64 0, .slice none 0 0, .slice none 0 0, .int .i64 0] : List Value).toArray 60 (0, 0)⟩]⟩) ⟨_, _, ⟨0, [2 + (s : Int)], _, a2, _, by omega, rfl, rfl, fun y hy => by simp at hy; subst hy; omega, hH4, ha2, rfl, rfl, rfl⟩, by repeat (first | exact sub_nil | refine sub_cons rfl ?_)⟩ ?_
            intro m l S hJ
            obtain ⟨j, q, v9, a, w1, hjl, hql, hqh, hqa, hH4, ha, rfl, rfl, rfl⟩ := hJ
            obtain ⟨p9, c9, rfl, _⟩ := rv_ofn (rw_conv (hH4.row (3, v9, q.map iv) (by simp)) (m := 1 + j) (by rw [List.length_map, hql]) rfl).own
            refine wc_seq ?_
            refine wc_seq ?_
            refine wc_region ?_
            refine wl_go rfl (wo_val rfl (rv_move rfl) rfl rfl ?_)
            refine wl_go rfl (wo_val rfl (rv_move rfl) rfl rfl ?_)
            refine wl_go rfl (wo_val rfl (rv_cmp_i rfl rfl rfl) rfl rfl ?_)
            refine wl_nil ?_
            refine wq_then ?_
            refine wc_cond rfl (fun hc69 => ?_) (fun hc69 => ?_)
            · simp only [decide_eq_true_eq, decide_eq_false_iff_not, Bool.not_eq_true', Bool.not_eq_false', bne_iff_ne, beq_iff_eq, bne_eq_false_iff_eq, beq_eq_false_iff_ne, Int.not_lt, Int.not_le] at hc69
              have hj3 : j < 3 := by omega
              refine wc_skip ?_
              refine wq_then ?_
              refine wc_seq ?_
              refine wc_block ?_
              refine wc_seq ?_
              refine wc_region ?_
              refine wl_go rfl (wo_val rfl (rv_assign rfl) rfl rfl ?_)
              refine wl_nil ?_
              refine wq_then ?_
              refine wc_seq ?_
              refine wc_seq ?_
              refine wc_region ?_
              refine wl_go rfl (wo_val rfl (rv_move rfl) rfl rfl ?_)
              refine wl_go rfl (wo_val rfl (rv_move rfl) rfl rfl ?_)
              refine wl_go rfl (wo_val rfl (rb_len rfl) rfl rfl ?_)
              refine wl_go rfl (wo_val rfl (rv_cmp_i rfl rfl rfl) rfl rfl ?_)
              refine wl_nil ?_
              refine wq_then ?_
              refine wc_cut (fun l S => ∃ (xx : Int) (a2 : Nat), 0 ≤ xx ∧ xx < 2 + n ∧ a2 ≤ code.length ∧ l = [(0, sv code), (2, .pointer (some ⟨b2, 0, none⟩)), (4, .pointer (some ⟨b4, 0, none⟩)), (3, iv (a2 : Int)), (5, iv n), (6, iv (s : Int)), (7, iv rn), (8, iv (k : Int)), (9, .slice p9 (1 + j) c9), (10, iv lg), (11, iv (j : Int)), (12, iv xx)] ∧ S = ⟨w, G0, w1, [⟨b4, .cells ([.slice (some ⟨b14, 0, none⟩) (2 + n).toNat 5, iv 2, .slice (some ⟨b13, 0, none⟩) 2 2, vr, iv 2] : List Value).toArray 60 (0, 0)⟩, ⟨b14, .cells ([sv [97], sv [98], sv [83], sv [84], sv [85]] : List Value).toArray 9 (0, 0)⟩, ⟨b13, .cells ([iv 0, iv 1] : List Value).toArray 3 (0, 0)⟩, ⟨b2, .cells ([.slice none 0 0, .int .i64 0, .slice none 0 0, .slice none 0 0, .int .i64 0] : List Value).toArray 60 (0, 0)⟩]⟩) ?_ ?_
              · skip
                refine wc_cond rfl (fun hc75 => ?_) (fun hc75 => ?_)
                · simp only [decide_eq_true_eq, decide_eq_false_iff_not, Bool.not_eq_true', Bool.not_eq_false', bne_iff_ne, beq_iff_eq, bne_eq_false_iff_eq, beq_eq_false_iff_ne, Int.not_lt, Int.not_le] at hc75
                  obtain ⟨cb, hcb⟩ := getE (l := code) (i := a) (by omega)
                  refine wc_seq ?_
                  refine wc_region ?_
                  refine wl_go rfl (wo_val rfl (rv_move rfl) rfl rfl ?_)
                  refine wl_go rfl (wo_val rfl (rv_move rfl) rfl rfl ?_)
                  refine wl_go rfl (wo_val rfl (rb_index (b := cb) rfl rfl (by omega) hcb) rfl rfl ?_)
                  refine wl_go rfl (wo_val rfl (rv_conv rfl (by have := cb.toNat_lt; omega)) rfl rfl ?_)
                  refine wl_go rfl (wo_val rfl (rv_move rfl) rfl rfl ?_)
                  refine wl_go rfl (wo_val rfl (rv_add rfl rfl (by omega)) rfl rfl ?_)
                  refine wl_go rfl (wo_val rfl (rv_rem rfl rfl (by omega)) rfl rfl ?_)
                  refine wl_go rfl (wo_val rfl (rv_assign rfl) rfl rfl ?_)
                  refine wl_nil ?_
                  refine wq_then ?_
                  refine wc_region ?_
                  refine wl_go rfl (wo_val rfl (rv_move rfl) rfl rfl ?_)
                  refine wl_go rfl (wo_val rfl (rv_add rfl rfl (by omega)) rfl rfl ?_)
                  refine wl_go rfl (wo_val rfl (rv_assign rfl) rfl rfl ?_)
                  refine wl_nil ?_
                  exact wq_cut ⟨_, ⟨(cb.toNat : Int) % (2 + n), a + 1, Int.emod_nonneg _ (by omega), Int.emod_lt_of_pos _ (by omega), by omega, rfl, rfl⟩, by repeat (first | exact sub_nil | refine sub_cons rfl ?_)⟩
                · simp only [decide_eq_true_eq, decide_eq_false_iff_not, Bool.not_eq_true', Bool.not_eq_false', bne_iff_ne, beq_iff_eq, bne_eq_false_iff_eq, beq_eq_false_iff_ne, Int.not_lt, Int.not_le] at hc75
                  refine wc_skip ?_
                  exact wq_cut ⟨_, ⟨0, a, by omega, by omega, by omega, rfl, rfl⟩, by repeat (first | exact sub_nil | refine sub_cons rfl ?_)⟩
              · rintro l S ⟨xx, a2, hx0, hx1, ha2, rfl, rfl⟩
                refine wq_then ?_
                refine wc_region ?_
                refine wl_go rfl (wo_val rfl (rv_move rfl) rfl rfl ?_)
                refine wl_go rfl (wo_val rfl (rv_move rfl) rfl rfl ?_)
                refine wl_go rfl (wo_bs [_] rfl rfl rfl (⟨rfl, rfl, ⟨_, rfl, rfl⟩, trivial⟩) rfl rfl (fun b87 hb87 => ?_))
                refine wl_go rfl (wo_append rfl rfl rfl rfl rfl [_, _, _, _] ⟨[_], rfl⟩ ((hH4.row (3, .slice p9 (1 + j) c9, q.map iv) (by simp)).beside hb87 |>.ids rfl) (by rw [List.length_map]; unfold maxLen; omega) rfl rfl rfl (fun v7 w7 hR7 hm7 ho7 => ?_))
                have hH7 := hH4.first (own3 := _ :: _) hm7 (by intro y hy; rcases List.mem_cons.1 hy with rfl | hy; exact .inr hb87; exact .inl ⟨y, hy, rfl⟩) (rw_snoc hR7) ho7 (fun y hy => ⟨y, hy, rfl⟩)
                refine wl_go rfl (wo_val rfl (rv_assign rfl) rfl rfl ?_)
                refine wl_nil ?_
                refine wq_in_normal ?_
                refine wq_then ?_
                refine wc_region ?_
                refine wl_go rfl (wo_val rfl (rv_move rfl) rfl rfl ?_)
                refine wl_go rfl (wo_val rfl (rv_add rfl rfl (by omega)) rfl rfl ?_)
                refine wl_go rfl (wo_val rfl (rv_assign rfl) rfl rfl ?_)
                refine wl_nil ?_
                refine wq_round ⟨_, _, ⟨j + 1, q ++ [xx], v7, a2, _, by omega, by rw [List.length_append, List.length_singleton]; omega, ?_, fun y hy => ?_, ?_, ha2, rfl, rfl, rfl⟩, by omega, by repeat (first | exact sub_nil | refine sub_cons rfl ?_)⟩
                · cases q with
                  | nil => simp at hql; omega
                  | cons y q => exact hqh
                · rcases List.mem_append.1 hy with hy | hy
                  · exact hqa y hy
                  · simp at hy; subst hy; exact ⟨hx0, hx1⟩
                · rw [List.map_append]; exact hH7
            · simp only [decide_eq_true_eq, decide_eq_false_iff_not, Bool.not_eq_true', Bool.not_eq_false', bne_iff_ne, beq_iff_eq, bne_eq_false_iff_eq, beq_eq_false_iff_ne, Int.not_lt, Int.not_le] at hc69
              refine wc_exit ?_
              refine wq_then_exit ?_
              refine wq_then_exit ?_
              refine wq_in_here ?_
              refine wq_then ?_
              refine wc_region ?_
              refine wl_go rfl (wo_val rfl (rv_fieldAddr rfl) rfl rfl ?_)
              refine wl_go rfl (wo_val rfl (rv_load_own rfl rfl) rfl rfl ?_)
              refine wl_go rfl (wo_val rfl (rv_move rfl) rfl rfl ?_)
              refine wl_go rfl (wo_bs [_] rfl rfl rfl (⟨rfl, rfl, ⟨_, rfl, rfl⟩, trivial⟩) rfl rfl (fun b92 hb92 => ?_))
              refine wl_go rfl (wo_append rfl rfl rfl rfl rfl [_, _, _, _] ⟨[_], rfl⟩ ((hH4.row (50, vr, vs) (by simp)).beside hb92 |>.ids rfl) (by unfold maxLen; simp only; omega) rfl rfl rfl (fun v6 w6 hR6 hm6 ho6 => ?_))
              have hH6 := hH4.swap.first (own3 := _ :: _) hm6 (by intro y hy; rcases List.mem_cons.1 hy with rfl | hy; exact .inr hb92; exact .inl ⟨y, hy, rfl⟩) (rw_snoc hR6) ho6 (fun y hy => ⟨y, hy, rfl⟩)
              have hR8 : w6.ownsRow w.heap.size 50 1 v6 (vs.length + 1) (vs ++ [.slice p9 (1 + j) c9]) := hR6.own
              obtain ⟨p6, c6, rfl, _⟩ := rv_ofn hR8
              refine wl_go rfl (wo_val rfl (rv_fieldAddr rfl) rfl rfl ?_)
              refine wl_go rfl (wo_st rfl rfl rfl rfl rfl rfl rfl ?_)
              refine wl_nil ?_
              refine wq_in_normal ?_
              refine wq_then ?_
              refine wc_region ?_
              refine wl_go rfl (wo_val rfl (rv_move rfl) rfl rfl ?_)
              refine wl_go rfl (wo_val rfl (rv_add rfl rfl (by omega)) rfl rfl ?_)
              refine wl_go rfl (wo_val rfl (rv_assign rfl) rfl rfl ?_)
              refine wl_nil ?_
              refine wq_round ⟨_, _, ⟨k + 1, RS ++ [q], _, vs ++ [.slice p9 (1 + j) c9], a, _, by omega, by rw [List.length_append, List.length_singleton]; omega, fun _ => ⟨q, by simp, hqh⟩, by rw [List.length_append, List.length_append, hvl]; rfl, ?_, ha, fun r hr => ?_, fun y h1 h2 => ?_, rfl, rfl, rfl⟩, by omega, by repeat (first | exact sub_nil | refine sub_cons rfl ?_)⟩
              · rw [rowsL_snoc hvl]
                exact (Hp.toEnd (A := [_]) (B := _) hH6).ids rfl
              · rcases List.mem_append.1 hr with hr | hr
                · exact hRok r hr
                · simp at hr; subst hr; exact ⟨by omega, by omega, by rw [hqh]; omega, hqa⟩
              · obtain ⟨r, hr, e⟩ := hRe y h1 h2
                exact ⟨r, by simp [hr], e⟩
        · simp only [decide_eq_true_eq, decide_eq_false_iff_not, Bool.not_eq_true', Bool.not_eq_false', bne_iff_ne, beq_iff_eq, bne_eq_false_iff_eq, beq_eq_false_iff_ne, Int.not_lt, Int.not_le] at hc50
          refine wc_exit ?_
          refine wq_then_exit ?_
          refine wq_then_exit ?_
          refine wq_in_here ?_
          refine wq_in_normal ?_
          refine wq_then ?_
          refine wc_region ?_
          refine wl_go rfl (wo_val rfl (rv_move rfl) rfl rfl ?_)
          refine wl_go rfl (wo_val rfl (rv_add rfl rfl (by omega)) rfl rfl ?_)
          refine wl_go rfl (wo_val rfl (rv_assign rfl) rfl rfl ?_)
          refine wl_nil ?_
          refine wq_round ⟨_, _, ⟨s + 1, RS, vr, vs, a, _, by omega, by omega, hvl, hH, ha, hRok, fun y h1 h2 => ?_, rfl, rfl, rfl⟩, by omega, by repeat (first | exact sub_nil | refine sub_cons rfl ?_)⟩
          by_cases e : y = 2 + (s : Int)
          · rw [e]; exact hk1 (by omega)
          · exact hRe y h1 (by omega)
    · simp only [decide_eq_true_eq, decide_eq_false_iff_not, Bool.not_eq_true', Bool.not_eq_false', bne_iff_ne, beq_iff_eq, bne_eq_false_iff_eq, beq_eq_false_iff_ne, Int.not_lt, Int.not_le] at hc33
      obtain rfl : n = (s : Int) := by omega
      have hR0 := hH.row (50, vr, vs) (by simp)
      obtain ⟨p8, c8, rfl, _⟩ := rv_ofn (rw_conv hR0 (m := RS.length) hvl rfl).own
      refine wc_exit ?_
      refine wq_then_exit ?_
      refine wq_then_exit ?_
      refine wq_in_here ?_
      refine wq_then ?_
      refine wc_seq ?_
      refine wc_region ?_
      refine wl_go rfl (wo_val rfl (rv_load_own_row rfl) rfl rfl ?_)
      refine wl_go rfl (wo_st rfl rfl rfl rfl rfl rfl rfl ?_)
      refine wl_nil ?_
      refine wq_then ?_
      refine wc_ret ?_
      refine wq_ret1 rfl rfl (rr_row rfl) (fun w9 hs9 => ?_)
      have hS := hH.ends hs9 rfl
      have hgl := gM_len (n := (s : Int)) (by omega) RS
      have hb14o := hb14
      have hb13o := hb13
      have hb14 := hs9.blk ⟨b14, .cells ([sv [97], sv [98], sv [83], sv [84], sv [85]] : List Value).toArray 9 (0, 0)⟩ (by simp)
      have hb13 := hs9.blk ⟨b13, .cells ([iv 0, iv 1] : List Value).toArray 3 (0, 0)⟩ (by simp)
      have hown : ∀ y ∈ ((50, .slice p8 RS.length c8, vs) : RowOf) :: rowsL vs RS, ∀ w2 : World, (∀ k, w.heap.size ≤ k → k < w9.heap.size → w2.heap[k]? = w9.heap[k]?) → w2.ownsRow w.heap.size y.1 1 y.2.1 y.2.2.length y.2.2 := fun y hy w2 hw2 => own_moved (hS.row y hy).own fun b hb => hw2 b ((hS.row y hy).lt b hb).1 ((hS.row y hy).lt b hb).2
      refine ⟨⟨some ⟨b14, 0, none⟩, 5, some ⟨b13, 0, none⟩, 2, p8, c8⟩, gM (s : Int) RS, ?_, fun w2 hw2 => ⟨rv_pre (cap := 5) (k := (2 + (s : Int)).toNat) rfl ((hw2 b14 hb14o (Array.getElem?_eq_some_iff.1 hb14).1).trans hb14) (by unfold gM nms; rw [List.map_take]; rfl) rfl (by omega), Rv.own ((hw2 b13 hb13o (Array.getElem?_eq_some_iff.1 hb13).1).trans hb13) (by simp only [gM]; decide), rr_own (rv_slice_of (hown (50, .slice p8 RS.length c8, vs) List.mem_cons_self w2 hw2)) hvl (fun y hy => hown y (List.mem_cons_of_mem _ hy) w2 hw2)⟩, gM_ok (by omega) (by omega) hRok hRe, gM_short _ _, by omega, by show RS.length ≤ 16; omega, hs9.below rfl⟩
      unfold gC; rw [hgl]; rfl
end Go.Proofs.Ytlppkbfkajionaa.Cm
