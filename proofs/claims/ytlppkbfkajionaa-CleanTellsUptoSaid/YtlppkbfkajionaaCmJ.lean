/- The walks of grammars: DeleteFunc over rules. -/
import Derived.Test.YtlppkbfkajionaaCmI
namespace Go.Proofs.Ytlppkbfkajionaa.Cm
open Go Go.RowKit Gw Go.Shelf
set_option linter.unusedSimpArgs false
set_option linter.unusedVariables false
set_option linter.unusedSectionVars false
/-- values that read as rules -/
def Vals (w : World) (vs : List Value) (rs : List (List Int)) : Prop := vs.length = rs.length ∧ ∀ (i : Nat) v r, vs[i]? = some v → rs[i]? = some r → ∃ q d, v = .slice q r.length d ∧ Rv w q d (r.map iv)
theorem vals_rr {w : World} {p : Option Addr} {c : Nat} {vs : List Value} {rs : List (List Int)} (h : Rv w p c vs) (hv : Vals w vs rs) : Rr w p c rs :=
  ⟨by have := h.cap; have := hv.1; omega, fun i r hi => by
    obtain ⟨v, hvi⟩ := getE (l := vs) (i := i) (by rw [hv.1]; exact (List.getElem?_eq_some_iff.1 hi).1)
    obtain ⟨q, d, rfl, hq⟩ := hv.2 i v r hvi hi
    obtain ⟨g, o, hp, hc⟩ := h.at_ i _ hvi
    exact ⟨g, o, q, d, hp, hc, hq⟩⟩
theorem Vals.keep {w w1 : World} {vs : List Value} {rs : List (List Int)} (h : Vals w vs rs) (hk : Keep Cm.IsI w w1) : Vals w1 vs rs := ⟨h.1, fun i v r hv hr => let ⟨q, d, e, hq⟩ := h.2 i v r hv hr; ⟨q, d, e, hq.keep hk (fun u hu => by obtain ⟨x, _, rfl⟩ := List.mem_map.1 hu; exact ⟨x, rfl⟩)⟩⟩
/-- the values that stay -/
def stay (pr : List Int → Bool) (vs : List Value) (rs : List (List Int)) : List Value := ((vs.zip rs).filter fun x => !pr x.2).map (·.1)
theorem stay_snoc (pr : List Int → Bool) {vs : List Value} {rs : List (List Int)} {k : Nat} {v : Value} {r : List Int} (hv : vs[k]? = some v) (hr : rs[k]? = some r) : stay pr (vs.take (k + 1)) (rs.take (k + 1)) = stay pr (vs.take k) (rs.take k) ++ (if pr r then [] else [v]) := by
  unfold stay
  have e1 : (vs.take (k + 1)).zip (rs.take (k + 1)) = (vs.take k).zip (rs.take k) ++ [(v, r)] := by
    rw [List.take_add_one, List.take_add_one, hv, hr]
    have h1 := (List.getElem?_eq_some_iff.1 hv).1
    have h2 := (List.getElem?_eq_some_iff.1 hr).1
    rw [List.zip_append (by simp; omega)]; rfl
  rw [e1, List.filter_append, List.map_append]
  congr 1
  cases h : pr r <;> simp [h]
theorem stay_len (pr : List Int → Bool) (vs : List Value) (rs : List (List Int)) : (stay pr vs rs).length ≤ vs.length := by
  unfold stay
  rw [List.length_map]
  refine Nat.le_trans (List.length_filter_le _ _) ?_
  simp; omega
theorem stay_vals {w : World} {pr : List Int → Bool} : ∀ {vs : List Value} {rs : List (List Int)}, Vals w vs rs → Vals w (stay pr vs rs) (rs.filter fun r => !pr r)
  | [], [], _ => ⟨rfl, fun i v r h => by simp [stay] at h⟩
  | [], _ :: _, h => absurd h.1 (by simp)
  | _ :: _, [], h => absurd h.1 (by simp)
  | v :: vs, r :: rs, h => by
    have ht : Vals w vs rs := ⟨by have := h.1; simpa using this, fun i v r hv hr => h.2 (i + 1) v r (by simpa using hv) (by simpa using hr)⟩
    have ih := stay_vals (pr := pr) ht
    have e : stay pr (v :: vs) (r :: rs) = (if pr r then [] else [v]) ++ stay pr vs rs := by
      unfold stay
      simp only [List.zip_cons_cons, List.filter_cons]
      cases hp : pr r <;> simp [hp]
    rw [e, List.filter_cons]
    cases hp : pr r with
    | true => simpa [hp] using ih
    | false =>
      simp only [Bool.not_false, if_true, Bool.false_eq_true, if_false, List.singleton_append]
      refine ⟨by simp [ih.1], fun i v2 r2 hv hr => ?_⟩
      cases i with
      | zero => exact h.2 0 v2 r2 (by simpa using hv) (by simpa using hr)
      | succ i => exact ih.2 i v2 r2 (by simpa using hv) (by simpa using hr)
theorem stay_none {pr : List Int → Bool} {rs : List (List Int)} (h : ∀ r ∈ rs, pr r = false) : rs.filter (fun r => !pr r) = rs := List.filter_eq_self.2 fun r hr => by rw [h r hr]; rfl
theorem idx_cases {pr : List Int → Bool} {rs : List (List Int)} : (idxI pr rs = -1 ∧ ∀ r ∈ rs, pr r = false) ∨ ∃ i : Nat, idxI pr rs = i ∧ ∃ r, rs[i]? = some r ∧ pr r = true ∧ ∀ y ∈ rs.take i, pr y = false := by
  unfold idxI
  cases h : rs.findIdx? pr with
  | none => exact .inl ⟨rfl, fun r hr => by simpa using List.findIdx?_eq_none_iff.1 h r hr⟩
  | some i =>
    obtain ⟨hi, hp, hn⟩ := List.findIdx?_eq_some_iff_getElem.1 h
    refine .inr ⟨i, rfl, rs[i], List.getElem?_eq_getElem hi, hp, fun y hy => ?_⟩
    obtain ⟨j, hj⟩ := List.mem_iff_getElem?.1 hy
    rw [List.getElem?_take] at hj
    split at hj
    · rename_i hji
      have := hn j hji
      rw [List.getElem?_eq_getElem (by omega)] at hj
      cases hj
      simpa using this
    · cases hj
theorem stay_all {pr : List Int → Bool} {vs : List Value} {rs : List (List Int)} {i : Nat} (hl : vs.length = rs.length) (h : ∀ y ∈ rs.take i, pr y = false) : stay pr (vs.take i) (rs.take i) = vs.take i := by
  unfold stay
  rw [List.filter_eq_self.2 (fun x hx => by rw [h x.2 (List.of_mem_zip hx).2]; rfl)]
  apply List.ext_getElem?
  intro j
  rw [List.map_fst_zip (by simp; omega)]
/-- where the row stands: what stays has been moved ahead -/
structure Cut (pr : List Int → Bool) (vs : List Value) (rs : List (List Int)) (cs : List Value) (j : Nat) (cap : Nat) : Prop where
  len : cs.length = cap
  hd : cs.take (stay pr (vs.take j) (rs.take j)).length = stay pr (vs.take j) (rs.take j)
  tl : ∀ k, j ≤ k → k < vs.length → cs[k]? = vs[k]?
theorem cut_step {pr : List Int → Bool} {vs : List Value} {rs : List (List Int)} {cs : List Value} {j cap : Nat} {v : Value} {r : List Int} (h : Cut pr vs rs cs j cap) (hv : vs[j]? = some v) (hr : rs[j]? = some r) : (pr r = true → Cut pr vs rs cs (j + 1) cap) ∧ (pr r = false → (stay pr (vs.take j) (rs.take j)).length < cs.length → Cut pr vs rs (cs.set (stay pr (vs.take j) (rs.take j)).length v) (j + 1) cap) := by
  have hs := stay_snoc pr hv hr
  have hjl : (stay pr (vs.take j) (rs.take j)).length ≤ j := Nat.le_trans (stay_len _ _ _) (List.length_take_le _ _)
  constructor
  · intro hp
    rw [hp] at hs
    simp only [if_true, List.append_nil] at hs
    exact ⟨h.len, by rw [hs]; exact h.hd, fun k hk hk2 => h.tl k (by omega) hk2⟩
  · intro hp hlt
    rw [hp] at hs
    simp only [Bool.false_eq_true, if_false] at hs
    refine ⟨by simpa using h.len, ?_, fun k hk hk2 => ?_⟩
    · rw [hs, List.length_append, List.length_singleton, List.take_add_one, List.getElem?_set_self hlt, List.take_set, List.set_eq_of_length_le (by simp; omega), h.hd]; rfl
    · rw [List.getElem?_set_ne (by omega)]; exact h.tl k (by omega) hk2
theorem below_own {w w0 w4 : World} {B : Nat} {o : Obj} {ds : List Deferred} (hB : w.heap[B]? = some o) (hs : St ⟨w, ⟨[B], ds⟩, w0, [⟨B, o⟩]⟩ w4) : Below w.heap.size w w4 :=
  ⟨hs.os, hs.tape, hs.output, Nat.le_trans hs.sizeW hs.size0, fun k hk => by
    by_cases e : k = B
    · subst e; rw [hB]; exact hs.blk ⟨k, o⟩ List.mem_cons_self
    · exact hs.oldW k hk (by simpa using e)⟩
theorem grown_trans {a b c : World} {q : Option Nat} (h : a.grownBy b q) (h2 : b.grownBy c q) : a.grownBy c q :=
  ⟨h2.os.trans h.os, h2.tape.trans h.tape, h2.output.trans h.output, Nat.le_trans h.size h2.size, fun k hk hn => (h2.block k (Nat.lt_of_lt_of_le hk h.size) hn).trans (h.block k hk hn)⟩
theorem asks_own {w w0 w4 : World} {B gf : Nat} {ca : List Value} {pr : List Int → Bool} {rs : List (List Int)} {own : List Blk} {ds : List Deferred} (h : AsksR w B gf ca pr rs) (hs : St ⟨w, ⟨[B], ds⟩, w0, own⟩ w4) : AsksR w4 B gf ca pr rs := fun r hr q d w' hg hv => h r hr q d w' (grown_trans (St.grown1 hs) hg) hv
theorem rv_pre {w : World} {B cap c k : Nat} {cs F : List Value} {t : TypeId} {fr : Nat × Nat} {A : Option Addr} (hA : A = some ⟨B, 0, none⟩) (hB : w.heap[B]? = some (.cells cs.toArray t fr)) (hF : cs.take k = F) (hc : c = cap) (hk : k ≤ cap ∧ cap ≤ 9223372036854775807) : Rv w A c F :=
  ⟨by rw [← hF, List.length_take]; omega, fun i u hu => ⟨B, 0, hA, by
    rw [cell_blk hB, Nat.zero_add, Nat.mul_one]
    rw [← hF, List.getElem?_take] at hu
    split at hu
    · exact hu
    · cases hu⟩⟩
theorem addr0 (B c : Nat) : (if c = 0 then (some ⟨B, 0, none⟩ : Option Addr) else (some ⟨B, 0, none⟩ : Option Addr).map (·.add (0 * 1))) = some ⟨B, 0, none⟩ := by
  split
  · rfl
  · rw [Option.map_some, add_addr]
set_option maxHeartbeats 2000000 in
theorem del_calls (B gf : Nat) (ca : List Value) (heg : Enter gf) (pr : List Int → Bool) (rs : List (List Int)) (n cap : Nat) (hn : n = rs.length) (cur vs : List Value) (w : World) (hB : w.heap[B]? = some (.cells cur.toArray 50 (0, 0))) (hcap : cur.length = cap ∧ n ≤ cap ∧ cap ≤ 9223372036854775807) (hvs : cur.take n = vs) (hvals : Vals w vs rs) (hold : ∀ w5, w.grownBy w5 (some B) → Vals w5 vs rs) (hF : AsksR w B gf ca pr rs) : Calls Try.prog 102 #[.slice (some ⟨B, 0, none⟩) n cap, .func (.func gf) #[] ca.toArray] w fun e w' => ∃ c, e = .returned (.slice (some ⟨B, 0, none⟩) (rs.filter fun r => !pr r).length c) ∧ (∀ w5, w5.heap[B]? = w'.heap[B]? → Vals w5 vs rs → Rr w5 (some ⟨B, 0, none⟩) c (rs.filter fun r => !pr r)) ∧ w.grownBy w' (some B) := by
  subst hn
  have hvl := hvals.1
  have hrv : Rv w (some ⟨B, 0, none⟩) cap vs := ⟨by omega, fun i u hu => ⟨B, 0, rfl, by rw [cell_blk hB, Nat.zero_add, Nat.mul_one]; rw [← hvs, List.getElem?_take] at hu; split at hu; exact hu; cases hu⟩⟩
  have hrr := vals_rr hrv hvals
  refine calls_start Try.func102 rfl (N := 42) rfl rfl _ (st_start1 hB) rfl ?_
  refine wc_seq ?_
  refine wc_region ?_
  refine wl_go rfl (wo_val rfl (rv_assign rfl) rfl rfl ?_)
  refine wl_nil ?_
  refine wq_then ?_
  refine wc_seq ?_
  refine wc_region ?_
  refine wl_go rfl (wo_val rfl (rv_move rfl) rfl rfl ?_)
  refine wl_go rfl (wo_val rfl (rv_move rfl) rfl rfl ?_)
  refine wl_go rfl (wo_call (R := fun _ v _ => v = _) rfl rfl (enters_of Try.func144 (by kernel_rfl) rfl) rfl rfl rfl (fun w4 hs4 => (idxr_calls B gf ca heg pr _ cap rs w4 (hrr.below (below_own hB hs4)) (asks_own hF hs4)).mono fun e w' h => ⟨_, h.1, rfl, h.2⟩) (fun w2 v w3 hs2 hv hb2 hm2 => ?_))
  subst hv
  refine wl_go rfl (wo_val rfl (rv_assign rfl) rfl rfl ?_)
  refine wl_nil ?_
  refine wq_then ?_
  refine wc_seq ?_
  refine wc_seq ?_
  refine wc_region ?_
  refine wl_go rfl (wo_val rfl (rv_move rfl) rfl rfl ?_)
  refine wl_go rfl (wo_val rfl (rv_cmp_i rfl rfl rfl) rfl rfl ?_)
  refine wl_nil ?_
  refine wq_then ?_
  refine wc_cond rfl (fun hc12 => ?_) (fun hc12 => ?_)
  · skip
    have hnone : ∀ r ∈ rs, pr r = false := by
      rcases idx_cases (pr := pr) (rs := rs) with h | ⟨i, h, _⟩
      · exact h.2
      · rw [h] at hc12; simp at hc12; try omega
    refine wc_seq ?_
    refine wc_region ?_
    refine wl_go rfl (wo_val rfl (rv_move rfl) rfl rfl ?_)
    refine wl_go rfl (wo_val rfl (rv_assign rfl) rfl rfl ?_)
    refine wl_nil ?_
    refine wq_then ?_
    refine wc_ret ?_
    refine wq_then_ret ?_
    refine wq_ret1 rfl rfl (rr_tmp rfl) (fun w9 hs9 => ?_)
    rw [stay_none hnone]
    exact ⟨_, rfl, fun w5 h5 hv5 => vals_rr (rv_pre (cap := cap) (k := rs.length) rfl (h5.trans (hs9.blk ⟨B, _⟩ List.mem_cons_self)) hvs rfl hcap.2) hv5, St.grown1 hs9⟩
  · skip
    obtain ⟨i, hi, ri, hri, hpi, hbef⟩ : ∃ i : Nat, idxI pr rs = i ∧ ∃ r, rs[i]? = some r ∧ pr r = true ∧ ∀ y ∈ rs.take i, pr y = false := by
      rcases idx_cases (pr := pr) (rs := rs) with h | h
      · rw [h.1] at hc12; simp at hc12
      · exact h
    rw [hi]
    have hil := (List.getElem?_eq_some_iff.1 hri).1
    refine wc_skip ?_
    refine wq_then ?_
    refine wc_seq ?_
    refine wc_seq ?_
    refine wc_region ?_
    refine wl_go rfl (wo_val rfl (rv_move rfl) rfl rfl ?_)
    refine wl_go rfl (wo_val rfl (rv_add rfl rfl (by omega)) rfl rfl ?_)
    refine wl_go rfl (wo_val rfl (rv_assign rfl) rfl rfl ?_)
    refine wl_nil ?_
    refine wq_then ?_
    refine wc_block ?_
    have hst : stay pr (vs.take i) (rs.take i) = vs.take i := stay_all hvl hbef
    obtain ⟨vi, hvi⟩ := getE (l := vs) (i := i) (by omega)
    have hst2 : stay pr (vs.take (i + 1)) (rs.take (i + 1)) = vs.take i := by rw [stay_snoc pr hvi hri, hst, hpi]; simp
    have hlen2 : (stay pr (vs.take (i + 1)) (rs.take (i + 1))).length = i := by rw [hst2, List.length_take]; omega
    have hC0 : Cut pr vs rs cur (i + 1) cap := ⟨hcap.1, by rw [hst2, ← hvs, List.take_take, List.length_take, hcap.1]; congr 1; omega, fun k hk hk2 => by rw [← hvs, List.getElem?_take, if_pos (by omega)]⟩
    refine wc_loop (fun m l S => ∃ (j : Nat) (cs : List Value) (w1 : World), j ≤ rs.length ∧ (stay pr (vs.take j) (rs.take j)).length < j ∧ Cut pr vs rs cs j cap ∧ m = rs.length - j ∧ l = [(0, .slice (some ⟨B, 0, none⟩) rs.length cap), (1, .func (.func gf) #[] ca.toArray), (5, iv ((stay pr (vs.take j) (rs.take j)).length : Int)), (6, iv (j : Int))] ∧ S = ⟨w, ⟨[B], []⟩, w1, [⟨B, .cells cs.toArray 50 (0, 0)⟩]⟩) ⟨_, _, ⟨i + 1, cur, _, by omega, by omega, hC0, rfl, by rw [hlen2], rfl⟩, by repeat (first | exact sub_nil | refine sub_cons rfl ?_)⟩ ?_
    intro m l S hJ
    obtain ⟨j, cs, w1, hj, hlt, hC, rfl, rfl, rfl⟩ := hJ
    refine wc_seq ?_
    refine wc_seq ?_
    refine wc_region ?_
    refine wl_go rfl (wo_val rfl (rv_move rfl) rfl rfl ?_)
    refine wl_go rfl (wo_val rfl (rv_move rfl) rfl rfl ?_)
    refine wl_go rfl (wo_val rfl (rv_len rfl) rfl rfl ?_)
    refine wl_go rfl (wo_val rfl (rv_cmp_i rfl rfl rfl) rfl rfl ?_)
    refine wl_nil ?_
    refine wq_then ?_
    refine wc_cond rfl (fun hc19 => ?_) (fun hc19 => ?_)
    · simp only [decide_eq_true_eq, decide_eq_false_iff_not, Bool.not_eq_true', Bool.not_eq_false', bne_iff_ne, beq_iff_eq, bne_eq_false_iff_eq, beq_eq_false_iff_ne, Int.not_lt, Int.not_le] at hc19
      obtain ⟨r, hr⟩ := getE (l := rs) (i := j) (by omega)
      obtain ⟨v, hvj0⟩ := getE (l := vs) (i := j) (by omega)
      obtain ⟨q, d, rfl, hq⟩ := hvals.2 j v r hvj0 hr
      have hvj := hvj0
      refine wc_skip ?_
      refine wq_then ?_
      refine wc_seq ?_
      refine wc_block ?_
      refine wc_seq ?_
      refine wc_region ?_
      refine wl_go rfl (wo_val rfl (rv_move rfl) rfl rfl ?_)
      refine wl_go rfl (wo_val rfl (rv_move rfl) rfl rfl ?_)
      refine wl_go rfl (wo_val rfl (rv_indexAddr rfl rfl (by omega)) rfl rfl ?_)
      refine wl_go rfl (wo_val rfl (rv_load_own (v := .slice q r.length d) rfl (by rw [Nat.zero_add, Nat.mul_one]; show cs[j]? = _; rw [hC.tl j (Nat.le_refl _) (by omega)]; exact hvj)) rfl rfl ?_)
      refine wl_go rfl (wo_val rfl (rv_assign rfl) rfl rfl ?_)
      refine wl_nil ?_
      refine wq_then ?_
      refine wc_seq ?_
      refine wc_region ?_
      refine wl_go rfl (wo_val rfl (rv_move rfl) rfl rfl ?_)
      refine wl_go rfl (wo_val rfl (rv_move rfl) rfl rfl ?_)
      refine wl_go rfl (wo_call (R := fun _ v _ => v = _) rfl rfl heg rfl rfl rfl (fun w4 hs4 => (hF r (List.mem_of_getElem? hr) q d w4 (St.grown1 hs4) (by obtain ⟨q2, d2, e2, h2⟩ := (hold w4 (St.grown1 hs4)).2 j _ r hvj0 hr; cases e2; exact h2)).mono fun e w' h => ⟨_, h.1, rfl, h.2⟩) (fun w2c vc w3c hs2c hvc hb2c hm2c => ?_))
      subst hvc
      refine wl_go rfl (wo_val rfl (rv_not rfl) rfl rfl ?_)
      refine wl_nil ?_
      refine wq_then ?_
      refine wc_cond rfl (fun hc29 => ?_) (fun hc29 => ?_)
      · simp only [decide_eq_true_eq, decide_eq_false_iff_not, Bool.not_eq_true', Bool.not_eq_false', bne_iff_ne, beq_iff_eq, bne_eq_false_iff_eq, beq_eq_false_iff_ne, Int.not_lt, Int.not_le] at hc29
        refine wc_seq ?_
        refine wc_region ?_
        refine wl_go rfl (wo_val rfl (rv_move rfl) rfl rfl ?_)
        refine wl_go rfl (wo_val rfl (rv_move rfl) rfl rfl ?_)
        refine wl_go rfl (wo_val rfl (rv_move rfl) rfl rfl ?_)
        refine wl_go rfl (wo_val rfl (rv_indexAddr rfl rfl (by omega)) rfl rfl ?_)
        refine wl_go rfl (wo_store_at rfl rfl rfl rfl rfl rfl (by have := hC.len; omega) ?_)
        rw [show 0 + (((stay pr (vs.take j) (rs.take j)).length : Nat) : Int).toNat * 1 = (stay pr (vs.take j) (rs.take j)).length by rw [Int.toNat_natCast]; omega]
        refine wl_nil ?_
        refine wq_then ?_
        refine wc_region ?_
        refine wl_go rfl (wo_val rfl (rv_move rfl) rfl rfl ?_)
        refine wl_go rfl (wo_val rfl (rv_add rfl rfl (by omega)) rfl rfl ?_)
        refine wl_go rfl (wo_val rfl (rv_assign rfl) rfl rfl ?_)
        refine wl_nil ?_
        refine wq_in_normal ?_
        refine wq_then ?_
        refine wc_region ?_
        refine wl_go rfl (wo_val rfl (rv_move rfl) rfl rfl ?_)
        refine wl_go rfl (wo_val rfl (rv_add rfl rfl (by omega)) rfl rfl ?_)
        refine wl_go rfl (wo_val rfl (rv_assign rfl) rfl rfl ?_)
        refine wl_nil ?_
        have hs := stay_snoc pr hvj0 hr
        rw [hc29] at hs
        have hsl : (stay pr (vs.take (j + 1)) (rs.take (j + 1))).length = (stay pr (vs.take j) (rs.take j)).length + 1 := by rw [hs]; simp
        refine wq_round ⟨_, [(0, .slice (some ⟨B, 0, none⟩) rs.length cap), (1, .func (.func gf) #[] ca.toArray), (5, iv ((((stay pr (vs.take j) (rs.take j)).length + 1 : Nat)) : Int)), (6, iv ((j + 1 : Nat) : Int))], ⟨j + 1, _, _, by omega, by rw [hsl]; omega, (cut_step hC hvj0 hr).2 hc29 (by have := hC.len; omega), rfl, by rw [hsl], rfl⟩, by omega, by repeat (first | exact sub_nil | refine sub_cons rfl ?_)⟩
      · simp only [decide_eq_true_eq, decide_eq_false_iff_not, Bool.not_eq_true', Bool.not_eq_false', bne_iff_ne, beq_iff_eq, bne_eq_false_iff_eq, beq_eq_false_iff_ne, Int.not_lt, Int.not_le] at hc29
        refine wc_skip ?_
        refine wq_in_normal ?_
        refine wq_then ?_
        refine wc_region ?_
        refine wl_go rfl (wo_val rfl (rv_move rfl) rfl rfl ?_)
        refine wl_go rfl (wo_val rfl (rv_add rfl rfl (by omega)) rfl rfl ?_)
        refine wl_go rfl (wo_val rfl (rv_assign rfl) rfl rfl ?_)
        refine wl_nil ?_
        have hs := stay_snoc pr hvj0 hr
        rw [hc29] at hs
        have hsl : (stay pr (vs.take (j + 1)) (rs.take (j + 1))).length = (stay pr (vs.take j) (rs.take j)).length := by rw [hs]; simp
        refine wq_round ⟨_, [(0, .slice (some ⟨B, 0, none⟩) rs.length cap), (1, .func (.func gf) #[] ca.toArray), (5, iv ((stay pr (vs.take j) (rs.take j)).length : Int)), (6, iv ((j + 1 : Nat) : Int))], ⟨j + 1, _, _, by omega, by rw [hsl]; omega, (cut_step hC hvj0 hr).1 hc29, rfl, by rw [hsl], rfl⟩, by omega, by repeat (first | exact sub_nil | refine sub_cons rfl ?_)⟩
    · simp only [decide_eq_true_eq, decide_eq_false_iff_not, Bool.not_eq_true', Bool.not_eq_false', bne_iff_ne, beq_iff_eq, bne_eq_false_iff_eq, beq_eq_false_iff_ne, Int.not_lt, Int.not_le] at hc19
      have hjr : j = rs.length := by omega
      have hjv : vs.take j = vs := List.take_of_length_le (by omega)
      have hjr2 : rs.take j = rs := List.take_of_length_le (by omega)
      refine wc_exit ?_
      refine wq_then_exit ?_
      refine wq_then_exit ?_
      refine wq_in_here ?_
      refine wq_then ?_
      refine wc_seq ?_
      refine wc_region ?_
      refine wl_go rfl (wo_val rfl (rv_move rfl) rfl rfl ?_)
      refine wl_go rfl (wo_val rfl (rv_move rfl) rfl rfl ?_)
      refine wl_go rfl (wo_val rfl (rv_slice (lv := (stay pr (vs.take j) (rs.take j)).length) rfl ⟨.i64, _, rfl, by omega, rfl⟩ bnd_none (by omega)) rfl rfl ?_)
      rw [if_neg (by omega), Option.map_some, add_addr]
      refine wl_go rfl (wo_clear (z := .slice none 0 0) rfl (by omega) rfl rfl (by have := hC.len; omega) rfl rfl rfl ?_)
      refine wl_nil ?_
      refine wq_then ?_
      refine wc_seq ?_
      refine wc_region ?_
      refine wl_go rfl (wo_val rfl (rv_move rfl) rfl rfl ?_)
      refine wl_go rfl (wo_val rfl (rv_move rfl) rfl rfl ?_)
      refine wl_go rfl (wo_val rfl (rv_slice rfl bnd_none (bnd_some rfl (by omega)) (by omega)) rfl rfl ?_)
      refine wl_go rfl (wo_val rfl (rv_assign rfl) rfl rfl ?_)
      refine wl_nil ?_
      refine wq_then ?_
      refine wc_ret ?_
      refine wq_ret1 rfl rfl (rr_tmp rfl) (fun w9 hs9 => ?_)
      have hsv := stay_vals (pr := pr) hvals
      rw [addr0] at *
      have hb9 := hs9.blk ⟨B, _⟩ List.mem_cons_self
      simp only [Nat.zero_add, Nat.mul_one] at hb9
      refine ⟨_, by rw [← hsv.1, hjv, hjr2]; rfl, fun w5 h5 hv5 => vals_rr (rv_pre (cap := cap) (k := (stay pr vs rs).length) rfl (h5.trans hb9) ?_ (by omega) ?_) (stay_vals hv5), St.grown1 hs9⟩
      · have hk : (stay pr vs rs).length = (stay pr (vs.take j) (rs.take j)).length := by rw [hjv, hjr2]
        have hl9 : (cs.take (stay pr (vs.take j) (rs.take j)).length).length = (stay pr (vs.take j) (rs.take j)).length := by rw [List.length_take]; have := hC.len; omega
        rw [hk, List.append_assoc, List.take_append_of_le_length (by omega), List.take_take, Nat.min_self, hC.hd, hjv, hjr2]
      · rw [hjv, hjr2] at hlt; omega
end Go.Proofs.Ytlppkbfkajionaa.Cm
