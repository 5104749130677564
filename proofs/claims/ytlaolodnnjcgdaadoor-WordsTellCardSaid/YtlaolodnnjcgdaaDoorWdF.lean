/- The walks of words: All. -/
import Derived.Test.YtlaolodnnjcgdaaDoorWdE
namespace Go.Proofs.YtlaolodnnjcgdaaDoor.Wd
open Go Go.RowKit Gw Go.Shelf
theorem each_calls (s : Bs) (w : World) : Calls Tryd.prog 18 #[.string (toB s)] w fun e w' => ∃ b1, w.heap.size ≤ b1 ∧ e = .returned (.func (.func 29) #[] #[.pointer (some ⟨b1, 0, none⟩)]) ∧ w'.heap[b1]? = some (.cells #[.string (toB s)] 9 (0, 0)) ∧ Below w.heap.size w w' := by
  refine calls_start Tryd.func18 rfl (N := 4) rfl rfl _ (St.start _) rfl ?_
  refine wc_seq ?_
  refine wc_region ?_
  refine wl_go rfl (wo_box rfl rfl rfl rfl rfl (fun b1 hb1 => ?_))
  refine wl_go rfl (wo_val rfl (rv_assign rfl) rfl rfl ?_)
  refine wl_nil ?_
  refine wq_then ?_
  refine wc_seq ?_
  refine wc_region ?_
  refine wl_go rfl (wo_val rfl (rv_makeFunc rfl rfl) rfl rfl ?_)
  refine wl_go rfl (wo_val rfl (rv_assign rfl) rfl rfl ?_)
  refine wl_nil ?_
  refine wq_then ?_
  refine wc_ret ?_
  refine wq_ret1 rfl rfl (rr_tmp rfl) (fun w9 hs9 => ?_)
  exact ⟨b1, hb1, rfl, hs9.blk ⟨b1, _⟩ (by simp), hs9.below rfl⟩
/-- what All answers: words, an error, a place -/
def allOf (s : Bs) : List Wo × Nat × Nat :=
  if 65536 < s.length then ([], 2, 0) else match words s with
    | (ws, none) => (ws, 0, 0)
    | (_, some p) => ([], 120, p)
abbrev woC (x : Wo) : List Value := wdC x.k x.t x.at_
theorem pre_all {pre : List (Wo × Bool)} (h : ∀ y ∈ pre, y.2 = true) : pre = (pre.map (·.1)).map (·, true) := by
  induction pre with
  | nil => rfl
  | cons x r ih =>
    obtain ⟨a, b⟩ := x
    obtain rfl : b = true := h (a, b) (by simp)
    rw [List.map_cons, List.map_cons, ← ih (fun y hy => h y (by simp [hy]))]
theorem all_done {s : Bs} (hs : ¬ 65536 < s.length) {xs : List (Wo × Bool)} (hx : xs = itsOf s) (h : ∀ y ∈ xs, y.2 = true) : allOf s = (xs.map (·.1), 0, 0) := by
  unfold allOf
  rw [if_neg hs]
  unfold words itsOf at *
  rcases wds_its s.length s.length (sk false s) with ⟨h1, h2⟩ | ⟨k, t, p, h1, h2⟩
  · have : wds s.length s.length (sk false s) = ((wds s.length s.length (sk false s)).1, none) := by rw [← h1]
    rw [this]
    rw [hx, h2]
    simp [Function.comp_def]
  · rw [hx, h2] at h
    have := h (⟨k, t, p⟩, false) (by simp)
    cases this
theorem all_bad {s : Bs} (hs : ¬ 65536 < s.length) {pre r : List (Wo × Bool)} {x : Wo × Bool} (hx : itsOf s = pre ++ [x] ++ r) (h : x.2 = false) : allOf s = ([], 120, x.1.at_) := by
  unfold allOf
  rw [if_neg hs]
  unfold words itsOf at *
  rcases wds_its s.length s.length (sk false s) with ⟨h1, h2⟩ | ⟨k, t, p, h1, h2⟩
  · rw [h2] at hx
    have : x ∈ (wds s.length s.length (sk false s)).1.map (·, true) := by rw [hx]; simp
    obtain ⟨y, _, rfl⟩ := List.mem_map.1 this
    cases h
  · have e : wds s.length s.length (sk false s) = ((wds s.length s.length (sk false s)).1, some p) := by rw [← h1]
    rw [e]
    rw [h2] at hx
    have hm : x ∈ (wds s.length s.length (sk false s)).1.map (·, true) ++ [((⟨k, t, p⟩ : Wo), false)] := by rw [hx]; simp
    rcases List.mem_append.1 hm with hm | hm
    · obtain ⟨y, _, rfl⟩ := List.mem_map.1 hm
      cases h
    · obtain rfl := List.mem_singleton.1 hm
      rfl
set_option maxHeartbeats 1000000 in
theorem All_calls (s : Bs) (hsz : s.length ≤ 4611686018427387000) (w : World) : Calls Tryd.prog 8 #[.string (toB s)] w fun e w' => ∃ v, e = .returned (.tuple #[v, .int .i64 ((allOf s).2.1 : Int), .int .i64 ((allOf s).2.2 : Int)]) ∧ w'.ownsRow w.heap.size 35 3 v (allOf s).1.length ((allOf s).1.flatMap woC) ∧ Below w.heap.size w w' := by
  refine callsM_start 3 Tryd.func8 rfl (N := 24) rfl rfl _ (St.start _) rfl ?_
  refine wc_seq ?_
  refine wc_region ?_
  refine wl_go rfl (wo_alloc rfl rfl rfl (fun b2 hb2 => ?_))
  refine wl_go rfl (wo_alloc rfl rfl rfl (fun b3 hb3 => ?_))
  refine wl_go rfl (wo_alloc rfl rfl rfl (fun b4 hb4 => ?_))
  refine wl_nil ?_
  refine wq_then ?_
  refine wc_seq ?_
  refine wc_seq ?_
  refine wc_region ?_
  refine wl_go rfl (wo_val rfl (rv_move rfl) rfl rfl ?_)
  refine wl_go rfl (wo_val rfl (rb_len rfl) rfl rfl ?_)
  refine wl_go rfl (wo_val rfl (rv_cmp_i rfl rfl rfl) rfl rfl ?_)
  refine wl_nil ?_
  refine wq_then ?_
  refine wc_cond rfl (fun hc10 => ?_) (fun hc10 => ?_)
  · simp only [decide_eq_true_eq, decide_eq_false_iff_not, Bool.not_eq_true', Bool.not_eq_false', bne_iff_ne, beq_iff_eq, bne_eq_false_iff_eq, beq_eq_false_iff_ne, Int.not_lt, Int.not_le] at hc10
    refine wc_seq ?_
    refine wc_region ?_
    refine wl_go rfl (wo_st rfl rfl rfl rfl rfl rfl rfl ?_)
    refine wl_go rfl (wo_st rfl rfl rfl rfl rfl rfl rfl ?_)
    refine wl_go rfl (wo_st rfl rfl rfl rfl rfl rfl rfl ?_)
    refine wl_nil ?_
    refine wq_then ?_
    refine wc_ret ?_
    refine wq_then_ret ?_
    refine wq_retM0 rfl ?_
    refine wq_ret3 rfl rfl (rr_cell rfl rfl) (rr_cell rfl rfl) (rr_cell rfl rfl) (fun w9 hs9 => ?_)
    have e : allOf s = ([], 2, 0) := if_pos (by omega)
    rw [e]
    exact ⟨_, rfl, World.ownsRow_nil _ _ _ _, hs9.below rfl⟩
  · simp only [decide_eq_true_eq, decide_eq_false_iff_not, Bool.not_eq_true', Bool.not_eq_false', bne_iff_ne, beq_iff_eq, bne_eq_false_iff_eq, beq_eq_false_iff_ne, Int.not_lt, Int.not_le] at hc10
    refine wc_skip ?_
    refine wq_then ?_
    refine wc_seq ?_
    refine wc_region ?_
    refine wl_go rfl (wo_alloc rfl rfl rfl (fun b5 hb5 => ?_))
    refine wl_nil ?_
    refine wq_then ?_
    refine wc_seq ?_
    refine wc_seq ?_
    refine wc_region ?_
    refine wl_go rfl (wo_val rfl (rv_move rfl) rfl rfl ?_)
    refine wl_go rfl (wo_call (R := fun w v w' => ∃ b1, w.heap.size ≤ b1 ∧ v = .func (.func 29) #[] #[.pointer (some ⟨b1, 0, none⟩)] ∧ w'.heap[b1]? = some (.cells #[.string (toB s)] 9 (0, 0))) rfl rfl (enters_of Tryd.func18 (by kernel_rfl) rfl) rfl rfl rfl (fun w hs => (each_calls s w).mono fun e w' ⟨b1, h1, h2, h3, h4⟩ => ⟨_, h2, ⟨b1, h1, rfl, h3⟩, h4⟩) (fun w2 v2 w3 hs2 hv hb2 hm2 => ?_))
    obtain ⟨b1, hb1, rfl, hbx0⟩ := hv
    refine wl_nil ?_
    refine wq_then ?_
    refine wc_block ?_
    refine wc_rangeFunc (ps := [13, 14]) (encs := wEnc) (Kp := keepB b1) (Sd := fun xs => xs = itsOf s) (Sp := fun xs => ∃ r, itsOf s = xs ++ r) (Nn := s.length + 1) rfl (enters_of Tryd.func29 (by kernel_rfl) rfl) (by decide) (fun w4 hs4 => each1_stops _ s hsz b1 w4 ((hs4.old0 b1 (Array.getElem?_eq_some_iff.1 hbx0).1 (fun y hy e => by have := hs2.lt hy; omega)).trans hbx0)) (fun h k => ⟨Nat.le_trans h.1 k.1, fun o ho => k.2 o (h.2 o ho)⟩) (fun W l o o' (hl : w3.heap.size ≤ l) ho => ⟨by simp, fun o1 h1 => (World.putObj_heap_other (fun e => by have := (Array.getElem?_eq_some_iff.1 hbx0).1; omega)).trans h1⟩) (fun W W' hg => ⟨hg.size, fun o ho => (hg.block b1 (Array.getElem?_eq_some_iff.1 ho).1 (by simp)).trans ho⟩) (fun _ => rfl) (by decide) (fun pre own W => ∃ v, own = [⟨b5, .cells #[v] 23 (0, 0)⟩, ⟨b4, .cells #[.int .i64 0] 3 (0, 0)⟩, ⟨b3, .cells #[.int .i64 0] 24 (0, 0)⟩, ⟨b2, .cells #[.slice none 0 0] 23 (0, 0)⟩] ∧ (∀ y ∈ pre, y.2 = true) ∧ Rw ⟨w, G0, W, own⟩ 35 3 v pre.length (pre.flatMap fun x => woC x.1) ∧ W.heap[b1]? = some (.cells #[.string (toB s)] 9 (0, 0))) (fun c pre own W => c = .ret ∧ ∃ pre' x v, pre = pre' ++ [x] ∧ x.2 = false ∧ own = [⟨b5, .cells #[v] 23 (0, 0)⟩, ⟨b4, .cells #[.int .i64 (x.1.at_ : Int)] 3 (0, 0)⟩, ⟨b3, .cells #[.int .i64 120] 24 (0, 0)⟩, ⟨b2, .cells #[.slice none 0 0] 23 (0, 0)⟩]) (fun pre own W W' row ⟨v, h1, h2, h3, h4⟩ hg hr => ⟨v, h1, h2, h3.grown hg (fun r e => (hr r e).2), (hg.block b1 (Array.getElem?_eq_some_iff.1 h4).1 (fun e => by obtain ⟨_, o, ho, hn⟩ := hr b1 e.symm; rw [h4] at ho; cases ho; cases hn)).trans h4⟩) (fun c pre own W W' row h hg hr => h) (by intro x hx; simp at hx; rcases hx with rfl | rfl | rfl | rfl <;> rfl) (fun w4 hs4 => ⟨.slice none 0 0, rfl, fun y hy => (by cases hy), Rw.nil _ _ _, (hs4.old0 b1 (Array.getElem?_eq_some_iff.1 hbx0).1 (fun y hy e => by have := hs2.lt hy; omega)).trans hbx0⟩) (fun x lx ownx => ∃ b6, lx = [(2, .pointer (some ⟨b2, 0, none⟩)), (3, .pointer (some ⟨b3, 0, none⟩)), (4, .pointer (some ⟨b4, 0, none⟩)), (5, .pointer (some ⟨b5, 0, none⟩)), (6, .pointer (some ⟨b6, 0, none⟩)), (7, .bool x.2)] ∧ ownx = [⟨b6, .cells (woC x.1).toArray 35 (0, 0)⟩]) ?_ ?_ ?_ ?_
    · intro lp B pre x own w0 hB hBw hids hJ
      obtain ⟨v, rfl, hall, hR, hbx⟩ := hJ
      refine wc_seq ?_
      refine wc_region ?_
      refine wl_go rfl (wo_alloc rfl rfl rfl (fun b6 hb6 => ?_))
      refine wl_go rfl (wo_st rfl rfl rfl rfl rfl rfl rfl ?_)
      refine wl_nil ?_
      refine wq_then ?_
      refine wc_region ?_
      refine wl_go rfl (wo_val rfl (rv_assign rfl) rfl rfl ?_)
      refine wl_nil ?_
      refine wq_assign (ownx := [_]) ⟨b6, rfl, rfl⟩ ?_ ?_
      · intro y hy; obtain rfl := List.mem_singleton.1 hy; exact ⟨rfl, hb6⟩
      · exact (by repeat (first | exact sub_nil | refine sub_cons rfl ?_))
    · intro lp B pre x own lx ownx w0 hB hBw hids hJ hA hlen hblk
      obtain ⟨v, rfl, hall, hR, hbx⟩ := hJ
      obtain ⟨p, q, c, rfl⟩ := hR.form
      obtain ⟨b6, rfl, rfl⟩ := hA
      rw [List.singleton_append] at hblk ⊢
      refine wc_block ?_
      refine wc_seq ?_
      refine wc_seq ?_
      refine wc_region ?_
      refine wl_go rfl (wo_val rfl (rv_move rfl) rfl rfl ?_)
      refine wl_go rfl (wo_val rfl (rv_not rfl) rfl rfl ?_)
      refine wl_nil ?_
      refine wq_then ?_
      refine wc_cond rfl (fun hc16 => ?_) (fun hc16 => ?_)
      · skip
        refine wc_seq ?_
        refine wc_region_stage (by kernel_rfl) (by kernel_rfl) ?_
        refine ws_q (i := 0) rfl (by kernel_rfl) (rq_val rfl rfl rfl (rv_fieldAddr rfl)) rfl rfl ?_
        refine ws_q (i := 1) rfl (by kernel_rfl) (rq_val rfl rfl rfl (rv_load_own rfl rfl)) rfl rfl ?_
        refine ws_w 2 rfl (by kernel_rfl) (by kernel_rfl) rfl (wo_st rfl rfl rfl rfl rfl rfl rfl ?_)
        refine wl_stage (pa_keep (rq_val rfl rfl rfl (rv_load_own rfl rfl)) (pa_keep (rq_val rfl rfl rfl (rv_fieldAddr rfl)) (pa_nil))) ?_
        refine ws_w 3 rfl (by kernel_rfl) (by kernel_rfl) rfl (wo_st rfl rfl rfl rfl rfl rfl rfl ?_)
        refine wl_stage (pa_keep (rq_val rfl rfl rfl (rv_load_own rfl rfl)) (pa_keep (rq_val rfl rfl rfl (rv_fieldAddr rfl)) (pa_nil))) ?_
        refine ws_w 4 rfl (by kernel_rfl) (by kernel_rfl) rfl (wo_st rfl rfl rfl rfl rfl rfl rfl ?_)
        refine wl_stage (pa_drop (by kernel_rfl) (pa_drop (by kernel_rfl) (pa_nil))) ?_
        refine ws_nil (by kernel_rfl) ?_
        refine wq_then ?_
        refine wc_ret ?_
        refine wq_then_ret ?_
        refine wq_in_ret ?_
        refine wq_rb_ret (fun w9 hs9 => ?_)
        have hkk : KeepsFrom B w0 w9 := by
          refine keeps_here ?_ hs9
          exact cells_ids hblk rfl
        refine ⟨hkk, [⟨b5, .cells #[.slice p q c] 23 (0, 0)⟩, ⟨b4, .cells #[.int .i64 (x.1.at_ : Int)] 3 (0, 0)⟩, ⟨b3, .cells #[.int .i64 120] 24 (0, 0)⟩, ⟨b2, .cells #[.slice none 0 0] 23 (0, 0)⟩], rfl, ?_, ⟨rfl, pre, x, _, rfl, by simpa using hc16, rfl⟩, hs9.rename ⟨[_], rfl⟩⟩
        intro y hy
        simp only [List.mem_cons, List.not_mem_nil, or_false] at hy
        rcases hy with rfl | rfl | rfl | rfl <;> rfl
      · skip
        refine wc_skip ?_
        refine wq_then ?_
        refine wc_region ?_
        refine wl_go rfl (wo_val rfl (rv_load_own rfl rfl) rfl rfl ?_)
        refine wl_go rfl (wo_val rfl (rv_load_own_row rfl) rfl rfl ?_)
        refine wl_name [_, _, _, _] ⟨[_], rfl⟩ (fun w5 hs5 => ?_)
        have hR5 := hR.same hs5 hblk
        refine wl_go rfl (wo_bs [_] rfl rfl rfl (⟨rfl, rfl, ⟨_, rfl, rfl⟩, trivial⟩) rfl rfl (fun b21 hb21 => ?_))
        refine wl_go rfl (wo_append rfl rfl rfl rfl rfl [_, _, _, _] ⟨[_], rfl⟩ (hR5.cons hb21) (by unfold maxLen; omega) rfl rfl rfl (fun v6 w6 hR6 hm6 ho6 => ?_))
        obtain ⟨p6, q6, c6, rfl⟩ := hR6.form
        refine wl_go rfl (wo_st rfl rfl rfl rfl rfl rfl rfl ?_)
        refine wl_nil ?_
        refine wq_in_normal ?_
        refine wq_rb_normal (fun w9 hs9 => ?_)
        have hc5 : ∀ y ∈ [(⟨b21, .cells (woC x.1).toArray 35 (0, 0)⟩ : Blk), ⟨b5, .cells #[.slice p q c] 23 (0, 0)⟩, ⟨b4, .cells #[.int .i64 0] 3 (0, 0)⟩, ⟨b3, .cells #[.int .i64 0] 24 (0, 0)⟩, ⟨b2, .cells #[.slice none 0 0] 23 (0, 0)⟩], ∀ o, w5.heap[y.b]? = some o → o.isCells = true := by
          intro y hy o ho
          rcases List.mem_cons.1 hy with rfl | hy
          · have h1 := (Array.getElem?_eq_some_iff.1 ho).1
            simp only at h1
            omega
          · have h1 := hs5.blk y (List.mem_cons_of_mem _ hy)
            rw [ho] at h1
            cases h1
            exact (hblk y (List.mem_cons_of_mem _ hy)).2
        have hlt1 : b1 < w0.heap.size := (Array.getElem?_eq_some_iff.1 hbx).1
        have hlt5 : b1 < w5.heap.size := Nat.lt_of_lt_of_le hlt1 hs5.size0
        have hb5x : w5.heap[b1]? = w0.heap[b1]? := same_of hs5 hblk b1 hlt1
        have hown : ∀ y ∈ [(⟨b5, .cells #[.slice none 0 0] 23 (0, 0)⟩ : Blk), ⟨b4, .cells #[.int .i64 0] 3 (0, 0)⟩, ⟨b3, .cells #[.int .i64 0] 24 (0, 0)⟩, ⟨b2, .cells #[.slice none 0 0] 23 (0, 0)⟩], y.b ≠ b1 := fun y hy e => by
          have := hs2.lt hy
          omega
        have hids5 : b5 ≠ b1 ∧ b4 ≠ b1 ∧ b3 ≠ b1 ∧ b2 ≠ b1 := ⟨hown _ List.mem_cons_self, hown _ (List.mem_cons_of_mem _ List.mem_cons_self), hown _ (List.mem_cons_of_mem _ (List.mem_cons_of_mem _ List.mem_cons_self)), hown _ (List.mem_cons_of_mem _ (List.mem_cons_of_mem _ (List.mem_cons_of_mem _ List.mem_cons_self)))⟩
        have hb6x : w6.heap[b1]? = w5.heap[b1]? := hm6.block b1 hlt5 (by
          intro y hy
          simp only [List.mem_cons, List.not_mem_nil, or_false] at hy
          rcases hy with rfl | rfl | rfl | rfl | rfl
          · show b21 ≠ b1
            omega
          · exact hids5.1
          · exact hids5.2.1
          · exact hids5.2.2.1
          · exact hids5.2.2.2) (fun e => hR5.not_at (hb5x.trans hbx) (by decide) e.symm)
        have hb9x : w9.heap[b1]? = w6.heap[b1]? := hs9.old0 b1 (Nat.lt_of_lt_of_le hlt5 hm6.size) (by
          intro y hy
          simp only [List.mem_cons, List.not_mem_nil, or_false] at hy
          rcases hy with rfl | rfl | rfl | rfl
          · exact hids5.1
          · exact hids5.2.1
          · exact hids5.2.2.1
          · exact hids5.2.2.2)
        have hbo : w9.heap[b1]? = w0.heap[b1]? := hb9x.trans (hb6x.trans hb5x)
        have hk1 : KeepsFrom B w0 w5 := keeps_here (cells_ids hblk rfl) hs5
        have hk2 : KeepsFrom B w5 w9 := keeps_via hc5 (by
          intro y hy
          simp only [List.mem_cons, List.not_mem_nil, or_false] at hy
          rcases hy with rfl | rfl | rfl | rfl <;> simp) hm6 hR5.cells hs9
        have hkk := hk1.trans hk2
        have e1 : (pre ++ [x]).length = pre.length + 1 := by simp
        have e2 : ((pre ++ [x]).flatMap fun x => woC x.1) = (pre.flatMap fun x => woC x.1) ++ woC x.1 := by simp [List.flatMap_append]
        have hx2 : x.2 = true := by simpa using hc16
        refine ⟨hkk, ⟨hkk.size, fun o ho => hbo.trans ho⟩, [⟨b5, .cells #[.slice p6 q6 c6] 23 (0, 0)⟩, ⟨b4, .cells #[.int .i64 0] 3 (0, 0)⟩, ⟨b3, .cells #[.int .i64 0] 24 (0, 0)⟩, ⟨b2, .cells #[.slice none 0 0] 23 (0, 0)⟩], rfl, ?_, ⟨_, rfl, ?_, ?_, hbo.trans hbx⟩, hs9.rename ⟨[], rfl⟩⟩
        · intro y hy
          simp only [List.mem_cons, List.not_mem_nil, or_false] at hy
          rcases hy with rfl | rfl | rfl | rfl <;> rfl
        · intro y hy
          rcases List.mem_append.1 hy with hy | hy
          · exact hall y hy
          · obtain rfl := List.mem_singleton.1 hy
            exact hx2
        · rw [e1, e2]
          have h := hR6.ids (gs' := G0) (own' := [⟨b5, .cells #[.slice p6 q6 c6] 23 (0, 0)⟩, ⟨b4, .cells #[.int .i64 0] 3 (0, 0)⟩, ⟨b3, .cells #[.int .i64 0] 24 (0, 0)⟩, ⟨b2, .cells #[.slice none 0 0] 23 (0, 0)⟩]) rfl
          exact ⟨h.at hs9, h.off⟩
    · intro D xs own w0 hD hDw hids hS hJ
      obtain ⟨v, rfl, hall, hR, hbx⟩ := hJ
      obtain ⟨p, q, c, rfl⟩ := hR.form
      refine wq_in_normal ?_
      refine wq_then ?_
      refine wc_seq ?_
      refine wc_region ?_
      refine wl_go rfl (wo_val rfl (rv_load_own rfl rfl) rfl rfl ?_)
      refine wl_go rfl (wo_st rfl rfl rfl rfl rfl rfl rfl ?_)
      refine wl_go rfl (wo_st rfl rfl rfl rfl rfl rfl rfl ?_)
      refine wl_go rfl (wo_st rfl rfl rfl rfl rfl rfl rfl ?_)
      refine wl_nil ?_
      refine wq_then ?_
      refine wc_ret ?_
      refine wq_retM ?_
      refine wq_ret3 rfl rfl (rr_cell rfl rfl) (rr_cell rfl rfl) (rr_cell rfl rfl) (fun w9 hs9 => ?_)
      rw [all_done (by omega) hS hall]
      refine ⟨_, rfl, ?_, hs9.below rfl⟩
      have h := ((hR.mark (gs' := G0) (o := .deferred none) hDw).ids (gs' := G0) (own' := [⟨D, .deferred none⟩, ⟨b5, .cells #[.slice p q c] 23 (0, 0)⟩, ⟨b4, .cells #[.int .i64 0] 3 (0, 0)⟩, ⟨b3, .cells #[.int .i64 0] 24 (0, 0)⟩, ⟨b2, .cells #[.slice p q c] 23 (0, 0)⟩]) rfl).at hs9
      rw [List.length_map, List.flatMap_map]
      exact h
    · intro D c xs own w0 hD hDw hids hS hJ
      obtain ⟨rfl, pre, x, v, rfl, hx2, rfl⟩ := hJ
      refine wc_ret ?_
      refine wq_in_ret ?_
      refine wq_then_ret ?_
      refine wq_retM ?_
      refine wq_ret3 rfl rfl (rr_cell rfl rfl) (rr_cell rfl rfl) (rr_cell rfl rfl) (fun w9 hs9 => ?_)
      obtain ⟨r, hr⟩ := hS
      rw [all_bad (by omega) hr hx2]
      exact ⟨_, rfl, World.ownsRow_nil _ _ _ _, hs9.below rfl⟩
end Go.Proofs.YtlaolodnnjcgdaaDoor.Wd
