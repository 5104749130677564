/- The walk of Make: some pattern, of so many nodes at most. -/
import Derived.Test.YtekodfpjoehooaaNodeW22
namespace Go.Proofs.Ytekodfpjoehooaa.Bs
open Go.RowKit Mem Reg
theorem withI_calls (x : Int) (h0 : 0 ≤ x) (h1 : x < 256) (w : World) :
    Calls Try.prog 35 #[setV 0#256, .int .u8 x] w fun e w' => e = .returned (setV (bit x.toNat)) ∧ Below w.heap.size w w' := by
  obtain ⟨n, rfl⟩ : ∃ n : Nat, x = n := ⟨x.toNat, by omega⟩
  have h := with_calls 0#256 n (by omega) w
  rw [BitVec.zero_or] at h
  exact h
theorem rrangeI_calls (x : Int) (h0 : 0 ≤ x) (h1 : x < 256) (w : World) :
    Calls Try.prog 36 #[.int .u8 97, .int .u8 x] w fun e w' => e = .returned (setV (rangeS 97 x.toNat)) ∧ Below w.heap.size w w' := by
  obtain ⟨n, rfl⟩ : ∃ n : Nat, x = n := ⟨x.toNat, by omega⟩
  exact rrange_calls 97 n (by omega) (by omega) w
theorem run_alloc_nd {w : World} {ρ : Operand → Value} {o : Oper} (ho : o.op = .alloc 28) : (execOp ρ o).run Try.prog w = .ok (.value (.pointer (some ⟨w.heap.size, 0, none⟩))) (w.alloc (.cells (ndC 0 0#256 0 0 (.slice none 0 0)) 28)) := by
  unfold execOp
  simp only [ho]
  go_simp
  rfl
theorem NRow.cap_le {w : World} {base g n cap : Nat} {xs : List NV} (h : NRow w base (.slice (some ⟨g, 0, none⟩) n cap) xs) : n ≤ cap := by
  have hl := h.len
  rcases h.1.2 with ⟨h1, _⟩ | ⟨_, _, _, h1, _, _, h2, _⟩
  · cases h1
  · cases h1; omega
/-- 'l[:h]' -/
theorem sl_head {ops : Array Oper} {rest : List Oper} {o : Oper} {a : Act} {w : World} {Q : Exit → Act → World → Prop} (hgd : o.guard = none) (x y : Operand) (ho : o.op = .slice 26 x none (some y) none)
    (g n c : Nat) (hx : a.eval x = .slice (some ⟨g, 0, none⟩) n c) (hi : Int) (hy : a.eval y = .int .i64 hi) (h : Nat) (hr : hi = (h : Int)) (hh : h ≤ c) (hc : 0 < c)
    (k : wpList Try.prog ops Q rest (a.put o.dst (.slice (some ⟨g, 0, none⟩) h c)) w) : wpList Try.prog ops Q (o :: rest) a w :=
  wpList_plain hgd fun K hK => by
    subst hr
    unfold Oper.wp execOp
    have h1 : (h : Int) ≤ (c : Int) := by omega
    have h2 : (0 : Int) ≤ (h : Int) := by omega
    simp only [ho, hx, Option.map_some, Option.map_none, hy]
    have hne : c ≠ 0 := by omega
    go_simp
    exact hK _ _ k
theorem run_build_nd2 (w : World) (op : Int) (s : BitVec 256) (mn mx : Int) (kv : Value) (op' : Int) (s' : BitVec 256) (mn' mx' : Int) (kv' : Value) : (Instr.buildSlice 26 2 #[(0, ndV op s mn mx kv), (1, ndV op' s' mn' mx' kv')]).run Try.prog w = .ok (.slice (some ⟨w.heap.size, 0, none⟩) 2 2) (w.alloc (.cells (ndC op s mn mx kv ++ ndC op' s' mn' mx' kv') 28)) := by
  obtain ⟨i0, hi, hz0, hz1, hz2⟩ := info_parts infoNd
  refine run_buildSlice w 26 28 2 _ (ndC op s mn mx kv ++ ndC op' s' mn' mx' kv') i0 _ undNds hi hz0 (by rw [hz1]; decide) (by rw [hz1]; decide) ?_
  simp only [hz1]
  unfold ndV ndC
  generalize (limN s 0 : Int) = a0
  generalize (limN s 1 : Int) = a1
  generalize (limN s 2 : Int) = a2
  generalize (limN s 3 : Int) = a3
  generalize (limN s' 0 : Int) = b0
  generalize (limN s' 1 : Int) = b1
  generalize (limN s' 2 : Int) = b2
  generalize (limN s' 3 : Int) = b3
  kernel_rfl
/-- a slice of two nodes -/
theorem kids_two {w : World} {Q : Nat → Prop} {g c ty : Nat} {a b : NV} (h : w.heap[g]? = some (.cells (ndC a.1.op a.1.set a.1.mn a.1.mx a.2 ++ ndC b.1.op b.1.set b.1.mn b.1.mx b.2) ty (0, 0))) (ha : Kids w Q a.2 a.1.kids) (hb : Kids w Q b.2 b.1.kids) (hq : Q g) : Kids w Q (.slice (some ⟨g, 0, none⟩) 2 c) [a.1, b.1] := by
  have h0 := range_row h
  refine .mk (some ⟨g, 0, none⟩) c [a.1, b.1] (fun i => if i = 0 then a.2 else b.2) (by simp) (fun _ => ⟨g, 0, rfl, hq, fun i op' s' mn' mx' kk hi => ?_⟩) fun i op' s' mn' mx' kk hi => ?_
  · intro j v hj
    have hj8 : j < 8 := (List.getElem?_eq_some_iff.1 hj).1
    match i, hi with
    | 0, hi =>
      simp at hi
      have := h0 j v (by rw [Array.toList_append, List.getElem?_append_left (by show j < 8; omega)]; rw [hi]; exact hj)
      simpa using this
    | 1, hi =>
      simp at hi
      have e : (8 + j) - (ndC a.1.op a.1.set a.1.mn a.1.mx a.2).toList.length = j := by show 8 + j - 8 = j; omega
      have := h0 (8 + j) v (by rw [Array.toList_append, List.getElem?_append_right (by show 8 ≤ 8 + j; omega), e, hi]; exact hj)
      simpa using this
    | i + 2, hi => simp at hi
  · match i, hi with
    | 0, hi => simp at hi; rw [hi] at ha; exact ha
    | 1, hi => simp at hi; rw [hi] at hb; exact hb
    | i + 2, hi => simp at hi
def szs (xs : List NV) : Nat := (xs.map fun x => x.1.size).sum
theorem nodeV_of {w : World} {Q : Nat → Prop} (x : NV) (hk : Kids w Q x.2 x.1.kids) : NodeV w Q (ndV x.1.op x.1.set x.1.mn x.1.mx x.2) x.1 := by
  obtain ⟨⟨op, s, mn, mx, ks⟩, kv⟩ := x
  exact ⟨kv, rfl, hk⟩
theorem kids_one' {w : World} {Q : Nat → Prop} {g c ty : Nat} (x : NV) (h : w.heap[g]? = some (.cells (ndC x.1.op x.1.set x.1.mn x.1.mx x.2) ty (0, 0))) (hk : Kids w Q x.2 x.1.kids) (hq : Q g) : Kids w Q (.slice (some ⟨g, 0, none⟩) 1 c) [x.1] := by
  obtain ⟨⟨op, s, mn, mx, ks⟩, kv⟩ := x
  exact kids_one h hk hq
theorem szs_app (xs ys : List NV) : szs (xs ++ ys) = szs xs + szs ys := by simp [szs]
theorem szs_len (xs : List NV) : xs.length ≤ szs xs := by
  induction xs with
  | nil => simp [szs]
  | cons x xs ih =>
    have := size_pos x.1
    simp only [szs, List.map_cons, List.sum_cons, List.length_cons] at *; omega
theorem last_two (xs : List NV) (h : 1 < xs.length) : ∃ ys a b, xs = ys ++ [a, b] := by
  obtain ⟨r, hr⟩ : ∃ r, xs.reverse = r := ⟨_, rfl⟩
  match r, hr with
  | [], hr => have := congrArg List.length hr; simp only [List.length_reverse, List.length_nil] at this; omega
  | [_], hr => have := congrArg List.length hr; simp only [List.length_reverse, List.length_cons, List.length_nil] at this; omega
  | b :: a :: r, hr => exact ⟨r.reverse, a, b, by have := congrArg List.reverse hr; simpa using this⟩
theorem last_one (xs : List NV) (h : 0 < xs.length) : ∃ ys a, xs = ys ++ [a] := by
  obtain ⟨r, hr⟩ : ∃ r, xs.reverse = r := ⟨_, rfl⟩
  match r, hr with
  | [], hr => have := congrArg List.length hr; simp only [List.length_reverse, List.length_nil] at this; omega
  | b :: r, hr => exact ⟨r.reverse, b, by have := congrArg List.reverse hr; simpa using this⟩
def make10 (w w3 : World) (g m c : Nat) (a b : NV) : List (Value → World → Prop) := [
  fun v _ => v = Value.slice (some ⟨g, 0, none⟩) (m + 2) c,
  fun v _ => v = Value.int .i64 ((m + 2 : Nat) : Int),
  fun v _ => v = Value.int .i64 (m : Int),
  fun v _ => v = Value.pointer (some ⟨g, m * 8, none⟩),
  fun v _ => v = ndV a.1.op a.1.set a.1.mn a.1.mx a.2,
  fun v _ => v = Value.slice (some ⟨g, 0, none⟩) (m + 2) c,
  fun v _ => v = Value.int .i64 ((m + 2 : Nat) : Int),
  fun v _ => v = Value.int .i64 ((m + 1 : Nat) : Int),
  fun v _ => v = Value.pointer (some ⟨g, (m + 1) * 8, none⟩),
  fun v _ => v = ndV b.1.op b.1.set b.1.mn b.1.mx b.2,
  fun vv ww => ∃ gb, vv = Value.slice (some ⟨gb, 0, none⟩) 2 2 ∧ w3.heap.size ≤ gb ∧ ww.heap[gb]? = some (.cells (ndC a.1.op a.1.set a.1.mn a.1.mx a.2 ++ ndC b.1.op b.1.set b.1.mn b.1.mx b.2) 28 (0, 0)),
  fun vv ww => ∃ gb, vv = ndV 1 0#256 0 0 (Value.slice (some ⟨gb, 0, none⟩) 2 2) ∧ w3.heap.size ≤ gb ∧ ww.heap[gb]? = some (.cells (ndC a.1.op a.1.set a.1.mn a.1.mx a.2 ++ ndC b.1.op b.1.set b.1.mn b.1.mx b.2) 28 (0, 0)),
  fun vv ww => ∃ gx, vv = Value.pointer (some ⟨gx, 0, none⟩) ∧ w3.heap.size ≤ gx ∧ ww.heap[gx]? = some (.cells (ndC 0 0#256 0 0 (.slice none 0 0)) 28 (0, 0))]
theorem make10_keep (w w3 : World) (g m c : Nat) (a b : NV) : PredsKeep (make10 w w3 g m c a b) :=
  ⟨fun _ _ _ h _ => h,
  fun _ _ _ h _ => h,
  fun _ _ _ h _ => h,
  fun _ _ _ h _ => h,
  fun _ _ _ h _ => h,
  fun _ _ _ h _ => h,
  fun _ _ _ h _ => h,
  fun _ _ _ h _ => h,
  fun _ _ _ h _ => h,
  fun _ _ _ h _ => h,
  fun _ _ _ h hE => h.imp fun _ h => ⟨h.1, h.2.1, below_all hE h.2.2⟩,
  fun _ _ _ h hE => h.imp fun _ h => ⟨h.1, h.2.1, below_all hE h.2.2⟩,
  fun _ _ _ h hE => h.imp fun _ h => ⟨h.1, h.2.1, below_all hE h.2.2⟩, trivial⟩
def make14 (w w3 : World) (g m c : Nat) (a b : NV) : List (Value → World → Prop) := [
  fun v _ => v = Value.slice (some ⟨g, 0, none⟩) (m + 2) c,
  fun v _ => v = Value.int .i64 ((m + 2 : Nat) : Int),
  fun v _ => v = Value.int .i64 (m : Int),
  fun v _ => v = Value.pointer (some ⟨g, m * 8, none⟩),
  fun v _ => v = ndV a.1.op a.1.set a.1.mn a.1.mx a.2,
  fun v _ => v = Value.slice (some ⟨g, 0, none⟩) (m + 2) c,
  fun v _ => v = Value.int .i64 ((m + 2 : Nat) : Int),
  fun v _ => v = Value.int .i64 ((m + 1 : Nat) : Int),
  fun v _ => v = Value.pointer (some ⟨g, (m + 1) * 8, none⟩),
  fun v _ => v = ndV b.1.op b.1.set b.1.mn b.1.mx b.2,
  fun vv ww => ∃ gb, vv = Value.slice (some ⟨gb, 0, none⟩) 2 2 ∧ w3.heap.size ≤ gb ∧ ww.heap[gb]? = some (.cells (ndC a.1.op a.1.set a.1.mn a.1.mx a.2 ++ ndC b.1.op b.1.set b.1.mn b.1.mx b.2) 28 (0, 0)),
  fun vv ww => ∃ gb, vv = ndV 2 0#256 0 0 (Value.slice (some ⟨gb, 0, none⟩) 2 2) ∧ w3.heap.size ≤ gb ∧ ww.heap[gb]? = some (.cells (ndC a.1.op a.1.set a.1.mn a.1.mx a.2 ++ ndC b.1.op b.1.set b.1.mn b.1.mx b.2) 28 (0, 0)),
  fun vv ww => ∃ gx, vv = Value.pointer (some ⟨gx, 0, none⟩) ∧ w3.heap.size ≤ gx ∧ ww.heap[gx]? = some (.cells (ndC 0 0#256 0 0 (.slice none 0 0)) 28 (0, 0))]
theorem make14_keep (w w3 : World) (g m c : Nat) (a b : NV) : PredsKeep (make14 w w3 g m c a b) :=
  ⟨fun _ _ _ h _ => h,
  fun _ _ _ h _ => h,
  fun _ _ _ h _ => h,
  fun _ _ _ h _ => h,
  fun _ _ _ h _ => h,
  fun _ _ _ h _ => h,
  fun _ _ _ h _ => h,
  fun _ _ _ h _ => h,
  fun _ _ _ h _ => h,
  fun _ _ _ h _ => h,
  fun _ _ _ h hE => h.imp fun _ h => ⟨h.1, h.2.1, below_all hE h.2.2⟩,
  fun _ _ _ h hE => h.imp fun _ h => ⟨h.1, h.2.1, below_all hE h.2.2⟩,
  fun _ _ _ h hE => h.imp fun _ h => ⟨h.1, h.2.1, below_all hE h.2.2⟩, trivial⟩
def make24 (w w3 : World) (g m c : Nat) (a b : NV) : List (Value → World → Prop) := [
  fun v _ => v = Value.slice (some ⟨g, 0, none⟩) (m + 2) c,
  fun v _ => v = Value.int .i64 ((m + 2 : Nat) : Int),
  fun v _ => v = Value.int .i64 (m : Int),
  fun v _ => v = Value.pointer (some ⟨g, m * 8, none⟩),
  fun v _ => v = ndV a.1.op a.1.set a.1.mn a.1.mx a.2,
  fun v _ => v = Value.slice (some ⟨g, 0, none⟩) (m + 2) c,
  fun v _ => v = Value.int .i64 ((m + 2 : Nat) : Int),
  fun v _ => v = Value.int .i64 ((m + 1 : Nat) : Int),
  fun v _ => v = Value.pointer (some ⟨g, (m + 1) * 8, none⟩),
  fun v _ => v = ndV b.1.op b.1.set b.1.mn b.1.mx b.2,
  fun vv ww => ∃ gb, vv = Value.slice (some ⟨gb, 0, none⟩) 2 2 ∧ w3.heap.size ≤ gb ∧ ww.heap[gb]? = some (.cells (ndC a.1.op a.1.set a.1.mn a.1.mx a.2 ++ ndC b.1.op b.1.set b.1.mn b.1.mx b.2) 28 (0, 0)),
  fun vv ww => ∃ gb, vv = ndV 4 0#256 0 0 (Value.slice (some ⟨gb, 0, none⟩) 2 2) ∧ w3.heap.size ≤ gb ∧ ww.heap[gb]? = some (.cells (ndC a.1.op a.1.set a.1.mn a.1.mx a.2 ++ ndC b.1.op b.1.set b.1.mn b.1.mx b.2) 28 (0, 0)),
  fun vv ww => ∃ gx, vv = Value.pointer (some ⟨gx, 0, none⟩) ∧ w3.heap.size ≤ gx ∧ ww.heap[gx]? = some (.cells (ndC 0 0#256 0 0 (.slice none 0 0)) 28 (0, 0))]
theorem make24_keep (w w3 : World) (g m c : Nat) (a b : NV) : PredsKeep (make24 w w3 g m c a b) :=
  ⟨fun _ _ _ h _ => h,
  fun _ _ _ h _ => h,
  fun _ _ _ h _ => h,
  fun _ _ _ h _ => h,
  fun _ _ _ h _ => h,
  fun _ _ _ h _ => h,
  fun _ _ _ h _ => h,
  fun _ _ _ h _ => h,
  fun _ _ _ h _ => h,
  fun _ _ _ h _ => h,
  fun _ _ _ h hE => h.imp fun _ h => ⟨h.1, h.2.1, below_all hE h.2.2⟩,
  fun _ _ _ h hE => h.imp fun _ h => ⟨h.1, h.2.1, below_all hE h.2.2⟩,
  fun _ _ _ h hE => h.imp fun _ h => ⟨h.1, h.2.1, below_all hE h.2.2⟩, trivial⟩
set_option maxHeartbeats 12800000 in
set_option maxRecDepth 100000 in
theorem make_calls (s : ByteArray) (hs : s.size ≤ 1000) (w : World) :
    Calls Try.prog 9 #[.string s] w fun e w' => (∃ (t : Nd) (r : Value), t.size ≤ s.size + 1 ∧ e = .returned (ndV t.op t.set t.mn t.mx r) ∧ Kids w' (fun b => w.heap.size ≤ b) r t.kids) ∧ Below w.heap.size w w' := by
  have HB1 : Hid (Below w.heap.size w (w.alloc (.cells (ndC 0 0#256 0 0 (.slice none 0 0)) 28))) := Lib.hid ((Below.refl _ _).alloc (Nat.le_refl _) _)
  have HG1 := Lib.hid (heap_alloc_new w (.cells (ndC 0 0#256 0 0 (.slice none 0 0)) 28))
  go_enter Try.func9, Try.ntmps9
  go_wp2
  go_loopw [3, 4] (fun v i wr => ∃ (k : Nat) (xs : List NV), k ≤ s.size ∧ i = .int .i64 k ∧ szs xs ≤ k ∧ NRow wr (w.heap.size + 1) v xs ∧ wr.heap[w.heap.size]? = some (.cells (ndC 0 0#256 0 0 (.slice none 0 0)) 28 (0, 0)) ∧ Below w.heap.size w wr) (fun _ i _ => s.size - (intOf i).toNat)
  case atStart => exact ⟨0, [], Nat.zero_le _, rfl, Nat.le_refl _, NRow.nil _ _, HG1.out, HB1.out⟩
  case round =>
    clear HG1 HB1
    obtain ⟨k, xs, hk, rfl, hsx, hrow, hg, hB⟩ := hrel
    have HR := Lib.hid hrow
    have HG := Lib.hid hg
    have HSX := Lib.hid hsx
    have hzr : w.heap.size + 1 ≤ wr.heap.size := by have := heap_lt hg; omega
    have hxl : xs.length ≤ 1000 := by have := szs_len xs; omega
    obtain ⟨A, c, hAc⟩ := hrow.form
    obtain rfl : _ = _ := hAc
    clear hrow hg hsx
    by_cases hlt : k < s.size
    · have hbb : s[k].toNat < 256 := by simpa using UInt8.toNat_lt s[k]
      go_upto_region 9 with (first | (go_at_call 35; refine (withI_calls _ (by omega) (by omega) _).mono ?_; rintro e w1 ⟨rfl, hb1⟩) | (go_at_call 15; refine (rset_calls _ _).mono ?_; rintro e w2 ⟨rfl, hb2⟩; have HB2 := Lib.hid (below_more hb1 hb1.size hb2); have hz2 := HB2.out.size; clear hb1 hb2) |
        (refine st_nd rfl (.tmp 7) (.tmp 32) rfl _ rfl 0 _ 0 0 (.slice none 0 0) rfl rfl _ rfl _ (heap_alloc_new _ _) ?_; intro w3 hg3 hgr3; have HL3 := Lib.hid hg3; have HGR3 := Lib.hid hgr3; clear hg3 hgr3))
      generalize s[k].toNat = cc at *
      have hBa := below_more hB (by omega) HB2.out
      have hbn : Below w2.heap.size w2 (w2.alloc (.cells (ndC 0 0#256 0 0 (.slice none 0 0)) 28)) := (Below.refl _ _).alloc (Nat.le_refl _) _
      have hz3 : w2.heap.size + 1 ≤ w3.heap.size := by simpa using HGR3.out.size
      have hB23 : Below w2.heap.size w2 w3 := hbn.grown HGR3.out (by simp) (fun k e => by simp only [Option.some.injEq] at e; omega)
      have HB3 := Lib.hid (below_more hBa (by omega) hB23)
      have HR3 := Lib.hid ((HR.out.keep HB2.out).keep hB23)
      have HG3 := Lib.hid (below_all hB23 (below_all HB2.out HG.out))
      obtain ⟨sL, HL3⟩ : ∃ sL, Hid (w3.heap[w2.heap.size]? = some (.cells (ndC 0 sL 0 0 (.slice none 0 0)) 28 (0, 0))) := ⟨_, HL3⟩
      clear HB2 hz2 HGR3 hBa hbn hB hzr HR
      have hz3' : w.heap.size + 1 ≤ w3.heap.size := by have := heap_lt HG3.out; omega
      by_cases hd : cc % 8 = 3 ∧ 1 < xs.length
      · as_aux_lemma =>
        obtain ⟨hd, hn⟩ := hd
        have hdi : (cc : Int) % 8 = 3 := by omega
        obtain ⟨ys, a, b, hys⟩ := last_two xs hn
        subst hys
        obtain ⟨m, hm⟩ : ∃ m, ys.length = m := ⟨_, rfl⟩
        have hxm : (ys ++ [a, b]).length = m + 2 := by simp [hm]
        rw [hxm] at HR3 hxl hn ⊢
        have hdn : decide ((1 : Int) < ((m + 2 : Nat) : Int)) = true := by simp; omega
        obtain ⟨g, rfl, hgw⟩ := HR3.out.head (by rw [hxm]; omega)
        have hg3 : g < w3.heap.size := (HR3.out.lt g rfl).2
        have hcap := HR3.out.cap_le
        have HA : Hid ((ys ++ [a, b])[m]? = some a) := Lib.hid (by rw [← hm]; simp)
        have HB : Hid ((ys ++ [a, b])[m + 1]? = some b) := Lib.hid (by rw [← hm]; simp)
        have HM := Lib.hid hm
        have HXM := Lib.hid hxm
        clear hm hxm hd hn
        go_upto_region 10 with (fail)
        clear hdi hdn
        refine region_tail 13 (by kernel_rfl) (fun w' => Below w3.heap.size w3 w') (fun w1 w2 => Below w1.heap.size w1 w2) (predsT (make10 w w3 g m c a b)) (by kernel_rfl) (by kernel_rfl) (by kernel_rfl) (by kernel_rfl) (preds_keep _ (make10_keep w w3 g m c a b)) (Below.refl _ _).drew ?_ ?_
        · refine ⟨?_, ?_, ?_, ?_, ?_, ?_, ?_, ?_, ?_, ?_, ?_, ?_, ?_, trivial⟩
          · refine ob_val (fun _ => Below.refl _ _) fun a' w' hS hI hD => ⟨rfl, Value.slice (some ⟨g, 0, none⟩) (m + 2) c, ?_, rfl⟩
            have h0 : a'.tmps.getD 3 undef = Value.slice (some ⟨g, 0, none⟩) (m + 2) c := hS.at rfl
            exact run_val (.tmp 3) (by first | exact .inl rfl | exact .inr rfl) _ h0
          · refine ob_val (fun _ => Below.refl _ _) fun a' w' hS hI hD => ⟨rfl, Value.int .i64 ((m + 2 : Nat) : Int), ?_, rfl⟩
            have h0 : a'.tmps.getD 6 undef = Value.int .i64 ((m + 2 : Nat) : Int) := hS.at rfl
            exact run_val (.tmp 6) (by first | exact .inl rfl | exact .inr rfl) _ h0
          · refine ob_val (fun _ => Below.refl _ _) fun a' w' hS hI hD => ⟨rfl, Value.int .i64 (m : Int), ?_, rfl⟩
            have h0 : a'.tmps.getD 46 undef = Value.int .i64 ((m + 2 : Nat) : Int) := dep_at hD 1 (by kernel_rfl)
            exact run_sub_i _ _ (.tmp 46) (.const (.int .i64 2)) rfl _ _ _ h0 rfl (by omega) (by omega) (by omega)
          · refine ob_val (fun _ => Below.refl _ _) fun a' w' hS hI hD => ⟨rfl, Value.pointer (some ⟨g, m * 8, none⟩), ?_, rfl⟩
            have h0 : a'.tmps.getD 45 undef = Value.slice (some ⟨g, 0, none⟩) (m + 2) c := dep_at hD 0 (by kernel_rfl)
            have h1 : a'.tmps.getD 47 undef = Value.int .i64 (m : Int) := dep_at hD 2 (by kernel_rfl)
            exact run_index_nd (.tmp 45) (.tmp 47) rfl _ _ _ _ m _ h0 h1 (by omega) (by omega)
          · refine ob_val (fun _ => Below.refl _ _) fun a' w' hS hI hD => ⟨rfl, ndV a.1.op a.1.set a.1.mn a.1.mx a.2, ?_, rfl⟩
            have h0 : a'.tmps.getD 48 undef = Value.pointer (some ⟨g, m * 8, none⟩) := dep_at hD 3 (by kernel_rfl)
            simp only [execOp, Act.eval, h0]
            exact run_load_nd' w' g ((m) * 8) _ _ _ _ _ ((HR3.out.keep hI).at' (m) a HA.out)
          · refine ob_val (fun _ => Below.refl _ _) fun a' w' hS hI hD => ⟨rfl, Value.slice (some ⟨g, 0, none⟩) (m + 2) c, ?_, rfl⟩
            have h0 : a'.tmps.getD 3 undef = Value.slice (some ⟨g, 0, none⟩) (m + 2) c := hS.at rfl
            exact run_val (.tmp 3) (by first | exact .inl rfl | exact .inr rfl) _ h0
          · refine ob_val (fun _ => Below.refl _ _) fun a' w' hS hI hD => ⟨rfl, Value.int .i64 ((m + 2 : Nat) : Int), ?_, rfl⟩
            have h0 : a'.tmps.getD 6 undef = Value.int .i64 ((m + 2 : Nat) : Int) := hS.at rfl
            exact run_val (.tmp 6) (by first | exact .inl rfl | exact .inr rfl) _ h0
          · refine ob_val (fun _ => Below.refl _ _) fun a' w' hS hI hD => ⟨rfl, Value.int .i64 ((m + 1 : Nat) : Int), ?_, rfl⟩
            have h0 : a'.tmps.getD 51 undef = Value.int .i64 ((m + 2 : Nat) : Int) := dep_at hD 6 (by kernel_rfl)
            exact run_sub_i _ _ (.tmp 51) (.const (.int .i64 1)) rfl _ _ _ h0 rfl (by omega) (by omega) (by omega)
          · refine ob_val (fun _ => Below.refl _ _) fun a' w' hS hI hD => ⟨rfl, Value.pointer (some ⟨g, (m + 1) * 8, none⟩), ?_, rfl⟩
            have h0 : a'.tmps.getD 50 undef = Value.slice (some ⟨g, 0, none⟩) (m + 2) c := dep_at hD 5 (by kernel_rfl)
            have h1 : a'.tmps.getD 52 undef = Value.int .i64 ((m + 1 : Nat) : Int) := dep_at hD 7 (by kernel_rfl)
            exact run_index_nd (.tmp 50) (.tmp 52) rfl _ _ _ _ (m + 1) _ h0 h1 (by omega) (by omega)
          · refine ob_val (fun _ => Below.refl _ _) fun a' w' hS hI hD => ⟨rfl, ndV b.1.op b.1.set b.1.mn b.1.mx b.2, ?_, rfl⟩
            have h0 : a'.tmps.getD 53 undef = Value.pointer (some ⟨g, (m + 1) * 8, none⟩) := dep_at hD 8 (by kernel_rfl)
            simp only [execOp, Act.eval, h0]
            exact run_load_nd' w' g ((m + 1) * 8) _ _ _ _ _ ((HR3.out.keep hI).at' (m + 1) b HB.out)
          · refine ob_new fun a' w' hS hI hD => ⟨rfl, .slice (some ⟨w'.heap.size, 0, none⟩) 2 2, w'.alloc (.cells (ndC a.1.op a.1.set a.1.mn a.1.mx a.2 ++ ndC b.1.op b.1.set b.1.mn b.1.mx b.2) 28), ?_, ⟨_, rfl, hI.size, heap_alloc_new _ _⟩, (Below.refl _ _).alloc (Nat.le_refl _) _, hI.alloc hI.size _⟩
            have h0 : a'.tmps.getD 49 undef = ndV a.1.op a.1.set a.1.mn a.1.mx a.2 := dep_at hD 4 (by kernel_rfl)
            have h1 : a'.tmps.getD 54 undef = ndV b.1.op b.1.set b.1.mn b.1.mx b.2 := dep_at hD 9 (by kernel_rfl)
            simp only [execOp, Act.eval, List.map_toArray, List.map_cons, List.map_nil, h0, h1, Sem.run_bind, Sem.run_pure, Result.andThen_ok, run_build_nd2]
          · refine ob_call fun a' w' hS hI hD => ⟨rfl, 17, #[Value.int .i64 1, a'.tmps.getD 55 undef], ?_, ?_⟩
            · rw [run_call 17 _ _ rfl (enters_of Try.func17 (by kernel_rfl) rfl)]
              simp only [List.map_toArray, List.map_cons, List.map_nil, Act.eval]
            · have h1 : ∃ gb, (a'.tmps.getD 55 undef) = Value.slice (some ⟨gb, 0, none⟩) 2 2 ∧ w3.heap.size ≤ gb ∧ w'.heap[gb]? = some (.cells (ndC a.1.op a.1.set a.1.mn a.1.mx a.2 ++ ndC b.1.op b.1.set b.1.mn b.1.mx b.2) 28 (0, 0)) := dep_at hD 10 (by kernel_rfl)
              obtain ⟨gb, hb0, hb1, hb2⟩ := h1
              rw [hb0]
              exact (many_calls 1 (some ⟨gb, 0, none⟩) 2 2 w').mono fun e w'' ⟨he, hb⟩ => ⟨_, he, ⟨gb, rfl, hb1, below_all hb hb2⟩, hb, below_more hI hI.size hb⟩
          · refine ob_new fun a' w' hS hI hD => ⟨rfl, .pointer (some ⟨w'.heap.size, 0, none⟩), w'.alloc (.cells (ndC 0 0#256 0 0 (.slice none 0 0)) 28), run_alloc_nd rfl, ⟨_, rfl, hI.size, heap_alloc_new _ _⟩, (Below.refl _ _).alloc (Nat.le_refl _) _, hI.alloc hI.size _⟩
        · intro v w4 hI hT
          have h11 : ∃ gb, v 11 = ndV 1 0#256 0 0 (Value.slice (some ⟨gb, 0, none⟩) 2 2) ∧ w3.heap.size ≤ gb ∧ w4.heap[gb]? = some (.cells (ndC a.1.op a.1.set a.1.mn a.1.mx a.2 ++ ndC b.1.op b.1.set b.1.mn b.1.mx b.2) 28 (0, 0)) := tall_at _ _ hT 11 (by decide) (by decide)
          have h12 : ∃ gx, v 12 = Value.pointer (some ⟨gx, 0, none⟩) ∧ w3.heap.size ≤ gx ∧ w4.heap[gx]? = some (.cells (ndC 0 0#256 0 0 (.slice none 0 0)) 28 (0, 0)) := tall_at _ _ hT 12 (by decide) (by decide)
          obtain ⟨gb, h11, hgb, hcb⟩ := h11
          obtain ⟨gx, h12, hgx, hcx⟩ := h12
          have hne : gb ≠ gx := fun e => by
            subst e
            rw [hcb] at hcx
            injection hcx with hcx
            injection hcx with h1 h2 h3
            have := congrArg Array.size h1
            simp [ndC] at this
          have HI4 := Lib.hid hI
          have HCX := Lib.hid hcx
          have HCB := Lib.hid hcb
          have hz4 := hI.size
          clear hT hI hcx hcb
          simp only [List.take_succ_cons, List.take_zero, List.drop_succ_cons, List.drop_zero, putAll, Act.put, List.setIfInBounds_toArray, List.set_cons_succ, List.set_cons_zero, Nat.reduceAdd, h11, h12]
          clear h11 h12
          refine st_nd rfl (.tmp 8) (.tmp 56) rfl _ rfl 1 0#256 0 0 (Value.slice (some ⟨gb, 0, none⟩) 2 2) rfl rfl _ rfl _ HCX.out ?_
          intro w5 hg5 hgr5
          have hgxlt := heap_lt HCX.out
          have HG5 := Lib.hid hg5
          have hz5 : w3.heap.size ≤ w5.heap.size := by have := hgr5.size; omega
          have HB35 := Lib.hid (HI4.out.grown hgr5 hz4 (fun k e => by simp only [Option.some.injEq] at e; omega))
          have HR5 := Lib.hid (HR3.out.keep HB35.out)
          have HCB5 := Lib.hid (heap_kept hgr5 HCB.out (fun e => by simp only [Option.some.injEq] at e; exact hne e))
          have HGW5 := Lib.hid (below_all HB35.out HG3.out)
          have HBW5 := Lib.hid (below_more HB3.out (by omega) HB35.out)
          have HKR5 : Hid (Kids w5 (fun b => w.heap.size + 1 ≤ b ∧ some b ≠ some g) (.slice (some ⟨gb, 0, none⟩) 2 2) [a.1, b.1]) := Lib.hid (kids_two HCB5.out (HR5.out.2 a (List.mem_of_getElem? HA.out)) (HR5.out.2 b (List.mem_of_getElem? HB.out)) ⟨by omega, fun e => by simp only [Option.some.injEq] at e; omega⟩)
          have HPOP : Hid (NRow w5 (w.heap.size + 1) (.slice (some ⟨g, 0, none⟩) (m + 1) c) (ys ++ [a])) := Lib.hid (by have h := HR5.out.pop (m + 1) (by omega); rw [show (ys ++ [a, b]).take (m + 1) = ys ++ [a] by rw [← HM.out, List.take_length_add_append]; rfl] at h; exact h)
          have HYL : Hid ((ys ++ [a]).length = m + 1) := Lib.hid (by simp [HM.out])
          have HYS : Hid ((ys ++ [a]).set m ((Nd.mk 1 0#256 0 0 [a.1, b.1], Value.slice (some ⟨gb, 0, none⟩) 2 2) : NV) = ys ++ [(Nd.mk 1 0#256 0 0 [a.1, b.1], Value.slice (some ⟨gb, 0, none⟩) 2 2)]) := Lib.hid (by rw [← HM.out, List.set_append_right _ _ (Nat.le_refl _)]; simp)
          clear hg5 hgr5 HI4 HCX HCB HR3 HG3 HB3 HR5
          go_wp2_with (first | (refine sl_head rfl (.tmp 57) (.tmp 59) rfl g _ c rfl _ rfl (m + 1) (by omega) (by omega) (by omega) ?_) | (refine ld_nd_mid rfl (.tmp 8) rfl _ _ rfl _ _ _ _ _ (range_row HG5.out) ?_) |
            (refine st_row rfl (.tmp 65) (.tmp 64) rfl (w.heap.size + 1) g (m + 1) c (ys ++ [a]) HPOP.out m (by rw [HYL.out]; omega) rfl (Nd.mk 1 0#256 0 0 [a.1, b.1], Value.slice (some ⟨gb, 0, none⟩) 2 2) rfl HKR5.out ?_; intro w6 hrow6 hgr6; rw [HYS.out] at hrow6; have HR6 := Lib.hid hrow6; have HGR6 := Lib.hid hgr6; clear hrow6 hgr6))
          refine ⟨⟨k + 1, _, by omega, by go_num, ?_, HR6.out, heap_kept HGR6.out HGW5.out (fun e => by simp only [Option.some.injEq] at e; omega), HBW5.out.grown HGR6.out (by omega) (fun k e => by simp only [Option.some.injEq] at e; omega)⟩, by simp [intOf]; omega⟩
          have h1 := HSX.out
          rw [szs_app] at h1 ⊢
          simp only [szs, List.map_cons, List.map_nil, List.sum_cons, List.sum_nil, size_mk] at h1 ⊢
          omega
      by_cases hd : cc % 8 = 4 ∧ 1 < xs.length
      · as_aux_lemma =>
        obtain ⟨hd, hn⟩ := hd
        have hdi : (cc : Int) % 8 = 4 := by omega
        obtain ⟨ys, a, b, hys⟩ := last_two xs hn
        subst hys
        obtain ⟨m, hm⟩ : ∃ m, ys.length = m := ⟨_, rfl⟩
        have hxm : (ys ++ [a, b]).length = m + 2 := by simp [hm]
        rw [hxm] at HR3 hxl hn ⊢
        have hdn : decide ((1 : Int) < ((m + 2 : Nat) : Int)) = true := by simp; omega
        obtain ⟨g, rfl, hgw⟩ := HR3.out.head (by rw [hxm]; omega)
        have hg3 : g < w3.heap.size := (HR3.out.lt g rfl).2
        have hcap := HR3.out.cap_le
        have HA : Hid ((ys ++ [a, b])[m]? = some a) := Lib.hid (by rw [← hm]; simp)
        have HB : Hid ((ys ++ [a, b])[m + 1]? = some b) := Lib.hid (by rw [← hm]; simp)
        have HM := Lib.hid hm
        have HXM := Lib.hid hxm
        clear hm hxm hd hn
        go_upto_region 14 with (fail)
        clear hdi hdn
        refine region_tail 13 (by kernel_rfl) (fun w' => Below w3.heap.size w3 w') (fun w1 w2 => Below w1.heap.size w1 w2) (predsT (make14 w w3 g m c a b)) (by kernel_rfl) (by kernel_rfl) (by kernel_rfl) (by kernel_rfl) (preds_keep _ (make14_keep w w3 g m c a b)) (Below.refl _ _).drew ?_ ?_
        · refine ⟨?_, ?_, ?_, ?_, ?_, ?_, ?_, ?_, ?_, ?_, ?_, ?_, ?_, trivial⟩
          · refine ob_val (fun _ => Below.refl _ _) fun a' w' hS hI hD => ⟨rfl, Value.slice (some ⟨g, 0, none⟩) (m + 2) c, ?_, rfl⟩
            have h0 : a'.tmps.getD 3 undef = Value.slice (some ⟨g, 0, none⟩) (m + 2) c := hS.at rfl
            exact run_val (.tmp 3) (by first | exact .inl rfl | exact .inr rfl) _ h0
          · refine ob_val (fun _ => Below.refl _ _) fun a' w' hS hI hD => ⟨rfl, Value.int .i64 ((m + 2 : Nat) : Int), ?_, rfl⟩
            have h0 : a'.tmps.getD 6 undef = Value.int .i64 ((m + 2 : Nat) : Int) := hS.at rfl
            exact run_val (.tmp 6) (by first | exact .inl rfl | exact .inr rfl) _ h0
          · refine ob_val (fun _ => Below.refl _ _) fun a' w' hS hI hD => ⟨rfl, Value.int .i64 (m : Int), ?_, rfl⟩
            have h0 : a'.tmps.getD 75 undef = Value.int .i64 ((m + 2 : Nat) : Int) := dep_at hD 1 (by kernel_rfl)
            exact run_sub_i _ _ (.tmp 75) (.const (.int .i64 2)) rfl _ _ _ h0 rfl (by omega) (by omega) (by omega)
          · refine ob_val (fun _ => Below.refl _ _) fun a' w' hS hI hD => ⟨rfl, Value.pointer (some ⟨g, m * 8, none⟩), ?_, rfl⟩
            have h0 : a'.tmps.getD 74 undef = Value.slice (some ⟨g, 0, none⟩) (m + 2) c := dep_at hD 0 (by kernel_rfl)
            have h1 : a'.tmps.getD 76 undef = Value.int .i64 (m : Int) := dep_at hD 2 (by kernel_rfl)
            exact run_index_nd (.tmp 74) (.tmp 76) rfl _ _ _ _ m _ h0 h1 (by omega) (by omega)
          · refine ob_val (fun _ => Below.refl _ _) fun a' w' hS hI hD => ⟨rfl, ndV a.1.op a.1.set a.1.mn a.1.mx a.2, ?_, rfl⟩
            have h0 : a'.tmps.getD 77 undef = Value.pointer (some ⟨g, m * 8, none⟩) := dep_at hD 3 (by kernel_rfl)
            simp only [execOp, Act.eval, h0]
            exact run_load_nd' w' g ((m) * 8) _ _ _ _ _ ((HR3.out.keep hI).at' (m) a HA.out)
          · refine ob_val (fun _ => Below.refl _ _) fun a' w' hS hI hD => ⟨rfl, Value.slice (some ⟨g, 0, none⟩) (m + 2) c, ?_, rfl⟩
            have h0 : a'.tmps.getD 3 undef = Value.slice (some ⟨g, 0, none⟩) (m + 2) c := hS.at rfl
            exact run_val (.tmp 3) (by first | exact .inl rfl | exact .inr rfl) _ h0
          · refine ob_val (fun _ => Below.refl _ _) fun a' w' hS hI hD => ⟨rfl, Value.int .i64 ((m + 2 : Nat) : Int), ?_, rfl⟩
            have h0 : a'.tmps.getD 6 undef = Value.int .i64 ((m + 2 : Nat) : Int) := hS.at rfl
            exact run_val (.tmp 6) (by first | exact .inl rfl | exact .inr rfl) _ h0
          · refine ob_val (fun _ => Below.refl _ _) fun a' w' hS hI hD => ⟨rfl, Value.int .i64 ((m + 1 : Nat) : Int), ?_, rfl⟩
            have h0 : a'.tmps.getD 80 undef = Value.int .i64 ((m + 2 : Nat) : Int) := dep_at hD 6 (by kernel_rfl)
            exact run_sub_i _ _ (.tmp 80) (.const (.int .i64 1)) rfl _ _ _ h0 rfl (by omega) (by omega) (by omega)
          · refine ob_val (fun _ => Below.refl _ _) fun a' w' hS hI hD => ⟨rfl, Value.pointer (some ⟨g, (m + 1) * 8, none⟩), ?_, rfl⟩
            have h0 : a'.tmps.getD 79 undef = Value.slice (some ⟨g, 0, none⟩) (m + 2) c := dep_at hD 5 (by kernel_rfl)
            have h1 : a'.tmps.getD 81 undef = Value.int .i64 ((m + 1 : Nat) : Int) := dep_at hD 7 (by kernel_rfl)
            exact run_index_nd (.tmp 79) (.tmp 81) rfl _ _ _ _ (m + 1) _ h0 h1 (by omega) (by omega)
          · refine ob_val (fun _ => Below.refl _ _) fun a' w' hS hI hD => ⟨rfl, ndV b.1.op b.1.set b.1.mn b.1.mx b.2, ?_, rfl⟩
            have h0 : a'.tmps.getD 82 undef = Value.pointer (some ⟨g, (m + 1) * 8, none⟩) := dep_at hD 8 (by kernel_rfl)
            simp only [execOp, Act.eval, h0]
            exact run_load_nd' w' g ((m + 1) * 8) _ _ _ _ _ ((HR3.out.keep hI).at' (m + 1) b HB.out)
          · refine ob_new fun a' w' hS hI hD => ⟨rfl, .slice (some ⟨w'.heap.size, 0, none⟩) 2 2, w'.alloc (.cells (ndC a.1.op a.1.set a.1.mn a.1.mx a.2 ++ ndC b.1.op b.1.set b.1.mn b.1.mx b.2) 28), ?_, ⟨_, rfl, hI.size, heap_alloc_new _ _⟩, (Below.refl _ _).alloc (Nat.le_refl _) _, hI.alloc hI.size _⟩
            have h0 : a'.tmps.getD 78 undef = ndV a.1.op a.1.set a.1.mn a.1.mx a.2 := dep_at hD 4 (by kernel_rfl)
            have h1 : a'.tmps.getD 83 undef = ndV b.1.op b.1.set b.1.mn b.1.mx b.2 := dep_at hD 9 (by kernel_rfl)
            simp only [execOp, Act.eval, List.map_toArray, List.map_cons, List.map_nil, h0, h1, Sem.run_bind, Sem.run_pure, Result.andThen_ok, run_build_nd2]
          · refine ob_call fun a' w' hS hI hD => ⟨rfl, 17, #[Value.int .i64 2, a'.tmps.getD 84 undef], ?_, ?_⟩
            · rw [run_call 17 _ _ rfl (enters_of Try.func17 (by kernel_rfl) rfl)]
              simp only [List.map_toArray, List.map_cons, List.map_nil, Act.eval]
            · have h1 : ∃ gb, (a'.tmps.getD 84 undef) = Value.slice (some ⟨gb, 0, none⟩) 2 2 ∧ w3.heap.size ≤ gb ∧ w'.heap[gb]? = some (.cells (ndC a.1.op a.1.set a.1.mn a.1.mx a.2 ++ ndC b.1.op b.1.set b.1.mn b.1.mx b.2) 28 (0, 0)) := dep_at hD 10 (by kernel_rfl)
              obtain ⟨gb, hb0, hb1, hb2⟩ := h1
              rw [hb0]
              exact (many_calls 2 (some ⟨gb, 0, none⟩) 2 2 w').mono fun e w'' ⟨he, hb⟩ => ⟨_, he, ⟨gb, rfl, hb1, below_all hb hb2⟩, hb, below_more hI hI.size hb⟩
          · refine ob_new fun a' w' hS hI hD => ⟨rfl, .pointer (some ⟨w'.heap.size, 0, none⟩), w'.alloc (.cells (ndC 0 0#256 0 0 (.slice none 0 0)) 28), run_alloc_nd rfl, ⟨_, rfl, hI.size, heap_alloc_new _ _⟩, (Below.refl _ _).alloc (Nat.le_refl _) _, hI.alloc hI.size _⟩
        · intro v w4 hI hT
          have h11 : ∃ gb, v 11 = ndV 2 0#256 0 0 (Value.slice (some ⟨gb, 0, none⟩) 2 2) ∧ w3.heap.size ≤ gb ∧ w4.heap[gb]? = some (.cells (ndC a.1.op a.1.set a.1.mn a.1.mx a.2 ++ ndC b.1.op b.1.set b.1.mn b.1.mx b.2) 28 (0, 0)) := tall_at _ _ hT 11 (by decide) (by decide)
          have h12 : ∃ gx, v 12 = Value.pointer (some ⟨gx, 0, none⟩) ∧ w3.heap.size ≤ gx ∧ w4.heap[gx]? = some (.cells (ndC 0 0#256 0 0 (.slice none 0 0)) 28 (0, 0)) := tall_at _ _ hT 12 (by decide) (by decide)
          obtain ⟨gb, h11, hgb, hcb⟩ := h11
          obtain ⟨gx, h12, hgx, hcx⟩ := h12
          have hne : gb ≠ gx := fun e => by
            subst e
            rw [hcb] at hcx
            injection hcx with hcx
            injection hcx with h1 h2 h3
            have := congrArg Array.size h1
            simp [ndC] at this
          have HI4 := Lib.hid hI
          have HCX := Lib.hid hcx
          have HCB := Lib.hid hcb
          have hz4 := hI.size
          clear hT hI hcx hcb
          simp only [List.take_succ_cons, List.take_zero, List.drop_succ_cons, List.drop_zero, putAll, Act.put, List.setIfInBounds_toArray, List.set_cons_succ, List.set_cons_zero, Nat.reduceAdd, h11, h12]
          clear h11 h12
          refine st_nd rfl (.tmp 9) (.tmp 85) rfl _ rfl 2 0#256 0 0 (Value.slice (some ⟨gb, 0, none⟩) 2 2) rfl rfl _ rfl _ HCX.out ?_
          intro w5 hg5 hgr5
          have hgxlt := heap_lt HCX.out
          have HG5 := Lib.hid hg5
          have hz5 : w3.heap.size ≤ w5.heap.size := by have := hgr5.size; omega
          have HB35 := Lib.hid (HI4.out.grown hgr5 hz4 (fun k e => by simp only [Option.some.injEq] at e; omega))
          have HR5 := Lib.hid (HR3.out.keep HB35.out)
          have HCB5 := Lib.hid (heap_kept hgr5 HCB.out (fun e => by simp only [Option.some.injEq] at e; exact hne e))
          have HGW5 := Lib.hid (below_all HB35.out HG3.out)
          have HBW5 := Lib.hid (below_more HB3.out (by omega) HB35.out)
          have HKR5 : Hid (Kids w5 (fun b => w.heap.size + 1 ≤ b ∧ some b ≠ some g) (.slice (some ⟨gb, 0, none⟩) 2 2) [a.1, b.1]) := Lib.hid (kids_two HCB5.out (HR5.out.2 a (List.mem_of_getElem? HA.out)) (HR5.out.2 b (List.mem_of_getElem? HB.out)) ⟨by omega, fun e => by simp only [Option.some.injEq] at e; omega⟩)
          have HPOP : Hid (NRow w5 (w.heap.size + 1) (.slice (some ⟨g, 0, none⟩) (m + 1) c) (ys ++ [a])) := Lib.hid (by have h := HR5.out.pop (m + 1) (by omega); rw [show (ys ++ [a, b]).take (m + 1) = ys ++ [a] by rw [← HM.out, List.take_length_add_append]; rfl] at h; exact h)
          have HYL : Hid ((ys ++ [a]).length = m + 1) := Lib.hid (by simp [HM.out])
          have HYS : Hid ((ys ++ [a]).set m ((Nd.mk 2 0#256 0 0 [a.1, b.1], Value.slice (some ⟨gb, 0, none⟩) 2 2) : NV) = ys ++ [(Nd.mk 2 0#256 0 0 [a.1, b.1], Value.slice (some ⟨gb, 0, none⟩) 2 2)]) := Lib.hid (by rw [← HM.out, List.set_append_right _ _ (Nat.le_refl _)]; simp)
          clear hg5 hgr5 HI4 HCX HCB HR3 HG3 HB3 HR5
          go_wp2_with (first | (refine sl_head rfl (.tmp 86) (.tmp 88) rfl g _ c rfl _ rfl (m + 1) (by omega) (by omega) (by omega) ?_) | (refine ld_nd_mid rfl (.tmp 9) rfl _ _ rfl _ _ _ _ _ (range_row HG5.out) ?_) |
            (refine st_row rfl (.tmp 94) (.tmp 93) rfl (w.heap.size + 1) g (m + 1) c (ys ++ [a]) HPOP.out m (by rw [HYL.out]; omega) rfl (Nd.mk 2 0#256 0 0 [a.1, b.1], Value.slice (some ⟨gb, 0, none⟩) 2 2) rfl HKR5.out ?_; intro w6 hrow6 hgr6; rw [HYS.out] at hrow6; have HR6 := Lib.hid hrow6; have HGR6 := Lib.hid hgr6; clear hrow6 hgr6))
          refine ⟨⟨k + 1, _, by omega, by go_num, ?_, HR6.out, heap_kept HGR6.out HGW5.out (fun e => by simp only [Option.some.injEq] at e; omega), HBW5.out.grown HGR6.out (by omega) (fun k e => by simp only [Option.some.injEq] at e; omega)⟩, by simp [intOf]; omega⟩
          have h1 := HSX.out
          rw [szs_app] at h1 ⊢
          simp only [szs, List.map_cons, List.map_nil, List.sum_cons, List.sum_nil, size_mk] at h1 ⊢
          omega
      by_cases hd : cc % 8 = 6 ∧ 1 < xs.length
      · as_aux_lemma =>
        obtain ⟨hd, hn⟩ := hd
        have hdi : (cc : Int) % 8 = 6 := by omega
        obtain ⟨ys, a, b, hys⟩ := last_two xs hn
        subst hys
        obtain ⟨m, hm⟩ : ∃ m, ys.length = m := ⟨_, rfl⟩
        have hxm : (ys ++ [a, b]).length = m + 2 := by simp [hm]
        rw [hxm] at HR3 hxl hn ⊢
        have hdn : decide ((1 : Int) < ((m + 2 : Nat) : Int)) = true := by simp; omega
        obtain ⟨g, rfl, hgw⟩ := HR3.out.head (by rw [hxm]; omega)
        have hg3 : g < w3.heap.size := (HR3.out.lt g rfl).2
        have hcap := HR3.out.cap_le
        have HA : Hid ((ys ++ [a, b])[m]? = some a) := Lib.hid (by rw [← hm]; simp)
        have HB : Hid ((ys ++ [a, b])[m + 1]? = some b) := Lib.hid (by rw [← hm]; simp)
        have HM := Lib.hid hm
        have HXM := Lib.hid hxm
        clear hm hxm hd hn
        go_upto_region 24 with (fail)
        clear hdi hdn
        refine region_tail 13 (by kernel_rfl) (fun w' => Below w3.heap.size w3 w') (fun w1 w2 => Below w1.heap.size w1 w2) (predsT (make24 w w3 g m c a b)) (by kernel_rfl) (by kernel_rfl) (by kernel_rfl) (by kernel_rfl) (preds_keep _ (make24_keep w w3 g m c a b)) (Below.refl _ _).drew ?_ ?_
        · refine ⟨?_, ?_, ?_, ?_, ?_, ?_, ?_, ?_, ?_, ?_, ?_, ?_, ?_, trivial⟩
          · refine ob_val (fun _ => Below.refl _ _) fun a' w' hS hI hD => ⟨rfl, Value.slice (some ⟨g, 0, none⟩) (m + 2) c, ?_, rfl⟩
            have h0 : a'.tmps.getD 3 undef = Value.slice (some ⟨g, 0, none⟩) (m + 2) c := hS.at rfl
            exact run_val (.tmp 3) (by first | exact .inl rfl | exact .inr rfl) _ h0
          · refine ob_val (fun _ => Below.refl _ _) fun a' w' hS hI hD => ⟨rfl, Value.int .i64 ((m + 2 : Nat) : Int), ?_, rfl⟩
            have h0 : a'.tmps.getD 6 undef = Value.int .i64 ((m + 2 : Nat) : Int) := hS.at rfl
            exact run_val (.tmp 6) (by first | exact .inl rfl | exact .inr rfl) _ h0
          · refine ob_val (fun _ => Below.refl _ _) fun a' w' hS hI hD => ⟨rfl, Value.int .i64 (m : Int), ?_, rfl⟩
            have h0 : a'.tmps.getD 134 undef = Value.int .i64 ((m + 2 : Nat) : Int) := dep_at hD 1 (by kernel_rfl)
            exact run_sub_i _ _ (.tmp 134) (.const (.int .i64 2)) rfl _ _ _ h0 rfl (by omega) (by omega) (by omega)
          · refine ob_val (fun _ => Below.refl _ _) fun a' w' hS hI hD => ⟨rfl, Value.pointer (some ⟨g, m * 8, none⟩), ?_, rfl⟩
            have h0 : a'.tmps.getD 133 undef = Value.slice (some ⟨g, 0, none⟩) (m + 2) c := dep_at hD 0 (by kernel_rfl)
            have h1 : a'.tmps.getD 135 undef = Value.int .i64 (m : Int) := dep_at hD 2 (by kernel_rfl)
            exact run_index_nd (.tmp 133) (.tmp 135) rfl _ _ _ _ m _ h0 h1 (by omega) (by omega)
          · refine ob_val (fun _ => Below.refl _ _) fun a' w' hS hI hD => ⟨rfl, ndV a.1.op a.1.set a.1.mn a.1.mx a.2, ?_, rfl⟩
            have h0 : a'.tmps.getD 136 undef = Value.pointer (some ⟨g, m * 8, none⟩) := dep_at hD 3 (by kernel_rfl)
            simp only [execOp, Act.eval, h0]
            exact run_load_nd' w' g ((m) * 8) _ _ _ _ _ ((HR3.out.keep hI).at' (m) a HA.out)
          · refine ob_val (fun _ => Below.refl _ _) fun a' w' hS hI hD => ⟨rfl, Value.slice (some ⟨g, 0, none⟩) (m + 2) c, ?_, rfl⟩
            have h0 : a'.tmps.getD 3 undef = Value.slice (some ⟨g, 0, none⟩) (m + 2) c := hS.at rfl
            exact run_val (.tmp 3) (by first | exact .inl rfl | exact .inr rfl) _ h0
          · refine ob_val (fun _ => Below.refl _ _) fun a' w' hS hI hD => ⟨rfl, Value.int .i64 ((m + 2 : Nat) : Int), ?_, rfl⟩
            have h0 : a'.tmps.getD 6 undef = Value.int .i64 ((m + 2 : Nat) : Int) := hS.at rfl
            exact run_val (.tmp 6) (by first | exact .inl rfl | exact .inr rfl) _ h0
          · refine ob_val (fun _ => Below.refl _ _) fun a' w' hS hI hD => ⟨rfl, Value.int .i64 ((m + 1 : Nat) : Int), ?_, rfl⟩
            have h0 : a'.tmps.getD 139 undef = Value.int .i64 ((m + 2 : Nat) : Int) := dep_at hD 6 (by kernel_rfl)
            exact run_sub_i _ _ (.tmp 139) (.const (.int .i64 1)) rfl _ _ _ h0 rfl (by omega) (by omega) (by omega)
          · refine ob_val (fun _ => Below.refl _ _) fun a' w' hS hI hD => ⟨rfl, Value.pointer (some ⟨g, (m + 1) * 8, none⟩), ?_, rfl⟩
            have h0 : a'.tmps.getD 138 undef = Value.slice (some ⟨g, 0, none⟩) (m + 2) c := dep_at hD 5 (by kernel_rfl)
            have h1 : a'.tmps.getD 140 undef = Value.int .i64 ((m + 1 : Nat) : Int) := dep_at hD 7 (by kernel_rfl)
            exact run_index_nd (.tmp 138) (.tmp 140) rfl _ _ _ _ (m + 1) _ h0 h1 (by omega) (by omega)
          · refine ob_val (fun _ => Below.refl _ _) fun a' w' hS hI hD => ⟨rfl, ndV b.1.op b.1.set b.1.mn b.1.mx b.2, ?_, rfl⟩
            have h0 : a'.tmps.getD 141 undef = Value.pointer (some ⟨g, (m + 1) * 8, none⟩) := dep_at hD 8 (by kernel_rfl)
            simp only [execOp, Act.eval, h0]
            exact run_load_nd' w' g ((m + 1) * 8) _ _ _ _ _ ((HR3.out.keep hI).at' (m + 1) b HB.out)
          · refine ob_new fun a' w' hS hI hD => ⟨rfl, .slice (some ⟨w'.heap.size, 0, none⟩) 2 2, w'.alloc (.cells (ndC a.1.op a.1.set a.1.mn a.1.mx a.2 ++ ndC b.1.op b.1.set b.1.mn b.1.mx b.2) 28), ?_, ⟨_, rfl, hI.size, heap_alloc_new _ _⟩, (Below.refl _ _).alloc (Nat.le_refl _) _, hI.alloc hI.size _⟩
            have h0 : a'.tmps.getD 137 undef = ndV a.1.op a.1.set a.1.mn a.1.mx a.2 := dep_at hD 4 (by kernel_rfl)
            have h1 : a'.tmps.getD 142 undef = ndV b.1.op b.1.set b.1.mn b.1.mx b.2 := dep_at hD 9 (by kernel_rfl)
            simp only [execOp, Act.eval, List.map_toArray, List.map_cons, List.map_nil, h0, h1, Sem.run_bind, Sem.run_pure, Result.andThen_ok, run_build_nd2]
          · refine ob_call fun a' w' hS hI hD => ⟨rfl, 17, #[Value.int .i64 4, a'.tmps.getD 143 undef], ?_, ?_⟩
            · rw [run_call 17 _ _ rfl (enters_of Try.func17 (by kernel_rfl) rfl)]
              simp only [List.map_toArray, List.map_cons, List.map_nil, Act.eval]
            · have h1 : ∃ gb, (a'.tmps.getD 143 undef) = Value.slice (some ⟨gb, 0, none⟩) 2 2 ∧ w3.heap.size ≤ gb ∧ w'.heap[gb]? = some (.cells (ndC a.1.op a.1.set a.1.mn a.1.mx a.2 ++ ndC b.1.op b.1.set b.1.mn b.1.mx b.2) 28 (0, 0)) := dep_at hD 10 (by kernel_rfl)
              obtain ⟨gb, hb0, hb1, hb2⟩ := h1
              rw [hb0]
              exact (many_calls 4 (some ⟨gb, 0, none⟩) 2 2 w').mono fun e w'' ⟨he, hb⟩ => ⟨_, he, ⟨gb, rfl, hb1, below_all hb hb2⟩, hb, below_more hI hI.size hb⟩
          · refine ob_new fun a' w' hS hI hD => ⟨rfl, .pointer (some ⟨w'.heap.size, 0, none⟩), w'.alloc (.cells (ndC 0 0#256 0 0 (.slice none 0 0)) 28), run_alloc_nd rfl, ⟨_, rfl, hI.size, heap_alloc_new _ _⟩, (Below.refl _ _).alloc (Nat.le_refl _) _, hI.alloc hI.size _⟩
        · intro v w4 hI hT
          have h11 : ∃ gb, v 11 = ndV 4 0#256 0 0 (Value.slice (some ⟨gb, 0, none⟩) 2 2) ∧ w3.heap.size ≤ gb ∧ w4.heap[gb]? = some (.cells (ndC a.1.op a.1.set a.1.mn a.1.mx a.2 ++ ndC b.1.op b.1.set b.1.mn b.1.mx b.2) 28 (0, 0)) := tall_at _ _ hT 11 (by decide) (by decide)
          have h12 : ∃ gx, v 12 = Value.pointer (some ⟨gx, 0, none⟩) ∧ w3.heap.size ≤ gx ∧ w4.heap[gx]? = some (.cells (ndC 0 0#256 0 0 (.slice none 0 0)) 28 (0, 0)) := tall_at _ _ hT 12 (by decide) (by decide)
          obtain ⟨gb, h11, hgb, hcb⟩ := h11
          obtain ⟨gx, h12, hgx, hcx⟩ := h12
          have hne : gb ≠ gx := fun e => by
            subst e
            rw [hcb] at hcx
            injection hcx with hcx
            injection hcx with h1 h2 h3
            have := congrArg Array.size h1
            simp [ndC] at this
          have HI4 := Lib.hid hI
          have HCX := Lib.hid hcx
          have HCB := Lib.hid hcb
          have hz4 := hI.size
          clear hT hI hcx hcb
          simp only [List.take_succ_cons, List.take_zero, List.drop_succ_cons, List.drop_zero, putAll, Act.put, List.setIfInBounds_toArray, List.set_cons_succ, List.set_cons_zero, Nat.reduceAdd, h11, h12]
          clear h11 h12
          refine st_nd rfl (.tmp 12) (.tmp 144) rfl _ rfl 4 0#256 0 0 (Value.slice (some ⟨gb, 0, none⟩) 2 2) rfl rfl _ rfl _ HCX.out ?_
          intro w5 hg5 hgr5
          have hgxlt := heap_lt HCX.out
          have HG5 := Lib.hid hg5
          have hz5 : w3.heap.size ≤ w5.heap.size := by have := hgr5.size; omega
          have HB35 := Lib.hid (HI4.out.grown hgr5 hz4 (fun k e => by simp only [Option.some.injEq] at e; omega))
          have HR5 := Lib.hid (HR3.out.keep HB35.out)
          have HCB5 := Lib.hid (heap_kept hgr5 HCB.out (fun e => by simp only [Option.some.injEq] at e; exact hne e))
          have HGW5 := Lib.hid (below_all HB35.out HG3.out)
          have HBW5 := Lib.hid (below_more HB3.out (by omega) HB35.out)
          have HKR5 : Hid (Kids w5 (fun b => w.heap.size + 1 ≤ b ∧ some b ≠ some g) (.slice (some ⟨gb, 0, none⟩) 2 2) [a.1, b.1]) := Lib.hid (kids_two HCB5.out (HR5.out.2 a (List.mem_of_getElem? HA.out)) (HR5.out.2 b (List.mem_of_getElem? HB.out)) ⟨by omega, fun e => by simp only [Option.some.injEq] at e; omega⟩)
          have HPOP : Hid (NRow w5 (w.heap.size + 1) (.slice (some ⟨g, 0, none⟩) (m + 1) c) (ys ++ [a])) := Lib.hid (by have h := HR5.out.pop (m + 1) (by omega); rw [show (ys ++ [a, b]).take (m + 1) = ys ++ [a] by rw [← HM.out, List.take_length_add_append]; rfl] at h; exact h)
          have HYL : Hid ((ys ++ [a]).length = m + 1) := Lib.hid (by simp [HM.out])
          have HYS : Hid ((ys ++ [a]).set m ((Nd.mk 4 0#256 0 0 [a.1, b.1], Value.slice (some ⟨gb, 0, none⟩) 2 2) : NV) = ys ++ [(Nd.mk 4 0#256 0 0 [a.1, b.1], Value.slice (some ⟨gb, 0, none⟩) 2 2)]) := Lib.hid (by rw [← HM.out, List.set_append_right _ _ (Nat.le_refl _)]; simp)
          clear hg5 hgr5 HI4 HCX HCB HR3 HG3 HB3 HR5
          go_wp2_with (first | (refine sl_head rfl (.tmp 145) (.tmp 147) rfl g _ c rfl _ rfl (m + 1) (by omega) (by omega) (by omega) ?_) | (refine ld_nd_mid rfl (.tmp 12) rfl _ _ rfl _ _ _ _ _ (range_row HG5.out) ?_) |
            (refine st_row rfl (.tmp 153) (.tmp 152) rfl (w.heap.size + 1) g (m + 1) c (ys ++ [a]) HPOP.out m (by rw [HYL.out]; omega) rfl (Nd.mk 4 0#256 0 0 [a.1, b.1], Value.slice (some ⟨gb, 0, none⟩) 2 2) rfl HKR5.out ?_; intro w6 hrow6 hgr6; rw [HYS.out] at hrow6; have HR6 := Lib.hid hrow6; have HGR6 := Lib.hid hgr6; clear hrow6 hgr6))
          refine ⟨⟨k + 1, _, by omega, by go_num, ?_, HR6.out, heap_kept HGR6.out HGW5.out (fun e => by simp only [Option.some.injEq] at e; omega), HBW5.out.grown HGR6.out (by omega) (fun k e => by simp only [Option.some.injEq] at e; omega)⟩, by simp [intOf]; omega⟩
          have h1 := HSX.out
          rw [szs_app] at h1 ⊢
          simp only [szs, List.map_cons, List.map_nil, List.sum_cons, List.sum_nil, size_mk] at h1 ⊢
          omega
      by_cases hd : cc % 8 = 5 ∧ 0 < xs.length
      · as_aux_lemma =>
        obtain ⟨hd, hn⟩ := hd
        have hdi : (cc : Int) % 8 = 5 := by omega
        obtain ⟨ys, a, hys⟩ := last_one xs hn
        subst hys
        obtain ⟨m, hm⟩ : ∃ m, ys.length = m := ⟨_, rfl⟩
        have hxm : (ys ++ [a]).length = m + 1 := by simp [hm]
        rw [hxm] at HR3 hxl hn ⊢
        have hdn : decide ((0 : Int) < ((m + 1 : Nat) : Int)) = true := decide_eq_true (by omega)
        obtain ⟨g, rfl, hgw⟩ := HR3.out.head (by rw [hxm]; omega)
        have hg3 : g < w3.heap.size := (HR3.out.lt g rfl).2
        have HA : Hid ((ys ++ [a])[m]? = some a) := Lib.hid (by rw [← hm]; simp)
        have HRA := Lib.hid (HR3.out.at' m a HA.out)
        have HKA := Lib.hid (HR3.out.2 a (List.mem_of_getElem? HA.out))
        have HYL : Hid ((ys ++ [a]).length = m + 1) := Lib.hid hxm
        have HYS : Hid (∀ z : NV, (ys ++ [a]).set m z = ys ++ [z]) := Lib.hid fun z => by rw [← hm, List.set_append_right _ _ (Nat.le_refl _)]; simp
        clear hm hxm hd hn
        by_cases h128 : (128 : Int) ≤ (cc : Int)
        all_goals as_aux_lemma =>
          go_wp2_with (first | (refine ld_nd_mid rfl (.tmp 119) rfl _ _ rfl _ _ _ _ _ HRA.out ?_) |
            (go_at_call 22; refine (rrep_calls a.1 _ _ (fun b => w.heap.size + 1 ≤ b ∧ some b ≠ some g) _ _ (nodeV_of a HKA.out) (fun b hb => ⟨by omega, fun e => by simp only [Option.some.injEq] at e; omega⟩)).mono ?_; rintro e w5 ⟨⟨r, rfl, hk5⟩, hb5⟩; have HK5 := Lib.hid hk5; have HR5 := Lib.hid (HR3.out.keep hb5); have HG5 := Lib.hid (below_all hb5 HG3.out); have hz5 := hb5.size; have HBW5 := Lib.hid (below_more HB3.out (by omega) hb5); clear hk5 hb5) |
            (refine st_row rfl (.tmp 124) (.tmp 123) rfl (w.heap.size + 1) g (m + 1) c (ys ++ [a]) HR5.out m (by rw [HYL.out]; omega) rfl (Nd.mk 3 0#256 _ _ [a.1], r) rfl HK5.out ?_; intro w6 hrow6 hgr6; rw [HYS.out] at hrow6; have HR6 := Lib.hid hrow6; have HGR6 := Lib.hid hgr6; clear hrow6 hgr6))
          refine ⟨⟨k + 1, _, by omega, by go_num, ?_, HR6.out, heap_kept HGR6.out HG5.out (fun e => by simp only [Option.some.injEq] at e; omega), HBW5.out.grown HGR6.out (by omega) (fun k e => by simp only [Option.some.injEq] at e; omega)⟩, by simp [intOf]; omega⟩
          have h1 := HSX.out
          rw [szs_app] at h1 ⊢
          simp only [szs, List.map_cons, List.map_nil, List.sum_cons, List.sum_nil, size_mk] at h1 ⊢
          omega
      by_cases hd : cc % 8 = 7 ∧ 0 < xs.length
      · as_aux_lemma =>
        obtain ⟨hd, hn⟩ := hd
        have hdi : (cc : Int) % 8 = 7 := by omega
        obtain ⟨ys, a, hys⟩ := last_one xs hn
        subst hys
        obtain ⟨m, hm⟩ : ∃ m, ys.length = m := ⟨_, rfl⟩
        have hxm : (ys ++ [a]).length = m + 1 := by simp [hm]
        rw [hxm] at HR3 hxl hn ⊢
        have hdn : decide ((0 : Int) < ((m + 1 : Nat) : Int)) = true := decide_eq_true (by omega)
        obtain ⟨g, rfl, hgw⟩ := HR3.out.head (by rw [hxm]; omega)
        have hg3 : g < w3.heap.size := (HR3.out.lt g rfl).2
        have HA : Hid ((ys ++ [a])[m]? = some a) := Lib.hid (by rw [← hm]; simp)
        have HRA := Lib.hid (HR3.out.at' m a HA.out)
        have HKA := Lib.hid (HR3.out.2 a (List.mem_of_getElem? HA.out))
        have HYL : Hid ((ys ++ [a]).length = m + 1) := Lib.hid hxm
        have HYS : Hid (∀ z : NV, (ys ++ [a]).set m z = ys ++ [z]) := Lib.hid fun z => by rw [← hm, List.set_append_right _ _ (Nat.le_refl _)]; simp
        clear hm hxm hd hn
        have HBN : Hid (Below w3.heap.size w3 (w3.alloc (.cells (ndC a.1.op a.1.set a.1.mn a.1.mx a.2) 28))) := Lib.hid ((Below.refl _ _).alloc (Nat.le_refl _) _)
        have HK4 := Lib.hid (kids_one' (c := 1) a (heap_alloc_new w3 (.cells (ndC a.1.op a.1.set a.1.mn a.1.mx a.2) 28)) (HKA.out.keep HBN.out) (⟨by omega, fun e => by simp only [Option.some.injEq] at e; omega⟩ : w.heap.size + 1 ≤ w3.heap.size ∧ some w3.heap.size ≠ some g))
        go_wp2_with (first | (refine ld_nd_mid rfl (.tmp 168) rfl _ _ rfl _ _ _ _ _ HRA.out ?_) | (refine build_nd1 rfl (.tmp 169) rfl a.1.op a.1.set a.1.mn a.1.mx a.2 rfl ?_) |
            (go_at_call 17; refine (many_calls 5 (some ⟨w3.heap.size, 0, none⟩) 1 1 _).mono ?_; rintro e w5 ⟨rfl, hb5⟩; have HK5 := Lib.hid (HK4.out.keep hb5); have HR5 := Lib.hid ((HR3.out.keep HBN.out).keep hb5); have HG5 := Lib.hid (below_all hb5 (below_all HBN.out HG3.out)); have hz5 : w3.heap.size + 1 ≤ w5.heap.size := (by simpa using hb5.size); have HBW5 := Lib.hid (below_more (below_more HB3.out (by omega) HBN.out) (by simp; omega) hb5); clear hb5) |
            (refine st_row rfl (.tmp 172) (.tmp 171) rfl (w.heap.size + 1) g (m + 1) c (ys ++ [a]) HR5.out m (by rw [HYL.out]; omega) rfl (Nd.mk 5 0#256 0 0 [a.1], .slice (some ⟨w3.heap.size, 0, none⟩) 1 1) rfl HK5.out ?_; intro w6 hrow6 hgr6; rw [HYS.out] at hrow6; have HR6 := Lib.hid hrow6; have HGR6 := Lib.hid hgr6; clear hrow6 hgr6))
        refine ⟨⟨k + 1, _, by omega, by go_num, ?_, HR6.out, heap_kept HGR6.out HG5.out (fun e => by simp only [Option.some.injEq] at e; omega), HBW5.out.grown HGR6.out (by omega) (fun k e => by simp only [Option.some.injEq] at e; omega)⟩, by simp [intOf]; omega⟩
        have h1 := HSX.out
        rw [szs_app] at h1 ⊢
        simp only [szs, List.map_cons, List.map_nil, List.sum_cons, List.sum_nil, size_mk] at h1 ⊢
        omega
      by_cases hd : cc % 8 = 2
      · as_aux_lemma =>
        have hdi : (cc : Int) % 8 = 2 := by omega
        clear hd
        go_wp2_with (first | (go_at_call 36; refine (rrangeI_calls _ (by omega) (by omega) _).mono ?_; rintro e w1 ⟨rfl, hb1⟩) | (go_at_call 15; refine (rset_calls _ _).mono ?_; rintro e w4 ⟨rfl, hb2⟩; have hb4 := below_more hb1 hb1.size hb2; have HR4 := Lib.hid (HR3.out.keep hb4); have HG4 := Lib.hid (below_all hb4 HG3.out); have hz4 := hb4.size; have HB4 := Lib.hid (below_more HB3.out (by omega) hb4); clear hb1 hb2 hb4) |
            (refine build_nd1 rfl (.tmp 184) rfl 0 _ 0 0 (.slice none 0 0) rfl ?_) | (refine append_row rfl (.tmp 177) (.tmp 185) rfl (w.heap.size + 1) _ xs rfl (HR4.out.keep ((Below.refl _ _).alloc (Nat.le_refl _) _)) (by simp; omega) (Nd.mk 0 _ 0 0 [], .slice none 0 0) (Kids.nil _ _) _ _ rfl (heap_alloc_new _ _) (by omega) ?_; intro v6 w6 hrow6 hgr6; have HR6 := Lib.hid hrow6; have HGR6 := Lib.hid hgr6; clear hrow6 hgr6))
        refine ⟨⟨k + 1, _, by omega, by go_num, ?_, HR6.out, heap_kept HGR6.out (below_all ((Below.refl _ _).alloc (Nat.le_refl _) _) HG4.out) (fun e => by have := HR4.out.low (Nat.le_refl _) _ e.symm; omega), (HB4.out.alloc (by omega) _).grown HGR6.out (by simp; omega) (HR4.out.low (by omega))⟩, by simp [intOf]; omega⟩
        have h1 := HSX.out
        rw [szs_app]
        simp only [szs, List.map_cons, List.map_nil, List.sum_cons, List.sum_nil, size_mk] at h1 ⊢
        omega
      have hcase : ((cc : Int) % 8 = 0 ∨ (cc : Int) % 8 = 1 ∨ ((cc : Int) % 8 = 3 ∧ decide ((1 : Int) < (xs.length : Int)) = false) ∨ ((cc : Int) % 8 = 4 ∧ decide ((1 : Int) < (xs.length : Int)) = false) ∨ ((cc : Int) % 8 = 5 ∧ decide ((0 : Int) < (xs.length : Int)) = false) ∨ ((cc : Int) % 8 = 6 ∧ decide ((1 : Int) < (xs.length : Int)) = false) ∨ ((cc : Int) % 8 = 7 ∧ decide ((0 : Int) < (xs.length : Int)) = false)) := by
        simp only [decide_eq_false_iff_not]
        omega
      have HR4 := HR3
      have HG4 := HG3
      have HB4 := HB3
      have hz4 : w3.heap.size ≤ w3.heap.size := Nat.le_refl _
      clear HR3 HG3 HB3
      rcases hcase with hdi | hdi | ⟨hdi, hdn⟩ | ⟨hdi, hdn⟩ | ⟨hdi, hdn⟩ | ⟨hdi, hdn⟩ | ⟨hdi, hdn⟩
      all_goals as_aux_lemma =>
        go_wp2_with (first | (refine ld_nd_mid rfl (.tmp 7) rfl _ _ rfl _ _ _ _ _ (range_row HL3.out) ?_) | (refine build_nd1 rfl (.tmp 34) rfl 0 _ 0 0 (.slice none 0 0) rfl ?_) | (refine append_row rfl (.tmp 33) (.tmp 35) rfl (w.heap.size + 1) _ xs rfl (HR4.out.keep ((Below.refl _ _).alloc (Nat.le_refl _) _)) (by simp; omega) (Nd.mk 0 _ 0 0 [], .slice none 0 0) (Kids.nil _ _) _ _ rfl (heap_alloc_new _ _) (by omega) ?_; intro v6 w6 hrow6 hgr6; have HR6 := Lib.hid hrow6; have HGR6 := Lib.hid hgr6; clear hrow6 hgr6))
        refine ⟨⟨k + 1, _, by omega, by go_num, ?_, HR6.out, heap_kept HGR6.out (below_all ((Below.refl _ _).alloc (Nat.le_refl _) _) HG4.out) (fun e => by have := HR4.out.low (Nat.le_refl _) _ e.symm; omega), (HB4.out.alloc (by omega) _).grown HGR6.out (by simp; omega) (HR4.out.low (by omega))⟩, by simp [intOf]; omega⟩
        have h1 := HSX.out
        rw [szs_app]
        simp only [szs, List.map_cons, List.map_nil, List.sum_cons, List.sum_nil, size_mk] at h1 ⊢
        omega
    · obtain rfl : k = s.size := by omega
      by_cases h1 : xs.length = 1
      · as_aux_lemma =>
        obtain ⟨a, rfl⟩ := List.length_eq_one_iff.1 h1
        simp only [List.length_cons, List.length_nil, Nat.zero_add] at HR hxl h1 ⊢
        obtain ⟨g, rfl, hgw⟩ := HR.out.head (by simp)
        have HRA : Hid (wr.rangeAt g 0 (ndC a.1.op a.1.set a.1.mn a.1.mx a.2).toList) := Lib.hid (by have h := HR.out.at' 0 a rfl; rw [Nat.zero_mul] at h; exact h)
        have HKA := Lib.hid (HR.out.2 a (by simp))
        clear h1
        go_wp2_with (first | (refine ld_nd_mid rfl (.tmp 191) rfl _ _ rfl _ _ _ _ _ HRA.out ?_) | (refine st_nd rfl (.tmp 2) (.tmp 192) rfl _ rfl a.1.op a.1.set a.1.mn a.1.mx a.2 rfl HKA.out.oneCell _ rfl _ HG.out ?_; intro w5 hg5 hgr5))
        exact ret_nd 2 rfl _ _ _ _ _ _ _ rfl hg5 rfl ⟨⟨a.1, a.2, by have := HSX.out; simp [szs] at this; omega, rfl, HKA.out.move fun b hb hlt => ⟨by omega, hgr5.block b hlt (fun e => by simp only [Option.some.injEq] at e; omega)⟩⟩, hB.grown hgr5 (by omega) (fun k e => by simp only [Option.some.injEq] at e; omega)⟩
      · as_aux_lemma =>
        have hb1 : ((xs.length : Int) == 1) = false := by simp; omega
        have HKS := Lib.hid (HR.out.kids (by omega))
        have HSM : Hid ((Nd.mk 1 0#256 0 0 (xs.map (·.1))).size ≤ s.size + 1) := Lib.hid (by have := HSX.out; rw [size_mk, List.map_map]; have h2 : (xs.map (Nd.size ∘ fun x => x.1)).sum = szs xs := rfl; omega)
        clear h1
        go_wp2_with (first | (go_at_call 17; refine (many_calls 1 A _ c _).mono ?_; rintro e w2 ⟨rfl, hb2⟩; have HB2 := Lib.hid hb2; have HG2 := Lib.hid (below_all hb2 HG.out); have hz2 := hb2.size; clear hb2) |
          (refine st_nd rfl (.tmp 2) (.tmp 194) rfl _ rfl 1 0#256 0 0 _ rfl rfl _ rfl _ HG2.out ?_; intro w5 hg5 hgr5))
        exact ret_nd 2 rfl _ _ 1 0#256 0 0 _ rfl hg5 rfl ⟨⟨.mk 1 0#256 0 0 (xs.map (·.1)), _, HSM.out, rfl, by
          have h := (HKS.out.keep HB2.out).move (Q' := fun b => w.heap.size ≤ b) (w' := w5) fun b hb hlt => ⟨by omega, hgr5.block b hlt (fun e => by simp only [Option.some.injEq] at e; omega)⟩
          exact h⟩, (below_more hB (by omega) HB2.out).grown hgr5 (by omega) (fun k e => by simp only [Option.some.injEq] at e; omega)⟩
end Go.Proofs.Ytekodfpjoehooaa.Bs
