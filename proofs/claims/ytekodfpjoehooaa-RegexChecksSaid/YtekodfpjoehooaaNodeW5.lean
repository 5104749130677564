/- The walks of Same, and of slices.EqualFunc over nodes. -/
import Derived.Test.YtekodfpjoehooaaNodeR
import Derived.Deep.Cut
namespace Go.Proofs.Ytekodfpjoehooaa.Bs
open Go.RowKit Mem Reg
theorem same_enters : ∀ args w, (callFunc 10 args).run Try.prog w = .ok (.enter 10 args) w := enters_of Try.func10 (by kernel_rfl) rfl
set_option maxHeartbeats 6400000 in
set_option maxRecDepth 100000 in
theorem equalFunc_calls (Q : Nat → Prop) (v1 v2 : Value) (ks ks' : List Nd) (w : World) (hk : Kids w Q v1 ks) (hk' : Kids w Q v2 ks')
    (hF : ∀ (i : Nat) (k : Nd), ks[i]? = some k → ∀ u v1 v2 w, NodeV w Q v1 k → NodeV w Q v2 u → Calls Try.prog 10 #[v1, v2] w fun e w' => e = .returned (.bool (eqB k u)) ∧ Below w.heap.size w w') :
    Calls Try.prog 37 #[v1, v2, .func (.func 10) #[] #[]] w fun e w' => e = .returned (.bool (eqB ks ks')) ∧ Below w.heap.size w w' := by
  obtain ⟨A, cap, rfl, hlen⟩ := hk.form
  obtain ⟨A', cap', rfl, hlen'⟩ := hk'.form
  have HK := Lib.hid hk
  have HK' := Lib.hid hk'
  have HF := Lib.hid hF
  have HE := Lib.hid same_enters
  clear hk hk' hF
  by_cases hl : ks.length = ks'.length
  · have hlb : ((ks.length : Int) != (ks'.length : Int)) = false := by simp [hl]
    have HL := Lib.hid hl
    clear hl
    go_enter Try.func37, Try.ntmps37
    go_wp2
    go_loopw [17] (fun i wr => ∃ k : Nat, k ≤ ks.length ∧ i = .int .i64 k ∧ ks.take k = ks'.take k ∧ Below w.heap.size w wr) (fun i _ => ks.length - (intOf i).toNat)
    case atStart => exact ⟨0, Nat.zero_le _, rfl, by simp, Below.refl _ _⟩
    case round =>
      obtain ⟨k, hk, rfl, htk, hB⟩ := hrel
      have hsz := hB.size
      have HTK := Lib.hid htk
      clear htk
      by_cases hlt : k < ks.length
      · have hlt' : k < ks'.length := by have := HL.out; omega
        have hget := List.getElem?_eq_getElem hlt
        have hget' := List.getElem?_eq_getElem hlt'
        have HT := Lib.hid (HF.out k _ hget)
        have HEQ := Lib.hid (take_eq_succ hlt hlt' HTK.out)
        have HNE := Lib.hid (ne_at hlt hlt')
        generalize ks[k] = x at *
        generalize ks'[k] = y at *
        obtain ⟨op1, s1, mn1, mx1, kk1⟩ := x
        obtain ⟨op2, s2, mn2, mx2, kk2⟩ := y
        obtain ⟨_, _, b, o, kv1, hA, hr, hkk⟩ := (HK.out.keep hB).at hget
        cases hA
        obtain ⟨_, _, b', o', kv2, hA', hr', hkk'⟩ := (HK'.out.keep hB).at hget'
        cases hA'
        have HR := Lib.hid hr
        have HR' := Lib.hid hr'
        have H1 := Lib.hid hkk.oneCell
        have H2 := Lib.hid hkk'.oneCell
        have HV1 : Hid (∀ w1, Below wr.heap.size wr w1 → NodeV w1 Q (ndV op1 s1 mn1 mx1 kv1) (.mk op1 s1 mn1 mx1 kk1)) := Lib.hid fun w1 hb => ⟨kv1, rfl, hkk.keep hb⟩
        have HV2 : Hid (∀ w1, Below wr.heap.size wr w1 → NodeV w1 Q (ndV op2 s2 mn2 mx2 kv2) (.mk op2 s2 mn2 mx2 kk2)) := Lib.hid fun w1 hb => ⟨kv2, rfl, hkk'.keep hb⟩
        have HRK : Hid (∀ w1, Below wr.heap.size wr w1 → w1.rangeAt b' (o' + k * 8) (ndC op2 s2 mn2 mx2 kv2).toList) := Lib.hid fun w1 hb => range_cell hr' (hb.block b' (range_lt hr' (ndC_ne _ _ _ _ _)))
        clear hr hr' hkk hkk' hget hget'
        generalize Nd.mk op1 s1 mn1 mx1 kk1 = x at *
        generalize Nd.mk op2 s2 mn2 mx2 kk2 = y at *
        rcases hp : eqB x y with _ | _
        all_goals
          have HP := Lib.hid hp
          clear hp
          go_wp2_with (first | (refine ld_nd_mid rfl (.tmp 20) rfl _ _ rfl _ _ _ _ _ HR.out ?_) |
            (refine st_nd rfl (.tmp 8) (.tmp 21) rfl _ rfl op1 s1 mn1 mx1 kv1 rfl H1.out _ rfl _ (heap_alloc_new _ _) ?_; intro w1 hg1 hgr1; have HG1 := Lib.hid hg1; have HB1 : Hid (Below wr.heap.size wr w1) := Lib.hid (((Below.refl _ _).alloc (Nat.le_refl _) _).grown hgr1 (by simp) (fun k e => by cases e; omega)); have hz1 : wr.heap.size + 1 ≤ w1.heap.size := (by simpa using hgr1.size); clear hg1 hgr1) |
            (refine ld_nd_mid rfl (.tmp 24) rfl _ _ rfl _ _ _ _ _ (HRK.out _ HB1.out) ?_) |
            (refine st_nd rfl (.tmp 9) (.tmp 25) rfl _ rfl op2 s2 mn2 mx2 kv2 rfl H2.out _ rfl _ (heap_alloc_new _ _) ?_; intro w2 hg2 hgr2; have HG2 := Lib.hid hg2; have HG3 : Hid (w2.heap[wr.heap.size]? = some (.cells (ndC op1 s1 mn1 mx1 kv1) 28 (0, 0))) := Lib.hid ((hgr2.block _ (by simp; omega) (fun e => by simp only [Option.some.injEq] at e; omega)).trans ((((Below.refl w1.heap.size w1).alloc (Nat.le_refl _) _).block _ (by omega)).trans HG1.out)); have HB2 : Hid (Below wr.heap.size wr w2) := Lib.hid ((HB1.out.alloc HB1.out.size _).grown hgr2 (by simp; omega) (fun k e => by cases e; omega)); have hz2 : w1.heap.size + 1 ≤ w2.heap.size := (by simpa using hgr2.size); clear hg2 hgr2) |
            (refine ld_nd_mid rfl (.tmp 8) rfl _ _ rfl _ _ _ _ _ (range_row HG3.out) ?_) | (refine ld_nd_mid rfl (.tmp 9) rfl _ _ rfl _ _ _ _ _ (range_row HG2.out) ?_) |
            (refine call_fn2 rfl (.tmp 26) (.tmp 27) (.tmp 28) _ rfl 10 #[] rfl HE.out (ndV op1 s1 mn1 mx1 kv1) (ndV op2 s2 mn2 mx2 kv2) rfl rfl _ (HT.out _ _ _ _ (HV1.out _ HB2.out) (HV2.out _ HB2.out)) ?_; rintro e w3 ⟨rfl, hb3⟩; rw [HP.out]; refine ⟨_, rfl, ?_⟩))
          first
            | (exact ⟨⟨k + 1, by omega, by go_num, HEQ.out (eqB_iff.1 HP.out), below_more hB hsz (below_more HB2.out HB2.out.size hb3)⟩, by simp [intOf]; omega⟩)
            | (go_ret; exact ⟨by rw [eqB_false (HNE.out fun e => by rw [eqB_true e] at HP; cases HP.out)]; rfl, below_more hB hsz (below_more HB2.out HB2.out.size hb3)⟩)
      · obtain rfl : k = ks.length := by omega
        go_wp2_with (fail)
        go_ret
        have h1 := HTK.out
        rw [List.take_of_length_le (Nat.le_refl _), List.take_of_length_le (Nat.le_of_eq HL.out.symm)] at h1
        exact ⟨by rw [eqB_true h1]; rfl, hB⟩
  · have hlb : ((ks.length : Int) != (ks'.length : Int)) = true := by simp; omega
    have HN := Lib.hid (eqB_false (fun e : ks = ks' => hl (by rw [e])))
    clear hl
    go_enter Try.func37, Try.ntmps37
    go_wp2
    go_ret
    exact ⟨by rw [HN.out]; rfl, Below.refl _ _⟩
def sameR (w : World) (op op' : Int) (s s' : BitVec 256) (mn mn' mx mx' : Int) (ks ks' : List Nd) (A A' : Option Addr) (cap cap' : Nat) : List (Value → World → Prop) := [
  fun v _ => v = Value.pointer (some ⟨w.heap.size, 0, none⟩),
  fun v _ => v = Value.int .i64 op,
  fun v _ => v = Value.pointer (some ⟨w.heap.size + 1, 0, none⟩),
  fun v _ => v = Value.int .i64 op',
  fun v _ => v = Value.bool ((op : Int) == op'),
  fun v _ => v = Value.bool ((op : Int) == op'),
  fun v _ => ((op : Int) == op') = true → v = Value.pointer (some ⟨w.heap.size, 1, none⟩),
  fun v _ => ((op : Int) == op') = true → v = setV s,
  fun v _ => ((op : Int) == op') = true → v = Value.pointer (some ⟨w.heap.size + 1, 1, none⟩),
  fun v _ => ((op : Int) == op') = true → v = setV s',
  fun v _ => ((op : Int) == op') = true → v = Value.bool (s == s'),
  fun v _ => v = Value.bool (((op : Int) == op') && (s == s')),
  fun v _ => v = Value.bool (((op : Int) == op') && (s == s')),
  fun v _ => (((op : Int) == op') && (s == s')) = true → v = Value.pointer (some ⟨w.heap.size, 5, none⟩),
  fun v _ => (((op : Int) == op') && (s == s')) = true → v = Value.int .i64 mn,
  fun v _ => (((op : Int) == op') && (s == s')) = true → v = Value.pointer (some ⟨w.heap.size + 1, 5, none⟩),
  fun v _ => (((op : Int) == op') && (s == s')) = true → v = Value.int .i64 mn',
  fun v _ => (((op : Int) == op') && (s == s')) = true → v = Value.bool ((mn : Int) == mn'),
  fun v _ => v = Value.bool ((((op : Int) == op') && (s == s')) && ((mn : Int) == mn')),
  fun v _ => v = Value.bool ((((op : Int) == op') && (s == s')) && ((mn : Int) == mn')),
  fun v _ => ((((op : Int) == op') && (s == s')) && ((mn : Int) == mn')) = true → v = Value.pointer (some ⟨w.heap.size, 6, none⟩),
  fun v _ => ((((op : Int) == op') && (s == s')) && ((mn : Int) == mn')) = true → v = Value.int .i64 mx,
  fun v _ => ((((op : Int) == op') && (s == s')) && ((mn : Int) == mn')) = true → v = Value.pointer (some ⟨w.heap.size + 1, 6, none⟩),
  fun v _ => ((((op : Int) == op') && (s == s')) && ((mn : Int) == mn')) = true → v = Value.int .i64 mx',
  fun v _ => ((((op : Int) == op') && (s == s')) && ((mn : Int) == mn')) = true → v = Value.bool ((mx : Int) == mx'),
  fun v _ => v = Value.bool (((((op : Int) == op') && (s == s')) && ((mn : Int) == mn')) && ((mx : Int) == mx')),
  fun v _ => v = Value.bool (((((op : Int) == op') && (s == s')) && ((mn : Int) == mn')) && ((mx : Int) == mx')),
  fun v _ => (((((op : Int) == op') && (s == s')) && ((mn : Int) == mn')) && ((mx : Int) == mx')) = true → v = Value.pointer (some ⟨w.heap.size, 7, none⟩),
  fun v _ => (((((op : Int) == op') && (s == s')) && ((mn : Int) == mn')) && ((mx : Int) == mx')) = true → v = Value.slice A ks.length cap,
  fun v _ => (((((op : Int) == op') && (s == s')) && ((mn : Int) == mn')) && ((mx : Int) == mx')) = true → v = Value.pointer (some ⟨w.heap.size + 1, 7, none⟩),
  fun v _ => (((((op : Int) == op') && (s == s')) && ((mn : Int) == mn')) && ((mx : Int) == mx')) = true → v = Value.slice A' ks'.length cap',
  fun v _ => (((((op : Int) == op') && (s == s')) && ((mn : Int) == mn')) && ((mx : Int) == mx')) = true → v = Value.bool (eqB ks ks'),
  fun v _ => v = Value.bool ((((((op : Int) == op') && (s == s')) && ((mn : Int) == mn')) && ((mx : Int) == mx')) && (eqB ks ks')),
  fun v _ => v = Value.bool ((((((op : Int) == op') && (s == s')) && ((mn : Int) == mn')) && ((mx : Int) == mx')) && (eqB ks ks'))]
theorem sameR_keep (w : World) (op op' : Int) (s s' : BitVec 256) (mn mn' mx mx' : Int) (ks ks' : List Nd) (A A' : Option Addr) (cap cap' : Nat) : PredsKeep (sameR w op op' s s' mn mn' mx mx' ks ks' A A' cap cap') :=
  ⟨fun _ _ _ h _ => h,
  fun _ _ _ h _ => h,
  fun _ _ _ h _ => h,
  fun _ _ _ h _ => h,
  fun _ _ _ h _ => h,
  fun _ _ _ h _ => h,
  fun _ _ _ h _ => h,
  fun _ _ _ h _ => h,
  fun _ _ _ h _ => h,
  fun _ _ _ h _ => h,
  fun _ _ _ h _ => h,
  fun _ _ _ h _ => h,
  fun _ _ _ h _ => h,
  fun _ _ _ h _ => h,
  fun _ _ _ h _ => h,
  fun _ _ _ h _ => h,
  fun _ _ _ h _ => h,
  fun _ _ _ h _ => h,
  fun _ _ _ h _ => h,
  fun _ _ _ h _ => h,
  fun _ _ _ h _ => h,
  fun _ _ _ h _ => h,
  fun _ _ _ h _ => h,
  fun _ _ _ h _ => h,
  fun _ _ _ h _ => h,
  fun _ _ _ h _ => h,
  fun _ _ _ h _ => h,
  fun _ _ _ h _ => h,
  fun _ _ _ h _ => h,
  fun _ _ _ h _ => h,
  fun _ _ _ h _ => h,
  fun _ _ _ h _ => h,
  fun _ _ _ h _ => h,
  fun _ _ _ h _ => h, trivial⟩
set_option maxHeartbeats 6400000 in
set_option maxRecDepth 100000 in
theorem same_aux (n : Nat) : ∀ (t u : Nd), SizeOf.sizeOf t ≤ n → ∀ (Q : Nat → Prop) (v1 v2 : Value) (w : World), NodeV w Q v1 t → NodeV w Q v2 u →
    Calls Try.prog 10 #[v1, v2] w fun e w' => e = .returned (.bool (eqB t u)) ∧ Below w.heap.size w w' := by
  induction n with
  | zero => intro t u ht; obtain ⟨op, s, mn, mx, ks⟩ := t; simp only [Nd.mk.sizeOf_spec] at ht; omega
  | succ n IH =>
    intro t u ht Q v1 v2 w hv1 hv2
    obtain ⟨op, s, mn, mx, ks⟩ := t
    obtain ⟨op', s', mn', mx', ks'⟩ := u
    obtain ⟨kv, rfl, hk⟩ := hv1
    obtain ⟨kv', rfl, hk'⟩ := hv2
    obtain ⟨A, cap, rfl, hlen⟩ := hk.form
    obtain ⟨A', cap', rfl, hlen'⟩ := hk'.form
    have HIH : Hid (∀ (i : Nat) (k : Nd), ks[i]? = some k → ∀ u v1 v2 w, NodeV w Q v1 k → NodeV w Q v2 u → Calls Try.prog 10 #[v1, v2] w fun e w' => e = .returned (.bool (eqB k u)) ∧ Below w.heap.size w w') := Lib.hid fun i k hi u v1 v2 w h1 h2 => by
      have h3 := kid_lt op s mn mx ks k (List.mem_of_getElem? hi)
      exact IH k u (by omega) Q v1 v2 w h1 h2
    have HEF0 : Hid (∀ w', Below w.heap.size w w' → Calls Try.prog 37 #[.slice A ks.length cap, .slice A' ks'.length cap', .func (.func 10) #[] #[]] w' fun e w'' => e = .returned (.bool (eqB ks ks')) ∧ Below w'.heap.size w' w'') := Lib.hid fun w' hb =>
      equalFunc_calls Q _ _ ks ks' w' (hk.keep hb) (hk'.keep hb) HIH.out
    rw [eqB_mk]
    clear hk hk' IH ht HIH
    go_enter Try.func10, Try.ntmps10
    go_upto_region 1 with (first | (refine box_nd rfl (.tmp 0) rfl op s mn mx _ rfl ?_) | (refine box_nd rfl (.tmp 1) rfl op' s' mn' mx' _ rfl ?_))
    have hb2 := below_alloc2 w (.cells (ndC op s mn mx (.slice A ks.length cap)) 28) (.cells (ndC op' s' mn' mx' (.slice A' ks'.length cap')) 28)
    have HG1 := Lib.hid (heap_alloc2_old w (.cells (ndC op s mn mx (.slice A ks.length cap)) 28) (.cells (ndC op' s' mn' mx' (.slice A' ks'.length cap')) 28))
    have HG2 := Lib.hid (heap_alloc2_new w (.cells (ndC op s mn mx (.slice A ks.length cap)) 28) (.cells (ndC op' s' mn' mx' (.slice A' ks'.length cap')) 28))
    have HBW := Lib.hid hb2
    have HEF : Hid (∀ w', Below ((w.alloc (.cells (ndC op s mn mx (.slice A ks.length cap)) 28)).alloc (.cells (ndC op' s' mn' mx' (.slice A' ks'.length cap')) 28)).heap.size ((w.alloc (.cells (ndC op s mn mx (.slice A ks.length cap)) 28)).alloc (.cells (ndC op' s' mn' mx' (.slice A' ks'.length cap')) 28)) w' → Calls Try.prog 37 #[.slice A ks.length cap, .slice A' ks'.length cap', .func (.func 10) #[] #[]] w' fun e w'' => e = .returned (.bool (eqB ks ks')) ∧ Below w'.heap.size w' w'') := Lib.hid fun w' hb => HEF0.out w' (below_more hb2 (by simp; omega) hb)
    clear hb2 HEF0 hlen hlen'
    have hsz2 : w.heap.size ≤ ((w.alloc (.cells (ndC op s mn mx (.slice A ks.length cap)) 28)).alloc (.cells (ndC op' s' mn' mx' (.slice A' ks'.length cap')) 28)).heap.size := by simp; omega
    generalize (w.alloc (.cells (ndC op s mn mx (.slice A ks.length cap)) 28)).alloc (.cells (ndC op' s' mn' mx' (.slice A' ks'.length cap')) 28) = w2 at *
    have hbw := HBW.out
    clear HBW
    refine region_seq (fun w' => Below w2.heap.size w2 w') (fun w1 w2 => Below w1.heap.size w1 w2) (predsT (sameR w op op' s s' mn mn' mx mx' ks ks' A A' cap cap')) (by kernel_rfl) (by kernel_rfl) (by kernel_rfl) (preds_keep _ (sameR_keep w op op' s s' mn mn' mx mx' ks ks' A A' cap cap')) (Below.refl _ _) ?_ ?_
    · refine ⟨?_, ?_, ?_, ?_, ?_, ?_, ?_, ?_, ?_, ?_, ?_, ?_, ?_, ?_, ?_, ?_, ?_, ?_, ?_, ?_, ?_, ?_, ?_, ?_, ?_, ?_, ?_, ?_, ?_, ?_, ?_, ?_, ?_, ?_, trivial⟩
      · refine ob_val (fun _ => Below.refl _ _) fun a' w' hS hI hD => ⟨rfl, Value.pointer (some ⟨w.heap.size, 0, none⟩), ?_, rfl⟩
        have h0 : a'.tmps.getD 2 undef = Value.pointer (some ⟨w.heap.size, 0, none⟩) := hS.at rfl
        simp only [execOp, Act.eval, h0]
        clear h0
        go_simp
      · refine ob_val (fun _ => Below.refl _ _) fun a' w' hS hI hD => ⟨rfl, Value.int .i64 op, ?_, rfl⟩
        have h0 : a'.tmps.getD 5 undef = Value.pointer (some ⟨w.heap.size, 0, none⟩) := dep_at hD 0 (by kernel_rfl)
        have hc := (nd_cell (below_all hI HG1.out)).1
        exact run_load_cell _ (.tmp 5) rfl _ _ _ h0 hc _ Try.underlying3 rfl
      · refine ob_val (fun _ => Below.refl _ _) fun a' w' hS hI hD => ⟨rfl, Value.pointer (some ⟨w.heap.size + 1, 0, none⟩), ?_, rfl⟩
        have h0 : a'.tmps.getD 3 undef = Value.pointer (some ⟨w.heap.size + 1, 0, none⟩) := hS.at rfl
        simp only [execOp, Act.eval, h0]
        clear h0
        go_simp
      · refine ob_val (fun _ => Below.refl _ _) fun a' w' hS hI hD => ⟨rfl, Value.int .i64 op', ?_, rfl⟩
        have h0 : a'.tmps.getD 7 undef = Value.pointer (some ⟨w.heap.size + 1, 0, none⟩) := dep_at hD 2 (by kernel_rfl)
        have hc := (nd_cell (below_all hI HG2.out)).1
        exact run_load_cell _ (.tmp 7) rfl _ _ _ h0 hc _ Try.underlying3 rfl
      · refine ob_val (fun _ => Below.refl _ _) fun a' w' hS hI hD => ⟨rfl, Value.bool ((op : Int) == op'), ?_, rfl⟩
        have h0 : a'.tmps.getD 6 undef = Value.int .i64 op := dep_at hD 1 (by kernel_rfl)
        have h1 : a'.tmps.getD 8 undef = Value.int .i64 op' := dep_at hD 3 (by kernel_rfl)
        exact run_eql_i _ _ (.tmp 6) (.tmp 8) rfl _ _ _ h0 h1
      · refine ob_val (fun _ => Below.refl _ _) fun a' w' hS hI hD => ⟨rfl, Value.bool ((op : Int) == op'), ?_, rfl⟩
        have h0 : a'.tmps.getD 9 undef = Value.bool ((op : Int) == op') := dep_at hD 4 (by kernel_rfl)
        exact run_val (.tmp 9) (by first | exact .inl rfl | exact .inr rfl) _ h0
      · refine ob_when (((op : Int) == op') = true) (fun hc0 => ?_) (fun hn a' w' hS hI hD => ⟨unwanted (c := ((op : Int) == op')) rfl (dep_at hD 5 (by kernel_rfl)) hn, fun hc => absurd hc hn⟩)
        refine ob_val (fun _ => Below.refl _ _) fun a' w' hS hI hD => ⟨wanted_eq (c := ((op : Int) == op')) rfl (dep_at hD 5 (by kernel_rfl)) hc0, Value.pointer (some ⟨w.heap.size, 1, none⟩), ?_, fun _ => rfl⟩
        have h0 : a'.tmps.getD 2 undef = Value.pointer (some ⟨w.heap.size, 0, none⟩) := hS.at rfl
        simp only [execOp, Act.eval, h0]
        clear h0
        go_simp
      · refine ob_when (((op : Int) == op') = true) (fun hc0 => ?_) (fun hn a' w' hS hI hD => ⟨unwanted (c := ((op : Int) == op')) rfl (dep_at hD 5 (by kernel_rfl)) hn, fun hc => absurd hc hn⟩)
        refine ob_val (fun _ => Below.refl _ _) fun a' w' hS hI hD => ⟨wanted_eq (c := ((op : Int) == op')) rfl (dep_at hD 5 (by kernel_rfl)) hc0, setV s, ?_, fun _ => rfl⟩
        have h0 : (((op : Int) == op') = true → a'.tmps.getD 11 undef = Value.pointer (some ⟨w.heap.size, 1, none⟩)) := dep_at hD 6 (by kernel_rfl)
        replace h0 := h0 hc0
        simp only [execOp, Act.eval, h0]
        exact run_load_st' w' (w.heap.size) 1 s (nd_set (below_all hI HG1.out))
      · refine ob_when (((op : Int) == op') = true) (fun hc0 => ?_) (fun hn a' w' hS hI hD => ⟨unwanted (c := ((op : Int) == op')) rfl (dep_at hD 5 (by kernel_rfl)) hn, fun hc => absurd hc hn⟩)
        refine ob_val (fun _ => Below.refl _ _) fun a' w' hS hI hD => ⟨wanted_eq (c := ((op : Int) == op')) rfl (dep_at hD 5 (by kernel_rfl)) hc0, Value.pointer (some ⟨w.heap.size + 1, 1, none⟩), ?_, fun _ => rfl⟩
        have h0 : a'.tmps.getD 3 undef = Value.pointer (some ⟨w.heap.size + 1, 0, none⟩) := hS.at rfl
        simp only [execOp, Act.eval, h0]
        clear h0
        go_simp
      · refine ob_when (((op : Int) == op') = true) (fun hc0 => ?_) (fun hn a' w' hS hI hD => ⟨unwanted (c := ((op : Int) == op')) rfl (dep_at hD 5 (by kernel_rfl)) hn, fun hc => absurd hc hn⟩)
        refine ob_val (fun _ => Below.refl _ _) fun a' w' hS hI hD => ⟨wanted_eq (c := ((op : Int) == op')) rfl (dep_at hD 5 (by kernel_rfl)) hc0, setV s', ?_, fun _ => rfl⟩
        have h0 : (((op : Int) == op') = true → a'.tmps.getD 13 undef = Value.pointer (some ⟨w.heap.size + 1, 1, none⟩)) := dep_at hD 8 (by kernel_rfl)
        replace h0 := h0 hc0
        simp only [execOp, Act.eval, h0]
        exact run_load_st' w' (w.heap.size + 1) 1 s' (nd_set (below_all hI HG2.out))
      · refine ob_when (((op : Int) == op') = true) (fun hc0 => ?_) (fun hn a' w' hS hI hD => ⟨unwanted (c := ((op : Int) == op')) rfl (dep_at hD 5 (by kernel_rfl)) hn, fun hc => absurd hc hn⟩)
        refine ob_val (fun _ => Below.refl _ _) fun a' w' hS hI hD => ⟨wanted_eq (c := ((op : Int) == op')) rfl (dep_at hD 5 (by kernel_rfl)) hc0, Value.bool (s == s'), ?_, fun _ => rfl⟩
        have h0 : (((op : Int) == op') = true → a'.tmps.getD 12 undef = setV s) := dep_at hD 7 (by kernel_rfl)
        replace h0 := h0 hc0
        have h1 : (((op : Int) == op') = true → a'.tmps.getD 14 undef = setV s') := dep_at hD 9 (by kernel_rfl)
        replace h1 := h1 hc0
        exact run_eql_set (.tmp 12) (.tmp 14) _ rfl _ _ h0 h1
      · refine ob_val (fun _ => Below.refl _ _) fun a' w' hS hI hD => ⟨rfl, Value.bool (((op : Int) == op') && (s == s')), ?_, rfl⟩
        have h0 : a'.tmps.getD 10 undef = Value.bool ((op : Int) == op') := dep_at hD 5 (by kernel_rfl)
        have h1 : (((op : Int) == op') = true → a'.tmps.getD 15 undef = Value.bool (s == s')) := dep_at hD 10 (by kernel_rfl)
        replace h1 : ((op : Int) == op') = true → a'.tmps.getD 15 undef = Value.bool (s == s') := fun hC => h1 hC
        exact run_pick_and (.tmp 10) (.tmp 15) rfl rfl _ _ h0 h1
      · refine ob_val (fun _ => Below.refl _ _) fun a' w' hS hI hD => ⟨rfl, Value.bool (((op : Int) == op') && (s == s')), ?_, rfl⟩
        have h0 : a'.tmps.getD 16 undef = Value.bool (((op : Int) == op') && (s == s')) := dep_at hD 11 (by kernel_rfl)
        exact run_val (.tmp 16) (by first | exact .inl rfl | exact .inr rfl) _ h0
      · refine ob_when ((((op : Int) == op') && (s == s')) = true) (fun hc0 => ?_) (fun hn a' w' hS hI hD => ⟨unwanted (c := (((op : Int) == op') && (s == s'))) rfl (dep_at hD 12 (by kernel_rfl)) hn, fun hc => absurd hc hn⟩)
        refine ob_val (fun _ => Below.refl _ _) fun a' w' hS hI hD => ⟨wanted_eq (c := (((op : Int) == op') && (s == s'))) rfl (dep_at hD 12 (by kernel_rfl)) hc0, Value.pointer (some ⟨w.heap.size, 5, none⟩), ?_, fun _ => rfl⟩
        have h0 : a'.tmps.getD 2 undef = Value.pointer (some ⟨w.heap.size, 0, none⟩) := hS.at rfl
        simp only [execOp, Act.eval, h0]
        clear h0
        go_simp
      · refine ob_when ((((op : Int) == op') && (s == s')) = true) (fun hc0 => ?_) (fun hn a' w' hS hI hD => ⟨unwanted (c := (((op : Int) == op') && (s == s'))) rfl (dep_at hD 12 (by kernel_rfl)) hn, fun hc => absurd hc hn⟩)
        refine ob_val (fun _ => Below.refl _ _) fun a' w' hS hI hD => ⟨wanted_eq (c := (((op : Int) == op') && (s == s'))) rfl (dep_at hD 12 (by kernel_rfl)) hc0, Value.int .i64 mn, ?_, fun _ => rfl⟩
        have h0 : ((((op : Int) == op') && (s == s')) = true → a'.tmps.getD 18 undef = Value.pointer (some ⟨w.heap.size, 5, none⟩)) := dep_at hD 13 (by kernel_rfl)
        replace h0 := h0 hc0
        have hc := (nd_cell (below_all hI HG1.out)).2.1
        exact run_load_cell _ (.tmp 18) rfl _ _ _ h0 hc _ Try.underlying3 rfl
      · refine ob_when ((((op : Int) == op') && (s == s')) = true) (fun hc0 => ?_) (fun hn a' w' hS hI hD => ⟨unwanted (c := (((op : Int) == op') && (s == s'))) rfl (dep_at hD 12 (by kernel_rfl)) hn, fun hc => absurd hc hn⟩)
        refine ob_val (fun _ => Below.refl _ _) fun a' w' hS hI hD => ⟨wanted_eq (c := (((op : Int) == op') && (s == s'))) rfl (dep_at hD 12 (by kernel_rfl)) hc0, Value.pointer (some ⟨w.heap.size + 1, 5, none⟩), ?_, fun _ => rfl⟩
        have h0 : a'.tmps.getD 3 undef = Value.pointer (some ⟨w.heap.size + 1, 0, none⟩) := hS.at rfl
        simp only [execOp, Act.eval, h0]
        clear h0
        go_simp
      · refine ob_when ((((op : Int) == op') && (s == s')) = true) (fun hc0 => ?_) (fun hn a' w' hS hI hD => ⟨unwanted (c := (((op : Int) == op') && (s == s'))) rfl (dep_at hD 12 (by kernel_rfl)) hn, fun hc => absurd hc hn⟩)
        refine ob_val (fun _ => Below.refl _ _) fun a' w' hS hI hD => ⟨wanted_eq (c := (((op : Int) == op') && (s == s'))) rfl (dep_at hD 12 (by kernel_rfl)) hc0, Value.int .i64 mn', ?_, fun _ => rfl⟩
        have h0 : ((((op : Int) == op') && (s == s')) = true → a'.tmps.getD 20 undef = Value.pointer (some ⟨w.heap.size + 1, 5, none⟩)) := dep_at hD 15 (by kernel_rfl)
        replace h0 := h0 hc0
        have hc := (nd_cell (below_all hI HG2.out)).2.1
        exact run_load_cell _ (.tmp 20) rfl _ _ _ h0 hc _ Try.underlying3 rfl
      · refine ob_when ((((op : Int) == op') && (s == s')) = true) (fun hc0 => ?_) (fun hn a' w' hS hI hD => ⟨unwanted (c := (((op : Int) == op') && (s == s'))) rfl (dep_at hD 12 (by kernel_rfl)) hn, fun hc => absurd hc hn⟩)
        refine ob_val (fun _ => Below.refl _ _) fun a' w' hS hI hD => ⟨wanted_eq (c := (((op : Int) == op') && (s == s'))) rfl (dep_at hD 12 (by kernel_rfl)) hc0, Value.bool ((mn : Int) == mn'), ?_, fun _ => rfl⟩
        have h0 : ((((op : Int) == op') && (s == s')) = true → a'.tmps.getD 19 undef = Value.int .i64 mn) := dep_at hD 14 (by kernel_rfl)
        replace h0 := h0 hc0
        have h1 : ((((op : Int) == op') && (s == s')) = true → a'.tmps.getD 21 undef = Value.int .i64 mn') := dep_at hD 16 (by kernel_rfl)
        replace h1 := h1 hc0
        exact run_eql_i _ _ (.tmp 19) (.tmp 21) rfl _ _ _ h0 h1
      · refine ob_val (fun _ => Below.refl _ _) fun a' w' hS hI hD => ⟨rfl, Value.bool ((((op : Int) == op') && (s == s')) && ((mn : Int) == mn')), ?_, rfl⟩
        have h0 : a'.tmps.getD 17 undef = Value.bool (((op : Int) == op') && (s == s')) := dep_at hD 12 (by kernel_rfl)
        have h1 : ((((op : Int) == op') && (s == s')) = true → a'.tmps.getD 22 undef = Value.bool ((mn : Int) == mn')) := dep_at hD 17 (by kernel_rfl)
        replace h1 : (((op : Int) == op') && (s == s')) = true → a'.tmps.getD 22 undef = Value.bool ((mn : Int) == mn') := fun hC => h1 hC
        exact run_pick_and (.tmp 17) (.tmp 22) rfl rfl _ _ h0 h1
      · refine ob_val (fun _ => Below.refl _ _) fun a' w' hS hI hD => ⟨rfl, Value.bool ((((op : Int) == op') && (s == s')) && ((mn : Int) == mn')), ?_, rfl⟩
        have h0 : a'.tmps.getD 23 undef = Value.bool ((((op : Int) == op') && (s == s')) && ((mn : Int) == mn')) := dep_at hD 18 (by kernel_rfl)
        exact run_val (.tmp 23) (by first | exact .inl rfl | exact .inr rfl) _ h0
      · refine ob_when (((((op : Int) == op') && (s == s')) && ((mn : Int) == mn')) = true) (fun hc0 => ?_) (fun hn a' w' hS hI hD => ⟨unwanted (c := ((((op : Int) == op') && (s == s')) && ((mn : Int) == mn'))) rfl (dep_at hD 19 (by kernel_rfl)) hn, fun hc => absurd hc hn⟩)
        refine ob_val (fun _ => Below.refl _ _) fun a' w' hS hI hD => ⟨wanted_eq (c := ((((op : Int) == op') && (s == s')) && ((mn : Int) == mn'))) rfl (dep_at hD 19 (by kernel_rfl)) hc0, Value.pointer (some ⟨w.heap.size, 6, none⟩), ?_, fun _ => rfl⟩
        have h0 : a'.tmps.getD 2 undef = Value.pointer (some ⟨w.heap.size, 0, none⟩) := hS.at rfl
        simp only [execOp, Act.eval, h0]
        clear h0
        go_simp
      · refine ob_when (((((op : Int) == op') && (s == s')) && ((mn : Int) == mn')) = true) (fun hc0 => ?_) (fun hn a' w' hS hI hD => ⟨unwanted (c := ((((op : Int) == op') && (s == s')) && ((mn : Int) == mn'))) rfl (dep_at hD 19 (by kernel_rfl)) hn, fun hc => absurd hc hn⟩)
        refine ob_val (fun _ => Below.refl _ _) fun a' w' hS hI hD => ⟨wanted_eq (c := ((((op : Int) == op') && (s == s')) && ((mn : Int) == mn'))) rfl (dep_at hD 19 (by kernel_rfl)) hc0, Value.int .i64 mx, ?_, fun _ => rfl⟩
        have h0 : (((((op : Int) == op') && (s == s')) && ((mn : Int) == mn')) = true → a'.tmps.getD 25 undef = Value.pointer (some ⟨w.heap.size, 6, none⟩)) := dep_at hD 20 (by kernel_rfl)
        replace h0 := h0 hc0
        have hc := (nd_cell (below_all hI HG1.out)).2.2.1
        exact run_load_cell _ (.tmp 25) rfl _ _ _ h0 hc _ Try.underlying3 rfl
      · refine ob_when (((((op : Int) == op') && (s == s')) && ((mn : Int) == mn')) = true) (fun hc0 => ?_) (fun hn a' w' hS hI hD => ⟨unwanted (c := ((((op : Int) == op') && (s == s')) && ((mn : Int) == mn'))) rfl (dep_at hD 19 (by kernel_rfl)) hn, fun hc => absurd hc hn⟩)
        refine ob_val (fun _ => Below.refl _ _) fun a' w' hS hI hD => ⟨wanted_eq (c := ((((op : Int) == op') && (s == s')) && ((mn : Int) == mn'))) rfl (dep_at hD 19 (by kernel_rfl)) hc0, Value.pointer (some ⟨w.heap.size + 1, 6, none⟩), ?_, fun _ => rfl⟩
        have h0 : a'.tmps.getD 3 undef = Value.pointer (some ⟨w.heap.size + 1, 0, none⟩) := hS.at rfl
        simp only [execOp, Act.eval, h0]
        clear h0
        go_simp
      · refine ob_when (((((op : Int) == op') && (s == s')) && ((mn : Int) == mn')) = true) (fun hc0 => ?_) (fun hn a' w' hS hI hD => ⟨unwanted (c := ((((op : Int) == op') && (s == s')) && ((mn : Int) == mn'))) rfl (dep_at hD 19 (by kernel_rfl)) hn, fun hc => absurd hc hn⟩)
        refine ob_val (fun _ => Below.refl _ _) fun a' w' hS hI hD => ⟨wanted_eq (c := ((((op : Int) == op') && (s == s')) && ((mn : Int) == mn'))) rfl (dep_at hD 19 (by kernel_rfl)) hc0, Value.int .i64 mx', ?_, fun _ => rfl⟩
        have h0 : (((((op : Int) == op') && (s == s')) && ((mn : Int) == mn')) = true → a'.tmps.getD 27 undef = Value.pointer (some ⟨w.heap.size + 1, 6, none⟩)) := dep_at hD 22 (by kernel_rfl)
        replace h0 := h0 hc0
        have hc := (nd_cell (below_all hI HG2.out)).2.2.1
        exact run_load_cell _ (.tmp 27) rfl _ _ _ h0 hc _ Try.underlying3 rfl
      · refine ob_when (((((op : Int) == op') && (s == s')) && ((mn : Int) == mn')) = true) (fun hc0 => ?_) (fun hn a' w' hS hI hD => ⟨unwanted (c := ((((op : Int) == op') && (s == s')) && ((mn : Int) == mn'))) rfl (dep_at hD 19 (by kernel_rfl)) hn, fun hc => absurd hc hn⟩)
        refine ob_val (fun _ => Below.refl _ _) fun a' w' hS hI hD => ⟨wanted_eq (c := ((((op : Int) == op') && (s == s')) && ((mn : Int) == mn'))) rfl (dep_at hD 19 (by kernel_rfl)) hc0, Value.bool ((mx : Int) == mx'), ?_, fun _ => rfl⟩
        have h0 : (((((op : Int) == op') && (s == s')) && ((mn : Int) == mn')) = true → a'.tmps.getD 26 undef = Value.int .i64 mx) := dep_at hD 21 (by kernel_rfl)
        replace h0 := h0 hc0
        have h1 : (((((op : Int) == op') && (s == s')) && ((mn : Int) == mn')) = true → a'.tmps.getD 28 undef = Value.int .i64 mx') := dep_at hD 23 (by kernel_rfl)
        replace h1 := h1 hc0
        exact run_eql_i _ _ (.tmp 26) (.tmp 28) rfl _ _ _ h0 h1
      · refine ob_val (fun _ => Below.refl _ _) fun a' w' hS hI hD => ⟨rfl, Value.bool (((((op : Int) == op') && (s == s')) && ((mn : Int) == mn')) && ((mx : Int) == mx')), ?_, rfl⟩
        have h0 : a'.tmps.getD 24 undef = Value.bool ((((op : Int) == op') && (s == s')) && ((mn : Int) == mn')) := dep_at hD 19 (by kernel_rfl)
        have h1 : (((((op : Int) == op') && (s == s')) && ((mn : Int) == mn')) = true → a'.tmps.getD 29 undef = Value.bool ((mx : Int) == mx')) := dep_at hD 24 (by kernel_rfl)
        replace h1 : ((((op : Int) == op') && (s == s')) && ((mn : Int) == mn')) = true → a'.tmps.getD 29 undef = Value.bool ((mx : Int) == mx') := fun hC => h1 hC
        exact run_pick_and (.tmp 24) (.tmp 29) rfl rfl _ _ h0 h1
      · refine ob_val (fun _ => Below.refl _ _) fun a' w' hS hI hD => ⟨rfl, Value.bool (((((op : Int) == op') && (s == s')) && ((mn : Int) == mn')) && ((mx : Int) == mx')), ?_, rfl⟩
        have h0 : a'.tmps.getD 30 undef = Value.bool (((((op : Int) == op') && (s == s')) && ((mn : Int) == mn')) && ((mx : Int) == mx')) := dep_at hD 25 (by kernel_rfl)
        exact run_val (.tmp 30) (by first | exact .inl rfl | exact .inr rfl) _ h0
      · refine ob_when ((((((op : Int) == op') && (s == s')) && ((mn : Int) == mn')) && ((mx : Int) == mx')) = true) (fun hc0 => ?_) (fun hn a' w' hS hI hD => ⟨unwanted (c := (((((op : Int) == op') && (s == s')) && ((mn : Int) == mn')) && ((mx : Int) == mx'))) rfl (dep_at hD 26 (by kernel_rfl)) hn, fun hc => absurd hc hn⟩)
        refine ob_val (fun _ => Below.refl _ _) fun a' w' hS hI hD => ⟨wanted_eq (c := (((((op : Int) == op') && (s == s')) && ((mn : Int) == mn')) && ((mx : Int) == mx'))) rfl (dep_at hD 26 (by kernel_rfl)) hc0, Value.pointer (some ⟨w.heap.size, 7, none⟩), ?_, fun _ => rfl⟩
        have h0 : a'.tmps.getD 2 undef = Value.pointer (some ⟨w.heap.size, 0, none⟩) := hS.at rfl
        simp only [execOp, Act.eval, h0]
        clear h0
        go_simp
      · refine ob_when ((((((op : Int) == op') && (s == s')) && ((mn : Int) == mn')) && ((mx : Int) == mx')) = true) (fun hc0 => ?_) (fun hn a' w' hS hI hD => ⟨unwanted (c := (((((op : Int) == op') && (s == s')) && ((mn : Int) == mn')) && ((mx : Int) == mx'))) rfl (dep_at hD 26 (by kernel_rfl)) hn, fun hc => absurd hc hn⟩)
        refine ob_val (fun _ => Below.refl _ _) fun a' w' hS hI hD => ⟨wanted_eq (c := (((((op : Int) == op') && (s == s')) && ((mn : Int) == mn')) && ((mx : Int) == mx'))) rfl (dep_at hD 26 (by kernel_rfl)) hc0, Value.slice A ks.length cap, ?_, fun _ => rfl⟩
        have h0 : ((((((op : Int) == op') && (s == s')) && ((mn : Int) == mn')) && ((mx : Int) == mx')) = true → a'.tmps.getD 32 undef = Value.pointer (some ⟨w.heap.size, 7, none⟩)) := dep_at hD 27 (by kernel_rfl)
        replace h0 := h0 hc0
        have hc := (nd_cell (below_all hI HG1.out)).2.2.2
        exact run_load_cell _ (.tmp 32) rfl _ _ _ h0 hc _ Try.underlying26 rfl
      · refine ob_when ((((((op : Int) == op') && (s == s')) && ((mn : Int) == mn')) && ((mx : Int) == mx')) = true) (fun hc0 => ?_) (fun hn a' w' hS hI hD => ⟨unwanted (c := (((((op : Int) == op') && (s == s')) && ((mn : Int) == mn')) && ((mx : Int) == mx'))) rfl (dep_at hD 26 (by kernel_rfl)) hn, fun hc => absurd hc hn⟩)
        refine ob_val (fun _ => Below.refl _ _) fun a' w' hS hI hD => ⟨wanted_eq (c := (((((op : Int) == op') && (s == s')) && ((mn : Int) == mn')) && ((mx : Int) == mx'))) rfl (dep_at hD 26 (by kernel_rfl)) hc0, Value.pointer (some ⟨w.heap.size + 1, 7, none⟩), ?_, fun _ => rfl⟩
        have h0 : a'.tmps.getD 3 undef = Value.pointer (some ⟨w.heap.size + 1, 0, none⟩) := hS.at rfl
        simp only [execOp, Act.eval, h0]
        clear h0
        go_simp
      · refine ob_when ((((((op : Int) == op') && (s == s')) && ((mn : Int) == mn')) && ((mx : Int) == mx')) = true) (fun hc0 => ?_) (fun hn a' w' hS hI hD => ⟨unwanted (c := (((((op : Int) == op') && (s == s')) && ((mn : Int) == mn')) && ((mx : Int) == mx'))) rfl (dep_at hD 26 (by kernel_rfl)) hn, fun hc => absurd hc hn⟩)
        refine ob_val (fun _ => Below.refl _ _) fun a' w' hS hI hD => ⟨wanted_eq (c := (((((op : Int) == op') && (s == s')) && ((mn : Int) == mn')) && ((mx : Int) == mx'))) rfl (dep_at hD 26 (by kernel_rfl)) hc0, Value.slice A' ks'.length cap', ?_, fun _ => rfl⟩
        have h0 : ((((((op : Int) == op') && (s == s')) && ((mn : Int) == mn')) && ((mx : Int) == mx')) = true → a'.tmps.getD 34 undef = Value.pointer (some ⟨w.heap.size + 1, 7, none⟩)) := dep_at hD 29 (by kernel_rfl)
        replace h0 := h0 hc0
        have hc := (nd_cell (below_all hI HG2.out)).2.2.2
        exact run_load_cell _ (.tmp 34) rfl _ _ _ h0 hc _ Try.underlying26 rfl
      · refine ob_when ((((((op : Int) == op') && (s == s')) && ((mn : Int) == mn')) && ((mx : Int) == mx')) = true) (fun hc0 => ?_) (fun hn a' w' hS hI hD => ⟨unwanted (c := (((((op : Int) == op') && (s == s')) && ((mn : Int) == mn')) && ((mx : Int) == mx'))) rfl (dep_at hD 26 (by kernel_rfl)) hn, fun hc => absurd hc hn⟩)
        refine ob_call fun a' w' hS hI hD => ⟨wanted_eq (c := (((((op : Int) == op') && (s == s')) && ((mn : Int) == mn')) && ((mx : Int) == mx'))) rfl (dep_at hD 26 (by kernel_rfl)) hc0, 37, #[Value.slice A ks.length cap, Value.slice A' ks'.length cap', Value.func (.func 10) #[] #[]], ?_, ?_⟩
        · have h0 : ((((((op : Int) == op') && (s == s')) && ((mn : Int) == mn')) && ((mx : Int) == mx')) = true → a'.tmps.getD 33 undef = Value.slice A ks.length cap) := dep_at hD 28 (by kernel_rfl)
          replace h0 := h0 hc0
          have h1 : ((((((op : Int) == op') && (s == s')) && ((mn : Int) == mn')) && ((mx : Int) == mx')) = true → a'.tmps.getD 35 undef = Value.slice A' ks'.length cap') := dep_at hD 30 (by kernel_rfl)
          replace h1 := h1 hc0
          rw [run_call 37 _ _ rfl (enters_of Try.func37 (by kernel_rfl) rfl)]
          simp only [List.map_toArray, List.map_cons, List.map_nil, Act.eval, h0, h1]
        · have h0 : ((((((op : Int) == op') && (s == s')) && ((mn : Int) == mn')) && ((mx : Int) == mx')) = true → a'.tmps.getD 33 undef = Value.slice A ks.length cap) := dep_at hD 28 (by kernel_rfl)
          replace h0 := h0 hc0
          have h1 : ((((((op : Int) == op') && (s == s')) && ((mn : Int) == mn')) && ((mx : Int) == mx')) = true → a'.tmps.getD 35 undef = Value.slice A' ks'.length cap') := dep_at hD 30 (by kernel_rfl)
          replace h1 := h1 hc0
          exact (HEF.out _ hI).mono fun e w'' ⟨he, hb⟩ => ⟨_, he, fun _ => rfl, hb, below_more hI hI.size hb⟩
      · refine ob_val (fun _ => Below.refl _ _) fun a' w' hS hI hD => ⟨rfl, Value.bool ((((((op : Int) == op') && (s == s')) && ((mn : Int) == mn')) && ((mx : Int) == mx')) && (eqB ks ks')), ?_, rfl⟩
        have h0 : a'.tmps.getD 31 undef = Value.bool (((((op : Int) == op') && (s == s')) && ((mn : Int) == mn')) && ((mx : Int) == mx')) := dep_at hD 26 (by kernel_rfl)
        have h1 : ((((((op : Int) == op') && (s == s')) && ((mn : Int) == mn')) && ((mx : Int) == mx')) = true → a'.tmps.getD 36 undef = Value.bool (eqB ks ks')) := dep_at hD 31 (by kernel_rfl)
        replace h1 : (((((op : Int) == op') && (s == s')) && ((mn : Int) == mn')) && ((mx : Int) == mx')) = true → a'.tmps.getD 36 undef = Value.bool (eqB ks ks') := fun hC => h1 hC
        exact run_pick_and (.tmp 31) (.tmp 36) rfl rfl _ _ h0 h1
      · refine ob_val (fun _ => Below.refl _ _) fun a' w' hS hI hD => ⟨rfl, Value.bool ((((((op : Int) == op') && (s == s')) && ((mn : Int) == mn')) && ((mx : Int) == mx')) && (eqB ks ks')), ?_, rfl⟩
        have h0 : a'.tmps.getD 37 undef = Value.bool ((((((op : Int) == op') && (s == s')) && ((mn : Int) == mn')) && ((mx : Int) == mx')) && (eqB ks ks')) := dep_at hD 32 (by kernel_rfl)
        exact run_val (.tmp 37) (by first | exact .inl rfl | exact .inr rfl) _ h0
    · intro v w' hI hT
      have h33 : v 33 = .bool (((((op == op') && (s == s')) && (mn == mn')) && (mx == mx')) && eqB ks ks') := tall_at _ _ hT 33 (by decide) (by decide)
      have H33 := Lib.hid h33
      have HBW := Lib.hid (below_more hbw hsz2 hI)
      clear h33 hT HG1 HG2 hI hbw
      simp only [putAll, Act.put, List.setIfInBounds_toArray, List.set_cons_succ, List.set_cons_zero, Nat.reduceAdd]
      go_wp2_with (fail)
      go_ret
      exact ⟨by rw [← Bool.and_assoc, ← Bool.and_assoc, ← Bool.and_assoc, ← H33.out]; rfl, HBW.out⟩
end Go.Proofs.Ytekodfpjoehooaa.Bs
