/- The walk of the reference's Bytes. -/
import Derived.Test.YtekodfpjoehooaaNodeW13
namespace Go.Proofs.Ytekodfpjoehooaa.Bs
open Go.RowKit Mem Reg
def rbytesR (w : World) (op1 : Int) (s1 sk x : BitVec 256) (mn1 mx1 : Int) (kv1 : Value) (n b o cap k : Nat) : List (Value → World → Prop) := [
  fun v _ => v = setV sk,
  fun v _ => v = Value.pointer (some ⟨w.heap.size, 7, none⟩),
  fun v _ => v = Value.slice (some ⟨b, o, none⟩) n cap,
  fun v _ => v = Value.int .i64 (k : Int),
  fun v _ => v = Value.pointer (some ⟨b, o + k * 8, none⟩),
  fun v _ => v = ndV op1 s1 mn1 mx1 kv1,
  fun v _ => v = setV x,
  fun v w => Sets w v [sk, x],
  fun v _ => v = setV (unionS [sk, x])]
theorem rbytesR_keep (w : World) (op1 : Int) (s1 sk x : BitVec 256) (mn1 mx1 : Int) (kv1 : Value) (n b o cap k : Nat) : PredsKeep (rbytesR w op1 s1 sk x mn1 mx1 kv1 n b o cap k) :=
  ⟨fun _ _ _ h _ => h,
  fun _ _ _ h _ => h,
  fun _ _ _ h _ => h,
  fun _ _ _ h _ => h,
  fun _ _ _ h _ => h,
  fun _ _ _ h _ => h,
  fun _ _ _ h _ => h,
  fun _ _ _ h hE => Row.below h setC_ne (Nat.le_refl _) hE,
  fun _ _ _ h _ => h, trivial⟩
set_option maxHeartbeats 6400000 in
set_option maxRecDepth 100000 in
theorem rbytes_aux (n : Nat) : ∀ (t : Nd), SizeOf.sizeOf t ≤ n → ∀ (Q : Nat → Prop) (v : Value) (w : World), NodeV w Q v t →
    Calls Try.prog 28 #[v] w fun e w' => e = .returned (setV t.bytes) ∧ Below w.heap.size w w' := by
  induction n with
  | zero => intro t ht; obtain ⟨op, s, mn, mx, ks⟩ := t; simp only [Nd.mk.sizeOf_spec] at ht; omega
  | succ n IH =>
    intro t ht Q v w hv
    obtain ⟨op, st, mn, mx, ks⟩ := t
    obtain ⟨kv, rfl, hk⟩ := hv
    obtain ⟨A, cap, rfl, hlen⟩ := hk.form
    have HK := Lib.hid hk
    have HIH : Hid (∀ i k, ks[i]? = some k → ∀ v w, NodeV w Q v k → Calls Try.prog 28 #[v] w fun e w' => e = .returned (setV k.bytes) ∧ Below w.heap.size w w') := Lib.hid fun i k hi v w hv => by
      have h1 := kid_lt op st mn mx ks k (List.mem_of_getElem? hi)
      exact IH k (by omega) Q v w hv
    have HSA : Hid (allS op 0#256 st ks ks.length = (Nd.mk op st mn mx ks).bytes) := Lib.hid (by rw [allS_all op 0#256 st mn mx ks]; simp)
    rw [← HSA.out]
    have HB3 := Lib.hid (below_alloc3 w (.cells (ndC op st mn mx (.slice A ks.length cap)) 28) (.cells (setC 0#256) 24) (.cells (setC 0#256) 24))
    have HG1 : Hid ((((w.alloc (.cells (ndC op st mn mx (.slice A ks.length cap)) 28)).alloc (.cells (setC 0#256) 24)).alloc (.cells (setC 0#256) 24)).heap[w.heap.size]? = some (.cells (ndC op st mn mx (.slice A ks.length cap)) 28 (0, 0))) := Lib.hid (below_all ((Below.refl _ ((w.alloc (.cells (ndC op st mn mx (.slice A ks.length cap)) 28)).alloc (.cells (setC 0#256) 24))).alloc (Nat.le_refl _) (.cells (setC 0#256) 24)) (heap_alloc2_old w (.cells (ndC op st mn mx (.slice A ks.length cap)) 28) (.cells (setC 0#256) 24)))
    have HG2 : Hid ((((w.alloc (.cells (ndC op st mn mx (.slice A ks.length cap)) 28)).alloc (.cells (setC 0#256) 24)).alloc (.cells (setC 0#256) 24)).heap[w.heap.size + 1]? = some (.cells (setC 0#256) 24 (0, 0))) := Lib.hid (below_all ((Below.refl _ ((w.alloc (.cells (ndC op st mn mx (.slice A ks.length cap)) 28)).alloc (.cells (setC 0#256) 24))).alloc (Nat.le_refl _) (.cells (setC 0#256) 24)) (heap_alloc2_new w (.cells (ndC op st mn mx (.slice A ks.length cap)) 28) (.cells (setC 0#256) 24)))
    have HG3 : Hid ((((w.alloc (.cells (ndC op st mn mx (.slice A ks.length cap)) 28)).alloc (.cells (setC 0#256) 24)).alloc (.cells (setC 0#256) 24)).heap[w.heap.size + 2]? = some (.cells (setC 0#256) 24 (0, 0))) := Lib.hid (by rw [show w.heap.size + 2 = ((w.alloc (.cells (ndC op st mn mx (.slice A ks.length cap)) 28)).alloc (.cells (setC 0#256) 24)).heap.size by simp]; exact heap_alloc_new _ _)
    have hop := (nd_cell HG1.out).1
    have hz3 : w.heap.size + 3 ≤ (((w.alloc (.cells (ndC op st mn mx (.slice A ks.length cap)) 28)).alloc (.cells (setC 0#256) 24)).alloc (.cells (setC 0#256) 24)).heap.size := by simp
    clear hk IH ht
    rw [setC_zero] at HG1 HG2 HG3 HB3 hop hz3
    go_enter Try.func28, Try.ntmps28
    go_upto_region 2 with (refine box_nd rfl (.tmp 0) rfl op st mn mx _ rfl ?_)
    rw [← setC_zero] at HG1 HG2 HG3 HB3 hop hz3
    rw [← setC_zero]
    generalize (((w.alloc (.cells (ndC op st mn mx (.slice A ks.length cap)) 28)).alloc (.cells (setC 0#256) 24)).alloc (.cells (setC 0#256) 24)) = w3 at *
    have hz0 : HG3 = HG3 := rfl
    clear hz0
    by_cases h0 : op = 0
    case' pos =>
      have hb0 : (op == 0) = true := by simpa using h0
      have HS0 : Hid (allS op 0#256 st ks 0 = st) := Lib.hid (by rw [allS_zero, seeS, if_pos h0]; simp)
      clear h0
      go_upto_region 4 with (first | (refine ld_set_mid rfl (.tmp 8) rfl _ 1 rfl st (nd_set HG1.out) ?_) | (refine st_set rfl (.tmp 3) (.tmp 9) rfl _ rfl st rfl 0#256 _ HG3.out ?_; intro w4 hg4 hgr4; have HG4 := Lib.hid hg4; have HGR4 := Lib.hid hgr4; clear hg4 hgr4))
      have HA : Hid (w4.heap[w.heap.size]? = some (.cells (ndC op st mn mx (.slice A ks.length cap)) 28 (0, 0))) := Lib.hid (heap_kept HGR4.out HG1.out (fun e => by simp only [Option.some.injEq] at e; omega))
      have HBB : Hid (w4.heap[w.heap.size + 1]? = some (.cells (setC 0#256) 24 (0, 0))) := Lib.hid (heap_kept HGR4.out HG2.out (fun e => by simp only [Option.some.injEq] at e; omega))
      have HC : Hid (w4.heap[w.heap.size + 2]? = some (.cells (setC (allS op 0#256 st ks 0)) 24 (0, 0))) := Lib.hid (by rw [HS0.out]; exact HG4.out)
      have HD : Hid (Below w.heap.size w w4) := Lib.hid (HB3.out.grown HGR4.out (by omega) (fun k e => by simp only [Option.some.injEq] at e; omega))
      clear HG1 HG2 HG3 HG4 HGR4 HB3 hz3 hop hb0 HS0
    case' neg =>
      have hb0 : (op == 0) = false := by simpa using h0
      have HS0 : Hid (allS op 0#256 st ks 0 = 0#256) := Lib.hid (by rw [allS_zero, seeS, if_neg h0])
      clear h0
      go_upto_region 4 with (fail)
      have HA := HG1
      have HBB := HG2
      have HC : Hid (w3.heap[w.heap.size + 2]? = some (.cells (setC (allS op 0#256 st ks 0)) 24 (0, 0))) := Lib.hid (by rw [HS0.out]; exact HG3.out)
      have HD := HB3
      clear HG1 HG2 HG3 HB3 hz3 hop hb0 HS0
    all_goals
      go_wp2_with (fail)
      go_loopw [4] (fun i wr => ∃ k : Nat, k ≤ ks.length ∧ i = .int .i64 k ∧ wr.heap[w.heap.size]? = some (.cells (ndC op st mn mx (.slice A ks.length cap)) 28 (0, 0)) ∧ wr.heap[w.heap.size + 1]? = some (.cells (setC 0#256) 24 (0, 0)) ∧ wr.heap[w.heap.size + 2]? = some (.cells (setC (allS op 0#256 st ks k)) 24 (0, 0)) ∧ Below w.heap.size w wr) (fun i _ => ks.length - (intOf i).toNat)
      case atStart => exact ⟨0, Nat.zero_le _, rfl, HA.out, HBB.out, HC.out, HD.out⟩
      case round =>
        clear HA HBB HC HD
        obtain ⟨k, hk, rfl, hg1, hg2, hg3, hB⟩ := hrel
        have HG1 := Lib.hid hg1
        have HG2 := Lib.hid hg2
        have HG3 := Lib.hid hg3
        obtain ⟨_, _, _, hc7⟩ := nd_cell hg1
        have hzr : w.heap.size + 3 ≤ wr.heap.size := by have := heap_lt hg3; omega
        clear hg1 hg2 hg3
        by_cases hlt : k < ks.length
        · have hget := List.getElem?_eq_getElem hlt
          have HSS := Lib.hid (allS_succ op 0#256 st ks k hlt)
          have HT := Lib.hid (HIH.out k _ hget)
          generalize ks[k] = x0 at *
          obtain ⟨op1, s1, mn1, mx1, kk⟩ := x0
          obtain ⟨_, _, b, o, kv1, hA, hr, hkk⟩ := (HK.out.keep hB).at hget
          cases hA
          have HR1 : Hid (∀ w1, Below wr.heap.size wr w1 → w1.rangeAt b (o + k * 8) (ndC op1 s1 mn1 mx1 kv1).toList) := Lib.hid fun w1 hb => range_cell hr (hb.block b (range_lt hr (ndC_ne _ _ _ _ _)))
          have HV1 : Hid (∀ w1, Below wr.heap.size wr w1 → NodeV w1 Q (ndV op1 s1 mn1 mx1 kv1) (.mk op1 s1 mn1 mx1 kk)) := Lib.hid fun w1 hb => ⟨kv1, rfl, hkk.keep hb⟩
          clear hr hkk hget
          generalize Nd.mk op1 s1 mn1 mx1 kk = x0 at *
          generalize x0.bytes = x at *
          go_upto_region 7 with (fail)
          refine region_tail 9 (by kernel_rfl) (fun w' => Below wr.heap.size wr w') (fun w1 w2 => Below w1.heap.size w1 w2) (predsT (rbytesR w op1 s1 (allS op 0#256 st ks k) x mn1 mx1 kv1 ks.length b o cap k)) (by kernel_rfl) (by kernel_rfl) (by kernel_rfl) (by kernel_rfl) (preds_keep _ (rbytesR_keep w op1 s1 (allS op 0#256 st ks k) x mn1 mx1 kv1 ks.length b o cap k)) (Below.refl _ _).drew ?_ ?_
          · refine ⟨?_, ?_, ?_, ?_, ?_, ?_, ?_, ?_, ?_, trivial⟩
            · refine ob_val (fun _ => Below.refl _ _) fun a' w' hS hI hD => ⟨rfl, setV (allS op 0#256 st ks k), ?_, rfl⟩
              have h0 : a'.tmps.getD 3 undef = Value.pointer (some ⟨w.heap.size + 2, 0, none⟩) := hS.at rfl
              simp only [execOp, Act.eval, h0]
              exact run_load_st' w' (w.heap.size + 2) 0 _ (range_row (below_all hI HG3.out))
            · refine ob_val (fun _ => Below.refl _ _) fun a' w' hS hI hD => ⟨rfl, Value.pointer (some ⟨w.heap.size, 7, none⟩), ?_, rfl⟩
              have h0 : a'.tmps.getD 1 undef = Value.pointer (some ⟨w.heap.size, 0, none⟩) := hS.at rfl
              simp only [execOp, Act.eval, h0]
              clear h0
              go_simp
            · refine ob_val (fun _ => Below.refl _ _) fun a' w' hS hI hD => ⟨rfl, Value.slice (some ⟨b, o, none⟩) ks.length cap, ?_, rfl⟩
              have h0 : a'.tmps.getD 18 undef = Value.pointer (some ⟨w.heap.size, 7, none⟩) := dep_at hD 1 (by kernel_rfl)
              have hc := (nd_cell (below_all hI HG1.out)).2.2.2
              exact run_load_cell _ (.tmp 18) rfl _ _ _ h0 hc _ Try.underlying26 rfl
            · refine ob_val (fun _ => Below.refl _ _) fun a' w' hS hI hD => ⟨rfl, Value.int .i64 (k : Int), ?_, rfl⟩
              have h0 : a'.tmps.getD 4 undef = Value.int .i64 (k : Int) := hS.at rfl
              exact run_val (.tmp 4) (by first | exact .inl rfl | exact .inr rfl) _ h0
            · refine ob_val (fun _ => Below.refl _ _) fun a' w' hS hI hD => ⟨rfl, Value.pointer (some ⟨b, o + k * 8, none⟩), ?_, rfl⟩
              have h0 : a'.tmps.getD 19 undef = Value.slice (some ⟨b, o, none⟩) ks.length cap := dep_at hD 2 (by kernel_rfl)
              have h1 : a'.tmps.getD 20 undef = Value.int .i64 (k : Int) := dep_at hD 3 (by kernel_rfl)
              simp only [execOp, Act.eval, h0, h1]
              clear h0 h1
              go_simp
            · refine ob_val (fun _ => Below.refl _ _) fun a' w' hS hI hD => ⟨rfl, ndV op1 s1 mn1 mx1 kv1, ?_, rfl⟩
              have h0 : a'.tmps.getD 21 undef = Value.pointer (some ⟨b, o + k * 8, none⟩) := dep_at hD 4 (by kernel_rfl)
              simp only [execOp, Act.eval, h0]
              exact run_load_nd' w' b (o + k * 8) op1 s1 mn1 mx1 kv1 (HR1.out w' hI)
            · refine ob_call fun a' w' hS hI hD => ⟨rfl, 28, #[ndV op1 s1 mn1 mx1 kv1], ?_, ?_⟩
              · have h0 : a'.tmps.getD 22 undef = ndV op1 s1 mn1 mx1 kv1 := dep_at hD 5 (by kernel_rfl)
                rw [run_call 28 _ _ rfl (enters_of Try.func28 (by kernel_rfl) rfl)]
                simp only [List.map_toArray, List.map_cons, List.map_nil, Act.eval, h0]
              · have h0 : a'.tmps.getD 22 undef = ndV op1 s1 mn1 mx1 kv1 := dep_at hD 5 (by kernel_rfl)
                exact (HT.out _ w' (HV1.out w' hI)).mono fun e w'' ⟨he, hb⟩ => ⟨_, he, rfl, hb, below_more hI hI.size hb⟩
            · refine ob_new fun a' w' hS hI hD => ⟨rfl, .slice (some ⟨w'.heap.size, 0, none⟩) 2 2, w'.alloc (.cells (setC (allS op 0#256 st ks k) ++ setC x) 24), ?_, sets_two (heap_alloc_new _ _), (Below.refl _ _).alloc (Nat.le_refl _) _, hI.alloc hI.size _⟩
              have h0 : a'.tmps.getD 17 undef = setV (allS op 0#256 st ks k) := dep_at hD 0 (by kernel_rfl)
              have h1 : a'.tmps.getD 23 undef = setV x := dep_at hD 6 (by kernel_rfl)
              simp only [execOp, Act.eval, List.map_toArray, List.map_cons, List.map_nil, h0, h1, Sem.run_bind, Sem.run_pure, Result.andThen_ok, run_build_set2]
            · refine ob_call fun a' w' hS hI hD => ⟨rfl, 33, #[a'.tmps.getD 24 undef], ?_, ?_⟩
              · rw [run_call 33 _ _ rfl (enters_of Try.func33 (by kernel_rfl) rfl)]
                simp only [List.map_toArray, List.map_cons, List.map_nil, Act.eval]
              · have h0 : Sets w' (a'.tmps.getD 24 undef) [allS op 0#256 st ks k, x] := dep_at hD 7 (by kernel_rfl)
                exact (runion_calls _ _ w' h0).mono fun e w'' ⟨he, hb⟩ => ⟨_, he, rfl, hb, below_more hI hI.size hb⟩
          · intro v w2 hI hT
            have h8 : v 8 = setV (unionS [allS op 0#256 st ks k, x]) := tall_at _ _ hT 8 (by decide) (by decide)
            have HG1' := Lib.hid (below_all hI HG1.out)
            have HG2' := Lib.hid (below_all hI HG2.out)
            have HG3' := Lib.hid (below_all hI HG3.out)
            have HB' := Lib.hid (below_more hB (by omega) hI)
            have hz2 := hI.size
            clear hT hI HG1 HG2 HG3 hB hc7
            simp only [List.take_succ_cons, List.take_zero, List.drop_succ_cons, List.drop_zero, putAll, Act.put, List.setIfInBounds_toArray, List.set_cons_succ, List.set_cons_zero, Nat.reduceAdd, h8]
            clear h8
            refine st_set rfl (.tmp 3) (.tmp 25) rfl _ rfl (unionS [allS op 0#256 st ks k, x]) rfl _ _ HG3'.out ?_
            intro w5 hg5 hgr5
            have HG5 := Lib.hid hg5
            have HGR5 := Lib.hid hgr5
            clear hg5 hgr5
            go_wp2_with (fail)
            exact ⟨⟨k + 1, by omega, by go_num, heap_kept HGR5.out HG1'.out (fun e => by simp only [Option.some.injEq] at e; omega), heap_kept HGR5.out HG2'.out (fun e => by simp only [Option.some.injEq] at e; omega), by rw [HSS.out, ← union_two]; exact HG5.out, HB'.out.grown HGR5.out (by omega) (fun k e => by simp only [Option.some.injEq] at e; omega)⟩, by simp [intOf]; omega⟩
        · obtain rfl : k = ks.length := by omega
          go_wp2_with (first | (refine ld_set rfl (.tmp 3) rfl _ rfl _ _ HG3.out ?_) | (refine st_set rfl (.tmp 2) (.tmp 26) rfl _ rfl (allS op 0#256 st ks ks.length) rfl 0#256 _ HG2.out ?_; intro w5 hg5 hgr5))
          exact ret_set 2 rfl _ _ _ rfl hg5 rfl ⟨rfl, hB.grown hgr5 (by omega) (fun k e => by simp only [Option.some.injEq] at e; omega)⟩
theorem rbytes_calls (t : Nd) (Q : Nat → Prop) (v : Value) (w : World) (hv : NodeV w Q v t) :
    Calls Try.prog 28 #[v] w fun e w' => e = .returned (setV t.bytes) ∧ Below w.heap.size w w' := rbytes_aux _ t (Nat.le_refl _) Q v w hv
end Go.Proofs.Ytekodfpjoehooaa.Bs
