/- The walks of (*walk).all, Size, Bytes. -/
import Derived.Test.YtekodfpjoehooaaNodeW11
namespace Go.Proofs.Ytekodfpjoehooaa.Bs
open Go.RowKit Mem Reg
theorem foldl_or (l : List (BitVec 256)) : ∀ a : BitVec 256, l.foldl (· ||| ·) a = a ||| l.foldl (· ||| ·) 0#256 := by
  induction l with
  | nil => intro a; simp
  | cons x l ih => intro a; rw [List.foldl_cons, ih, List.foldl_cons, ih (0#256 ||| x)]; simp [BitVec.or_assoc]
theorem foldl_or_snoc (l : List (BitVec 256)) (x : BitVec 256) : (l ++ [x]).foldl (· ||| ·) 0#256 = l.foldl (· ||| ·) 0#256 ||| x := by rw [List.foldl_append]; rfl
theorem seeS_eq (op : Int) (s st : BitVec 256) : seeS op s st = s ||| (if op = 0 then st else 0#256) := by
  unfold seeS; split <;> simp
/-- what has been counted behind k kids -/
def allS (op : Int) (s st : BitVec 256) (ks : List Nd) (k : Nat) : BitVec 256 := seeS op s st ||| ((ks.take k).map Nd.bytes).foldl (· ||| ·) 0#256
def allM (m : Nat) (ks : List Nd) (k : Nat) : Nat := m + 1 + ((ks.map Nd.size).take k).sum
theorem allS_zero (op : Int) (s st : BitVec 256) (ks : List Nd) : allS op s st ks 0 = seeS op s st := by simp [allS]
theorem allM_zero (m : Nat) (ks : List Nd) : allM m ks 0 = m + 1 := by simp [allM]
theorem allS_succ (op : Int) (s st : BitVec 256) (ks : List Nd) (k : Nat) (h : k < ks.length) : allS op s st ks (k + 1) = allS op s st ks k ||| ks[k].bytes := by
  unfold allS
  rw [List.take_succ_eq_append_getElem h, List.map_append, List.map_cons, List.map_nil, foldl_or_snoc, BitVec.or_assoc]
theorem allM_succ (m : Nat) (ks : List Nd) (k : Nat) (h : k < ks.length) : allM m ks (k + 1) = allM m ks k + ks[k].size := by
  unfold allM
  rw [sum_take (ks.map Nd.size) k (by simpa using h)]
  simp; omega
theorem allS_all (op : Int) (s st : BitVec 256) (mn mx : Int) (ks : List Nd) : allS op s st ks ks.length = s ||| (Nd.mk op st mn mx ks).bytes := by
  unfold allS
  rw [List.take_of_length_le (Nat.le_refl _), seeS_eq, bytes_mk, foldl_or _ (if op = 0 then st else 0#256), BitVec.or_assoc]
theorem allM_all (m : Nat) (op : Int) (st : BitVec 256) (mn mx : Int) (ks : List Nd) : allM m ks ks.length = m + (Nd.mk op st mn mx ks).size := by
  unfold allM
  rw [List.take_of_length_le (by simp), size_mk]; omega
theorem allM_le (m : Nat) (op : Int) (st : BitVec 256) (mn mx : Int) (ks : List Nd) (k : Nat) : allM m ks k ≤ m + (Nd.mk op st mn mx ks).size := by
  unfold allM
  have := sum_take_le (ks.map Nd.size) k
  rw [size_mk]; omega
def allR (w : World) (g : Nat) (op : Int) (st : BitVec 256) (mn mx : Int) (kv : Value) : List (Value → World → Prop) := [
  fun v _ => v = Value.pointer (some ⟨g, 0, none⟩),
  fun v _ => v = Value.pointer (some ⟨g, 0, none⟩),
  fun v _ => v = Value.pointer (some ⟨g, 0, none⟩),
  fun v _ => v = ndV op st mn mx kv]
theorem allR_keep (w : World) (g : Nat) (op : Int) (st : BitVec 256) (mn mx : Int) (kv : Value) : PredsKeep (allR w g op st mn mx kv) :=
  ⟨fun _ _ _ h _ => h,
  fun _ _ _ h _ => h,
  fun _ _ _ h _ => h,
  fun _ _ _ h _ => h, trivial⟩

set_option maxHeartbeats 6400000 in
set_option maxRecDepth 100000 in
theorem all_aux (n : Nat) : ∀ (t : Nd), SizeOf.sizeOf t ≤ n → ∀ (Q : Nat → Prop) (v : Value) (g ty m : Nat) (s : BitVec 256) (w : World), NodeV w Q v t → (∀ b, Q b → b ≠ g) → m + t.size ≤ 4611686018427387904 → w.heap[g]? = some (.cells (tlC m s) ty (0, 0)) →
    Calls Try.prog 42 #[.pointer (some ⟨g, 0, none⟩), v] w fun e w' => e = .returned (.pointer (some ⟨g, 0, none⟩)) ∧ w'.heap[g]? = some (.cells (tlC (m + t.size) (s ||| t.bytes)) ty (0, 0)) ∧ w.grownBy w' (some g) := by
  induction n with
  | zero => intro t ht; obtain ⟨op, s, mn, mx, ks⟩ := t; simp only [Nd.mk.sizeOf_spec] at ht; omega
  | succ n IH =>
    intro t ht Q v g ty m s w hv hq hsz hg
    obtain ⟨op, st, mn, mx, ks⟩ := t
    obtain ⟨kv, rfl, hk⟩ := hv
    obtain ⟨A, cap, rfl, hlen⟩ := hk.form
    have HK := Lib.hid hk
    have HQ := Lib.hid hq
    have HIH : Hid (∀ i k, ks[i]? = some k → ∀ v m s w, NodeV w Q v k → m + k.size ≤ 4611686018427387904 → w.heap[g]? = some (.cells (tlC m s) ty (0, 0)) → Calls Try.prog 42 #[.pointer (some ⟨g, 0, none⟩), v] w fun e w' => e = .returned (.pointer (some ⟨g, 0, none⟩)) ∧ w'.heap[g]? = some (.cells (tlC (m + k.size) (s ||| k.bytes)) ty (0, 0)) ∧ w.grownBy w' (some g)) := Lib.hid fun i k hi v m s w hv hm hg => by
      have h1 := kid_lt op st mn mx ks k (List.mem_of_getElem? hi)
      exact IH k (by omega) Q v g ty m s w hv hq hm hg
    have HML := Lib.hid (allM_le m op st mn mx ks)
    have HMA := Lib.hid (allM_all m op st mn mx ks)
    have HSA := Lib.hid (allS_all op s st mn mx ks)
    rw [← HMA.out, ← HSA.out]
    have HSZ := Lib.hid hsz
    have hmb : m ≤ 4611686018427387904 := by omega
    have HG := Lib.hid hg
    have hglt := heap_lt hg
    clear hk IH ht hsz hq hg
    go_enter Try.func42, Try.ntmps42
    go_upto_region 1 with (refine box_nd rfl (.tmp 1) rfl op st mn mx _ rfl ?_)
    have HB1 : Hid (Below w.heap.size w (w.alloc (.cells (ndC op st mn mx (.slice A ks.length cap)) 28))) := Lib.hid ((Below.refl _ _).alloc (Nat.le_refl _) _)
    have HN1 := Lib.hid (heap_alloc_new w (.cells (ndC op st mn mx (.slice A ks.length cap)) 28))
    have HG1 := Lib.hid (below_all HB1.out HG.out)
    have hz1 : (w.alloc (.cells (ndC op st mn mx (.slice A ks.length cap)) 28)).heap.size = w.heap.size + 1 := by simp
    generalize w.alloc (.cells (ndC op st mn mx (.slice A ks.length cap)) 28) = w1 at *
    refine region_tail 4 (by kernel_rfl) (fun w' => Below w1.heap.size w1 w') (fun w1 w2 => Below w1.heap.size w1 w2) (predsT (allR w g op st mn mx (Value.slice A ks.length cap))) (by kernel_rfl) (by kernel_rfl) (by kernel_rfl) (by kernel_rfl) (preds_keep _ (allR_keep w g op st mn mx (Value.slice A ks.length cap))) (Below.refl _ _).drew ?_ ?_
    · refine ⟨?_, ?_, ?_, ?_, trivial⟩
      · refine ob_val (fun _ => Below.refl _ _) fun a' w' hS hI hD => ⟨rfl, Value.pointer (some ⟨g, 0, none⟩), ?_, rfl⟩
        have h0 : a'.tmps.getD 0 undef = Value.pointer (some ⟨g, 0, none⟩) := hS.at rfl
        exact run_val (.tmp 0) (by first | exact .inl rfl | exact .inr rfl) _ h0
      · refine ob_val (fun _ => Below.refl _ _) fun a' w' hS hI hD => ⟨rfl, Value.pointer (some ⟨g, 0, none⟩), ?_, rfl⟩
        have h0 : a'.tmps.getD 7 undef = Value.pointer (some ⟨g, 0, none⟩) := dep_at hD 0 (by kernel_rfl)
        simp only [execOp, Act.eval, h0]
        rfl
      · refine ob_val (fun _ => Below.refl _ _) fun a' w' hS hI hD => ⟨rfl, Value.pointer (some ⟨g, 0, none⟩), ?_, rfl⟩
        have h0 : a'.tmps.getD 8 undef = Value.pointer (some ⟨g, 0, none⟩) := dep_at hD 1 (by kernel_rfl)
        simp only [execOp, Act.eval, h0]
        clear h0
        go_simp
      · refine ob_val (fun _ => Below.refl _ _) fun a' w' hS hI hD => ⟨rfl, ndV op st mn mx (Value.slice A ks.length cap), ?_, rfl⟩
        have h0 : a'.tmps.getD 3 undef = Value.pointer (some ⟨w.heap.size, 0, none⟩) := hS.at rfl
        simp only [execOp, Act.eval, h0]
        exact run_load_nd' w' (w.heap.size) 0 op st mn mx _ (range_row (below_all hI HN1.out))
    · intro v w2 hI hT
      have h2 : v 2 = .pointer (some ⟨g, 0, none⟩) := tall_at _ _ hT 2 (by decide) (by decide)
      have h3 : v 3 = ndV op st mn mx (.slice A ks.length cap) := tall_at _ _ hT 3 (by decide) (by decide)
      have HG2 := Lib.hid (below_all hI HG1.out)
      have HN2 := Lib.hid (below_all hI HN1.out)
      have HB2 := Lib.hid (below_more HB1.out (by omega) hI)
      have hz2 := hI.size
      clear hT hI HG1 HN1 HB1
      simp only [List.take_succ_cons, List.take_zero, List.drop_succ_cons, List.drop_zero, putAll, Act.put, List.setIfInBounds_toArray, List.set_cons_succ, List.set_cons_zero, Nat.reduceAdd, h2, h3]
      clear h2 h3
      have HSEE : Hid (Calls Try.prog 50 #[.pointer (some ⟨g, 0, none⟩), ndV op st mn mx (.slice A ks.length cap)] w2 fun e w' => e = .returned (.tuple #[]) ∧ w'.heap[g]? = some (.cells (tlC (m + 1) (seeS op s st)) ty (0, 0)) ∧ w2.grownBy w' (some g)) := Lib.hid (see_calls m g ty s op st mn mx (.slice A ks.length cap) hmb w2 HG2.out)
      clear HG2
      go_upto_region 2 with (go_at_call 50; refine HSEE.out.mono ?_; rintro e w3 ⟨rfl, hg3, hgr3⟩)
      have HG3 := Lib.hid hg3
      have HN3 := Lib.hid (heap_kept hgr3 HN2.out (fun e => by simp only [Option.some.injEq] at e; omega))
      have HGR3 := Lib.hid (grown_trans (grown_of_below HB2.out (some g)) hgr3)
      obtain ⟨_, _, _, hc7⟩ := nd_cell HN3.out
      clear hg3 hgr3 HN2 HB2 HSEE hz2
      go_wp2_with (fail)
      clear hc7
      go_loopw [15] (fun i wr => ∃ k : Nat, k ≤ ks.length ∧ i = .int .i64 k ∧ wr.heap[g]? = some (.cells (tlC (allM m ks k) (allS op s st ks k)) ty (0, 0)) ∧ w.grownBy wr (some g)) (fun i _ => ks.length - (intOf i).toNat)
      case atStart => exact ⟨0, Nat.zero_le _, rfl, by rw [allM_zero, allS_zero]; exact HG3.out, HGR3.out⟩
      case round =>
        clear HG3 HN3 HGR3
        obtain ⟨k, hk, rfl, hg, hgr⟩ := hrel
        have HG := Lib.hid hg
        have HGR := Lib.hid hgr
        have hszr := hgr.size
        clear hg hgr
        by_cases hlt : k < ks.length
        · have hget := List.getElem?_eq_getElem hlt
          have HSS := Lib.hid (allS_succ op s st ks k hlt)
          have HMS := Lib.hid (allM_succ m ks k hlt)
          have HIK := Lib.hid (HIH.out k _ hget)
          have hle := HML.out (k + 1)
          rw [HMS.out] at hle
          have hcs : allM m ks k + ks[k].size ≤ 4611686018427387904 := by have := HSZ.out; omega
          clear hle
          generalize ks[k] = x at *
          obtain ⟨op1, s1, mn1, mx1, kk⟩ := x
          obtain ⟨_, _, b, o, kv1, hA, hr, hkk⟩ := (HK.out.grown HGR.out (fun b hb e => by simp only [Option.some.injEq] at e; exact HQ.out b hb e)).at hget
          cases hA
          have HR := Lib.hid hr
          have H1 := Lib.hid hkk.oneCell
          have HV1 : Hid (∀ w1, Below wr.heap.size wr w1 → NodeV w1 Q (ndV op1 s1 mn1 mx1 kv1) (.mk op1 s1 mn1 mx1 kk)) := Lib.hid fun w1 hb => ⟨kv1, rfl, hkk.keep hb⟩
          clear hr hkk hget
          generalize Nd.mk op1 s1 mn1 mx1 kk = x at *
          have HCS := Lib.hid hcs
          clear hcs
          go_wp2_with (first | (refine ld_nd_mid rfl (.tmp 17) rfl _ _ rfl _ _ _ _ _ HR.out ?_) |
            (refine st_nd rfl (.tmp 6) (.tmp 18) rfl _ rfl op1 s1 mn1 mx1 kv1 rfl H1.out _ rfl _ (heap_alloc_new _ _) ?_; intro w1 hg1 hgr1; have HG1 := Lib.hid hg1; have HB1 : Hid (Below wr.heap.size wr w1) := Lib.hid (((Below.refl _ _).alloc (Nat.le_refl _) _).grown hgr1 (by simp) (fun k e => by cases e; omega)); have hz1 : wr.heap.size + 1 ≤ w1.heap.size := (by simpa using hgr1.size); clear hg1 hgr1) |
            (refine ld_nd_mid rfl (.tmp 6) rfl _ _ rfl _ _ _ _ _ (range_row HG1.out) ?_) |
            (go_at_call 42; refine (HIK.out _ (allM m ks k) (allS op s st ks k) _ (HV1.out _ HB1.out) HCS.out (below_all HB1.out HG.out)).mono ?_; rintro e w4 ⟨rfl, hg4, hgr4⟩; have HG4 := Lib.hid hg4; have HGR4 := Lib.hid hgr4; clear hg4 hgr4))
          exact ⟨⟨k + 1, by omega, by go_num, by rw [HSS.out, HMS.out]; exact HG4.out, grown_trans (grown_trans HGR.out (grown_of_below HB1.out (some g))) HGR4.out⟩, by simp [intOf]; omega⟩
        · obtain rfl : k = ks.length := by omega
          go_wp2_with (fail)
          go_ret
          exact ⟨rfl, HG.out, HGR.out⟩
end Go.Proofs.Ytekodfpjoehooaa.Bs
