/- Operations on nodes; the walk of the reference's Size. -/
import Derived.Test.YtekodfpjoehooaaNode
namespace Go.Proofs.Ytekodfpjoehooaa.Bs
open Go.RowKit Mem
theorem infoN (op : Int) (s : BitVec 256) (mn mx : Int) (kv : Value) : (Try.prog.info? 28).map (·.size) = some (ndC op s mn mx kv).size := by
  rw [ndC_size]; kernel_rfl
theorem undN : ∃ d, Try.prog.underlying 28 = some d ∧ d.isRow = true := ⟨_, Try.underlying28, rfl⟩
/-- a node's variable is made -/
theorem box_nd {ops : Array Oper} {rest : List Oper} {o : Oper} {a : Act} {w : World} {Q : Exit → Act → World → Prop} (hgd : o.guard = none) (x : Operand) (ho : o.op = .box 28 x)
    (op : Int) (s : BitVec 256) (mn mx : Int) (kv : Value) (hx : a.eval x = ndV op s mn mx kv)
    (h : wpList Try.prog ops Q rest (a.put o.dst (.pointer (some ⟨w.heap.size, 0, none⟩))) (w.alloc (.cells (ndC op s mn mx kv) 28))) : wpList Try.prog ops Q (o :: rest) a w :=
  wpList_plain hgd fun K hK => by
    unfold Oper.wp execOp
    simp only [ho, hx, ndV]
    go_simp
    exact hK _ _ h
/-- a whole node is loaded -/
theorem ld_nd_mid {ops : Array Oper} {rest : List Oper} {o : Oper} {a : Act} {w : World} {Q : Exit → Act → World → Prop} (hgd : o.guard = none) (x : Operand) (ho : o.op = .load 28 x)
    (b i : Nat) (hx : a.eval x = .pointer (some ⟨b, i, none⟩)) (op : Int) (s : BitVec 256) (mn mx : Int) (kv : Value) (hg : w.rangeAt b i (ndC op s mn mx kv).toList)
    (h : wpList Try.prog ops Q rest (a.put o.dst (ndV op s mn mx kv)) w) : wpList Try.prog ops Q (o :: rest) a w := by
  obtain ⟨d, hd1, hd2⟩ := undN
  refine wpList_load_mid hgd _ x ho b i hx (ndC op s mn mx kv).toList d hg hd1 hd2 (infoN op s mn mx kv) ?_
  exact h
theorem nd_cell {w : World} {g : Nat} {op : Int} {s : BitVec 256} {mn mx : Int} {kv : Value} {t : TypeId} (h : w.heap[g]? = some (.cells (ndC op s mn mx kv) t (0, 0))) : w.cell? ⟨g, 0, none⟩ = some (.int .i64 op) ∧ w.cell? ⟨g, 5, none⟩ = some (.int .i64 mn) ∧ w.cell? ⟨g, 6, none⟩ = some (.int .i64 mx) ∧ w.cell? ⟨g, 7, none⟩ = some kv := by
  refine ⟨?_, ?_, ?_, ?_⟩ <;> rw [cell_of_row w g _ _ _ _ h] <;> rfl
theorem sum_take (l : List Nat) (k : Nat) (h : k < l.length) : (l.take (k + 1)).sum = (l.take k).sum + l[k] := by
  rw [List.take_succ_eq_append_getElem h, List.sum_append]; simp
theorem le_sum_mem (l : List Nat) (a : Nat) (h : a ∈ l) : a ≤ l.sum := by
  induction l with
  | nil => cases h
  | cons b l ih =>
    rw [List.sum_cons]
    rcases List.mem_cons.1 h with rfl | h
    · omega
    · have := ih h; omega
theorem sum_take_le (l : List Nat) : ∀ k, (l.take k).sum ≤ l.sum := by
  intro k
  have h := List.take_append_drop k l
  have := congrArg List.sum h
  rw [List.sum_append] at this
  omega
set_option maxHeartbeats 3200000 in
set_option maxRecDepth 100000 in
theorem rsize_aux (n : Nat) : ∀ (t : Nd), SizeOf.sizeOf t ≤ n → ∀ (Q : Nat → Prop) (v : Value) (w : World), NodeV w Q v t → t.size ≤ 4611686018427387904 →
    Calls Try.prog 26 #[v] w fun e w' => e = .returned (.int .i64 (t.size : Int)) ∧ Below w.heap.size w w' := by
  induction n with
  | zero => intro t ht; obtain ⟨op, s, mn, mx, ks⟩ := t; simp only [Nd.mk.sizeOf_spec] at ht; omega
  | succ n IH =>
    intro t ht Q v w hv hsz
    obtain ⟨op, s, mn, mx, ks⟩ := t
    obtain ⟨kv, rfl, hk⟩ := hv
    obtain ⟨A, cap, rfl, hlen⟩ := hk.form
    have HK := Lib.hid hk
    have HSM := Lib.hid (size_mk op s mn mx ks)
    have HIH : Hid (∀ i k, ks[i]? = some k → ∀ v w, NodeV w Q v k → Calls Try.prog 26 #[v] w fun e w' => e = .returned (.int .i64 (k.size : Int)) ∧ Below w.heap.size w w') := Lib.hid fun i k hi v w hv => by
      have hm := List.mem_of_getElem? hi
      have h1 := kid_lt op s mn mx ks k hm
      refine IH k (by omega) Q v w hv ?_
      rw [size_mk] at hsz
      have : k.size ≤ (ks.map Nd.size).sum := le_sum_mem _ _ (List.mem_map_of_mem hm)
      omega
    have hsum : 1 + (ks.map Nd.size).sum ≤ 4611686018427387904 := by rw [← size_mk op s mn mx ks]; exact hsz
    clear hk IH ht hsz
    go_enter Try.func26, Try.ntmps26
    go_wp2_with (refine box_nd rfl (.tmp 0) rfl op s mn mx _ rfl ?_)
    go_loopw [3, 4] (fun a i wr => ∃ (k m : Nat), k ≤ ks.length ∧ i = .int .i64 k ∧ a = .int .i64 m ∧ m = 1 + ((ks.map Nd.size).take k).sum ∧ wr.heap[w.heap.size]? = some (.cells (ndC op s mn mx (.slice A ks.length cap)) 28 (0, 0)) ∧ Below w.heap.size w wr) (fun _ i _ => ks.length - (intOf i).toNat)
    case atStart => exact ⟨0, 1, Nat.zero_le _, rfl, rfl, by simp, heap_alloc_new _ _, (Below.refl _ _).alloc (Nat.le_refl _) _⟩
    case round =>
      obtain ⟨k, m, hk, rfl, rfl, hm, hg, hB⟩ := hrel
      obtain ⟨_, _, _, hc7⟩ := nd_cell hg
      have HG := Lib.hid hg
      have HM := Lib.hid hm
      have hsz := hB.size
      have hle := sum_take_le (ks.map Nd.size) k
      have hmb : m ≤ 4611686018427387904 := by omega
      clear hg hm hle
      by_cases hlt : k < ks.length
      · have hget := List.getElem?_eq_getElem hlt
        have HST := Lib.hid (sum_take (ks.map Nd.size) k (by simpa using hlt))
        have hms : (ks.map Nd.size)[k]'(by simpa using hlt) = (ks[k]).size := by simp
        rw [hms] at HST
        have hle2 := sum_take_le (ks.map Nd.size) (k + 1)
        rw [HST.out] at hle2
        have hcs : m + (ks[k]).size ≤ 4611686018427387904 := by have := HM.out; omega
        have HIK := Lib.hid (HIH.out k _ hget)
        clear hms hle2
        generalize ks[k] = x at *
        obtain ⟨op1, s1, mn1, mx1, kk⟩ := x
        obtain ⟨_, _, b, o, kv1, hA, hr, hkk⟩ := (HK.out.keep hB).at hget
        cases hA
        have HR := Lib.hid hr
        have HV1 : Hid (NodeV wr Q (ndV op1 s1 mn1 mx1 kv1) (.mk op1 s1 mn1 mx1 kk)) := Lib.hid ⟨kv1, rfl, hkk⟩
        clear hr hkk hget
        generalize Nd.mk op1 s1 mn1 mx1 kk = x at *
        generalize x.size = c at *
        go_wp2_with (first | (refine ld_nd_mid rfl (.tmp 16) rfl _ _ rfl _ _ _ _ _ HR.out ?_) | (go_at_call 26; refine (HIK.out _ _ HV1.out).mono ?_; rintro e w1 ⟨rfl, hb1⟩))
        exact ⟨⟨k + 1, m + c, by omega, by go_num, by go_num, by rw [HST.out]; have := HM.out; omega, below_all hb1 HG.out, below_more hB hsz hb1⟩, by simp [intOf]; omega⟩
      · obtain rfl : k = ks.length := by omega
        go_wp2_with (fail)
        go_ret
        have h1 := HM.out
        rw [List.take_of_length_le (by simp), ← HSM.out] at h1
        exact ⟨by rw [h1]; rfl, hB⟩
theorem rsize_calls (t : Nd) (Q : Nat → Prop) (v : Value) (w : World) (hv : NodeV w Q v t) (hs : t.size ≤ 4611686018427387904) :
    Calls Try.prog 26 #[v] w fun e w' => e = .returned (.int .i64 (t.size : Int)) ∧ Below w.heap.size w w' := rsize_aux _ t (Nat.le_refl _) Q v w hv hs
end Go.Proofs.Ytekodfpjoehooaa.Bs
