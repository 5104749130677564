/- The walk of Null. -/
import Derived.Test.YtekodfpjoehooaaNodeW2
import Derived.Shelf.Abstract
namespace Go.Proofs.Ytekodfpjoehooaa.Bs
open Go.RowKit Mem
theorem any_id_map {α : Type} (p : α → Bool) (l : List α) : (l.map p).any id = l.any p := by simp [List.any_map]
theorem all_id_map {α : Type} (p : α → Bool) (l : List α) : (l.map p).all id = !(l.any fun x => !p x) := by
  induction l with
  | nil => rfl
  | cons x l ih => simp only [List.map_cons, List.all_cons, List.any_cons, ih, id]; cases p x <;> simp
set_option maxHeartbeats 3200000 in
set_option maxRecDepth 100000 in
theorem null1_calls (Q : Nat → Prop) (k : Nd) (v : Value) (w : World) (hv : NodeV w Q v k)
    (hn : ∀ v w, NodeV w Q v k → Calls Try.prog 23 #[v] w fun e w' => e = .returned (.bool k.null) ∧ Below w.heap.size w w') :
    Calls Try.prog 41 #[v] w fun e w' => e = .returned (.bool (!k.null)) ∧ Below w.heap.size w w' := by
  obtain ⟨op, s, mn, mx, ks⟩ := k
  obtain ⟨kv, rfl, hk⟩ := hv
  have HV : Hid (∀ w', Below w.heap.size w w' → NodeV w' Q (ndV op s mn mx kv) (.mk op s mn mx ks)) := Lib.hid fun w' hb => ⟨kv, rfl, hk.keep hb⟩
  have HN := Lib.hid hn
  clear hk hn
  generalize Nd.mk op s mn mx ks = t at *
  generalize t.null = b at *
  go_enter Try.func41, Try.ntmps41
  go_wp2_with (first | (refine box_nd rfl (.tmp 0) rfl op s mn mx _ rfl ?_) | (refine ld_nd_mid rfl (.tmp 1) rfl _ _ rfl _ _ _ _ _ (range_row (heap_alloc_new _ _)) ?_) |
    (go_at_call 23; refine (HN.out _ _ (HV.out _ ((Below.refl _ _).alloc (Nat.le_refl _) _))).mono ?_; rintro e w1 ⟨rfl, hb1⟩))
  go_ret
  exact ⟨by cases b <;> rfl, below_more ((Below.refl w.heap.size w).alloc (Nat.le_refl _) (.cells (ndC op s mn mx kv) 28)) (by simp) hb1⟩
theorem null_enters : ∀ args w, (callFunc 23 args).run Try.prog w = .ok (.enter 23 args) w := enters_of Try.func23 (by kernel_rfl) rfl
theorem null1_enters : ∀ args w, (callFunc 41 args).run Try.prog w = .ok (.enter 41 args) w := enters_of Try.func41 (by kernel_rfl) rfl
set_option maxHeartbeats 3200000 in
set_option maxRecDepth 100000 in
theorem null_aux (n : Nat) : ∀ (t : Nd), SizeOf.sizeOf t ≤ n → ∀ (Q : Nat → Prop) (v : Value) (w : World), NodeV w Q v t →
    Calls Try.prog 23 #[v] w fun e w' => e = .returned (.bool t.null) ∧ Below w.heap.size w w' := by
  induction n with
  | zero => intro t ht; obtain ⟨op, s, mn, mx, ks⟩ := t; simp only [Nd.mk.sizeOf_spec] at ht; omega
  | succ n IH =>
    intro t ht Q v w hv
    obtain ⟨op, s, mn, mx, ks⟩ := t
    obtain ⟨kv, rfl, hk⟩ := hv
    have hkid : ∀ (i : Nat) (k : Nd), ks[i]? = some k → ∀ v w, NodeV w Q v k → Calls Try.prog 23 #[v] w fun e w' => e = .returned (.bool k.null) ∧ Below w.heap.size w w' := fun i k hi v w hv => by
      have h1 := kid_lt op s mn mx ks k (List.mem_of_getElem? hi)
      exact IH k (by omega) Q v w hv
    have HC : Hid (∀ w', Below w.heap.size w w' → Calls Try.prog 40 #[kv, .func (.func 23) #[] #[]] w' fun e w'' => e = .returned (.bool (ks.any Nd.null)) ∧ Below w'.heap.size w' w'') := Lib.hid fun w' hb =>
      containsFunc_calls _ _ Q Nd.null kv ks w' null_enters (hk.keep hb) fun i k hi v w0 hv _ _ => hkid i k hi v w0 hv
    have HC1 : Hid (∀ w', Below w.heap.size w w' → Calls Try.prog 40 #[kv, .func (.func 41) #[] #[]] w' fun e w'' => e = .returned (.bool (ks.any fun k => !k.null)) ∧ Below w'.heap.size w' w'') := Lib.hid fun w' hb =>
      containsFunc_calls _ _ Q (fun k => !k.null) kv ks w' null1_enters (hk.keep hb) fun i k hi v w0 hv _ _ => null1_calls Q k v w0 hv (hkid i k hi)
    have hbx : Below w.heap.size w (w.alloc (.cells (ndC op s mn mx kv) 28)) := (Below.refl _ _).alloc (Nat.le_refl _) _
    have HG := Lib.hid (heap_alloc_new w (.cells (ndC op s mn mx kv) 28))
    obtain ⟨hc0, hc5, hc6, hc7⟩ := nd_cell HG.out
    rw [null_mk]
    unfold nullOp
    rw [all_id_map, any_id_map]
    clear IH ht hk hkid
    generalize ks.any Nd.null = any at *
    generalize (ks.any fun k => !k.null) = nall at *
    go_enter Try.func23, Try.ntmps23
    by_cases h1 : op = 1
    · subst h1
      go_wp2_with (first | (refine box_nd rfl (.tmp 0) rfl _ s mn mx _ rfl ?_) | (go_at_call 40; refine (HC1.out _ hbx).mono ?_; rintro e w1 ⟨rfl, hb1⟩))
      go_ret
      exact ⟨by cases nall <;> rfl, below_more hbx (by simp) hb1⟩
    · by_cases h4 : op = 4
      · subst h4
        go_wp2_with (first | (refine box_nd rfl (.tmp 0) rfl _ s mn mx _ rfl ?_) | (go_at_call 40; refine (HC1.out _ hbx).mono ?_; rintro e w1 ⟨rfl, hb1⟩))
        go_ret
        exact ⟨by cases nall <;> rfl, below_more hbx (by simp) hb1⟩
      · by_cases h2 : op = 2
        · subst h2
          go_wp2_with (first | (refine box_nd rfl (.tmp 0) rfl _ s mn mx _ rfl ?_) | (go_at_call 40; refine (HC.out _ hbx).mono ?_; rintro e w1 ⟨rfl, hb1⟩))
          go_ret
          exact ⟨by cases any <;> rfl, below_more hbx (by simp) hb1⟩
        · by_cases h3 : op = 3
          · subst h3
            by_cases hm : mn = 0
            · have hmt : (mn == 0) = true := by simpa using hm
              have HMZ := Lib.hid hm
              clear hm
              go_wp2_with (first | (refine box_nd rfl (.tmp 0) rfl _ s mn mx _ rfl ?_) | (go_at_call 40; refine (HC.out _ hbx).mono ?_; rintro e w1 ⟨rfl, hb1⟩))
              go_ret
              exact ⟨by simp [HMZ.out], hbx⟩
            · have hmf : (mn == 0) = false := by simpa using hm
              go_wp2_with (first | (refine box_nd rfl (.tmp 0) rfl _ s mn mx _ rfl ?_) | (go_at_call 40; refine (HC.out _ hbx).mono ?_; rintro e w1 ⟨rfl, hb1⟩))
              go_ret
              exact ⟨by simp, below_more hbx (by simp) hb1⟩
          · by_cases h5 : op = 5
            · subst h5
              go_wp2_with (first | (refine box_nd rfl (.tmp 0) rfl _ s mn mx _ rfl ?_) | (go_at_call 40; refine (HC.out _ hbx).mono ?_; rintro e w1 ⟨rfl, hb1⟩))
              go_ret
              exact ⟨by cases any <;> rfl, below_more hbx (by simp) hb1⟩
            · have e1 : (op == 1) = false := by simpa using h1
              have e2 : (op == 2) = false := by simpa using h2
              have e3 : (op == 3) = false := by simpa using h3
              have e4 : (op == 4) = false := by simpa using h4
              have e5 : (op == 5) = false := by simpa using h5
              go_wp2_with (first | (refine box_nd rfl (.tmp 0) rfl _ s mn mx _ rfl ?_) | (go_at_call 40; refine (HC.out _ hbx).mono ?_; rintro e w1 ⟨rfl, hb1⟩))
              go_ret
              exact ⟨by simp, hbx⟩
theorem null_calls (t : Nd) (Q : Nat → Prop) (v : Value) (w : World) (hv : NodeV w Q v t) :
    Calls Try.prog 23 #[v] w fun e w' => e = .returned (.bool t.null) ∧ Below w.heap.size w w' := null_aux _ t (Nat.le_refl _) Q v w hv
end Go.Proofs.Ytekodfpjoehooaa.Bs
