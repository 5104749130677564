/- The walk of the reference's Null. -/
import Derived.Test.YtekodfpjoehooaaNodeW3
namespace Go.Proofs.Ytekodfpjoehooaa.Bs
open Go.RowKit Mem
theorem all_take {α : Type} (p : α → Bool) (l : List α) (k : Nat) (h : k < l.length) : (l.take (k + 1)).all p = ((l.take k).all p && p l[k]) := by
  rw [List.take_succ_eq_append_getElem h, List.all_append]; simp
theorem nullOp_eq (op mn : Int) (ks : List Nd) : nullOp op mn (ks.map Nd.null) = if op = 1 ∨ op = 4 then !(ks.any fun k => !k.null) else if op = 2 then ks.any Nd.null else if op = 3 then decide (mn = 0) || ks.any Nd.null else if op = 5 then !(ks.any Nd.null) else false := by
  unfold nullOp
  rw [any_id_map, all_id_map]
theorem all_any (ks : List Nd) : ks.all Nd.null = !(ks.any fun k => !k.null) := by
  rw [← all_id_map, List.all_map]; rfl
set_option maxHeartbeats 3200000 in
set_option maxRecDepth 100000 in
theorem rnull_aux (n : Nat) : ∀ (t : Nd), SizeOf.sizeOf t ≤ n → ∀ (Q : Nat → Prop) (v : Value) (w : World), NodeV w Q v t →
    Calls Try.prog 24 #[v] w fun e w' => e = .returned (.bool t.null) ∧ Below w.heap.size w w' := by
  induction n with
  | zero => intro t ht; obtain ⟨op, s, mn, mx, ks⟩ := t; simp only [Nd.mk.sizeOf_spec] at ht; omega
  | succ n IH =>
    intro t ht Q v w hv
    obtain ⟨op, s, mn, mx, ks⟩ := t
    obtain ⟨kv, rfl, hk⟩ := hv
    obtain ⟨A, cap, rfl, hlen⟩ := hk.form
    have HK := Lib.hid hk
    have HIH : Hid (∀ (i : Nat) (k : Nd), ks[i]? = some k → ∀ v w, NodeV w Q v k → Calls Try.prog 24 #[v] w fun e w' => e = .returned (.bool k.null) ∧ Below w.heap.size w w') := Lib.hid fun i k hi v w hv => by
      have h1 := kid_lt op s mn mx ks k (List.mem_of_getElem? hi)
      exact IH k (by omega) Q v w hv
    rw [null_mk]
    clear hk IH ht
    go_enter Try.func24, Try.ntmps24
    go_wp2_with (refine box_nd rfl (.tmp 0) rfl op s mn mx _ rfl ?_)
    go_loopw [3, 4, 5] (fun al an i wr => ∃ k : Nat, k ≤ ks.length ∧ i = .int .i64 k ∧ al = .bool ((ks.take k).all Nd.null) ∧ an = .bool ((ks.take k).any Nd.null) ∧ wr.heap[w.heap.size]? = some (.cells (ndC op s mn mx (.slice A ks.length cap)) 28 (0, 0)) ∧ Below w.heap.size w wr) (fun _ _ i _ => ks.length - (intOf i).toNat)
    case atStart => exact ⟨0, Nat.zero_le _, rfl, by simp, by simp, heap_alloc_new _ _, (Below.refl _ _).alloc (Nat.le_refl _) _⟩
    case round =>
      obtain ⟨k, hk, rfl, rfl, rfl, hg, hB⟩ := hrel
      obtain ⟨hc0, hc5, _, hc7⟩ := nd_cell hg
      have HG := Lib.hid hg
      have hsz := hB.size
      clear hg
      by_cases hlt : k < ks.length
      · have hget := List.getElem?_eq_getElem hlt
        have HAL := Lib.hid (all_take Nd.null ks k hlt)
        have HAN := Lib.hid (any_take Nd.null ks k hlt)
        have HIK := Lib.hid (HIH.out k _ hget)
        generalize ks[k] = x at *
        obtain ⟨op1, s1, mn1, mx1, kk⟩ := x
        obtain ⟨_, _, b, o, kv1, hA, hr, hkk⟩ := (HK.out.keep hB).at hget
        cases hA
        have HR := Lib.hid hr
        have HV1 : Hid (NodeV wr Q (ndV op1 s1 mn1 mx1 kv1) (.mk op1 s1 mn1 mx1 kk)) := Lib.hid ⟨kv1, rfl, hkk⟩
        clear hr hkk hget
        generalize Nd.mk op1 s1 mn1 mx1 kk = x at *
        generalize hnx : x.null = nx at *
        have HNX := Lib.hid hnx
        clear hnx
        generalize (ks.take k).all Nd.null = al at *
        generalize (ks.take k).any Nd.null = an at *
        cases al <;> cases an <;> cases nx
        all_goals
          go_wp2_with (first | (refine ld_nd_mid rfl (.tmp 17) rfl _ _ rfl _ _ _ _ _ HR.out ?_) | (go_at_call 24; refine (HIK.out _ _ HV1.out).mono ?_; rintro e w1 ⟨rfl, hb1⟩))
          exact ⟨⟨k + 1, by omega, by go_num, by rw [HAL.out]; rfl, by rw [HAN.out]; rfl, below_all hb1 HG.out, below_more hB hsz hb1⟩, by simp [intOf]; omega⟩
      · obtain rfl : k = ks.length := by omega
        rw [List.take_of_length_le (Nat.le_refl _)]
        rw [all_any]
        obtain ⟨any, hany⟩ : ∃ b, ks.any Nd.null = b := ⟨_, rfl⟩
        obtain ⟨nall, hnall⟩ : ∃ b, (ks.any fun k => !k.null) = b := ⟨_, rfl⟩
        rw [hany, hnall]
        have HA := Lib.hid hany
        have HN := Lib.hid hnall
        clear hany hnall
        by_cases h1 : op = 1
        · subst h1
          go_wp2_with (fail)
          go_ret
          exact ⟨by rw [nullOp_eq, HN.out]; cases nall <;> rfl, hB⟩
        · by_cases h4 : op = 4
          · subst h4
            go_wp2_with (fail)
            go_ret
            exact ⟨by rw [nullOp_eq, HN.out]; cases nall <;> rfl, hB⟩
          · by_cases h2 : op = 2
            · subst h2
              go_wp2_with (fail)
              go_ret
              exact ⟨by rw [nullOp_eq, HA.out]; cases any <;> rfl, hB⟩
            · by_cases h3 : op = 3
              · subst h3
                by_cases hm : mn = 0
                · have hmt : (mn == 0) = true := by simpa using hm
                  have HMZ := Lib.hid hm
                  clear hm
                  go_wp2_with (fail)
                  go_ret
                  exact ⟨by rw [nullOp_eq, HA.out]; simp [HMZ.out], hB⟩
                · have hmf : (mn == 0) = false := by simpa using hm
                  go_wp2_with (fail)
                  go_ret
                  exact ⟨by rw [nullOp_eq, HA.out]; simp [hm], hB⟩
              · by_cases h5 : op = 5
                · subst h5
                  go_wp2_with (fail)
                  go_ret
                  exact ⟨by rw [nullOp_eq, HA.out]; cases any <;> rfl, hB⟩
                · have e1 : (op == 1) = false := by simpa using h1
                  have e2 : (op == 2) = false := by simpa using h2
                  have e3 : (op == 3) = false := by simpa using h3
                  have e4 : (op == 4) = false := by simpa using h4
                  have e5 : (op == 5) = false := by simpa using h5
                  go_wp2_with (fail)
                  go_ret
                  exact ⟨by rw [nullOp_eq]; simp [h1, h2, h3, h4, h5], hB⟩
theorem rnull_calls (t : Nd) (Q : Nat → Prop) (v : Value) (w : World) (hv : NodeV w Q v t) :
    Calls Try.prog 24 #[v] w fun e w' => e = .returned (.bool t.null) ∧ Below w.heap.size w w' := rnull_aux _ t (Nat.le_refl _) Q v w hv
end Go.Proofs.Ytekodfpjoehooaa.Bs
