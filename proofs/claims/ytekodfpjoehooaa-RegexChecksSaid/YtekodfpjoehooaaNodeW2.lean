/- The walks of slices.IndexFunc and slices.ContainsFunc over nodes, for whatever function; of the reference's Null and of Null. -/
import Derived.Test.YtekodfpjoehooaaNodeW1
namespace Go.Proofs.Ytekodfpjoehooaa.Bs
open Go.RowKit Mem
/-- a call of a function's value -/
theorem call_fn {ops : Array Oper} {rest : List Oper} {o : Oper} {a : Act} {w : World} {Q : Exit → Act → World → Prop} (hgd : o.guard = none) (x y : Operand) (tys : Array TypeId) (ho : o.op = .call { callee := .value x, args := #[y], argTypes := tys })
    (F : FuncId) (bs : Array Value) (hx : a.eval x = .func (.func F) #[] bs) (he : ∀ args w, (callFunc F args).run Try.prog w = .ok (.enter F args) w) (yv : Value) (hy : a.eval y = yv) (R : Ending → World → Prop) (hc : Calls Try.prog F (#[yv] ++ bs) w R)
    (h : ∀ e w', R e w' → ∃ v, e = .returned v ∧ wpList Try.prog ops Q rest (a.put o.dst v) w') : wpList Try.prog ops Q (o :: rest) a w :=
  wpList_plain hgd fun K hK => by
    have all : ∀ ρ : Operand → Value, ρ x = .func (.func F) #[] bs → (execOp ρ o).run Try.prog w = .ok (.enter F (#[ρ y] ++ bs)) w := fun ρ hρ => by
      unfold execOp
      simp [ho, resolve, hρ, Deferred.ofValue, invoke, go_sem, he]
    have hrun := all a.eval hx
    rw [hy] at hrun
    unfold Oper.wp
    rw [hrun]
    refine hc.mono ?_
    intro e w' hR
    obtain ⟨v, rfl, h'⟩ := h e w' hR
    exact hK _ _ h'
theorem any_take {α : Type} (p : α → Bool) (l : List α) (k : Nat) (h : k < l.length) : (l.take (k + 1)).any p = ((l.take k).any p || p l[k]) := by
  rw [List.take_succ_eq_append_getElem h, List.any_append]; simp
theorem any_at {α : Type} (p : α → Bool) (l : List α) (k : Nat) (h : k < l.length) (hp : p l[k] = true) : l.any p = true := List.any_eq_true.2 ⟨l[k], List.getElem_mem h, hp⟩
/-- what a function tells of a node -/
def Tells (F : FuncId) (bs : Array Value) (Q : Nat → Prop) (p : Nd → Bool) (k : Nd) (B : Nat) (w0 : World) : Prop :=
  ∀ v w, NodeV w Q v k → Below B w0 w → B ≤ w.heap.size → Calls Try.prog F (#[v] ++ bs) w fun e w' => e = .returned (.bool (p k)) ∧ Below w.heap.size w w'
set_option maxHeartbeats 3200000 in
set_option maxRecDepth 100000 in
theorem indexFunc_calls (F : FuncId) (bs : Array Value) (Q : Nat → Prop) (p : Nd → Bool) (v : Value) (ks : List Nd) (w : World) (he : ∀ args w, (callFunc F args).run Try.prog w = .ok (.enter F args) w) (hk : Kids w Q v ks)
    (hF : ∀ (i : Nat) (k : Nd), ks[i]? = some k → Tells F bs Q p k w.heap.size w) :
    Calls Try.prog 49 #[v, .func (.func F) #[] bs] w fun e w' => (∃ r : Int, e = .returned (.int .i64 r) ∧ decide (0 ≤ r) = ks.any p) ∧ Below w.heap.size w w' := by
  obtain ⟨A, cap, rfl, hlen⟩ := hk.form
  have HK := Lib.hid hk
  have HF := Lib.hid hF
  have HE := Lib.hid he
  clear hk hF he
  go_enter Try.func49, Try.ntmps49
  go_wp2
  go_loopw [8] (fun i wr => ∃ k : Nat, k ≤ ks.length ∧ i = .int .i64 k ∧ (ks.take k).any p = false ∧ Below w.heap.size w wr) (fun i _ => ks.length - (intOf i).toNat)
  case atStart => exact ⟨0, Nat.zero_le _, rfl, by simp, Below.refl _ _⟩
  case round =>
    obtain ⟨k, hk, rfl, hno, hB⟩ := hrel
    have hsz := hB.size
    have HNO := Lib.hid hno
    clear hno
    by_cases hlt : k < ks.length
    · have hget := List.getElem?_eq_getElem hlt
      have HT := Lib.hid (HF.out k _ hget)
      have HAT := Lib.hid (any_take p ks k hlt)
      have HAA := Lib.hid (any_at p ks k hlt)
      generalize ks[k] = x at *
      obtain ⟨op1, s1, mn1, mx1, kk⟩ := x
      obtain ⟨_, _, b, o, kv1, hA, hr, hkk⟩ := (HK.out.keep hB).at hget
      cases hA
      have HR := Lib.hid hr
      have HV1 : Hid (NodeV wr Q (ndV op1 s1 mn1 mx1 kv1) (.mk op1 s1 mn1 mx1 kk)) := Lib.hid ⟨kv1, rfl, hkk⟩
      clear hr hkk hget
      generalize Nd.mk op1 s1 mn1 mx1 kk = x at *
      have HCC := Lib.hid (HT.out _ _ HV1.out hB hsz)
      cases hp : p x
      all_goals
        have HP := Lib.hid hp
        clear hp
        go_wp2_with (first | (refine ld_nd_mid rfl (.tmp 14) rfl _ _ rfl _ _ _ _ _ HR.out ?_) | (refine call_fn rfl (.tmp 11) (.tmp 15) _ rfl F bs rfl HE.out (ndV op1 s1 mn1 mx1 kv1) rfl _ HCC.out ?_; rintro e w1 ⟨rfl, hb1⟩; rw [HP.out]; refine ⟨_, rfl, ?_⟩))
        first
          | exact ⟨⟨k + 1, by omega, by go_num, by rw [HAT.out, HNO.out, HP.out]; rfl, below_more hB hsz hb1⟩, by simp [intOf]; omega⟩
          | (go_ret; exact ⟨⟨_, rfl, by rw [HAA.out HP.out]; simp⟩, below_more hB hsz hb1⟩)
    · obtain rfl : k = ks.length := by omega
      go_wp2_with (fail)
      go_ret
      have h1 := HNO.out
      rw [List.take_of_length_le (Nat.le_refl _)] at h1
      exact ⟨⟨_, rfl, by rw [h1]; decide⟩, hB⟩
theorem containsFunc_calls (F : FuncId) (bs : Array Value) (Q : Nat → Prop) (p : Nd → Bool) (v : Value) (ks : List Nd) (w : World) (he : ∀ args w, (callFunc F args).run Try.prog w = .ok (.enter F args) w) (hk : Kids w Q v ks)
    (hF : ∀ (i : Nat) (k : Nd), ks[i]? = some k → Tells F bs Q p k w.heap.size w) :
    Calls Try.prog 40 #[v, .func (.func F) #[] bs] w fun e w' => e = .returned (.bool (ks.any p)) ∧ Below w.heap.size w w' := by
  have HC := Lib.hid (indexFunc_calls F bs Q p v ks w he hk hF)
  clear he hk hF
  go_enter Try.func40, Try.ntmps40
  go_wp2_with (go_at_call 49; refine HC.out.mono ?_; rintro e w1 ⟨⟨r, rfl, hr⟩, hb1⟩)
  go_ret
  exact ⟨by rw [← hr]; rfl, hb1⟩
end Go.Proofs.Ytekodfpjoehooaa.Bs
