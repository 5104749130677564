/- Plain facts on patterns for the laws; the two patterns of the document's example. -/
import Derived.Test.YtekodfpjoehooaaNodeW22
namespace Go.Proofs.Ytekodfpjoehooaa.Bs
open Go.RowKit Mem Reg
/-- no row of kids begins with a node that is as a new variable is -/
inductive NZ : List Nd → Prop
  | mk (ks : List Nd) (h0 : ∀ op s mn mx kk, ks[0]? = some (.mk op s mn mx kk) → op ≠ 0 ∨ s ≠ 0#256) (h1 : ∀ (i : Nat) op s mn mx kk, ks[i]? = some (.mk op s mn mx kk) → NZ kk) : NZ ks
theorem kids_avoid {w : World} {Q : Nat → Prop} {v : Value} {ks : List Nd} {gx ty : Nat} (h : Kids w Q v ks) (hx : w.heap[gx]? = some (.cells (ndC 0 0#256 0 0 (.slice none 0 0)) ty (0, 0))) (hz : NZ ks) : Kids w (fun b => Q b ∧ b ≠ gx) v ks := by
  induction h with
  | mk A cap ks kv hlen hc hr ih =>
    cases hz with
    | mk _ h0 h1 =>
      refine .mk A cap ks kv hlen (fun hp => ?_) fun i op s mn mx kk hi => ih i op s mn mx kk hi (h1 i op s mn mx kk hi)
      obtain ⟨b, o, rfl, hb, hcell⟩ := hc hp
      refine ⟨b, o, rfl, ⟨hb, fun e => ?_⟩, hcell⟩
      subst e
      obtain ⟨x, hx0⟩ : ∃ x, ks[0]? = some x := ⟨_, List.getElem?_eq_getElem hp⟩
      obtain ⟨op, s, mn, mx, kk⟩ := x
      have hr0 := hcell 0 op s mn mx kk hx0
      rw [Nat.zero_mul, Nat.add_zero] at hr0
      have hc7 := hr0 7 (kv 0) rfl
      rw [cell_of_row w b _ _ _ _ hx] at hc7
      have ho : o = 0 := by
        have hlt : o + 7 < 8 := (Array.getElem?_eq_some_iff.1 hc7).1
        omega
      subst ho
      have e0 := hr0 0 _ rfl
      have e1 := hr0 1 _ rfl
      have e2 := hr0 2 _ rfl
      have e3 := hr0 3 _ rfl
      have e4 := hr0 4 _ rfl
      rw [cell_of_row w b _ _ _ _ hx] at e0 e1 e2 e3 e4
      have e0 : some (Value.int .i64 0) = some (Value.int .i64 op) := e0
      have e1 : some (Value.int .u64 (limN 0#256 0)) = some (Value.int .u64 (limN s 0)) := e1
      have e2 : some (Value.int .u64 (limN 0#256 1)) = some (Value.int .u64 (limN s 1)) := e2
      have e3 : some (Value.int .u64 (limN 0#256 2)) = some (Value.int .u64 (limN s 2)) := e3
      have e4 : some (Value.int .u64 (limN 0#256 3)) = some (Value.int .u64 (limN s 3)) := e4
      simp only [Option.some.injEq, Value.int.injEq, true_and, Int.natCast_inj] at e0 e1 e2 e3 e4
      rcases h0 op s mn mx kk hx0 with h | h
      · exact h e0.symm
      · exact h (limN_inj 0#256 s e1 e2 e3 e4).symm
theorem back_back (n : Nat) : ∀ t : Nd, SizeOf.sizeOf t ≤ n → t.back.back = t := by
  induction n with
  | zero => intro t ht; obtain ⟨op, s, mn, mx, ks⟩ := t; simp only [Nd.mk.sizeOf_spec] at ht; omega
  | succ n ih =>
    intro t ht
    obtain ⟨op, s, mn, mx, ks⟩ := t
    rw [back_mk', back_mk']
    congr 1
    have h : ks.map (Nd.back ∘ Nd.back) = ks := by
      have : ∀ k ∈ ks, (Nd.back ∘ Nd.back) k = k := fun k hk => ih k (by have := kid_lt op s mn mx ks k hk; omega)
      rw [List.map_congr_left this]; simp
    unfold backKs
    by_cases h1 : op = 1
    · simp only [h1, if_true, List.map_reverse, List.reverse_reverse, List.map_map, h]
    · simp only [h1, if_false, List.map_map, h]
theorem Nd.back_back (t : Nd) : t.back.back = t := Bs.back_back _ t (Nat.le_refl _)
theorem sum_map_eq {α : Type} (f g : α → Nat) (l : List α) (h : ∀ x ∈ l, f x = g x) : (l.map f).sum = (l.map g).sum := by rw [List.map_congr_left h]
theorem sum_reverse (l : List Nat) : l.reverse.sum = l.sum := by
  induction l with
  | nil => rfl
  | cons a l ih => rw [List.reverse_cons, List.sum_append, ih]; simp; omega
theorem back_size (n : Nat) : ∀ t : Nd, SizeOf.sizeOf t ≤ n → t.back.size = t.size := by
  induction n with
  | zero => intro t ht; obtain ⟨op, s, mn, mx, ks⟩ := t; simp only [Nd.mk.sizeOf_spec] at ht; omega
  | succ n ih =>
    intro t ht
    obtain ⟨op, s, mn, mx, ks⟩ := t
    rw [back_mk', size_mk, size_mk]
    have h : (ks.map (Nd.size ∘ Nd.back)).sum = (ks.map Nd.size).sum := sum_map_eq _ _ _ fun k hk => ih k (by have := kid_lt op s mn mx ks k hk; omega)
    unfold backKs
    by_cases h1 : op = 1
    · simp only [h1, if_true, List.map_reverse, List.map_map, sum_reverse, h]
    · simp only [h1, if_false, List.map_map, h]
theorem Nd.back_size (t : Nd) : t.back.size = t.size := Bs.back_size _ t (Nat.le_refl _)
theorem foldl_or_reverse (l : List (BitVec 256)) (a : BitVec 256) : l.reverse.foldl (· ||| ·) a = l.foldl (· ||| ·) a := by
  induction l generalizing a with
  | nil => rfl
  | cons x l ih => rw [List.reverse_cons, List.foldl_append, ih, List.foldl_cons, List.foldl_nil, List.foldl_cons, foldl_or l a, foldl_or l (a ||| x), BitVec.or_assoc, BitVec.or_assoc, BitVec.or_comm x]
theorem back_bytes (n : Nat) : ∀ t : Nd, SizeOf.sizeOf t ≤ n → t.back.bytes = t.bytes := by
  induction n with
  | zero => intro t ht; obtain ⟨op, s, mn, mx, ks⟩ := t; simp only [Nd.mk.sizeOf_spec] at ht; omega
  | succ n ih =>
    intro t ht
    obtain ⟨op, s, mn, mx, ks⟩ := t
    rw [back_mk', bytes_mk, bytes_mk]
    have h : ks.map (Nd.bytes ∘ Nd.back) = ks.map Nd.bytes := List.map_congr_left fun k hk => ih k (by have := kid_lt op s mn mx ks k hk; omega)
    unfold backKs
    by_cases h1 : op = 1
    · simp only [h1, if_true, List.map_reverse, List.map_map, foldl_or_reverse, h]
    · simp only [h1, if_false, List.map_map, h]
theorem Nd.back_bytes (t : Nd) : t.back.bytes = t.bytes := Bs.back_bytes _ t (Nat.le_refl _)
theorem back_null (n : Nat) : ∀ t : Nd, SizeOf.sizeOf t ≤ n → t.back.null = t.null := by
  induction n with
  | zero => intro t ht; obtain ⟨op, s, mn, mx, ks⟩ := t; simp only [Nd.mk.sizeOf_spec] at ht; omega
  | succ n ih =>
    intro t ht
    obtain ⟨op, s, mn, mx, ks⟩ := t
    rw [back_mk', null_mk, null_mk]
    have h : ks.map (Nd.null ∘ Nd.back) = ks.map Nd.null := List.map_congr_left fun k hk => ih k (by have := kid_lt op s mn mx ks k hk; omega)
    unfold backKs
    by_cases h1 : op = 1
    · simp only [h1, if_true, List.map_reverse, List.map_map, h]
      simp [nullOp]
    · simp only [h1, if_false, List.map_map, h]
theorem Nd.back_null (t : Nd) : t.back.null = t.null := Bs.back_null _ t (Nat.le_refl _)
theorem back_may (d : Nat) : ∀ t : Nd, t.back.may d = t.may d := by
  induction d with
  | zero => intro t; rfl
  | succ d ih =>
    intro t
    obtain ⟨op, s, mn, mx, ks⟩ := t
    rw [back_mk']
    have h : (backKs op ks).all (Nd.may d) = ks.all (Nd.may d) := by
      have h2 : (ks.map Nd.back).all (Nd.may d) = ks.all (Nd.may d) := by rw [List.all_map]; congr 1; funext k; exact ih k
      unfold backKs
      by_cases h1 : op = 1
      · simp only [h1, if_true, List.all_reverse, h2]
      · simp only [h1, if_false, h2]
    show (okN op mn mx (backKs op ks).length && (backKs op ks).all fun k => Nd.may d k) = (okN op mn mx ks.length && ks.all fun k => Nd.may d k)
    rw [backKs_length, h]
theorem Nd.back_check (t : Nd) : t.back.check = t.check := by unfold Nd.check; rw [back_may]
/-- the document's example -/
def sX : BitVec 256 := BitVec.ofNat 256 25108406941546723056364004793593481054836439088298861789185
def tS : Nd := .mk 0 sX 0 0 []
def tL : Nd := .mk 1 0#256 0 0 [.mk 0 (bit 97) 0 0 []]
def tA : Nd := .mk 3 0#256 0 (-1) [tL]
def tB : Nd := .mk 1 0#256 0 0 [tA, tS]
theorem sX_val : setV sX = .agg #[.int .u64 1, .int .u64 2, .int .u64 3, .int .u64 4] := by kernel_rfl
theorem tA_null : tA.null = true := by rw [tA, null_mk]; rfl
theorem tA_not_null : (Nd.mk 5 0#256 0 0 [tA]).null = false := by rw [null_mk, List.map_cons, List.map_nil, tA_null]; rfl
theorem tL_size : tL.size = 2 := by simp [tL, size_mk]
theorem tA_size : tA.size = 3 := by simp [tA, tL_size, size_mk]
theorem tS_size : tS.size = 1 := by simp [tS, size_mk]
theorem tB_size : tB.size = 5 := by simp [tB, tA_size, tS_size, size_mk]
theorem tB_back_ne : eqB tB.back tB = false := by
  refine eqB_false fun e => ?_
  have h : backKs 1 [tA, tS] = [tA, tS] := by
    rw [tB, back_mk'] at e
    injection e
  have h2 : [tS.back, tA.back] = [tA, tS] := h
  injection h2 with h3 _
  rw [tS, back_mk', tA] at h3
  injection h3 with h4
  exact absurd h4 (by decide)
theorem tB_back_eq : eqB tB.back.back tB = true := eqB_true tB.back_back
theorem tB_check : tB.check = 0 := by
  have h : tB.may 64 = true := by decide
  unfold Nd.check; rw [h]; rfl
theorem tA_rep_check : (Nd.mk 3 0#256 3 2 [tA]).check = 1 := by
  have h : (Nd.mk 3 0#256 3 2 [tA]).may 64 = false := by decide
  unfold Nd.check; rw [h]; rfl
theorem tA_bytes : tA.bytes = bit 97 := by simp [tA, tL, bytes_mk]
theorem of_a : ofS [97] = bit 97 := by decide
theorem tB_nz : NZ [tA, tS] := by
  have hS : NZ [] := .mk [] (fun _ _ _ _ _ h => by simp at h) (fun _ _ _ _ _ _ h => by simp at h)
  have hL : NZ [Nd.mk 0 (bit 97) 0 0 []] := .mk _ (fun op s mn mx kk h => by
    simp at h; obtain ⟨rfl, rfl, _⟩ := h; exact .inr (by decide)) (fun i op s mn mx kk h => by
    cases i with
    | zero => simp at h; obtain ⟨_, _, _, _, rfl⟩ := h; exact hS
    | succ i => simp at h)
  have hA : NZ [tL] := .mk _ (fun op s mn mx kk h => by
    simp [tL] at h; obtain ⟨rfl, _⟩ := h; exact .inl (by decide)) (fun i op s mn mx kk h => by
    cases i with
    | zero => simp [tL] at h; obtain ⟨_, _, _, _, rfl⟩ := h; exact hL
    | succ i => simp at h)
  exact .mk _ (fun op s mn mx kk h => by
    simp [tA] at h; obtain ⟨rfl, _⟩ := h; exact .inl (by decide)) (fun i op s mn mx kk h => by
    match i, h with
    | 0, h => simp [tA] at h; obtain ⟨_, _, _, _, rfl⟩ := h; exact hA
    | 1, h => simp [tS] at h; obtain ⟨_, _, _, _, rfl⟩ := h; exact hS
    | i + 2, h => simp at h)
section
variable {w : World} {ρ : Operand → Value} {o : Oper}
theorem run_field_kids (x : Operand) (ho : o.op = .field 28 x 4) (op : Int) (s : BitVec 256) (mn mx : Int) (kv : Value) (hx : ρ x = ndV op s mn mx kv) : (execOp ρ o).run Try.prog w = .ok (.value kv) w := by
  unfold execOp
  simp only [ho, hx]
  unfold ndV ndC
  generalize (limN s 0 : Int) = a0
  generalize (limN s 1 : Int) = a1
  generalize (limN s 2 : Int) = a2
  generalize (limN s 3 : Int) = a3
  kernel_rfl
theorem run_field_op (x : Operand) (ho : o.op = .field 28 x 0) (op : Int) (s : BitVec 256) (mn mx : Int) (kv : Value) (hx : ρ x = ndV op s mn mx kv) : (execOp ρ o).run Try.prog w = .ok (.value (.int .i64 op)) w := by
  unfold execOp
  simp only [ho, hx]
  unfold ndV ndC
  generalize (limN s 0 : Int) = a0
  generalize (limN s 1 : Int) = a1
  generalize (limN s 2 : Int) = a2
  generalize (limN s 3 : Int) = a3
  kernel_rfl
end
end Go.Proofs.Ytekodfpjoehooaa.Bs
