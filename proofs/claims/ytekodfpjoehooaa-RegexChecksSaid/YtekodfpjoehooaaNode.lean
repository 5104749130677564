/- Patterns as trees, and how they lie in memory: plain facts, no walk. -/
import Derived.Test.YtekodfpjoehooaaSetEq
import Derived.Test.YtekodfpjoehooaaMem2
namespace Go.Proofs.Ytekodfpjoehooaa.Bs
open Go.RowKit Mem
/-- a pattern -/
inductive Nd where
  | mk (op : Int) (set : BitVec 256) (mn mx : Int) (kids : List Nd)
/-- a node's cells -/
def ndC (op : Int) (s : BitVec 256) (mn mx : Int) (kv : Value) : Array Value :=
  #[.int .i64 op, .int .u64 (limN s 0), .int .u64 (limN s 1), .int .u64 (limN s 2), .int .u64 (limN s 3), .int .i64 mn, .int .i64 mx, kv]
def ndV (op : Int) (s : BitVec 256) (mn mx : Int) (kv : Value) : Value := .agg (ndC op s mn mx kv)
theorem ndC_size (op : Int) (s : BitVec 256) (mn mx : Int) (kv : Value) : (ndC op s mn mx kv).size = 8 := rfl
theorem ndC_ne (op : Int) (s : BitVec 256) (mn mx : Int) (kv : Value) : (ndC op s mn mx kv).toList ≠ [] := by simp [ndC]
/-- a slice of nodes in memory that reads as a list of trees; its blocks are of Q -/
inductive Kids (w : World) (Q : Nat → Prop) : Value → List Nd → Prop
  | mk (A : Option Addr) (cap : Nat) (ks : List Nd) (kv : Nat → Value) (hlen : ks.length * 64 ≤ 140737488355328)
      (hc : 0 < ks.length → ∃ b o, A = some ⟨b, o, none⟩ ∧ Q b ∧ ∀ i op s mn mx kk, ks[i]? = some (.mk op s mn mx kk) → w.rangeAt b (o + i * 8) (ndC op s mn mx (kv i)).toList)
      (hr : ∀ i op s mn mx kk, ks[i]? = some (.mk op s mn mx kk) → Kids w Q (kv i) kk) : Kids w Q (.slice A ks.length cap) ks
theorem Kids.nil (w : World) (Q : Nat → Prop) : Kids w Q (.slice none 0 0) [] := .mk none 0 [] (fun _ => undef) (by simp) (fun h => absurd h (by simp)) (fun i op s mn mx kk h => by simp at h)
theorem Kids.move {w w' : World} {Q Q' : Nat → Prop} {v : Value} {ks : List Nd} (h : Kids w Q v ks) (hq : ∀ b, Q b → b < w.heap.size → Q' b ∧ w'.heap[b]? = w.heap[b]?) : Kids w' Q' v ks := by
  induction h with
  | mk A cap ks kv hlen hc hr ih =>
    refine .mk A cap ks kv hlen (fun hp => ?_) ih
    obtain ⟨b, o, rfl, hb, hcell⟩ := hc hp
    have hlt : b < w.heap.size := by
      obtain ⟨x, hx⟩ : ∃ x, ks[0]? = some x := ⟨_, List.getElem?_eq_getElem hp⟩
      obtain ⟨op, s, mn, mx, kk⟩ := x
      exact range_lt (hcell 0 _ _ _ _ _ hx) (ndC_ne _ _ _ _ _)
    obtain ⟨h1, h2⟩ := hq b hb hlt
    exact ⟨b, o, rfl, h1, fun i op s mn mx kk hi => range_cell (hcell i op s mn mx kk hi) h2⟩
theorem Kids.keep {w w' : World} {Q : Nat → Prop} {v : Value} {ks : List Nd} (h : Kids w Q v ks) (hb : Below w.heap.size w w') : Kids w' Q v ks := h.move fun b hq hlt => ⟨hq, hb.block b hlt⟩
theorem Kids.wide {w : World} {Q Q' : Nat → Prop} {v : Value} {ks : List Nd} (h : Kids w Q v ks) (hq : ∀ b, Q b → b < w.heap.size → Q' b) : Kids w Q' v ks := h.move fun b hb hlt => ⟨hq b hb hlt, rfl⟩
theorem Kids.grown {w w' : World} {Q : Nat → Prop} {v : Value} {ks : List Nd} {row : Option Nat} (h : Kids w Q v ks) (hg : w.grownBy w' row) (hr : ∀ b, Q b → some b ≠ row) : Kids w' Q v ks :=
  h.move fun b hq hlt => ⟨hq, hg.block b hlt (hr b hq)⟩
theorem Kids.form {w : World} {Q : Nat → Prop} {v : Value} {ks : List Nd} (h : Kids w Q v ks) : ∃ A cap, v = .slice A ks.length cap ∧ ks.length * 64 ≤ 140737488355328 := by
  cases h with
  | mk A cap ks kv hlen hc hr => exact ⟨A, cap, rfl, hlen⟩
/-- a kid -/
theorem Kids.at {w : World} {Q : Nat → Prop} {A : Option Addr} {n cap : Nat} {ks : List Nd} (h : Kids w Q (.slice A n cap) ks) {i : Nat} {op : Int} {s : BitVec 256} {mn mx : Int} {kk : List Nd} (hi : ks[i]? = some (.mk op s mn mx kk)) :
    n = ks.length ∧ i < n ∧ ∃ b o kv, A = some ⟨b, o, none⟩ ∧ w.rangeAt b (o + i * 8) (ndC op s mn mx kv).toList ∧ Kids w Q kv kk := by
  cases h with
  | mk A cap ks kv hlen hc hr =>
    have hlt := (List.getElem?_eq_some_iff.1 hi).1
    obtain ⟨b, o, rfl, hb, hcell⟩ := hc (by omega)
    exact ⟨rfl, hlt, b, o, kv i, rfl, hcell i _ _ _ _ _ hi, hr i _ _ _ _ _ hi⟩
/-- a node's value that reads as a tree -/
def NodeV (w : World) (Q : Nat → Prop) (v : Value) : Nd → Prop
  | .mk op s mn mx ks => ∃ kv, v = ndV op s mn mx kv ∧ Kids w Q kv ks
theorem NodeV.keep {w w' : World} {Q : Nat → Prop} {v : Value} {t : Nd} (h : NodeV w Q v t) (hb : Below w.heap.size w w') : NodeV w' Q v t := by
  obtain ⟨op, s, mn, mx, ks⟩ := t
  obtain ⟨kv, hv, hk⟩ := h
  exact ⟨kv, hv, hk.keep hb⟩
theorem kid_lt (op : Int) (s : BitVec 256) (mn mx : Int) (ks : List Nd) (k : Nd) (h : k ∈ ks) : SizeOf.sizeOf k < SizeOf.sizeOf (Nd.mk op s mn mx ks) := by
  have := List.sizeOf_lt_of_mem h
  simp only [Nd.mk.sizeOf_spec]; omega
/-- does it match the empty text? -/
def nullOp (op mn : Int) (l : List Bool) : Bool :=
  if op = 1 ∨ op = 4 then l.all id else if op = 2 then l.any id else if op = 3 then decide (mn = 0) || l.any id else if op = 5 then !(l.any id) else false
def Nd.null : Nd → Bool
  | .mk op _ mn _ ks => nullOp op mn (ks.attach.map fun ⟨k, _⟩ => k.null)
theorem null_mk (op : Int) (s : BitVec 256) (mn mx : Int) (ks : List Nd) : (Nd.mk op s mn mx ks).null = nullOp op mn (ks.map Nd.null) := by
  rw [Nd.null]; simp
/-- how many nodes it has -/
def Nd.size : Nd → Nat
  | .mk _ _ _ _ ks => 1 + (ks.attach.map fun ⟨k, _⟩ => k.size).sum
theorem size_mk (op : Int) (s : BitVec 256) (mn mx : Int) (ks : List Nd) : (Nd.mk op s mn mx ks).size = 1 + (ks.map Nd.size).sum := by
  rw [Nd.size]; simp
/-- its bytes -/
def Nd.bytes : Nd → BitVec 256
  | .mk op s _ _ ks => (ks.attach.map fun ⟨k, _⟩ => k.bytes).foldl (· ||| ·) (if op = 0 then s else 0#256)
theorem bytes_mk (op : Int) (s : BitVec 256) (mn mx : Int) (ks : List Nd) : (Nd.mk op s mn mx ks).bytes = (ks.map Nd.bytes).foldl (· ||| ·) (if op = 0 then s else 0#256) := by
  rw [Nd.bytes]; simp
/-- read from its end -/
def Nd.back : Nd → Nd
  | .mk op s mn mx ks => .mk op s mn mx (if op = 1 then (ks.attach.map fun ⟨k, _⟩ => k.back).reverse else ks.attach.map fun ⟨k, _⟩ => k.back)
theorem back_mk (op : Int) (s : BitVec 256) (mn mx : Int) (ks : List Nd) : (Nd.mk op s mn mx ks).back = .mk op s mn mx (if op = 1 then (ks.map Nd.back).reverse else ks.map Nd.back) := by
  rw [Nd.back]; simp
end Go.Proofs.Ytekodfpjoehooaa.Bs
