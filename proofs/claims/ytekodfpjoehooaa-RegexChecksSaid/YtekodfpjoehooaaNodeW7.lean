/- The walks of of, Cat, Alt, And, Not. -/
import Derived.Test.YtekodfpjoehooaaNodeW6
namespace Go.Proofs.Ytekodfpjoehooaa.Bs
open Go.RowKit Mem
theorem copied_calls (ks : List Nd) (hs : (ks.map Nd.size).sum ≤ 1000000) (Q : Nat → Prop) (v : Value) (w : World) (hk : Kids w Q v ks) :
    Calls Try.prog 48 #[v] w fun e w' => (∃ r, e = .returned r ∧ Kids w' (fun b => w.heap.size ≤ b) r ks) ∧ Below w.heap.size w w' := copied_aux _ ks (Nat.le_refl _) hs Q v w hk
/-- a node is the result -/
theorem ret_nd {fn : Func} {R : Ending → World → Prop} {a : Act} {w : World} (p : Tmp) (h : fn.results = #[.cell p 28]) (g : Nat) (t : TypeId) (op : Int) (s : BitVec 256) (mn mx : Int) (kv : Value)
    (hp : a.tmps.getD p undef = .pointer (some ⟨g, 0, none⟩)) (hg : w.heap[g]? = some (.cells (ndC op s mn mx kv) t (0, 0))) (hd : a.defers = []) (hR : R (.returned (ndV op s mn mx kv)) w) : bodyPost Try.prog fn R .ret a w := by
  exact bodyPost_ret (results_cell_row h a.tmps w g t (ndC op s mn mx kv) (0, 0) _ hp hg Try.underlying28 rfl (infoN op s mn mx kv)) hd hR
set_option maxHeartbeats 3200000 in
set_option maxRecDepth 100000 in
theorem of_calls (op : Int) (ks : List Nd) (hs : (ks.map Nd.size).sum ≤ 1000000) (Q : Nat → Prop) (v : Value) (w : World) (hk : Kids w Q v ks) :
    Calls Try.prog 39 #[.int .i64 op, v] w fun e w' => (∃ r, e = .returned (ndV op 0#256 0 0 r) ∧ Kids w' (fun b => w.heap.size ≤ b) r ks) ∧ Below w.heap.size w w' := by
  obtain ⟨A, cap, rfl, hlen⟩ := hk.form
  have HK := Lib.hid hk
  have HC := Lib.hid (copied_calls ks hs Q (.slice A ks.length cap))
  clear hk hs
  go_enter Try.func39, Try.ntmps39
  go_wp2_with (first | (go_at_call 48; refine (HC.out _ (HK.out.keep ((Below.refl _ _).alloc (Nat.le_refl _) _))).mono ?_; rintro e w1 ⟨⟨r, rfl, hk1⟩, hb1⟩; obtain ⟨A1, c1, hr1, _⟩ := hk1.form; subst hr1) |
    (refine st_nd rfl (.tmp 4) (.tmp 8) rfl _ rfl op 0#256 0 0 (.slice A1 ks.length c1) rfl rfl _ rfl _ (below_all hb1 (heap_alloc_new _ _)) ?_; intro w2 hg2 hgr2))
  have hz1 : w.heap.size + 1 ≤ w1.heap.size := by simpa using hb1.size
  have hB1 : Below w.heap.size w w1 := below_more ((Below.refl w.heap.size w).alloc (Nat.le_refl _) _) (by simp) hb1
  have hk2 : Kids w2 (fun b => w.heap.size ≤ b) (.slice A1 ks.length c1) ks := hk1.move fun b hq hlt => by
    have hq : w.heap.size + 1 ≤ b := by simpa using hq
    exact ⟨by omega, hgr2.block b hlt (fun e => by simp only [Option.some.injEq] at e; omega)⟩
  exact ret_nd 4 rfl _ _ op 0#256 0 0 _ rfl hg2 rfl ⟨⟨_, rfl, hk2⟩, hB1.grown hgr2 (by omega) (fun k e => by cases e; omega)⟩
end Go.Proofs.Ytekodfpjoehooaa.Bs
