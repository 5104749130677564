/- The walks of Cat, Alt, And, and of the reference's Many. -/
import Derived.Test.YtekodfpjoehooaaNodeW7
namespace Go.Proofs.Ytekodfpjoehooaa.Bs
open Go.RowKit Mem
set_option maxHeartbeats 3200000 in
set_option maxRecDepth 100000 in
theorem cat_calls (ks : List Nd) (hs : (ks.map Nd.size).sum ≤ 1000000) (Q : Nat → Prop) (v : Value) (w : World) (hk : Kids w Q v ks) :
    Calls Try.prog 16 #[v] w fun e w' => (∃ r, e = .returned (ndV 1 0#256 0 0 r) ∧ Kids w' (fun b => w.heap.size ≤ b) r ks) ∧ Below w.heap.size w w' := by
  have HK := Lib.hid hk
  have HC := Lib.hid (of_calls 1 ks hs Q v)
  clear hk hs
  go_enter Try.func16, Try.ntmps16
  go_wp2_with (first | (go_at_call 39; refine (HC.out _ (HK.out.keep ((Below.refl _ _).alloc (Nat.le_refl _) _))).mono ?_; rintro e w1 ⟨⟨r, rfl, hk1⟩, hb1⟩; have H1 := Lib.hid hk1.oneCell) |
    (refine st_nd rfl (.tmp 2) (.tmp 4) rfl _ rfl 1 0#256 0 0 r rfl H1.out _ rfl _ (below_all hb1 (heap_alloc_new _ _)) ?_; intro w2 hg2 hgr2))
  have hz1 : w.heap.size + 1 ≤ w1.heap.size := by simpa using hb1.size
  have hB1 : Below w.heap.size w w1 := below_more ((Below.refl w.heap.size w).alloc (Nat.le_refl _) _) (by simp) hb1
  have hk2 : Kids w2 (fun b => w.heap.size ≤ b) r ks := hk1.move fun b hq hlt => by
    have hq : w.heap.size + 1 ≤ b := by simpa using hq
    exact ⟨by omega, hgr2.block b hlt (fun e => by simp only [Option.some.injEq] at e; omega)⟩
  exact ret_nd 2 rfl _ _ 1 0#256 0 0 _ rfl hg2 rfl ⟨⟨_, rfl, hk2⟩, hB1.grown hgr2 (by omega) (fun k e => by cases e; omega)⟩
set_option maxHeartbeats 3200000 in
set_option maxRecDepth 100000 in
theorem alt_calls (ks : List Nd) (hs : (ks.map Nd.size).sum ≤ 1000000) (Q : Nat → Prop) (v : Value) (w : World) (hk : Kids w Q v ks) :
    Calls Try.prog 18 #[v] w fun e w' => (∃ r, e = .returned (ndV 2 0#256 0 0 r) ∧ Kids w' (fun b => w.heap.size ≤ b) r ks) ∧ Below w.heap.size w w' := by
  have HK := Lib.hid hk
  have HC := Lib.hid (of_calls 2 ks hs Q v)
  clear hk hs
  go_enter Try.func18, Try.ntmps18
  go_wp2_with (first | (go_at_call 39; refine (HC.out _ (HK.out.keep ((Below.refl _ _).alloc (Nat.le_refl _) _))).mono ?_; rintro e w1 ⟨⟨r, rfl, hk1⟩, hb1⟩; have H1 := Lib.hid hk1.oneCell) |
    (refine st_nd rfl (.tmp 2) (.tmp 4) rfl _ rfl 2 0#256 0 0 r rfl H1.out _ rfl _ (below_all hb1 (heap_alloc_new _ _)) ?_; intro w2 hg2 hgr2))
  have hz1 : w.heap.size + 1 ≤ w1.heap.size := by simpa using hb1.size
  have hB1 : Below w.heap.size w w1 := below_more ((Below.refl w.heap.size w).alloc (Nat.le_refl _) _) (by simp) hb1
  have hk2 : Kids w2 (fun b => w.heap.size ≤ b) r ks := hk1.move fun b hq hlt => by
    have hq : w.heap.size + 1 ≤ b := by simpa using hq
    exact ⟨by omega, hgr2.block b hlt (fun e => by simp only [Option.some.injEq] at e; omega)⟩
  exact ret_nd 2 rfl _ _ 2 0#256 0 0 _ rfl hg2 rfl ⟨⟨_, rfl, hk2⟩, hB1.grown hgr2 (by omega) (fun k e => by cases e; omega)⟩
set_option maxHeartbeats 3200000 in
set_option maxRecDepth 100000 in
theorem and_calls (ks : List Nd) (hs : (ks.map Nd.size).sum ≤ 1000000) (Q : Nat → Prop) (v : Value) (w : World) (hk : Kids w Q v ks) :
    Calls Try.prog 19 #[v] w fun e w' => (∃ r, e = .returned (ndV 4 0#256 0 0 r) ∧ Kids w' (fun b => w.heap.size ≤ b) r ks) ∧ Below w.heap.size w w' := by
  have HK := Lib.hid hk
  have HC := Lib.hid (of_calls 4 ks hs Q v)
  clear hk hs
  go_enter Try.func19, Try.ntmps19
  go_wp2_with (first | (go_at_call 39; refine (HC.out _ (HK.out.keep ((Below.refl _ _).alloc (Nat.le_refl _) _))).mono ?_; rintro e w1 ⟨⟨r, rfl, hk1⟩, hb1⟩; have H1 := Lib.hid hk1.oneCell) |
    (refine st_nd rfl (.tmp 2) (.tmp 4) rfl _ rfl 4 0#256 0 0 r rfl H1.out _ rfl _ (below_all hb1 (heap_alloc_new _ _)) ?_; intro w2 hg2 hgr2))
  have hz1 : w.heap.size + 1 ≤ w1.heap.size := by simpa using hb1.size
  have hB1 : Below w.heap.size w w1 := below_more ((Below.refl w.heap.size w).alloc (Nat.le_refl _) _) (by simp) hb1
  have hk2 : Kids w2 (fun b => w.heap.size ≤ b) r ks := hk1.move fun b hq hlt => by
    have hq : w.heap.size + 1 ≤ b := by simpa using hq
    exact ⟨by omega, hgr2.block b hlt (fun e => by simp only [Option.some.injEq] at e; omega)⟩
  exact ret_nd 2 rfl _ _ 4 0#256 0 0 _ rfl hg2 rfl ⟨⟨_, rfl, hk2⟩, hB1.grown hgr2 (by omega) (fun k e => by cases e; omega)⟩
set_option maxHeartbeats 3200000 in
set_option maxRecDepth 100000 in
theorem many_calls (op : Int) (A : Option Addr) (n c : Nat) (w : World) :
    Calls Try.prog 17 #[.int .i64 op, .slice A n c] w fun e w' => e = .returned (ndV op 0#256 0 0 (.slice A n c)) ∧ Below w.heap.size w w' := by
  go_enter Try.func17, Try.ntmps17
  go_wp2_with (refine st_nd rfl (.tmp 4) (.tmp 7) rfl _ rfl op 0#256 0 0 (.slice A n c) rfl rfl _ rfl _ (heap_alloc_new _ _) ?_; intro w2 hg2 hgr2)
  exact ret_nd 4 rfl _ _ op 0#256 0 0 _ rfl hg2 rfl ⟨rfl, ((Below.refl w.heap.size w).alloc (Nat.le_refl _) _).grown hgr2 (by simp) (fun k e => by cases e; omega)⟩
end Go.Proofs.Ytekodfpjoehooaa.Bs
