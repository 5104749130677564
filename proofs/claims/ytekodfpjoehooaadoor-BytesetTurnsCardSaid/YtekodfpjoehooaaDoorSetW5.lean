/- The walk of the reference's Inter; Count and First on both sides. -/
import Derived.Test.YtekodfpjoehooaaDoorSetW4
namespace Go.Proofs.YtekodfpjoehooaaDoor.Bs
open Go.RowKit Mem
theorem unionS_aux (xs : List (BitVec 256)) (s : BitVec 256) (i : Nat) : (xs.foldl (· ||| ·) s).getLsbD i = (s.getLsbD i || xs.any (·.getLsbD i)) := by
  induction xs generalizing s with
  | nil => simp
  | cons x xs ih => rw [List.foldl_cons, ih, BitVec.getLsbD_or, List.any_cons, Bool.or_assoc]
theorem unionS_getLsbD (xs : List (BitVec 256)) (i : Nat) : (unionS xs).getLsbD i = xs.any (·.getLsbD i) := by
  unfold unionS; rw [unionS_aux]; simp
theorem interS_getLsbD (xs : List (BitVec 256)) (i : Nat) (hi : i < 256) : (interS xs).getLsbD i = xs.all (·.getLsbD i) := by
  unfold interS
  rw [BitVec.getLsbD_not, unionS_getLsbD, List.any_map]
  simp only [hi, decide_true, Bool.true_and]
  induction xs with
  | nil => rfl
  | cons x xs ih =>
    rw [List.any_cons, List.all_cons, Bool.not_or, ih]
    simp [hi]
theorem all_snoc (xs : List (BitVec 256)) (j b : Nat) (h : j < xs.length) : (xs.take (j + 1)).all (·.getLsbD b) = ((xs.take j).all (·.getLsbD b) && xs[j].getLsbD b) := by
  rw [List.take_succ_eq_append_getElem h, List.all_append]; simp
set_option maxRecDepth 100000 in
theorem rinter_calls (v : Value) (xs : List (BitVec 256)) (w : World) (hv : Sets w v xs) :
    Calls Tryd.prog 27 #[v] w fun e w' => e = .returned (setV (interS xs)) ∧ Below w.heap.size w w' := by
  have HV := Lib.hid hv
  have hbound : xs.length * 4 ≤ 140737488355328 := let ⟨_, _, _, h, _⟩ := hv; h
  obtain ⟨A, cap, rfl⟩ := hv.length
  clear hv
  have e256 : build (fun b => xs.all (·.getLsbD b)) 256 = interS xs := by
    apply BitVec.eq_of_getLsbD_eq
    intro i hi
    rw [build_getLsbD _ _ _ hi, interS_getLsbD _ _ hi]; simp [hi]
  have HE := Lib.hid e256
  clear e256
  go_enter Tryd.func27, Tryd.ntmps27
  go_wp2
  go_loopw [4] (fun i wr => ∃ k : Nat, k ≤ 256 ∧ i = .int .i64 k ∧ wr.heap[w.heap.size]? = some (.cells (setC 0#256) 24 (0, 0)) ∧
      wr.heap[w.heap.size + 1]? = some (.cells (setC (build (fun b => xs.all (·.getLsbD b)) k)) 24 (0, 0)) ∧ Below w.heap.size w wr) (fun i _ => (256 - intOf i).toNat)
  case atStart => exact ⟨0, Nat.zero_le _, rfl, heap_alloc2_old _ _ _, heap_alloc2_new w (.cells (setC 0#256) 24) (.cells (setC 0#256) 24), below_alloc2 _ _ _⟩
  case round =>
    obtain ⟨wo, rfl⟩ : ∃ wo : World, wo = wr := ⟨_, rfl⟩
    obtain ⟨k, hk, rfl, hg0, hg1, hB⟩ := hrel
    have HG0 := Lib.hid hg0
    have HG1 := Lib.hid hg1
    have hsz := hB.size
    clear hg0 hg1
    by_cases hlt : k < 256
    · have hd : decide ((k : Int) < 256) = true := by simp; omega
      go_wp2_with (fail)
      have HBS := Lib.hid (build_succ (fun b => xs.all (·.getLsbD b)) k)
      generalize build (fun b => xs.all (·.getLsbD b)) k = s0 at *
      go_loopw [5, 6] (fun a i wi => ∃ j : Nat, j ≤ xs.length ∧ i = .int .i64 j ∧ a = .bool ((xs.take j).all (·.getLsbD k)) ∧ wi.heap[w.heap.size]? = some (.cells (setC 0#256) 24 (0, 0)) ∧
        wi.heap[w.heap.size + 1]? = some (.cells (setC s0) 24 (0, 0)) ∧ Below w.heap.size w wi) (fun _ i _ => xs.length - (intOf i).toNat)
      case atStart => exact ⟨0, Nat.zero_le _, rfl, rfl, HG0.out, HG1.out, hB⟩
      case round =>
        obtain ⟨j, hj, rfl, rfl, hi0, hi1, hBi⟩ := hrel
        have HI0 := Lib.hid hi0
        have HI1 := Lib.hid hi1
        have hszi := hBi.size
        clear hi0 hi1
        by_cases hj4 : j < xs.length
        · have HVr := Lib.hid (HV.out.below setC_ne (Nat.le_refl _) hBi)
          obtain ⟨_, _, b, o, hA, hr⟩ := HVr.out.at (List.getElem?_eq_getElem hj4)
          cases hA
          have HR := Lib.hid hr
          clear hr
          have HAS := Lib.hid (all_snoc xs j k hj4)
          generalize xs[j] = x at *
          generalize ha : (xs.take j).all (·.getLsbD k) = a at *
          have HA := Lib.hid ha
          clear ha
          cases a
          · go_wp2_with (fail)
            exact ⟨⟨j + 1, by omega, by go_num, by rw [HAS.out]; rfl, HI0.out, HI1.out, hBi⟩, by simp [intOf]; omega⟩
          · go_wp2_with (first | (refine ld_set_mid_g (.tmp 21) rfl rfl _ _ rfl _ HR.out ?_) | (go_at_call 12; refine (rhas_calls x k (by omega) _).mono ?_; rintro e w1 ⟨rfl, hb1⟩))
            exact ⟨⟨j + 1, by omega, by go_num, by rw [HAS.out]; rfl, below_all hb1 HI0.out, below_all hb1 HI1.out, below_more hBi hszi hb1⟩, by simp [intOf]; omega⟩
        · obtain rfl : j = xs.length := by omega
          rw [List.take_of_length_le (Nat.le_refl _)]
          generalize ha : xs.all (·.getLsbD k) = a at *
          have HA := Lib.hid ha
          clear ha
          cases a
          · go_wp2_with (fail)
            exact ⟨⟨k + 1, by omega, by go_num, HI0.out, by rw [HBS.out]; exact HI1.out, hBi⟩, by simp [intOf]; omega⟩
          · go_wp2_with (first | (refine ld_set rfl (.tmp 3) rfl _ rfl _ _ HI1.out ?_) | (go_at_call 34; refine (with_calls _ k (by omega) _).mono ?_; rintro e w2 ⟨rfl, hb3⟩; have HG4 := Lib.hid (below_all hb3 HI1.out)) | (refine st_set rfl (.tmp 3) _ rfl _ rfl _ rfl _ _ HG4.out ?_; intro w3 hg3 hgr))
            exact ⟨⟨k + 1, by omega, by go_num, heap_kept hgr (below_all hb3 HI0.out) (by simp), by rw [HBS.out]; exact hg3, (below_more hBi hszi hb3).grown hgr (by have := hb3.size; omega) (fun k e => by cases e; omega)⟩, by simp [intOf]; omega⟩
    · obtain rfl : k = 256 := by omega
      rw [HE.out] at HG1
      go_wp2_with (first | (refine ld_set rfl (.tmp 3) rfl _ rfl _ _ HG1.out ?_) | (refine st_set rfl (.tmp 2) _ rfl _ rfl _ rfl _ _ HG0.out ?_; intro w' hg' hgr))
      exact ret_set 2 rfl _ _ _ rfl hg' rfl ⟨rfl, hB.grown hgr hsz (fun k e => by cases e; omega)⟩
end Go.Proofs.YtekodfpjoehooaaDoor.Bs
