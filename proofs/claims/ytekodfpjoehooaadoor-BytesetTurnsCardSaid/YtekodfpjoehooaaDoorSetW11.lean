/- The walk of alike. -/
import Derived.Test.YtekodfpjoehooaaDoorSetW10
import Derived.Test.YtekodfpjoehooaaDoorReg
namespace Go.Proofs.YtekodfpjoehooaaDoor.Bs
open Go.RowKit Mem Reg
theorem all2_snoc (xs : List (BitVec 256)) (j c d : Nat) (h : j < xs.length) : ((xs.take (j + 1)).all fun s => s.getLsbD c == s.getLsbD d) = (((xs.take j).all fun s => s.getLsbD c == s.getLsbD d) && (xs[j].getLsbD c == xs[j].getLsbD d)) := by
  rw [List.take_succ_eq_append_getElem h, List.all_append]; simp
theorem all2_at (xs : List (BitVec 256)) (j c d : Nat) (h : j < xs.length) : (xs.all fun s => s.getLsbD c == s.getLsbD d) = ((xs[j].getLsbD c == xs[j].getLsbD d) && (xs.all fun s => s.getLsbD c == s.getLsbD d)) := by
  cases hx : (xs[j].getLsbD c == xs[j].getLsbD d) with
  | true => rfl
  | false =>
    rw [Bool.false_and, List.all_eq_false]
    exact ⟨xs[j], List.getElem_mem h, by simp only [hx]; simp⟩
theorem run_load_set (w : World) (b o : Nat) (s : BitVec 256) (h : w.rangeAt b o (setC s).toList) :
    (do let v ← Instr.loadAt 24 (.pointer (some ⟨b, o, none⟩)); pure (Next.value v) : Sem Next).run Tryd.prog w = .ok (.value (setV s)) w := by
  rw [Sem.run_bind, run_loadAt_mid w b o _ (setC s).toList _ h undS rfl (infoS' s)]
  rfl
set_option maxRecDepth 100000 in
theorem alike_calls (v1 : Value) (xs : List (BitVec 256)) (c d : Nat) (hc : c < 256) (hd : d < 256) (w : World) (h1 : Sets w v1 xs) :
    Calls Tryd.prog 36 #[v1, .int .u8 c, .int .u8 d] w fun e w' => e = .returned (.bool (xs.all fun s => s.getLsbD c == s.getLsbD d)) ∧ Below w.heap.size w w' := by
  have hb1 : xs.length * 4 ≤ 140737488355328 := let ⟨_, _, _, h, _⟩ := h1; h
  obtain ⟨A1, c1, rfl⟩ := h1.length
  have H1 := Lib.hid h1
  clear h1
  go_enter Tryd.func36, Tryd.ntmps36
  go_wp2
  go_loopw [7] (fun i wr => ∃ k : Nat, k ≤ xs.length ∧ i = .int .i64 k ∧ ((xs.take k).all fun s => s.getLsbD c == s.getLsbD d) = true ∧ Below w.heap.size w wr) (fun i _ => xs.length - (intOf i).toNat)
  case atStart => exact ⟨0, Nat.zero_le _, rfl, by simp, Below.refl _ _⟩
  case round =>
    obtain ⟨k, hk, rfl, htk, hB⟩ := hrel
    have HTK := Lib.hid htk
    have hsz := hB.size
    clear htk
    by_cases hlt : k < xs.length
    · have HR := fun (w' : World) (hb : Below wr.heap.size wr w') => (H1.out.below setC_ne (Nat.le_refl _) (below_more hB hsz hb)).at (List.getElem?_eq_getElem hlt)
      obtain ⟨_, _, b, o, hA, _⟩ := HR wr (Below.refl _ _)
      cases hA
      have HRR : ∀ w', Below wr.heap.size wr w' → w'.rangeAt b (o + k * 4) (setC xs[k]).toList := fun w' hb => by
        obtain ⟨_, _, b', o', hA, hr⟩ := HR w' hb
        cases hA
        exact hr
      clear HR
      have HAS := Lib.hid (all2_snoc xs k c d hlt)
      have HALL := Lib.hid (all2_at xs k c d hlt)
      generalize xs[k] = x at *
      have HHR := Lib.hid HRR
      clear HRR
      go_wp2_with (fail)
      refine region_all (by kernel_rfl) (fun w' => Below wr.heap.size wr w') (fun w1 w2 => Below w1.heap.size w1 w2) (fun i v _ => v = [Value.slice (some ⟨b, o, none⟩) xs.length c1, .int .i64 k, .pointer (some ⟨b, o + k * 4, none⟩), setV x, .int .u8 c, .bool (x.getLsbD c),
        Value.slice (some ⟨b, o, none⟩) xs.length c1, .int .i64 k, .pointer (some ⟨b, o + k * 4, none⟩), setV x, .int .u8 d, .bool (x.getLsbD d), .bool (x.getLsbD c != x.getLsbD d)].getD i undef) (by kernel_rfl) (by kernel_rfl) (by kernel_rfl) (fun _ _ _ _ h _ => h) (Below.refl _ _).drew ?_ ?_
      · refine ⟨?_, ?_, ?_, ?_, ?_, ?_, ?_, ?_, ?_, ?_, ?_, ?_, ?_, trivial⟩
        · exact ob_val (fun _ => Below.refl _ _) fun a' w' hS hI hD => ⟨rfl, _, rfl, hS.at rfl⟩
        · exact ob_val (fun _ => Below.refl _ _) fun a' w' hS hI hD => ⟨rfl, _, rfl, hS.at rfl⟩
        · refine ob_val (fun _ => Below.refl _ _) fun a' w' hS hI hD => ?_
          have h0 : a'.tmps.getD 14 undef = Value.slice (some ⟨b, o, none⟩) xs.length c1 := hD.1
          have h1 : a'.tmps.getD 15 undef = .int .i64 k := hD.2.1
          refine ⟨rfl, Value.pointer (some ⟨b, o + k * 4, none⟩), ?_, rfl⟩
          simp only [execOp, Act.eval, h0, h1]
          clear h0 h1
          go_simp
        · refine ob_val (fun _ => Below.refl _ _) fun a' w' hS hI hD => ⟨rfl, setV x, ?_, rfl⟩
          have h2 : a'.tmps.getD 16 undef = Value.pointer (some ⟨b, o + k * 4, none⟩) := hD.1
          simp only [execOp, Act.eval, h2]
          exact run_load_set w' b (o + k * 4) x (HHR.out w' hI)
        · exact ob_val (fun _ => Below.refl _ _) fun a' w' hS hI hD => ⟨rfl, _, rfl, hS.at rfl⟩
        · refine ob_call fun a' w' hS hI hD => ⟨rfl, 12, #[setV x, .int .u8 c], ?_, (rhas_calls x c hc w').mono fun e w'' ⟨he, hb⟩ => ⟨_, he, rfl, hb, below_more hI hI.size hb⟩⟩
          have h3 : a'.tmps.getD 17 undef = setV x := hD.1
          have h4 : a'.tmps.getD 18 undef = .int .u8 c := hD.2.1
          rw [run_call 12 _ _ rfl (enters_of Tryd.func12 (by kernel_rfl) rfl)]
          simp only [List.map_toArray, List.map_cons, List.map_nil, Act.eval, h3, h4]
        · exact ob_val (fun _ => Below.refl _ _) fun a' w' hS hI hD => ⟨rfl, _, rfl, hS.at rfl⟩
        · exact ob_val (fun _ => Below.refl _ _) fun a' w' hS hI hD => ⟨rfl, _, rfl, hS.at rfl⟩
        · refine ob_val (fun _ => Below.refl _ _) fun a' w' hS hI hD => ?_
          have h0 : a'.tmps.getD 20 undef = Value.slice (some ⟨b, o, none⟩) xs.length c1 := hD.1
          have h1 : a'.tmps.getD 21 undef = .int .i64 k := hD.2.1
          refine ⟨rfl, Value.pointer (some ⟨b, o + k * 4, none⟩), ?_, rfl⟩
          simp only [execOp, Act.eval, h0, h1]
          clear h0 h1
          go_simp
        · refine ob_val (fun _ => Below.refl _ _) fun a' w' hS hI hD => ⟨rfl, setV x, ?_, rfl⟩
          have h2 : a'.tmps.getD 22 undef = Value.pointer (some ⟨b, o + k * 4, none⟩) := hD.1
          simp only [execOp, Act.eval, h2]
          exact run_load_set w' b (o + k * 4) x (HHR.out w' hI)
        · exact ob_val (fun _ => Below.refl _ _) fun a' w' hS hI hD => ⟨rfl, _, rfl, hS.at rfl⟩
        · refine ob_call fun a' w' hS hI hD => ⟨rfl, 12, #[setV x, .int .u8 d], ?_, (rhas_calls x d hd w').mono fun e w'' ⟨he, hb⟩ => ⟨_, he, rfl, hb, below_more hI hI.size hb⟩⟩
          have h3 : a'.tmps.getD 23 undef = setV x := hD.1
          have h4 : a'.tmps.getD 24 undef = .int .u8 d := hD.2.1
          rw [run_call 12 _ _ rfl (enters_of Tryd.func12 (by kernel_rfl) rfl)]
          simp only [List.map_toArray, List.map_cons, List.map_nil, Act.eval, h3, h4]
        · refine ob_val (fun _ => Below.refl _ _) fun a' w' hS hI hD => ⟨rfl, .bool (x.getLsbD c != x.getLsbD d), ?_, rfl⟩
          have h3 : a'.tmps.getD 19 undef = .bool (x.getLsbD c) := hD.1
          have h4 : a'.tmps.getD 25 undef = .bool (x.getLsbD d) := hD.2.1
          simp only [execOp, Act.eval, h3, h4]
          generalize x.getLsbD c = p
          generalize x.getLsbD d = q
          cases p <;> cases q <;> go_simp
      · intro v w' hI hT
        obtain ⟨h0, h1, h2, h3, h4, h5, h6, h7, h8, h9, h10, h11, h12, _⟩ := hT
        simp only [List.getD_cons_zero, List.getD_cons_succ, Nat.zero_add, Nat.reduceAdd] at h0 h1 h2 h3 h4 h5 h6 h7 h8 h9 h10 h11 h12
        simp only [putAll, Act.put, List.setIfInBounds_toArray, List.set_cons_succ, List.set_cons_zero, Nat.reduceAdd, h0, h1, h2, h3, h4, h5, h6, h7, h8, h9, h10, h11, h12]
        cases hxy : (x.getLsbD c != x.getLsbD d)
        · go_wp2_with (fail)
          refine ⟨⟨k + 1, by omega, by go_num, ?_, below_more hB hsz hI⟩, by simp [intOf]; omega⟩
          rw [HAS.out, HTK.out]
          generalize x.getLsbD c = p at hxy ⊢
          generalize x.getLsbD d = q at hxy ⊢
          cases p <;> cases q <;> simp_all
        · have hall : (xs.all fun s => s.getLsbD c == s.getLsbD d) = false := by
            rw [HALL.out]
            generalize x.getLsbD c = p at hxy ⊢
            generalize x.getLsbD d = q at hxy ⊢
            cases p <;> cases q <;> simp_all
          have HF := Lib.hid hall
          clear hall hxy
          go_wp2_with (fail)
          go_ret
          exact ⟨(congrArg (fun b => Ending.returned (Value.bool b)) HF.out).symm, below_more hB hsz hI⟩
    · go_wp2
      go_ret
      have h1 := HTK.out
      rw [List.take_of_length_le (by omega)] at h1
      exact ⟨(congrArg (fun b => Ending.returned (Value.bool b)) h1).symm, hB⟩
end Go.Proofs.YtekodfpjoehooaaDoor.Bs
