/- The walk of slices.Reverse over nodes. -/
import Derived.Test.YtekodfpjoehooaaNodeW19
import Derived.Test.YtekodfpjoehooaaStage
namespace Go.Proofs.Ytekodfpjoehooaa.Bs
open Go.RowKit Mem Reg
theorem NRow.len {w : World} {base g n cap : Nat} {xs : List NV} (h : NRow w base (.slice (some ⟨g, 0, none⟩) n cap) xs) : n = xs.length := by
  rcases h.1.2 with ⟨h1, _⟩ | ⟨_, _, _, h1, _⟩
  · cases h1
  · cases h1; rfl
theorem NRow.head {w : World} {base n cap : Nat} {A : Option Addr} {xs : List NV} (h : NRow w base (.slice A n cap) xs) (hi : 0 < xs.length) : ∃ g, A = some ⟨g, 0, none⟩ ∧ base ≤ g := by
  rcases h.1.2 with ⟨_, h0⟩ | ⟨g, _, _, h1, hb, _⟩
  · omega
  · cases h1; exact ⟨g, rfl, hb⟩
theorem NRow.at' {w : World} {base g n cap : Nat} {xs : List NV} (h : NRow w base (.slice (some ⟨g, 0, none⟩) n cap) xs) (i : Nat) (x : NV) (hx : xs[i]? = some x) : w.rangeAt g (i * 8) (ndC x.1.op x.1.set x.1.mn x.1.mx x.2).toList := by
  obtain ⟨hi, rfl⟩ := List.getElem?_eq_some_iff.1 hx
  obtain ⟨g', cap', e, _, h'⟩ := h.at hi
  cases e
  exact h'
theorem NRow.there {w : World} {base g n cap : Nat} {xs : List NV} (h : NRow w base (.slice (some ⟨g, 0, none⟩) n cap) xs) {i : Nat} (hi : i < xs.length) : w.there g (i * 8) 8 := by
  have := h.len
  subst this
  exact row_there h.1 hi
theorem run_store_nd {w : World} {ρ : Operand → Value} {o : Oper} (x y : Operand) (ho : o.op = .store 28 x y) (g k : Nat) (hx : ρ x = .pointer (some ⟨g, k, none⟩)) (z : NV) (hy : ρ y = ndV z.1.op z.1.set z.1.mn z.1.mx z.2) (ht : w.there g k 8) (h1 : z.2.oneCell' = true) :
    (execOp ρ o).run Try.prog w = .ok .skip (w.setCells g k (ndL z)) := by
  unfold execOp
  simp only [ho, hx, hy, ndV, run_storeAt_mid w g k 28 (ndC z.1.op z.1.set z.1.mn z.1.mx z.2) ht (infoN _ _ _ _ _) (ndC_one _ _ _ _ _ h1), Sem.run_bind, Sem.run_pure, Result.andThen_ok]
/-- what holds of the row while two places are exchanged -/
def revI (base g n cap : Nat) (ys : List NV) (k jn : Nat) (xk xj : NV) (wr : World) : Nat → World → Prop
  | 0, w' => NRow w' base (.slice (some ⟨g, 0, none⟩) n cap) ys ∧ wr.grownBy w' (some g)
  | 1, w' => NRow w' base (.slice (some ⟨g, 0, none⟩) n cap) (ys.set k xj) ∧ wr.grownBy w' (some g) ∧ Kids w' (fun b => base ≤ b ∧ some b ≠ some g) xk.2 xk.1.kids
  | _, w' => NRow w' base (.slice (some ⟨g, 0, none⟩) n cap) ((ys.set k xj).set jn xk) ∧ wr.grownBy w' (some g)
theorem rev_first {base g n cap : Nat} {ys : List NV} {k jn : Nat} {xk xj : NV} {wr w' : World} (h : revI base g n cap ys k jn xk xj wr 0 w') (hk : k < ys.length) (hxk : ys[k]? = some xk) (hxj : ys[jn]? = some xj) : revI base g n cap ys k jn xk xj wr (0 + 1) (w'.setCells g (k * 8) (ndL xj)) :=
  ⟨h.1.set hk xj (h.1.2 xj (List.mem_of_getElem? hxj)), grown_trans h.2 (row_grown _ _ _ _), (h.1.2 xk (List.mem_of_getElem? hxk)).grown (row_grown _ _ _ _) fun b hb => hb.2⟩
theorem rev_second {base g n cap : Nat} {ys : List NV} {k jn : Nat} {xk xj : NV} {wr w' : World} (h : revI base g n cap ys k jn xk xj wr 1 w') (hj : jn < ys.length) : revI base g n cap ys k jn xk xj wr (1 + 1) (w'.setCells g (jn * 8) (ndL xk)) :=
  ⟨h.1.set (by simpa using hj) xk h.2.2, grown_trans h.2.1 (row_grown _ _ _ _)⟩
/-- the first k places, and the last k, are exchanged -/
def RevK (xs ys : List NV) (k : Nat) : Prop := ys.length = xs.length ∧ ∀ m, m < xs.length → ys[m]? = if m < k ∨ xs.length ≤ m + k then xs[xs.length - 1 - m]? else xs[m]?
theorem revK_zero (xs : List NV) : RevK xs xs 0 := ⟨rfl, fun m hm => by rw [if_neg (by omega)]⟩
theorem revK_succ {xs ys : List NV} {k jn : Nat} {xk xj : NV} (h : RevK xs ys k) (hj : k + jn + 1 = xs.length) (hlt : k < jn) (hxk : ys[k]? = some xk) (hxj : ys[jn]? = some xj) : RevK xs ((ys.set k xj).set jn xk) (k + 1) := by
  refine ⟨by simp [h.1], fun m hm => ?_⟩
  have h1 := h.2 k (by omega)
  have h2 := h.2 jn (by omega)
  rw [if_neg (by omega), hxk] at h1
  rw [if_neg (by omega), hxj] at h2
  have hl := h.1
  rw [List.getElem?_set, List.getElem?_set]
  by_cases e1 : jn = m
  · subst e1
    rw [if_pos rfl, if_pos (by simp; omega), if_pos (by omega), show xs.length - 1 - jn = k by omega, ← h1]
  · rw [if_neg e1]
    by_cases e2 : k = m
    · subst e2
      rw [if_pos rfl, if_pos (by omega), if_pos (by omega), show xs.length - 1 - k = jn by omega, ← h2]
    · rw [if_neg e2, h.2 m hm]
      by_cases e3 : m < k ∨ xs.length ≤ m + k
      · rw [if_pos e3, if_pos (by omega)]
      · rw [if_neg e3, if_neg (by omega)]
theorem revK_done {xs ys : List NV} {k : Nat} (h : RevK xs ys k) (hk : xs.length ≤ 2 * k + 1) : ys = xs.reverse := by
  refine List.ext_getElem? fun m => ?_
  by_cases hm : m < xs.length
  · rw [h.2 m hm, List.getElem?_reverse hm]
    by_cases e : m < k ∨ xs.length ≤ m + k
    · rw [if_pos e]
    · rw [if_neg e, show xs.length - 1 - m = m by omega]
  · rw [List.getElem?_eq_none (by rw [h.1]; omega), List.getElem?_eq_none (by simp; omega)]
def revV (g n cap k jn : Nat) (xk xj : NV) : List Value := [
  Value.slice (some ⟨g, 0, none⟩) n cap,
  Value.int .i64 (k : Int),
  Value.slice (some ⟨g, 0, none⟩) n cap,
  Value.int .i64 (jn : Int),
  Value.slice (some ⟨g, 0, none⟩) n cap,
  Value.int .i64 (jn : Int),
  Value.pointer (some ⟨g, jn * 8, none⟩),
  ndV xj.1.op xj.1.set xj.1.mn xj.1.mx xj.2,
  Value.slice (some ⟨g, 0, none⟩) n cap,
  Value.int .i64 (k : Int),
  Value.pointer (some ⟨g, k * 8, none⟩),
  ndV xk.1.op xk.1.set xk.1.mn xk.1.mx xk.2,
  Value.pointer (some ⟨g, k * 8, none⟩),
  undef,
  Value.pointer (some ⟨g, jn * 8, none⟩),
  undef]
set_option maxHeartbeats 3200000 in
set_option maxRecDepth 100000 in
theorem reverse_calls (base : Nat) (v : Value) (xs : List NV) (w : World) (h : NRow w base v xs) (hl : xs.length ≤ 1000000) :
    Calls Try.prog 43 #[v] w fun e w' => e = .returned (.tuple #[]) ∧ NRow w' base v xs.reverse ∧ w.grownBy w' v.ownBlock := by
  have hform : ∃ A cap, v = .slice A xs.length cap := by
    rcases h.1.2 with ⟨rfl, h0⟩ | ⟨g, cap, cur, rfl, _⟩
    · exact ⟨none, 0, by rw [h0]⟩
    · exact ⟨_, cap, rfl⟩
  obtain ⟨A, cap, rfl⟩ := hform
  obtain ⟨n, hn⟩ : ∃ n, xs.length = n := ⟨_, rfl⟩
  have HN := Lib.hid hn
  have H := Lib.hid h
  rw [hn] at H hl ⊢
  clear h hn
  go_enter Try.func43, Try.ntmps43
  go_wp2
  go_loopw [2, 3] (fun i j wr => ∃ (k : Nat) (ys : List NV), k ≤ n ∧ i = .int .i64 k ∧ j = .int .i64 ((n : Int) - 1 - k) ∧ RevK xs ys k ∧ NRow wr base (.slice A n cap) ys ∧ w.grownBy wr (Value.slice A n cap).ownBlock) (fun i _ _ => n - (intOf i).toNat)
  case atStart => exact ⟨0, xs, Nat.zero_le _, rfl, by simp, revK_zero xs, H.out, ⟨rfl, rfl, rfl, Nat.le_refl _, fun _ _ _ => rfl⟩⟩
  case round =>
    obtain ⟨k, ys, hk, rfl, rfl, hrk, hrow, hgr⟩ := hrel
    have HRK := Lib.hid hrk
    have HR := Lib.hid hrow
    have HGR := Lib.hid hgr
    clear hrk hrow hgr H
    by_cases hlt : (k : Int) < (n : Int) - 1 - k
    · obtain ⟨jn, hjn⟩ : ∃ jn : Nat, (n : Int) - 1 - k = jn := ⟨n - 1 - k, by omega⟩
      have hj : k + jn + 1 = n := by omega
      have hkj : k < jn := by omega
      rw [hjn]
      clear hjn hlt
      have hys : ys.length = n := by rw [HRK.out.1]; exact HN.out
      have hxk := List.getElem?_eq_getElem (show k < ys.length by omega)
      have hxj := List.getElem?_eq_getElem (show jn < ys.length by omega)
      generalize ys[k] = xk at hxk
      generalize ys[jn] = xj at hxj
      obtain ⟨g, rfl, hbg⟩ := HR.out.head (show 0 < ys.length by omega)
      have HYS := Lib.hid hys
      have HXK := Lib.hid hxk
      have HXJ := Lib.hid hxj
      clear hys hxk hxj
      go_upto_region 3 with (fail)
      have hxk := HXK.out
      have hxj := HXJ.out
      have hys := HYS.out
      have hb1 : jn < n := by omega
      have hb2 : k < n := by omega
      refine region_stage [13, 15] (by kernel_rfl) (revI base g n cap ys k jn xk xj wr) (fun _ _ => True) (valsT (revV g n cap k jn xk xj)) (by kernel_rfl) (by kernel_rfl) (by kernel_rfl) (by kernel_rfl) (by kernel_rfl) (fun _ _ _ _ h _ => h) (⟨HR.out.keep ((Below.refl _ _).drew), grown_of_below ((Below.refl _ _).drew) (some g)⟩) ?_ ?_
      · refine ⟨?_, ?_, ?_, ?_, ?_, ?_, ?_, ?_, ?_, ?_, ?_, ?_, ?_, ?_, ?_, ?_, trivial⟩
        · refine obs_val (fun _ => trivial) (by kernel_rfl) fun k' a' w' hk hal hS hI hD => ⟨rfl, Value.slice (some ⟨g, 0, none⟩) n cap, ?_, rfl⟩
          have h0 : a'.tmps.getD 0 undef = Value.slice (some ⟨g, 0, none⟩) n cap := hS.at rfl
          exact run_val (.tmp 0) (by first | exact .inl rfl | exact .inr rfl) _ h0
        · refine obs_val (fun _ => trivial) (by kernel_rfl) fun k' a' w' hk hal hS hI hD => ⟨rfl, Value.int .i64 (k : Int), ?_, rfl⟩
          have h0 : a'.tmps.getD 2 undef = Value.int .i64 (k : Int) := hS.at rfl
          exact run_val (.tmp 2) (by first | exact .inl rfl | exact .inr rfl) _ h0
        · refine obs_val (fun _ => trivial) (by kernel_rfl) fun k' a' w' hk hal hS hI hD => ⟨rfl, Value.slice (some ⟨g, 0, none⟩) n cap, ?_, rfl⟩
          have h0 : a'.tmps.getD 0 undef = Value.slice (some ⟨g, 0, none⟩) n cap := hS.at rfl
          exact run_val (.tmp 0) (by first | exact .inl rfl | exact .inr rfl) _ h0
        · refine obs_val (fun _ => trivial) (by kernel_rfl) fun k' a' w' hk hal hS hI hD => ⟨rfl, Value.int .i64 (jn : Int), ?_, rfl⟩
          have h0 : a'.tmps.getD 3 undef = Value.int .i64 (jn : Int) := hS.at rfl
          exact run_val (.tmp 3) (by first | exact .inl rfl | exact .inr rfl) _ h0
        · refine obs_val (fun _ => trivial) (by kernel_rfl) fun k' a' w' hk hal hS hI hD => ⟨rfl, Value.slice (some ⟨g, 0, none⟩) n cap, ?_, rfl⟩
          have h0 : a'.tmps.getD 0 undef = Value.slice (some ⟨g, 0, none⟩) n cap := hS.at rfl
          exact run_val (.tmp 0) (by first | exact .inl rfl | exact .inr rfl) _ h0
        · refine obs_val (fun _ => trivial) (by kernel_rfl) fun k' a' w' hk hal hS hI hD => ⟨rfl, Value.int .i64 (jn : Int), ?_, rfl⟩
          have h0 : a'.tmps.getD 3 undef = Value.int .i64 (jn : Int) := hS.at rfl
          exact run_val (.tmp 3) (by first | exact .inl rfl | exact .inr rfl) _ h0
        · refine obs_val (fun _ => trivial) (by kernel_rfl) fun k' a' w' hk hal hS hI hD => ⟨rfl, Value.pointer (some ⟨g, jn * 8, none⟩), ?_, rfl⟩
          have h0 : a'.tmps.getD 18 undef = Value.slice (some ⟨g, 0, none⟩) n cap := dep_at hD 4 (by kernel_rfl)
          have h1 : a'.tmps.getD 19 undef = Value.int .i64 (jn : Int) := dep_at hD 5 (by kernel_rfl)
          simp only [execOp, Act.eval, h0, h1]
          clear h0 h1
          go_simp
        · refine obs_val (fun _ => trivial) (by kernel_rfl) fun k' a' w' hk hal hS hI hD => ⟨rfl, ndV xj.1.op xj.1.set xj.1.mn xj.1.mx xj.2, ?_, rfl⟩
          obtain rfl : k' = 0 := stage_is 0 (by kernel_rfl) hal hk
          have h0 : a'.tmps.getD 20 undef = Value.pointer (some ⟨g, jn * 8, none⟩) := dep_at hD 6 (by kernel_rfl)
          simp only [execOp, Act.eval, h0]
          exact run_load_nd' w' g (jn * 8) _ _ _ _ _ (hI.1.at' jn xj hxj)
        · refine obs_val (fun _ => trivial) (by kernel_rfl) fun k' a' w' hk hal hS hI hD => ⟨rfl, Value.slice (some ⟨g, 0, none⟩) n cap, ?_, rfl⟩
          have h0 : a'.tmps.getD 0 undef = Value.slice (some ⟨g, 0, none⟩) n cap := hS.at rfl
          exact run_val (.tmp 0) (by first | exact .inl rfl | exact .inr rfl) _ h0
        · refine obs_val (fun _ => trivial) (by kernel_rfl) fun k' a' w' hk hal hS hI hD => ⟨rfl, Value.int .i64 (k : Int), ?_, rfl⟩
          have h0 : a'.tmps.getD 2 undef = Value.int .i64 (k : Int) := hS.at rfl
          exact run_val (.tmp 2) (by first | exact .inl rfl | exact .inr rfl) _ h0
        · refine obs_val (fun _ => trivial) (by kernel_rfl) fun k' a' w' hk hal hS hI hD => ⟨rfl, Value.pointer (some ⟨g, k * 8, none⟩), ?_, rfl⟩
          have h0 : a'.tmps.getD 22 undef = Value.slice (some ⟨g, 0, none⟩) n cap := dep_at hD 8 (by kernel_rfl)
          have h1 : a'.tmps.getD 23 undef = Value.int .i64 (k : Int) := dep_at hD 9 (by kernel_rfl)
          simp only [execOp, Act.eval, h0, h1]
          clear h0 h1
          go_simp
        · refine obs_val (fun _ => trivial) (by kernel_rfl) fun k' a' w' hk hal hS hI hD => ⟨rfl, ndV xk.1.op xk.1.set xk.1.mn xk.1.mx xk.2, ?_, rfl⟩
          obtain rfl : k' = 0 := stage_is 0 (by kernel_rfl) hal hk
          have h0 : a'.tmps.getD 24 undef = Value.pointer (some ⟨g, k * 8, none⟩) := dep_at hD 10 (by kernel_rfl)
          simp only [execOp, Act.eval, h0]
          exact run_load_nd' w' g (k * 8) _ _ _ _ _ (hI.1.at' k xk hxk)
        · refine obs_val (fun _ => trivial) (by kernel_rfl) fun k' a' w' hk hal hS hI hD => ⟨rfl, Value.pointer (some ⟨g, k * 8, none⟩), ?_, rfl⟩
          have h0 : a'.tmps.getD 14 undef = Value.slice (some ⟨g, 0, none⟩) n cap := dep_at hD 0 (by kernel_rfl)
          have h1 : a'.tmps.getD 15 undef = Value.int .i64 (k : Int) := dep_at hD 1 (by kernel_rfl)
          simp only [execOp, Act.eval, h0, h1]
          clear h0 h1
          go_simp
        · refine obs_skip (by kernel_rfl) fun k' a' w' hk hal hS hI hD => ?_
          obtain rfl : k' = 0 := stage_is 0 (by kernel_rfl) hal hk
          have h0 : a'.tmps.getD 26 undef = Value.pointer (some ⟨g, k * 8, none⟩) := dep_at hD 12 (by kernel_rfl)
          have h1 : a'.tmps.getD 21 undef = ndV xj.1.op xj.1.set xj.1.mn xj.1.mx xj.2 := dep_at hD 7 (by kernel_rfl)
          have ht := hI.1.there (i := k) (by omega)
          exact ⟨rfl, _, run_store_nd (.tmp 26) (.tmp 21) rfl g (k * 8) h0 xj h1 ht (hI.1.2 xj (List.mem_of_getElem? hxj)).oneCell, rfl, trivial, rev_first hI (by omega) hxk hxj⟩
        · refine obs_val (fun _ => trivial) (by kernel_rfl) fun k' a' w' hk hal hS hI hD => ⟨rfl, Value.pointer (some ⟨g, jn * 8, none⟩), ?_, rfl⟩
          have h0 : a'.tmps.getD 16 undef = Value.slice (some ⟨g, 0, none⟩) n cap := dep_at hD 2 (by kernel_rfl)
          have h1 : a'.tmps.getD 17 undef = Value.int .i64 (jn : Int) := dep_at hD 3 (by kernel_rfl)
          simp only [execOp, Act.eval, h0, h1]
          clear h0 h1
          go_simp
        · refine obs_skip (by kernel_rfl) fun k' a' w' hk hal hS hI hD => ?_
          obtain rfl : k' = 1 := stage_is 1 (by kernel_rfl) hal hk
          have h0 : a'.tmps.getD 27 undef = Value.pointer (some ⟨g, jn * 8, none⟩) := dep_at hD 14 (by kernel_rfl)
          have h1 : a'.tmps.getD 25 undef = ndV xk.1.op xk.1.set xk.1.mn xk.1.mx xk.2 := dep_at hD 11 (by kernel_rfl)
          have ht := hI.1.there (i := jn) (by simp; omega)
          exact ⟨rfl, _, run_store_nd (.tmp 27) (.tmp 25) rfl g (jn * 8) h0 xk h1 ht hI.2.2.oneCell, rfl, trivial, rev_second hI (by omega)⟩
      · intro v w' hI hT
        have HI := Lib.hid hI
        clear hT hI hxk hxj hys
        simp only [putAll, Act.put, List.setIfInBounds_toArray, List.set_cons_succ, List.set_cons_zero, Nat.reduceAdd]
        go_wp2_with (fail)
        exact ⟨⟨k + 1, _, by omega, by go_num, by rw [show (n : Int) - 1 - ((k + 1 : Nat) : Int) = (jn : Int) - 1 by omega], revK_succ HRK.out (by rw [HN.out]; exact hj) hkj HXK.out HXJ.out, HI.out.1, grown_trans HGR.out HI.out.2⟩, by simp [intOf]; omega⟩
    · go_wp2_with (fail)
      go_end0
      have h1 := revK_done HRK.out (by rw [HN.out]; omega)
      exact ⟨rfl, by rw [← h1]; exact HR.out, HGR.out⟩
end Go.Proofs.Ytekodfpjoehooaa.Bs
