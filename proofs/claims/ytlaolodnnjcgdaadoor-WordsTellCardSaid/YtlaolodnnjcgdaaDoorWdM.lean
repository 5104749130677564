/- The walks of words: awake. -/
import Derived.Test.YtlaolodnnjcgdaaDoorWdL
namespace Go.Proofs.YtlaolodnnjcgdaaDoor.Wd
open Go Go.RowKit Gw Go.Shelf
theorem Rd.go {W w0 w2 w3 : World} {gs : Gx} {p : Option Addr} {c : Nat} {ws : List Wo} (h : Rd w0 p c ws) (hs : St ⟨W, gs, w0, []⟩ w2) (hb : Below w2.heap.size w2 w3) : Rd w3 p c ws := by
  refine Rd.below (w := w2) ⟨h.cap, fun i x hx => ?_⟩ hb
  obtain ⟨g, o, hp, hc⟩ := h.at_ i x hx
  refine ⟨g, o, hp, fun j u hu => ?_⟩
  have h1 := hc j u hu
  have hlt : g < w0.heap.size := by
    rcases Nat.lt_or_ge g w0.heap.size with h2 | h2
    · exact h2
    · simp [World.cell?, Array.getElem?_eq_none h2] at h1
  have e := hs.old0 g hlt (fun x hx => by cases hx)
  simp only [World.cell?] at h1 ⊢
  rw [e]; exact h1
theorem Rd.now {W w0 w : World} {gs : Gx} {p : Option Addr} {c : Nat} {ws : List Wo} (h : Rd w0 p c ws) (hs : St ⟨W, gs, w0, []⟩ w) : Rd w p c ws := h.go hs (Below.refl _ _)
/-- words that are some: where they lie -/
theorem Rd.open_ {w0 : World} {p : Option Addr} {c : Nat} {ws : List Wo} (h : Rd w0 p c ws) (hne : 0 < ws.length) : ∃ g o, p = some ⟨g, o, none⟩ := by
  obtain ⟨g, o, hp, _⟩ := h.at_ 0 ws[0] (List.getElem?_eq_getElem hne)
  exact ⟨g, o, hp⟩
theorem Rd.cell {W w0 : World} {gs : Gx} {g o c : Nat} {ws : List Wo} (h : Rd w0 (some ⟨g, o, none⟩) c ws) {i : Nat} {x : Wo} (hx : ws[i]? = some x) (j : Nat) {u : Value} (hu : (woC x)[j]? = some u) {w : World} (hs : St ⟨W, gs, w0, []⟩ w) : w.cell? ⟨g, o + i * 3 + j, none⟩ = some u := by
  obtain ⟨g', o', e, hc⟩ := (h.now hs).at_ i x hx
  cases e
  exact hc j u hu
theorem Rd.take {w : World} {p : Option Addr} {c : Nat} {ws : List Wo} (h : Rd w p c ws) (n : Nat) : Rd w p c (ws.take n) :=
  ⟨Nat.le_trans (by rw [List.length_take]; omega) h.cap, fun i x hx => h.at_ i x (by
    rw [List.getElem?_take] at hx
    split at hx
    · exact hx
    · cases hx)⟩
theorem rv_slice_to {P : Program} {l : List (Nat × Value)} {S : Sx} {T e sz : Nat} [hT : TSl P T e] [hZ : TSz P e sz] {x y : Operand} {A : Option Addr} {m c : Nat} {k : IntKind} {i : Int} (hx : ev l x = some (.slice A m c)) (hy : ev l y = some (.int k i)) (h : 0 ≤ i ∧ i ≤ c) : RV P l S (.slice T x none (some y) none) (.slice A i.toNat c) := by
  have h1 := rv_slice (P := P) (S := S) (T := T) (lo := none) (hi := some y) hx bnd_none (bnd_some hy h.1) ⟨Nat.zero_le _, by omega⟩
  have e : (if c = 0 then A else A.map (·.add (0 * sz))) = A := by
    split
    · rfl
    · rw [Nat.zero_mul]
      cases A with
      | none => rfl
      | some a =>
        show some (a.add 0) = some a
        rfl
  rw [e, Nat.sub_zero, Nat.sub_zero] at h1
  exact h1
theorem aw1 : allOf [65, 32, 58, 32, 98, 124, 99, 32, 59, 32, 35, 32, 120] = ([⟨0, [65], 0⟩, ⟨3, [58], 2⟩, ⟨0, [98], 4⟩, ⟨3, [124], 5⟩, ⟨0, [99], 6⟩, ⟨3, [59], 8⟩], 0, 0) := by decide +kernel
theorem aw2 : allOf [97, 10, 32, 47, 120, 10, 47] = ([], 120, 3) := by decide +kernel
theorem aw3 : allOf [47, 97, 92, 47, 98, 47, 32, 49, 50] = ([⟨2, [97, 92, 47, 98], 0⟩, ⟨1, [49, 50], 7⟩], 0, 0) := by decide +kernel
theorem aw4 : joinW (List.take 3 [⟨0, [65], 0⟩, ⟨3, [58], 2⟩, ⟨0, [98], 4⟩, ⟨3, [124], 5⟩, ⟨0, [99], 6⟩, ⟨3, [59], 8⟩]) = [65, 32, 58, 32, 98] := by decide +kernel
theorem aw5 : nmB [97, 95, 49] = true := by decide +kernel
theorem aw6 : nmB [49, 97] = false := by decide +kernel
theorem aw7 : (1 + ((List.take (cutAt [97, 10, 98, 99] 3) ([97, 10, 98, 99] : Bs)).count 10 : Int)) = 2 := by decide +kernel
theorem aw8 : (((List.take (cutAt [97, 10, 98, 99] 3) ([97, 10, 98, 99] : Bs)).length : Int) - lastNl (List.take (cutAt [97, 10, 98, 99] 3) ([97, 10, 98, 99] : Bs))) = 2 := by decide +kernel
set_option maxHeartbeats 2000000 in
theorem awake_calls (w : World) : Calls Tryd.prog 7 #[] w fun e w' => e = .returned (.bool true) ∧ Below w.heap.size w w' := by
  refine calls_start Tryd.func7 rfl (N := 120) rfl rfl _ (St.start _) rfl ?_
  refine wc_seq ?_
  refine wc_region ?_
  refine wl_go rfl (wo_val rfl (rv_assign rfl) rfl rfl ?_)
  refine wl_nil ?_
  refine wq_then ?_
  refine wc_seq ?_
  refine wc_region ?_
  refine wl_go rfl (wo_call (R := fun w v w' => ∃ x, v = .tuple #[x, .int .i64 ((allOf [65, 32, 58, 32, 98, 124, 99, 32, 59, 32, 35, 32, 120]).2.1 : Int), .int .i64 ((allOf [65, 32, 58, 32, 98, 124, 99, 32, 59, 32, 35, 32, 120]).2.2 : Int)] ∧ w'.ownsRow w.heap.size 35 3 x (allOf [65, 32, 58, 32, 98, 124, 99, 32, 59, 32, 35, 32, 120]).1.length ((allOf [65, 32, 58, 32, 98, 124, 99, 32, 59, 32, 35, 32, 120]).1.flatMap woC)) rfl rfl (enters_of Tryd.func8 (by kernel_rfl) rfl) rfl rfl rfl (fun w4 hs4 => (All_calls [65, 32, 58, 32, 98, 124, 99, 32, 59, 32, 35, 32, 120] (by decide) w4).mono fun e w' ⟨x, h1, h2, h3⟩ => ⟨_, h1, ⟨x, rfl, h2⟩, h3⟩) (fun w2a v2a w3a hs2a hva hb2a hm2a => ?_))
  obtain ⟨xa, rfl, hxa⟩ := hva
  rw [aw1] at hxa ⊢
  obtain ⟨p1, c1, rfl, hr1⟩ := rd_of hxa
  refine wl_go rfl (wo_val rfl (rv_move rfl) rfl rfl ?_)
  refine wl_go rfl (wo_val rfl (rv_extract rfl rfl) rfl rfl ?_)
  refine wl_go rfl (wo_val rfl (rv_extract rfl rfl) rfl rfl ?_)
  refine wl_go rfl (wo_val rfl (rv_extract rfl rfl) rfl rfl ?_)
  refine wl_go rfl (wo_val rfl (rv_assign rfl) rfl rfl ?_)
  refine wl_go rfl (wo_val rfl (rv_assign rfl) rfl rfl ?_)
  refine wl_go rfl (wo_val rfl (rv_assign rfl) rfl rfl ?_)
  refine wl_nil ?_
  refine wq_then ?_
  refine wc_seq ?_
  refine wc_region ?_
  refine wl_go rfl (wo_call (R := fun w v w' => ∃ x, v = .tuple #[x, .int .i64 ((allOf [97, 10, 32, 47, 120, 10, 47]).2.1 : Int), .int .i64 ((allOf [97, 10, 32, 47, 120, 10, 47]).2.2 : Int)] ∧ w'.ownsRow w.heap.size 35 3 x (allOf [97, 10, 32, 47, 120, 10, 47]).1.length ((allOf [97, 10, 32, 47, 120, 10, 47]).1.flatMap woC)) rfl rfl (enters_of Tryd.func8 (by kernel_rfl) rfl) rfl rfl rfl (fun w4 hs4 => (All_calls [97, 10, 32, 47, 120, 10, 47] (by decide) w4).mono fun e w' ⟨x, h1, h2, h3⟩ => ⟨_, h1, ⟨x, rfl, h2⟩, h3⟩) (fun w2b v2b w3b hs2b hvb hb2b hm2b => ?_))
  obtain ⟨xb, rfl, hxb⟩ := hvb
  rw [aw2] at hxb ⊢
  replace hr1 := hr1.go hs2b hb2b
  refine wl_go rfl (wo_val rfl (rv_move rfl) rfl rfl ?_)
  refine wl_go rfl (wo_val rfl (rv_extract rfl rfl) rfl rfl ?_)
  refine wl_go rfl (wo_val rfl (rv_extract rfl rfl) rfl rfl ?_)
  refine wl_go rfl (wo_val rfl (rv_extract rfl rfl) rfl rfl ?_)
  refine wl_go rfl (wo_val rfl (rv_assign rfl) rfl rfl ?_)
  refine wl_go rfl (wo_val rfl (rv_assign rfl) rfl rfl ?_)
  refine wl_go rfl (wo_val rfl (rv_assign rfl) rfl rfl ?_)
  refine wl_nil ?_
  refine wq_then ?_
  refine wc_seq ?_
  refine wc_region ?_
  refine wl_go rfl (wo_call (R := fun w v w' => ∃ x, v = .tuple #[x, .int .i64 ((allOf [47, 97, 92, 47, 98, 47, 32, 49, 50]).2.1 : Int), .int .i64 ((allOf [47, 97, 92, 47, 98, 47, 32, 49, 50]).2.2 : Int)] ∧ w'.ownsRow w.heap.size 35 3 x (allOf [47, 97, 92, 47, 98, 47, 32, 49, 50]).1.length ((allOf [47, 97, 92, 47, 98, 47, 32, 49, 50]).1.flatMap woC)) rfl rfl (enters_of Tryd.func8 (by kernel_rfl) rfl) rfl rfl rfl (fun w4 hs4 => (All_calls [47, 97, 92, 47, 98, 47, 32, 49, 50] (by decide) w4).mono fun e w' ⟨x, h1, h2, h3⟩ => ⟨_, h1, ⟨x, rfl, h2⟩, h3⟩) (fun w2c v2c w3c hs2c hvc hb2c hm2c => ?_))
  obtain ⟨xc, rfl, hxc⟩ := hvc
  rw [aw3] at hxc ⊢
  obtain ⟨p3, c3, rfl, hr3⟩ := rd_of hxc
  replace hr1 := hr1.go hs2c hb2c
  refine wl_go rfl (wo_val rfl (rv_move rfl) rfl rfl ?_)
  refine wl_go rfl (wo_val rfl (rv_extract rfl rfl) rfl rfl ?_)
  refine wl_go rfl (wo_val rfl (rv_extract rfl rfl) rfl rfl ?_)
  refine wl_go rfl (wo_val rfl (rv_extract rfl rfl) rfl rfl ?_)
  refine wl_go rfl (wo_val rfl (rv_assign rfl) rfl rfl ?_)
  refine wl_go rfl (wo_val rfl (rv_assign rfl) rfl rfl ?_)
  refine wl_go rfl (wo_val rfl (rv_assign rfl) rfl rfl ?_)
  refine wl_nil ?_
  refine wq_then ?_
  refine wc_seq ?_
  refine wc_region ?_
  refine wl_go rfl (wo_call (R := fun _ v _ => v = _) rfl rfl (enters_of Tryd.func12 (by kernel_rfl) rfl) rfl rfl rfl (fun w hs => (Line_calls [97, 10, 98, 99] 3 (by decide) _).mono fun e w' h => ⟨_, h.1, rfl, h.2⟩) (fun w2d vd w3d hs2d hvd hb2d hm2d => ?_))
  subst hvd
  rw [aw7, aw8]
  replace hr1 := hr1.go hs2d hb2d
  replace hr3 := hr3.go hs2d hb2d
  obtain ⟨g1, o1, rfl⟩ := hr1.open_ (by decide)
  obtain ⟨g3, o3, rfl⟩ := hr3.open_ (by decide)
  have hcap1 : 6 ≤ c1 := hr1.cap
  refine wl_go rfl (wo_val rfl (rv_move rfl) rfl rfl ?_)
  refine wl_go rfl (wo_val rfl (rv_extract rfl rfl) rfl rfl ?_)
  refine wl_go rfl (wo_val rfl (rv_extract rfl rfl) rfl rfl ?_)
  refine wl_go rfl (wo_val rfl (rv_assign rfl) rfl rfl ?_)
  refine wl_go rfl (wo_val rfl (rv_assign rfl) rfl rfl ?_)
  refine wl_nil ?_
  refine wq_then ?_
  refine wc_seq ?_
  refine wc_region ?_
  refine wl_go rfl (wo_val rfl (rv_move rfl) rfl rfl ?_)
  refine wl_go rfl (wo_val rfl (rv_cmp_i rfl rfl rfl) rfl rfl ?_)
  refine wl_go rfl (wo_val rfl (rv_move rfl) rfl rfl ?_)
  refine wl_want rfl rfl rfl rfl rfl rfl (wo_val rfl (rv_move rfl) rfl rfl ?_)
  refine wl_want rfl rfl rfl rfl rfl rfl (wo_val rfl (rv_len rfl) rfl rfl ?_)
  refine wl_want rfl rfl rfl rfl rfl rfl (wo_val rfl (rv_cmp_i rfl rfl rfl) rfl rfl ?_)
  refine wl_go rfl (wo_val rfl (rv_pick_t rfl rfl rfl) rfl rfl ?_)
  refine wl_go rfl (wo_val rfl (rv_move rfl) rfl rfl ?_)
  refine wl_want rfl rfl rfl rfl rfl rfl (wo_val rfl (rv_move rfl) rfl rfl ?_)
  refine wl_want rfl rfl rfl rfl rfl rfl (wo_val rfl (rv_indexAddr rfl rfl (by decide)) rfl rfl ?_)
  refine wl_want rfl rfl rfl rfl rfl rfl (wo_val rfl (rv_fieldAddr rfl) rfl rfl ?_)
  refine wl_want rfl rfl rfl rfl rfl rfl (wo_val rfl (rv_load_cell rfl (fun w4 hs4 => hr1.cell (i := 4) rfl 1 rfl hs4)) rfl rfl ?_)
  refine wl_want rfl rfl rfl rfl rfl rfl (wo_val rfl (rb_eql (t := [99]) rfl rfl) rfl rfl ?_)
  refine wl_go rfl (wo_val rfl (rv_pick_t rfl rfl rfl) rfl rfl ?_)
  refine wl_go rfl (wo_val rfl (rv_move rfl) rfl rfl ?_)
  refine wl_want rfl rfl rfl rfl rfl rfl (wo_val rfl (rv_move rfl) rfl rfl ?_)
  refine wl_want rfl rfl rfl rfl rfl rfl (wo_val rfl (rv_indexAddr rfl rfl (by decide)) rfl rfl ?_)
  refine wl_want rfl rfl rfl rfl rfl rfl (wo_val rfl (rv_fieldAddr rfl) rfl rfl ?_)
  refine wl_want rfl rfl rfl rfl rfl rfl (wo_val rfl (rv_load_cell rfl (fun w4 hs4 => hr1.cell (i := 4) rfl 2 rfl hs4)) rfl rfl ?_)
  refine wl_want rfl rfl rfl rfl rfl rfl (wo_val rfl (rv_cmp_i rfl rfl rfl) rfl rfl ?_)
  refine wl_go rfl (wo_val rfl (rv_pick_t rfl rfl rfl) rfl rfl ?_)
  refine wl_go rfl (wo_val rfl (rv_move rfl) rfl rfl ?_)
  refine wl_want rfl rfl rfl rfl rfl rfl (wo_val rfl (rv_move rfl) rfl rfl ?_)
  refine wl_want rfl rfl rfl rfl rfl rfl (wo_val rfl (rv_indexAddr rfl rfl (by decide)) rfl rfl ?_)
  refine wl_want rfl rfl rfl rfl rfl rfl (wo_val rfl (rv_fieldAddr0 rfl) rfl rfl ?_)
  refine wl_want rfl rfl rfl rfl rfl rfl (wo_val rfl (rv_load_cell rfl (fun w4 hs4 => hr1.cell (i := 1) rfl 0 rfl hs4)) rfl rfl ?_)
  refine wl_want rfl rfl rfl rfl rfl rfl (wo_val rfl (rv_cmp_i rfl rfl rfl) rfl rfl ?_)
  refine wl_go rfl (wo_val rfl (rv_pick_t rfl rfl rfl) rfl rfl ?_)
  refine wl_go rfl (wo_val rfl (rv_move rfl) rfl rfl ?_)
  refine wl_want rfl rfl rfl rfl rfl rfl (wo_val rfl (rv_move rfl) rfl rfl ?_)
  refine wl_want rfl rfl rfl rfl rfl rfl (wo_val rfl (rv_cmp_i rfl rfl rfl) rfl rfl ?_)
  refine wl_go rfl (wo_val rfl (rv_pick_t rfl rfl rfl) rfl rfl ?_)
  refine wl_go rfl (wo_val rfl (rv_move rfl) rfl rfl ?_)
  refine wl_want rfl rfl rfl rfl rfl rfl (wo_val rfl (rv_move rfl) rfl rfl ?_)
  refine wl_want rfl rfl rfl rfl rfl rfl (wo_val rfl (rv_cmp_i rfl rfl rfl) rfl rfl ?_)
  refine wl_go rfl (wo_val rfl (rv_pick_t rfl rfl rfl) rfl rfl ?_)
  refine wl_go rfl (wo_val rfl (rv_move rfl) rfl rfl ?_)
  refine wl_want rfl rfl rfl rfl rfl rfl (wo_val rfl (rv_move rfl) rfl rfl ?_)
  refine wl_want rfl rfl rfl rfl rfl rfl (wo_val rfl (rv_cmp_i rfl rfl rfl) rfl rfl ?_)
  refine wl_go rfl (wo_val rfl (rv_pick_t rfl rfl rfl) rfl rfl ?_)
  refine wl_go rfl (wo_val rfl (rv_move rfl) rfl rfl ?_)
  refine wl_want rfl rfl rfl rfl rfl rfl (wo_val rfl (rv_move rfl) rfl rfl ?_)
  refine wl_want rfl rfl rfl rfl rfl rfl (wo_val rfl (rv_indexAddr rfl rfl (by decide)) rfl rfl ?_)
  refine wl_want rfl rfl rfl rfl rfl rfl (wo_val rfl (rv_fieldAddr rfl) rfl rfl ?_)
  refine wl_want rfl rfl rfl rfl rfl rfl (wo_val rfl (rv_load_cell rfl (fun w4 hs4 => hr3.cell (i := 0) rfl 1 rfl hs4)) rfl rfl ?_)
  refine wl_want rfl rfl rfl rfl rfl rfl (wo_val rfl (rb_eql (t := [97, 92, 47, 98]) rfl rfl) rfl rfl ?_)
  refine wl_go rfl (wo_val rfl (rv_pick_t rfl rfl rfl) rfl rfl ?_)
  refine wl_go rfl (wo_val rfl (rv_move rfl) rfl rfl ?_)
  refine wl_want rfl rfl rfl rfl rfl rfl (wo_val rfl (rv_move rfl) rfl rfl ?_)
  refine wl_want rfl rfl rfl rfl rfl rfl (wo_val rfl (rv_indexAddr rfl rfl (by decide)) rfl rfl ?_)
  refine wl_want rfl rfl rfl rfl rfl rfl (wo_val rfl (rv_fieldAddr0 rfl) rfl rfl ?_)
  refine wl_want rfl rfl rfl rfl rfl rfl (wo_val rfl (rv_load_cell rfl (fun w4 hs4 => hr3.cell (i := 0) rfl 0 rfl hs4)) rfl rfl ?_)
  refine wl_want rfl rfl rfl rfl rfl rfl (wo_val rfl (rv_cmp_i rfl rfl rfl) rfl rfl ?_)
  refine wl_go rfl (wo_val rfl (rv_pick_t rfl rfl rfl) rfl rfl ?_)
  refine wl_go rfl (wo_val rfl (rv_move rfl) rfl rfl ?_)
  refine wl_want rfl rfl rfl rfl rfl rfl (wo_val rfl (rv_move rfl) rfl rfl ?_)
  refine wl_want rfl rfl rfl rfl rfl rfl (wo_val rfl (rv_indexAddr rfl rfl (by decide)) rfl rfl ?_)
  refine wl_want rfl rfl rfl rfl rfl rfl (wo_val rfl (rv_fieldAddr0 rfl) rfl rfl ?_)
  refine wl_want rfl rfl rfl rfl rfl rfl (wo_val rfl (rv_load_cell rfl (fun w4 hs4 => hr3.cell (i := 1) rfl 0 rfl hs4)) rfl rfl ?_)
  refine wl_want rfl rfl rfl rfl rfl rfl (wo_val rfl (rv_cmp_i rfl rfl rfl) rfl rfl ?_)
  refine wl_go rfl (wo_val rfl (rv_pick_t rfl rfl rfl) rfl rfl ?_)
  refine wl_go rfl (wo_val rfl (rv_move rfl) rfl rfl ?_)
  refine wl_want rfl rfl rfl rfl rfl rfl (wo_val rfl (rv_move rfl) rfl rfl ?_)
  refine wl_want rfl rfl rfl rfl rfl rfl (wo_val rfl (rv_slice_to rfl rfl (by omega)) rfl rfl ?_)
  refine wl_want rfl rfl rfl rfl rfl rfl (wo_call (R := fun _ v _ => v = _) rfl rfl (enters_of Tryd.func16 (by kernel_rfl) rfl) rfl rfl rfl (fun w4 hs4 => (join_calls (some ⟨g1, o1, none⟩) c1 (List.take 3 [⟨0, [65], 0⟩, ⟨3, [58], 2⟩, ⟨0, [98], 4⟩, ⟨3, [124], 5⟩, ⟨0, [99], 6⟩, ⟨3, [59], 8⟩]) (by decide) (by decide) w4 ((hr1.now hs4).take 3)).mono fun e w' h => ⟨_, h.1, rfl, h.2⟩) (fun w2e v2e w3e hs2e hve hb2e hm2e => ?_))
  subst hve
  rw [aw4]
  replace hr1 := hr1.go hs2e hb2e
  replace hr3 := hr3.go hs2e hb2e
  refine wl_want rfl rfl rfl rfl rfl rfl (wo_val rfl (rb_eql (t := [65, 32, 58, 32, 98]) rfl rfl) rfl rfl ?_)
  refine wl_go rfl (wo_val rfl (rv_pick_t rfl rfl rfl) rfl rfl ?_)
  refine wl_go rfl (wo_val rfl (rv_move rfl) rfl rfl ?_)
  refine wl_want rfl rfl rfl rfl rfl rfl (wo_call (R := fun _ v _ => v = _) rfl rfl (enters_of Tryd.func14 (by kernel_rfl) rfl) rfl rfl rfl (fun w hs => (IsName_calls [97, 95, 49] (by decide) _).mono fun e w' h => ⟨_, h.1, rfl, h.2⟩) (fun w2f vf w3f hs2f hvf hb2f hm2f => ?_))
  subst hvf
  rw [aw5]
  replace hr1 := hr1.go hs2f hb2f
  refine wl_go rfl (wo_val rfl (rv_pick_t rfl rfl rfl) rfl rfl ?_)
  refine wl_go rfl (wo_val rfl (rv_move rfl) rfl rfl ?_)
  refine wl_want rfl rfl rfl rfl rfl rfl (wo_call (R := fun _ v _ => v = _) rfl rfl (enters_of Tryd.func14 (by kernel_rfl) rfl) rfl rfl rfl (fun w hs => (IsName_calls [49, 97] (by decide) _).mono fun e w' h => ⟨_, h.1, rfl, h.2⟩) (fun w2g vg w3g hs2g hvg hb2g hm2g => ?_))
  subst hvg
  rw [aw6]
  replace hr1 := hr1.go hs2g hb2g
  refine wl_want rfl rfl rfl rfl rfl rfl (wo_val rfl (rv_not rfl) rfl rfl ?_)
  refine wl_go rfl (wo_val rfl (rv_pick_t rfl rfl rfl) rfl rfl ?_)
  refine wl_go rfl (wo_val rfl (rv_move rfl) rfl rfl ?_)
  refine wl_want rfl rfl rfl rfl rfl rfl (wo_val rfl (rv_move rfl) rfl rfl ?_)
  refine wl_want rfl rfl rfl rfl rfl rfl (wo_val rfl (rv_cmp_i rfl rfl rfl) rfl rfl ?_)
  refine wl_go rfl (wo_val rfl (rv_pick_t rfl rfl rfl) rfl rfl ?_)
  refine wl_go rfl (wo_val rfl (rv_move rfl) rfl rfl ?_)
  refine wl_want rfl rfl rfl rfl rfl rfl (wo_val rfl (rv_move rfl) rfl rfl ?_)
  refine wl_want rfl rfl rfl rfl rfl rfl (wo_val rfl (rv_cmp_i rfl rfl rfl) rfl rfl ?_)
  refine wl_go rfl (wo_val rfl (rv_pick_t rfl rfl rfl) rfl rfl ?_)
  refine wl_go rfl (wo_val rfl (rv_move rfl) rfl rfl ?_)
  refine wl_want rfl rfl rfl rfl rfl rfl (wo_val rfl (rv_move rfl) rfl rfl ?_)
  refine wl_want rfl rfl rfl rfl rfl rfl (wo_val rfl (rv_indexAddr rfl rfl (by decide)) rfl rfl ?_)
  refine wl_want rfl rfl rfl rfl rfl rfl (wo_val rfl (rv_fieldAddr0 rfl) rfl rfl ?_)
  refine wl_want rfl rfl rfl rfl rfl rfl (wo_val rfl (rv_load_cell rfl (fun w4 hs4 => hr1.cell (i := 0) rfl 0 rfl hs4)) rfl rfl ?_)
  refine wl_want rfl rfl rfl rfl rfl rfl (wo_val rfl (rv_cmp_i rfl rfl rfl) rfl rfl ?_)
  refine wl_go rfl (wo_val rfl (rv_pick_t rfl rfl rfl) rfl rfl ?_)
  refine wl_go rfl (wo_val rfl (rv_assign rfl) rfl rfl ?_)
  refine wl_nil ?_
  refine wq_then ?_
  refine wc_ret ?_
  refine wq_ret1 rfl rfl (rr_tmp rfl) (fun w9 hs9 => ?_)
  exact ⟨rfl, hs9.below rfl⟩
end Go.Proofs.YtlaolodnnjcgdaaDoor.Wd
