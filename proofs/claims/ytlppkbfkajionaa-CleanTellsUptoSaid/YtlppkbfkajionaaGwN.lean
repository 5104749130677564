/- The laws of the walk: maps of the call's own, rows made whole, calls that write a row, slices out of memory. Over any program. -/
import Derived.Test.YtlppkbfkajionaaGwI
import Derived.Maps.Keyed
import Derived.Carry
import Derived.Laws.IdiomCopy
import Derived.Laws.OwnMore
import Derived.Lib.SliceRun
import Derived.DeepKeys4
namespace Go.Proofs.Ytlppkbfkajionaa.Gw
open Go Go.RowKit
set_option linter.unusedSimpArgs false
set_option linter.unusedVariables false
set_option linter.unusedSectionVars false
/-! maps -/
section
variable {κ ν : Type} [DecidableEq κ]
/-- what a list of keys and values tells of one -/
def mget : List (κ × ν) → κ → Option ν
  | [], _ => none
  | (k, v) :: r, x => if k = x then some v else mget r x
def mset : List (κ × ν) → κ → ν → List (κ × ν)
  | [], x, u => [(x, u)]
  | (k, v) :: r, x, u => if k = x then (k, u) :: r else (k, v) :: mset r x u
theorem mget_none {D : List (κ × ν)} {x : κ} : mget D x = none ↔ ∀ y ∈ D, y.1 ≠ x := by
  induction D with
  | nil => simp [mget]
  | cons y r ih =>
    obtain ⟨k, v⟩ := y
    unfold mget
    by_cases h : k = x
    · simp [h]
    · simp [h, ih]
theorem mget_at {D : List (κ × ν)} (hd : D.Pairwise (fun x y => x.1 ≠ y.1)) {j : Nat} {y : κ × ν} (h : D[j]? = some y) : mget D y.1 = some y.2 := by
  induction D generalizing j with
  | nil => simp at h
  | cons z r ih =>
    obtain ⟨k, v⟩ := z
    unfold mget
    cases j with
    | zero => simp at h; subst h; simp
    | succ j =>
      have hm : y ∈ r := List.mem_of_getElem? (by simpa using h)
      have hne := (List.pairwise_cons.1 hd).1 y hm
      rw [if_neg hne]
      exact ih (List.pairwise_cons.1 hd).2 (by simpa using h)
theorem mset_new {D : List (κ × ν)} {x : κ} {u : ν} (h : mget D x = none) : mset D x u = D ++ [(x, u)] := by
  induction D with
  | nil => rfl
  | cons y r ih =>
    obtain ⟨k, v⟩ := y
    unfold mget at h
    unfold mset
    by_cases hk : k = x
    · simp [hk] at h
    · rw [if_neg hk] at h ⊢
      rw [ih h]; rfl
theorem mset_at {D : List (κ × ν)} (hd : D.Pairwise (fun x y => x.1 ≠ y.1)) {j : Nat} {x : κ} {v u : ν} (h : D[j]? = some (x, v)) : mset D x u = D.set j (x, u) := by
  induction D generalizing j with
  | nil => simp at h
  | cons z r ih =>
    obtain ⟨k, v'⟩ := z
    unfold mset
    cases j with
    | zero => simp at h; obtain ⟨rfl, rfl⟩ := h; simp
    | succ j =>
      have hm : (x, v) ∈ r := List.mem_of_getElem? (by simpa using h)
      have hne := (List.pairwise_cons.1 hd).1 _ hm
      rw [if_neg hne, ih (List.pairwise_cons.1 hd).2 (by simpa using h)]
      rfl
theorem mget_mset (D : List (κ × ν)) (x y : κ) (u : ν) : mget (mset D x u) y = if x = y then some u else mget D y := by
  induction D with
  | nil => simp [mset, mget]
  | cons z r ih =>
    obtain ⟨k, v⟩ := z
    unfold mset
    by_cases hk : k = x
    · subst hk
      rw [if_pos rfl]
      unfold mget
      by_cases hy : k = y
      · rw [if_pos hy, if_pos hy]
      · rw [if_neg hy, if_neg hy, if_neg hy]
    · rw [if_neg hk]
      unfold mget
      by_cases hy : k = y
      · subst hy
        rw [if_pos rfl, if_neg (fun e => hk e.symm), if_pos rfl]
      · rw [if_neg hy, ih, if_neg hy]
/-- a map's entries read as keys and values, in their order -/
structure Mp (P : Program) (k : TypeId) (ek : κ → Value) (ew : ν → Value) (es : Array MapEntry) (D : List (κ × ν)) : Prop where
  eq : es.toList.map (fun e => (e.key, e.val)) = D.map (fun x => (ek x.1, ew x.2))
  keys : ∀ x ∈ D, ∃ l, keyOf P k (ek x.1) = some l
  apart : D.Pairwise (fun x y => x.1 ≠ y.1)
end
section
variable {κ ν : Type}
theorem Mp.nil {P : Program} {k : TypeId} {ek : κ → Value} {ew : ν → Value} : Mp P k ek ew #[] ([] : List (κ × ν)) := ⟨rfl, fun x hx => (by cases hx), List.Pairwise.nil⟩
theorem Mp.size {P : Program} {k : TypeId} {ek : κ → Value} {ew : ν → Value} {es : Array MapEntry} {D : List (κ × ν)} (h : Mp P k ek ew es D) : es.size = D.length := by
  have := congrArg List.length h.eq
  simpa using this
end
section
variable {κ ν : Type} [DecidableEq κ]
variable {P : Program} {k : TypeId} {ek : κ → Value} {ew : ν → Value} {es : Array MapEntry} {D : List (κ × ν)}
theorem Mp.find (h : Mp P k ek ew es D) (K : Maps.Keyed P k) (hek : ∀ x y, ek x = ek y → x = y) (w : World) {x : κ} {l : Lit} (hx : keyOf P k (ek x) = some l) :
    ((Instr.findKey k (ek x) es.toList).run P w = .ok none w ∧ mget D x = none) ∨ ∃ j e v, (Instr.findKey k (ek x) es.toList).run P w = .ok (some (j, e.val)) w ∧ es.toList[j]? = some e ∧ e.key = ek x ∧ e.val = ew v ∧ mget D x = some v ∧ D[j]? = some (x, v) := by
  have hat : ∀ (j : Nat) e, es.toList[j]? = some e → ∃ y, D[j]? = some y ∧ e.key = ek y.1 ∧ e.val = ew y.2 := fun j e he => by
    have := congrArg (fun l => l[j]?) h.eq
    simp only [List.getElem?_map, he, Option.map_some] at this
    cases hd : D[j]? with
    | none => rw [hd] at this; cases this
    | some y =>
      rw [hd] at this
      simp only [Option.map_some, Option.some.injEq, Prod.mk.injEq] at this
      exact ⟨y, rfl, this.1, this.2⟩
  rcases K.find w hx es.toList (fun e he => by
    obtain ⟨j, hj⟩ := List.mem_iff_getElem?.1 he
    obtain ⟨y, hy, h1, _⟩ := hat j e hj
    rw [h1]; exact h.keys y (List.mem_of_getElem? hy)) with ⟨h1, h2⟩ | ⟨j, e, h1, h2, h3⟩
  · refine .inl ⟨h1, mget_none.2 fun y hy e => ?_⟩
    obtain ⟨j, hj⟩ := List.mem_iff_getElem?.1 hy
    have := congrArg (fun l => l[j]?) h.eq
    simp only [List.getElem?_map, hj, Option.map_some] at this
    cases hd : es.toList[j]? with
    | none => rw [hd] at this; cases this
    | some z =>
      rw [hd] at this
      simp only [Option.map_some, Option.some.injEq, Prod.mk.injEq] at this
      exact h2 z (List.mem_of_getElem? hd) (by rw [this.1, e])
  · obtain ⟨y, hy, h4, h5⟩ := hat j e h2
    obtain rfl : y.1 = x := hek _ _ (by rw [← h4, h3])
    exact .inr ⟨j, e, y.2, h1, h2, h3, h5, mget_at h.apart hy, hy⟩
theorem Mp.look (h : Mp P k ek ew es D) (K : Maps.Keyed P k) (hek : ∀ x y, ek x = ek y → x = y) {w : World} {t e b clock : Nat} (ht : P.underlying t = some (.map k e)) (hb : w.heap[b]? = some (.map es clock)) {x : κ} (hx : ∃ l, keyOf P k (ek x) = some l) {z : ν} (hz : (zeroValue e).run P w = .ok (ew z) w) (c : Bool) :
    (Instr.lookup t (.map (some b)) (ek x) c).run P w = .ok (if c then .tuple #[ew ((mget D x).getD z), .bool (mget D x).isSome] else ew ((mget D x).getD z)) w := by
  obtain ⟨l, hx⟩ := hx
  rcases h.find K hek w hx with ⟨h1, h2⟩ | ⟨j, e, v, h1, _, _, h4, h5, _⟩
  · rw [h2]
    simp [Instr.lookup, run_underlying ht, MapKept.run_getObj_map hb, K.check w _ hx, h1, hz, Result.andThen]
  · rw [h5]
    simp [Instr.lookup, run_underlying ht, MapKept.run_getObj_map hb, K.check w _ hx, h1, h4, Result.andThen]
theorem Mp.store (h : Mp P k ek ew es D) (K : Maps.Keyed P k) (hek : ∀ x y, ek x = ek y → x = y) {w : World} {t e b clock : Nat} (ht : P.underlying t = some (.map k e)) (hb : w.heap[b]? = some (.map es clock)) {x : κ} (hx : ∃ l, keyOf P k (ek x) = some l) (u : ν) (hroom : es.size < maxLen) :
    ∃ es' clock', (Instr.mapUpdate t (.map (some b)) (ek x) (ew u)).run P w = .ok () (ChangeMaps.setBlock w b (.map es' clock')) ∧ Mp P k ek ew es' (mset D x u) := by
  obtain ⟨l, hx⟩ := hx
  rcases h.find K hek w hx with ⟨h1, h2⟩ | ⟨j, e, v, h1, h2, h3, h4, h5, h6⟩
  · refine ⟨es.push ⟨ek x, ew u, clock⟩, clock + 1, by simp [Instr.mapUpdate, run_underlying ht, MapKept.run_getObj_map hb, K.check w false hx, h1, MapKept.run_setObj_map _ hb, Result.andThen, ChangeMaps.setBlock], ?_⟩
    rw [mset_new h2]
    refine ⟨by simp [h.eq], fun y hy => ?_, ?_⟩
    · rcases List.mem_append.1 hy with hy | hy
      · exact h.keys y hy
      · simp at hy; subst hy; exact ⟨l, hx⟩
    · rw [List.pairwise_append]
      exact ⟨h.apart, List.pairwise_singleton _ _, fun y hy z hz => by simp at hz; subst hz; exact mget_none.1 h2 y hy⟩
  · have hj : es[j]? = some e := by simpa using h2
    refine ⟨es.modify j (fun e' => { e' with key := ek x, val := ew u }), clock, ?_, ?_⟩
    · simp [Instr.mapUpdate, run_underlying ht, MapKept.run_getObj_map hb, K.check w false hx, h1, hj, h3, K.stays w hx, MapKept.run_setObj_map _ hb, Result.andThen, ChangeMaps.setBlock]
    · rw [mset_at h.apart h6]
      refine ⟨?_, fun y hy => ?_, ?_⟩
      · rw [Array.toList_modify, ChangeMaps.modify_eq_set _ _ _ _ h2, List.map_set, h.eq, List.map_set]
      · rcases List.mem_or_eq_of_mem_set hy with hy | rfl
        · exact h.keys y hy
        · exact ⟨l, hx⟩
      · have e2 : (D.set j (x, u)).map (·.1) = D.map (·.1) := by
          rw [List.map_set]
          apply List.ext_getElem?
          intro i
          rw [List.getElem?_set]
          split
          · rename_i e3; subst e3
            split
            · simp [h6]
            · rename_i h7; simp [List.getElem?_eq_none (Nat.le_of_not_lt h7)] at h7 ⊢; try omega
          · rfl
        have h8 := h.apart
        rw [← List.pairwise_map (f := fun (y : κ × ν) => y.1) (R := fun a b => a ≠ b)] at h8 ⊢
        rw [e2]; exact h8
end
section
variable {P : Program} {r : Option Nat} {n : Nat} {ops : Array Oper} {Q : Exit → Act → World → Prop} {N : Nat} {l : List (Nat × Value)} {ds : List Deferred} {W w0 : World} {gs : Gx} {own : List Blk} {rest : List Oper} {o : Oper} {S : Sx}
variable {κ ν : Type} [DecidableEq κ]
theorem wo_makeMap {T d : Nat} (ho : o.op = .makeMap T none) (hd : o.dst = some d) (hN : Nat.ble (d + 1) N = true)
    (next : ∀ b, w0.heap.size ≤ b → WL P r n ops Q N rest ((d, .map (some b)) :: l) ⟨W, gs, w0, ⟨b, .map #[] 0⟩ :: own⟩) : WO P r n ops Q N o rest l ⟨W, gs, w0, own⟩ :=
  wo_to ho rfl hd hN fun a w ha hs => by
    refine ⟨.map (some w.heap.size), w.alloc (.map #[] 0), ?_, ⟨W, gs, w0, ⟨w.heap.size, _⟩ :: own⟩, rfl, hs.alloc _, next _ hs.size0⟩
    unfold execOp
    simp only [ho, Option.map_none, Sem.run_bind, run_makeMap, Result.andThen_ok, Sem.run_pure]
theorem run_zero1 {T : Nat} {z : Value} [h : TZ P T [z] false] (w : World) : (zeroValue T).run P w = .ok z w := by
  obtain ⟨v, h1, h2, h3⟩ := h.h
  obtain rfl : v = z := by simpa using h3
  cases hi : P.info? T with
  | none => simp [hi] at h1
  | some i =>
    have hz : i.zero = some v := by simpa [hi] using h1
    unfold zeroValue; rw [Sem.run_bind, run_info hi w]; simp only [Result.andThen_ok, hz]; rfl
theorem rv_lookup {T k e b i clock : Nat} {c : Bool} {x y : Operand} {es : Array MapEntry} {ek : κ → Value} {ew : ν → Value} {D : List (κ × ν)} {key : κ} {zv : Value} {z : ν} [hT : TMap P T k e] [hB : HasB own b i (.map es clock)] [hZ : TZ P e [zv] false] (K : Maps.Keyed P k) (hek : ∀ x y, ek x = ek y → x = y) (hM : Mp P k ek ew es D) (hx : ev l x = some (.map (some b))) (hy : ev l y = some (ek key)) (hk : ∃ l, keyOf P k (ek key) = some l) (hz : zv = ew z)
    {v : Value} (hv : v = if c then .tuple [ew ((mget D key).getD z), .bool (mget D key).isSome].toArray else ew ((mget D key).getD z)) : RV P l ⟨W, gs, w0, own⟩ (.lookup T x y c) v := ⟨rfl, fun N a w o ho ha hs => by
  subst hz
  have h1 := hM.look K hek hT.h (hs.at hB.h) hk (z := z) (run_zero1 w) c
  unfold execOp
  simp only [ho, ha.ev hx, ha.ev hy, Sem.run_bind, h1, Result.andThen_ok, Sem.run_pure]
  rw [hv]⟩
theorem rv_len_map {κ2 ν2 : Type} {T k e b i clock : Nat} {x : Operand} {es : Array MapEntry} {ek : κ2 → Value} {ew : ν2 → Value} {D : List (κ2 × ν2)} [hT : TMap P T k e] [hB : HasB own b i (.map es clock)] (hM : Mp P k ek ew es D) (hx : ev l x = some (.map (some b))) : RV P l ⟨W, gs, w0, own⟩ (.call { callee := .builtin .len, args := #[x], argTypes := #[T] }) (.int .i64 (D.length : Int)) := ⟨rfl, fun N a w o ho ha hs => by
  have hb := hs.at hB.h
  have hu := hT.h
  have h1 : (Builtin.len_ #[T] o.type #[.map (some b)]).run P w = .ok (.int .i64 (D.length : Int)) w := by
    simp [Builtin.len_, run_underlying hu, MapKept.run_getObj_map hb, hM.size, Result.andThen, goInt]
  unfold execOp
  simp only [ho, resolve, invoke, builtin, Sem.run_bind, Sem.run_pure, Result.andThen_ok, List.map_toArray, List.map_cons, List.map_nil, ha.ev hx, h1]⟩
theorem wo_mapUpdate {T k e b i clock : Nat} {m x y : Operand} {es : Array MapEntry} {ek : κ → Value} {ew : ν → Value} {D : List (κ × ν)} {key : κ} {val : ν} (ho : o.op = .mapUpdate T m x y) (hd : o.dst = none) [hT : TMap P T k e] (hm : ev l m = some (.map (some b))) (hx : ev l x = some (ek key)) (hy : ev l y = some (ew val)) [hB : HasB own b i (.map es clock)] (K : Maps.Keyed P k) (hek : ∀ x y, ek x = ek y → x = y) (hM : Mp P k ek ew es D) (hk : ∃ l, keyOf P k (ek key) = some l) (hroom : D.length < maxLen)
    (next : ∀ es' clock' own', Mp P k ek ew es' (mset D key val) → own' = own.set i ⟨b, .map es' clock'⟩ → WL P r n ops Q N rest l ⟨W, gs, w0, own'⟩) : WO P r n ops Q N o rest l ⟨W, gs, w0, own⟩ :=
  wo_to0 ho rfl hd fun a w ha hs => by
    have hb := hs.at hB.h
    obtain ⟨es', clock', h1, h2⟩ := hM.store K hek hT.h hb hk val (by rw [hM.size]; exact hroom)
    refine ⟨_, ?_, ⟨W, gs, w0, own.set i ⟨b, .map es' clock'⟩⟩, rfl, hs.write (w1 := ChangeMaps.setBlock w b (.map es' clock')) (x := ⟨b, .map es clock⟩) hB.h (.map es' clock') rfl rfl rfl (by simp [ChangeMaps.setBlock]) (fun b' _ hne => ChangeMaps.heap_setBlock_other hb _ hne) (ChangeMaps.heap_setBlock_same hb _), next es' clock' _ h2 rfl⟩
    unfold execOp
    simp only [ho, ha.ev hm, ha.ev hx, ha.ev hy, Sem.run_bind, h1, Result.andThen_ok, Sem.run_pure]
/-! rows made whole; stores at a place -/
theorem wo_makeSlice {T e bytes d : Nat} {x y : Operand} {z : Value} {m : Nat} (ho : o.op = .makeSlice T x y) (hd : o.dst = some d) (hN : Nat.ble (d + 1) N = true) [hT : TSl P T e] [hE : TEl P e 1 bytes] [hZ : TZ P e [z] false] (hx : ev l x = some (.int .i64 (m : Int))) (hy : ev l y = some (.int .i64 (m : Int))) (hm : m * bytes ≤ 281474976710656 ∧ m ≤ 9223372036854775807)
    (next : ∀ b, w0.heap.size ≤ b → WL P r n ops Q N rest ((d, .slice (some ⟨b, 0, none⟩) m m) :: l) ⟨W, gs, w0, ⟨b, .cells (List.replicate m z).toArray e (0, 0)⟩ :: own⟩) : WO P r n ops Q N o rest l ⟨W, gs, w0, own⟩ :=
  wo_to ho rfl hd hN fun a w ha hs => by
    obtain ⟨i, v, hi, hz, hsz, hby, hzs, hpos⟩ := hE.h
    obtain ⟨v', hz1, hz2, hz3⟩ := hZ.h
    have hz' : i.zero = some v := by simpa [hi] using hz
    have hsz' : i.size = 1 := by simpa [hi] using hsz
    have hby' : i.bytes = bytes := by simpa [hi] using hby
    have e1 : v = z := by
      rw [hz1] at hz
      simp at hz
      rw [← hz]; simpa using hz3
    subst e1
    have hvc : v.cells = #[v] := by
      rw [hz1] at hz
      simp at hz
      rw [← hz, hz2, hz]
    have hb9 : (i.bytes : Int) * (m : Int) ≤ 281474976710656 := by
      have h9 : ((m * bytes : Nat) : Int) ≤ 281474976710656 := by omega
      rw [Int.natCast_mul] at h9
      rw [hby', Int.mul_comm]; exact h9
    have hr := run_make (P := P) w T e i v hT.h hi hz' .i64 .i64 m m (by omega) (Int.le_refl _) hb9 (by omega)
    have hmc : madeCells v.cells (m * 1) = (List.replicate m v).toArray := by
      unfold madeCells
      rw [hvc]
      apply Array.ext
      · simp
      · intro j h1 h2
        simp [Nat.mod_one]
    simp only [Int.toNat_natCast, hsz', hmc] at hr
    refine ⟨_, _, ?_, ⟨W, gs, w0, ⟨w.heap.size, _⟩ :: own⟩, rfl, hs.alloc _, next _ hs.size0⟩
    unfold execOp
    simp only [ho, ha.ev hx, ha.ev hy, Sem.run_bind, hr, Result.andThen_ok, Sem.run_pure]
theorem wo_store_at {T k b i : Nat} {x y : Operand} {v : Value} {cs : List Value} {t : TypeId} (ho : o.op = .store T x y) (hd : o.dst = none) [hZ : TSz P T 1] (hx : ev l x = some (.pointer (some ⟨b, k, none⟩))) (hy : ev l y = some v) (hv : v.cells = #[v]) (h1 : v.oneCell' = true)
    [hB : HasB own b i (.cells cs.toArray t (0, 0))] (hk : k < cs.length) {own' : List Blk} [hU : UpdB own b (.cells (cs.set k v).toArray t (0, 0)) own']
    (next : WL P r n ops Q N rest l ⟨W, gs, w0, own'⟩) : WO P r n ops Q N o rest l ⟨W, gs, w0, own⟩ :=
  wo_to0 ho rfl hd fun a w ha hs => by
    have hb := hs.at hB.h
    obtain ⟨e1, e2, e3, e4, e5, cs2, e6, e7, e8⟩ := setCells_blk (t := t) [v] k w cs hb (by simp; omega)
    have ec : cs2 = cs.set k v := by
      apply List.ext_getElem?
      intro j
      rw [e8 j, List.getElem?_set]
      by_cases hj : k = j
      · subst hj; simp [hk]
      · rw [if_neg (by simp; omega), if_neg hj]
    subst ec
    obtain ⟨i', o0, hi', he⟩ := hU.h
    refine ⟨w.setCells b k [v], ?_, ⟨W, gs, w0, own'⟩, rfl, ?_, next⟩
    · have hst := run_storeCells_cells (P := P) b k [v] 0 w (fun j hj => by
          rw [Nat.add_zero, cell_blk hb, List.getElem?_eq_getElem (by simp at hj; omega)]; rfl) (fun j hj => by simp [World.frozen?, hb]) (fun u hu => by simp at hu; subst hu; exact h1)
      unfold execOp
      simp only [ho, ha.ev hx, ha.ev hy, Instr.storeAt, Instr.sureAddr, Sem.run_bind, Sem.run_pure, Result.andThen_ok, storeVar, hv, run_size_of (P := P) (T := T)]
      rw [if_neg (by simp)]
      simp only [Nat.add_zero] at hst
      simp only [hst, Result.andThen_ok, Sem.run_bind, Sem.run_pure]
    · subst he
      exact hs.write (x := ⟨b, o0⟩) hi' _ e1 e2 e3 (by omega) (fun b' _ hb' => e5 b' hb') e6
theorem rv_slice_nil {op : BinOp} {T T' e : Nat} {x y : Operand} {A : Option Addr} {m c m' c' : Nat} [hT : TSl P T e] (hx : ev l x = some (.slice A m c)) (hy : ev l y = some (.slice none m' c')) (hop : op = .eql) : RV P l S (.binOp op T x y T') (.bool A.isNone) := ⟨rfl, fun N a w o ho ha hs => by
  subst hop
  have h1 := Lib.run_eql_slice_nil (P := P) w T e A m c m' c' hT.h
  unfold execOp
  simp only [ho, ha.ev hx, ha.ev hy]
  simp [eqGuard, h1, go_sem]⟩
/-- elements out of memory are appended -/
theorem wo_append_from {T e sz bytes d m c : Nat} {x y : Operand} {v : Value} {k : Nat} {xs news : List Value} {A : Addr} [hT : TSl P T e] [hE : TEl P e sz bytes] (hx : ev l x = some v) (hy : ev l y = some (.slice (some A) m c))
    (hnews : ∀ w, St ⟨W, gs, w0, own⟩ w → ∀ (j : Nat) u, news[j]? = some u → w.cell? (A.add j) = some u) (hl : news.length = m * sz) (h1 : ∀ u ∈ news, u.oneCell' = true) (own2 : List Blk) (hsub : ∃ pre, pre ++ own2 = own)
    (hR : Rw ⟨W, gs, w0, own⟩ e sz v k xs) (hk : k + m ≤ maxLen ∧ (k + m) * bytes ≤ 140737488355328)
    (ho : o.op = .call { callee := .builtin .append, args := #[x, y], argTypes := #[T, T] }) (hd : o.dst = some d) (hN : Nat.ble (d + 1) N = true)
    (next : ∀ v' w1, Rw ⟨W, gs, w1, own2⟩ e sz v' (k + m) (xs ++ news) → Moved ⟨W, gs, w0, own⟩ v.ownBlock w1 → (v'.ownBlock = v.ownBlock ∨ ∃ g, v'.ownBlock = some g ∧ w0.heap.size ≤ g) → WL P r n ops Q N rest ((d, v') :: l) ⟨W, gs, w1, own2⟩) : WO P r n ops Q N o rest l ⟨W, gs, w0, own⟩ :=
  wo_to ho rfl hd hN fun a w ha hs => by
    obtain ⟨i, z, hi, hz, hsz, hby, hzs, hpos⟩ := hE.h
    have hz' : i.zero = some z := by simpa [hi] using hz
    have hsz' : i.size = sz := by simpa [hi] using hsz
    have hby' : i.bytes = bytes := by simpa [hi] using hby
    obtain ⟨v', w1, hr, h2, h3, _, h5⟩ := run_append_own_at (P := P) (w := w) W.heap.size T o.type e i z sz bytes hT.h hi hz' hsz' hby' hzs hpos v k xs (hR.at hs) A m c news hl (hnews w hs) h1 hk.1 hk.2 (Nat.le_trans hs.sizeW hs.size0)
    have hblk : ∀ x ∈ own, w1.heap[x.b]? = w.heap[x.b]? := fun x hx => h3.block x.b (hs.lt hx) (fun e => hR.off x hx e.symm)
    have hS1 : St ⟨W, gs, w1, own⟩ w1 := by
      refine ⟨h3.os.trans hs.os, h3.tape.trans hs.tape, h3.output.trans hs.output, Nat.le_trans (Nat.le_trans hs.sizeW hs.size0) h3.size, Nat.le_refl _, fun q hq hg => ?_, fun _ _ _ => rfl, hs.apart, hs.base, fun x hx => (hblk x hx).trans (hs.blk x hx)⟩
      have hlt : q < w.heap.size := Nat.lt_of_lt_of_le hq (Nat.le_trans hs.sizeW hs.size0)
      rw [h3.block q hlt (fun e => by have := (hR.lt q e.symm).1; simp at this hq; omega)]
      exact hs.oldW q hq hg
    have hmv : Moved ⟨W, gs, w0, own⟩ v.ownBlock w1 := ⟨Nat.le_trans hs.size0 h3.size, fun q hq hx hne => (h3.block q (Nat.lt_of_lt_of_le hq hs.size0) hne).trans (hs.old0 q hq hx)⟩
    have hoff : ∀ z ∈ own, v'.ownBlock ≠ some z.b := fun z hz e => by
      rcases h5 with h5 | h5
      · exact hR.off z hz (by rw [← h5]; exact e)
      · rw [h5] at e; have := hs.lt hz; simp at e; omega
    obtain ⟨pre, rfl⟩ := hsub
    refine ⟨v', w1, ?_, ⟨W, gs, w1, own2⟩, rfl, hS1.rename ⟨pre, rfl⟩, next v' w1 ⟨h2, fun z hz => hoff z (by simp [hz])⟩ hmv ?_⟩
    · unfold execOp
      simp only [ho, resolve, invoke, builtin, Sem.run_bind, Sem.run_pure, Result.andThen_ok, List.map_toArray, List.map_cons, List.map_nil, ha.ev hx, ha.ev hy, hr]
    · rcases h5 with h5 | h5
      · exact .inl h5
      · exact .inr ⟨_, h5, hs.size0⟩
/-- a call that may write some own block, by number -/
theorem wo_call_mut {f d : Nat} {c : Operand} {xs : List Operand} {tys : Array TypeId} {args fi ca : List Value} {R : World → Value → World → Prop} {q : Nat} {own2 : List Blk}
    (ho : o.op = .call { callee := .value c, args := xs.toArray, argTypes := tys }) (hcal : ev l c = some (.func (.func f) fi.toArray ca.toArray)) (he : ∀ args w, (callFunc f args).run P w = .ok (.enter f args) w) (hargs : evsO l xs = some args) (hd : o.dst = some d) (hN : Nat.ble (d + 1) N = true)
    (hq : W.heap.size ≤ q ∨ q ∈ gs.bs) (hown : ∀ x ∈ own2, x ∈ own ∧ x.b ≠ q) (hap : own2.Pairwise (fun x y => x.b ≠ y.b))
    (hc : ∀ w, St ⟨W, gs, w0, own⟩ w → Calls P f (fi ++ args ++ ca).toArray w (fun e w' => ∃ v, e = .returned v ∧ R w v w' ∧ w.grownBy w' (some q)))
    (next : ∀ w v w1, St ⟨W, gs, w0, own⟩ w → R w v w1 → w.grownBy w1 (some q) → Moved ⟨W, gs, w0, own⟩ (some q) w1 → WL P r n ops Q N rest ((d, v) :: l) ⟨W, gs, w1, own2⟩) : WO P r n ops Q N o rest l ⟨W, gs, w0, own⟩ :=
  wo_call_ (R := fun w v w' => R w v w' ∧ w.grownBy w' (some q)) ho hcal he hargs hc fun a w v w1 ha hs hR => by
    rw [hd]
    have hg := hR.2
    refine next w v w1 hs hR.1 hg ⟨Nat.le_trans hs.size0 hg.size, fun b hb hx hne => (hg.block b (Nat.lt_of_lt_of_le hb hs.size0) hne).trans (hs.old0 b hb hx)⟩ _ w1 (ha.put hN v) ?_
    refine ⟨hg.os.trans hs.os, hg.tape.trans hs.tape, hg.output.trans hs.output, Nat.le_trans (Nat.le_trans hs.sizeW hs.size0) hg.size, Nat.le_refl _, fun b hb hn => ?_, fun _ _ _ => rfl, hap, fun x hx => hs.base x (hown x hx).1, fun x hx => ?_⟩
    · rw [hg.block b (Nat.lt_of_lt_of_le hb (Nat.le_trans hs.sizeW hs.size0)) (fun e => by
        simp at e
        rcases hq with hq | hq
        · simp at hb; omega
        · exact hn (e ▸ hq))]
      exact hs.oldW b hb hn
    · rw [hg.block x.b (hs.lt (hown x hx).1) (fun e => (hown x hx).2 (by simpa using e))]
      exact hs.blk x (hown x hx).1
/-- an array behind a pointer, cut -/
theorem rv_slice_arr {T e k0 : Nat} [hT : TArr P T k0 e] [hZ : TSz P e 1] {x : Operand} {lo hi : Option Operand} {b k lv hv : Nat} (hx : ev l x = some (.pointer (some ⟨b, k, none⟩))) (h1 : bnd l lo 0 lv) (h2 : bnd l hi k0 hv) (hle : lv ≤ hv ∧ hv ≤ k0) (hlt : lv < k0) :
    RV P l S (.slice T x lo hi none) (.slice (some ⟨b, k + lv * 1, none⟩) (hv - lv) (k0 - lv)) := ⟨rfl, fun N a w o ho ha hs => by
  unfold execOp
  simp only [ho, ha.ev hx, Instr.sliceAt, Instr.sureAddr, Sem.run_bind, run_underlying hT.h, Result.andThen_ok, Option.map_none, run_bounds (P := P) ha h1 h2 hle.1 hle.2, run_size_of (P := P) (T := e), Sem.run_pure]
  rw [if_neg (by omega), add_addr]⟩
/-- elements out of memory are copied into an own block -/
theorem wo_copy {T T2 e d k b i m c m2 c2 : Nat} {x y : Operand} {A : Addr} {xs cs cs' : List Value} {t : TypeId} {own' : List Blk} [hT : TSl P T e] [hZ : TSz P e 1] (hx : ev l x = some (.slice (some ⟨b, k, none⟩) m c)) (hy : ev l y = some (.slice (some A) m2 c2))
    (hsrc : ∀ w, St ⟨W, gs, w0, own⟩ w → ∀ (j : Nat) u, xs[j]? = some u → w.cell? (A.add j) = some u) (hl : xs.length = min m2 m) (h1 : ∀ u ∈ xs, u.oneCell' = true)
    [hB : HasB own b i (.cells cs.toArray t (0, 0))] (hk : k + xs.length ≤ cs.length) (hcs : cs' = cs.take k ++ xs ++ cs.drop (k + xs.length)) [hU : UpdB own b (.cells cs'.toArray t (0, 0)) own'] (ho : o.op = .call { callee := .builtin .copy, args := #[x, y], argTypes := #[T, T2] }) (hd : o.dst = some d) (hN : Nat.ble (d + 1) N = true)
    (next : WL P r n ops Q N rest ((d, .int .i64 (xs.length : Int)) :: l) ⟨W, gs, w0, own'⟩) : WO P r n ops Q N o rest l ⟨W, gs, w0, own⟩ :=
  wo_to ho rfl hd hN fun a w ha hs => by
    have hb := hs.at hB.h
    obtain ⟨e1, e2, e3, e4, e5, cs2, e6, e7, e8⟩ := setCells_blk (t := t) xs k w cs hb hk
    have ec : cs2 = cs' := by
      subst hcs
      apply List.ext_getElem?
      intro j
      rw [e8 j]
      by_cases hj : k ≤ j ∧ j < k + xs.length
      · rw [if_pos hj, List.append_assoc, List.getElem?_append_right (by simp; omega), List.getElem?_append_left (by simp; omega)]
        congr 1
        simp; omega
      · rw [if_neg hj]
        by_cases hj2 : j < k
        · rw [List.append_assoc, List.getElem?_append_left (by simp; omega), List.getElem?_take, if_pos hj2]
        · rw [List.getElem?_append_right (by simp; omega), List.getElem?_drop]
          congr 1
          simp; omega
    subst ec
    obtain ⟨i', o0, hi', he⟩ := hU.h
    have hr := run_copy_cells (P := P) w T T2 o.type e b k m c A m2 c2 xs hT.h hZ.h hl (hsrc w hs) (fun j hj => by rw [cell_blk hb, List.getElem?_eq_getElem (by omega)]; rfl) (fun j hj => by simp [World.frozen?, hb]) h1
    refine ⟨_, w.setCells b k xs, ?_, ⟨W, gs, w0, own'⟩, rfl, ?_, next⟩
    · unfold execOp
      simp only [ho, resolve, invoke, builtin, Sem.run_bind, Sem.run_pure, Result.andThen_ok, List.map_toArray, List.map_cons, List.map_nil, ha.ev hx, ha.ev hy, hr]
      rfl
    · subst he
      exact hs.write (x := ⟨b, o0⟩) hi' _ e1 e2 e3 (by omega) (fun b' _ hb' => e5 b' hb') e6
/-- a slice of no elements owns its row -/
theorem rw_empty {b : Nat} {w1 : World} {e t : Nat} {pre : List Blk} (hs : St ⟨W, gs, w0, ⟨b, .cells #[] t (0, 0)⟩ :: pre⟩ w1) (ht : t = e) (hb : W.heap.size ≤ b) : Rw ⟨W, gs, w1, pre⟩ e 1 (.slice (some ⟨b, 0, none⟩) 0 0) 0 [] := by
  subst ht
  refine ⟨⟨rfl, .inr ⟨b, 0, #[], rfl, hb, hs.blk ⟨b, _⟩ (by simp), Nat.le_refl _, by simp [maxLen], rfl, rfl⟩⟩, fun z hz e => ?_⟩
  have h := (List.pairwise_cons.1 hs.apart).1 z hz
  simp [Value.ownBlock] at e
  exact h e
/-- an array's literal, elements of one cell -/
def PartsA (l : List (Nat × Value)) (k : Nat) : List (Nat × Operand) → List (Nat × Value) → Prop
  | [], [] => True
  | (i, x) :: r, (j, v) :: s => i = j ∧ i < k ∧ ev l x = some v ∧ v.cells = #[v] ∧ PartsA l k r s
  | _, _ => False
theorem parts_fill {a : Act} (ha : Ag ds N l a) {k : Nat} : ∀ (parts : List (Nat × Operand)) (vs : List (Nat × Value)) (z : List Value), PartsA l k parts vs → z.length = k → Instr.fill (fun i => some (i * 1, 1)) z.toArray (parts.map fun (i, x) => (i, a.eval x)) = some (vs.foldl (fun c (y : Nat × Value) => c.set y.1 y.2) z).toArray
  | [], [], z, _, _ => rfl
  | (i, x) :: r, (j, v) :: s, z, h, hz => by
    obtain ⟨rfl, hk, hx, hv, hr⟩ := h
    simp only [List.map_cons, Instr.fill, ha.ev hx, hv, List.foldl_cons]
    rw [if_neg (by simp; omega)]
    have e : (Array.foldl (fun cs (y : Value × Nat) => cs.setIfInBounds (i * 1 + y.2) y.1) z.toArray (#[v].zipIdx)) = (z.set i v).toArray := by
      simp [Array.zipIdx]
    have := parts_fill ha r s (z.set i v) hr (by simpa using hz)
    rw [← this]
    congr 1
  | [], _ :: _, _, h, _ => h.elim
  | _ :: _, [], _, h, _ => h.elim
theorem rv_build_arr {T e k0 : Nat} {z cs : List Value} {s : Bool} {parts : List (Nat × Operand)} (vs : List (Nat × Value)) [hT : TArr P T k0 e] [hZ : TZ P T z s] [hE : TSz P e 1] (hz : z.length = k0) (hp : PartsA l k0 parts vs) (hcs : cs = vs.foldl (fun c (y : Nat × Value) => c.set y.1 y.2) z) : RV P l S (.build T parts.toArray) (.agg cs.toArray) := ⟨rfl, fun N a w o ho ha hs => by
  obtain ⟨v, h1, h2⟩ := run_zero (P := P) (T := T) w
  have hf := parts_fill ha parts vs z hp hz
  subst hcs
  unfold execOp
  simp only [ho, Instr.build, Sem.run_bind, h1, Result.andThen_ok, run_underlying hT.h, h2, List.map_toArray, run_size_of (P := P) (T := e), hf]
  rfl⟩
/-- a whole own block is written -/
theorem wo_store_all {T sz b i : Nat} {x y : Operand} {v : Value} {cs xs : List Value} {t : TypeId} {own' : List Blk} (ho : o.op = .store T x y) (hd : o.dst = none) [hZ : TSz P T sz] (hx : ev l x = some (.pointer (some ⟨b, 0, none⟩))) (hy : ev l y = some v) (hv : v.cells = xs.toArray) (hl : xs.length = sz) (h1 : ∀ u ∈ xs, u.oneCell' = true)
    [hB : HasB own b i (.cells cs.toArray t (0, 0))] (hlc : cs.length = xs.length) [hU : UpdB own b (.cells xs.toArray t (0, 0)) own']
    (next : WL P r n ops Q N rest l ⟨W, gs, w0, own'⟩) : WO P r n ops Q N o rest l ⟨W, gs, w0, own⟩ :=
  wo_to0 ho rfl hd fun a w ha hs => by
    have hb := hs.at hB.h
    obtain ⟨e1, e2, e3, e4, e5, cs2, e6, e7, e8⟩ := setCells_blk (t := t) xs 0 w cs hb (by omega)
    have ec : cs2 = xs := by
      apply List.ext_getElem?
      intro j
      rw [e8 j]
      by_cases hj : j < xs.length
      · rw [if_pos (by omega)]; simp
      · rw [if_neg (by omega), List.getElem?_eq_none (by omega), List.getElem?_eq_none (by omega)]
    subst ec
    obtain ⟨i', o0, hi', he⟩ := hU.h
    refine ⟨w.setCells b 0 cs2, ?_, ⟨W, gs, w0, own'⟩, rfl, ?_, next⟩
    · have hst := run_storeCells_cells (P := P) b 0 cs2 0 w (fun j hj => by
          rw [cell_blk hb, List.getElem?_eq_getElem (by omega)]; rfl) (fun j hj => by simp [World.frozen?, hb]) h1
      unfold execOp
      simp only [ho, ha.ev hx, ha.ev hy, Instr.storeAt, Instr.sureAddr, Sem.run_bind, Sem.run_pure, Result.andThen_ok, storeVar, hv, run_size_of (P := P) (T := T)]
      rw [if_neg (by simp [hl])]
      simp only [hst, Result.andThen_ok, Sem.run_bind, Sem.run_pure]
    · subst he
      exact hs.write (x := ⟨b, o0⟩) hi' _ e1 e2 e3 (by omega) (fun b' _ hb' => e5 b' hb') e6
theorem rr_all {b T sz i : Nat} [hT : TRow P T true] [hZ : TSz P T sz] {c : Nat} {xs : List Value} {t : TypeId} {fr : Nat × Nat} (h : getO l c = some (.pointer (some ⟨b, 0, none⟩))) [hB : HasB own b i (.cells xs.toArray t fr)] (hl : xs.length = sz) : RVal P N l ⟨W, gs, w0, own⟩ (.cell c T) (.agg xs.toArray) := fun a w ha hs => by
  obtain ⟨d, h1, h2⟩ := hT.h
  have hr : w.rangeAt b 0 xs := fun j v hj => by rw [cell_blk (hs.at hB.h)]; simpa using hj
  have h3 := run_loadVar_mid (P := P) w b 0 T xs d hr h1 h2 (by rw [hZ.h, hl])
  show Sem.run P (do loadVar T (← asAddr (a.tmps.getD c undef))) w = _
  rw [ha.slot c _ h]
  simp only [asAddr, Sem.run_bind, Sem.run_pure, Result.andThen_ok, h3]
theorem rv_load_all {T sz b i : Nat} [TRow P T true] [TSz P T sz] {x : Operand} {xs : List Value} {t : TypeId} {fr : Nat × Nat} (hx : ev l x = some (.pointer (some ⟨b, 0, none⟩))) [hB : HasB own b i (.cells xs.toArray t fr)] (hl : xs.length = sz) : RV P l ⟨W, gs, w0, own⟩ (.load T x) (.agg xs.toArray) :=
  rv_load_range hx hl fun w hs j v hj => by rw [cell_blk (hs.at hB.h)]; simpa using hj
/-- a call that may write one of the own blocks -/
theorem wo_call_own {f d q : Nat} {ob : Obj} {c : Operand} {xs : List Operand} {tys : Array TypeId} {args fi ca : List Value} {R : World → Value → World → Prop} {own2 : List Blk}
    (ho : o.op = .call { callee := .value c, args := xs.toArray, argTypes := tys }) (hcal : ev l c = some (.func (.func f) fi.toArray ca.toArray)) (he : ∀ args w, (callFunc f args).run P w = .ok (.enter f args) w) (hargs : evsO l xs = some args) (hd : o.dst = some d) (hN : Nat.ble (d + 1) N = true)
    (i' : Nat) (hi : own[i']? = some ⟨q, ob⟩) (h2 : own2 = own.eraseIdx i')
    (hc : ∀ w, St ⟨W, gs, w0, own⟩ w → Calls P f (fi ++ args ++ ca).toArray w (fun e w' => ∃ v, e = .returned v ∧ R w v w' ∧ w.grownBy w' (some q)))
    (next : ∀ w v w1, St ⟨W, gs, w0, own⟩ w → R w v w1 → w.grownBy w1 (some q) → Moved ⟨W, gs, w0, own⟩ (some q) w1 → (∀ x ∈ own2, x.b ≠ q) → WL P r n ops Q N rest ((d, v) :: l) ⟨W, gs, w1, own2⟩) : WO P r n ops Q N o rest l ⟨W, gs, w0, own⟩ :=
  wo_call_ (R := fun w v w' => R w v w' ∧ w.grownBy w' (some q)) ho hcal he hargs hc fun a w v w1 ha hs hR => by
    rw [hd]
    have hg := hR.2
    have hq := hs.base _ (List.mem_of_getElem? hi)
    have hmem : ∀ x ∈ own2, x ∈ own := fun x hx => by rw [h2] at hx; exact List.mem_of_mem_eraseIdx hx
    have hne : ∀ x ∈ own2, x.b ≠ q := fun x hx => by
      rw [h2] at hx
      obtain ⟨j, hj, hx2⟩ := List.mem_eraseIdx_iff_getElem?.1 hx
      exact pair_ne hs.apart hx2 hi hj
    refine next w v w1 hs hR.1 hg ⟨Nat.le_trans hs.size0 hg.size, fun b hb hx hne => (hg.block b (Nat.lt_of_lt_of_le hb hs.size0) hne).trans (hs.old0 b hb hx)⟩ hne _ w1 (ha.put hN v) ?_
    refine ⟨hg.os.trans hs.os, hg.tape.trans hs.tape, hg.output.trans hs.output, Nat.le_trans (Nat.le_trans hs.sizeW hs.size0) hg.size, Nat.le_refl _, fun b hb hn => ?_, fun _ _ _ => rfl, ?_, fun x hx => hs.base x (hmem x hx), fun x hx => ?_⟩
    · rw [hg.block b (Nat.lt_of_lt_of_le hb (Nat.le_trans hs.sizeW hs.size0)) (fun e => by
        simp at e
        rcases hq with hq | hq
        · exact hn (e ▸ hq)
        · simp at hb hq; omega)]
      exact hs.oldW b hb hn
    · rw [h2]; exact hs.apart.sublist (List.eraseIdx_sublist _ _)
    · rw [hg.block x.b (hs.lt (hmem x hx)) (fun e => hne x hx (by simpa using e))]
      exact hs.blk x (hmem x hx)
/-- a call that may write a row of the call's own -/
theorem wo_call_row {f d q : Nat} {c : Operand} {xs : List Operand} {tys : Array TypeId} {args fi ca : List Value} {R : World → Value → World → Prop} 
    (ho : o.op = .call { callee := .value c, args := xs.toArray, argTypes := tys }) (hcal : ev l c = some (.func (.func f) fi.toArray ca.toArray)) (he : ∀ args w, (callFunc f args).run P w = .ok (.enter f args) w) (hargs : evsO l xs = some args) (hd : o.dst = some d) (hN : Nat.ble (d + 1) N = true)
    (hq : q ∈ gs.bs ∨ W.heap.size ≤ q) (hoff : ∀ x ∈ own, x.b ≠ q)
    (hc : ∀ w, St ⟨W, gs, w0, own⟩ w → Calls P f (fi ++ args ++ ca).toArray w (fun e w' => ∃ v, e = .returned v ∧ R w v w' ∧ w.grownBy w' (some q)))
    (next : ∀ w v w1, St ⟨W, gs, w0, own⟩ w → R w v w1 → w.grownBy w1 (some q) → Moved ⟨W, gs, w0, own⟩ (some q) w1 → WL P r n ops Q N rest ((d, v) :: l) ⟨W, gs, w1, own⟩) : WO P r n ops Q N o rest l ⟨W, gs, w0, own⟩ :=
  wo_call_ (R := fun w v w' => R w v w' ∧ w.grownBy w' (some q)) ho hcal he hargs hc fun a w v w1 ha hs hR => by
    rw [hd]
    have hg := hR.2
    refine next w v w1 hs hR.1 hg ⟨Nat.le_trans hs.size0 hg.size, fun b hb hx hne => (hg.block b (Nat.lt_of_lt_of_le hb hs.size0) hne).trans (hs.old0 b hb hx)⟩ _ w1 (ha.put hN v) ?_
    refine ⟨hg.os.trans hs.os, hg.tape.trans hs.tape, hg.output.trans hs.output, Nat.le_trans (Nat.le_trans hs.sizeW hs.size0) hg.size, Nat.le_refl _, fun b hb hn => ?_, fun _ _ _ => rfl, hs.apart, hs.base, fun x hx => ?_⟩
    · rw [hg.block b (Nat.lt_of_lt_of_le hb (Nat.le_trans hs.sizeW hs.size0)) (fun e => by
        simp at e
        rcases hq with hq | hq
        · exact hn (e ▸ hq)
        · simp at hb hq; omega)]
      exact hs.oldW b hb hn
    · rw [hg.block x.b (hs.lt hx) (fun e => hoff x hx (by simpa using e))]
      exact hs.blk x hx
/-- a slice's literal owns its row -/
theorem rw_lit {b : Nat} {w1 : World} {t : Nat} {cs : List Value} {pre : List Blk} (hs : St ⟨W, gs, w0, ⟨b, .cells cs.toArray t (0, 0)⟩ :: pre⟩ w1) (hb : W.heap.size ≤ b) (hl : cs.length ≤ maxLen) : Rw ⟨W, gs, w1, pre⟩ t 1 (.slice (some ⟨b, 0, none⟩) cs.length cs.length) cs.length cs := by
  refine ⟨⟨by simp, .inr ⟨b, cs.length, cs.toArray, rfl, hb, hs.blk ⟨b, _⟩ (by simp), Nat.le_refl _, hl, by simp, by simp⟩⟩, fun z hz e => ?_⟩
  have h := (List.pairwise_cons.1 hs.apart).1 z hz
  simp [Value.ownBlock] at e
  exact h e
/-- a row's beginning -/
theorem rw_cut {S : Sx} {e n c k : Nat} {A : Option Addr} {xs : List Value} (h : Rw S e 1 (.slice A n c) n xs) (hk : k ≤ n) : Rw S e 1 (.slice (if c = 0 then A else A.map (·.add (0 * 1))) (k - 0) (c - 0)) k (xs.take k) := by
  obtain ⟨⟨h1, h2⟩, h3⟩ := h
  rcases h2 with ⟨h2, h4⟩ | ⟨g, cap, cur, h2, hb, hh, hnc, hcm, hcs, htk⟩
  · cases h2
    obtain rfl : k = 0 := by omega
    refine ⟨⟨by simp, .inl ⟨by simp, rfl⟩⟩, fun z _ e => ?_⟩
    simp [Value.ownBlock] at e
  · cases h2
    have e1 : (if c = 0 then (some ⟨g, 0, none⟩ : Option Addr) else (some ⟨g, 0, none⟩ : Option Addr).map (·.add (0 * 1))) = some ⟨g, 0, none⟩ := by
      split
      · rfl
      · rw [Option.map_some, add_addr]
    rw [e1]
    refine ⟨⟨by rw [List.length_take, h1]; omega, .inr ⟨g, c, cur, by simp, hb, hh, by omega, hcm, hcs, by rw [← htk, List.take_take]; congr 1; omega⟩⟩, fun z hz e2 => h3 z hz e2⟩
theorem rv_slice_some {T e sz lv hv : Nat} [hT : TSl P T e] [hZ : TSz P e sz] {x : Operand} {lo hi : Option Operand} {a : Addr} {m c : Nat} (hx : ev l x = some (.slice (some a) m c)) (h1 : bnd l lo 0 lv) (h2 : bnd l hi m hv) (hle : lv ≤ hv ∧ hv ≤ c) :
    RV P l S (.slice T x lo hi none) (.slice (some (if c = lv then a else a.add (lv * sz))) (hv - lv) (c - lv)) := by
  have h := rv_slice (P := P) (S := S) (T := T) (e := e) (sz := sz) hx h1 h2 hle
  have e1 : (if c = lv then (some a : Option Addr) else (some a : Option Addr).map (·.add (lv * sz))) = some (if c = lv then a else a.add (lv * sz)) := by split <;> rfl
  rwa [e1] at h
/-- a block becomes one of the own ones -/
theorem St.adopt {b : Nat} {o : Obj} {w : World} (h : St ⟨W, gs, w0, own⟩ w) (hb : w0.heap[b]? = some o) (hbase : b ∈ gs.bs ∨ W.heap.size ≤ b) (hne : ∀ x ∈ own, x.b ≠ b) : St ⟨W, gs, w0, ⟨b, o⟩ :: own⟩ w :=
  ⟨h.os, h.tape, h.output, h.sizeW, h.size0, h.oldW, fun k hk hx => h.old0 k hk (fun x hx2 => hx x (List.mem_cons_of_mem _ hx2)), List.pairwise_cons.2 ⟨fun x hx e => hne x hx e.symm, h.apart⟩, fun x hx => by
    rcases List.mem_cons.1 hx with rfl | hx
    · exact hbase
    · exact h.base x hx, fun x hx => by
    rcases List.mem_cons.1 hx with rfl | hx
    · exact (h.old0 b (Array.getElem?_eq_some_iff.1 hb).1 hne).trans hb
    · exact h.blk x hx⟩
theorem wl_adopt {b : Nat} {o : Obj} (hb : w0.heap[b]? = some o) (hbase : b ∈ gs.bs ∨ W.heap.size ≤ b) (hne : ∀ x ∈ own, x.b ≠ b) (next : WL P r n ops Q N rest l ⟨W, gs, w0, ⟨b, o⟩ :: own⟩) : WL P r n ops Q N rest l ⟨W, gs, w0, own⟩ := fun a w ha hs => next a w ha (hs.adopt hb hbase hne)
theorem wo_toN {op : Op} (ho : o.op = op) (hp : plainOp op = true) (hd : o.dst = none)
    (h : ∀ a w, Ag S.gs.ds N l a → St S w → ∃ v w1, (execOp a.eval o).run P w = .ok (.value v) w1 ∧ ∃ S', S'.gs = S.gs ∧ St S' w1 ∧ WL P r n ops Q N rest l S') : WO P r n ops Q N o rest l S := fun a w ha hs => by
  refine ⟨fun _ _ => trivial, ?_⟩
  obtain ⟨v, w1, hr, S', he, hs', next⟩ := h a w ha hs
  rw [show o.semAt (FW r).round a.eval = execOp a.eval o from sem_plain hp ho _, hr]
  show wpListIn _ _ _ _ _ _ (a.put o.dst v) w1
  rw [hd]
  exact next _ w1 (by rw [he]; exact ha) hs'
/-- a part of an own block is cleared -/
theorem wo_clear {T e b k i m c : Nat} {x : Operand} {z : Value} {cs cs' : List Value} {t : TypeId} {own' : List Blk} [hT : TSl P T e] [hZ : TZ P e [z] false] (hx : ev l x = some (.slice (some ⟨b, k, none⟩) m c)) (hm : 0 < m) (h1 : z.oneCell' = true) (hzc : z.cells = #[z])
    [hB : HasB own b i (.cells cs.toArray t (0, 0))] (hk : k + m ≤ cs.length) (hcs : cs' = cs.take k ++ List.replicate m z ++ cs.drop (k + m)) [hU : UpdB own b (.cells cs'.toArray t (0, 0)) own'] (ho : o.op = .call { callee := .builtin .clear, args := #[x], argTypes := #[T] }) (hd : o.dst = none)
    (next : WL P r n ops Q N rest l ⟨W, gs, w0, own'⟩) : WO P r n ops Q N o rest l ⟨W, gs, w0, own⟩ :=
  wo_toN ho rfl hd fun a w ha hs => by
    have hb := hs.at hB.h
    obtain ⟨e1, e2, e3, e4, e5, cs2, e6, e7, e8⟩ := setCells_blk (t := t) (List.replicate m z) k w cs hb (by simpa using hk)
    have ec : cs2 = cs' := by
      subst hcs
      apply List.ext_getElem?
      intro j
      rw [e8 j]
      by_cases hj : k ≤ j ∧ j < k + (List.replicate m z).length
      · rw [if_pos hj, List.append_assoc, List.getElem?_append_right (by simp; omega), List.getElem?_append_left (by simp at hj ⊢; omega)]
        congr 1
        simp; omega
      · rw [if_neg hj]
        simp at hj
        by_cases hj2 : j < k
        · rw [List.append_assoc, List.getElem?_append_left (by simp; omega), List.getElem?_take, if_pos hj2]
        · rw [List.getElem?_append_right (by simp; omega), List.getElem?_drop]
          congr 1
          simp; omega
    subst ec
    obtain ⟨i', o0, hi', he⟩ := hU.h
    have hr := Lib.run_clear_slice (P := P) w T e o.type z hT.h (fun w => run_zero1 w) hzc h1 b k m c hm (fun j hj => by rw [cell_blk hb, List.getElem?_eq_getElem (by omega)]; rfl) (fun j hj => by simp [World.frozen?, hb])
    refine ⟨.tuple #[], w.setCells b k (List.replicate m z), ?_, ⟨W, gs, w0, own'⟩, rfl, ?_, next⟩
    · unfold execOp
      simp only [ho, resolve, invoke, builtin, Sem.run_bind, Sem.run_pure, Result.andThen_ok, List.map_toArray, List.map_cons, List.map_nil, ha.ev hx, hr]
    · subst he
      exact hs.write (x := ⟨b, o0⟩) hi' _ e1 e2 e3 (by omega) (fun b' _ hb' => e5 b' hb') e6
end
end Go.Proofs.Ytlppkbfkajionaa.Gw
