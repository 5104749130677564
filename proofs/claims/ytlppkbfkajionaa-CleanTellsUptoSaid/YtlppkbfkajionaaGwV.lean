/- The laws of the walk: operations that yield a value and leave the world. Over any program. -/
import Derived.Test.YtlppkbfkajionaaGwC
import Derived.WalkSpells
import Derived.WalkLawsBesides
import Derived.Deep.MidRow
namespace Go.Proofs.Ytlppkbfkajionaa.Gw
open Go Go.RowKit
set_option linter.unusedSimpArgs false
set_option linter.unusedVariables false
set_option linter.unusedSectionVars false
/-- facts on types, found by their number -/
class TSz (P : Program) (T : Nat) (n : outParam Nat) : Prop where h : (P.info? T).map (·.size) = some n
class TZ (P : Program) (T : Nat) (z : outParam (List Value)) (s : outParam Bool) : Prop where h : ∃ v, (P.info? T).map (·.zero) = some (some v) ∧ v.cells = z.toArray ∧ v = (if s then .agg z.toArray else z.headD undef)
class TRow (P : Program) (T : Nat) (s : outParam Bool) : Prop where h : ∃ d, P.underlying T = some d ∧ d.isRow = s
class TFld (P : Program) (T f : Nat) (off ft sz : outParam Nat) : Prop where h : ∃ fs fd, P.underlying T = some (.struct fs) ∧ fs[f]? = some fd ∧ fd.offset = off ∧ fd.type = ft ∧ (P.info? ft).map (·.size) = some sz ∧ sz ≠ 0
class TSl (P : Program) (T : Nat) (e : outParam Nat) : Prop where h : P.underlying T = some (.slice e)
class TInt (P : Program) (T : Nat) (k : outParam IntKind) : Prop where h : P.underlying T = some (.int k)
class TBool (P : Program) (T : Nat) : Prop where h : P.underlying T = some .bool
class TStr (P : Program) (T : Nat) : Prop where h : P.underlying T = some .string
class TArr (P : Program) (T : Nat) (k e : outParam Nat) : Prop where h : P.underlying T = some (.array k e)
class TMap (P : Program) (T : Nat) (k e : outParam Nat) : Prop where h : P.underlying T = some (.map k e)
/-- an element's size in cells and bytes -/
class TEl (P : Program) (e : Nat) (sz bytes : outParam Nat) : Prop where h : ∃ i v, P.info? e = some i ∧ (P.info? e).map (·.zero) = some (some v) ∧ (P.info? e).map (·.size) = some sz ∧ (P.info? e).map (·.bytes) = some bytes ∧ v.cells.size = sz ∧ 0 < sz
def oct (s : ByteArray) (i : Nat) : Int := match s.data[i]? with
  | some b => (b.toNat : Int)
  | none => 0
section
variable {P : Program} {l : List (Nat × Value)} {S : Sx}
theorem rv_move {x : Operand} {v : Value} (hx : ev l x = some v) : RV P l S (.move x) v := ⟨rfl, fun N a w o ho ha hs => by
  unfold execOp; simp only [ho, ha.ev hx]; rfl⟩
theorem rv_assign {x : Operand} {v : Value} (hx : ev l x = some v) : RV P l S (.assign x) v := ⟨rfl, fun N a w o ho ha hs => by
  unfold execOp; simp only [ho, ha.ev hx]; rfl⟩
theorem rv_pick {c x y : Operand} {b : Bool} {v : Value} (hc : ev l c = some (.bool b)) (hv : (match b with | true => ev l x | false => ev l y) = some v) : RV P l S (.pick c x y) v := ⟨rfl, fun N a w o ho ha hs => by
  unfold execOp
  cases b
  · simp only [ho, ha.ev hc, ha.ev hv, asBool, Sem.run_bind, Sem.run_pure, Result.andThen_ok]; rfl
  · simp only [ho, ha.ev hc, ha.ev hv, asBool, Sem.run_bind, Sem.run_pure, Result.andThen_ok]; rfl⟩
theorem rv_pick_t {c x y : Operand} {b : Bool} {v : Value} (hc : ev l c = some (.bool b)) (hb : b = true) (hv : ev l x = some v) : RV P l S (.pick c x y) v := by subst hb; exact rv_pick hc hv
theorem rv_pick_f {c x y : Operand} {b : Bool} {v : Value} (hc : ev l c = some (.bool b)) (hb : b = false) (hv : ev l y = some v) : RV P l S (.pick c x y) v := by subst hb; exact rv_pick hc hv
theorem rv_nilCheck {x : Operand} {p : Addr} (hx : ev l x = some (.pointer (some p))) : RV P l S (.nilCheck x) (.pointer (some p)) := ⟨rfl, fun N a w o ho ha hs => by
  unfold execOp; simp only [ho, ha.ev hx]; rfl⟩
theorem rv_nilCheck_fn {x : Operand} {f : FuncId} {fi ca : Array Value} (hx : ev l x = some (.func (.func f) fi ca)) : RV P l S (.nilCheck x) (.func (.func f) fi ca) := ⟨rfl, fun N a w o ho ha hs => by
  unfold execOp; simp only [ho, ha.ev hx]; rfl⟩
theorem run_info {T : Nat} {i : TypeInfo} (h : P.info? T = some i) (w : World) : (typeInfo T).run P w = .ok i w := by
  simp [typeInfo, h, go_sem]
theorem run_size {T k : Nat} (h : (P.info? T).map (·.size) = some k) (w : World) : (sizeOf T).run P w = .ok k w := by
  cases hi : P.info? T with
  | none => simp [hi] at h
  | some i => simp [hi] at h; simp [sizeOf, Sem.run_bind, run_info hi w, h]
theorem add_addr (b k n : Nat) : (Addr.mk b k none).add n = ⟨b, k + n, none⟩ := by
  unfold Addr.add
  split
  · rename_i h; rw [h]; rfl
  · rfl
theorem rv_fieldAddr {T f off ft sz : Nat} [hT : TFld P T f off ft sz] {x : Operand} {b k : Nat} (hx : ev l x = some (.pointer (some ⟨b, k, none⟩))) : RV P l S (.fieldAddr T x f) (.pointer (some ⟨b, k + off, none⟩)) := ⟨rfl, fun N a w o ho ha hs => by
  obtain ⟨fs, fd, h1, h2, h3, h4, h5, h6⟩ := hT.h
  unfold execOp
  simp only [ho, ha.ev hx, Instr.fieldAt, Instr.sureAddr, fieldPlace, Sem.run_bind, run_underlying h1, Result.andThen_ok, h2, Sem.run_pure, h4, run_size h5]
  rw [if_neg h6]
  simp only [Sem.run_pure, Result.andThen_ok, h3, add_addr]⟩
theorem run_isAgg {T : Nat} {s : Bool} (h : ∃ d, P.underlying T = some d ∧ d.isRow = s) (w : World) : (isAgg T).run P w = .ok s w := by
  obtain ⟨d, h1, h2⟩ := h
  unfold isAgg
  rw [Sem.run_bind, run_underlying h1 w]
  cases d <;> simp_all [TypeDesc.isRow]
theorem rv_field {T f off ft sz : Nat} [hT : TFld P T f off ft sz] [hR : TRow P ft false] {x : Operand} {cs : List Value} {v : Value} (hx : ev l x = some (.agg cs.toArray)) (hv : cs[off]? = some v) : RV P l S (.field T x f) v := ⟨rfl, fun N a w o ho ha hs => by
  obtain ⟨fs, fd, h1, h2, h3, h4, h5, h6⟩ := hT.h
  unfold execOp
  simp only [ho, ha.ev hx, Instr.field, Sem.run_bind, run_underlying h1, Result.andThen_ok, h2, asAgg, Sem.run_pure, part, h4, run_isAgg hR.h, h3]
  simp [hv]⟩
theorem rv_field_row {T f off ft sz : Nat} [hT : TFld P T f off ft sz] [hR : TRow P ft true] {x : Operand} {cs : List Value} (hx : ev l x = some (.agg cs.toArray)) : RV P l S (.field T x f) (.agg ((cs.drop off).take sz).toArray) := ⟨rfl, fun N a w o ho ha hs => by
  obtain ⟨fs, fd, h1, h2, h3, h4, h5, h6⟩ := hT.h
  unfold execOp
  simp only [ho, ha.ev hx, Instr.field, Sem.run_bind, run_underlying h1, Result.andThen_ok, h2, asAgg, Sem.run_pure, part, h4, run_isAgg hR.h, h3, if_true]
  simp only [Sem.run_bind, run_size h5 w, Result.andThen_ok, Sem.run_pure]
  simp⟩
theorem rv_extract {x : Operand} {i : Nat} {vs : List Value} {v : Value} (hx : ev l x = some (.tuple vs.toArray)) (hv : vs[i]? = some v) : RV P l S (.extract x i) v := ⟨rfl, fun N a w o ho ha hs => by
  unfold execOp
  simp only [ho, ha.ev hx, Instr.extract, List.getElem?_toArray, hv, Sem.run_bind, Sem.run_pure, Result.andThen_ok]⟩
theorem rv_not {T : Nat} {x : Operand} {b : Bool} (hx : ev l x = some (.bool b)) : RV P l S (.unOp .not T x) (.bool (!b)) := ⟨rfl, fun N a w o ho ha hs => by
  unfold execOp
  simp only [ho, ha.ev hx]
  rfl⟩
/-- whole numbers held against each other -/
theorem rv_cmp_i {op : BinOp} {T T' : Nat} {x y : Operand} {k : IntKind} {m p : Int} {b : Bool} (hx : ev l x = some (.int k m)) (hy : ev l y = some (.int k p))
    (hb : (match op with | .eql => some (m == p) | .neq => some (m != p) | .lss => some (decide (m < p)) | .leq => some (decide (m ≤ p)) | .gtr => some (decide (p < m)) | .geq => some (decide (p ≤ m)) | _ => none) = some b) : RV P l S (.binOp op T x y T') (.bool b) := ⟨rfl, fun N a w o ho ha hs => by
  unfold execOp
  simp only [ho, ha.ev hx, ha.ev hy]
  cases op <;> simp only [Option.some.injEq, reduceCtorEq] at hb <;> subst hb <;> go_simp⟩
theorem rv_eql_b {T T' : Nat} [hT : TBool P T] {x y : Operand} {m p : Bool} (hx : ev l x = some (.bool m)) (hy : ev l y = some (.bool p)) : RV P l S (.binOp .eql T x y T') (.bool (m == p)) := ⟨rfl, fun N a w o ho ha hs => by
  have hu := hT.h
  unfold execOp
  simp only [ho, ha.ev hx, ha.ev hy]
  go_simp⟩
theorem rv_neq_b {T T' : Nat} [hT : TBool P T] {x y : Operand} {m p : Bool} (hx : ev l x = some (.bool m)) (hy : ev l y = some (.bool p)) : RV P l S (.binOp .neq T x y T') (.bool (!(m == p))) := ⟨rfl, fun N a w o ho ha hs => by
  have hu := hT.h
  unfold execOp
  simp only [ho, ha.ev hx, ha.ev hy]
  go_simp⟩
theorem rv_eql_s {T T' : Nat} [hT : TStr P T] {x y : Operand} {s t : ByteArray} (hx : ev l x = some (.string s)) (hy : ev l y = some (.string t)) : RV P l S (.binOp .eql T x y T') (.bool (s.toList == t.toList)) := ⟨rfl, fun N a w o ho ha hs => by
  have hu := hT.h
  unfold execOp
  simp only [ho, ha.ev hx, ha.ev hy]
  go_simp⟩
theorem rv_neq_s {T T' : Nat} [hT : TStr P T] {x y : Operand} {s t : ByteArray} (hx : ev l x = some (.string s)) (hy : ev l y = some (.string t)) : RV P l S (.binOp .neq T x y T') (.bool (!(s.toList == t.toList))) := ⟨rfl, fun N a w o ho ha hs => by
  have hu := hT.h
  unfold execOp
  simp only [ho, ha.ev hx, ha.ev hy]
  go_simp⟩
theorem rv_add {T T' : Nat} {x y : Operand} {m p : Int} (hx : ev l x = some (.int .i64 m)) (hy : ev l y = some (.int .i64 p)) (h : -9223372036854775808 ≤ m + p ∧ m + p ≤ 9223372036854775807) : RV P l S (.binOp .add T x y T') (.int .i64 (m + p)) := ⟨rfl, fun N a w o ho ha hs => by
  have hw : IntKind.i64.wrap (m + p) = m + p := IntWalk.i64_in _ h
  unfold execOp
  simp only [ho, ha.ev hx, ha.ev hy]
  go_simp⟩
theorem rv_sub {T T' : Nat} {x y : Operand} {m p : Int} (hx : ev l x = some (.int .i64 m)) (hy : ev l y = some (.int .i64 p)) (h : -9223372036854775808 ≤ m - p ∧ m - p ≤ 9223372036854775807) : RV P l S (.binOp .sub T x y T') (.int .i64 (m - p)) := ⟨rfl, fun N a w o ho ha hs => by
  have hw : IntKind.i64.wrap (m - p) = m - p := IntWalk.i64_in _ h
  unfold execOp
  simp only [ho, ha.ev hx, ha.ev hy]
  go_simp⟩
theorem rv_addw {T T' : Nat} {x y : Operand} {k : IntKind} {m p : Int} (hx : ev l x = some (.int k m)) (hy : ev l y = some (.int k p)) : RV P l S (.binOp .add T x y T') (.int k (k.wrap (m + p))) := ⟨rfl, fun N a w o ho ha hs => by
  unfold execOp
  simp only [ho, ha.ev hx, ha.ev hy]
  go_simp⟩
theorem rv_subw {T T' : Nat} {x y : Operand} {k : IntKind} {m p : Int} (hx : ev l x = some (.int k m)) (hy : ev l y = some (.int k p)) : RV P l S (.binOp .sub T x y T') (.int k (k.wrap (m - p))) := ⟨rfl, fun N a w o ho ha hs => by
  unfold execOp
  simp only [ho, ha.ev hx, ha.ev hy]
  go_simp⟩
theorem rv_mulw {T T' : Nat} {x y : Operand} {k : IntKind} {m p : Int} (hx : ev l x = some (.int k m)) (hy : ev l y = some (.int k p)) : RV P l S (.binOp .mul T x y T') (.int k (k.wrap (m * p))) := ⟨rfl, fun N a w o ho ha hs => by
  unfold execOp
  simp only [ho, ha.ev hx, ha.ev hy]
  go_simp⟩
theorem rv_bits {op : BinOp} {T T' : Nat} {x y : Operand} {k : IntKind} {m p : Int} (hop : op = .and ∨ op = .or ∨ op = .xor) (hx : ev l x = some (.int k m)) (hy : ev l y = some (.int k p)) : RV P l S (.binOp op T x y T') (.int k (bits op k m p)) := ⟨rfl, fun N a w o ho ha hs => by
  unfold execOp
  simp only [ho, ha.ev hx, ha.ev hy]
  rcases hop with rfl | rfl | rfl <;> go_simp⟩
theorem rv_cat {T T' : Nat} [hT : TStr P T] {x y : Operand} {s t : ByteArray} (hx : ev l x = some (.string s)) (hy : ev l y = some (.string t)) (h : s.size + t.size ≤ 9223372036854775807) : RV P l S (.binOp .add T x y T') (.string (s ++ t)) := ⟨rfl, fun N a w o ho ha hs => by
  have hu := hT.h
  unfold execOp
  simp only [ho, ha.ev hx, ha.ev hy]
  go_simp⟩
theorem rv_len {T e : Nat} [hT : TSl P T e] {x : Operand} {A : Option Addr} {m c : Nat} (hx : ev l x = some (.slice A m c)) : RV P l S (.call { callee := .builtin .len, args := #[x], argTypes := #[T] }) (.int .i64 m) := ⟨rfl, fun N a w o ho ha hs => by
  have hu := hT.h
  unfold execOp
  simp only [ho]
  have hx' := ha.ev hx
  generalize a.eval = ρ at hx' ⊢
  go_simp⟩
theorem rv_cap {T e : Nat} [hT : TSl P T e] {x : Operand} {A : Option Addr} {m c : Nat} (hx : ev l x = some (.slice A m c)) : RV P l S (.call { callee := .builtin .cap, args := #[x], argTypes := #[T] }) (.int .i64 c) := ⟨rfl, fun N a w o ho ha hs => by
  have hu := hT.h
  unfold execOp
  simp only [ho]
  have hx' := ha.ev hx
  generalize a.eval = ρ at hx' ⊢
  go_simp⟩
theorem rv_len_s {T : Nat} [hT : TStr P T] {x : Operand} {s : ByteArray} (hx : ev l x = some (.string s)) : RV P l S (.call { callee := .builtin .len, args := #[x], argTypes := #[T] }) (.int .i64 s.size) := ⟨rfl, fun N a w o ho ha hs => by
  have hu := hT.h
  unfold execOp
  simp only [ho]
  have hx' := ha.ev hx
  generalize a.eval = ρ at hx' ⊢
  go_simp⟩
theorem rv_index_s {T : Nat} [hT : TStr P T] {x y : Operand} {s : ByteArray} {k : IntKind} {i : Int} (hx : ev l x = some (.string s)) (hy : ev l y = some (.int k i)) (h : 0 ≤ i ∧ i < s.size) : RV P l S (.index T x y) (.int .u8 (oct s i.toNat)) := ⟨rfl, fun N a w o ho ha hs => by
  have hu := hT.h
  have hlt : i.toNat < s.size := by omega
  have e : s[i.toNat]? = some s[i.toNat] := by simp [hlt]
  have e2 : oct s i.toNat = (s[i.toNat].toNat : Int) := by
    unfold oct
    rw [Array.getElem?_eq_getElem (by exact hlt)]
    rfl
  unfold execOp
  simp only [ho, ha.ev hx, ha.ev hy, Instr.index, asIntOf, Sem.run_bind, Sem.run_pure, Result.andThen_ok, run_underlying hu, if_pos h.1, e, e2]⟩
end
end Go.Proofs.Ytlppkbfkajionaa.Gw
