/- The laws of the walk: texts as lists of bytes. Over any program. -/
import Derived.Test.YtlppkbfkajionaaGwQ
import Derived.Scope
import Derived.Lib.Strings
namespace Go.Proofs.Ytlppkbfkajionaa.Gw
open Go Go.RowKit
set_option linter.unusedSimpArgs false
set_option linter.unusedVariables false
set_option linter.unusedSectionVars false
/-- a text of these bytes -/
abbrev toB (l : List UInt8) : ByteArray := ⟨l.toArray⟩
theorem toB_size (x : List UInt8) : (toB x).size = x.length := by simp [ByteArray.size]
theorem toB_list (s : ByteArray) : toB s.data.toList = s := by cases s; simp [toB]
theorem toB_inj {x y : List UInt8} (h : toB x = toB y) : x = y := by
  have h2 := congrArg (fun z => z.data.toList) h
  simpa [toB] using h2
theorem toB_extract (x : List UInt8) (i j : Nat) : (toB x).extract i j = toB ((x.take j).drop i) := by
  apply ByteArray.ext
  rw [ByteArray.data_extract]
  apply Array.ext'
  simp [Array.toList_extract, List.extract_eq_take_drop]
  rw [List.drop_take]
theorem toB_append (x y : List UInt8) : toB x ++ toB y = toB (x ++ y) := by
  apply ByteArray.ext
  rw [ByteArray.data_append]
  simp
theorem toB_toList (x : List UInt8) : (toB x).toList = x := by
  rw [Go.Lib.toList_data]
section
variable {P : Program} {r : Option Nat} {n : Nat} {ops : Array Oper} {Q : Exit → Act → World → Prop} {N : Nat} {l : List (Nat × Value)} {ds : List Deferred} {W w0 : World} {gs : Gx} {own : List Blk} {rest : List Oper} {o : Oper} {S : Sx}
theorem rb_eql {T T' : Nat} [TStr P T] {x y : Operand} {s t : List UInt8} (hx : ev l x = some (.string (toB s))) (hy : ev l y = some (.string (toB t))) : RV P l S (.binOp .eql T x y T') (.bool (s == t)) := by
  have := rv_eql_s (P := P) (S := S) (T := T) (T' := T') hx hy
  rwa [toB_toList, toB_toList] at this
theorem rb_neq {T T' : Nat} [TStr P T] {x y : Operand} {s t : List UInt8} (hx : ev l x = some (.string (toB s))) (hy : ev l y = some (.string (toB t))) : RV P l S (.binOp .neq T x y T') (.bool (!(s == t))) := by
  have := rv_neq_s (P := P) (S := S) (T := T) (T' := T') hx hy
  rwa [toB_toList, toB_toList] at this
theorem rb_cat {T T' : Nat} [TStr P T] {x y : Operand} {s t : List UInt8} (hx : ev l x = some (.string (toB s))) (hy : ev l y = some (.string (toB t))) (h : s.length + t.length ≤ 9223372036854775807) : RV P l S (.binOp .add T x y T') (.string (toB (s ++ t))) := by
  have := rv_cat (P := P) (S := S) (T := T) (T' := T') hx hy (by rw [toB_size, toB_size]; exact h)
  rwa [toB_append] at this
theorem rb_len {T : Nat} [TStr P T] {x : Operand} {s : List UInt8} (hx : ev l x = some (.string (toB s))) : RV P l S (.call { callee := .builtin .len, args := #[x], argTypes := #[T] }) (.int .i64 s.length) := by
  have := rv_len_s (P := P) (S := S) (T := T) hx
  rwa [toB_size] at this
theorem rb_index {T : Nat} [TStr P T] {x y : Operand} {s : List UInt8} {k : IntKind} {i : Int} {b : UInt8} (hx : ev l x = some (.string (toB s))) (hy : ev l y = some (.int k i)) (h0 : 0 ≤ i) (hb : s[i.toNat]? = some b) : RV P l S (.index T x y) (.int .u8 (b.toNat : Int)) := by
  have hlt := (List.getElem?_eq_some_iff.1 hb).1
  have := rv_index_s (P := P) (S := S) (T := T) hx hy ⟨h0, by rw [toB_size]; omega⟩
  have e : oct (toB s) i.toNat = (b.toNat : Int) := by
    unfold oct
    simp [toB, hb]
  rwa [e] at this
theorem rb_slice {T : Nat} [TStr P T] {x : Operand} {lo hi : Option Operand} {s : List UInt8} {lv hv : Nat} (hx : ev l x = some (.string (toB s))) (h1 : bnd l lo 0 lv) (h2 : bnd l hi s.length hv) (hle : lv ≤ hv ∧ hv ≤ s.length) :
    RV P l S (.slice T x lo hi none) (.string (toB ((s.take hv).drop lv))) := by
  have := rv_slice_s (P := P) (S := S) (T := T) hx h1 (by rw [toB_size]; exact h2) (by rw [toB_size]; exact hle)
  rwa [toB_extract] at this
theorem rb_slice_from {T : Nat} [TStr P T] {x y : Operand} {s : List UInt8} {k : IntKind} {i : Int} (hx : ev l x = some (.string (toB s))) (hy : ev l y = some (.int k i)) (h : 0 ≤ i ∧ i ≤ s.length) : RV P l S (.slice T x (some y) none none) (.string (toB (s.drop i.toNat))) := by
  have := rb_slice (P := P) (S := S) (T := T) (lo := some y) (hi := none) hx (bnd_some hy h.1) bnd_none ⟨by omega, Nat.le_refl _⟩
  rwa [List.take_of_length_le (Nat.le_refl _)] at this
theorem rb_slice_to {T : Nat} [TStr P T] {x y : Operand} {s : List UInt8} {k : IntKind} {i : Int} (hx : ev l x = some (.string (toB s))) (hy : ev l y = some (.int k i)) (h : 0 ≤ i ∧ i ≤ s.length) : RV P l S (.slice T x none (some y) none) (.string (toB (s.take i.toNat))) := by
  have := rb_slice (P := P) (S := S) (T := T) (lo := none) (hi := some y) hx bnd_none (bnd_some hy h.1) ⟨Nat.zero_le _, by omega⟩
  rwa [List.drop_zero] at this
/-- a scope through which the run goes without a jump -/
theorem wc_scope {c : Code} (h : WC P none n c (Exit.noGoto Q) N l S) : WC P none n (.scope c) Q N l S := fun a w ha hs => wpIn_wide.2 (wp_scope_straight (wpIn_wide.1 (h a w ha hs)))
theorem wq_scope_normal (h : WQ Q .normal N l S) : WQ (Exit.noGoto Q) .normal N l S := fun a w ha hs => h a w ha hs
theorem wq_scope_ret (h : WQ Q .ret N l S) : WQ (Exit.noGoto Q) .ret N l S := fun a w ha hs => h a w ha hs
theorem wq_scope_exit {id : Nat} (h : WQ Q (.exit id) N l S) : WQ (Exit.noGoto Q) (.exit id) N l S := fun a w ha hs => h a w ha hs
end
end Go.Proofs.Ytlppkbfkajionaa.Gw
