/- The contract of strings.Join over this program (printed by the kit's own programs). -/
import Derived.Shelf.Strings.Builder1
import Derived.Shelf.Strings.Builder2
import Derived.Shelf.Strings.OnBuilder
import Derived.Shelf.Strings.BuilderF
import Derived.Shelf.Strings.BuilderK
import Derived.Shelf.Strings.Builder2Cap
import Derived.Shelf.Strings.BuilderCap
import Derived.Test.YtlppkbfkajionaaProg
namespace Go.Proofs
open Go.Shelf
set_option linter.unusedSimpArgs false
set_option linter.unusedVariables false
set_option linter.unusedSectionVars false
def Try.lays156_ren : Go.Shelf.Ren := ⟨fun | 156 => 136 | 165 => 179 | 166 => 180 | 169 => 181 | 240 => 193 | 241 => 194 | 276 => 198 | 277 => 199 | n => n, fun | 31 => 49 | 9 => 9 | 3 => 3 | 4 => 4 | 0 => 0 | 20 => 20 | 72 => 227 | 76 => 231 | 70 => 225 | 37 => 123 | 75 => 230 | 127 => 245 | 164 => 254 | 5 => 5 | 80 => 233 | n => n, fun | n => n⟩
theorem Try.lays156 : Go.Proofs.Lays.n156 Try.prog Try.lays156_ren := {
  mixed := by kernel_rfl
  f156 := Try.func136.trans (congrArg some (by kernel_rfl))
  f165 := Try.func179.trans (congrArg some (by kernel_rfl))
  f166 := Try.func180.trans (congrArg some (by kernel_rfl))
  f169 := Try.func181.trans (congrArg some (by kernel_rfl))
  f240 := Try.func193.trans (congrArg some (by kernel_rfl))
  f241 := Try.func194.trans (congrArg some (by kernel_rfl))
  f276 := Try.func198.trans (congrArg some (by kernel_rfl))
  f277 := Try.func199.trans (congrArg some (by kernel_rfl))
  t0 := Try.underlying0
  a0 := Try.isAgg0
  z0 := Try.sizeOf0
  v0 := Try.zeroValue0
  t3 := Try.underlying3
  a3 := Try.isAgg3
  z3 := Try.sizeOf3
  v3 := Try.zeroValue3
  t4 := Try.underlying4
  a4 := Try.isAgg4
  z4 := Try.sizeOf4
  v4 := Try.zeroValue4
  t9 := Try.underlying9
  a9 := Try.isAgg9
  z9 := Try.sizeOf9
  v9 := Try.zeroValue9
  t20 := Try.underlying20
  a20 := Try.isAgg20
  z20 := Try.sizeOf20
  v20 := Try.zeroValue20
  t31 := Try.underlying49
  a31 := Try.isAgg49
  z31 := Try.sizeOf49
  v31 := Try.zeroValue49
  t37 := Try.underlying123
  a37 := Try.isAgg123
  z37 := Try.sizeOf123
  v37 := Try.zeroValue123
  t70 := Try.underlying225
  a70 := Try.isAgg225
  z70 := Try.sizeOf225
  v70 := Try.zeroValue225
  t72 := Try.underlying227
  a72 := Try.isAgg227
  z72 := Try.sizeOf227
  v72 := Try.zeroValue227
  t75 := Try.underlying230
  a75 := Try.isAgg230
  z75 := Try.sizeOf230
  v75 := Try.zeroValue230
  t76 := Try.underlying231
  a76 := Try.isAgg231
  z76 := Try.sizeOf231
  v76 := Try.zeroValue231
  t127 := Try.underlying245
  a127 := Try.isAgg245
  z127 := Try.sizeOf245
  v127 := Try.zeroValue245
  t164 := Try.underlying254
  a164 := Try.isAgg254
  z164 := Try.sizeOf254
  v164 := Try.zeroValue254 }
theorem Try.Builder_Extra_156 : Builder.Extra Try.prog Try.lays156_ren := {
  sizeBuilder := by kernel_rfl
  liesBuilder := by kernel_rfl
  t5 := Try.underlying5
  a5 := Try.isAgg5
  z5 := Try.sizeOf5
  v5 := Try.zeroValue5
  infoByte := by kernel_rfl
  cellsByte := by kernel_rfl
  sizeByte := by kernel_rfl
  neB5 := by decide }
open Go.RowKit in
/-- No element: the empty string; the world is as it was. (Whatever the slice's address and capacity: a nil slice too.) (LAID: no walk: one application.) -/
theorem Try.strings_Join_none (a : Option Addr) (c : Nat) (sep : ByteArray) (w : World) :
    Calls Try.prog 136 #[.slice a 0 c, .string sep] w fun e w' => e = .returned (.string ⟨#[]⟩) ∧ w' = w := Any.strings_Join_none Try.lays156 Try.Builder_Extra_156 a c sep w
open Go.RowKit in
/-- strings.Join: "Join concatenates the elements of its first argument to create a single string. The separator string sep is placed between elements in the resulting string.": HOWEVER MANY ELEMENTS. Below the heap's end the world is as it was. (LAID: no walk: one application.) -/
theorem Try.strings_Join (bk o c : Nat) (xs : List ByteArray) (sep : ByteArray) (w : World) (hcells : ∀ (j : Nat) x, xs[j]? = some x → w.cell? ⟨bk, o + j, none⟩ = some (.string x)) (hbk : bk < w.heap.size) (hN : xs.length ≤ 140737488355328) (hcap : xs.length ≤ c) (hlen : (Lib.join (xs.map (·.data.toList)) sep.data.toList).length ≤ 140737488355328) :
    Calls Try.prog 136 #[.slice (some ⟨bk, o, none⟩) xs.length c, .string sep] w fun e w' => e = .returned (.string ⟨(Lib.join (xs.map (·.data.toList)) sep.data.toList).toArray⟩) ∧ Below w.heap.size w w' := Any.strings_Join Try.lays156 Try.Builder_Extra_156 bk o c xs sep w hcells hbk hN hcap hlen
end Go.Proofs
