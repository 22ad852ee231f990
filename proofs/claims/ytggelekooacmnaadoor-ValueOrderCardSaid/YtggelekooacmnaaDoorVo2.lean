/- Lemmas for: FC that mh is true for every list of numbers: the order of values is total and transitive, and equal values have the same text. -/
import Derived.Shelf.Strings.Builder1
import Derived.Shelf.Strings.Builder2
import Derived.Shelf.Strings.OnBuilder
import Derived.Shelf.Small.Wraps
import Derived.Shelf.Strconv.Itoa0
import Derived.Shelf.Strconv.Itoa1
import Derived.Shelf.LaysM
import Derived.Shelf.Strconv.Itoa2
import Derived.Shelf.Strconv.Itoa3
import Derived.Shelf.Slices.Equal
import Derived.Test.YtggelekooacmnaaDoorProg
import Derived.Lib.AppendIntMem
import Derived.Below
import Derived.Deep.Draws
import Derived.Deep.AppendLies
import Derived.Maps.AppendAt
import Derived.OwnWalk
import Derived.Laws.BytesArg
import Derived.Laws.MakeOwn
import Derived.Laws.OwnMore
import Derived.Deep.OwnRows
import Derived.Tactics
import Derived.Lib.ConvBytes
import Derived.Laws.Slices
import Derived.WalkKit
import Derived.KernelRfl
import Derived.RowKit3
import Derived.Deep.LoopGhost
import Derived.Deep.QuietTactic
import Derived.BigQuiet
import Derived.WideLaws
import Derived.Deep.DeepCutAuto
import Derived.Deep.CutBlock
import Derived.Deep.RegionHeld3
import Derived.Laws.Rows
import Derived.Lib.AppendStr
import Derived.ArgAppend
import Derived.Laws.IdiomCopy
import Derived.OrdersHeld
import Derived.Laws.BitsLemmas
import Derived.RowKit
import Derived.Orders
import Derived.Test.YtggelekooacmnaaDoorVo1
/-
  DERIVED: THE SHELF's CONTRACTS AT THIS DUMP, IN PLAIN WORDS (tools/lay-plain.mjs out of 'TrydShelf.lean', which tools/lay-shelf.mjs wrote): THE SAME DECLARATIONS UNDER THE SAME NAMES: 'import', 'namespace', 'open', 'def', 'theorem' AND NOTHING ELSE: no command of the shelf's: FOR A HAND-IN. Each laying: the table of numbers ('.._ren') and one theorem, a field a fact of the dump's own or the kernel's comparison; each contract: ONE APPLICATION.
-/
namespace Go.Proofs
open Go.Shelf
def Tryd.NG : Go.Shelf.Ren := ⟨fun | 169 => 91 | n => n, fun | 70 => 88 | 9 => 9 | 0 => 0 | 72 => 91 | 37 => 89 | 127 => 100 | 3 => 3 | 5 => 5 | n => n, fun | n => n⟩
theorem Tryd.QK : Go.Proofs.Lays.n169 Tryd.prog Tryd.NG := {
  mixed := by kernel_rfl
  f169 := Tryd.func91.trans (congrArg some (by kernel_rfl))
  t0 := Tryd.underlying0
  a0 := Tryd.isAgg0
  z0 := Tryd.sizeOf0
  v0 := Tryd.zeroValue0
  t3 := Tryd.underlying3
  a3 := Tryd.isAgg3
  z3 := Tryd.sizeOf3
  v3 := Tryd.zeroValue3
  t9 := Tryd.underlying9
  a9 := Tryd.isAgg9
  z9 := Tryd.sizeOf9
  v9 := Tryd.zeroValue9
  t37 := Tryd.underlying89
  a37 := Tryd.isAgg89
  z37 := Tryd.sizeOf89
  v37 := Tryd.zeroValue89
  t70 := Tryd.underlying88
  a70 := Tryd.isAgg88
  z70 := Tryd.sizeOf88
  v70 := Tryd.zeroValue88
  t72 := Tryd.underlying91
  a72 := Tryd.isAgg91
  z72 := Tryd.sizeOf91
  v72 := Tryd.zeroValue91
  t127 := Tryd.underlying100
  a127 := Tryd.isAgg100
  z127 := Tryd.sizeOf100
  v127 := Tryd.zeroValue100 }
theorem Tryd.yK : Builder.Extra Tryd.prog Tryd.NG := {
  sizeBuilder := by kernel_rfl
  liesBuilder := by kernel_rfl
  t5 := Tryd.underlying5
  a5 := Tryd.isAgg5
  z5 := Tryd.sizeOf5
  v5 := Tryd.zeroValue5
  infoByte := by kernel_rfl
  cellsByte := by kernel_rfl
  sizeByte := by kernel_rfl
  neB5 := by decide }
open Go.RowKit in
/-- (*strings.Builder).String: "String returns the accumulated string.": OF A BUILDER THAT HOLDS AT LEAST ONE BYTE. ✋ THE MODEL FREEZES THOSE BYTES IN THE BUFFER (unsafe.String): a later write INTO them ends the model's run without an answer; a later append BEHIND them goes on. The statement's order of evaluation is drawn: one draw. (LAID: no walk: one application.) -/
theorem Tryd.Builder_String (B b : Nat) (l : List UInt8) (w : World) (h : Lib.IsBuilder 91 5 B b (Lib.byteCells l) w) (h0 : l ≠ []) :
    Calls Tryd.prog 91 #[.pointer (some ⟨b, 0, none⟩)] w fun e w' => e = .returned (.string ⟨l.toArray⟩) ∧ Below B w w' := Any.Builder_String Tryd.QK Tryd.yK B b l w h h0
open Go.RowKit in
/-- (*strings.Builder).String OF A BUILDER THAT HOLDS NO BYTE: the empty string. (Its buffer is nil, or a row of which it has taken nothing yet; where that row has NO capacity the model lays one new block for unsafe.SliceData's 'some address'.) One draw. (LAID: no walk: one application.) -/
theorem Tryd.Builder_String_empty (B b : Nat) (w : World) (h : Lib.IsBuilder 91 5 B b [] w) (hBw : B ≤ w.heap.size) :
    Calls Tryd.prog 91 #[.pointer (some ⟨b, 0, none⟩)] w fun e w' => e = .returned (.string ⟨#[]⟩) ∧ Below B w w' := Any.Builder_String_empty Tryd.QK Tryd.yK B b w h hBw
open Go.RowKit in
/-- (*strings.Builder).String: "String returns the accumulated string.": WHATEVER THE BUILDER HOLDS. (LAID: no walk: one application.) -/
theorem Tryd.Builder_String_any (B b : Nat) (l : List UInt8) (w : World) (h : Lib.IsBuilder 91 5 B b (Lib.byteCells l) w) (hBw : B ≤ w.heap.size) :
    Calls Tryd.prog 91 #[.pointer (some ⟨b, 0, none⟩)] w fun e w' => e = .returned (.string ⟨l.toArray⟩) ∧ Below B w w' := Any.Builder_String_any Tryd.QK Tryd.yK B b l w h hBw
def Tryd.NH : Go.Shelf.Ren := ⟨fun | 241 => 98 | 277 => 106 | n => n, fun | 70 => 88 | 3 => 3 | 0 => 0 | 72 => 91 | 37 => 89 | 5 => 5 | n => n, fun | n => n⟩
theorem Tryd.lays241 : Go.Proofs.Lays.n241 Tryd.prog Tryd.NH := {
  mixed := by kernel_rfl
  f241 := Tryd.func98.trans (congrArg some (by kernel_rfl))
  f277 := Tryd.func106.trans (congrArg some (by kernel_rfl))
  t0 := Tryd.underlying0
  a0 := Tryd.isAgg0
  z0 := Tryd.sizeOf0
  v0 := Tryd.zeroValue0
  t3 := Tryd.underlying3
  a3 := Tryd.isAgg3
  z3 := Tryd.sizeOf3
  v3 := Tryd.zeroValue3
  t37 := Tryd.underlying89
  a37 := Tryd.isAgg89
  z37 := Tryd.sizeOf89
  v37 := Tryd.zeroValue89
  t70 := Tryd.underlying88
  a70 := Tryd.isAgg88
  z70 := Tryd.sizeOf88
  v70 := Tryd.zeroValue88
  t72 := Tryd.underlying91
  a72 := Tryd.isAgg91
  z72 := Tryd.sizeOf91
  v72 := Tryd.zeroValue91 }
theorem Tryd.Nw : Builder.Extra Tryd.prog Tryd.NH := {
  sizeBuilder := by kernel_rfl
  liesBuilder := by kernel_rfl
  t5 := Tryd.underlying5
  a5 := Tryd.isAgg5
  z5 := Tryd.sizeOf5
  v5 := Tryd.zeroValue5
  infoByte := by kernel_rfl
  cellsByte := by kernel_rfl
  sizeByte := by kernel_rfl
  neB5 := by decide }
open Go.RowKit in
/-- (*strings.Builder).grow (no doc but "grow copies the buffer to a new, larger buffer so that there are at least n bytes of capacity beyond len(b.buf)."): AT A BUILDER WITHOUT A BUFFER: a new row of whatever bytes for its buffer, none of them its own yet. Three draws. (LAID: no walk: one application.) -/
theorem Tryd.Builder_grow_fresh (B b n : Nat) (w : World) (hB : B ≤ b) (hbk : w.heap[b]? = some (.cells #[.pointer (some ⟨b, 0, none⟩), .slice none 0 0] 91 (0, 0))) (hBw : B ≤ w.heap.size) (hn : n ≤ 281474976710656) :
    Calls Tryd.prog 98 #[.pointer (some ⟨b, 0, none⟩), .int .i64 n] w fun e w' => e = .returned (.tuple #[]) ∧ (Lib.BuilderAt 91 5 B b (.pointer (some ⟨b, 0, none⟩)) [] w' ∧ Below B w w') := Any.Builder_grow_fresh Tryd.lays241 Tryd.Nw B b n w hB hbk hBw hn
def Tryd.NI : Go.Shelf.Ren := ⟨fun | 165 => 89 | 240 => 97 | 241 => 98 | 276 => 105 | 277 => 106 | n => n, fun | 70 => 88 | 3 => 3 | 0 => 0 | 4 => 4 | 9 => 9 | 20 => 20 | 72 => 91 | 37 => 89 | 164 => 112 | 5 => 5 | n => n, fun | n => n⟩
theorem Tryd.lays165 : Go.Proofs.Lays.n165 Tryd.prog Tryd.NI := {
  mixed := by kernel_rfl
  f165 := Tryd.func89.trans (congrArg some (by kernel_rfl))
  f240 := Tryd.func97.trans (congrArg some (by kernel_rfl))
  f241 := Tryd.func98.trans (congrArg some (by kernel_rfl))
  f276 := Tryd.func105.trans (congrArg some (by kernel_rfl))
  f277 := Tryd.func106.trans (congrArg some (by kernel_rfl))
  t0 := Tryd.underlying0
  a0 := Tryd.isAgg0
  z0 := Tryd.sizeOf0
  v0 := Tryd.zeroValue0
  t3 := Tryd.underlying3
  a3 := Tryd.isAgg3
  z3 := Tryd.sizeOf3
  v3 := Tryd.zeroValue3
  t4 := Tryd.underlying4
  a4 := Tryd.isAgg4
  z4 := Tryd.sizeOf4
  v4 := Tryd.zeroValue4
  t9 := Tryd.underlying9
  a9 := Tryd.isAgg9
  z9 := Tryd.sizeOf9
  v9 := Tryd.zeroValue9
  t20 := Tryd.underlying20
  a20 := Tryd.isAgg20
  z20 := Tryd.sizeOf20
  v20 := Tryd.zeroValue20
  t37 := Tryd.underlying89
  a37 := Tryd.isAgg89
  z37 := Tryd.sizeOf89
  v37 := Tryd.zeroValue89
  t70 := Tryd.underlying88
  a70 := Tryd.isAgg88
  z70 := Tryd.sizeOf88
  v70 := Tryd.zeroValue88
  t72 := Tryd.underlying91
  a72 := Tryd.isAgg91
  z72 := Tryd.sizeOf91
  v72 := Tryd.zeroValue91
  t164 := Tryd.underlying112
  a164 := Tryd.isAgg112
  z164 := Tryd.sizeOf112
  v164 := Tryd.zeroValue112 }
theorem Tryd.Ny : Builder.Extra Tryd.prog Tryd.NI := {
  sizeBuilder := by kernel_rfl
  liesBuilder := by kernel_rfl
  t5 := Tryd.underlying5
  a5 := Tryd.isAgg5
  z5 := Tryd.sizeOf5
  v5 := Tryd.zeroValue5
  infoByte := by kernel_rfl
  cellsByte := by kernel_rfl
  sizeByte := by kernel_rfl
  neB5 := by decide }
open Go.RowKit in
/-- (*strings.Builder).Grow AT A BUILDER THAT HAS NOT BEEN WRITTEN ('var b strings.Builder; b.Grow(n)'): "Grow grows b's capacity, if necessary, to guarantee space for another n bytes.": it holds no byte behind it as before it. (LAID: no walk: one application.) -/
theorem Tryd.Builder_Grow_fresh (B b n : Nat) (w : World) (hB : B ≤ b) (hbk : w.heap[b]? = some (.cells #[.pointer none, .slice none 0 0] 91 (0, 0))) (hBw : B ≤ w.heap.size) (hn : n ≤ 281474976710656) :
    Calls Tryd.prog 89 #[.pointer (some ⟨b, 0, none⟩), .int .i64 n] w fun e w' => e = .returned (.tuple #[]) ∧ (Lib.BuilderAt 91 5 B b (.pointer (some ⟨b, 0, none⟩)) [] w' ∧ Below B w w') := Any.Builder_Grow_fresh Tryd.lays165 Tryd.Ny B b n w hB hbk hBw hn
def Tryd.NJ : Go.Shelf.Ren := ⟨fun | 156 => 72 | 165 => 89 | 166 => 90 | 169 => 91 | 240 => 97 | 241 => 98 | 276 => 105 | 277 => 106 | n => n, fun | 31 => 79 | 9 => 9 | 3 => 3 | 4 => 4 | 0 => 0 | 20 => 20 | 72 => 91 | 76 => 95 | 70 => 88 | 37 => 89 | 75 => 94 | 127 => 100 | 164 => 112 | 5 => 5 | 80 => 97 | n => n, fun | n => n⟩
theorem Tryd.UN : Go.Proofs.Lays.n156 Tryd.prog Tryd.NJ := {
  mixed := by kernel_rfl
  f156 := Tryd.func72.trans (congrArg some (by kernel_rfl))
  f165 := Tryd.func89.trans (congrArg some (by kernel_rfl))
  f166 := Tryd.func90.trans (congrArg some (by kernel_rfl))
  f169 := Tryd.func91.trans (congrArg some (by kernel_rfl))
  f240 := Tryd.func97.trans (congrArg some (by kernel_rfl))
  f241 := Tryd.func98.trans (congrArg some (by kernel_rfl))
  f276 := Tryd.func105.trans (congrArg some (by kernel_rfl))
  f277 := Tryd.func106.trans (congrArg some (by kernel_rfl))
  t0 := Tryd.underlying0
  a0 := Tryd.isAgg0
  z0 := Tryd.sizeOf0
  v0 := Tryd.zeroValue0
  t3 := Tryd.underlying3
  a3 := Tryd.isAgg3
  z3 := Tryd.sizeOf3
  v3 := Tryd.zeroValue3
  t4 := Tryd.underlying4
  a4 := Tryd.isAgg4
  z4 := Tryd.sizeOf4
  v4 := Tryd.zeroValue4
  t9 := Tryd.underlying9
  a9 := Tryd.isAgg9
  z9 := Tryd.sizeOf9
  v9 := Tryd.zeroValue9
  t20 := Tryd.underlying20
  a20 := Tryd.isAgg20
  z20 := Tryd.sizeOf20
  v20 := Tryd.zeroValue20
  t31 := Tryd.underlying79
  a31 := Tryd.isAgg79
  z31 := Tryd.sizeOf79
  v31 := Tryd.zeroValue79
  t37 := Tryd.underlying89
  a37 := Tryd.isAgg89
  z37 := Tryd.sizeOf89
  v37 := Tryd.zeroValue89
  t70 := Tryd.underlying88
  a70 := Tryd.isAgg88
  z70 := Tryd.sizeOf88
  v70 := Tryd.zeroValue88
  t72 := Tryd.underlying91
  a72 := Tryd.isAgg91
  z72 := Tryd.sizeOf91
  v72 := Tryd.zeroValue91
  t75 := Tryd.underlying94
  a75 := Tryd.isAgg94
  z75 := Tryd.sizeOf94
  v75 := Tryd.zeroValue94
  t76 := Tryd.underlying95
  a76 := Tryd.isAgg95
  z76 := Tryd.sizeOf95
  v76 := Tryd.zeroValue95
  t127 := Tryd.underlying100
  a127 := Tryd.isAgg100
  z127 := Tryd.sizeOf100
  v127 := Tryd.zeroValue100
  t164 := Tryd.underlying112
  a164 := Tryd.isAgg112
  z164 := Tryd.sizeOf112
  v164 := Tryd.zeroValue112 }
theorem Tryd.DW : Builder.Extra Tryd.prog Tryd.NJ := {
  sizeBuilder := by kernel_rfl
  liesBuilder := by kernel_rfl
  t5 := Tryd.underlying5
  a5 := Tryd.isAgg5
  z5 := Tryd.sizeOf5
  v5 := Tryd.zeroValue5
  infoByte := by kernel_rfl
  cellsByte := by kernel_rfl
  sizeByte := by kernel_rfl
  neB5 := by decide }
open Go.RowKit in
/-- No element: the empty string; the world is as it was. (Whatever the slice's address and capacity: a nil slice too.) (LAID: no walk: one application.) -/
theorem Tryd.strings_Join_none (a : Option Addr) (c : Nat) (sep : ByteArray) (w : World) :
    Calls Tryd.prog 72 #[.slice a 0 c, .string sep] w fun e w' => e = .returned (.string ⟨#[]⟩) ∧ w' = w := Any.strings_Join_none Tryd.UN Tryd.DW a c sep w
open Go.RowKit in
/-- strings.Join: "Join concatenates the elements of its first argument to create a single string. The separator string sep is placed between elements in the resulting string.": HOWEVER MANY ELEMENTS. Below the heap's end the world is as it was. (LAID: no walk: one application.) -/
theorem Tryd.strings_Join (bk o c : Nat) (xs : List ByteArray) (sep : ByteArray) (w : World) (hcells : ∀ (j : Nat) x, xs[j]? = some x → w.cell? ⟨bk, o + j, none⟩ = some (.string x)) (hbk : bk < w.heap.size) (hN : xs.length ≤ 140737488355328) (hcap : xs.length ≤ c) (hlen : (Lib.join (xs.map (·.data.toList)) sep.data.toList).length ≤ 140737488355328) :
    Calls Tryd.prog 72 #[.slice (some ⟨bk, o, none⟩) xs.length c, .string sep] w fun e w' => e = .returned (.string ⟨(Lib.join (xs.map (·.data.toList)) sep.data.toList).toArray⟩) ∧ Below w.heap.size w w' := Any.strings_Join Tryd.UN Tryd.DW bk o c xs sep w hcells hbk hN hcap hlen
def Tryd.Uj : Go.Shelf.Ren := ⟨fun | 214 => 94 | n => n, fun | 4 => 4 | 9 => 9 | n => n, fun | n => n⟩
theorem Tryd.lays214 : Go.Proofs.Lays.n214 Tryd.prog Tryd.Uj := {
  mixed := by kernel_rfl
  f214 := Tryd.func94.trans (congrArg some (by kernel_rfl))
  t4 := Tryd.underlying4
  a4 := Tryd.isAgg4
  z4 := Tryd.sizeOf4
  v4 := Tryd.zeroValue4
  t9 := Tryd.underlying9
  a9 := Tryd.isAgg9
  z9 := Tryd.sizeOf9
  v9 := Tryd.zeroValue9 }
open Go.RowKit in
/-- internal/strconv.FormatBool (what strconv.FormatBool calls). (LAID: no walk: one application.) -/
theorem Tryd.internal_strconv_FormatBool (b : Bool) (w : World) :
    Calls Tryd.prog 94 #[.bool b] w fun e w' => e = .returned (.string ⟨(Lib.formatBool b).toArray⟩) ∧ w' = w := Any.internal_strconv_FormatBool Tryd.lays214 b w
def Tryd.Uk : Go.Shelf.Ren := ⟨fun | 121 => 82 | 214 => 94 | n => n, fun | 4 => 4 | 9 => 9 | n => n, fun | n => n⟩
theorem Tryd.lays121 : Go.Proofs.Lays.n121 Tryd.prog Tryd.Uk := {
  mixed := by kernel_rfl
  f121 := Tryd.func82.trans (congrArg some (by kernel_rfl))
  f214 := Tryd.func94.trans (congrArg some (by kernel_rfl))
  t4 := Tryd.underlying4
  a4 := Tryd.isAgg4
  z4 := Tryd.sizeOf4
  v4 := Tryd.zeroValue4
  t9 := Tryd.underlying9
  a9 := Tryd.isAgg9
  z9 := Tryd.sizeOf9
  v9 := Tryd.zeroValue9 }
open Go.RowKit in
/-- strconv.FormatBool: "FormatBool returns "true" or "false" according to the value of b.": IT RETURNS 'Lib.formatBool b'; the world is as it was. (LAID: no walk: one application.) -/
theorem Tryd.strconv_FormatBool (b : Bool) (w : World) :
    Calls Tryd.prog 82 #[.bool b] w fun e w' => e = .returned (.string ⟨(Lib.formatBool b).toArray⟩) ∧ w' = w := Any.strconv_FormatBool Tryd.lays121 b w
def Tryd.Ul : Go.Shelf.Ren := ⟨fun | 215 => 93 | n => n, fun | 3 => 3 | 4 => 4 | n => n, fun | n => n⟩
theorem Tryd.lays215 : Go.Proofs.Lays.n215 Tryd.prog Tryd.Ul := {
  mixed := by kernel_rfl
  f215 := Tryd.func93.trans (congrArg some (by kernel_rfl))
  t3 := Tryd.underlying3
  a3 := Tryd.isAgg3
  z3 := Tryd.sizeOf3
  v3 := Tryd.zeroValue3
  t4 := Tryd.underlying4
  a4 := Tryd.isAgg4
  z4 := Tryd.sizeOf4
  v4 := Tryd.zeroValue4 }
open Go.RowKit in
/-- cmp.isNaN at int: 'x != x': false. (LAID: no walk: one application.) -/
theorem Tryd.cmp_isNaN_int (x : Int) (w : World) :
    Calls Tryd.prog 93 #[.int .i64 x] w fun e w' => e = .returned (.bool false) ∧ w' = w := Any.cmp_isNaN_int Tryd.lays215 x w
def Tryd.Um : Go.Shelf.Ren := ⟨fun | 122 => 80 | 215 => 93 | n => n, fun | 3 => 3 | 4 => 4 | n => n, fun | n => n⟩
theorem Tryd.lays122 : Go.Proofs.Lays.n122 Tryd.prog Tryd.Um := {
  mixed := by kernel_rfl
  f122 := Tryd.func80.trans (congrArg some (by kernel_rfl))
  f215 := Tryd.func93.trans (congrArg some (by kernel_rfl))
  t3 := Tryd.underlying3
  a3 := Tryd.isAgg3
  z3 := Tryd.sizeOf3
  v3 := Tryd.zeroValue3
  t4 := Tryd.underlying4
  a4 := Tryd.isAgg4
  z4 := Tryd.sizeOf4
  v4 := Tryd.zeroValue4 }
open Go.RowKit in
/-- cmp.Compare at int: "Compare returns -1 if x is less than y, 0 if x equals y, +1 if x is greater than y.": IT RETURNS 'Lib.compareInt x y'; the world is as it was. (LAID: no walk: one application.) -/
theorem Tryd.cmp_Compare_int (x y : Int) (w : World) :
    Calls Tryd.prog 80 #[.int .i64 x, .int .i64 y] w fun e w' => e = .returned (.int .i64 (Lib.compareInt x y)) ∧ w' = w := Any.cmp_Compare_int Tryd.lays122 x y w
def Tryd.Un : Go.Shelf.Ren := ⟨fun | 129 => 112 | n => n, fun | 53 => 107 | 3 => 3 | 4 => 4 | 46 => 124 | 5 => 5 | 9 => 9 | n => n, fun | n => n⟩
theorem Tryd.lays129 : Go.Proofs.Lays.n129 Tryd.prog Tryd.Un := {
  mixed := by kernel_rfl
  f129 := Tryd.func112.trans (congrArg some (by kernel_rfl))
  t3 := Tryd.underlying3
  a3 := Tryd.isAgg3
  z3 := Tryd.sizeOf3
  v3 := Tryd.zeroValue3
  t4 := Tryd.underlying4
  a4 := Tryd.isAgg4
  z4 := Tryd.sizeOf4
  v4 := Tryd.zeroValue4
  t5 := Tryd.underlying5
  a5 := Tryd.isAgg5
  z5 := Tryd.sizeOf5
  v5 := Tryd.zeroValue5
  t9 := Tryd.underlying9
  a9 := Tryd.isAgg9
  z9 := Tryd.sizeOf9
  v9 := Tryd.zeroValue9
  t46 := Tryd.underlying124
  a46 := Tryd.isAgg124
  z46 := Tryd.sizeOf124
  v46 := Tryd.zeroValue124
  t53 := Tryd.underlying107
  a53 := Tryd.isAgg107
  z53 := Tryd.sizeOf107
  v53 := Tryd.zeroValue107 }
/-- bits.Len64: "Len64 returns the minimum number of bits required to represent x; the result is 0 for x == 0.": IT RETURNS 'Lib.bitLen x'; the world is as it was. ('h0', 'h1': x is a uint64.) (LAID: no walk: one application.) -/
theorem Tryd.bits_Len64 (x : Int) (w : World) (h0 : 0 ≤ x) (h1 : x ≤ 18446744073709551615) :
    Calls Tryd.prog 112 #[.int .u64 x] w fun e w' => e = .returned (.int .i64 (Lib.bitLen x.toNat)) ∧ w' = w := Any.bits_Len64 Tryd.lays129 x w h0 h1
def Tryd.Uo : Go.Shelf.Ren := ⟨fun | 317 => 111 | n => n, fun | 3 => 3 | 46 => 124 | n => n, fun | n => n⟩
theorem Tryd.lays317 : Go.Proofs.Lays.n317 Tryd.prog Tryd.Uo := {
  mixed := by kernel_rfl
  f317 := Tryd.func111.trans (congrArg some (by kernel_rfl))
  t3 := Tryd.underlying3
  a3 := Tryd.isAgg3
  z3 := Tryd.sizeOf3
  v3 := Tryd.zeroValue3
  t46 := Tryd.underlying124
  a46 := Tryd.isAgg124
  z46 := Tryd.sizeOf124
  v46 := Tryd.zeroValue124 }
open Go.Lib in
/-- internal/strconv.log10Pow2: "log10Pow2(x) returns ⌊log₁₀ 2**x⌋ = ⌊x * log₁₀ 2⌋.": '(x * 78913) >> 18', at an x up to 64 (a length in bits). The world is as it was. (LAID: no walk: one application.) -/
theorem Tryd.internal_strconv_log10Pow2 (x : Nat) (h : x ≤ 64) (w : World) :
    Calls Tryd.prog 111 #[.int .i64 x] w fun e w' => e = .returned (.int .i64 (Lib.l10 x)) ∧ w' = w := Any.internal_strconv_log10Pow2 Tryd.lays317 x h w
def Tryd.Uq : Go.Shelf.Ren := ⟨fun | 318 => 113 | n => n, fun | 3 => 3 | 4 => 4 | n => n, fun | n => n⟩
theorem Tryd.lays318 : Go.Proofs.Lays.n318 Tryd.prog Tryd.Uq := {
  mixed := by kernel_rfl
  f318 := Tryd.func113.trans (congrArg some (by kernel_rfl))
  t3 := Tryd.underlying3
  a3 := Tryd.isAgg3
  z3 := Tryd.sizeOf3
  v3 := Tryd.zeroValue3
  t4 := Tryd.underlying4
  a4 := Tryd.isAgg4
  z4 := Tryd.sizeOf4
  v4 := Tryd.zeroValue4 }
open Go.Lib in
/-- internal/strconv.bool2: "bool2 converts b to an integer: 1 for true, 0 for false." The world is as it was. (LAID: no walk: one application.) -/
theorem Tryd.internal_strconv_bool2_int (b : Bool) (w : World) :
    Calls Tryd.prog 113 #[.bool b] w fun e w' => e = .returned (.int .i64 (if b then 1 else 0)) ∧ w' = w := Any.internal_strconv_bool2_int Tryd.lays318 b w
def Tryd.Ur : Go.Shelf.Ren := ⟨fun | 283 => 101 | n => n, fun | 3 => 3 | 9 => 9 | 4 => 4 | n => n, fun | n => n⟩
theorem Tryd.lays283 : Go.Proofs.Lays.n283 Tryd.prog Tryd.Ur := {
  mixed := by kernel_rfl
  f283 := Tryd.func101.trans (congrArg some (by kernel_rfl))
  t3 := Tryd.underlying3
  a3 := Tryd.isAgg3
  z3 := Tryd.sizeOf3
  v3 := Tryd.zeroValue3
  t4 := Tryd.underlying4
  a4 := Tryd.isAgg4
  z4 := Tryd.sizeOf4
  v4 := Tryd.zeroValue4
  t9 := Tryd.underlying9
  a9 := Tryd.isAgg9
  z9 := Tryd.sizeOf9
  v9 := Tryd.zeroValue9 }
open Go.Lib in
/-- internal/strconv.small: "small returns the string for an i with 0 <= i < nSmalls.": i's decimal numeral. The world is as it was. (LAID: no walk: one application.) -/
theorem Tryd.internal_strconv_small (i : Nat) (h : i < 100) (w : World) :
    Calls Tryd.prog 101 #[.int .i64 i] w fun e w' => e = .returned (.string ⟨(Lib.decDigits i).toArray⟩) ∧ w' = w := Any.internal_strconv_small Tryd.lays283 i h w
def Tryd.TB : Go.Shelf.Ren := ⟨fun | 284 => 102 | 129 => 112 | 317 => 111 | 318 => 113 | n => n, fun | 53 => 107 | 3 => 3 | 212 => 122 | 0 => 0 | 4 => 4 | 46 => 124 | 5 => 5 | 9 => 9 | n => n, fun | 17 => 0 | n => n⟩
theorem Tryd.laysM284 : Go.Proofs.LaysM.n284 Tryd.prog Tryd.TB := {
  mixed := by kernel_rfl
  f129 := Tryd.func112.trans (congrArg some (by kernel_rfl))
  f284 := Tryd.func102.trans (congrArg some (by kernel_rfl))
  f317 := Tryd.func111.trans (congrArg some (by kernel_rfl))
  f318 := Tryd.func113.trans (congrArg some (by kernel_rfl))
  t0 := Tryd.underlying0
  a0 := Tryd.isAgg0
  z0 := Tryd.sizeOf0
  v0 := Tryd.zeroValue0
  t3 := Tryd.underlying3
  a3 := Tryd.isAgg3
  z3 := Tryd.sizeOf3
  v3 := Tryd.zeroValue3
  t4 := Tryd.underlying4
  a4 := Tryd.isAgg4
  z4 := Tryd.sizeOf4
  v4 := Tryd.zeroValue4
  t5 := Tryd.underlying5
  a5 := Tryd.isAgg5
  z5 := Tryd.sizeOf5
  v5 := Tryd.zeroValue5
  t9 := Tryd.underlying9
  a9 := Tryd.isAgg9
  z9 := Tryd.sizeOf9
  v9 := Tryd.zeroValue9
  t46 := Tryd.underlying124
  a46 := Tryd.isAgg124
  z46 := Tryd.sizeOf124
  v46 := Tryd.zeroValue124
  t53 := Tryd.underlying107
  a53 := Tryd.isAgg107
  z53 := Tryd.sizeOf107
  v53 := Tryd.zeroValue107
  t212 := Tryd.underlying122
  a212 := Tryd.isAgg122
  z212 := Tryd.sizeOf122
  v212 := Tryd.zeroValue122
  g17 := by kernel_rfl
  i0 := by kernel_rfl
  i3 := by kernel_rfl
  i4 := by kernel_rfl
  i5 := by kernel_rfl
  i9 := by kernel_rfl
  i46 := by kernel_rfl
  i53 := by kernel_rfl
  i212 := by kernel_rfl
  m17 := by kernel_rfl }
open Go.Lib in
/-- internal/strconv.numDigits, at a d that is not 0: THE NUMBER OF d's DECIMAL DIGITS. The world is as it was. (LAID: no walk: one application.) -/
theorem Tryd.internal_strconv_numDigits (u : Nat) (h1 : 1 ≤ u) (h2 : u < 18446744073709551616) (w : World) (htab : Lib.TabIs Tryd.prog w "internal/strconv.uint64pow10" .u64 Lib.pow10Tab) :
    Calls Tryd.prog 102 #[.int .u64 u] w fun e w' => e = .returned (.int .i64 (Lib.nDigits u)) ∧ w' = w := Any.internal_strconv_numDigits Tryd.laysM284 u h1 h2 w htab
def Tryd.Us : Go.Shelf.Ren := ⟨fun | 285 => 103 | n => n, fun | 37 => 89 | 53 => 107 | 3 => 3 | 4 => 4 | 51 => 119 | 9 => 9 | 5 => 5 | 0 => 0 | n => n, fun | n => n⟩
theorem Tryd.lays285 : Go.Proofs.Lays.n285 Tryd.prog Tryd.Us := {
  mixed := by kernel_rfl
  f285 := Tryd.func103.trans (congrArg some (by kernel_rfl))
  t0 := Tryd.underlying0
  a0 := Tryd.isAgg0
  z0 := Tryd.sizeOf0
  v0 := Tryd.zeroValue0
  t3 := Tryd.underlying3
  a3 := Tryd.isAgg3
  z3 := Tryd.sizeOf3
  v3 := Tryd.zeroValue3
  t4 := Tryd.underlying4
  a4 := Tryd.isAgg4
  z4 := Tryd.sizeOf4
  v4 := Tryd.zeroValue4
  t5 := Tryd.underlying5
  a5 := Tryd.isAgg5
  z5 := Tryd.sizeOf5
  v5 := Tryd.zeroValue5
  t9 := Tryd.underlying9
  a9 := Tryd.isAgg9
  z9 := Tryd.sizeOf9
  v9 := Tryd.zeroValue9
  t37 := Tryd.underlying89
  a37 := Tryd.isAgg89
  z37 := Tryd.sizeOf89
  v37 := Tryd.zeroValue89
  t51 := Tryd.underlying119
  a51 := Tryd.isAgg119
  z51 := Tryd.sizeOf119
  v51 := Tryd.zeroValue119
  t53 := Tryd.underlying107
  a53 := Tryd.isAgg107
  z53 := Tryd.sizeOf107
  v53 := Tryd.zeroValue107 }
open Go.RowKit Go.Sort Go.Lib in
/-- internal/strconv.formatBase10: "formatBase10 formats the decimal representation of u into a. The caller is responsible for ensuring that a is big enough to hold u. If a is too big, leading zeros will be filled in as needed.": THE ROW HOLDS u's DIGITS ('FmtInv .. 0 ..': every place t holds 'dg u (len - 1 - t)'); all else is as it was but for the count of draws. (LAID: no walk: one application.) -/
theorem Tryd.internal_strconv_formatBase10 (blk off cap : Nat) (u : Nat) (d : Array UInt8) (w : World) (hH : Holds (fun (b : UInt8) => Value.int .u8 (b.toNat : Int)) w blk off d) (hu : u < 10 ^ d.size) (hu64 : u < 18446744073709551616) (hsz : d.size < 4611686018427387904) :
    Calls Tryd.prog 103 #[.slice (some ⟨blk, off, none⟩) d.size cap, .int .u64 u] w fun e w' =>
      e = .returned (.tuple #[]) ∧ ∃ (n v' : Nat) (dk : Array UInt8), w' = (putRow (fun (b : UInt8) => Value.int .u8 (b.toNat : Int)) w blk off dk).drewN n ∧ FmtInv d.size u 0 v' dk := Any.internal_strconv_formatBase10 Tryd.lays285 blk off cap u d w hH hu hu64 hsz
def Tryd.TC : Go.Shelf.Ren := ⟨fun | 246 => 96 | 283 => 101 | 284 => 102 | 285 => 103 | 286 => 104 | 129 => 112 | 317 => 111 | 318 => 113 | 319 => 114 | 320 => 115 | 337 => 119 | 338 => 120 | n => n, fun | 2 => 2 | 3 => 3 | 9 => 9 | 4 => 4 | 171 => 106 | 0 => 0 | 53 => 107 | 37 => 89 | 5 => 5 | 173 => 110 | 212 => 122 | 51 => 119 | 20 => 20 | 213 => 123 | 46 => 124 | 232 => 133 | 233 => 134 | n => n, fun | 17 => 0 | 18 => 2 | 19 => 3 | n => n⟩
theorem Tryd.laysM246 : Go.Proofs.LaysM.n246 Tryd.prog Tryd.TC := {
  mixed := by kernel_rfl
  f129 := Tryd.func112.trans (congrArg some (by kernel_rfl))
  f246 := Tryd.func96.trans (congrArg some (by kernel_rfl))
  f283 := Tryd.func101.trans (congrArg some (by kernel_rfl))
  f284 := Tryd.func102.trans (congrArg some (by kernel_rfl))
  f285 := Tryd.func103.trans (congrArg some (by kernel_rfl))
  f286 := Tryd.func104.trans (congrArg some (by kernel_rfl))
  f317 := Tryd.func111.trans (congrArg some (by kernel_rfl))
  f318 := Tryd.func113.trans (congrArg some (by kernel_rfl))
  f319 := Tryd.func114.trans (congrArg some (by kernel_rfl))
  f320 := Tryd.func115.trans (congrArg some (by kernel_rfl))
  f337 := Tryd.func119.trans (congrArg some (by kernel_rfl))
  f338 := Tryd.func120.trans (congrArg some (by kernel_rfl))
  t0 := Tryd.underlying0
  a0 := Tryd.isAgg0
  z0 := Tryd.sizeOf0
  v0 := Tryd.zeroValue0
  t2 := Tryd.underlying2
  a2 := Tryd.isAgg2
  z2 := Tryd.sizeOf2
  v2 := Tryd.zeroValue2
  t3 := Tryd.underlying3
  a3 := Tryd.isAgg3
  z3 := Tryd.sizeOf3
  v3 := Tryd.zeroValue3
  t4 := Tryd.underlying4
  a4 := Tryd.isAgg4
  z4 := Tryd.sizeOf4
  v4 := Tryd.zeroValue4
  t5 := Tryd.underlying5
  a5 := Tryd.isAgg5
  z5 := Tryd.sizeOf5
  v5 := Tryd.zeroValue5
  t9 := Tryd.underlying9
  a9 := Tryd.isAgg9
  z9 := Tryd.sizeOf9
  v9 := Tryd.zeroValue9
  t20 := Tryd.underlying20
  a20 := Tryd.isAgg20
  z20 := Tryd.sizeOf20
  v20 := Tryd.zeroValue20
  t37 := Tryd.underlying89
  a37 := Tryd.isAgg89
  z37 := Tryd.sizeOf89
  v37 := Tryd.zeroValue89
  t46 := Tryd.underlying124
  a46 := Tryd.isAgg124
  z46 := Tryd.sizeOf124
  v46 := Tryd.zeroValue124
  t51 := Tryd.underlying119
  a51 := Tryd.isAgg119
  z51 := Tryd.sizeOf119
  v51 := Tryd.zeroValue119
  t53 := Tryd.underlying107
  a53 := Tryd.isAgg107
  z53 := Tryd.sizeOf107
  v53 := Tryd.zeroValue107
  t171 := Tryd.underlying106
  a171 := Tryd.isAgg106
  z171 := Tryd.sizeOf106
  v171 := Tryd.zeroValue106
  t173 := Tryd.underlying110
  a173 := Tryd.isAgg110
  z173 := Tryd.sizeOf110
  v173 := Tryd.zeroValue110
  t212 := Tryd.underlying122
  a212 := Tryd.isAgg122
  z212 := Tryd.sizeOf122
  v212 := Tryd.zeroValue122
  t213 := Tryd.underlying123
  a213 := Tryd.isAgg123
  z213 := Tryd.sizeOf123
  t232 := Tryd.underlying133
  a232 := Tryd.isAgg133
  z232 := Tryd.sizeOf133
  v232 := Tryd.zeroValue133
  t233 := Tryd.underlying134
  a233 := Tryd.isAgg134
  z233 := Tryd.sizeOf134
  v233 := Tryd.zeroValue134
  g17 := by kernel_rfl
  g18 := by kernel_rfl
  g19 := by kernel_rfl
  i0 := by kernel_rfl
  i2 := by kernel_rfl
  i3 := by kernel_rfl
  i4 := by kernel_rfl
  i5 := by kernel_rfl
  i9 := by kernel_rfl
  i20 := by kernel_rfl
  i37 := by kernel_rfl
  i46 := by kernel_rfl
  i51 := by kernel_rfl
  i53 := by kernel_rfl
  i171 := by kernel_rfl
  i173 := by kernel_rfl
  i212 := by kernel_rfl
  i232 := by kernel_rfl
  i233 := by kernel_rfl
  m17 := by kernel_rfl
  m18 := by kernel_rfl
  m19 := by kernel_rfl }
open Go.RowKit Go.Sort Go.Lib in
/-- internal/strconv.FormatInt: "FormatInt returns the string representation of i in the given base": AT BASE 10: i's decimal numeral, for every int64. The world behind the call: the world before it, new blocks behind the heap, draws. (LAID: no walk: one application.) -/
theorem Tryd.internal_strconv_FormatInt_10 (n : Int) (h0 : -9223372036854775808 ≤ n) (h1 : n ≤ 9223372036854775807) (w : World) (htab : Lib.TabIs Tryd.prog w "internal/strconv.uint64pow10" .u64 Lib.pow10Tab) :
    Calls Tryd.prog 96 #[.int .i64 n, .int .i64 10] w fun e w' => e = .returned (.string ⟨(Lib.itoa n).toArray⟩) ∧ ∃ k os, w' = grow (w.drewN k) os := Any.internal_strconv_FormatInt_10 Tryd.laysM246 n h0 h1 w htab
def Tryd.Ut : Go.Shelf.Ren := ⟨fun | 246 => 96 | 283 => 101 | 284 => 102 | 285 => 103 | 286 => 104 | 129 => 112 | 317 => 111 | 318 => 113 | 319 => 114 | 320 => 115 | 337 => 119 | 338 => 120 | n => n, fun | 2 => 2 | 3 => 3 | 9 => 9 | 4 => 4 | 171 => 106 | 0 => 0 | 53 => 107 | 37 => 89 | 5 => 5 | 173 => 110 | 212 => 122 | 51 => 119 | 20 => 20 | 213 => 123 | 46 => 124 | 232 => 133 | 233 => 134 | n => n, fun | 17 => 0 | 18 => 2 | 19 => 3 | n => n⟩
theorem Tryd.lays246 : Go.Proofs.Lays.n246 Tryd.prog Tryd.Ut := {
  mixed := by kernel_rfl
  f129 := Tryd.func112.trans (congrArg some (by kernel_rfl))
  f246 := Tryd.func96.trans (congrArg some (by kernel_rfl))
  f283 := Tryd.func101.trans (congrArg some (by kernel_rfl))
  f284 := Tryd.func102.trans (congrArg some (by kernel_rfl))
  f285 := Tryd.func103.trans (congrArg some (by kernel_rfl))
  f286 := Tryd.func104.trans (congrArg some (by kernel_rfl))
  f317 := Tryd.func111.trans (congrArg some (by kernel_rfl))
  f318 := Tryd.func113.trans (congrArg some (by kernel_rfl))
  f319 := Tryd.func114.trans (congrArg some (by kernel_rfl))
  f320 := Tryd.func115.trans (congrArg some (by kernel_rfl))
  f337 := Tryd.func119.trans (congrArg some (by kernel_rfl))
  f338 := Tryd.func120.trans (congrArg some (by kernel_rfl))
  t0 := Tryd.underlying0
  a0 := Tryd.isAgg0
  z0 := Tryd.sizeOf0
  v0 := Tryd.zeroValue0
  t2 := Tryd.underlying2
  a2 := Tryd.isAgg2
  z2 := Tryd.sizeOf2
  v2 := Tryd.zeroValue2
  t3 := Tryd.underlying3
  a3 := Tryd.isAgg3
  z3 := Tryd.sizeOf3
  v3 := Tryd.zeroValue3
  t4 := Tryd.underlying4
  a4 := Tryd.isAgg4
  z4 := Tryd.sizeOf4
  v4 := Tryd.zeroValue4
  t5 := Tryd.underlying5
  a5 := Tryd.isAgg5
  z5 := Tryd.sizeOf5
  v5 := Tryd.zeroValue5
  t9 := Tryd.underlying9
  a9 := Tryd.isAgg9
  z9 := Tryd.sizeOf9
  v9 := Tryd.zeroValue9
  t20 := Tryd.underlying20
  a20 := Tryd.isAgg20
  z20 := Tryd.sizeOf20
  v20 := Tryd.zeroValue20
  t37 := Tryd.underlying89
  a37 := Tryd.isAgg89
  z37 := Tryd.sizeOf89
  v37 := Tryd.zeroValue89
  t46 := Tryd.underlying124
  a46 := Tryd.isAgg124
  z46 := Tryd.sizeOf124
  v46 := Tryd.zeroValue124
  t51 := Tryd.underlying119
  a51 := Tryd.isAgg119
  z51 := Tryd.sizeOf119
  v51 := Tryd.zeroValue119
  t53 := Tryd.underlying107
  a53 := Tryd.isAgg107
  z53 := Tryd.sizeOf107
  v53 := Tryd.zeroValue107
  t171 := Tryd.underlying106
  a171 := Tryd.isAgg106
  z171 := Tryd.sizeOf106
  v171 := Tryd.zeroValue106
  t173 := Tryd.underlying110
  a173 := Tryd.isAgg110
  z173 := Tryd.sizeOf110
  v173 := Tryd.zeroValue110
  t212 := Tryd.underlying122
  a212 := Tryd.isAgg122
  z212 := Tryd.sizeOf122
  v212 := Tryd.zeroValue122
  t213 := Tryd.underlying123
  a213 := Tryd.isAgg123
  z213 := Tryd.sizeOf123
  t232 := Tryd.underlying133
  a232 := Tryd.isAgg133
  z232 := Tryd.sizeOf133
  v232 := Tryd.zeroValue133
  t233 := Tryd.underlying134
  a233 := Tryd.isAgg134
  z233 := Tryd.sizeOf134
  v233 := Tryd.zeroValue134
  g17 := by kernel_rfl
  g18 := by kernel_rfl
  g19 := by kernel_rfl }
open Go.RowKit Go.Sort Go.Lib in
/-- THE ROAD WITHOUT THE TABLE: 0 <= i < 100: two constants are read, nothing is laid: no premise on the world, and the world is as it was. (LAID: no walk: one application.) -/
theorem Tryd.internal_strconv_FormatInt_10_small (i : Nat) (hi : i < 100) (w : World) :
    Calls Tryd.prog 96 #[.int .i64 i, .int .i64 10] w fun e w' => e = .returned (.string ⟨(Lib.decDigits i).toArray⟩) ∧ w' = w := Any.internal_strconv_FormatInt_10_small Tryd.lays246 i hi w
def Tryd.TD : Go.Shelf.Ren := ⟨fun | 243 => 88 | 246 => 96 | 283 => 101 | 284 => 102 | 285 => 103 | 286 => 104 | 129 => 112 | 317 => 111 | 318 => 113 | 319 => 114 | 320 => 115 | 337 => 119 | 338 => 120 | n => n, fun | 3 => 3 | 9 => 9 | 2 => 2 | 4 => 4 | 171 => 106 | 0 => 0 | 53 => 107 | 37 => 89 | 5 => 5 | 173 => 110 | 212 => 122 | 51 => 119 | 20 => 20 | 213 => 123 | 46 => 124 | 232 => 133 | 233 => 134 | n => n, fun | 17 => 0 | 18 => 2 | 19 => 3 | n => n⟩
theorem Tryd.laysM243 : Go.Proofs.LaysM.n243 Tryd.prog Tryd.TD := {
  mixed := by kernel_rfl
  f129 := Tryd.func112.trans (congrArg some (by kernel_rfl))
  f243 := Tryd.func88.trans (congrArg some (by kernel_rfl))
  f246 := Tryd.func96.trans (congrArg some (by kernel_rfl))
  f283 := Tryd.func101.trans (congrArg some (by kernel_rfl))
  f284 := Tryd.func102.trans (congrArg some (by kernel_rfl))
  f285 := Tryd.func103.trans (congrArg some (by kernel_rfl))
  f286 := Tryd.func104.trans (congrArg some (by kernel_rfl))
  f317 := Tryd.func111.trans (congrArg some (by kernel_rfl))
  f318 := Tryd.func113.trans (congrArg some (by kernel_rfl))
  f319 := Tryd.func114.trans (congrArg some (by kernel_rfl))
  f320 := Tryd.func115.trans (congrArg some (by kernel_rfl))
  f337 := Tryd.func119.trans (congrArg some (by kernel_rfl))
  f338 := Tryd.func120.trans (congrArg some (by kernel_rfl))
  t0 := Tryd.underlying0
  a0 := Tryd.isAgg0
  z0 := Tryd.sizeOf0
  v0 := Tryd.zeroValue0
  t2 := Tryd.underlying2
  a2 := Tryd.isAgg2
  z2 := Tryd.sizeOf2
  v2 := Tryd.zeroValue2
  t3 := Tryd.underlying3
  a3 := Tryd.isAgg3
  z3 := Tryd.sizeOf3
  v3 := Tryd.zeroValue3
  t4 := Tryd.underlying4
  a4 := Tryd.isAgg4
  z4 := Tryd.sizeOf4
  v4 := Tryd.zeroValue4
  t5 := Tryd.underlying5
  a5 := Tryd.isAgg5
  z5 := Tryd.sizeOf5
  v5 := Tryd.zeroValue5
  t9 := Tryd.underlying9
  a9 := Tryd.isAgg9
  z9 := Tryd.sizeOf9
  v9 := Tryd.zeroValue9
  t20 := Tryd.underlying20
  a20 := Tryd.isAgg20
  z20 := Tryd.sizeOf20
  v20 := Tryd.zeroValue20
  t37 := Tryd.underlying89
  a37 := Tryd.isAgg89
  z37 := Tryd.sizeOf89
  v37 := Tryd.zeroValue89
  t46 := Tryd.underlying124
  a46 := Tryd.isAgg124
  z46 := Tryd.sizeOf124
  v46 := Tryd.zeroValue124
  t51 := Tryd.underlying119
  a51 := Tryd.isAgg119
  z51 := Tryd.sizeOf119
  v51 := Tryd.zeroValue119
  t53 := Tryd.underlying107
  a53 := Tryd.isAgg107
  z53 := Tryd.sizeOf107
  v53 := Tryd.zeroValue107
  t171 := Tryd.underlying106
  a171 := Tryd.isAgg106
  z171 := Tryd.sizeOf106
  v171 := Tryd.zeroValue106
  t173 := Tryd.underlying110
  a173 := Tryd.isAgg110
  z173 := Tryd.sizeOf110
  v173 := Tryd.zeroValue110
  t212 := Tryd.underlying122
  a212 := Tryd.isAgg122
  z212 := Tryd.sizeOf122
  v212 := Tryd.zeroValue122
  t213 := Tryd.underlying123
  a213 := Tryd.isAgg123
  z213 := Tryd.sizeOf123
  t232 := Tryd.underlying133
  a232 := Tryd.isAgg133
  z232 := Tryd.sizeOf133
  v232 := Tryd.zeroValue133
  t233 := Tryd.underlying134
  a233 := Tryd.isAgg134
  z233 := Tryd.sizeOf134
  v233 := Tryd.zeroValue134
  g17 := by kernel_rfl
  g18 := by kernel_rfl
  g19 := by kernel_rfl
  i0 := by kernel_rfl
  i2 := by kernel_rfl
  i3 := by kernel_rfl
  i4 := by kernel_rfl
  i5 := by kernel_rfl
  i9 := by kernel_rfl
  i20 := by kernel_rfl
  i37 := by kernel_rfl
  i46 := by kernel_rfl
  i51 := by kernel_rfl
  i53 := by kernel_rfl
  i171 := by kernel_rfl
  i173 := by kernel_rfl
  i212 := by kernel_rfl
  i232 := by kernel_rfl
  i233 := by kernel_rfl
  m17 := by kernel_rfl
  m18 := by kernel_rfl
  m19 := by kernel_rfl }
open Go.RowKit Go.Sort Go.Lib in
/-- internal/strconv.Itoa: "Itoa is equivalent to FormatInt(int64(i), 10).": i's decimal numeral, for every int. (LAID: no walk: one application.) -/
theorem Tryd.internal_strconv_Itoa (n : Int) (h0 : -9223372036854775808 ≤ n) (h1 : n ≤ 9223372036854775807) (w : World) (htab : Lib.TabIs Tryd.prog w "internal/strconv.uint64pow10" .u64 Lib.pow10Tab) :
    Calls Tryd.prog 88 #[.int .i64 n] w fun e w' => e = .returned (.string ⟨(Lib.itoa n).toArray⟩) ∧ ∃ k os, w' = grow (w.drewN k) os := Any.internal_strconv_Itoa Tryd.laysM243 n h0 h1 w htab
def Tryd.Uu : Go.Shelf.Ren := ⟨fun | 243 => 88 | 246 => 96 | 283 => 101 | 284 => 102 | 285 => 103 | 286 => 104 | 129 => 112 | 317 => 111 | 318 => 113 | 319 => 114 | 320 => 115 | 337 => 119 | 338 => 120 | n => n, fun | 3 => 3 | 9 => 9 | 2 => 2 | 4 => 4 | 171 => 106 | 0 => 0 | 53 => 107 | 37 => 89 | 5 => 5 | 173 => 110 | 212 => 122 | 51 => 119 | 20 => 20 | 213 => 123 | 46 => 124 | 232 => 133 | 233 => 134 | n => n, fun | 17 => 0 | 18 => 2 | 19 => 3 | n => n⟩
theorem Tryd.lays243 : Go.Proofs.Lays.n243 Tryd.prog Tryd.Uu := {
  mixed := by kernel_rfl
  f129 := Tryd.func112.trans (congrArg some (by kernel_rfl))
  f243 := Tryd.func88.trans (congrArg some (by kernel_rfl))
  f246 := Tryd.func96.trans (congrArg some (by kernel_rfl))
  f283 := Tryd.func101.trans (congrArg some (by kernel_rfl))
  f284 := Tryd.func102.trans (congrArg some (by kernel_rfl))
  f285 := Tryd.func103.trans (congrArg some (by kernel_rfl))
  f286 := Tryd.func104.trans (congrArg some (by kernel_rfl))
  f317 := Tryd.func111.trans (congrArg some (by kernel_rfl))
  f318 := Tryd.func113.trans (congrArg some (by kernel_rfl))
  f319 := Tryd.func114.trans (congrArg some (by kernel_rfl))
  f320 := Tryd.func115.trans (congrArg some (by kernel_rfl))
  f337 := Tryd.func119.trans (congrArg some (by kernel_rfl))
  f338 := Tryd.func120.trans (congrArg some (by kernel_rfl))
  t0 := Tryd.underlying0
  a0 := Tryd.isAgg0
  z0 := Tryd.sizeOf0
  v0 := Tryd.zeroValue0
  t2 := Tryd.underlying2
  a2 := Tryd.isAgg2
  z2 := Tryd.sizeOf2
  v2 := Tryd.zeroValue2
  t3 := Tryd.underlying3
  a3 := Tryd.isAgg3
  z3 := Tryd.sizeOf3
  v3 := Tryd.zeroValue3
  t4 := Tryd.underlying4
  a4 := Tryd.isAgg4
  z4 := Tryd.sizeOf4
  v4 := Tryd.zeroValue4
  t5 := Tryd.underlying5
  a5 := Tryd.isAgg5
  z5 := Tryd.sizeOf5
  v5 := Tryd.zeroValue5
  t9 := Tryd.underlying9
  a9 := Tryd.isAgg9
  z9 := Tryd.sizeOf9
  v9 := Tryd.zeroValue9
  t20 := Tryd.underlying20
  a20 := Tryd.isAgg20
  z20 := Tryd.sizeOf20
  v20 := Tryd.zeroValue20
  t37 := Tryd.underlying89
  a37 := Tryd.isAgg89
  z37 := Tryd.sizeOf89
  v37 := Tryd.zeroValue89
  t46 := Tryd.underlying124
  a46 := Tryd.isAgg124
  z46 := Tryd.sizeOf124
  v46 := Tryd.zeroValue124
  t51 := Tryd.underlying119
  a51 := Tryd.isAgg119
  z51 := Tryd.sizeOf119
  v51 := Tryd.zeroValue119
  t53 := Tryd.underlying107
  a53 := Tryd.isAgg107
  z53 := Tryd.sizeOf107
  v53 := Tryd.zeroValue107
  t171 := Tryd.underlying106
  a171 := Tryd.isAgg106
  z171 := Tryd.sizeOf106
  v171 := Tryd.zeroValue106
  t173 := Tryd.underlying110
  a173 := Tryd.isAgg110
  z173 := Tryd.sizeOf110
  v173 := Tryd.zeroValue110
  t212 := Tryd.underlying122
  a212 := Tryd.isAgg122
  z212 := Tryd.sizeOf122
  v212 := Tryd.zeroValue122
  t213 := Tryd.underlying123
  a213 := Tryd.isAgg123
  z213 := Tryd.sizeOf123
  t232 := Tryd.underlying133
  a232 := Tryd.isAgg133
  z232 := Tryd.sizeOf133
  v232 := Tryd.zeroValue133
  t233 := Tryd.underlying134
  a233 := Tryd.isAgg134
  z233 := Tryd.sizeOf134
  v233 := Tryd.zeroValue134
  g17 := by kernel_rfl
  g18 := by kernel_rfl
  g19 := by kernel_rfl }
open Go.RowKit Go.Sort Go.Lib in
/-- THE ROAD WITHOUT THE TABLE: 0 <= i < 100. (LAID: no walk: one application.) -/
theorem Tryd.internal_strconv_Itoa_small (i : Nat) (hi : i < 100) (w : World) :
    Calls Tryd.prog 88 #[.int .i64 i] w fun e w' => e = .returned (.string ⟨(Lib.decDigits i).toArray⟩) ∧ w' = w := Any.internal_strconv_Itoa_small Tryd.lays243 i hi w
def Tryd.TE : Go.Shelf.Ren := ⟨fun | 171 => 71 | 243 => 88 | 246 => 96 | 283 => 101 | 284 => 102 | 285 => 103 | 286 => 104 | 129 => 112 | 317 => 111 | 318 => 113 | 319 => 114 | 320 => 115 | 337 => 119 | 338 => 120 | n => n, fun | 3 => 3 | 9 => 9 | 2 => 2 | 4 => 4 | 171 => 106 | 0 => 0 | 53 => 107 | 37 => 89 | 5 => 5 | 173 => 110 | 212 => 122 | 51 => 119 | 20 => 20 | 213 => 123 | 46 => 124 | 232 => 133 | 233 => 134 | n => n, fun | 17 => 0 | 18 => 2 | 19 => 3 | n => n⟩
theorem Tryd.laysM171 : Go.Proofs.LaysM.n171 Tryd.prog Tryd.TE := {
  mixed := by kernel_rfl
  f129 := Tryd.func112.trans (congrArg some (by kernel_rfl))
  f171 := Tryd.func71.trans (congrArg some (by kernel_rfl))
  f243 := Tryd.func88.trans (congrArg some (by kernel_rfl))
  f246 := Tryd.func96.trans (congrArg some (by kernel_rfl))
  f283 := Tryd.func101.trans (congrArg some (by kernel_rfl))
  f284 := Tryd.func102.trans (congrArg some (by kernel_rfl))
  f285 := Tryd.func103.trans (congrArg some (by kernel_rfl))
  f286 := Tryd.func104.trans (congrArg some (by kernel_rfl))
  f317 := Tryd.func111.trans (congrArg some (by kernel_rfl))
  f318 := Tryd.func113.trans (congrArg some (by kernel_rfl))
  f319 := Tryd.func114.trans (congrArg some (by kernel_rfl))
  f320 := Tryd.func115.trans (congrArg some (by kernel_rfl))
  f337 := Tryd.func119.trans (congrArg some (by kernel_rfl))
  f338 := Tryd.func120.trans (congrArg some (by kernel_rfl))
  t0 := Tryd.underlying0
  a0 := Tryd.isAgg0
  z0 := Tryd.sizeOf0
  v0 := Tryd.zeroValue0
  t2 := Tryd.underlying2
  a2 := Tryd.isAgg2
  z2 := Tryd.sizeOf2
  v2 := Tryd.zeroValue2
  t3 := Tryd.underlying3
  a3 := Tryd.isAgg3
  z3 := Tryd.sizeOf3
  v3 := Tryd.zeroValue3
  t4 := Tryd.underlying4
  a4 := Tryd.isAgg4
  z4 := Tryd.sizeOf4
  v4 := Tryd.zeroValue4
  t5 := Tryd.underlying5
  a5 := Tryd.isAgg5
  z5 := Tryd.sizeOf5
  v5 := Tryd.zeroValue5
  t9 := Tryd.underlying9
  a9 := Tryd.isAgg9
  z9 := Tryd.sizeOf9
  v9 := Tryd.zeroValue9
  t20 := Tryd.underlying20
  a20 := Tryd.isAgg20
  z20 := Tryd.sizeOf20
  v20 := Tryd.zeroValue20
  t37 := Tryd.underlying89
  a37 := Tryd.isAgg89
  z37 := Tryd.sizeOf89
  v37 := Tryd.zeroValue89
  t46 := Tryd.underlying124
  a46 := Tryd.isAgg124
  z46 := Tryd.sizeOf124
  v46 := Tryd.zeroValue124
  t51 := Tryd.underlying119
  a51 := Tryd.isAgg119
  z51 := Tryd.sizeOf119
  v51 := Tryd.zeroValue119
  t53 := Tryd.underlying107
  a53 := Tryd.isAgg107
  z53 := Tryd.sizeOf107
  v53 := Tryd.zeroValue107
  t171 := Tryd.underlying106
  a171 := Tryd.isAgg106
  z171 := Tryd.sizeOf106
  v171 := Tryd.zeroValue106
  t173 := Tryd.underlying110
  a173 := Tryd.isAgg110
  z173 := Tryd.sizeOf110
  v173 := Tryd.zeroValue110
  t212 := Tryd.underlying122
  a212 := Tryd.isAgg122
  z212 := Tryd.sizeOf122
  v212 := Tryd.zeroValue122
  t213 := Tryd.underlying123
  a213 := Tryd.isAgg123
  z213 := Tryd.sizeOf123
  t232 := Tryd.underlying133
  a232 := Tryd.isAgg133
  z232 := Tryd.sizeOf133
  v232 := Tryd.zeroValue133
  t233 := Tryd.underlying134
  a233 := Tryd.isAgg134
  z233 := Tryd.sizeOf134
  v233 := Tryd.zeroValue134
  g17 := by kernel_rfl
  g18 := by kernel_rfl
  g19 := by kernel_rfl
  i0 := by kernel_rfl
  i2 := by kernel_rfl
  i3 := by kernel_rfl
  i4 := by kernel_rfl
  i5 := by kernel_rfl
  i9 := by kernel_rfl
  i20 := by kernel_rfl
  i37 := by kernel_rfl
  i46 := by kernel_rfl
  i51 := by kernel_rfl
  i53 := by kernel_rfl
  i171 := by kernel_rfl
  i173 := by kernel_rfl
  i212 := by kernel_rfl
  i232 := by kernel_rfl
  i233 := by kernel_rfl
  m17 := by kernel_rfl
  m18 := by kernel_rfl
  m19 := by kernel_rfl }
open Go.RowKit Go.Sort Go.Lib in
/-- strconv.Itoa: "Itoa is equivalent to FormatInt(int64(i), 10).": i's DECIMAL NUMERAL ('Lib.itoa': a '-' where i is negative, then the digits), FOR EVERY int. The world behind the call: the world before it, new blocks behind the heap (the library's 'var a [24]byte'), draws. (LAID: no walk: one application.) -/
theorem Tryd.strconv_Itoa (n : Int) (h0 : -9223372036854775808 ≤ n) (h1 : n ≤ 9223372036854775807) (w : World) (htab : Lib.TabIs Tryd.prog w "internal/strconv.uint64pow10" .u64 Lib.pow10Tab) :
    Calls Tryd.prog 71 #[.int .i64 n] w fun e w' => e = .returned (.string ⟨(Lib.itoa n).toArray⟩) ∧ ∃ k os, w' = grow (w.drewN k) os := Any.strconv_Itoa Tryd.laysM171 n h0 h1 w htab
def Tryd.Uv : Go.Shelf.Ren := ⟨fun | 171 => 71 | 243 => 88 | 246 => 96 | 283 => 101 | 284 => 102 | 285 => 103 | 286 => 104 | 129 => 112 | 317 => 111 | 318 => 113 | 319 => 114 | 320 => 115 | 337 => 119 | 338 => 120 | n => n, fun | 3 => 3 | 9 => 9 | 2 => 2 | 4 => 4 | 171 => 106 | 0 => 0 | 53 => 107 | 37 => 89 | 5 => 5 | 173 => 110 | 212 => 122 | 51 => 119 | 20 => 20 | 213 => 123 | 46 => 124 | 232 => 133 | 233 => 134 | n => n, fun | 17 => 0 | 18 => 2 | 19 => 3 | n => n⟩
theorem Tryd.lays171 : Go.Proofs.Lays.n171 Tryd.prog Tryd.Uv := {
  mixed := by kernel_rfl
  f129 := Tryd.func112.trans (congrArg some (by kernel_rfl))
  f171 := Tryd.func71.trans (congrArg some (by kernel_rfl))
  f243 := Tryd.func88.trans (congrArg some (by kernel_rfl))
  f246 := Tryd.func96.trans (congrArg some (by kernel_rfl))
  f283 := Tryd.func101.trans (congrArg some (by kernel_rfl))
  f284 := Tryd.func102.trans (congrArg some (by kernel_rfl))
  f285 := Tryd.func103.trans (congrArg some (by kernel_rfl))
  f286 := Tryd.func104.trans (congrArg some (by kernel_rfl))
  f317 := Tryd.func111.trans (congrArg some (by kernel_rfl))
  f318 := Tryd.func113.trans (congrArg some (by kernel_rfl))
  f319 := Tryd.func114.trans (congrArg some (by kernel_rfl))
  f320 := Tryd.func115.trans (congrArg some (by kernel_rfl))
  f337 := Tryd.func119.trans (congrArg some (by kernel_rfl))
  f338 := Tryd.func120.trans (congrArg some (by kernel_rfl))
  t0 := Tryd.underlying0
  a0 := Tryd.isAgg0
  z0 := Tryd.sizeOf0
  v0 := Tryd.zeroValue0
  t2 := Tryd.underlying2
  a2 := Tryd.isAgg2
  z2 := Tryd.sizeOf2
  v2 := Tryd.zeroValue2
  t3 := Tryd.underlying3
  a3 := Tryd.isAgg3
  z3 := Tryd.sizeOf3
  v3 := Tryd.zeroValue3
  t4 := Tryd.underlying4
  a4 := Tryd.isAgg4
  z4 := Tryd.sizeOf4
  v4 := Tryd.zeroValue4
  t5 := Tryd.underlying5
  a5 := Tryd.isAgg5
  z5 := Tryd.sizeOf5
  v5 := Tryd.zeroValue5
  t9 := Tryd.underlying9
  a9 := Tryd.isAgg9
  z9 := Tryd.sizeOf9
  v9 := Tryd.zeroValue9
  t20 := Tryd.underlying20
  a20 := Tryd.isAgg20
  z20 := Tryd.sizeOf20
  v20 := Tryd.zeroValue20
  t37 := Tryd.underlying89
  a37 := Tryd.isAgg89
  z37 := Tryd.sizeOf89
  v37 := Tryd.zeroValue89
  t46 := Tryd.underlying124
  a46 := Tryd.isAgg124
  z46 := Tryd.sizeOf124
  v46 := Tryd.zeroValue124
  t51 := Tryd.underlying119
  a51 := Tryd.isAgg119
  z51 := Tryd.sizeOf119
  v51 := Tryd.zeroValue119
  t53 := Tryd.underlying107
  a53 := Tryd.isAgg107
  z53 := Tryd.sizeOf107
  v53 := Tryd.zeroValue107
  t171 := Tryd.underlying106
  a171 := Tryd.isAgg106
  z171 := Tryd.sizeOf106
  v171 := Tryd.zeroValue106
  t173 := Tryd.underlying110
  a173 := Tryd.isAgg110
  z173 := Tryd.sizeOf110
  v173 := Tryd.zeroValue110
  t212 := Tryd.underlying122
  a212 := Tryd.isAgg122
  z212 := Tryd.sizeOf122
  v212 := Tryd.zeroValue122
  t213 := Tryd.underlying123
  a213 := Tryd.isAgg123
  z213 := Tryd.sizeOf123
  t232 := Tryd.underlying133
  a232 := Tryd.isAgg133
  z232 := Tryd.sizeOf133
  v232 := Tryd.zeroValue133
  t233 := Tryd.underlying134
  a233 := Tryd.isAgg134
  z233 := Tryd.sizeOf134
  v233 := Tryd.zeroValue134
  g17 := by kernel_rfl
  g18 := by kernel_rfl
  g19 := by kernel_rfl }
open Go.RowKit Go.Sort Go.Lib in
/-- THE ROAD WITHOUT THE TABLE: 0 <= i < 100: NO PREMISE ON THE WORLD, AND THE WORLD IS AS IT WAS: a row that keeps its argument in that range need list no table ('laid = []'). (LAID: no walk: one application.) -/
theorem Tryd.strconv_Itoa_small (i : Nat) (hi : i < 100) (w : World) :
    Calls Tryd.prog 71 #[.int .i64 i] w fun e w' => e = .returned (.string ⟨(Lib.decDigits i).toArray⟩) ∧ w' = w := Any.strconv_Itoa_small Tryd.lays171 i hi w
def Tryd.Uw : Go.Shelf.Ren := ⟨fun | 111 => 79 | n => n, fun | 28 => 29 | 3 => 3 | 4 => 4 | 0 => 0 | n => n, fun | n => n⟩
theorem Tryd.UO : Go.Proofs.Lays.n111 Tryd.prog Tryd.Uw := {
  mixed := by kernel_rfl
  f111 := Tryd.func79.trans (congrArg some (by kernel_rfl))
  t0 := Tryd.underlying0
  a0 := Tryd.isAgg0
  z0 := Tryd.sizeOf0
  v0 := Tryd.zeroValue0
  t3 := Tryd.underlying3
  a3 := Tryd.isAgg3
  z3 := Tryd.sizeOf3
  v3 := Tryd.zeroValue3
  t4 := Tryd.underlying4
  a4 := Tryd.isAgg4
  z4 := Tryd.sizeOf4
  v4 := Tryd.zeroValue4
  t28 := Tryd.underlying29
  a28 := Tryd.isAgg29
  z28 := Tryd.sizeOf29
  v28 := Tryd.zeroValue29 }
open Go.RowKit Go.Lib in
/-- slices.Equal at []int: "Equal reports whether two slices are equal: the same length and all elements equal. If the lengths are different, Equal returns false. Otherwise, the elements are compared in increasing index order, and the comparison stops at the first unequal pair. Empty and nil slices are considered equal.": IT RETURNS WHETHER THE TWO LISTS OF ELEMENTS ARE ONE; the world is as it was but for the count of draws (the test 's1[i] != s2[i]' has two reads, whose order the model draws, once a round). 'xs', 'ys': what the cells behind the two addresses hold (the spare capacity too, if you have it); 'xs.take n', 'ys.take m': the elements. THE TWO SLICES MAY OVERLAP. (LAID: no walk: one application.) -/
theorem Tryd.slices_Equal_int (b1 o1 n c b2 o2 m d : Nat) (xs ys : List Int) (w : World) (hx : n ≤ xs.length) (hy : m ≤ ys.length) (hbig : n ≤ 9223372036854775807) (hbig2 : m ≤ 9223372036854775807) (hc1 : ∀ j, j < xs.length → w.cell? ⟨b1, o1 + j, none⟩ = some (.int .i64 (xs.getD j 0))) (hc2 : ∀ j, j < ys.length → w.cell? ⟨b2, o2 + j, none⟩ = some (.int .i64 (ys.getD j 0))) :
    Calls Tryd.prog 79 #[.slice (some ⟨b1, o1, none⟩) n c, .slice (some ⟨b2, o2, none⟩) m d] w fun e w' => e = .returned (.bool (xs.take n == ys.take m)) ∧ ∃ q, w' = w.drewN q := Any.slices_Equal_int Tryd.UO b1 o1 n c b2 o2 m d xs ys w hx hy hbig hbig2 hc1 hc2
open Go.RowKit Go.Lib in
/-- The same where the first is of length 0 (a nil one too): no cell is asked for. (LAID: no walk: one application.) -/
theorem Tryd.slices_Equal_int_empty (a1 a2 : Option Addr) (c m d : Nat) (w : World) (hbig2 : m ≤ 9223372036854775807) :
    Calls Tryd.prog 79 #[.slice a1 0 c, .slice a2 m d] w fun e w' => e = .returned (.bool (decide (m = 0))) ∧ w' = w := Any.slices_Equal_int_empty Tryd.UO a1 a2 c m d w hbig2
end Go.Proofs
-- the table of powers as a premise; strings.Join of a row that is read
namespace Go.Proofs.YtggelekooacmnaaDoor.Q
open Go.RowKit Go.Proofs.YtggelekooacmnaaDoorW.bg Go.Proofs.YtggelekooacmnaaDoorW.bP Go.Proofs.YtggelekooacmnaaDoorW.bX
set_option linter.unusedVariables false
set_option linter.unusedSimpArgs false
abbrev sj (B : Nat) (w : World) : Prop := Lib.TabBelow Tryd.prog B w "internal/strconv.uint64pow10" .u64 Lib.pow10Tab
theorem sj.up {B B' : Nat} {w : World} (h : sj B w) (hB : B ≤ B') : sj B' w := fun w' hb => h w' (hb.mono hB)
theorem ptab {w W : World} (h : sj w.heap.size w) (hb : Below w.heap.size w W) : sj W.heap.size W := sj.up (h.on hb) hb.size
theorem Ux (w : World) (k : Nat) (os : Array Obj) : Below w.heap.size w (Go.Sort.grow (w.drewN k) os) := Lib.below_grow _ w (Nat.le_refl _) k os
theorem TF : ∀ (a : Array UInt8), (⟨a⟩ : ByteArray).size = a.size := fun _ => rfl
theorem XD {w : World} {a : Addr} {v : Value} (h : w.cell? a = some v) : a = ⟨a.block, a.off, none⟩ ∧ a.block < w.heap.size := by
  obtain ⟨b, o, s⟩ := a
  unfold World.cell? at h
  dsimp only at h
  constructor
  · cases s with
    | none => rfl
    | some s => split at h <;> simp at h
  · have : w.heap[b]? ≠ none := by intro e; rw [e] at h; simp at h
    exact Nat.lt_of_not_ge fun hn => this (Array.getElem?_eq_none hn)
theorem Uy (A0 : Option Addr) (c0 : Nat) (l0 : List ByteArray) (a1 : ByteArray) (w : World) (hr0 : Kd.C Kd.string w A0 l0.length l0) (hc0 : l0.length ≤ c0)
    (h1 : l0.length ≤ 140737488355328) (h2 : (Lib.join (l0.map (·.data.toList)) a1.data.toList).length ≤ 140737488355328) :
    Calls Tryd.prog 72 #[.slice A0 l0.length c0, .string a1] w fun e w' => e = .returned (.string ⟨(Lib.join (l0.map (·.data.toList)) a1.data.toList).toArray⟩) ∧ Below w.heap.size w w' := by
  cases l0 with
  | nil =>
    refine (Tryd.strings_Join_none A0 c0 a1 w).mono ?_
    rintro e w' ⟨rfl, rfl⟩
    exact ⟨rfl, Below.refl _ _⟩
  | cons x xs =>
    obtain ⟨ad, rfl, hc⟩ := Kd.Su hr0 0 (by omega) (by simp)
    obtain ⟨he, hb⟩ := XD hc
    have hs : ad = ⟨ad.block, ad.off, none⟩ := by simpa [Addr.add] using he
    have hb' : ad.block < w.heap.size := by simpa [Addr.add] using hb
    obtain ⟨b, o, sp⟩ := ad
    obtain rfl : sp = none := by simpa using hs
    refine Tryd.strings_Join b o c0 (x :: xs) a1 w ?_ hb' h1 hc0 h2
    intro j y hj
    obtain ⟨ad', e', hj'⟩ := Kd.Su hr0 j (by omega) (by have := (List.getElem?_eq_some_iff.1 hj).1; omega)
    obtain rfl := Option.some.inj e'
    have hz : rdOf ByteArray.empty (x :: xs) (j : Int) = y := by unfold rdOf; simp [List.getD_eq_getElem?_getD, hj]
    rw [hz] at hj'
    have : (Addr.add ⟨b, o, none⟩ ((j : Int)).toNat) = ⟨b, o + j, none⟩ := by
      unfold Addr.add; split
      · rename_i h0; simp at h0; simp [h0]
      · simp
    rwa [this] at hj'
end Go.Proofs.YtggelekooacmnaaDoor.Q
namespace Go.Proofs.YtggelekooacmnaaDoor.Q
open Go.RowKit Go.Proofs.YtggelekooacmnaaDoorW.bg Go.Proofs.YtggelekooacmnaaDoorW.bP Go.Proofs.YtggelekooacmnaaDoorW.bX
attribute [local go_sem] ek eu fw fA dH dI eB eD   -- for this text's walks alone
set_option linter.unusedVariables false
set_option linter.unusedSimpArgs false



def errW : Option Int → Value
  | none => .nilIface
  | some c => .iface 0 (.int .i64 c)
theorem fT : errW none = .nilIface := rfl
theorem fU (c : Int) : errW (some c) = .iface 0 (.int .i64 c) := rfl

theorem info3 : (Tryd.prog.info? 3).map (fun i => (i.zero, i.size, i.bytes)) = some (some (.int .i64 0), 1, 8) := by kernel_rfl
theorem info9 : (Tryd.prog.info? 9).map (fun i => (i.zero, i.size, i.bytes)) = some (some (.string ⟨#[]⟩), 1, 16) := by kernel_rfl
theorem info24 : (Tryd.prog.info? 24).map (fun i => (i.zero, i.size, i.bytes)) = some (some (.agg #[(.int .i64 0), (.int .i64 0), (.int .i64 0), (.int .i64 0), (.slice none 0 0)]), 5, 56) := by kernel_rfl
theorem info41 : (Tryd.prog.info? 41).map (fun i => (i.zero, i.size, i.bytes)) = some (some (.agg #[(.int .i64 0), (.int .i64 0), (.int .i64 0)]), 3, 24) := by kernel_rfl
theorem G5 : (Tryd.prog.info? 51).map (fun i => (i.zero, i.size, i.bytes)) = some (some (.agg #[(.int .i64 0), (.slice none 0 0)]), 2, 32) := by kernel_rfl
-- the values' own types
/-! #### struct type 24, nested in itself -/
structure S24 where
  f0 : Int
  f1 : Int
  f2 : Int
  f3 : Int
  f4 : (List S24)
def z24 : S24 := ⟨(0 : Int), (0 : Int), (0 : Int), (0 : Int), ([] : List S24)⟩
def F24 (d : Kd S24) : Kd S24 := Kd.iso (Kd.pair (Kd.int .i64) (Kd.pair (Kd.int .i64) (Kd.pair (Kd.int .i64) (Kd.pair (Kd.int .i64) (Kd.slice 24 d))))) (fun x : S24 => (x.f0, x.f1, x.f2, x.f3, x.f4))
theorem OB : Kd.tO F24 := Kd.Tn _ (Kd.Dh (Kd.Aw _) (Kd.Dh (Kd.Aw _) (Kd.Dh (Kd.Aw _) (Kd.Dh (Kd.Aw _) (Kd.Om 24 Kd.UH)))))
theorem sub24 : Kd.Sub F24 [24] := Kd.UI _ (Kd.FD (Kd.sub_const _ (by decide)) (Kd.FD (Kd.sub_const _ (by decide)) (Kd.FD (Kd.sub_const _ (by decide)) (Kd.FD (Kd.sub_const _ (by decide)) (Kd.Sl 24 (by decide) Kd.sub_id)))))
theorem sz24 : ∀ n, (Kd.upto F24 5 [24] n).sz = 5 := Kd.UJ (fun _ => rfl)
def k24 : Kd S24 := Kd.fix F24 5 [24] sz24 (Kd.Tp sub24)
theorem Bw : Kd.Heap k24 := Kd.Tx (fun _ h_ => Kd.NN _ (Kd.vK (Kd.mZ .i64) (Kd.vK (Kd.mZ .i64) (Kd.vK (Kd.mZ .i64) (Kd.vK (Kd.mZ .i64) (Kd.Ow 24 h_))))))
theorem NQ {w : World} {x : S24} {cs : List Value} (h : k24.K w x cs) : ∃ A4 c4, cs = [.int .i64 x.f0, .int .i64 x.f1, .int .i64 x.f2, .int .i64 x.f3, .slice A4 x.f4.length c4] ∧ x.f4.length ≤ c4 ∧ k24.C w A4 x.f4.length x.f4 := by
  obtain ⟨n, h⟩ := h
  cases n with
  | zero => exact h.elim
  | succ n =>
    obtain ⟨_, _, rfl, rfl, ⟨_, _, rfl, rfl, ⟨_, _, rfl, rfl, ⟨_, _, rfl, rfl, ⟨A4, c4, rfl, l4, g4⟩⟩⟩⟩⟩ := h
    exact ⟨A4, c4, rfl, l4, Kd.fix_C g4⟩
theorem k24_openM {w : World} {base : Nat} {ok : Nat → Prop} {x : S24} {cs : List Value} (h : k24.M w base ok x cs) : ∃ v4, cs = [.int .i64 x.f0, .int .i64 x.f1, .int .i64 x.f2, .int .i64 x.f3, v4] ∧ k24.R 24 w base ok v4 x.f4 := by
  obtain ⟨n, h⟩ := h
  cases n with
  | zero => exact h.elim
  | succ n =>
    obtain ⟨_, _, rfl, rfl, ⟨_, _, rfl, rfl, ⟨_, _, rfl, rfl, ⟨_, _, rfl, rfl, ⟨v4, rfl, g4⟩⟩⟩⟩⟩ := h
    exact ⟨v4, rfl, Kd.fix_R g4⟩
theorem k24_mk (w : World) (x : S24) {A4 : Option Addr} {c4 : Nat} (l4 : x.f4.length ≤ c4) (g4 : k24.C w A4 x.f4.length x.f4) : k24.K w x [.int .i64 x.f0, .int .i64 x.f1, .int .i64 x.f2, .int .i64 x.f3, .slice A4 x.f4.length c4] := by
  obtain ⟨n4, q4⟩ := Kd.Oq OB g4
  have r4 := Kd.Sr OB sz24 (show n4 ≤ n4 by omega) q4
  exact ⟨n4 + 1, ⟨[.int .i64 x.f0], [.int .i64 x.f1, .int .i64 x.f2, .int .i64 x.f3, .slice A4 x.f4.length c4], rfl, rfl, ⟨[.int .i64 x.f1], [.int .i64 x.f2, .int .i64 x.f3, .slice A4 x.f4.length c4], rfl, rfl, ⟨[.int .i64 x.f2], [.int .i64 x.f3, .slice A4 x.f4.length c4], rfl, rfl, ⟨[.int .i64 x.f3], [.slice A4 x.f4.length c4], rfl, rfl, ⟨A4, c4, rfl, l4, r4⟩⟩⟩⟩⟩⟩
theorem QL (w : World) (base : Nat) (ok : Nat → Prop) (x : S24) {v4 : Value} (g4 : k24.R 24 w base ok v4 x.f4) : k24.M w base ok x [.int .i64 x.f0, .int .i64 x.f1, .int .i64 x.f2, .int .i64 x.f3, v4] := by
  obtain ⟨n4, q4⟩ := Kd.Oo OB g4
  have r4 := Kd.Sq OB sz24 (show n4 ≤ n4 by omega) q4
  exact ⟨n4 + 1, ⟨[.int .i64 x.f0], [.int .i64 x.f1, .int .i64 x.f2, .int .i64 x.f3, v4], rfl, rfl, ⟨[.int .i64 x.f1], [.int .i64 x.f2, .int .i64 x.f3, v4], rfl, rfl, ⟨[.int .i64 x.f2], [.int .i64 x.f3, v4], rfl, rfl, ⟨[.int .i64 x.f3], [v4], rfl, rfl, ⟨v4, rfl, r4⟩⟩⟩⟩⟩⟩
theorem SB {W : World} {ok : Nat → Prop} {x : S24} {cs : List Value} (h : Kd.FK k24 W ok x cs) : ∃ A4 c4, cs = [.int .i64 x.f0, .int .i64 x.f1, .int .i64 x.f2, .int .i64 x.f3, .slice A4 x.f4.length c4] ∧ x.f4.length ≤ c4 ∧ Kd.F k24 W ok A4 x.f4.length x.f4 := by
  obtain ⟨A4, c4, rfl, l4, _⟩ := NQ (Kd.FH h)
  exact ⟨A4, c4, rfl, l4, (fun W' hW => by obtain ⟨A4_, c4_, he, l4_, g4_⟩ := NQ (h W' hW); injection (Option.some.inj (show some (Value.slice A4 x.f4.length c4) = some (Value.slice A4_ x.f4.length c4_) from congrArg (fun l => l[4]?) he)) with ha_ _ _; rw [ha_]; exact g4_)⟩
theorem UQ (W : World) (ok : Nat → Prop) (x : S24) {A4 : Option Addr} {c4 : Nat} (l4 : x.f4.length ≤ c4) (g4 : Kd.F k24 W ok A4 x.f4.length x.f4) : Kd.FK k24 W ok x [.int .i64 x.f0, .int .i64 x.f1, .int .i64 x.f2, .int .i64 x.f3, .slice A4 x.f4.length c4] := fun W2 hW => k24_mk W2 x l4 (g4 W2 hW)
def ag (xs : List S24) (i : Int) : S24 := xs.getD i.toNat z24
theorem eX {w : World} {A : Option Addr} {n : Nat} {xs : List S24} (h : Kd.C k24 w A n xs) (i : Int) (h0 : 0 ≤ i) (h1 : i < n) : ∃ ad A4 c4, A = some ad ∧ w.cell? (ad.add (i.toNat * 5)) = some (.int .i64 (ag xs i).f0) ∧ w.cell? ⟨(ad.add (i.toNat * 5)).block, (ad.add (i.toNat * 5)).off + 1, none⟩ = some (.int .i64 (ag xs i).f1) ∧ w.cell? ⟨(ad.add (i.toNat * 5)).block, (ad.add (i.toNat * 5)).off + 2, none⟩ = some (.int .i64 (ag xs i).f2) ∧ w.cell? ⟨(ad.add (i.toNat * 5)).block, (ad.add (i.toNat * 5)).off + 3, none⟩ = some (.int .i64 (ag xs i).f3) ∧ w.cell? ⟨(ad.add (i.toNat * 5)).block, (ad.add (i.toNat * 5)).off + 4, none⟩ = some (.slice A4 (ag xs i).f4.length c4) ∧ (ag xs i).f4.length ≤ c4 ∧ k24.C w A4 (ag xs i).f4.length (ag xs i).f4 := by
  obtain ⟨ad, c, e, _, hK, hc0⟩ := Kd.KR h z24 i h0 h1
  have hc : ∀ j u, c[j]? = some u → w.cell? (ad.add (i.toNat * 5 + j)) = some u := hc0
  obtain ⟨A4, c4, rfl, l4, g4⟩ := NQ hK
  exact ⟨ad, A4, c4, e, hc 0 _ rfl, by rw [← rE _ _ 1 (by omega)]; exact hc 1 _ rfl, by rw [← rE _ _ 2 (by omega)]; exact hc 2 _ rfl, by rw [← rE _ _ 3 (by omega)]; exact hc 3 _ rfl, by rw [← rE _ _ 4 (by omega)]; exact hc 4 _ rfl, l4, g4⟩

/-! #### struct type 41 -/
structure S41 where
  f0 : Int
  f1 : Int
  f2 : Int
def z41 : S41 := ⟨(0 : Int), (0 : Int), (0 : Int)⟩
def k41 : Kd S41 := Kd.iso (Kd.pair (Kd.int .i64) (Kd.pair (Kd.int .i64) (Kd.int .i64))) (fun x : S41 => (x.f0, x.f1, x.f2))
theorem k41_heap : Kd.Heap k41 := Kd.NN _ (Kd.vK (Kd.mZ .i64) (Kd.vK (Kd.mZ .i64) (Kd.mZ .i64)))
theorem k41_open {w : World} {x : S41} {cs : List Value} (h : k41.K w x cs) : cs = [.int .i64 x.f0, .int .i64 x.f1, .int .i64 x.f2] := by
  obtain ⟨_, _, rfl, rfl, ⟨_, _, rfl, rfl, rfl⟩⟩ := h
  exact rfl
theorem k41_openM {w : World} {base : Nat} {ok : Nat → Prop} {x : S41} {cs : List Value} (h : k41.M w base ok x cs) : cs = [.int .i64 x.f0, .int .i64 x.f1, .int .i64 x.f2] := by
  obtain ⟨_, _, rfl, rfl, ⟨_, _, rfl, rfl, rfl⟩⟩ := h
  exact rfl
theorem k41_mk (w : World) (x : S41)  : k41.K w x [.int .i64 x.f0, .int .i64 x.f1, .int .i64 x.f2] := ⟨[.int .i64 x.f0], [.int .i64 x.f1, .int .i64 x.f2], rfl, rfl, ⟨[.int .i64 x.f1], [.int .i64 x.f2], rfl, rfl, rfl⟩⟩
theorem KV (w : World) (base : Nat) (ok : Nat → Prop) (x : S41)  : k41.M w base ok x [.int .i64 x.f0, .int .i64 x.f1, .int .i64 x.f2] := ⟨[.int .i64 x.f0], [.int .i64 x.f1, .int .i64 x.f2], rfl, rfl, ⟨[.int .i64 x.f1], [.int .i64 x.f2], rfl, rfl, rfl⟩⟩
theorem k41_mkF (W : World) (ok : Nat → Prop) (x : S41) : Kd.FK k41 W ok x [.int .i64 x.f0, .int .i64 x.f1, .int .i64 x.f2] := fun W2 _ => k41_mk W2 x
def TG (xs : List S41) (i : Int) : S41 := xs.getD i.toNat z41
theorem at_T41 {w : World} {A : Option Addr} {n : Nat} {xs : List S41} (h : Kd.C k41 w A n xs) (i : Int) (h0 : 0 ≤ i) (h1 : i < n) : ∃ ad , A = some ad ∧ w.cell? (ad.add (i.toNat * 3)) = some (.int .i64 (TG xs i).f0) ∧ w.cell? ⟨(ad.add (i.toNat * 3)).block, (ad.add (i.toNat * 3)).off + 1, none⟩ = some (.int .i64 (TG xs i).f1) ∧ w.cell? ⟨(ad.add (i.toNat * 3)).block, (ad.add (i.toNat * 3)).off + 2, none⟩ = some (.int .i64 (TG xs i).f2) := by
  obtain ⟨ad, c, e, _, hK, hc0⟩ := Kd.KR h z41 i h0 h1
  have hc : ∀ j u, c[j]? = some u → w.cell? (ad.add (i.toNat * 3 + j)) = some u := hc0
  obtain rfl := k41_open hK
  exact ⟨ad, e, hc 0 _ rfl, by rw [← rE _ _ 1 (by omega)]; exact hc 1 _ rfl, by rw [← rE _ _ 2 (by omega)]; exact hc 2 _ rfl⟩

/-! #### struct type 51, nested in itself -/
structure S51 where
  f0 : Int
  f1 : (List S51)
def z51 : S51 := ⟨(0 : Int), ([] : List S51)⟩
def F51 (d : Kd S51) : Kd S51 := Kd.iso (Kd.pair (Kd.int .i64) (Kd.slice 51 d)) (fun x : S51 => (x.f0, x.f1))
theorem OC : Kd.tO F51 := Kd.Tn _ (Kd.Dh (Kd.Aw _) (Kd.Om 51 Kd.UH))
theorem sub51 : Kd.Sub F51 [51] := Kd.UI _ (Kd.FD (Kd.sub_const _ (by decide)) (Kd.Sl 51 (by decide) Kd.sub_id))
theorem sz51 : ∀ n, (Kd.upto F51 2 [51] n).sz = 2 := Kd.UJ (fun _ => rfl)
def k51 : Kd S51 := Kd.fix F51 2 [51] sz51 (Kd.Tp sub51)
theorem k51_heap : Kd.Heap k51 := Kd.Tx (fun _ h_ => Kd.NN _ (Kd.vK (Kd.mZ .i64) (Kd.Ow 51 h_)))
theorem NR {w : World} {x : S51} {cs : List Value} (h : k51.K w x cs) : ∃ A1 c1, cs = [.int .i64 x.f0, .slice A1 x.f1.length c1] ∧ x.f1.length ≤ c1 ∧ k51.C w A1 x.f1.length x.f1 := by
  obtain ⟨n, h⟩ := h
  cases n with
  | zero => exact h.elim
  | succ n =>
    obtain ⟨_, _, rfl, rfl, ⟨A1, c1, rfl, l1, g1⟩⟩ := h
    exact ⟨A1, c1, rfl, l1, Kd.fix_C g1⟩
theorem k51_openM {w : World} {base : Nat} {ok : Nat → Prop} {x : S51} {cs : List Value} (h : k51.M w base ok x cs) : ∃ v1, cs = [.int .i64 x.f0, v1] ∧ k51.R 51 w base ok v1 x.f1 := by
  obtain ⟨n, h⟩ := h
  cases n with
  | zero => exact h.elim
  | succ n =>
    obtain ⟨_, _, rfl, rfl, ⟨v1, rfl, g1⟩⟩ := h
    exact ⟨v1, rfl, Kd.fix_R g1⟩
theorem k51_mk (w : World) (x : S51) {A1 : Option Addr} {c1 : Nat} (l1 : x.f1.length ≤ c1) (g1 : k51.C w A1 x.f1.length x.f1) : k51.K w x [.int .i64 x.f0, .slice A1 x.f1.length c1] := by
  obtain ⟨n1, q1⟩ := Kd.Oq OC g1
  have r1 := Kd.Sr OC sz51 (show n1 ≤ n1 by omega) q1
  exact ⟨n1 + 1, ⟨[.int .i64 x.f0], [.slice A1 x.f1.length c1], rfl, rfl, ⟨A1, c1, rfl, l1, r1⟩⟩⟩
theorem zA (w : World) (base : Nat) (ok : Nat → Prop) (x : S51) {v1 : Value} (g1 : k51.R 51 w base ok v1 x.f1) : k51.M w base ok x [.int .i64 x.f0, v1] := by
  obtain ⟨n1, q1⟩ := Kd.Oo OC g1
  have r1 := Kd.Sq OC sz51 (show n1 ≤ n1 by omega) q1
  exact ⟨n1 + 1, ⟨[.int .i64 x.f0], [v1], rfl, rfl, ⟨v1, rfl, r1⟩⟩⟩
theorem k51_openF {W : World} {ok : Nat → Prop} {x : S51} {cs : List Value} (h : Kd.FK k51 W ok x cs) : ∃ A1 c1, cs = [.int .i64 x.f0, .slice A1 x.f1.length c1] ∧ x.f1.length ≤ c1 ∧ Kd.F k51 W ok A1 x.f1.length x.f1 := by
  obtain ⟨A1, c1, rfl, l1, _⟩ := NR (Kd.FH h)
  exact ⟨A1, c1, rfl, l1, (fun W' hW => by obtain ⟨A1_, c1_, he, l1_, g1_⟩ := NR (h W' hW); injection (Option.some.inj (show some (Value.slice A1 x.f1.length c1) = some (Value.slice A1_ x.f1.length c1_) from congrArg (fun l => l[1]?) he)) with ha_ _ _; rw [ha_]; exact g1_)⟩
theorem k51_mkF (W : World) (ok : Nat → Prop) (x : S51) {A1 : Option Addr} {c1 : Nat} (l1 : x.f1.length ≤ c1) (g1 : Kd.F k51 W ok A1 x.f1.length x.f1) : Kd.FK k51 W ok x [.int .i64 x.f0, .slice A1 x.f1.length c1] := fun W2 hW => k51_mk W2 x l1 (g1 W2 hW)
def bB (xs : List S51) (i : Int) : S51 := xs.getD i.toNat z51
theorem vN {w : World} {A : Option Addr} {n : Nat} {xs : List S51} (h : Kd.C k51 w A n xs) (i : Int) (h0 : 0 ≤ i) (h1 : i < n) : ∃ ad A1 c1, A = some ad ∧ w.cell? (ad.add (i.toNat * 2)) = some (.int .i64 (bB xs i).f0) ∧ w.cell? ⟨(ad.add (i.toNat * 2)).block, (ad.add (i.toNat * 2)).off + 1, none⟩ = some (.slice A1 (bB xs i).f1.length c1) ∧ (bB xs i).f1.length ≤ c1 ∧ k51.C w A1 (bB xs i).f1.length (bB xs i).f1 := by
  obtain ⟨ad, c, e, _, hK, hc0⟩ := Kd.KR h z51 i h0 h1
  have hc : ∀ j u, c[j]? = some u → w.cell? (ad.add (i.toNat * 2 + j)) = some u := hc0
  obtain ⟨A1, c1, rfl, l1, g1⟩ := NR hK
  exact ⟨ad, A1, c1, e, hc 0 _ rfl, by rw [← rE _ _ 1 (by omega)]; exact hc 1 _ rfl, l1, g1⟩

theorem Kd.R_readsM {α : Type} {d : Kd α} {e : Nat} {W : World} {base : Nat} {ok : Nat → Prop} {A : Option Addr} {n c : Nat} {xs : List α} (h : Kd.R d e W base ok (.slice A n c) xs) :
    kI (d.M W base (fun k => ok k ∧ some k ≠ (Value.slice A n c).ownBlock)) d.sz W A n xs := by
  obtain ⟨_, inner, ho, hr⟩ := h
  obtain ⟨A', c', he, hR⟩ := JV ho hr rfl
  injection he with h1 h2 h3
  subst h1; subst h2
  exact hR
theorem Kd.Di {α : Type} {d : Kd α} {e : Nat} {W : World} {base g : Nat} {ok : Nat → Prop} {v : Value} {xs : List α} (h : Kd.V d e W base ok v xs) (hok : ∀ k, ok k → k ≠ g) (hn : 0 < xs.length := by first | omega | (simp_all; omega)) (hs : 0 < d.sz := by decide) : some g ≠ v.ownBlock := by
  obtain ⟨A, c, rfl, _, hF⟩ := h
  rcases A with _ | ad
  · simp [Value.ownBlock]
  · intro he
    have h1 := Kd.F_in hF rfl hn hs
    simp only [Value.ownBlock, Option.some.injEq] at he
    exact hok _ h1 he.symm

theorem J4 {w W : World} {g : Nat} {A : Option Addr} {n : Nat} {xs : List S24} {i : Int} {ad0 : Addr} {Ai : Option Addr} {m ci : Nat} (h : ∀ W_, aI w W_ g none → Kd.C k24 W_ A n xs) (hk : aI w W g none) (h0 : 0 ≤ i) (h1 : i < (n : Int)) (hA : A = some ad0)
    (hx : W.cell? ⟨(ad0.add (i.toNat * 5)).block, (ad0.add (i.toNat * 5)).off + 4, none⟩ = some (.slice Ai m ci)) : ∀ W_, aI w W_ g none → Kd.C k24 W_ Ai (ag xs i).f4.length (ag xs i).f4 := by
  intro W_ hk_
  subst hA
  obtain ⟨ad, A4, c4, e, x0, x1, x2, x3, x4, l0, g0⟩ := eX (h w (aI.refl w g none)) i h0 h1
  have hne := Kd.fu h (by omega) (by decide)
  injection e with e; subst e
  obtain ⟨ad2, A4_, c4_, e2, y0, y1, y2, y3, y4, m0, q0⟩ := eX (h W_ hk_) i h0 h1
  injection e2 with e2; subst e2
  have z1 := lH hk x4 (by first | (rw [add_block]; exact hne) | (show (Addr.add _ _).block ≠ _; rw [add_block]; exact hne) | exact hne)
  have z2 := lH hk_ x4 (by first | (rw [add_block]; exact hne) | (show (Addr.add _ _).block ≠ _; rw [add_block]; exact hne) | exact hne)
  have z3 := Option.some.inj (z1.symm.trans hx)
  have z4 := Option.some.inj (z2.symm.trans y4)
  injection z3 with a1 _ _
  injection z4 with b1 _ _
  rw [← a1, b1]
  exact q0

theorem bl_ {p : Prop} (h : p := by repeat (first | (with_reducible first | exact HB.out | apply cz | apply bN | apply bU | refine bR ?_ (aa.out (by assumption)) | refine bR ?_ (aH.ge (aa.out (by assumption)))) | exact HB.out)) : p := h
theorem si_ {p : Prop} (h : p := by repeat (first | (with_reducible first | exact (aa.out (by assumption)) | apply aH.alloc | apply aH.drewN | apply aH.drew | apply aH.jI | apply aH.jJ | refine aH.far ?_ (aa.out (by assumption)) _) | exact (aa.out (by assumption)))) : p := h
theorem bk_ {p : Prop} (h : p := by (with_reducible repeat (first | refine aj ?_ _ | refine ak ?_ | refine ah ?_ _)); exact (aa.out (by assumption))) : p := h
theorem pR_ {p q : Prop} (h : p) (k : p → q := by intro h_; (with_reducible repeat (first | apply Kd.dN | apply Kd.dO | apply Kd.dP)); exact h_) : q := k h
theorem pN_ {p q : Prop} (h : p) (k : p → q := by intro h_; (with_reducible repeat (first | apply Kd.Bt | apply Kd.GZ | apply Kd.FI)); exact h_) : q := k h
theorem pV_ {p q : Prop} (h : p) (k : p → q := by intro h_; (with_reducible repeat (first | apply Kd.iF | apply Kd.iG | apply Kd.iY)); exact h_) : q := k h
theorem pS_ {p q : Prop} (h : p) (k : p → q := by intro h_; (with_reducible repeat (first | apply Kd.S_alloc | apply Kd.S_drewN | apply Kd.S_drew)); exact h_) : q := k h
theorem pQ_ {p q : Prop} (h : p) (k : p → q := by intro h_; (with_reducible repeat (first | apply Kd.Q_alloc | apply Kd.Q_drewN | apply Kd.Q_drew)); exact h_) : q := k h
theorem re_ {p : Prop} (h : p := by first | rfl | (simp [fT, fU] <;> rfl) | (simp [*, fT, fU] <;> rfl)) : p := h
theorem rs_ {p : Prop} (h : p := by first | rfl | (simp; done) | (simp [*]; done)) : p := h
theorem dt_ {p : Prop} [Decidable p] (h : decide p = true := by first | (with_reducible assumption) | assumption) : p := of_decide_eq_true h
theorem gw_ {n m g : Nat} (hg : g = m) (h : n ≤ m) : aa (n ≤ g) := ⟨by rw [hg]; exact h⟩
theorem cf1_ {W : World} {g : Nat} {a_ : Value} {t : TypeId} (h : W.heap[g]? = some (.cells #[a_] t (0, 0))) : W.cell? ⟨g, 0, none⟩ = some a_ ∧ W.frozen? ⟨g, 0, none⟩ = false :=
  ⟨(aC h 0).trans rfl, dW h 0⟩
theorem eQ {W : World} {g : Nat} {a_ b_ : Value} {t : TypeId} (h : W.heap[g]? = some (.cells #[a_, b_] t (0, 0))) : W.cell? ⟨g, 0, none⟩ = some a_ ∧ W.cell? ⟨g, 1, none⟩ = some b_ ∧ W.frozen? ⟨g, 0, none⟩ = false ∧ W.frozen? ⟨g, 1, none⟩ = false :=
  ⟨(aC h 0).trans rfl, (aC h 1).trans rfl, dW h 0, dW h 1⟩
theorem cf3_ {W : World} {g : Nat} {a_ b_ c_ : Value} {t : TypeId} (h : W.heap[g]? = some (.cells #[a_, b_, c_] t (0, 0))) : W.cell? ⟨g, 0, none⟩ = some a_ ∧ W.cell? ⟨g, 1, none⟩ = some b_ ∧ W.cell? ⟨g, 2, none⟩ = some c_ ∧ W.frozen? ⟨g, 0, none⟩ = false ∧ W.frozen? ⟨g, 1, none⟩ = false ∧ W.frozen? ⟨g, 2, none⟩ = false :=
  ⟨(aC h 0).trans rfl, (aC h 1).trans rfl, (aC h 2).trans rfl, dW h 0, dW h 1, dW h 2⟩
theorem cf4_ {W : World} {g : Nat} {a_ b_ c_ d_ : Value} {t : TypeId} (h : W.heap[g]? = some (.cells #[a_, b_, c_, d_] t (0, 0))) : W.cell? ⟨g, 0, none⟩ = some a_ ∧ W.cell? ⟨g, 1, none⟩ = some b_ ∧ W.cell? ⟨g, 2, none⟩ = some c_ ∧ W.cell? ⟨g, 3, none⟩ = some d_ ∧ W.frozen? ⟨g, 0, none⟩ = false ∧ W.frozen? ⟨g, 1, none⟩ = false ∧ W.frozen? ⟨g, 2, none⟩ = false ∧ W.frozen? ⟨g, 3, none⟩ = false :=
  ⟨(aC h 0).trans rfl, (aC h 1).trans rfl, (aC h 2).trans rfl, (aC h 3).trans rfl, dW h 0, dW h 1, dW h 2, dW h 3⟩
theorem bF {W : World} {g : Nat} {a_ b_ c_ d_ e_ : Value} {t : TypeId} (h : W.heap[g]? = some (.cells #[a_, b_, c_, d_, e_] t (0, 0))) : W.cell? ⟨g, 0, none⟩ = some a_ ∧ W.cell? ⟨g, 1, none⟩ = some b_ ∧ W.cell? ⟨g, 2, none⟩ = some c_ ∧ W.cell? ⟨g, 3, none⟩ = some d_ ∧ W.cell? ⟨g, 4, none⟩ = some e_ ∧ W.frozen? ⟨g, 0, none⟩ = false ∧ W.frozen? ⟨g, 1, none⟩ = false ∧ W.frozen? ⟨g, 2, none⟩ = false ∧ W.frozen? ⟨g, 3, none⟩ = false ∧ W.frozen? ⟨g, 4, none⟩ = false :=
  ⟨(aC h 0).trans rfl, (aC h 1).trans rfl, (aC h 2).trans rfl, (aC h 3).trans rfl, (aC h 4).trans rfl, dW h 0, dW h 1, dW h 2, dW h 3, dW h 4⟩
theorem cf6_ {W : World} {g : Nat} {a_ b_ c_ d_ e_ f_ : Value} {t : TypeId} (h : W.heap[g]? = some (.cells #[a_, b_, c_, d_, e_, f_] t (0, 0))) : W.cell? ⟨g, 0, none⟩ = some a_ ∧ W.cell? ⟨g, 1, none⟩ = some b_ ∧ W.cell? ⟨g, 2, none⟩ = some c_ ∧ W.cell? ⟨g, 3, none⟩ = some d_ ∧ W.cell? ⟨g, 4, none⟩ = some e_ ∧ W.cell? ⟨g, 5, none⟩ = some f_ ∧ W.frozen? ⟨g, 0, none⟩ = false ∧ W.frozen? ⟨g, 1, none⟩ = false ∧ W.frozen? ⟨g, 2, none⟩ = false ∧ W.frozen? ⟨g, 3, none⟩ = false ∧ W.frozen? ⟨g, 4, none⟩ = false ∧ W.frozen? ⟨g, 5, none⟩ = false :=
  ⟨(aC h 0).trans rfl, (aC h 1).trans rfl, (aC h 2).trans rfl, (aC h 3).trans rfl, (aC h 4).trans rfl, (aC h 5).trans rfl, dW h 0, dW h 1, dW h 2, dW h 3, dW h 4, dW h 5⟩
def bm (n b : Nat) : Array Bool := ((List.range n).map fun i => b.testBit i).toArray
theorem pu_ {P : Program} {ops : Array Oper} {Q : Exit → Act → World → Prop} {md : Region.Mode} {S : World → Prop} {ds : List Nat} {T : Bool × List (List Nat × List Nat)} {oi : Oper} {v : Value} {fuel : Nat} {l : Array Bool} {a a' : Act} {w : World} (hT : aa (kJ md ops = T)) (i n : Nat) (l' : Array Bool) (h : eF P md ops Q S ds fuel l' a' w)
    (hi : ops[i]? = some oi := by exact rfl) (hN : oi.dst = some n := by exact rfl) (hc : anyT T l.toList l'.toList i = true := by kernel_rfl) (hQ : ∀ c a w, Q (.panic c) (a.put oi.dst v) w → Q (.panic c) a w := by exact fun _ _ _ h => h) (hw : Region.wanted oi (yielded ops a.tmps) = true := by exact rfl)
    (hy : ∀ w, (execOp a.eval oi).run P w = .ok (.value v) w := by intro w'; go_simp; with_reducible rfl) (ha : a.put (some n) v = a' := by simp only [Act.put, List.setIfInBounds_toArray, List.set_cons_zero, List.set_cons_succ, eT, eY]; rfl) : eF P md ops Q S ds (fuel + 1) l a w := pure_ l' hi hN (any_of hT.out hc) hQ (Or.inl ⟨hw, hy⟩) ha h
theorem pf_ {P : Program} {ops : Array Oper} {Q : Exit → Act → World → Prop} {md : Region.Mode} {S : World → Prop} {ds : List Nat} {T : Bool × List (List Nat × List Nat)} {oi : Oper} {fuel : Nat} {l : Array Bool} {a a' : Act} {w : World} (hT : aa (kJ md ops = T)) (i n : Nat) (l' : Array Bool) (h : eF P md ops Q S ds fuel l' a' w)
    (hi : ops[i]? = some oi := by exact rfl) (hN : oi.dst = some n := by exact rfl) (hc : anyT T l.toList l'.toList i = true := by kernel_rfl) (hQ : ∀ c a w, Q (.panic c) (a.put oi.dst undef) w → Q (.panic c) a w := by exact fun _ _ _ h => h) (hw : Region.wanted oi (yielded ops a.tmps) = false := by exact rfl)
    (ha : a.put (some n) undef = a' := by simp only [Act.put, List.setIfInBounds_toArray, List.set_cons_zero, List.set_cons_succ, eT, eY]; rfl) : eF P md ops Q S ds (fuel + 1) l a w := pure_ l' hi hN (any_of hT.out hc) hQ (Or.inr ⟨hw, rfl⟩) ha h
theorem ta_ {P : Program} {ops : Array Oper} {Q : Exit → Act → World → Prop} {md : Region.Mode} {S : World → Prop} {ds B : List Nat} {T : Bool × List (List Nat × List Nat)} {oi : Oper} {v : Value} {fuel : Nat} {l : Array Bool} {a a' : Act} {w : World} (hT : aa (kJ md ops = T)) (hB : aa (lJ T.2 B = true)) (i n : Nat) (l' : Array Bool) (hS : S w)
    (h : eF P md ops Q S ds fuel l' a' w)
    (hi : ops[i]? = some oi := by exact rfl) (hN : oi.dst = some n := by exact rfl) (hc : takeW T B ds l.toList l'.toList i = true := by kernel_rfl) (hQ : ∀ c a w, Q (.panic c) (a.put oi.dst v) w → Q (.panic c) a w := by exact fun _ _ _ h => h) (hw : Region.wanted oi (yielded ops a.tmps) = true := by exact rfl)
    (hy : ∀ w, S w → (execOp a.eval oi).run P w = .ok (.value v) w := by intro w' hs_; (repeat (obtain ⟨_, hs_⟩ := hs_)); go_simp; with_reducible rfl)
    (ha : a.put (some n) v = a' := by simp only [Act.put, List.setIfInBounds_toArray, List.set_cons_zero, List.set_cons_succ, eT, eY]; rfl) : eF P md ops Q S ds (fuel + 1) l a w := Oh l' hi hN (Tw hT.out hB.out hc) hQ (Or.inl ⟨hw, hy⟩) hS ha h
theorem kb_ {w W w1 : World} {g : Nat} {o : Obj} (h : aa (w.heap[g]? = some o)) (hb : Below W.heap.size W w1) (k : w.heap[g]? = some o → W.heap[g]? = some o := by intro h_; (with_reducible repeat (first | refine aj ?_ _ | refine ak ?_ | refine ah ?_ _)); exact h_) : aa (w1.heap[g]? = some o) := ⟨gy (k h.out) hb⟩
theorem nl_ {w W : World} {g g2 : Nat} {o : Obj} (h : aa (w.heap[g]? = some o)) (hg : g2 = W.heap.size) (k : w.heap[g]? = some o → W.heap[g]? = some o := by intro h_; (with_reducible repeat (first | refine aj ?_ _ | refine ak ?_ | refine ah ?_ _)); exact h_) : aa (g ≠ g2) := ⟨by rw [hg]; exact Nat.ne_of_lt (iX (k h.out))⟩
theorem ng_ {w W : World} {g g2 : Nat} {o : Obj} (h : aa (w.heap[g]? = some o)) (hg : g2 = W.heap.size) (k : w.heap[g]? = some o → W.heap[g]? = some o := by intro h_; (with_reducible repeat (first | refine aj ?_ _ | refine ak ?_ | refine ah ?_ _)); exact h_) : aa (g2 ≠ g) := ⟨by rw [hg]; exact Nat.ne_of_gt (iX (k h.out))⟩
theorem hc_ {w W : World} {a : Addr} {v : Value} (hb : aa (Below w.heap.size w W)) (h : w.cell? a = some v) : W.cell? a = some v := (hb.out.cell (World.block_lt_of_cell? w _ h)).trans h
theorem cb_ {p q : Prop} (h : p) (k : p → q := by intro h_; repeat (first | exact h_ | (with_reducible refine Kd.C_alloc ?_ _) | (with_reducible refine Kd.C_drewN ?_ _) | (with_reducible refine Kd.C_drew ?_))) : q := k h
theorem mp_ {p : Prop} (h : p := by (try simp only [List.map_toArray, List.map_cons, List.map_nil]); first | done | rfl | (simp only [List.length_drop, List.length_take]; rfl)) : p := h
theorem z0_ : ((0 : Int)).toNat = 0 := rfl
end Go.Proofs.YtggelekooacmnaaDoor.Q
-- a region that draws its order, by what holds whatever has been listed
namespace Go.Proofs.YtggelekooacmnaaDoor.Q
open Go.RowKit
section
variable {P : Program} {ops : Array Oper} {Q : Exit → Act → World → Prop} {md : Region.Mode}
/-- how many of the first n are still to come -/
def unl (listed : Array Bool) : Nat → Nat
  | 0 => 0
  | n + 1 => unl listed n + if listed.getD n false then 0 else 1
theorem TH {listed : Array Bool} : ∀ {n : Nat}, unl listed n = 0 → ∀ i, i < n → listed.getD i false = true
  | 0, _, i, hi => by omega
  | n + 1, h, i, hi => by
    simp only [unl] at h
    by_cases hn : listed.getD n false = true
    · by_cases e : i = n
      · rw [e]; exact hn
      · exact TH (n := n) (by omega) i (by omega)
    · rw [if_neg hn] at h; omega
theorem ld {listed : Array Bool} {i j : Nat} (hi : i < listed.size) : (listed.setIfInBounds i true).getD j false = if i = j then true else listed.getD j false := by
  by_cases e : i = j
  · subst e
    rw [if_pos rfl, Array.getD_eq_getD_getElem?, Array.getElem?_setIfInBounds, if_pos rfl, if_pos hi]; rfl
  · rw [if_neg e, Array.getD_eq_getD_getElem?, Array.getD_eq_getD_getElem?, Array.getElem?_setIfInBounds, if_neg e]
theorem UR {listed : Array Bool} {i : Nat} (hi : i < listed.size) (hf : listed.getD i false = false) : ∀ n, unl (listed.setIfInBounds i true) n + (if i < n then 1 else 0) = unl listed n
  | 0 => by simp [unl]
  | n + 1 => by
    have ih := UR hi hf n
    simp only [unl, ld hi]
    by_cases e : i = n
    · subst e
      rw [if_neg (by omega)] at ih
      rw [if_pos rfl, if_pos rfl, if_pos (show i < i + 1 by omega), if_neg (show ¬ listed.getD i false = true by rw [hf]; simp)]
      omega
    · rw [if_neg e]
      by_cases h : i < n
      · rw [if_pos h] at ih; rw [if_pos (show i < n + 1 by omega)]; omega
      · rw [if_neg h] at ih; rw [if_neg (show ¬ i < n + 1 by omega)]; omega
theorem Jm {listed : Array Bool} {i : Nat} (h : i ∈ Region.ready md ops listed) : listed.getD i true = false ∧ ∃ o, ops[i]? = some o ∧ ∀ e ∈ o.after, Region.binds md e = true → listed.getD e.on false = true := by
  unfold Region.ready at h
  simp only [List.mem_filter, Bool.and_eq_true, Bool.not_eq_true'] at h
  refine ⟨h.2.1, ?_⟩
  cases ho : ops[i]? with
  | none => rw [ho] at h; simp at h
  | some o =>
    rw [ho] at h
    refine ⟨o, rfl, fun e he hb => ?_⟩
    have := h.2.2
    simp only [Option.map_some, Option.getD_some, Array.all_eq_true_iff_forall_mem, Bool.or_eq_true, Bool.not_eq_true'] at this
    rcases this e he with h1 | h1
    · rw [hb] at h1; cases h1
    · exact h1
theorem UT {listed : Array Bool} {i : Nat} (h : listed.getD i true = false) : i < listed.size ∧ listed.getD i false = false := by
  rw [Array.getD_eq_getD_getElem?] at h ⊢
  cases hl : listed[i]? with
  | none => rw [hl] at h; simp at h
  | some b => rw [hl] at h; exact ⟨(Array.getElem?_eq_some_iff.1 hl).1, by simpa using h⟩
/-- each operation waits for elder ones alone -/
def elder (ops : Array Oper) (n : Nat) : Bool := (List.range n).all fun i => match ops[i]? with | some o => o.after.all fun e => !Region.binds .any e || decide (e.on < i) | none => false
theorem XE {listed : Array Bool} {n : Nat} (hs : listed.size = ops.size) (he : elder ops n = true) (h : 0 < unl listed n) : Region.ready .any ops listed ≠ [] := by
  have key : ∀ i, i < n → listed.getD i false = false → ∃ j, j ∈ Region.ready .any ops listed := by
    intro i
    induction i using Nat.strongRecOn with
    | _ i ih =>
      intro hi hf
      have h1 := he
      unfold elder at h1
      rw [List.all_eq_true] at h1
      have h2 := h1 i (List.mem_range.2 hi)
      cases ho : ops[i]? with
      | none => rw [ho] at h2; simp at h2
      | some o =>
        rw [ho] at h2
        simp only [Array.all_eq_true_iff_forall_mem, Bool.or_eq_true, Bool.not_eq_true', decide_eq_true_eq] at h2
        by_cases hall : ∀ e ∈ o.after, Region.binds .any e = true → listed.getD e.on false = true
        · refine ⟨i, ?_⟩
          have hlt : i < ops.size := (Array.getElem?_eq_some_iff.1 ho).1
          unfold Region.ready
          simp only [List.mem_filter, Bool.and_eq_true, Bool.not_eq_true', List.mem_range]
          refine ⟨hlt, ?_, ?_⟩
          · rw [Array.getD_eq_getD_getElem?] at hf ⊢
            have : i < listed.size := by omega
            rw [Array.getElem?_eq_getElem this] at hf ⊢
            simpa using hf
          · rw [ho]
            simp only [Option.map_some, Option.getD_some, Array.all_eq_true_iff_forall_mem, Bool.or_eq_true, Bool.not_eq_true']
            intro e hm
            by_cases hb : Region.binds .any e = true
            · exact .inr (hall e hm hb)
            · exact .inl (by simpa using hb)
        · have : ∃ e ∈ o.after, Region.binds .any e = true ∧ ¬ listed.getD e.on false = true := by
            apply Classical.byContradiction
            intro hn
            exact hall fun e hm hb => Classical.byContradiction fun h3 => hn ⟨e, hm, hb, h3⟩
          obtain ⟨e, hm, hb, h3⟩ := this
          rcases h2 e hm with h4 | h4
          · rw [hb] at h4; cases h4
          · exact ih e.on h4 (by omega) (by simpa using h3)
  have : ∃ i, i < n ∧ listed.getD i false = false := by
    apply Classical.byContradiction
    intro hn
    have : ∀ m, m ≤ n → unl listed m = 0 := by
      intro m
      induction m with
      | zero => intro _; rfl
      | succ m ih =>
        intro hm
        simp only [unl, ih (by omega)]
        have : listed.getD m false = true := Classical.byContradiction fun h => hn ⟨m, by omega, by simpa using h⟩
        rw [if_pos this]
    have := this n (Nat.le_refl _)
    omega
  obtain ⟨i, hi, hf⟩ := this
  obtain ⟨j, hj⟩ := key i hi hf
  intro e
  rw [e] at hj; cases hj
/-- THE RULE: J holds whatever has been listed of the first n; behind them the rest. -/
theorem XY (J : Array Bool → Act → World → Prop) (n f : Nat) (he : elder ops n = true)
    (hsz : ∀ listed a w, J listed a w → listed.size = ops.size)
    (hstep : ∀ listed a w, J listed a w → 0 < unl listed n → ∀ i ∈ Region.ready .any ops listed, i < n ∧ wpOp P ops Q i (J (listed.setIfInBounds i true)) a w)
    (hend : ∀ listed a w, J listed a w → (∀ i, i < n → listed.getD i false = true) → wpAny P .any ops Q f listed a w) :
    ∀ k listed a w, unl listed n = k → J listed a w → wpAny P .any ops Q (k + f) listed a w := by
  intro k
  induction k with
  | zero => intro listed a w hk hJ; rw [Nat.zero_add]; exact hend listed a w hJ (TH hk)
  | succ k ih =>
    intro listed a w hk hJ
    rw [show k + 1 + f = (k + f) + 1 from by omega]
    refine ⟨fun hr => absurd hr (XE (hsz _ _ _ hJ) he (by omega)), fun i hi => ?_⟩
    obtain ⟨hin, hw⟩ := hstep listed a w hJ (by omega) i hi
    obtain ⟨h1, h2⟩ := UT (Jm hi).1
    have := UR h1 h2 n
    rw [if_pos hin] at this
    exact wpOp_mono (fun a' w' hJ' => ih _ a' w' (by omega) hJ') hw
/-- an operation's place -/
theorem Bz {i : Nat} {o : Oper} {K : Act → World → Prop} {a : Act} {w : World} (ho : ops[i]? = some o) (h : if Region.wanted o (yielded ops a.tmps) = true then o.wp P a w K Q else K (a.put o.dst undef) w) : wpOp P ops Q i K a w := by
  unfold wpOp
  rw [ho]
  dsimp only
  by_cases hw : Region.wanted o (yielded ops a.tmps) = true
  · rw [if_pos hw] at h ⊢; exact .inl h
  · rw [if_neg hw] at h ⊢; exact h
theorem pt {a : Act} {d N : Nat} {v : Value} (hd : d < a.tmps.size) : (a.put (some d) v).tmps[N]? = if d = N then some v else a.tmps[N]? := by
  show (a.tmps.setIfInBounds d v)[N]? = _
  rw [Array.getElem?_setIfInBounds]
  by_cases e : d = N
  · rw [if_pos e, if_pos e, if_pos hd]
  · rw [if_neg e, if_neg e]
theorem KW {a : Act} {d : Nat} {v : Value} : (a.put (some d) v).tmps.size = a.tmps.size := by
  show (a.tmps.setIfInBounds d v).size = _
  simp
theorem OD {a : Act} {d : Option Nat} {v : Value} : (a.put d v).defers = a.defers := by cases d <;> rfl
theorem G6 {a : Act} {N : Nat} {v : Value} (h : a.tmps[N]? = some v) : a.eval (.tmp N) = v := by
  show a.tmps.getD N undef = v
  rw [Array.getD_eq_getD_getElem?, h]; rfl
/-- an act, told place by place -/
theorem act_ext {a b : Act} (hd : a.defers = b.defers) (h : ∀ N : Nat, a.tmps[N]? = b.tmps[N]?) : a = b := by
  obtain ⟨t, d⟩ := a
  obtain ⟨t', d'⟩ := b
  have h1 : d = d' := hd
  have h2 : t = t' := Array.ext_getElem? h
  rw [h1, h2]
end
end Go.Proofs.YtggelekooacmnaaDoor.Q
namespace Go.Proofs.YtggelekooacmnaaDoor.Q
open Go.RowKit Go.Proofs.YtggelekooacmnaaDoorW.bg Go.Proofs.YtggelekooacmnaaDoorW.bP Go.Proofs.YtggelekooacmnaaDoorW.bX
attribute [local go_sem] ek eu fw fA dH dI eB eD   -- for this text's walks alone
set_option linter.unusedVariables false
set_option linter.unusedSimpArgs false

/-- A state of type 63 at block g of W; what its slices lead to came in by w0. -/
def aH (w0 W : World) (g : Nat) (f0 : List Int) (f1 : Int) (f2 : Int) : Prop := ∃ A0 c0, W.heap[g]? = some (.cells #[.slice A0 f0.length c0, .int .i64 f1, .int .i64 f2] 63 (0, 0)) ∧ w0.heap.size ≤ g ∧ Kd.C (Kd.int .i64) w0 A0 f0.length f0
theorem aH.grown {w0 W : World} {g : Nat} {f0 : List Int} {f1 : Int} {f2 : Int} {W1 : World} {row : Option Nat} (h : aH w0 W g f0 f1 f2) (hw : W.grownBy W1 row) (hne : some g ≠ row) : aH w0 W1 g f0 f1 f2 := by
 obtain ⟨A0, c0, hb, hg, hr0⟩ := h; exact ⟨A0, c0, fG hb hw hne, hg, hr0⟩
theorem aH.own_neN {w0 W : World} {g : Nat} {f0 : List Int} {f1 : Int} {f2 : Int} {α : Type} {d : Kd α} {e : Nat} {base : Nat} {ok : Nat → Prop} {v : Value} {xs : List α} (h : aH w0 W g f0 f1 f2) (ho : Kd.N d e W base ok v xs) (ht : e ≠ 63) : some g ≠ v.ownBlock := by
 obtain ⟨A0, c0, hb, hg, hr0⟩ := h; exact Kd.N_ne ho hb ht
theorem aH.fresh {w0 W : World} {g : Nat} {f0 : List Int} {f1 : Int} {f2 : Int} (h : aH w0 W g f0 f1 f2) : ∀ k, W.heap.size ≤ k → k ≠ g := by
 obtain ⟨A0, c0, hb, hg, hr0⟩ := h; exact Kd.fP hb
theorem aH.kept {w0 W : World} {g : Nat} {f0 : List Int} {f1 : Int} {f2 : Int} {W1 : World} {S : Nat → Prop} (h : aH w0 W g f0 f1 f2) (hk : Kept W W1 S) (hne : ¬ S g) : aH w0 W1 g f0 f1 f2 := by
 obtain ⟨A0, c0, hb, hg, hr0⟩ := h; exact ⟨A0, c0, blk_kept hb hk hne, hg, hr0⟩
theorem aH.below {w0 W : World} {g : Nat} {f0 : List Int} {f1 : Int} {f2 : Int} {W1 : World} (h : aH w0 W g f0 f1 f2) (hw : Below W.heap.size W W1) : aH w0 W1 g f0 f1 f2 := h.grown (GN hw none) (by simp)
theorem aH.alloc {w0 W : World} {g : Nat} {f0 : List Int} {f1 : Int} {f2 : Int} (h : aH w0 W g f0 f1 f2) (o : Obj) : aH w0 (W.alloc o) g f0 f1 f2 := h.below (cz (Below.refl _ _) o)
theorem aH.drewN {w0 W : World} {g : Nat} {f0 : List Int} {f1 : Int} {f2 : Int} (h : aH w0 W g f0 f1 f2) (m : Nat) : aH w0 (W.drewN m) g f0 f1 f2 := h
theorem aH.drew {w0 W : World} {g : Nat} {f0 : List Int} {f1 : Int} {f2 : Int} (h : aH w0 W g f0 f1 f2) : aH w0 W.drew g f0 f1 f2 := h
theorem aH.at_ {w0 W : World} {g : Nat} {f0 : List Int} {f1 : Int} {f2 : Int} {w' : World} {m : Nat} (hq : W.drewN m = w') (h : aH w0 W g f0 f1 f2) : aH w0 w' g f0 f1 f2 := by subst hq; exact aH.drewN h m
theorem aH.apart {w0 W : World} {g : Nat} {f0 : List Int} {f1 : Int} {f2 : Int} {α : Type} {d : Kd α} {e : Nat} {base : Nat} {ok : Nat → Prop} {v : Value} {xs : List α} (h : aH w0 W g f0 f1 f2) (ho : d.R e W base ok v xs) (ht : ∀ q, q ∈ e :: d.E → q ≠ 63) : d.R e W base (fun k => ok k ∧ k ≠ g) v xs := by
 obtain ⟨A0, c0, hb, hg, hr0⟩ := h; exact Kd.rY ho hb ht
theorem aH.own_ne {w0 W : World} {g : Nat} {f0 : List Int} {f1 : Int} {f2 : Int} {α : Type} {d : Kd α} {e : Nat} {base : Nat} {ok : Nat → Prop} {v : Value} {xs : List α} (h : aH w0 W g f0 f1 f2) (ho : d.R e W base ok v xs) (ht : e ≠ 63) : some g ≠ v.ownBlock := by
 obtain ⟨A0, c0, hb, hg, hr0⟩ := h; exact Kd.rZ ho hb ht
theorem aH.apartQ {w0 W : World} {g : Nat} {f0 : List Int} {f1 : Int} {f2 : Int} {α : Type} {d : Kd α} {e : Nat} {base : Nat} {ok : Nat → Prop} {v : Value} {xs : List α} (h : aH w0 W g f0 f1 f2) (ho : d.Q e W base ok v xs) (ht : ∀ q, q ∈ e :: d.E → q ≠ 63) : d.Q e W base (fun k => ok k ∧ k ≠ g) v xs := by
 obtain ⟨A0, c0, hb, hg, hr0⟩ := h; exact Kd.Q_types ho hb ht
theorem aH.own_neQ {w0 W : World} {g : Nat} {f0 : List Int} {f1 : Int} {f2 : Int} {α : Type} {d : Kd α} {e : Nat} {base : Nat} {ok : Nat → Prop} {v : Value} {xs : List α} (h : aH w0 W g f0 f1 f2) (ho : d.Q e W base ok v xs) (ht : e ≠ 63) : some g ≠ v.ownBlock := by
 obtain ⟨A0, c0, hb, hg, hr0⟩ := h; exact Kd.Q_ne ho hb ht
theorem aH.apartS {w0 W : World} {g : Nat} {f0 : List Int} {f1 : Int} {f2 : Int} {α : Type} {d : Kd α} {e : Nat} {base : Nat} {ok : Nat → Prop} {v : Value} {xs : List α} (h : aH w0 W g f0 f1 f2) (ho : d.S e W base ok v xs) (ht : ∀ q, q ∈ e :: d.E → q ≠ 63) : d.S e W base (fun k => ok k ∧ k ≠ g) v xs := by
 obtain ⟨A0, c0, hb, hg, hr0⟩ := h; exact Kd.S_types ho hb ht
theorem aH.own_neS {w0 W : World} {g : Nat} {f0 : List Int} {f1 : Int} {f2 : Int} {α : Type} {d : Kd α} {e : Nat} {base : Nat} {ok : Nat → Prop} {v : Value} {xs : List α} (h : aH w0 W g f0 f1 f2) (ho : d.S e W base ok v xs) (ht : e ≠ 63) : some g ≠ v.ownBlock := by
 obtain ⟨A0, c0, hb, hg, hr0⟩ := h; exact Kd.S_ne ho hb ht
theorem aH.lt {w0 W : World} {g : Nat} {f0 : List Int} {f1 : Int} {f2 : Int} (h : aH w0 W g f0 f1 f2) : g < W.heap.size := by
 obtain ⟨A0, c0, hb, hg, hr0⟩ := h; exact iX hb
theorem aH.ge {w0 W : World} {g : Nat} {f0 : List Int} {f1 : Int} {f2 : Int} (h : aH w0 W g f0 f1 f2) : w0.heap.size ≤ g := by
 obtain ⟨A0, c0, hb, hg, hr0⟩ := h; exact hg
theorem aH.ne_blk {w0 W : World} {g : Nat} {f0 : List Int} {f1 : Int} {f2 : Int} {a : Nat} {cs : Array Value} {t : TypeId} {fr : Nat × Nat} (h : aH w0 W g f0 f1 f2) (hb2 : W.heap[a]? = some (.cells cs t fr)) (ht : t ≠ 63) : g ≠ a := by
 obtain ⟨A0, c0, hb, hg, hr0⟩ := h; rintro rfl
 rw [hb] at hb2; injection hb2 with hb2
 injection hb2 with _ ht2
 exact ht ht2.symm
theorem aH.far {w0 W : World} {g : Nat} {f0 : List Int} {f1 : Int} {f2 : Int} {p : Addr} (h : aH w0 W g f0 f1 f2) (hne : g ≠ p.block) (u : Value) : aH w0 (W.setCell p u) g f0 f1 f2 := by
 obtain ⟨A0, c0, hb, hg, hr0⟩ := h; exact ⟨A0, c0, bM hb hne u, hg, hr0⟩
theorem SC {W : World} {g : Nat} {A0 : Option Addr} {c0 : Nat} {f0 : List Int} {f1 : Int} {f2 : Int} (h : W.heap[g]? = some (.cells #[.slice A0 f0.length c0, .int .i64 f1, .int .i64 f2] 63 (0, 0))) : W.cell? ⟨g, 0, none⟩ = some (.slice A0 f0.length c0) := (aC h 0).trans rfl
theorem SE {W : World} {g : Nat} {A0 : Option Addr} {c0 : Nat} {f0 : List Int} {f1 : Int} {f2 : Int} (h : W.heap[g]? = some (.cells #[.slice A0 f0.length c0, .int .i64 f1, .int .i64 f2] 63 (0, 0))) : W.cell? ⟨g, 1, none⟩ = some (.int .i64 f1) := (aC h 1).trans rfl
theorem aH.jI {w0 W : World} {g : Nat} {f0 : List Int} {f1 : Int} {f2 : Int} (h : aH w0 W g f0 f1 f2) (x : Int) : aH w0 (W.setCell ⟨g, 1, none⟩ (.int .i64 x)) g f0 x f2 := by
 obtain ⟨A0, c0, hb, hg, hr0⟩ := h; exact ⟨A0, c0, by simpa using QA hb 1 (.int .i64 x), hg, hr0⟩
theorem SF {W : World} {g : Nat} {A0 : Option Addr} {c0 : Nat} {f0 : List Int} {f1 : Int} {f2 : Int} (h : W.heap[g]? = some (.cells #[.slice A0 f0.length c0, .int .i64 f1, .int .i64 f2] 63 (0, 0))) : W.cell? ⟨g, 2, none⟩ = some (.int .i64 f2) := (aC h 2).trans rfl
theorem aH.jJ {w0 W : World} {g : Nat} {f0 : List Int} {f1 : Int} {f2 : Int} (h : aH w0 W g f0 f1 f2) (x : Int) : aH w0 (W.setCell ⟨g, 2, none⟩ (.int .i64 x)) g f0 f1 x := by
 obtain ⟨A0, c0, hb, hg, hr0⟩ := h; exact ⟨A0, c0, by simpa using QA hb 2 (.int .i64 x), hg, hr0⟩
theorem aH.new (w0 W : World) (A0 : Option Addr) (c0 : Nat) (f0 : List Int) (f1 : Int) (f2 : Int) (hB : Below w0.heap.size w0 W) (hr0 : Kd.C (Kd.int .i64) w0 A0 f0.length f0) : aH w0 (W.alloc (.cells #[.slice A0 f0.length c0, .int .i64 f1, .int .i64 f2] 63)) W.heap.size f0 f1 f2 := ⟨A0, c0, by simpa using heap_alloc_new W _, hB.size, hr0⟩

/-! ### nk: function 14 -/
def nk.f (l0 : List Int) : Option (List Int × Int × Int) := if (l0.length : Int) > 1000 then (if 1000 ≤ (l0.length : Int) then (some (l0.take 1000, 0, 0)) else (none)) else (some (l0, 0, 0))
set_option maxHeartbeats 8000000 in
set_option maxRecDepth 100000 in
theorem nk.calls (A0 : Option Addr) (c0 : Nat) (l0 : List Int) (r1 : List Int) (r2 : Int) (r3 : Int) (w0 w : World) (hB : Below w0.heap.size w0 w) (hr0 : Kd.C (Kd.int .i64) w0 A0 l0.length l0) (hc0 : l0.length ≤ c0) (h : nk.f l0 = some (r1, r2, r3)) :
  Calls Tryd.prog 14 #[.slice A0 l0.length c0] w fun e w' => ∃ g_ : Nat, e = .returned (.pointer (some ⟨g_, 0, none⟩)) ∧ aH w0 w' g_ r1 r2 r3 ∧ Below w0.heap.size w0 w' ∧ Below w.heap.size w w' := by
 have hu63 := Tryd.underlying63; have HR0 := aa.mk hr0; have HC0 := aa.mk hc0; clear hr0 hc0; have HBW := aa.mk (Below.refl w.heap.size w); have HW0 := aa.mk hB.size; have HB := aa.mk hB; clear hB; have H : (if (l0.length : Int) > 1000 then (if 1000 ≤ (l0.length : Int) then (some (l0.take 1000, 0, 0)) else (none)) else (some (l0, 0, 0))) = some (r1, r2, r3) := h; clear h; by_cases c2 : (l0.length : Int) > 1000
 ·rw [if_pos c2] at H; have yL : decide (1000 < (l0.length : Int)) = true := decide_eq_true c2; have Ay : decide (1000 < l0.length) = true := decide_eq_true (by omega); clear c2; by_cases c3 : 1000 ≤ (l0.length : Int)
  ·rw [if_pos c3] at H; have j5 := eq_true c3; have oM : decide (1000 ≤ (l0.length : Int)) = true := decide_eq_true c3; clear c3; simp only [Option.some.injEq, Prod.mk.injEq] at H; obtain ⟨rfl, rfl, rfl⟩ := H; obtain ⟨i04, hi04, _, hsz4, _⟩ := info_parts info3; obtain ⟨hcut4, hA4, hC4⟩ := Tc (P := Tryd.prog) (Value.int .i64) 0 29 3 .i64 Tryd.underlying29 hi04 hsz4 A0 c0 l0 1000 (by omega) (dt_) HC0.out; have HR212 := aa.mk (Kd.Ol (h1 := fun _ => rfl) (hA4 _ (Kd.Jj HR0.out))); have HC212 := aa.mk hC4; clear hA4 hC4 hi04 hsz4; go_enter Tryd.func14, Tryd.ntmps14; go_wp2_with (first | ((with_reducible refine aY (N := 10) rfl ?_); refine aZ ?hg (N := 10) ?hd (cs := #[.slice A0 (l0.take 1000).length c0, .int .i64 0, .int .i64 0]) (t := 63) ?hr ?_; (case hd => rfl); (case hg => rfl); (case hr => first | (go_simp; done) | (go_simp; rfl)); intro gb213 hg w5 aK hb; have BK213 := aa.mk (aK); have GW213 := aa.mk ((by rw [hg]; exact (aG (by repeat (first | (with_reducible first | exact HBW.out | apply cz | apply bN | apply bU) | exact HBW.out))) : w.heap.size ≤ gb213)); have GE213 := aa.mk ((Nat.le_trans HW0.out (by rw [hg]; exact (aG (by repeat (first | (with_reducible first | exact HBW.out | apply cz | apply bN | apply bU) | exact HBW.out))) : w.heap.size ≤ gb213) : w0.heap.size ≤ gb213)); replace HBW := aa.mk (au HBW.out hb); replace HB := aa.mk (au bl_ hb); clear hb aK hg))
   go_ret; exact ⟨_, rfl, (show aH w0 _ gb213 (l0.take 1000) 0 0 from ⟨_, _, bk_, GE213.out, HR212.out⟩), bl_, by repeat (first | (with_reducible first | exact HBW.out | apply cz | apply bN | apply bU | refine bR ?_ GW213.out) | exact HBW.out)⟩
  ·rw [if_neg c3] at H; exact absurd H (by simp)
 ·rw [if_neg c2] at H; have yL : decide (1000 < (l0.length : Int)) = false := decide_eq_false c2; have Ay : decide (1000 < l0.length) = false := decide_eq_false (by omega); clear c2; simp only [Option.some.injEq, Prod.mk.injEq] at H; obtain ⟨rfl, rfl, rfl⟩ := H; go_enter Tryd.func14, Tryd.ntmps14; go_wp2_with (first | ((with_reducible refine aY (N := 10) rfl ?_); refine aZ ?hg (N := 10) ?hd (cs := #[.slice A0 l0.length c0, .int .i64 0, .int .i64 0]) (t := 63) ?hr ?_; (case hd => rfl); (case hg => rfl); (case hr => first | (go_simp; done) | (go_simp; rfl)); intro gb214 hg w6 aK hb; have BK214 := aa.mk (aK); have GW214 := aa.mk ((by rw [hg]; exact (aG (by repeat (first | (with_reducible first | exact HBW.out | apply cz | apply bN | apply bU) | exact HBW.out))) : w.heap.size ≤ gb214)); have GE214 := aa.mk ((Nat.le_trans HW0.out (by rw [hg]; exact (aG (by repeat (first | (with_reducible first | exact HBW.out | apply cz | apply bN | apply bU) | exact HBW.out))) : w.heap.size ≤ gb214) : w0.heap.size ≤ gb214)); replace HBW := aa.mk (au HBW.out hb); replace HB := aa.mk (au bl_ hb); clear hb aK hg))
  go_ret; exact ⟨_, rfl, (show aH w0 _ gb214 l0 0 0 from ⟨_, _, bk_, GE214.out, HR0.out⟩), bl_, by repeat (first | (with_reducible first | exact HBW.out | apply cz | apply bN | apply bU | refine bR ?_ GW214.out) | exact HBW.out)⟩

end Go.Proofs.YtggelekooacmnaaDoor.Q
namespace Go.Proofs.YtggelekooacmnaaDoor.Q
open Go.RowKit Go.Proofs.YtggelekooacmnaaDoorW.bg Go.Proofs.YtggelekooacmnaaDoorW.bP Go.Proofs.YtggelekooacmnaaDoorW.bX
attribute [local go_sem] ek eu fw fA dH dI eB eD   -- for this text's walks alone
set_option linter.unusedVariables false
set_option linter.unusedSimpArgs false

/-! ### iA: function 43 -/
def iA.f (bT : List Int) (dZ : Int) (fJ : Int) : Option (Int × Int × Int) := if dZ ≥ (bT.length : Int) then (some (0, dZ, fJ)) else (if 0 ≤ (wrap64 ((wrap64 (dZ + 1)) - 1)) then (if (wrap64 ((wrap64 (dZ + 1)) - 1)) < (bT.length : Int) then (some (rd bT (wrap64 ((wrap64 (dZ + 1)) - 1)), wrap64 (dZ + 1), fJ)) else (none)) else (none))
set_option maxHeartbeats 8000000 in
set_option maxRecDepth 100000 in
theorem iA.calls (g : Nat) (bT : List Int) (dZ : Int) (fJ : Int) (r1 : Int) (r2 : Int) (r3 : Int) (w0 w : World) (hI : aH w0 w g bT dZ fJ) (hB : Below w0.heap.size w0 w) (h : iA.f bT dZ fJ = some (r1, r2, r3)) :
    Calls Tryd.prog 43 #[.pointer (some ⟨g, 0, none⟩)] w fun e w' => e = .returned (.int .i64 r1) ∧ aH w0 w' g bT r2 r3 ∧ Below w0.heap.size w0 w' ∧ aI w w' g none := by
  have HI0 := aa.mk hI
  have HK := aa.mk (aI.refl w g none)
  have HL := aa.mk hB.size
  clear hI
  have HW0 := aa.mk hB.size
  have HB := aa.mk hB
  clear hB
  have H : (if dZ ≥ (bT.length : Int) then (some (0, dZ, fJ)) else (if 0 ≤ (wrap64 ((wrap64 (dZ + 1)) - 1)) then (if (wrap64 ((wrap64 (dZ + 1)) - 1)) < (bT.length : Int) then (some (rd bT (wrap64 ((wrap64 (dZ + 1)) - 1)), wrap64 (dZ + 1), fJ)) else (none)) else (none))) = some (r1, r2, r3) := h
  clear h
  by_cases c2 : dZ ≥ (bT.length : Int)
  · rw [if_pos c2] at H
    have yL : decide ((bT.length : Int) ≤ dZ) = true := decide_eq_true c2
    clear c2
    simp only [Option.some.injEq, Prod.mk.injEq] at H
    obtain ⟨rfl, rfl, rfl⟩ := H
    obtain ⟨ASz3_0, cSz3_0, HGz3, hgz3, HSz3_0⟩ := HI0.out
    have hcz3_0 := SC HGz3
    have hcz3_1 := SE HGz3
    have hcz3_2 := SF HGz3
    have hfz3_1 := dW HGz3 1
    have hfz3_2 := dW HGz3 2
    clear HGz3 hgz3
    go_enter Tryd.func43, Tryd.ntmps43
    go_wp2
    repeat (go_quiet (fail); try go_wp2)
    go_ret
    exact ⟨by first | rfl | (simp [fT, fU] <;> rfl) | (simp [*, fT, fU] <;> rfl), by repeat (first | (with_reducible first | exact HI0.out | apply aH.alloc | apply aH.drewN | apply aH.drew | apply aH.jI | apply aH.jJ) | exact HI0.out), by repeat (first | (with_reducible first | exact HB.out | apply cz | apply bN | apply bU | refine bR ?_ (aH.ge HI0.out)) | exact HB.out), by repeat (first | (with_reducible first | exact HK.out | apply aI.dF | apply bu | apply bD | apply bz) | exact HK.out)⟩
  · rw [if_neg c2] at H
    have yL : decide ((bT.length : Int) ≤ dZ) = false := decide_eq_false c2
    clear c2
    obtain ⟨ji4, BA⟩ : ∃ j_ : Int, (wrap64 ((wrap64 (dZ + 1)) - 1)) = j_ := ⟨_, rfl⟩
    replace H : (if 0 ≤ (ji4) then (if (ji4) < (bT.length : Int) then (some (rd bT (ji4), wrap64 (dZ + 1), fJ)) else (none)) else (none)) = some (r1, r2, r3) := by first | (rw [BA] at H; exact H) | (simp only [BA] at H ⊢; exact H)
    have hji4w : (IntKind.i64.wrap ((wrap64 (dZ + 1)) - 1)) = ji4 := (eT _).trans BA
    by_cases c5 : 0 ≤ (ji4)
    · rw [if_pos c5] at H
      have p8 : decide (0 ≤ (ji4)) = true := decide_eq_true c5
      clear c5
      by_cases c6 : (ji4) < (bT.length : Int)
      · rw [if_pos c6] at H
        have oN : decide ((ji4) < (bT.length : Int)) = true := decide_eq_true c6
        clear c6
        simp only [Option.some.injEq, Prod.mk.injEq] at H
        obtain ⟨rfl, rfl, rfl⟩ := H
        obtain ⟨ASz7_0, cSz7_0, HGz7, hgz7, HSz7_0⟩ := HI0.out
        have Dj := SC HGz7
        have Dk := SE HGz7
        have J5 := SF HGz7
        have Dl := dW HGz7 1
        have J6 := dW HGz7 2
        clear HGz7 hgz7
        have p215 : 0 ≤ ((ji4) : Int) := of_decide_eq_true (by first | (with_reducible assumption) | assumption)
        have q215 : (ji4) < (bT.length : Int) := of_decide_eq_true (by first | (with_reducible assumption) | assumption)
        obtain ⟨ad215, e215, Ee⟩ := Kd.mi HSz7_0 (ji4) p215 q215
        cases e215
        have KX : ad215.block ≠ g := Nat.ne_of_lt (Nat.lt_of_lt_of_le (by have := World.block_lt_of_cell? _ _ Ee; first | rwa [add_block] at this | exact this) (aH.ge HI0.out))
        replace Ee := iT HB.out Ee
        replace Ee := (cell_far (p := ⟨g, 1, none⟩) (by first | (rw [add_block]; exact KX) | (show (Addr.add _ _).block ≠ _; rw [add_block]; exact KX) | exact KX) (.int .i64 (wrap64 (dZ + 1)))).trans Ee
        (try have hy215_0 := fun (n_ : Nat) => (show (((w.drewN n_).setCell ⟨g, 1, none⟩ (.int .i64 (wrap64 (dZ + 1))))).cell? _ = some _ from Ee))
        clear KX
        replace p215 := eq_true p215
        replace q215 := eq_true q215
        go_enter Tryd.func43, Tryd.ntmps43
        go_wp2
        repeat (go_quiet (fail); try go_wp2)
        all_goals go_ret
        all_goals exact ⟨by first | rfl | (simp [fT, fU] <;> rfl) | (simp only [← BA]; first | rfl | (simp [fT, fU] <;> rfl)) | (simp; rw [← BA]; (first | unfold mn | unfold mx); split <;> omega) | (simp; (first | unfold mn at BA | unfold mx at BA); split at BA <;> omega) | (simp [*, fT, fU] <;> rfl), by repeat (first | (with_reducible first | exact HI0.out | apply aH.alloc | apply aH.drewN | apply aH.drew | apply aH.jI | apply aH.jJ) | exact HI0.out), by repeat (first | (with_reducible first | exact HB.out | apply cz | apply bN | apply bU | refine bR ?_ (aH.ge HI0.out)) | exact HB.out), by repeat (first | (with_reducible first | exact HK.out | apply aI.dF | apply bu | apply bD | apply bz) | exact HK.out)⟩
      · rw [if_neg c6] at H
        exact absurd H (by simp)
    · rw [if_neg c5] at H
      exact absurd H (by simp)

end Go.Proofs.YtggelekooacmnaaDoor.Q
namespace Go.Proofs.YtggelekooacmnaaDoor.Q
open Go.RowKit Go.Proofs.YtggelekooacmnaaDoorW.bg Go.Proofs.YtggelekooacmnaaDoorW.bP Go.Proofs.YtggelekooacmnaaDoorW.bX
attribute [local go_sem] ek eu fw fA dH dI eB eD   -- for this text's walks alone
set_option linter.unusedVariables false
set_option linter.unusedSimpArgs false

/-! ### bS: function 20 -/
def bS.f (bT : List Int) (dZ : Int) (fJ : Int) (a1 : Int) : Option (Int × Int × Int) := if a1 < 1 then (some (0, dZ, fJ)) else ((iA.f bT dZ fJ).bind fun tT => (if a1 = 0 then (none) else (if (Int.tmod tT.1 a1) < 0 then (some (wrap64 ((Int.tmod tT.1 a1) + a1), tT.2.1, tT.2.2)) else (some (Int.tmod tT.1 a1, tT.2.1, tT.2.2)))))
set_option maxHeartbeats 8000000 in
set_option maxRecDepth 100000 in
theorem bS.calls (g : Nat) (bT : List Int) (dZ : Int) (fJ : Int) (a1 : Int) (r1 : Int) (r2 : Int) (r3 : Int) (w0 w : World) (hI : aH w0 w g bT dZ fJ) (hB : Below w0.heap.size w0 w) (h : bS.f bT dZ fJ a1 = some (r1, r2, r3)) :
    Calls Tryd.prog 20 #[.pointer (some ⟨g, 0, none⟩), .int .i64 a1] w fun e w' => e = .returned (.int .i64 r1) ∧ aH w0 w' g bT r2 r3 ∧ Below w0.heap.size w0 w' ∧ aI w w' g none := by
  have HI0 := aa.mk hI
  have HK := aa.mk (aI.refl w g none)
  have HL := aa.mk hB.size
  clear hI
  have HW0 := aa.mk hB.size
  have HB := aa.mk hB
  clear hB
  have H : (if a1 < 1 then (some (0, dZ, fJ)) else ((iA.f bT dZ fJ).bind fun tT => (if a1 = 0 then (none) else (if (Int.tmod tT.1 a1) < 0 then (some (wrap64 ((Int.tmod tT.1 a1) + a1), tT.2.1, tT.2.2)) else (some (Int.tmod tT.1 a1, tT.2.1, tT.2.2)))))) = some (r1, r2, r3) := h
  clear h
  by_cases c3 : a1 < 1
  · rw [if_pos c3] at H
    have j5 : decide (a1 < 1) = true := decide_eq_true c3
    clear c3
    simp only [Option.some.injEq, Prod.mk.injEq] at H
    obtain ⟨rfl, rfl, rfl⟩ := H
    go_enter Tryd.func20, Tryd.ntmps20
    go_wp2
    go_ret
    exact ⟨by first | rfl | (simp [fT, fU] <;> rfl) | (simp [*, fT, fU] <;> rfl), by repeat (first | (with_reducible first | exact HI0.out | apply aH.alloc | apply aH.drewN | apply aH.drew | apply aH.jI | apply aH.jJ) | exact HI0.out), by repeat (first | (with_reducible first | exact HB.out | apply cz | apply bN | apply bU | refine bR ?_ (aH.ge HI0.out)) | exact HB.out), by repeat (first | (with_reducible first | exact HK.out | apply aI.dF | apply bu | apply bD | apply bz) | exact HK.out)⟩
  · rw [if_neg c3] at H
    have j5 : decide (a1 < 1) = false := decide_eq_false c3
    clear c3
    replace H := Option.bind_eq_some_iff.mp H
    obtain ⟨⟨t216, t217, t218⟩, A40, H⟩ := H
    replace H : (if a1 = 0 then (none) else (if (Int.tmod t216 a1) < 0 then (some (wrap64 ((Int.tmod t216 a1) + a1), t217, t218)) else (some (Int.tmod t216 a1, t217, t218)))) = some (r1, r2, r3) := H
    have A4 := aa.mk A40
    clear A40
    by_cases c5 : a1 = 0
    · rw [if_pos c5] at H
      exact absurd H (by simp)
    · rw [if_neg c5] at H
      have p8 : (a1 == 0) = false := beq_eq_false_iff_ne.mpr c5
      have c5b1 : (a1 != 0) = true := bne_iff_ne.mpr c5
      by_cases c6 : (Int.tmod t216 a1) < 0
      · rw [if_pos c6] at H
        have oN : decide ((Int.tmod t216 a1) < 0) = true := decide_eq_true c6
        clear c6
        simp only [Option.some.injEq, Prod.mk.injEq] at H
        obtain ⟨rfl, rfl, rfl⟩ := H
        go_enter Tryd.func20, Tryd.ntmps20
        go_wp2_with (first | ((with_reducible refine aN (f := 43) rfl ?_); refine bJ (some 9) rfl rfl Tryd.func43 (by kernel_rfl) rfl #[.pointer (some ⟨g, 0, none⟩)] rfl (by (try simp only [List.map_toArray, List.map_cons, List.map_nil]); first | done | rfl | (simp only [List.length_drop, List.length_take]; rfl)) ?_; (with_reducible refine (iA.calls g bT dZ fJ t216 t217 t218 w0 _ ?aQ ?aT A4.out).mono ?_); (case aQ => repeat (first | (with_reducible first | exact HI0.out | apply aH.alloc | apply aH.drewN | apply aH.drew | apply aH.jI | apply aH.jJ) | exact HI0.out)); (case aT => repeat (first | (with_reducible first | exact HB.out | apply cz | apply bN | apply bU | refine bR ?_ (aH.ge HI0.out)) | exact HB.out)); rintro e w7 ⟨rfl, hi, hb, hk⟩; refine ⟨_, rfl, ?_⟩; have n0_ := aa.mk (aI.trans (by repeat (first | (with_reducible first | exact HK.out | apply aI.dF | apply bu | apply bD | apply bz) | exact HK.out)) hk (.inl rfl)); have n1_ := aa.mk (hb); have n2_ := aa.mk (hi); clear HK; clear HB; clear HI0; have HK := n0_; have HB := n1_; have HI0 := n2_; clear n0_ n1_ n2_; (try clear hb); (try clear hb2); (try clear hk); (try clear hi)))
        go_ret
        exact ⟨by first | rfl | (simp [fT, fU] <;> rfl) | (simp [*, fT, fU] <;> rfl), by repeat (first | (with_reducible first | exact HI0.out | apply aH.alloc | apply aH.drewN | apply aH.drew | apply aH.jI | apply aH.jJ) | exact HI0.out), by repeat (first | (with_reducible first | exact HB.out | apply cz | apply bN | apply bU | refine bR ?_ (aH.ge HI0.out)) | exact HB.out), by repeat (first | (with_reducible first | exact HK.out | apply aI.dF | apply bu | apply bD | apply bz) | exact HK.out)⟩
      · rw [if_neg c6] at H
        have oN : decide ((Int.tmod t216 a1) < 0) = false := decide_eq_false c6
        clear c6
        simp only [Option.some.injEq, Prod.mk.injEq] at H
        obtain ⟨rfl, rfl, rfl⟩ := H
        go_enter Tryd.func20, Tryd.ntmps20
        go_wp2_with (first | ((with_reducible refine aN (f := 43) rfl ?_); refine bJ (some 9) rfl rfl Tryd.func43 (by kernel_rfl) rfl #[.pointer (some ⟨g, 0, none⟩)] rfl (by (try simp only [List.map_toArray, List.map_cons, List.map_nil]); first | done | rfl | (simp only [List.length_drop, List.length_take]; rfl)) ?_; (with_reducible refine (iA.calls g bT dZ fJ t216 t217 t218 w0 _ ?aQ ?aT A4.out).mono ?_); (case aQ => repeat (first | (with_reducible first | exact HI0.out | apply aH.alloc | apply aH.drewN | apply aH.drew | apply aH.jI | apply aH.jJ) | exact HI0.out)); (case aT => repeat (first | (with_reducible first | exact HB.out | apply cz | apply bN | apply bU | refine bR ?_ (aH.ge HI0.out)) | exact HB.out)); rintro e w8 ⟨rfl, hi, hb, hk⟩; refine ⟨_, rfl, ?_⟩; have n0_ := aa.mk (aI.trans (by repeat (first | (with_reducible first | exact HK.out | apply aI.dF | apply bu | apply bD | apply bz) | exact HK.out)) hk (.inl rfl)); have n1_ := aa.mk (hb); have n2_ := aa.mk (hi); clear HK; clear HB; clear HI0; have HK := n0_; have HB := n1_; have HI0 := n2_; clear n0_ n1_ n2_; (try clear hb); (try clear hb2); (try clear hk); (try clear hi)))
        go_ret
        exact ⟨by first | rfl | (simp [fT, fU] <;> rfl) | (simp [*, fT, fU] <;> rfl), by repeat (first | (with_reducible first | exact HI0.out | apply aH.alloc | apply aH.drewN | apply aH.drew | apply aH.jI | apply aH.jJ) | exact HI0.out), by repeat (first | (with_reducible first | exact HB.out | apply cz | apply bN | apply bU | refine bR ?_ (aH.ge HI0.out)) | exact HB.out), by repeat (first | (with_reducible first | exact HK.out | apply aI.dF | apply bu | apply bD | apply bz) | exact HK.out)⟩

end Go.Proofs.YtggelekooacmnaaDoor.Q
namespace Go.Proofs.YtggelekooacmnaaDoor.Q
open Go.RowKit Go.Proofs.YtggelekooacmnaaDoorW.bg Go.Proofs.YtggelekooacmnaaDoorW.bP Go.Proofs.YtggelekooacmnaaDoorW.bX
attribute [local go_sem] ek eu fw fA dH dI eB eD   -- for this text's walks alone
set_option linter.unusedVariables false
set_option linter.unusedSimpArgs false

/-! ### dA: function 17 -/
def dA.f (bT : List Int) (dZ : Int) (fJ : Int) (a1 : Int) (a2 : Int) : Option (Int × Int × Int) := (bS.f bT dZ fJ (wrap64 ((wrap64 (a2 - a1)) + 1))).bind fun Jn => (some (wrap64 (a1 + Jn.1), Jn.2.1, Jn.2.2))
set_option maxHeartbeats 8000000 in
set_option maxRecDepth 100000 in
theorem dA.calls (g : Nat) (bT : List Int) (dZ : Int) (fJ : Int) (a1 : Int) (a2 : Int) (r1 : Int) (r2 : Int) (r3 : Int) (w0 w : World) (hI : aH w0 w g bT dZ fJ) (hB : Below w0.heap.size w0 w) (h : dA.f bT dZ fJ a1 a2 = some (r1, r2, r3)) :
    Calls Tryd.prog 17 #[.pointer (some ⟨g, 0, none⟩), .int .i64 a1, .int .i64 a2] w fun e w' => e = .returned (.int .i64 r1) ∧ aH w0 w' g bT r2 r3 ∧ Below w0.heap.size w0 w' ∧ aI w w' g none := by
  have HI0 := aa.mk hI
  have HK := aa.mk (aI.refl w g none)
  have HL := aa.mk hB.size
  clear hI
  have HW0 := aa.mk hB.size
  have HB := aa.mk hB
  clear hB
  have H : ((bS.f bT dZ fJ (wrap64 ((wrap64 (a2 - a1)) + 1))).bind fun Jn => (some (wrap64 (a1 + Jn.1), Jn.2.1, Jn.2.2))) = some (r1, r2, r3) := h
  clear h
  replace H := Option.bind_eq_some_iff.mp H
  obtain ⟨⟨t219, t220, t221⟩, A40, H⟩ := H
  replace H : (some (wrap64 (a1 + t219), t220, t221)) = some (r1, r2, r3) := H
  have A4 := aa.mk A40
  clear A40
  simp only [Option.some.injEq, Prod.mk.injEq] at H
  obtain ⟨rfl, rfl, rfl⟩ := H
  go_enter Tryd.func17, Tryd.ntmps17
  go_wp2_with (first | ((with_reducible refine aN (f := 20) rfl ?_); refine bJ (some 13) rfl rfl Tryd.func20 (by kernel_rfl) rfl #[.pointer (some ⟨g, 0, none⟩), .int .i64 (wrap64 ((wrap64 (a2 - a1)) + 1))] rfl (by (try simp only [List.map_toArray, List.map_cons, List.map_nil]); first | done | rfl | (simp only [List.length_drop, List.length_take]; rfl)) ?_; (with_reducible refine (bS.calls g bT dZ fJ (wrap64 ((wrap64 (a2 - a1)) + 1)) t219 t220 t221 w0 _ ?aQ ?aT A4.out).mono ?_); (case aQ => repeat (first | (with_reducible first | exact HI0.out | apply aH.alloc | apply aH.drewN | apply aH.drew | apply aH.jI | apply aH.jJ) | exact HI0.out)); (case aT => repeat (first | (with_reducible first | exact HB.out | apply cz | apply bN | apply bU | refine bR ?_ (aH.ge HI0.out)) | exact HB.out)); rintro e w5 ⟨rfl, hi, hb, hk⟩; refine ⟨_, rfl, ?_⟩; have n0_ := aa.mk (aI.trans (by repeat (first | (with_reducible first | exact HK.out | apply aI.dF | apply bu | apply bD | apply bz) | exact HK.out)) hk (.inl rfl)); have n1_ := aa.mk (hb); have n2_ := aa.mk (hi); clear HK; clear HB; clear HI0; have HK := n0_; have HB := n1_; have HI0 := n2_; clear n0_ n1_ n2_; (try clear hb); (try clear hb2); (try clear hk); (try clear hi)))
  go_ret
  exact ⟨by first | rfl | (simp [fT, fU] <;> rfl) | (simp [*, fT, fU] <;> rfl), by repeat (first | (with_reducible first | exact HI0.out | apply aH.alloc | apply aH.drewN | apply aH.drew | apply aH.jI | apply aH.jJ) | exact HI0.out), by repeat (first | (with_reducible first | exact HB.out | apply cz | apply bN | apply bU | refine bR ?_ (aH.ge HI0.out)) | exact HB.out), by repeat (first | (with_reducible first | exact HK.out | apply aI.dF | apply bu | apply bD | apply bz) | exact HK.out)⟩

end Go.Proofs.YtggelekooacmnaaDoor.Q
namespace Go.Proofs.YtggelekooacmnaaDoor.Q
open Go.RowKit Go.Proofs.YtggelekooacmnaaDoorW.bg Go.Proofs.YtggelekooacmnaaDoorW.bP Go.Proofs.YtggelekooacmnaaDoorW.bX
attribute [local go_sem] ek eu fw fA dH dI eB eD   -- for this text's walks alone
set_option linter.unusedVariables false
set_option linter.unusedSimpArgs false

/-! ### ib: function 54 -/
def ib.f (bT : List Int) (dZ : Int) (fJ : Int) (l1 : List Int) : Option (Int × Int × Int) := (bS.f bT dZ fJ (l1.length : Int)).bind fun Az => (if 0 ≤ Az.1 then (if Az.1 < (l1.length : Int) then (some (rd l1 Az.1, Az.2.1, Az.2.2)) else (none)) else (none))
set_option maxHeartbeats 8000000 in
set_option maxRecDepth 100000 in
theorem ib.calls (g : Nat) (bT : List Int) (dZ : Int) (fJ : Int) (A1 : Option Addr) (c1 : Nat) (l1 : List Int) (r1 : Int) (r2 : Int) (r3 : Int) (w0 w : World) (hI : aH w0 w g bT dZ fJ) (hB : Below w0.heap.size w0 w) (hr1 : Kd.C (Kd.int .i64) w A1 l1.length l1) (hc1 : l1.length ≤ c1) (hf1 : ∀ ad, A1 = some ad → 0 < l1.length → ad.block ≠ g) (h : ib.f bT dZ fJ l1 = some (r1, r2, r3)) :
    Calls Tryd.prog 54 #[.pointer (some ⟨g, 0, none⟩), .slice A1 l1.length c1] w fun e w' => e = .returned (.int .i64 r1) ∧ aH w0 w' g bT r2 r3 ∧ Below w0.heap.size w0 w' ∧ aI w w' g none := by
  have HR1 := aa.mk hr1
  have HC1 := aa.mk hc1
  clear hr1 hc1
  have HI0 := aa.mk hI
  have HK := aa.mk (aI.refl w g none)
  have HL := aa.mk hB.size
  clear hI
  have HW0 := aa.mk hB.size
  have HB := aa.mk hB
  clear hB
  have H : ((bS.f bT dZ fJ (l1.length : Int)).bind fun Az => (if 0 ≤ Az.1 then (if Az.1 < (l1.length : Int) then (some (rd l1 Az.1, Az.2.1, Az.2.2)) else (none)) else (none))) = some (r1, r2, r3) := h
  clear h
  replace H := Option.bind_eq_some_iff.mp H
  obtain ⟨⟨FJ, t356, t357⟩, A30, H⟩ := H
  replace H : (if 0 ≤ FJ then (if FJ < (l1.length : Int) then (some (rd l1 FJ, t356, t357)) else (none)) else (none)) = some (r1, r2, r3) := H
  have A3 := aa.mk A30
  clear A30
  by_cases c4 : 0 ≤ FJ
  · rw [if_pos c4] at H
    have kM : decide (0 ≤ FJ) = true := decide_eq_true c4
    clear c4
    by_cases c5 : FJ < (l1.length : Int)
    · rw [if_pos c5] at H
      have p8 : decide (FJ < (l1.length : Int)) = true := decide_eq_true c5
      clear c5
      simp only [Option.some.injEq, Prod.mk.injEq] at H
      obtain ⟨rfl, rfl, rfl⟩ := H
      go_enter Tryd.func54, Tryd.ntmps54
      go_wp2_with (first | ((with_reducible refine aN (f := 20) rfl ?_); refine bJ (some 9) rfl rfl Tryd.func20 (by kernel_rfl) rfl #[.pointer (some ⟨g, 0, none⟩), .int .i64 (l1.length : Int)] rfl (by (try simp only [List.map_toArray, List.map_cons, List.map_nil]); first | done | rfl | (simp only [List.length_drop, List.length_take]; rfl)) ?_; (with_reducible refine (bS.calls g bT dZ fJ (l1.length : Int) FJ t356 t357 w0 _ ?aQ ?aT A3.out).mono ?_); (case aQ => repeat (first | (with_reducible first | exact HI0.out | apply aH.alloc | apply aH.drewN | apply aH.drew | apply aH.jI | apply aH.jJ) | exact HI0.out)); (case aT => repeat (first | (with_reducible first | exact HB.out | apply cz | apply bN | apply bU | refine bR ?_ (aH.ge HI0.out)) | exact HB.out)); rintro e w6 ⟨rfl, hi, hb, hk⟩; refine ⟨_, rfl, ?_⟩; have n0_ := aa.mk (aI.trans (by repeat (first | (with_reducible first | exact HK.out | apply aI.dF | apply bu | apply bD | apply bz) | exact HK.out)) hk (.inl rfl)); have n1_ := aa.mk (hb); have n2_ := aa.mk (hi); clear HK; clear HB; clear HI0; have HK := n0_; have HB := n1_; have HI0 := n2_; clear n0_ n1_ n2_; (try clear hb); (try clear hb2); (try clear hk); (try clear hi); have p358 : 0 ≤ (FJ : Int) := of_decide_eq_true (by first | (with_reducible assumption) | assumption); have q358 : FJ < (l1.length : Int) := of_decide_eq_true (by first | (with_reducible assumption) | assumption); obtain ⟨ad358, e358, UU⟩ := Kd.mi HR1.out FJ p358 q358; cases e358; replace UU := lH HK.out UU (by first | (rw [add_block]; exact hf1 _ rfl (by omega)) | exact hf1 _ rfl (by omega) | exact hf1 ad358 rfl (by omega)); replace p358 := eq_true p358; replace q358 := eq_true q358))
      go_ret
      exact ⟨by first | rfl | (simp [fT, fU] <;> rfl) | (simp [*, fT, fU] <;> rfl), by repeat (first | (with_reducible first | exact HI0.out | apply aH.alloc | apply aH.drewN | apply aH.drew | apply aH.jI | apply aH.jJ) | exact HI0.out), by repeat (first | (with_reducible first | exact HB.out | apply cz | apply bN | apply bU | refine bR ?_ (aH.ge HI0.out)) | exact HB.out), by repeat (first | (with_reducible first | exact HK.out | apply aI.dF | apply bu | apply bD | apply bz) | exact HK.out)⟩
    · rw [if_neg c5] at H
      exact absurd H (by simp)
  · rw [if_neg c4] at H
    exact absurd H (by simp)

end Go.Proofs.YtggelekooacmnaaDoor.Q
namespace Go.Proofs.YtggelekooacmnaaDoor.Q
open Go.RowKit Go.Proofs.YtggelekooacmnaaDoorW.bg Go.Proofs.YtggelekooacmnaaDoorW.bP Go.Proofs.YtggelekooacmnaaDoorW.bX
attribute [local go_sem] ek eu fw fA dH dI eB eD   -- for this text's walks alone
set_option linter.unusedVariables false
set_option linter.unusedSimpArgs false

/-! ### aD: function 28 -/
mutual
def aD.j2 : Nat → List Int → Int → Int → Int → List (S51) → Option (Int × (List (S51)) × Int × Int)
 | 0, _, _, _, _, _ => none
 | k + 1, x1000, mW, mX, uD, pG => (bS.f x1000 mW mX 24).bind fun Gx => (if Gx.1 = 0 then ((ib.f x1000 Gx.2.1 Gx.2.2 (([(-1), 1, 1000] : List Int))).bind fun AA => (some (wrap64 (uD + AA.1), pG, AA.2.1, AA.2.2))) else (if Gx.1 = 1 then (if ([] : List (S51)).length + pG.length < 4398046511104 then ((some (([] : List (S51)) ++ pG : List (S51))).bind fun FL => (if FL.length < 4398046511104 then (some (uD, (FL ++ [(⟨0, ([] : List (S51))⟩ : S51)]), Gx.2.1, Gx.2.2)) else (none))) else (none)) else (some (uD, pG, Gx.2.1, Gx.2.2))))
def aD.l0 : Nat → Int → List Int → Int → Int → Int → Int → Int → Int → List (S24) → Int → List (S51) → Option (Int × (List (S51)) × Int × Int)
 | 0, _, _, _, _, _, _, _, _, _, _, _ => none
 | k + 1, x6, x1000, mW, mX, QM, QN, QO, QP, mG, uD, pG => if x6 < (mG.length : Int) then (if 0 ≤ x6 then ((aD.f k x1000 mW mX ((ag mG x6).f0) ((ag mG x6).f1) ((ag mG x6).f2) ((ag mG x6).f3) ((ag mG x6).f4)).bind fun bt363 => (if pG.length < 4398046511104 then (aD.l0 k (wrap64 (x6 + 1)) x1000 bt363.2.2.1 bt363.2.2.2 QM QN QO QP mG uD (pG ++ [(⟨bt363.1, bt363.2.1⟩ : S51)])) else (none))) else (none)) else (aD.j2 k x1000 mW mX uD pG)
def aD.l1 : Nat → Int → List Int → Int → Int → Int → Int → Int → Int → List (S24) → Int → List (S51) → Option (Int × (List (S51)) × Int × Int)
 | 0, _, _, _, _, _, _, _, _, _, _, _ => none
 | k + 1, x7, x1000, mW, mX, QM, QN, QO, QP, mG, uD, pG => if x7 > 0 then (if (mG.length : Int) > 0 then (if 0 < (mG.length : Int) then ((aD.f k x1000 mW mX ((ag mG 0).f0) ((ag mG 0).f1) ((ag mG 0).f2) ((ag mG 0).f3) ((ag mG 0).f4)).bind fun bt376 => (if pG.length < 4398046511104 then (aD.l1 k (wrap64 (x7 - 1)) x1000 bt376.2.2.1 bt376.2.2.2 QM QN QO QP mG uD (pG ++ [(⟨bt376.1, bt376.2.1⟩ : S51)])) else (none))) else (none)) else (aD.j2 k x1000 mW mX uD pG)) else (aD.j2 k x1000 mW mX uD pG)
def aD.f : Nat → List Int → Int → Int → Int → Int → Int → Int → List (S24) → Option (Int × (List (S51)) × Int × Int)
 | 0, _, _, _, _, _, _, _, _ => none
 | k + 1, bT, dZ, fJ, bH, jH, kR, lq, eZ => if bH = 5 then (aD.l0 k 0 bT dZ fJ bH jH kR lq eZ 0 ([] : List (S51))) else (if bH = 6 then ((bS.f bT dZ fJ (wrap64 (lq + 1))).bind fun Jp => (aD.l1 k Jp.1 bT Jp.2.1 Jp.2.2 bH jH kR lq eZ 0 ([] : List (S51)))) else (if bH = 1 then ((bS.f bT dZ fJ 2).bind fun Jq => (aD.j2 k bT Jq.2.1 Jq.2.2 Jq.1 ([] : List (S51)))) else (if bH = 2 then ((dA.f bT dZ fJ jH (mn kR (wrap64 (jH + 5)))).bind fun AB => (aD.j2 k bT AB.2.1 AB.2.2 AB.1 ([] : List (S51)))) else ((bS.f bT dZ fJ 4).bind fun Jr => (aD.j2 k bT Jr.2.1 Jr.2.2 Jr.1 ([] : List (S51)))))))
end
theorem aD.fH : ∀ k, (∀ y0 y1 y2 y3 y4 y5 y6 y7, LeO (aD.f k y0 y1 y2 y3 y4 y5 y6 y7) (aD.f (k + 1) y0 y1 y2 y3 y4 y5 y6 y7)) ∧ (∀ y0 y1 y2 y3 y4, LeO (aD.j2 k y0 y1 y2 y3 y4) (aD.j2 (k + 1) y0 y1 y2 y3 y4)) ∧ (∀ y0 y1 y2 y3 y4 y5 y6 y7 y8 y9 y10, LeO (aD.l0 k y0 y1 y2 y3 y4 y5 y6 y7 y8 y9 y10) (aD.l0 (k + 1) y0 y1 y2 y3 y4 y5 y6 y7 y8 y9 y10)) ∧ (∀ y0 y1 y2 y3 y4 y5 y6 y7 y8 y9 y10, LeO (aD.l1 k y0 y1 y2 y3 y4 y5 y6 y7 y8 y9 y10) (aD.l1 (k + 1) y0 y1 y2 y3 y4 y5 y6 y7 y8 y9 y10))
 | 0 => ⟨fun _ _ _ _ _ _ _ _ r h => by simp [aD.f] at h, fun _ _ _ _ _ r h => by simp [aD.j2] at h, fun _ _ _ _ _ _ _ _ _ _ _ r h => by simp [aD.l0] at h, fun _ _ _ _ _ _ _ _ _ _ _ r h => by simp [aD.l1] at h⟩
 | k + 1 => by
  obtain ⟨ih0, ih1, ih2, ih3⟩ := aD.fH k; refine ⟨?_, ?_, ?_, ?_⟩
  ·intro y0 y1 y2 y3 y4 y5 y6 y7; unfold aD.f; repeat' first
   | (with_reducible exact ih0 _ _ _ _ _ _ _ _)
   | (with_reducible exact ih1 _ _ _ _ _)
   | (with_reducible exact ih2 _ _ _ _ _ _ _ _ _ _ _)
   | (with_reducible exact ih3 _ _ _ _ _ _ _ _ _ _ _)
   | (with_reducible exact LeO.refl _)
   | (with_reducible exact LeO.none _)
   | (with_reducible refine LeO.ite ?_ ?_)
   | (with_reducible refine LeO.bind ?_ (fun _ => ?_))
   | exact ih0 _ _ _ _ _ _ _ _
   | exact ih1 _ _ _ _ _
   | exact ih2 _ _ _ _ _ _ _ _ _ _ _
   | exact ih3 _ _ _ _ _ _ _ _ _ _ _
   | exact LeO.none _
   | refine LeO.ite ?_ ?_
   | refine LeO.bind ?_ (fun _ => ?_)
  ·intro y0 y1 y2 y3 y4; unfold aD.j2; repeat' first
   | (with_reducible exact ih0 _ _ _ _ _ _ _ _)
   | (with_reducible exact ih1 _ _ _ _ _)
   | (with_reducible exact ih2 _ _ _ _ _ _ _ _ _ _ _)
   | (with_reducible exact ih3 _ _ _ _ _ _ _ _ _ _ _)
   | (with_reducible exact LeO.refl _)
   | (with_reducible exact LeO.none _)
   | (with_reducible refine LeO.ite ?_ ?_)
   | (with_reducible refine LeO.bind ?_ (fun _ => ?_))
   | exact ih0 _ _ _ _ _ _ _ _
   | exact ih1 _ _ _ _ _
   | exact ih2 _ _ _ _ _ _ _ _ _ _ _
   | exact ih3 _ _ _ _ _ _ _ _ _ _ _
   | exact LeO.none _
   | refine LeO.ite ?_ ?_
   | refine LeO.bind ?_ (fun _ => ?_)
  ·intro y0 y1 y2 y3 y4 y5 y6 y7 y8 y9 y10; unfold aD.l0; repeat' first
   | (with_reducible exact ih0 _ _ _ _ _ _ _ _)
   | (with_reducible exact ih1 _ _ _ _ _)
   | (with_reducible exact ih2 _ _ _ _ _ _ _ _ _ _ _)
   | (with_reducible exact ih3 _ _ _ _ _ _ _ _ _ _ _)
   | (with_reducible exact LeO.refl _)
   | (with_reducible exact LeO.none _)
   | (with_reducible refine LeO.ite ?_ ?_)
   | (with_reducible refine LeO.bind ?_ (fun _ => ?_))
   | exact ih0 _ _ _ _ _ _ _ _
   | exact ih1 _ _ _ _ _
   | exact ih2 _ _ _ _ _ _ _ _ _ _ _
   | exact ih3 _ _ _ _ _ _ _ _ _ _ _
   | exact LeO.none _
   | refine LeO.ite ?_ ?_
   | refine LeO.bind ?_ (fun _ => ?_)
  ·intro y0 y1 y2 y3 y4 y5 y6 y7 y8 y9 y10; unfold aD.l1; repeat' first
   | (with_reducible exact ih0 _ _ _ _ _ _ _ _)
   | (with_reducible exact ih1 _ _ _ _ _)
   | (with_reducible exact ih2 _ _ _ _ _ _ _ _ _ _ _)
   | (with_reducible exact ih3 _ _ _ _ _ _ _ _ _ _ _)
   | (with_reducible exact LeO.refl _)
   | (with_reducible exact LeO.none _)
   | (with_reducible refine LeO.ite ?_ ?_)
   | (with_reducible refine LeO.bind ?_ (fun _ => ?_))
   | exact ih0 _ _ _ _ _ _ _ _
   | exact ih1 _ _ _ _ _
   | exact ih2 _ _ _ _ _ _ _ _ _ _ _
   | exact ih3 _ _ _ _ _ _ _ _ _ _ _
   | exact LeO.none _
   | refine LeO.ite ?_ ?_
   | refine LeO.bind ?_ (fun _ => ?_)
theorem aD.mono : ∀ a0 a1 a2 a3 a4 a5 a6 a7 k, LeO (aD.f k a0 a1 a2 a3 a4 a5 a6 a7) (aD.f (k + 1) a0 a1 a2 a3 a4 a5 a6 a7) := by
 intro a0 a1 a2 a3 a4 a5 a6 a7 k; obtain ⟨ih0, ih1, ih2, ih3⟩ := aD.fH k; exact ih0 a0 a1 a2 a3 a4 a5 a6 a7
def aD.T8 : Bool × List (List Nat × List Nat) := (true, [([], []), ([0], [0]), ([], []), ([], []), ([3], [3]), ([], []), ([4, 5], [4, 5]), ([6], [6]), ([2, 7], [2, 7]), ([8], [8]), ([1, 9, 8], [1, 9]), ([0, 1, 2, 3, 4, 5, 6, 7, 8, 9, 10], []), ([11, 10, 10, 0, 1, 2, 3, 4, 5, 6, 7, 8, 9, 10], [10, 11])])
def aD.B8 : List Nat := [0, 1, 0, 0, 8, 0, 56, 120, 252, 508, 1023, 2047, 4095]
theorem aD.tab8 : kJ .any (opsOf Tryd.f28 8) = aD.T8 := by kernel_rfl
theorem aD.bits8 : lJ aD.T8.2 aD.B8 = true := by kernel_rfl
def aD.T13 : Bool × List (List Nat × List Nat) := (true, [([], []), ([0], [0]), ([], []), ([], []), ([3], [3]), ([4], [4]), ([5], [5]), ([2, 6], [2, 6]), ([7], [7]), ([1, 8, 7], [1, 8]), ([0, 1, 2, 3, 4, 5, 6, 7, 8, 9], []), ([10, 9, 9, 0, 1, 2, 3, 4, 5, 6, 7, 8, 9], [9, 10])])
def aD.B13 : List Nat := [0, 1, 0, 0, 8, 24, 56, 124, 252, 511, 1023, 2047]
theorem aD.tab13 : kJ .any (opsOf Tryd.f28 13) = aD.T13 := by kernel_rfl
theorem aD.bits13 : lJ aD.T13.2 aD.B13 = true := by kernel_rfl
def aD.T20 : Bool × List (List Nat × List Nat) := (true, [([], []), ([0], [0]), ([], []), ([], []), ([2, 3], [2, 3]), ([1, 4], [1, 4]), ([0, 1, 2, 3, 4, 5], []), ([6, 5, 4, 0, 1, 2, 3, 4, 5], [5, 6])])
def aD.B20 : List Nat := [0, 1, 0, 0, 12, 31, 63, 127]
theorem aD.tab20 : kJ .any (opsOf Tryd.f28 20) = aD.T20 := by kernel_rfl
theorem aD.bits20 : lJ aD.T20.2 aD.B20 = true := by kernel_rfl
set_option maxHeartbeats 8000000 in
set_option maxRecDepth 100000 in
theorem aD.calls (k : Nat) : ∀ (g : Nat) (bT : List Int) (dZ : Int) (fJ : Int) (bH : Int) (jH : Int) (kR : Int) (lq : Int) (A1_4 : Option Addr) (yM : Nat) (eZ : List (S24)) (r1 : Int) (r2 : List (S51)) (r3 : Int) (r4 : Int) (w0 w : World) (hI : aH w0 w g bT dZ fJ) (hB : Below w0.heap.size w0 w) (hr1_4 : ∀ W_, aI w W_ g none → Kd.C k24 W_ A1_4 eZ.length eZ) (hc1_4 : eZ.length ≤ yM) (h : aD.f k bT dZ fJ bH jH kR lq eZ = some (r1, r2, r3, r4)),
  Calls Tryd.prog 28 #[.pointer (some ⟨g, 0, none⟩), .agg #[.int .i64 bH, .int .i64 jH, .int .i64 kR, .int .i64 lq, .slice A1_4 eZ.length yM]] w fun e w' => ∃ v1_ : Value, e = .returned (.agg #[.int .i64 r1, v1_]) ∧ Kd.R k51 51 w' w.heap.size (fun _ => True) v1_ r2 ∧ aH w0 w' g bT r3 r4 ∧ Below w0.heap.size w0 w' ∧ aI w w' g none := by
 induction k using Nat.strongRecOn with
 | _ k ih =>
 intro g bT dZ fJ bH jH kR lq A1_4 yM eZ r1 r2 r3 r4 w0 w hI hB hr1_4 hc1_4 h; cases k with
 | zero => exact absurd h (by simp [aD.f])
 | succ k =>
 simp only [aD.f] at h; have ou := Tryd.underlying24; have zh := Tryd.underlying51; have fQ := aa.mk hr1_4; have HC1_4 := aa.mk hc1_4; clear hr1_4 hc1_4; have HI0 := aa.mk hI; have HK := aa.mk (aI.refl w g none); have HL := aa.mk hB.size; clear hI; have HW0 := aa.mk hB.size; have HB := aa.mk hB; clear hB; have H : (if bH = 5 then (aD.l0 k 0 bT dZ fJ bH jH kR lq eZ 0 ([] : List (S51))) else (if bH = 6 then ((bS.f bT dZ fJ (wrap64 (lq + 1))).bind fun Jp => (aD.l1 k Jp.1 bT Jp.2.1 Jp.2.2 bH jH kR lq eZ 0 ([] : List (S51)))) else (if bH = 1 then ((bS.f bT dZ fJ 2).bind fun Jq => (aD.j2 k bT Jq.2.1 Jq.2.2 Jq.1 ([] : List (S51)))) else (if bH = 2 then ((dA.f bT dZ fJ jH (mn kR (wrap64 (jH + 5)))).bind fun AB => (aD.j2 k bT AB.2.1 AB.2.2 AB.1 ([] : List (S51)))) else ((bS.f bT dZ fJ 4).bind fun Jr => (aD.j2 k bT Jr.2.1 Jr.2.2 Jr.1 ([] : List (S51)))))))) = some (r1, r2, r3, r4) := h; clear h; have HC3 := aa.mk H; clear H; go_enter Tryd.func28, Tryd.ntmps28; go_upto_block 0 with (first | ((with_reducible refine aY (N := 3) rfl ?_); (try (refine bY (by rfl) ?_; dsimp only)); refine aZ ?hg (N := 3) ?hd (cs := #[.int .i64 bH, .int .i64 jH, .int .i64 kR, .int .i64 lq, .slice A1_4 eZ.length yM]) (t := 24) ?hr ?_; (case hd => rfl); (case hg => rfl); (case hr => first | (go_simp; done) | (go_simp; rfl)); intro lv hg w4 aK hb; have eG := aa.mk (aK); have jK := aa.mk ((by rw [hg]; exact (gP (w := w) (g := g) (row := none) (by repeat (first | (with_reducible first | exact HK.out | apply aI.dF | apply bu | apply bD | apply bz) | exact HK.out))) : w.heap.size ≤ lv)); have KY := aa.mk ((Nat.le_trans HW0.out (by rw [hg]; exact (gP (w := w) (g := g) (row := none) (by repeat (first | (with_reducible first | exact HK.out | apply aI.dF | apply bu | apply bD | apply bz) | exact HK.out))) : w.heap.size ≤ lv) : w0.heap.size ≤ lv)); have pI := aa.mk ((by rw [hg]; exact Nat.ne_of_lt (aH.lt (show aH w0 _ g bT dZ fJ from si_)) : g ≠ lv)); have pJ := aa.mk ((by rw [hg]; exact Nat.ne_of_gt (aH.lt (show aH w0 _ g bT dZ fJ from si_)) : lv ≠ g)); replace HI0 := aa.mk (aH.below si_ hb); replace HK := aa.mk (aI.trans (by repeat (first | (with_reducible first | exact HK.out | apply aI.dF | apply bu | apply bD | apply bz) | exact HK.out)) (aI.of_below hb g none) (.inl rfl)); replace HB := aa.mk (au bl_ hb); clear hb aK hg) | ((with_reducible refine aY (N := 4) rfl ?_); (try (refine bY (by rfl) ?_; dsimp only)); refine aZ ?hg (N := 4) ?hd (cs := #[.int .i64 0, .slice none 0 0]) (t := 51) ?hr ?_; (case hd => rfl); (case hg => rfl); (case hr => first | (go_simp; done) | (go_simp; rfl)); intro fZ hg w5 aK hb; have gX := aa.mk (aK); have il := aa.mk ((by rw [hg]; exact (gP (w := w) (g := g) (row := none) (by repeat (first | (with_reducible first | exact HK.out | apply aI.dF | apply bu | apply bD | apply bz | refine aX ?_ jK.out _) | exact HK.out))) : w.heap.size ≤ fZ)); have CS := aa.mk ((Nat.le_trans HW0.out (by rw [hg]; exact (gP (w := w) (g := g) (row := none) (by repeat (first | (with_reducible first | exact HK.out | apply aI.dF | apply bu | apply bD | apply bz | refine aX ?_ jK.out _) | exact HK.out))) : w.heap.size ≤ fZ) : w0.heap.size ≤ fZ)); have vO := nl_ eG hg; have vP := ng_ eG hg; have pK := aa.mk ((by rw [hg]; exact Nat.ne_of_lt (aH.lt (show aH w0 _ g bT dZ fJ from si_)) : g ≠ fZ)); have pM := aa.mk ((by rw [hg]; exact Nat.ne_of_gt (aH.lt (show aH w0 _ g bT dZ fJ from si_)) : fZ ≠ g)); replace HI0 := aa.mk (aH.below si_ hb); replace eG := kb_ eG hb; replace HK := aa.mk (aI.trans (by repeat (first | (with_reducible first | exact HK.out | apply aI.dF | apply bu | apply bD | apply bz | refine aX ?_ jK.out _) | exact HK.out)) (aI.of_below hb g none) (.inl rfl)); replace HB := aa.mk (au bl_ hb); clear hb aK hg) | ((with_reducible refine aY (N := 5) rfl ?_); (try (refine bY (by rfl) ?_; dsimp only)); refine aZ ?hg (N := 5) ?hd (cs := #[.int .i64 0, .slice none 0 0]) (t := 51) ?hr ?_; (case hd => rfl); (case hg => rfl); (case hr => first | (go_simp; done) | (go_simp; rfl)); intro fD hg w6 aK hb; have eO := aa.mk (aK); have iK := aa.mk ((by rw [hg]; exact (gP (w := w) (g := g) (row := none) (by repeat (first | (with_reducible first | exact HK.out | apply aI.dF | apply bu | apply bD | apply bz | refine aX ?_ jK.out _ | refine aX ?_ il.out _) | exact HK.out))) : w.heap.size ≤ fD)); have CU := aa.mk ((Nat.le_trans HW0.out (by rw [hg]; exact (gP (w := w) (g := g) (row := none) (by repeat (first | (with_reducible first | exact HK.out | apply aI.dF | apply bu | apply bD | apply bz | refine aX ?_ jK.out _ | refine aX ?_ il.out _) | exact HK.out))) : w.heap.size ≤ fD) : w0.heap.size ≤ fD)); have lL := nl_ eG hg; have ow := ng_ eG hg; have jS := nl_ gX hg; have rF := ng_ gX hg; have mH := aa.mk ((by rw [hg]; exact Nat.ne_of_lt (aH.lt (show aH w0 _ g bT dZ fJ from si_)) : g ≠ fD)); have mI := aa.mk ((by rw [hg]; exact Nat.ne_of_gt (aH.lt (show aH w0 _ g bT dZ fJ from si_)) : fD ≠ g)); replace HI0 := aa.mk (aH.below si_ hb); replace eG := kb_ eG hb; replace gX := kb_ gX hb; replace HK := aa.mk (aI.trans (by repeat (first | (with_reducible first | exact HK.out | apply aI.dF | apply bu | apply bD | apply bz | refine aX ?_ jK.out _ | refine aX ?_ il.out _) | exact HK.out)) (aI.of_below hb g none) (.inl rfl)); replace HB := aa.mk (au bl_ hb); clear hb aK hg; have hnb7 := vO.out; have hnc7 := vP.out; have hnb8 := lL.out; have hnc8 := ow.out; have hnb9 := pJ.out; have hnc9 := pI.out; obtain ⟨lM, lN, nu, ny, nz, lQ, lS, nA, nC, nD⟩ := bF eG.out))
 (try simp only [Act.put, List.setIfInBounds_toArray, List.set_cons_zero, List.set_cons_succ])
 go_cut [] (fun wc => ∃ (kq : Nat) (wR : Int) (wS : Int) (fM : Int) (iC : List (S51)) (fV : Value), aa (aD.j2 kq bT wR wS fM iC = some (r1, r2, r3, r4)) ∧ aa (kq ≤ k) ∧ aa (Kd.R k51 51 wc w.heap.size (fun k_ => k_ ≠ fZ ∧ k_ ≠ fD) fV iC) ∧ aa (wc.heap[fZ]? = some (.cells #[.int .i64 0, (.slice none 0 0)] 51 (0, 0))) ∧ aa (wc.heap[fD]? = some (.cells #[.int .i64 fM, fV] 51 (0, 0))) ∧ aa (aH w0 wc g bT wR wS) ∧ aa (aI w wc g none) ∧ aa (Below w0.heap.size w0 wc))
 case first =>
  have H := HC3.out; clear HC3; by_cases c11 : bH = 5
  ·rw [if_pos c11] at H; have yZ : (bH == 5) = true := beq_iff_eq.mpr c11; have c11b1 : (bH != 5) = false := bne_eq_false_iff_eq.mpr c11; clear c11; (first | rw [yZ] | (simp only [eT, eY]; rw [yZ]) | skip)
   have H' := aa.mk H; clear H; go_wp2; go_loopg [6] k (fun kq v6 w' => ∃ (fC : Int) (oG : Int) (oH : Int) (iN : List (S51)) (fV : Value), v6 = .int .i64 fC ∧ aa (aD.l0 kq fC bT oG oH bH jH kR lq eZ 0 iN = some (r1, r2, r3, r4)) ∧ aa (kq ≤ k) ∧ aa (Kd.R k51 51 w' w.heap.size (fun k_ => k_ ≠ fZ ∧ k_ ≠ fD) fV iN) ∧ aa (w'.heap[lv]? = some (.cells #[.int .i64 bH, .int .i64 jH, .int .i64 kR, .int .i64 lq, (.slice A1_4 eZ.length yM)] 24 (0, 0))) ∧ aa (w'.heap[fZ]? = some (.cells #[.int .i64 0, (.slice none 0 0)] 51 (0, 0))) ∧ aa (w'.heap[fD]? = some (.cells #[.int .i64 0, fV] 51 (0, 0))) ∧ aa (aH w0 w' g bT oG oH) ∧ aa (aI w w' g none) ∧ aa (Below w0.heap.size w0 w'))
   case atStart => exact ⟨(0), (dZ), (fJ), (([] : List (S51))), (.slice none 0 0), rs_, H', ⟨Nat.le_refl _⟩, ⟨by first | exact Kd.gZ _ _ _ _ _ | exact Kd.jD _ _ _ _ _ | exact Kd.iR _ _ _ _ _ | exact Kd.jB _ _ _ _ _ | exact Kd.jC _ _ _ _ _⟩, ⟨bk_⟩, ⟨bk_⟩, ⟨bk_⟩, ⟨si_⟩, ⟨by repeat (first | (with_reducible first | exact HK.out | apply aI.dF | apply bu | apply bD | apply bz | refine aX ?_ jK.out _ | refine aX ?_ il.out _ | refine aX ?_ iK.out _) | exact HK.out)⟩, ⟨bl_⟩⟩
   case round =>
    clear H'; (try clear c1); (try clear c2); (try clear p2); (try clear p6); (try clear c7); (try clear c8); (try clear c9); (try clear c11); (try clear yZ); (try clear c11b1); (try clear lM lN nu ny nz lQ lS nA nC nD); obtain ⟨fC, oG, oH, iN, fV, rfl, HA, HK1, dh, eG, gX, eO, HI0, HK, HB⟩ := hrel; cases gk with
    | zero => exact absurd HA.out (by simp [aD.l0])
    | succ k1 =>
     have H := HA.out; clear HA; simp only [aD.l0] at H; by_cases c12 : fC < (eZ.length : Int)
     ·rw [if_pos c12] at H; have oV : decide (fC < (eZ.length : Int)) = true := decide_eq_true c12; clear c12; by_cases c13 : 0 ≤ fC
      ·rw [if_pos c13] at H; have oW : decide (0 ≤ fC) = true := decide_eq_true c13; clear c13; replace H := Option.bind_eq_some_iff.mp H; obtain ⟨⟨t363, t364, t367, t368⟩, A140, H⟩ := H; replace H : (if iN.length < 4398046511104 then (aD.l0 k1 (wrap64 (fC + 1)) bT t367 t368 bH jH kR lq eZ 0 (iN ++ [(⟨t363, t364⟩ : S51)])) else (none)) = some (r1, r2, r3, r4) := H; have A14 := aa.mk A140; clear A140; by_cases c15 : iN.length < 4398046511104
       ·rw [if_pos c15] at H; have LMc15 := aa.mk c15; clear c15; obtain ⟨y369, OE⟩ : ∃ y_ : List (S51), y_ = (iN ++ [(⟨t363, t364⟩ : S51)]) := ⟨_, rfl⟩; replace H : (aD.l0 k1 (wrap64 (fC + 1)) bT t367 t368 bH jH kR lq eZ 0 y369) = some (r1, r2, r3, r4) := by first | (rw [OE]; with_reducible exact H) | (have H2_ := (Option.bind_some _ _).symm.trans H; rw [OE]; with_reducible exact H2_) | (have H2_ := (Option.bind_some _ _).symm.trans H; with_reducible exact H2_) | with_reducible exact H | (rw [OE]; exact H) | exact H
        have Ny369 := aa.mk OE; clear OE; have H' := aa.mk H; clear H; have hnb16 := vO.out; have hnc16 := vP.out; have hnb17 := lL.out; have hnc17 := ow.out; have hnb18 := pJ.out; have hnc18 := pI.out; obtain ⟨Ef, Eg, QQ, QR, QS, Eh, Ei, QT, QU, QV⟩ := bF eG.out; try go_wp2
        replace dh := aa.mk (Kd.dP dh.out); replace eG := aa.mk (ak eG.out); replace gX := aa.mk (ak gX.out); replace eO := aa.mk (ak eO.out); replace HI0 := aa.mk (aH.drew HI0.out); replace HK := aa.mk (bD HK.out); replace HB := aa.mk (bU HB.out); have p362 : 0 ≤ (fC : Int) := dt_; have q362 : fC < (eZ.length : Int) := dt_; obtain ⟨nW, A362_4, c362_4, e362, G7, G8, G9, Ha, Ej, UW, QW⟩ := eX (Kd.Ox fQ.out HK.out) fC p362 q362; have hw362_4 := Ej; have hw362_3 := Ha; have hw362_2 := G9; have hw362_1 := G8; have hw362_0 := G7; replace QW := J4 fQ.out HK.out p362 q362 e362 Ej; cases e362; have NS := (show (⟨(nW.add ((fC).toNat * 5)).block, (nW.add ((fC).toNat * 5)).off + 4, none⟩ : Addr).block ≠ g from by first | (rw [add_block]; exact Kd.fu fQ.out (by omega) (by decide)) | (show (Addr.add _ _).block ≠ _; rw [add_block]; exact Kd.fu fQ.out (by omega) (by decide)) | exact Kd.fu fQ.out (by omega) (by decide) | (dsimp only; exact Kd.fu fQ.out (by omega) (by decide))); have hlt362_4 := (Kd.uB fQ.out (by omega) (by decide)); have NT := (show (⟨(nW.add ((fC).toNat * 5)).block, (nW.add ((fC).toNat * 5)).off + 3, none⟩ : Addr).block ≠ g from by first | (rw [add_block]; exact Kd.fu fQ.out (by omega) (by decide)) | (show (Addr.add _ _).block ≠ _; rw [add_block]; exact Kd.fu fQ.out (by omega) (by decide)) | exact Kd.fu fQ.out (by omega) (by decide) | (dsimp only; exact Kd.fu fQ.out (by omega) (by decide))); have hlt362_3 := (Kd.uB fQ.out (by omega) (by decide)); have NU := (show (⟨(nW.add ((fC).toNat * 5)).block, (nW.add ((fC).toNat * 5)).off + 2, none⟩ : Addr).block ≠ g from by first | (rw [add_block]; exact Kd.fu fQ.out (by omega) (by decide)) | (show (Addr.add _ _).block ≠ _; rw [add_block]; exact Kd.fu fQ.out (by omega) (by decide)) | exact Kd.fu fQ.out (by omega) (by decide) | (dsimp only; exact Kd.fu fQ.out (by omega) (by decide))); have hlt362_2 := (Kd.uB fQ.out (by omega) (by decide)); have NV := (show (⟨(nW.add ((fC).toNat * 5)).block, (nW.add ((fC).toNat * 5)).off + 1, none⟩ : Addr).block ≠ g from by first | (rw [add_block]; exact Kd.fu fQ.out (by omega) (by decide)) | (show (Addr.add _ _).block ≠ _; rw [add_block]; exact Kd.fu fQ.out (by omega) (by decide)) | exact Kd.fu fQ.out (by omega) (by decide) | (dsimp only; exact Kd.fu fQ.out (by omega) (by decide))); have hlt362_1 := (Kd.uB fQ.out (by omega) (by decide)); have NW := (show ((nW.add ((fC).toNat * 5)) : Addr).block ≠ g from by first | (rw [add_block]; exact Kd.fu fQ.out (by omega) (by decide)) | (show (Addr.add _ _).block ≠ _; rw [add_block]; exact Kd.fu fQ.out (by omega) (by decide)) | exact Kd.fu fQ.out (by omega) (by decide) | (dsimp only; exact Kd.fu fQ.out (by omega) (by decide)))
        have hlt362_0 := (Kd.uB fQ.out (by omega) (by decide)); have UX := aa.mk QW; have HC362_4 := aa.mk UW; clear QW UW; replace p362 := eq_true p362; replace q362 := eq_true q362; refine r9 (n := 13) (S := fun w' => w'.cell? ⟨fD, 0, none⟩ = some (.int .i64 0) ∧ w'.cell? ⟨fD, 1, none⟩ = some (fV) ∧ w'.cell? ⟨lv, 0, none⟩ = some (.int .i64 bH) ∧ w'.cell? ⟨lv, 1, none⟩ = some (.int .i64 jH) ∧ w'.cell? ⟨lv, 2, none⟩ = some (.int .i64 kR) ∧ w'.cell? ⟨lv, 3, none⟩ = some (.int .i64 lq) ∧ w'.cell? ⟨lv, 4, none⟩ = some (.slice (some nW) eZ.length yM) ∧ w'.cell? (nW.add ((fC).toNat * 5)) = some (.int .i64 ((ag eZ fC).f0)) ∧ w'.cell? ⟨(nW.add ((fC).toNat * 5)).block, (nW.add ((fC).toNat * 5)).off + 1, none⟩ = some (.int .i64 ((ag eZ fC).f1)) ∧ w'.cell? ⟨(nW.add ((fC).toNat * 5)).block, (nW.add ((fC).toNat * 5)).off + 2, none⟩ = some (.int .i64 ((ag eZ fC).f2)) ∧ w'.cell? ⟨(nW.add ((fC).toNat * 5)).block, (nW.add ((fC).toNat * 5)).off + 3, none⟩ = some (.int .i64 ((ag eZ fC).f3)) ∧ w'.cell? ⟨(nW.add ((fC).toNat * 5)).block, (nW.add ((fC).toNat * 5)).off + 4, none⟩ = some (.slice A362_4 ((ag eZ fC).f4).length c362_4)) (ds := [10, 12]) #[false, false, false, false, false, false, false, false, false, false, false, false, false] (by kernel_rfl) rfl rfl ⟨(aC eO.out 0).trans rfl, (aC eO.out 1).trans rfl, (aC eG.out 0).trans rfl, (aC eG.out 1).trans rfl, (aC eG.out 2).trans rfl, (aC eG.out 3).trans rfl, (aC eG.out 4).trans rfl, G7, G8, G9, Ha, Ej⟩ (fun hHeld => ?_); refine lK aD.tab8 aD.bits8 (fun HT_ HW_ => ?_)
        generalize wr.drew = w20 at dh eG gX eO HI0 HK HB UX G7 G8 G9 Ha Ej hHeld ⊢
        refine pu_ HT_ 0 22 (bm 13 1) ?_
        refine pu_ HT_ 2 24 (bm 13 5) ?_
        refine pu_ HT_ 3 25 (bm 13 13) ?_
        refine pu_ HT_ 5 27 (bm 13 45) ?_
        refine ta_ HT_ HW_ 1 23 (bm 13 47) hHeld ?_
        refine ta_ HT_ HW_ 4 26 (bm 13 63) hHeld ?_
        refine pu_ HT_ 6 28 (bm 13 127) ?_
        refine ta_ HT_ HW_ 7 29 (bm 13 255) hHeld ?_
        refine oL (i := 8) (N := some 30) #[true, true, true, true, true, true, true, true, true, false, false, false, false] rfl rfl (iy HT_.out (by kernel_rfl)) (by decide) (fun K hK => ?_)
        refine tQ Tryd.func28 (by kernel_rfl) rfl #[.pointer (some ⟨g, 0, none⟩), .agg #[.int .i64 ((ag eZ fC).f0), .int .i64 ((ag eZ fC).f1), .int .i64 ((ag eZ fC).f2), .int .i64 ((ag eZ fC).f3), .slice A362_4 ((ag eZ fC).f4).length c362_4]] (by rfl) rfl rfl mp_ ?_
        with_reducible refine (ih k1 (by have := HK1.out; omega) g bT oG oH ((ag eZ fC).f0) ((ag eZ fC).f1) ((ag eZ fC).f2) ((ag eZ fC).f3) _ _ ((ag eZ fC).f4) t363 t364 t367 t368 w0 _ ?aQ ?aT ?dK ?dL A14.out).mono ?_
        (case aQ => repeat (first | (with_reducible first | exact HI0.out | apply aH.alloc | apply aH.drewN | apply aH.drew | apply aH.jI | apply aH.jJ | refine aH.far ?_ pI.out _ | refine aH.far ?_ pK.out _ | refine aH.far ?_ mH.out _) | exact HI0.out))
        (case aT => repeat (first | (with_reducible first | exact HB.out | apply cz | apply bN | apply bU | refine bR ?_ (aH.ge HI0.out) | refine bR ?_ KY.out | refine bR ?_ CS.out | refine bR ?_ CU.out) | exact HB.out))
        (case dK => exact Kd.ND UX.out (by repeat (first | (with_reducible first | exact HK.out | apply aI.dF | apply bu | apply bD | apply bz | refine aX ?_ jK.out _ | refine aX ?_ il.out _ | refine aX ?_ iK.out _) | exact HK.out)))
        (case dL => exact HC362_4.out)
        rintro e w21 ⟨v365, rfl, ho0, hi, hb, hk⟩
        have HS7_ := lH hk (hHeld.2.2.2.2.2.2.2.1) (by first | (rw [add_block]; exact NW) | (show (Addr.add _ _).block ≠ _; rw [add_block]; exact NW) | exact NW); have HS8_ := lH hk (hHeld.2.2.2.2.2.2.2.2.1) (by first | (rw [add_block]; exact NV) | (show (Addr.add _ _).block ≠ _; rw [add_block]; exact NV) | exact NV); have HS9_ := lH hk (hHeld.2.2.2.2.2.2.2.2.2.1) (by first | (rw [add_block]; exact NU) | (show (Addr.add _ _).block ≠ _; rw [add_block]; exact NU) | exact NU); have HS10_ := lH hk (hHeld.2.2.2.2.2.2.2.2.2.2.1) (by first | (rw [add_block]; exact NT) | (show (Addr.add _ _).block ≠ _; rw [add_block]; exact NT) | exact NT); have HS11_ := lH hk (hHeld.2.2.2.2.2.2.2.2.2.2.2) (by first | (rw [add_block]; exact NS) | (show (Addr.add _ _).block ≠ _; rw [add_block]; exact NS) | exact NS); refine ⟨_, rfl, ?_⟩
        have HO366 := aa.mk (Kd.dJ (Kd.oU (Kd.oU (Kd.lG ho0 (Kd.lC (pR_ dh.out))) (g := fZ) (o := .cells #[.int .i64 0, .slice none 0 0] 51 (0, 0)) bk_) (g := fD) (o := .cells #[.int .i64 0, fV] 51 (0, 0)) bk_) (gP (w := w) (g := g) (row := none) (by repeat (first | (with_reducible first | exact HK.out | apply aI.dF | apply bu | apply bD | apply bz | refine aX ?_ jK.out _ | refine aX ?_ il.out _ | refine aX ?_ iK.out _) | exact HK.out)))); replace dh := aa.mk (Kd.bQ (Kd.R_told (Kd.R_oldK (aH.apart (show aH w0 _ g bT oG oH from si_) (pR_ dh.out) (by decide)) hk) (Kd.iI ho0)) (fun _ h_ => h_.1)); replace eG := aa.mk (aI.blk hk (g' := lv) (o := .cells #[.int .i64 bH, .int .i64 jH, .int .i64 kR, .int .i64 lq, .slice (some nW) eZ.length yM] 24 (0, 0)) bk_ pJ.out (by simp)); replace gX := aa.mk (aI.blk hk (g' := fZ) (o := .cells #[.int .i64 0, .slice none 0 0] 51 (0, 0)) bk_ pM.out (by simp)); replace eO := aa.mk (aI.blk hk (g' := fD) (o := .cells #[.int .i64 0, fV] 51 (0, 0)) bk_ mI.out (by simp)); replace HK := aa.mk (aI.trans (by repeat (first | (with_reducible first | exact HK.out | apply aI.dF | apply bu | apply bD | apply bz | refine aX ?_ jK.out _ | refine aX ?_ il.out _ | refine aX ?_ iK.out _) | exact HK.out)) hk (.inl rfl)); replace HB := aa.mk (hb); replace HI0 := aa.mk (hi); (try clear hb)
        (try clear hb2)
        (try clear hk)
        (try clear hi)
        (try clear ho0)
        obtain ⟨DC, DD, eo23⟩ := Kd.dG HO366.out; (first | subst eo23 | (injection eo23 with f1_ f2_ f3_; have f4_ := f1_.symm; have f5_ := f3_.symm; clear f1_ f2_ f3_; subst f4_; subst f5_))
        refine hK.out _ _ ⟨(aC eO.out 0).trans rfl, (aC eO.out 1).trans rfl, (aC eG.out 0).trans rfl, (aC eG.out 1).trans rfl, (aC eG.out 2).trans rfl, (aC eG.out 3).trans rfl, (aC eG.out 4).trans rfl, HS7_, HS8_, HS9_, HS10_, HS11_⟩ (fun hHeld => ?_)
        clear hK K; refine kS (a' := ?_) ?_ ?_
        rotate_left
        ·show Act.put _ (some 30) _ = _
         simp only [Act.put, List.setIfInBounds_toArray, List.set_cons_zero, List.set_cons_succ, eT, eY]; rfl
        refine oL (i := 9) (N := some 31) #[true, true, true, true, true, true, true, true, true, true, false, false, false] rfl rfl (iy HT_.out (by kernel_rfl)) (by decide) (fun K hK => ?_)
        refine FE (w1 := ?_) (v := ?_) (by rfl) rfl ?_ ?_
        rotate_left 2
        ·go_simp; constructor
         ·rfl
         ·rfl
        refine hK.out _ _ ⟨(aC (ah eO.out _) 0).trans rfl, (aC (ah eO.out _) 1).trans rfl, (aC (ah eG.out _) 0).trans rfl, (aC (ah eG.out _) 1).trans rfl, (aC (ah eG.out _) 2).trans rfl, (aC (ah eG.out _) 3).trans rfl, (aC (ah eG.out _) 4).trans rfl, (World.cell?_alloc_lt _ _ _ (World.block_lt_of_cell? _ _ (hHeld.2.2.2.2.2.2.2.1))).trans (hHeld.2.2.2.2.2.2.2.1), (World.cell?_alloc_lt _ _ _ (World.block_lt_of_cell? _ _ (hHeld.2.2.2.2.2.2.2.2.1))).trans (hHeld.2.2.2.2.2.2.2.2.1), (World.cell?_alloc_lt _ _ _ (World.block_lt_of_cell? _ _ (hHeld.2.2.2.2.2.2.2.2.2.1))).trans (hHeld.2.2.2.2.2.2.2.2.2.1), (World.cell?_alloc_lt _ _ _ (World.block_lt_of_cell? _ _ (hHeld.2.2.2.2.2.2.2.2.2.2.1))).trans (hHeld.2.2.2.2.2.2.2.2.2.2.1), (World.cell?_alloc_lt _ _ _ (World.block_lt_of_cell? _ _ (hHeld.2.2.2.2.2.2.2.2.2.2.2))).trans (hHeld.2.2.2.2.2.2.2.2.2.2.2)⟩ (fun hHeld => ?_)
        clear hK K; refine kS (a' := ?_) ?_ ?_
        rotate_left
        ·show Act.put _ (some 31) _ = _
         simp only [Act.put, List.setIfInBounds_toArray, List.set_cons_zero, List.set_cons_succ, eT, eY]; rfl
        refine Gu (i := 10) (N := some 32) #[true, true, true, true, true, true, true, true, true, true, true, false, false] rfl rfl (iy HT_.out (by kernel_rfl)) (by decide) (fun K hK => ?_)
        refine Kd.yY k51 w.heap.size (by rfl) (.tmp 23) (.tmp 31) 49 51 (.agg #[(.int .i64 0), (.slice none 0 0)]) 32 rfl Tryd.underlying49 G5 rfl (by decide) (by omega) fV iN (⟨t363, t364⟩ : S51) [.int .i64 t363, .slice DC t364.length DD] (fun k_ => k_ ≠ fZ ∧ k_ ≠ fD) (fun k_ => ((fun k_ => k_ ≠ fZ ∧ k_ ≠ fD)) k_ ∧ some k_ ≠ (fV : Value).ownBlock) rfl rfl ?aP (fun _ hk => hk) ?aF ?aO (Below.refl _ _) ?aS ?aL ?_
        (case aP => exact zA _ _ _ (⟨t363, t364⟩ : S51) (Kd.bQ (HO366.out) (fun k_ hk => ⟨⟨hk.1.2, hk.2⟩, hk.1.1.2⟩)))
        (case aF => exact (fun k_ hk => ⟨Kd.fP (g := fZ) (o := .cells #[.int .i64 0, .slice none 0 0] 51 (0, 0)) bk_ k_ hk, Kd.fP (g := fD) (o := .cells #[.int .i64 0, fV] 51 (0, 0)) bk_ k_ hk⟩))
        (case aO => exact (by (with_reducible repeat (first | apply Kd.dN | apply Kd.dO | apply Kd.dP)); exact Kd.bQ dh.out (fun _ hk => ⟨hk.1.1, hk.1.2⟩)))
        (case aS => exact (gP (w := w) (g := g) (row := none) (by repeat (first | (with_reducible first | exact HK.out | apply aI.dF | apply bu | apply bD | apply bz | refine aX ?_ jK.out _ | refine aX ?_ il.out _ | refine aX ?_ iK.out _) | exact HK.out))))
        (case aL => have := LMc15.out; omega)
        intro v370 w22 ho hb hg hat; rw [← Ny369.out] at ho; have HO371 := aa.mk (ho); replace eG := aa.mk (fG (g := lv) (o := .cells #[.int .i64 bH, .int .i64 jH, .int .i64 kR, .int .i64 lq, .slice (some nW) eZ.length yM] 24 (0, 0)) bk_ hg (Kd.rZ dh.out eG.out (by decide))); replace gX := aa.mk (fG (g := fZ) (o := .cells #[.int .i64 0, .slice none 0 0] 51 (0, 0)) bk_ hg (Kd.vH dh.out (fun _ hk => hk.1.1))); replace eO := aa.mk (fG (g := fD) (o := .cells #[.int .i64 0, fV] 51 (0, 0)) bk_ hg (Kd.vH dh.out (fun _ hk => hk.1.2))); replace HI0 := aa.mk (aH.grown si_ hg (aH.own_ne HI0.out dh.out (by decide))); replace HB := aa.mk (vI bl_ HL.out hb); replace HK := aa.mk (aI.trans (by repeat (first | (with_reducible first | exact HK.out | apply aI.dF | apply bu | apply bD | apply bz | refine aX ?_ jK.out _ | refine aX ?_ il.out _ | refine aX ?_ iK.out _) | exact HK.out)) (aI.zg hg g) (Kd.KS dh.out)); clear dh HO366; clear ho hb hg hat; obtain ⟨DF, BB, eo24⟩ := Kd.dG HO371.out; (first | subst eo24 | (injection eo24 with f1_ f2_ f3_; have f4_ := f1_.symm; have f5_ := f3_.symm; clear f1_ f2_ f3_; subst f4_; subst f5_))
        refine hK.out _ _ ?_
        clear hK K; refine kS (a' := ?_) ?_ ?_
        rotate_left
        ·show Act.put _ (some 32) _ = _
         simp only [Act.put, List.setIfInBounds_toArray, List.set_cons_zero, List.set_cons_succ, eT, eY]; rfl
        refine pu_ HT_ 11 33 (bm 13 4095) ?_
        refine Gu (i := 12) (N := none) #[true, true, true, true, true, true, true, true, true, true, true, true, true] rfl rfl (iy HT_.out (by kernel_rfl)) (by decide) (fun K hK => ?_)
        have hs25 : w22.cell? ⟨fD, 1, none⟩ = some (fV) := (aC eO.out 1).trans rfl; have hfs25 := dW eO.out 1; have hns25_0 := lL.out; have hns25_1 := jS.out; have hms25_0 := ow.out; have hms25_1 := rF.out; refine CO (w1 := ?_) (by rfl) rfl ?_ ?_
        rotate_left
        ·go_simp; rfl
        refine hK.out _ _ ?_
        clear hK K; refine wP (pF HT_.out (by kernel_rfl)) ?_
        try go_wp2
        go_roundg k1
        case measure => have := HK1.out; omega
        case rel => exact ⟨(wrap64 (fC + 1)), (t367), (t368), (y369), (.slice DF y369.length BB), rs_, H', ⟨by have := HK1.out; omega⟩, ⟨by (with_reducible repeat (first | apply Kd.dN | apply Kd.dO | apply Kd.dP)); exact Kd.bQ (Kd.dD (p := ⟨fD, 1, none⟩) (Kd.bQ HO371.out (fun k_ hk => (⟨hk, by first | exact hk.2 | exact hk.1 | exact hk.2 | exact hk.1.1 | exact hk.1.2⟩ : _ ∧ k_ ≠ fD))) (fun _ hk => hk.2) (.slice DF y369.length BB)) (fun _ hk => ⟨hk.1.1, hk.1.2⟩)⟩, ⟨by (with_reducible repeat (first | refine aj ?_ _ | refine ak ?_ | refine ah ?_ _)); refine bM ?_ lL.out _; (with_reducible repeat (first | refine aj ?_ _ | refine ak ?_ | refine ah ?_ _)); exact eG.out⟩, ⟨by (with_reducible repeat (first | refine aj ?_ _ | refine ak ?_ | refine ah ?_ _)); refine bM ?_ jS.out _; (with_reducible repeat (first | refine aj ?_ _ | refine ak ?_ | refine ah ?_ _)); exact gX.out⟩, ⟨by (with_reducible repeat (first | refine aj ?_ _ | refine ak ?_ | refine ah ?_ _)); refine bn (cs := #[.int .i64 0, fV]) ?_ 1 _ rfl; (with_reducible repeat (first | refine aj ?_ _ | refine ak ?_ | refine ah ?_ _)); exact eO.out⟩, ⟨si_⟩, ⟨by repeat (first | (with_reducible first | exact HK.out | apply aI.dF | apply bu | apply bD | apply bz | refine aX ?_ jK.out _ | refine aX ?_ il.out _ | refine aX ?_ iK.out _) | exact HK.out)⟩, ⟨bl_⟩⟩
       ·rw [if_neg c15] at H; exact absurd H (by simp)
      ·rw [if_neg c13] at H; exact absurd H (by simp)
     ·rw [if_neg c12] at H; have oV : decide (fC < (eZ.length : Int)) = false := decide_eq_false c12; clear c12; have H' := aa.mk H; clear H; have hnb26 := vO.out; have hnc26 := vP.out; have Js := lL.out; have Jt := ow.out; have hnb28 := pJ.out; have hnc28 := pI.out; obtain ⟨nE, nG, uE, uF, uG, nH, nI, uH, uI, uJ⟩ := bF eG.out; go_wp2; go_meet
      case rel => exact ⟨_, (oG), (oH), (0), (iN), (fV), H', ⟨by have := HK1.out; first | omega | exact Nat.le_refl _⟩, ⟨pR_ dh.out⟩, ⟨bk_⟩, ⟨bk_⟩, ⟨si_⟩, ⟨by repeat (first | (with_reducible first | exact HK.out | apply aI.dF | apply bu | apply bD | apply bz | refine aX ?_ jK.out _ | refine aX ?_ il.out _ | refine aX ?_ iK.out _) | exact HK.out)⟩, ⟨bl_⟩⟩
  ·rw [if_neg c11] at H; have yZ : (bH == 5) = false := beq_eq_false_iff_ne.mpr c11; have c11b1 : (bH != 5) = true := bne_iff_ne.mpr c11; (first | rw [yZ] | (simp only [eT, eY]; rw [yZ]) | skip)
   by_cases c30 : bH = 6
   ·rw [if_pos c30] at H; have c30b0 : (bH == 6) = true := beq_iff_eq.mpr c30; have c30b1 : (bH != 6) = false := bne_eq_false_iff_eq.mpr c30; clear c30; replace H := Option.bind_eq_some_iff.mp H; obtain ⟨⟨t372, t373, t374⟩, A310, H⟩ := H; replace H : (aD.l1 k t372 bT t373 t374 bH jH kR lq eZ 0 ([] : List (S51))) = some (r1, r2, r3, r4) := H; have A31 := aa.mk A310; clear A310; have H' := aa.mk H; clear H; have hnb32 := vO.out; have hnc32 := vP.out; have hnb33 := lL.out; have hnc33 := ow.out; have hnb34 := pJ.out; have hnc34 := pI.out; obtain ⟨uK, uL, uM, uN, uO, uP, uQ, uR, uS, uT⟩ := bF eG.out; go_wp2_with (first | ((with_reducible refine aN (f := 20) rfl ?_); refine bJ (some 40) rfl rfl Tryd.func20 (by kernel_rfl) rfl #[.pointer (some ⟨g, 0, none⟩), .int .i64 (wrap64 (lq + 1))] rfl mp_ ?_; (with_reducible refine (bS.calls g bT dZ fJ (wrap64 (lq + 1)) t372 t373 t374 w0 _ ?aQ ?aT A31.out).mono ?_); (case aQ => repeat (first | (with_reducible first | exact HI0.out | apply aH.alloc | apply aH.drewN | apply aH.drew | apply aH.jI | apply aH.jJ | refine aH.far ?_ pI.out _ | refine aH.far ?_ pK.out _ | refine aH.far ?_ mH.out _) | exact HI0.out)); (case aT => repeat (first | (with_reducible first | exact HB.out | apply cz | apply bN | apply bU | refine bR ?_ (aH.ge HI0.out) | refine bR ?_ KY.out | refine bR ?_ CS.out | refine bR ?_ CU.out) | exact HB.out)); rintro e w36 ⟨rfl, hi, hb, hk⟩; refine ⟨_, rfl, ?_⟩; replace eG := aa.mk (aI.blk hk (g' := lv) (o := .cells #[.int .i64 bH, .int .i64 jH, .int .i64 kR, .int .i64 lq, .slice A1_4 eZ.length yM] 24 (0, 0)) bk_ pJ.out (by simp)); replace gX := aa.mk (aI.blk hk (g' := fZ) (o := .cells #[.int .i64 0, .slice none 0 0] 51 (0, 0)) bk_ pM.out (by simp)); replace eO := aa.mk (aI.blk hk (g' := fD) (o := .cells #[.int .i64 0, .slice none 0 0] 51 (0, 0)) bk_ mI.out (by simp)); replace HK := aa.mk (aI.trans (by repeat (first | (with_reducible first | exact HK.out | apply aI.dF | apply bu | apply bD | apply bz | refine aX ?_ jK.out _ | refine aX ?_ il.out _ | refine aX ?_ iK.out _) | exact HK.out)) hk (.inl rfl)); replace HB := aa.mk (hb); replace HI0 := aa.mk (hi); (try clear hb); (try clear hb2); (try clear hk); (try clear hi)))
    go_loopg [7] k (fun kq v7 w' => ∃ (x7_1 : Int) (oG : Int) (oH : Int) (iN : List (S51)) (fV : Value), v7 = .int .i64 x7_1 ∧ aa (aD.l1 kq x7_1 bT oG oH bH jH kR lq eZ 0 iN = some (r1, r2, r3, r4)) ∧ aa (kq ≤ k) ∧ aa (Kd.R k51 51 w' w.heap.size (fun k_ => k_ ≠ fZ ∧ k_ ≠ fD) fV iN) ∧ aa (w'.heap[lv]? = some (.cells #[.int .i64 bH, .int .i64 jH, .int .i64 kR, .int .i64 lq, (.slice A1_4 eZ.length yM)] 24 (0, 0))) ∧ aa (w'.heap[fZ]? = some (.cells #[.int .i64 0, (.slice none 0 0)] 51 (0, 0))) ∧ aa (w'.heap[fD]? = some (.cells #[.int .i64 0, fV] 51 (0, 0))) ∧ aa (aH w0 w' g bT oG oH) ∧ aa (aI w w' g none) ∧ aa (Below w0.heap.size w0 w'))
    case atStart => exact ⟨(t372), (t373), (t374), (([] : List (S51))), (.slice none 0 0), rs_, H', ⟨Nat.le_refl _⟩, ⟨by first | exact Kd.gZ _ _ _ _ _ | exact Kd.jD _ _ _ _ _ | exact Kd.iR _ _ _ _ _ | exact Kd.jB _ _ _ _ _ | exact Kd.jC _ _ _ _ _⟩, ⟨bk_⟩, ⟨bk_⟩, ⟨bk_⟩, ⟨si_⟩, ⟨by repeat (first | (with_reducible first | exact HK.out | apply aI.dF | apply bu | apply bD | apply bz | refine aX ?_ jK.out _ | refine aX ?_ il.out _ | refine aX ?_ iK.out _) | exact HK.out)⟩, ⟨bl_⟩⟩
    case round =>
     clear H'; (try clear c1); (try clear c2); (try clear p2); (try clear c3); (try clear p3); (try clear q3); (try clear hx3); (try clear p6); (try clear c7); (try clear c8); (try clear c9); (try clear c11); (try clear yZ); (try clear c11b1); (try clear c12); (try clear oV); (try clear c13); (try clear oW); (try clear c15); (try clear c16); (try clear c17); (try clear c18); (try clear c20); (try clear c26); (try clear c27); (try clear c28); (try clear c30); (try clear c30b0); (try clear c30b1); (try clear c32); (try clear c33); (try clear c34); (try clear c36); (try clear p36); (try clear q36); (try clear hx36); (try clear lM lN nu ny nz lQ lS nA nC nD); (try clear Ef Eg QQ QR QS Eh Ei QT QU QV); (try clear nE nG uE uF uG nH nI uH uI uJ); (try clear uK uL uM uN uO uP uQ uR uS uT); (try clear G7); (try clear G8); (try clear G9); (try clear Ha); (try clear Ej); (try clear p2); (try clear p362); (try clear p6); (try clear q362); obtain ⟨x7_1, oG, oH, iN, fV, rfl, HA, HK1, dh, eG, gX, eO, HI0, HK, HB⟩ := hrel; cases gk with
     | zero => exact absurd HA.out (by simp [aD.l1])
     | succ k1 =>
      have H := HA.out; clear HA; simp only [aD.l1] at H; by_cases c37 : x7_1 > 0
      ·rw [if_pos c37] at H; have OG : decide (0 < x7_1) = true := decide_eq_true c37; clear c37; by_cases c38 : (eZ.length : Int) > 0
       ·rw [if_pos c38] at H; have KZ : decide (0 < (eZ.length : Int)) = true := decide_eq_true c38; have c38b1 : decide (0 < eZ.length) = true := decide_eq_true (by omega); clear c38; by_cases c39 : 0 < (eZ.length : Int)
        ·rw [if_pos c39] at H; have DX : decide (0 < (eZ.length : Int)) = true := decide_eq_true c39; have Ju : decide (0 < eZ.length) = true := decide_eq_true (by omega); clear c39; replace H := Option.bind_eq_some_iff.mp H; obtain ⟨⟨t376, t377, t380, t381⟩, A400, H⟩ := H; replace H : (if iN.length < 4398046511104 then (aD.l1 k1 (wrap64 (x7_1 - 1)) bT t380 t381 bH jH kR lq eZ 0 (iN ++ [(⟨t376, t377⟩ : S51)])) else (none)) = some (r1, r2, r3, r4) := H; have A40 := aa.mk A400; clear A400; by_cases c41 : iN.length < 4398046511104
         ·rw [if_pos c41] at H; have LMc41 := aa.mk c41; clear c41; obtain ⟨y382, OH⟩ : ∃ y_ : List (S51), y_ = (iN ++ [(⟨t376, t377⟩ : S51)]) := ⟨_, rfl⟩; replace H : (aD.l1 k1 (wrap64 (x7_1 - 1)) bT t380 t381 bH jH kR lq eZ 0 y382) = some (r1, r2, r3, r4) := by first | (rw [OH]; with_reducible exact H) | (have H2_ := (Option.bind_some _ _).symm.trans H; rw [OH]; with_reducible exact H2_) | (have H2_ := (Option.bind_some _ _).symm.trans H; with_reducible exact H2_) | with_reducible exact H | (rw [OH]; exact H) | exact H
          have Ny382 := aa.mk OH; clear OH; have H' := aa.mk H; clear H; have hnb42 := vO.out; have hnc42 := vP.out; have hnb43 := lL.out; have hnc43 := ow.out; have hnb44 := pJ.out; have hnc44 := pI.out; obtain ⟨hcz45_0, hcz45_1, hcz45_2, hcz45_3, hcz45_4, hfz45_0, hfz45_1, hfz45_2, hfz45_3, hfz45_4⟩ := bF eG.out; try go_wp2
          replace dh := aa.mk (Kd.dP dh.out); replace eG := aa.mk (ak eG.out); replace gX := aa.mk (ak gX.out); replace eO := aa.mk (ak eO.out); replace HI0 := aa.mk (aH.drew HI0.out); replace HK := aa.mk (bD HK.out); replace HB := aa.mk (bU HB.out); have p375 : 0 ≤ (0 : Int) := (by omega); have q375 : 0 < (eZ.length : Int) := dt_; obtain ⟨nX, A375_4, c375_4, e375, Hd, He, Hf, Hg, El, UY, QX⟩ := eX (Kd.Ox fQ.out HK.out) 0 p375 q375; have hw375_4 := El; (try simp only [z0_, Nat.zero_mul, Addr.add_zero'] at hw375_4)
          have hw375_3 := Hg; (try simp only [z0_, Nat.zero_mul, Addr.add_zero'] at hw375_3)
          have hw375_2 := Hf; (try simp only [z0_, Nat.zero_mul, Addr.add_zero'] at hw375_2)
          have hw375_1 := He; (try simp only [z0_, Nat.zero_mul, Addr.add_zero'] at hw375_1)
          have hw375_0 := Hd; (try simp only [z0_, Nat.zero_mul, Addr.add_zero'] at hw375_0)
          replace QX := J4 fQ.out HK.out p375 q375 e375 El; cases e375; have NY := (show (⟨nX.block, nX.off + 4, none⟩ : Addr).block ≠ g from by first | (rw [add_block]; exact Kd.fu fQ.out (by omega) (by decide)) | (show (Addr.add _ _).block ≠ _; rw [add_block]; exact Kd.fu fQ.out (by omega) (by decide)) | exact Kd.fu fQ.out (by omega) (by decide) | (dsimp only; exact Kd.fu fQ.out (by omega) (by decide))); have hlt375_4 := (Kd.uB fQ.out (by omega) (by decide)); have NZ := (show (⟨nX.block, nX.off + 3, none⟩ : Addr).block ≠ g from by first | (rw [add_block]; exact Kd.fu fQ.out (by omega) (by decide)) | (show (Addr.add _ _).block ≠ _; rw [add_block]; exact Kd.fu fQ.out (by omega) (by decide)) | exact Kd.fu fQ.out (by omega) (by decide) | (dsimp only; exact Kd.fu fQ.out (by omega) (by decide))); have hlt375_3 := (Kd.uB fQ.out (by omega) (by decide)); have N7 := (show (⟨nX.block, nX.off + 2, none⟩ : Addr).block ≠ g from by first | (rw [add_block]; exact Kd.fu fQ.out (by omega) (by decide)) | (show (Addr.add _ _).block ≠ _; rw [add_block]; exact Kd.fu fQ.out (by omega) (by decide)) | exact Kd.fu fQ.out (by omega) (by decide) | (dsimp only; exact Kd.fu fQ.out (by omega) (by decide))); have hlt375_2 := (Kd.uB fQ.out (by omega) (by decide)); have N8 := (show (⟨nX.block, nX.off + 1, none⟩ : Addr).block ≠ g from by first | (rw [add_block]; exact Kd.fu fQ.out (by omega) (by decide)) | (show (Addr.add _ _).block ≠ _; rw [add_block]; exact Kd.fu fQ.out (by omega) (by decide)) | exact Kd.fu fQ.out (by omega) (by decide) | (dsimp only; exact Kd.fu fQ.out (by omega) (by decide))); have hlt375_1 := (Kd.uB fQ.out (by omega) (by decide)); have N9 := (show (nX : Addr).block ≠ g from by first | (rw [add_block]; exact Kd.fu fQ.out (by omega) (by decide)) | (show (Addr.add _ _).block ≠ _; rw [add_block]; exact Kd.fu fQ.out (by omega) (by decide)) | exact Kd.fu fQ.out (by omega) (by decide) | (dsimp only; exact Kd.fu fQ.out (by omega) (by decide))); have hlt375_0 := (Kd.uB fQ.out (by omega) (by decide)); have qi375 : (0 < eZ.length) = True := eq_true (by omega); (try simp only [z0_, Nat.zero_mul, Addr.add_zero'] at Hd He Hf Hg El)
          have UZ := aa.mk QX; have HC375_4 := aa.mk UY; clear QX UY; replace p375 := eq_true p375; replace q375 := eq_true q375; refine r9 (n := 12) (S := fun w' => w'.cell? ⟨fD, 0, none⟩ = some (.int .i64 0) ∧ w'.cell? ⟨fD, 1, none⟩ = some (fV) ∧ w'.cell? ⟨lv, 0, none⟩ = some (.int .i64 bH) ∧ w'.cell? ⟨lv, 1, none⟩ = some (.int .i64 jH) ∧ w'.cell? ⟨lv, 2, none⟩ = some (.int .i64 kR) ∧ w'.cell? ⟨lv, 3, none⟩ = some (.int .i64 lq) ∧ w'.cell? ⟨lv, 4, none⟩ = some (.slice (some nX) eZ.length yM) ∧ w'.cell? nX = some (.int .i64 ((ag eZ 0).f0)) ∧ w'.cell? ⟨nX.block, nX.off + 1, none⟩ = some (.int .i64 ((ag eZ 0).f1)) ∧ w'.cell? ⟨nX.block, nX.off + 2, none⟩ = some (.int .i64 ((ag eZ 0).f2)) ∧ w'.cell? ⟨nX.block, nX.off + 3, none⟩ = some (.int .i64 ((ag eZ 0).f3)) ∧ w'.cell? ⟨nX.block, nX.off + 4, none⟩ = some (.slice A375_4 ((ag eZ 0).f4).length c375_4)) (ds := [9, 11]) #[false, false, false, false, false, false, false, false, false, false, false, false] (by kernel_rfl) rfl rfl ⟨(aC eO.out 0).trans rfl, (aC eO.out 1).trans rfl, (aC eG.out 0).trans rfl, (aC eG.out 1).trans rfl, (aC eG.out 2).trans rfl, (aC eG.out 3).trans rfl, (aC eG.out 4).trans rfl, Hd, He, Hf, Hg, El⟩ (fun hHeld => ?_); refine lK aD.tab13 aD.bits13 (fun HT_ HW_ => ?_)
          generalize wr.drew = w46 at dh eG gX eO HI0 HK HB UZ Hd He Hf Hg El hHeld ⊢
          refine pu_ HT_ 0 51 (bm 12 1) ?_
          refine pu_ HT_ 2 53 (bm 12 5) ?_
          refine pu_ HT_ 3 54 (bm 12 13) ?_
          refine ta_ HT_ HW_ 1 52 (bm 12 15) hHeld ?_
          refine ta_ HT_ HW_ 4 55 (bm 12 31) hHeld ?_
          refine pu_ HT_ 5 56 (bm 12 63) ?_
          refine ta_ HT_ HW_ 6 57 (bm 12 127) hHeld ?_
          refine oL (i := 7) (N := some 58) #[true, true, true, true, true, true, true, true, false, false, false, false] rfl rfl (iy HT_.out (by kernel_rfl)) (by decide) (fun K hK => ?_)
          refine tQ Tryd.func28 (by kernel_rfl) rfl #[.pointer (some ⟨g, 0, none⟩), .agg #[.int .i64 ((ag eZ 0).f0), .int .i64 ((ag eZ 0).f1), .int .i64 ((ag eZ 0).f2), .int .i64 ((ag eZ 0).f3), .slice A375_4 ((ag eZ 0).f4).length c375_4]] (by rfl) rfl rfl mp_ ?_
          with_reducible refine (ih k1 (by have := HK1.out; omega) g bT oG oH ((ag eZ 0).f0) ((ag eZ 0).f1) ((ag eZ 0).f2) ((ag eZ 0).f3) _ _ ((ag eZ 0).f4) t376 t377 t380 t381 w0 _ ?aQ ?aT ?dK ?dL A40.out).mono ?_
          (case aQ => repeat (first | (with_reducible first | exact HI0.out | apply aH.alloc | apply aH.drewN | apply aH.drew | apply aH.jI | apply aH.jJ | refine aH.far ?_ pI.out _ | refine aH.far ?_ pK.out _ | refine aH.far ?_ mH.out _) | exact HI0.out))
          (case aT => repeat (first | (with_reducible first | exact HB.out | apply cz | apply bN | apply bU | refine bR ?_ (aH.ge HI0.out) | refine bR ?_ KY.out | refine bR ?_ CS.out | refine bR ?_ CU.out) | exact HB.out))
          (case dK => exact Kd.ND UZ.out (by repeat (first | (with_reducible first | exact HK.out | apply aI.dF | apply bu | apply bD | apply bz | refine aX ?_ jK.out _ | refine aX ?_ il.out _ | refine aX ?_ iK.out _) | exact HK.out)))
          (case dL => exact HC375_4.out)
          rintro e w47 ⟨v378, rfl, ho0, hi, hb, hk⟩
          have HS7_ := lH hk (hHeld.2.2.2.2.2.2.2.1) (by first | (rw [add_block]; exact N9) | (show (Addr.add _ _).block ≠ _; rw [add_block]; exact N9) | exact N9); have HS8_ := lH hk (hHeld.2.2.2.2.2.2.2.2.1) (by first | (rw [add_block]; exact N8) | (show (Addr.add _ _).block ≠ _; rw [add_block]; exact N8) | exact N8); have HS9_ := lH hk (hHeld.2.2.2.2.2.2.2.2.2.1) (by first | (rw [add_block]; exact N7) | (show (Addr.add _ _).block ≠ _; rw [add_block]; exact N7) | exact N7); have HS10_ := lH hk (hHeld.2.2.2.2.2.2.2.2.2.2.1) (by first | (rw [add_block]; exact NZ) | (show (Addr.add _ _).block ≠ _; rw [add_block]; exact NZ) | exact NZ); have HS11_ := lH hk (hHeld.2.2.2.2.2.2.2.2.2.2.2) (by first | (rw [add_block]; exact NY) | (show (Addr.add _ _).block ≠ _; rw [add_block]; exact NY) | exact NY); refine ⟨_, rfl, ?_⟩
          have HO379 := aa.mk (Kd.dJ (Kd.oU (Kd.oU (Kd.lG ho0 (Kd.lC (pR_ dh.out))) (g := fZ) (o := .cells #[.int .i64 0, .slice none 0 0] 51 (0, 0)) bk_) (g := fD) (o := .cells #[.int .i64 0, fV] 51 (0, 0)) bk_) (gP (w := w) (g := g) (row := none) (by repeat (first | (with_reducible first | exact HK.out | apply aI.dF | apply bu | apply bD | apply bz | refine aX ?_ jK.out _ | refine aX ?_ il.out _ | refine aX ?_ iK.out _) | exact HK.out)))); replace dh := aa.mk (Kd.bQ (Kd.R_told (Kd.R_oldK (aH.apart (show aH w0 _ g bT oG oH from si_) (pR_ dh.out) (by decide)) hk) (Kd.iI ho0)) (fun _ h_ => h_.1)); replace eG := aa.mk (aI.blk hk (g' := lv) (o := .cells #[.int .i64 bH, .int .i64 jH, .int .i64 kR, .int .i64 lq, .slice (some nX) eZ.length yM] 24 (0, 0)) bk_ pJ.out (by simp)); replace gX := aa.mk (aI.blk hk (g' := fZ) (o := .cells #[.int .i64 0, .slice none 0 0] 51 (0, 0)) bk_ pM.out (by simp)); replace eO := aa.mk (aI.blk hk (g' := fD) (o := .cells #[.int .i64 0, fV] 51 (0, 0)) bk_ mI.out (by simp)); replace HK := aa.mk (aI.trans (by repeat (first | (with_reducible first | exact HK.out | apply aI.dF | apply bu | apply bD | apply bz | refine aX ?_ jK.out _ | refine aX ?_ il.out _ | refine aX ?_ iK.out _) | exact HK.out)) hk (.inl rfl)); replace HB := aa.mk (hb); replace HI0 := aa.mk (hi); (try clear hb)
          (try clear hb2)
          (try clear hk)
          (try clear hi)
          (try clear ho0)
          obtain ⟨Ao49, co49, eo49⟩ := Kd.dG HO379.out; (first | subst eo49 | (injection eo49 with f1_ f2_ f3_; have f4_ := f1_.symm; have f5_ := f3_.symm; clear f1_ f2_ f3_; subst f4_; subst f5_))
          refine hK.out _ _ ⟨(aC eO.out 0).trans rfl, (aC eO.out 1).trans rfl, (aC eG.out 0).trans rfl, (aC eG.out 1).trans rfl, (aC eG.out 2).trans rfl, (aC eG.out 3).trans rfl, (aC eG.out 4).trans rfl, HS7_, HS8_, HS9_, HS10_, HS11_⟩ (fun hHeld => ?_)
          clear hK K; refine kS (a' := ?_) ?_ ?_
          rotate_left
          ·show Act.put _ (some 58) _ = _
           simp only [Act.put, List.setIfInBounds_toArray, List.set_cons_zero, List.set_cons_succ, eT, eY]; rfl
          refine oL (i := 8) (N := some 59) #[true, true, true, true, true, true, true, true, true, false, false, false] rfl rfl (iy HT_.out (by kernel_rfl)) (by decide) (fun K hK => ?_)
          refine FE (w1 := ?_) (v := ?_) (by rfl) rfl ?_ ?_
          rotate_left 2
          ·go_simp; constructor
           ·rfl
           ·rfl
          refine hK.out _ _ ⟨(aC (ah eO.out _) 0).trans rfl, (aC (ah eO.out _) 1).trans rfl, (aC (ah eG.out _) 0).trans rfl, (aC (ah eG.out _) 1).trans rfl, (aC (ah eG.out _) 2).trans rfl, (aC (ah eG.out _) 3).trans rfl, (aC (ah eG.out _) 4).trans rfl, (World.cell?_alloc_lt _ _ _ (World.block_lt_of_cell? _ _ (hHeld.2.2.2.2.2.2.2.1))).trans (hHeld.2.2.2.2.2.2.2.1), (World.cell?_alloc_lt _ _ _ (World.block_lt_of_cell? _ _ (hHeld.2.2.2.2.2.2.2.2.1))).trans (hHeld.2.2.2.2.2.2.2.2.1), (World.cell?_alloc_lt _ _ _ (World.block_lt_of_cell? _ _ (hHeld.2.2.2.2.2.2.2.2.2.1))).trans (hHeld.2.2.2.2.2.2.2.2.2.1), (World.cell?_alloc_lt _ _ _ (World.block_lt_of_cell? _ _ (hHeld.2.2.2.2.2.2.2.2.2.2.1))).trans (hHeld.2.2.2.2.2.2.2.2.2.2.1), (World.cell?_alloc_lt _ _ _ (World.block_lt_of_cell? _ _ (hHeld.2.2.2.2.2.2.2.2.2.2.2))).trans (hHeld.2.2.2.2.2.2.2.2.2.2.2)⟩ (fun hHeld => ?_)
          clear hK K; refine kS (a' := ?_) ?_ ?_
          rotate_left
          ·show Act.put _ (some 59) _ = _
           simp only [Act.put, List.setIfInBounds_toArray, List.set_cons_zero, List.set_cons_succ, eT, eY]; rfl
          refine Gu (i := 9) (N := some 60) #[true, true, true, true, true, true, true, true, true, true, false, false] rfl rfl (iy HT_.out (by kernel_rfl)) (by decide) (fun K hK => ?_)
          refine Kd.yY k51 w.heap.size (by rfl) (.tmp 52) (.tmp 59) 49 51 (.agg #[(.int .i64 0), (.slice none 0 0)]) 32 rfl Tryd.underlying49 G5 rfl (by decide) (by omega) fV iN (⟨t376, t377⟩ : S51) [.int .i64 t376, .slice Ao49 t377.length co49] (fun k_ => k_ ≠ fZ ∧ k_ ≠ fD) (fun k_ => ((fun k_ => k_ ≠ fZ ∧ k_ ≠ fD)) k_ ∧ some k_ ≠ (fV : Value).ownBlock) rfl rfl ?aP (fun _ hk => hk) ?aF ?aO (Below.refl _ _) ?aS ?aL ?_
          (case aP => exact zA _ _ _ (⟨t376, t377⟩ : S51) (Kd.bQ (HO379.out) (fun k_ hk => ⟨⟨hk.1.2, hk.2⟩, hk.1.1.2⟩)))
          (case aF => exact (fun k_ hk => ⟨Kd.fP (g := fZ) (o := .cells #[.int .i64 0, .slice none 0 0] 51 (0, 0)) bk_ k_ hk, Kd.fP (g := fD) (o := .cells #[.int .i64 0, fV] 51 (0, 0)) bk_ k_ hk⟩))
          (case aO => exact (by (with_reducible repeat (first | apply Kd.dN | apply Kd.dO | apply Kd.dP)); exact Kd.bQ dh.out (fun _ hk => ⟨hk.1.1, hk.1.2⟩)))
          (case aS => exact (gP (w := w) (g := g) (row := none) (by repeat (first | (with_reducible first | exact HK.out | apply aI.dF | apply bu | apply bD | apply bz | refine aX ?_ jK.out _ | refine aX ?_ il.out _ | refine aX ?_ iK.out _) | exact HK.out))))
          (case aL => have := LMc41.out; omega)
          intro v383 w48 ho hb hg hat; rw [← Ny382.out] at ho; have HO384 := aa.mk (ho); replace eG := aa.mk (fG (g := lv) (o := .cells #[.int .i64 bH, .int .i64 jH, .int .i64 kR, .int .i64 lq, .slice (some nX) eZ.length yM] 24 (0, 0)) bk_ hg (Kd.rZ dh.out eG.out (by decide))); replace gX := aa.mk (fG (g := fZ) (o := .cells #[.int .i64 0, .slice none 0 0] 51 (0, 0)) bk_ hg (Kd.vH dh.out (fun _ hk => hk.1.1))); replace eO := aa.mk (fG (g := fD) (o := .cells #[.int .i64 0, fV] 51 (0, 0)) bk_ hg (Kd.vH dh.out (fun _ hk => hk.1.2))); replace HI0 := aa.mk (aH.grown si_ hg (aH.own_ne HI0.out dh.out (by decide))); replace HB := aa.mk (vI bl_ HL.out hb); replace HK := aa.mk (aI.trans (by repeat (first | (with_reducible first | exact HK.out | apply aI.dF | apply bu | apply bD | apply bz | refine aX ?_ jK.out _ | refine aX ?_ il.out _ | refine aX ?_ iK.out _) | exact HK.out)) (aI.zg hg g) (Kd.KS dh.out)); clear dh HO379; clear ho hb hg hat; obtain ⟨Ao50, co50, eo50⟩ := Kd.dG HO384.out; (first | subst eo50 | (injection eo50 with f1_ f2_ f3_; have f4_ := f1_.symm; have f5_ := f3_.symm; clear f1_ f2_ f3_; subst f4_; subst f5_))
          refine hK.out _ _ ?_
          clear hK K; refine kS (a' := ?_) ?_ ?_
          rotate_left
          ·show Act.put _ (some 60) _ = _
           simp only [Act.put, List.setIfInBounds_toArray, List.set_cons_zero, List.set_cons_succ, eT, eY]; rfl
          refine pu_ HT_ 10 61 (bm 12 2047) ?_
          refine Gu (i := 11) (N := none) #[true, true, true, true, true, true, true, true, true, true, true, true] rfl rfl (iy HT_.out (by kernel_rfl)) (by decide) (fun K hK => ?_)
          have hs51 : w48.cell? ⟨fD, 1, none⟩ = some (fV) := (aC eO.out 1).trans rfl; have hfs51 := dW eO.out 1; have hns51_0 := lL.out; have hns51_1 := jS.out; have hms51_0 := ow.out; have hms51_1 := rF.out; refine CO (w1 := ?_) (by rfl) rfl ?_ ?_
          rotate_left
          ·go_simp; rfl
          refine hK.out _ _ ?_
          clear hK K; refine wP (pF HT_.out (by kernel_rfl)) ?_
          try go_wp2
          go_roundg k1
          case measure => have := HK1.out; omega
          case rel => exact ⟨(wrap64 (x7_1 - 1)), (t380), (t381), (y382), (.slice Ao50 y382.length co50), rs_, H', ⟨by have := HK1.out; omega⟩, ⟨by (with_reducible repeat (first | apply Kd.dN | apply Kd.dO | apply Kd.dP)); exact Kd.bQ (Kd.dD (p := ⟨fD, 1, none⟩) (Kd.bQ HO384.out (fun k_ hk => (⟨hk, by first | exact hk.2 | exact hk.1 | exact hk.2 | exact hk.1.1 | exact hk.1.2⟩ : _ ∧ k_ ≠ fD))) (fun _ hk => hk.2) (.slice Ao50 y382.length co50)) (fun _ hk => ⟨hk.1.1, hk.1.2⟩)⟩, ⟨by (with_reducible repeat (first | refine aj ?_ _ | refine ak ?_ | refine ah ?_ _)); refine bM ?_ lL.out _; (with_reducible repeat (first | refine aj ?_ _ | refine ak ?_ | refine ah ?_ _)); exact eG.out⟩, ⟨by (with_reducible repeat (first | refine aj ?_ _ | refine ak ?_ | refine ah ?_ _)); refine bM ?_ jS.out _; (with_reducible repeat (first | refine aj ?_ _ | refine ak ?_ | refine ah ?_ _)); exact gX.out⟩, ⟨by (with_reducible repeat (first | refine aj ?_ _ | refine ak ?_ | refine ah ?_ _)); refine bn (cs := #[.int .i64 0, fV]) ?_ 1 _ rfl; (with_reducible repeat (first | refine aj ?_ _ | refine ak ?_ | refine ah ?_ _)); exact eO.out⟩, ⟨si_⟩, ⟨by repeat (first | (with_reducible first | exact HK.out | apply aI.dF | apply bu | apply bD | apply bz | refine aX ?_ jK.out _ | refine aX ?_ il.out _ | refine aX ?_ iK.out _) | exact HK.out)⟩, ⟨bl_⟩⟩
         ·rw [if_neg c41] at H; exact absurd H (by simp)
        ·rw [if_neg c39] at H; exact absurd H (by simp)
       ·rw [if_neg c38] at H; have KZ : decide (0 < (eZ.length : Int)) = false := decide_eq_false c38; have c38b1 : decide (0 < eZ.length) = false := decide_eq_false (by omega); clear c38; have H' := aa.mk H; clear H; have hnb52 := vO.out; have hnc52 := vP.out; have hnb53 := lL.out; have hnc53 := ow.out; have hnb54 := pJ.out; have hnc54 := pI.out; obtain ⟨La, Lb, QY, QZ, Q0, Lc, Ld, Q3, Q4, Q5⟩ := bF eG.out; go_wp2; go_meet
        case rel => exact ⟨_, (oG), (oH), (0), (iN), (fV), H', ⟨by have := HK1.out; first | omega | exact Nat.le_refl _⟩, ⟨pR_ dh.out⟩, ⟨bk_⟩, ⟨bk_⟩, ⟨si_⟩, ⟨by repeat (first | (with_reducible first | exact HK.out | apply aI.dF | apply bu | apply bD | apply bz | refine aX ?_ jK.out _ | refine aX ?_ il.out _ | refine aX ?_ iK.out _) | exact HK.out)⟩, ⟨bl_⟩⟩
      ·rw [if_neg c37] at H; have OG : decide (0 < x7_1) = false := decide_eq_false c37; clear c37; have H' := aa.mk H; clear H; go_wp2; go_meet
       case rel => exact ⟨_, (oG), (oH), (0), (iN), (fV), H', ⟨by have := HK1.out; first | omega | exact Nat.le_refl _⟩, ⟨pR_ dh.out⟩, ⟨bk_⟩, ⟨bk_⟩, ⟨si_⟩, ⟨by repeat (first | (with_reducible first | exact HK.out | apply aI.dF | apply bu | apply bD | apply bz | refine aX ?_ jK.out _ | refine aX ?_ il.out _ | refine aX ?_ iK.out _) | exact HK.out)⟩, ⟨bl_⟩⟩
   ·rw [if_neg c30] at H; have c30b0 : (bH == 6) = false := beq_eq_false_iff_ne.mpr c30; have c30b1 : (bH != 6) = true := bne_iff_ne.mpr c30; by_cases c56 : bH = 1
    ·rw [if_pos c56] at H; have c56b0 : (bH == 1) = true := beq_iff_eq.mpr c56; have c56b1 : (bH != 1) = false := bne_eq_false_iff_eq.mpr c56; clear c56; replace H := Option.bind_eq_some_iff.mp H; obtain ⟨⟨t385, t386, t387⟩, A570, H⟩ := H; replace H : (aD.j2 k bT t386 t387 t385 ([] : List (S51))) = some (r1, r2, r3, r4) := H; have A57 := aa.mk A570; clear A570; have H' := aa.mk H; clear H; go_wp2_with (first | ((with_reducible refine aN (f := 20) rfl ?_); refine bJ (some 65) rfl rfl Tryd.func20 (by kernel_rfl) rfl #[.pointer (some ⟨g, 0, none⟩), .int .i64 2] rfl mp_ ?_; (with_reducible refine (bS.calls g bT dZ fJ 2 t385 t386 t387 w0 _ ?aQ ?aT A57.out).mono ?_); (case aQ => repeat (first | (with_reducible first | exact HI0.out | apply aH.alloc | apply aH.drewN | apply aH.drew | apply aH.jI | apply aH.jJ | refine aH.far ?_ pI.out _ | refine aH.far ?_ pK.out _ | refine aH.far ?_ mH.out _) | exact HI0.out)); (case aT => repeat (first | (with_reducible first | exact HB.out | apply cz | apply bN | apply bU | refine bR ?_ (aH.ge HI0.out) | refine bR ?_ KY.out | refine bR ?_ CS.out | refine bR ?_ CU.out) | exact HB.out)); rintro e w58 ⟨rfl, hi, hb, hk⟩; refine ⟨_, rfl, ?_⟩; replace eG := aa.mk (aI.blk hk (g' := lv) (o := .cells #[.int .i64 bH, .int .i64 jH, .int .i64 kR, .int .i64 lq, .slice A1_4 eZ.length yM] 24 (0, 0)) bk_ pJ.out (by simp)); replace gX := aa.mk (aI.blk hk (g' := fZ) (o := .cells #[.int .i64 0, .slice none 0 0] 51 (0, 0)) bk_ pM.out (by simp)); replace eO := aa.mk (aI.blk hk (g' := fD) (o := .cells #[.int .i64 0, .slice none 0 0] 51 (0, 0)) bk_ mI.out (by simp)); replace HK := aa.mk (aI.trans (by repeat (first | (with_reducible first | exact HK.out | apply aI.dF | apply bu | apply bD | apply bz | refine aX ?_ jK.out _ | refine aX ?_ il.out _ | refine aX ?_ iK.out _) | exact HK.out)) hk (.inl rfl)); replace HB := aa.mk (hb); replace HI0 := aa.mk (hi); (try clear hb); (try clear hb2); (try clear hk); (try clear hi); have hnb59 := ow.out; have hnc59 := lL.out; have hnb60 := rF.out; have hnc60 := jS.out; have hnb61 := mI.out; have hnc61 := mH.out; obtain ⟨BC, BD, BF, BG⟩ := eQ eO.out))
     go_meet
     case rel => exact ⟨_, (t386), (t387), (t385), (([] : List (S51))), (.slice none 0 0), H', ⟨by first | omega | exact Nat.le_refl _⟩, ⟨by first | exact Kd.gZ _ _ _ _ _ | exact Kd.jD _ _ _ _ _ | exact Kd.iR _ _ _ _ _ | exact Kd.jB _ _ _ _ _ | exact Kd.jC _ _ _ _ _⟩, ⟨by (with_reducible repeat (first | refine aj ?_ _ | refine ak ?_ | refine ah ?_ _)); refine bM ?_ jS.out _; (with_reducible repeat (first | refine aj ?_ _ | refine ak ?_ | refine ah ?_ _)); exact gX.out⟩, ⟨by (with_reducible repeat (first | refine aj ?_ _ | refine ak ?_ | refine ah ?_ _)); refine bn (cs := #[.int .i64 0, .slice none 0 0]) ?_ 0 _ rfl; (with_reducible repeat (first | refine aj ?_ _ | refine ak ?_ | refine ah ?_ _)); exact eO.out⟩, ⟨si_⟩, ⟨by repeat (first | (with_reducible first | exact HK.out | apply aI.dF | apply bu | apply bD | apply bz | refine aX ?_ jK.out _ | refine aX ?_ il.out _ | refine aX ?_ iK.out _) | exact HK.out)⟩, ⟨bl_⟩⟩
    ·rw [if_neg c56] at H; have c56b0 : (bH == 1) = false := beq_eq_false_iff_ne.mpr c56; have c56b1 : (bH != 1) = true := bne_iff_ne.mpr c56; by_cases c63 : bH = 2
     ·rw [if_pos c63] at H; have OI : (bH == 2) = true := beq_iff_eq.mpr c63; have OJ : (bH != 2) = false := bne_eq_false_iff_eq.mpr c63; clear c63; obtain ⟨ji64, hji64⟩ : ∃ j_ : Int, (mn kR (wrap64 (jH + 5))) = j_ := ⟨_, rfl⟩; replace H : ((dA.f bT dZ fJ jH (ji64)).bind fun AB => (aD.j2 k bT AB.2.1 AB.2.2 AB.1 ([] : List (S51)))) = some (r1, r2, r3, r4) := by first | (rw [hji64] at H; exact H) | (simp only [hji64] at H ⊢; exact H)
      have hji64_ : (if (wrap64 (jH + 5)) < kR then (wrap64 (jH + 5)) else kR) = ji64 := hji64; replace H := Option.bind_eq_some_iff.mp H; obtain ⟨⟨t388, t389, t390⟩, A650, H⟩ := H; replace H : (aD.j2 k bT t389 t390 t388 ([] : List (S51))) = some (r1, r2, r3, r4) := H; have A65 := aa.mk A650; clear A650; have H' := aa.mk H; clear H; have hnb66 := vO.out; have hnc66 := vP.out; have hnb67 := lL.out; have hnc67 := ow.out; have hnb68 := pJ.out; have hnc68 := pI.out; obtain ⟨Q6, Q7, U0, U1, U2, Q8, Q9, U3, U4, U5⟩ := bF eG.out; go_wp2_with (first | ((with_reducible refine aN (f := 17) rfl ?_); refine bJ (some 78) rfl rfl Tryd.func17 (by kernel_rfl) rfl #[.pointer (some ⟨g, 0, none⟩), .int .i64 jH, .int .i64 ji64] rfl (by (try simp only [List.map_toArray, List.map_cons, List.map_nil]); first | done | (simp only [hji64]; rfl) | rfl | (simp only [List.length_drop, List.length_take]; rfl)) ?_; (with_reducible refine (dA.calls g bT dZ fJ jH ji64 t388 t389 t390 w0 _ ?aQ ?aT A65.out).mono ?_); (case aQ => repeat (first | (with_reducible first | exact HI0.out | apply aH.alloc | apply aH.drewN | apply aH.drew | apply aH.jI | apply aH.jJ | refine aH.far ?_ pI.out _ | refine aH.far ?_ pK.out _ | refine aH.far ?_ mH.out _) | exact HI0.out)); (case aT => repeat (first | (with_reducible first | exact HB.out | apply cz | apply bN | apply bU | refine bR ?_ (aH.ge HI0.out) | refine bR ?_ KY.out | refine bR ?_ CS.out | refine bR ?_ CU.out) | exact HB.out)); rintro e w70 ⟨rfl, hi, hb, hk⟩; refine ⟨_, rfl, ?_⟩; replace eG := aa.mk (aI.blk hk (g' := lv) (o := .cells #[.int .i64 bH, .int .i64 jH, .int .i64 kR, .int .i64 lq, .slice A1_4 eZ.length yM] 24 (0, 0)) bk_ pJ.out (by simp)); replace gX := aa.mk (aI.blk hk (g' := fZ) (o := .cells #[.int .i64 0, .slice none 0 0] 51 (0, 0)) bk_ pM.out (by simp)); replace eO := aa.mk (aI.blk hk (g' := fD) (o := .cells #[.int .i64 0, .slice none 0 0] 51 (0, 0)) bk_ mI.out (by simp)); replace HK := aa.mk (aI.trans (by repeat (first | (with_reducible first | exact HK.out | apply aI.dF | apply bu | apply bD | apply bz | refine aX ?_ jK.out _ | refine aX ?_ il.out _ | refine aX ?_ iK.out _) | exact HK.out)) hk (.inl rfl)); replace HB := aa.mk (hb); replace HI0 := aa.mk (hi); (try clear hb); (try clear hb2); (try clear hk); (try clear hi); have hnb71 := rF.out; have hnc71 := jS.out; have hnb72 := mI.out; have hnc72 := mH.out; obtain ⟨U6, U7, U8, U9⟩ := eQ eO.out))
      go_meet
      case rel => exact ⟨_, (t389), (t390), (t388), (([] : List (S51))), (.slice none 0 0), H', ⟨by first | omega | exact Nat.le_refl _⟩, ⟨by first | exact Kd.gZ _ _ _ _ _ | exact Kd.jD _ _ _ _ _ | exact Kd.iR _ _ _ _ _ | exact Kd.jB _ _ _ _ _ | exact Kd.jC _ _ _ _ _⟩, ⟨by (with_reducible repeat (first | refine aj ?_ _ | refine ak ?_ | refine ah ?_ _)); refine bM ?_ jS.out _; (with_reducible repeat (first | refine aj ?_ _ | refine ak ?_ | refine ah ?_ _)); exact gX.out⟩, ⟨by (with_reducible repeat (first | refine aj ?_ _ | refine ak ?_ | refine ah ?_ _)); refine bn (cs := #[.int .i64 0, .slice none 0 0]) ?_ 0 _ rfl; (with_reducible repeat (first | refine aj ?_ _ | refine ak ?_ | refine ah ?_ _)); exact eO.out⟩, ⟨si_⟩, ⟨by repeat (first | (with_reducible first | exact HK.out | apply aI.dF | apply bu | apply bD | apply bz | refine aX ?_ jK.out _ | refine aX ?_ il.out _ | refine aX ?_ iK.out _) | exact HK.out)⟩, ⟨bl_⟩⟩
     ·rw [if_neg c63] at H; have OI : (bH == 2) = false := beq_eq_false_iff_ne.mpr c63; have OJ : (bH != 2) = true := bne_iff_ne.mpr c63; replace H := Option.bind_eq_some_iff.mp H; obtain ⟨⟨t391, t392, t393⟩, A740, H⟩ := H; replace H : (aD.j2 k bT t392 t393 t391 ([] : List (S51))) = some (r1, r2, r3, r4) := H; have A74 := aa.mk A740; clear A740; have H' := aa.mk H; clear H; go_wp2_with (first | ((with_reducible refine aN (f := 20) rfl ?_); refine bJ (some 11) rfl rfl Tryd.func20 (by kernel_rfl) rfl #[.pointer (some ⟨g, 0, none⟩), .int .i64 4] rfl mp_ ?_; (with_reducible refine (bS.calls g bT dZ fJ 4 t391 t392 t393 w0 _ ?aQ ?aT A74.out).mono ?_); (case aQ => repeat (first | (with_reducible first | exact HI0.out | apply aH.alloc | apply aH.drewN | apply aH.drew | apply aH.jI | apply aH.jJ | refine aH.far ?_ pI.out _ | refine aH.far ?_ pK.out _ | refine aH.far ?_ mH.out _) | exact HI0.out)); (case aT => repeat (first | (with_reducible first | exact HB.out | apply cz | apply bN | apply bU | refine bR ?_ (aH.ge HI0.out) | refine bR ?_ KY.out | refine bR ?_ CS.out | refine bR ?_ CU.out) | exact HB.out)); rintro e w75 ⟨rfl, hi, hb, hk⟩; refine ⟨_, rfl, ?_⟩; replace eG := aa.mk (aI.blk hk (g' := lv) (o := .cells #[.int .i64 bH, .int .i64 jH, .int .i64 kR, .int .i64 lq, .slice A1_4 eZ.length yM] 24 (0, 0)) bk_ pJ.out (by simp)); replace gX := aa.mk (aI.blk hk (g' := fZ) (o := .cells #[.int .i64 0, .slice none 0 0] 51 (0, 0)) bk_ pM.out (by simp)); replace eO := aa.mk (aI.blk hk (g' := fD) (o := .cells #[.int .i64 0, .slice none 0 0] 51 (0, 0)) bk_ mI.out (by simp)); replace HK := aa.mk (aI.trans (by repeat (first | (with_reducible first | exact HK.out | apply aI.dF | apply bu | apply bD | apply bz | refine aX ?_ jK.out _ | refine aX ?_ il.out _ | refine aX ?_ iK.out _) | exact HK.out)) hk (.inl rfl)); replace HB := aa.mk (hb); replace HI0 := aa.mk (hi); (try clear hb); (try clear hb2); (try clear hk); (try clear hi); have hnb76 := ow.out; have hnc76 := lL.out; have hnb77 := rF.out; have hnc77 := jS.out; have hnb78 := mI.out; have hnc78 := mH.out; obtain ⟨hcz79_0, hcz79_1, hfz79_0, hfz79_1⟩ := eQ eO.out))
      go_meet
      case rel => exact ⟨_, (t392), (t393), (t391), (([] : List (S51))), (.slice none 0 0), H', ⟨by first | omega | exact Nat.le_refl _⟩, ⟨by first | exact Kd.gZ _ _ _ _ _ | exact Kd.jD _ _ _ _ _ | exact Kd.iR _ _ _ _ _ | exact Kd.jB _ _ _ _ _ | exact Kd.jC _ _ _ _ _⟩, ⟨by (with_reducible repeat (first | refine aj ?_ _ | refine ak ?_ | refine ah ?_ _)); refine bM ?_ jS.out _; (with_reducible repeat (first | refine aj ?_ _ | refine ak ?_ | refine ah ?_ _)); exact gX.out⟩, ⟨by (with_reducible repeat (first | refine aj ?_ _ | refine ak ?_ | refine ah ?_ _)); refine bn (cs := #[.int .i64 0, .slice none 0 0]) ?_ 0 _ rfl; (with_reducible repeat (first | refine aj ?_ _ | refine ak ?_ | refine ah ?_ _)); exact eO.out⟩, ⟨si_⟩, ⟨by repeat (first | (with_reducible first | exact HK.out | apply aI.dF | apply bu | apply bD | apply bz | refine aX ?_ jK.out _ | refine aX ?_ il.out _ | refine aX ?_ iK.out _) | exact HK.out)⟩, ⟨bl_⟩⟩
 case rest =>
  clear HC3; (try clear c1); (try clear c2); (try clear p2); (try clear c3); (try clear p3); (try clear q3); (try clear hx3); (try clear qi3); (try clear c4); (try clear c5); (try clear c6); (try clear p6); (try clear c7); (try clear c8); (try clear c9); (try clear c11); (try clear yZ); (try clear c11b1); (try clear c12); (try clear oV); (try clear c13); (try clear oW); (try clear c15); (try clear c16); (try clear c17); (try clear c18); (try clear c20); (try clear c26); (try clear c27); (try clear c28); (try clear c30); (try clear c30b0); (try clear c30b1); (try clear c32); (try clear c33); (try clear c34); (try clear c36); (try clear p36); (try clear q36); (try clear hx36); (try clear c37); (try clear OG); (try clear p37); (try clear q37); (try clear hx37); (try clear qi37); (try clear c38); (try clear KZ); (try clear c38b1); (try clear c39); (try clear DX); (try clear Ju); (try clear c41); (try clear c42); (try clear c43); (try clear c44); (try clear c52); (try clear c53); (try clear c54); (try clear c56); (try clear c56b0); (try clear c56b1); (try clear c59); (try clear c60); (try clear c61); (try clear c63); (try clear OI); (try clear OJ); (try clear p64); (try clear c66); (try clear c67); (try clear c68); (try clear c71); (try clear c72); (try clear c76); (try clear c77); (try clear c78); (try clear lM lN nu ny nz lQ lS nA nC nD); (try clear Ef Eg QQ QR QS Eh Ei QT QU QV); (try clear nE nG uE uF uG nH nI uH uI uJ); (try clear uK uL uM uN uO uP uQ uR uS uT); (try clear hcz45_0 hcz45_1 hcz45_2 hcz45_3 hcz45_4 hfz45_0 hfz45_1 hfz45_2 hfz45_3 hfz45_4); (try clear La Lb QY QZ Q0 Lc Ld Q3 Q4 Q5); (try clear BC BD BF BG); (try clear Q6 Q7 U0 U1 U2 Q8 Q9 U3 U4 U5); (try clear U6 U7 U8 U9); (try clear hcz79_0 hcz79_1 hfz79_0 hfz79_1); (try clear G7); (try clear G8); (try clear G9); (try clear Ha); (try clear Ej); (try clear Hd); (try clear He); (try clear Hf); (try clear Hg); (try clear El); (try clear p2); (try clear p3); (try clear p36); (try clear p362); (try clear p375); (try clear p6); (try clear q3); (try clear q36); (try clear q362); (try clear q375); obtain ⟨kq, wR, wS, fM, iC, fV, HA, HJ2, dh, gX, eO, HI0, HK, HB⟩ := hcut; cases kq with
  | zero => exact absurd HA.out (by simp [aD.j2])
  | succ kj2 =>
   have H := HA.out; clear HA; simp only [aD.j2] at H; replace H := Option.bind_eq_some_iff.mp H; obtain ⟨⟨zi, DI, DJ⟩, A800, H⟩ := H; replace H : (if zi = 0 then ((ib.f bT DI DJ (([(-1), 1, 1000] : List Int))).bind fun AA => (some (wrap64 (fM + AA.1), iC, AA.2.1, AA.2.2))) else (if zi = 1 then (if ([] : List (S51)).length + iC.length < 4398046511104 then ((some (([] : List (S51)) ++ iC : List (S51))).bind fun FL => (if FL.length < 4398046511104 then (some (fM, (FL ++ [(⟨0, ([] : List (S51))⟩ : S51)]), DI, DJ)) else (none))) else (none)) else (some (fM, iC, DI, DJ)))) = some (r1, r2, r3, r4) := H; have A80 := aa.mk A800; clear A800; by_cases c81 : zi = 0
   ·rw [if_pos c81] at H; have c81b0 : (zi == 0) = true := beq_iff_eq.mpr c81; have c81b1 : (zi != 0) = false := bne_eq_false_iff_eq.mpr c81; clear c81; obtain ⟨y397, OL⟩ : ∃ y_ : List Int, y_ = (([(-1), 1, 1000] : List Int)) := ⟨_, rfl⟩; replace H : ((ib.f bT DI DJ y397).bind fun AA => (some (wrap64 (fM + AA.1), iC, AA.2.1, AA.2.2))) = some (r1, r2, r3, r4) := by first | (rw [OL]; with_reducible exact H) | (have H2_ := (Option.bind_some _ _).symm.trans H; rw [OL]; with_reducible exact H2_) | (have H2_ := (Option.bind_some _ _).symm.trans H; with_reducible exact H2_) | with_reducible exact H | (rw [OL]; exact H) | exact H
    have Ny397 := aa.mk OL; clear OL; replace H := Option.bind_eq_some_iff.mp H; obtain ⟨⟨t400, t401, t402⟩, A820, H⟩ := H; replace H : (some (wrap64 (fM + t400), iC, t401, t402)) = some (r1, r2, r3, r4) := H; have A82 := aa.mk A820; clear A820; simp only [Option.some.injEq, Prod.mk.injEq] at H; obtain ⟨rfl, rfl, rfl, rfl⟩ := H; try go_wp2_with (first | ((with_reducible refine aN (f := 20) rfl ?_); refine bJ (some 81) rfl rfl Tryd.func20 (by kernel_rfl) rfl #[.pointer (some ⟨g, 0, none⟩), .int .i64 24] rfl mp_ ?_; (with_reducible refine (bS.calls g bT wR wS 24 zi DI DJ w0 _ ?aQ ?aT A80.out).mono ?_); (case aQ => repeat (first | (with_reducible first | exact HI0.out | apply aH.alloc | apply aH.drewN | apply aH.drew | apply aH.jI | apply aH.jJ | refine aH.far ?_ pK.out _ | refine aH.far ?_ mH.out _) | exact HI0.out)); (case aT => repeat (first | (with_reducible first | exact HB.out | apply cz | apply bN | apply bU | refine bR ?_ (aH.ge HI0.out) | refine bR ?_ CS.out | refine bR ?_ CU.out) | exact HB.out)); rintro e w83 ⟨rfl, hi, hb, hk⟩; refine ⟨_, rfl, ?_⟩; replace dh := aa.mk (Kd.bQ (Kd.GQ (aH.apart (show aH w0 _ g bT wR wS from si_) (pR_ dh.out) (by decide)) hk (fun _ h => h.2)) (fun _ h => h.1)); replace gX := aa.mk (aI.blk hk (g' := fZ) (o := .cells #[.int .i64 0, .slice none 0 0] 51 (0, 0)) bk_ pM.out (by simp)); replace eO := aa.mk (aI.blk hk (g' := fD) (o := .cells #[.int .i64 fM, fV] 51 (0, 0)) bk_ mI.out (by simp)); replace HK := aa.mk (aI.trans (by repeat (first | (with_reducible first | exact HK.out | apply aI.dF | apply bu | apply bD | apply bz | refine aX ?_ il.out _ | refine aX ?_ iK.out _) | exact HK.out)) hk (.inl rfl)); replace HB := aa.mk (hb); replace HI0 := aa.mk (hi); (try clear hb); (try clear hb2); (try clear hk); (try clear hi)))
    replace dh := aa.mk (Kd.dP dh.out); replace gX := aa.mk (ak gX.out); replace eO := aa.mk (ak eO.out); replace HI0 := aa.mk (aH.drew HI0.out); replace HK := aa.mk (bD HK.out); replace HB := aa.mk (bU HB.out); refine r9 (n := 8) (S := fun w' => w'.cell? ⟨fD, 0, none⟩ = some (.int .i64 fM) ∧ w'.cell? ⟨fD, 1, none⟩ = some (fV)) (ds := [7]) #[false, false, false, false, false, false, false, false] (by kernel_rfl) rfl rfl ⟨(aC eO.out 0).trans rfl, (aC eO.out 1).trans rfl⟩ (fun hHeld => ?_); refine lK aD.tab20 aD.bits20 (fun HT_ HW_ => ?_)
    generalize w83.drew = w84 at dh gX eO HI0 HK HB hHeld ⊢
    refine pu_ HT_ 0 84 (bm 8 1) ?_
    refine pu_ HT_ 2 86 (bm 8 5) ?_
    refine ta_ HT_ HW_ 1 85 (bm 8 7) hHeld ?_
    refine oL (i := 3) (N := some 87) #[true, true, true, true, false, false, false, false] rfl rfl (iy HT_.out (by kernel_rfl)) (by decide) (fun K hK => ?_)
    refine Kd.Xz (Kd.int .i64) _ 3 ?hg (N := 87) ?hd (xs := ([(-1), 1, 1000] : List Int)) (inner := [.int .i64 (-1), .int .i64 1, .int .i64 1000]) (ok := fun _ => True) (okp := fun _ => True) ?hr ?hp (fun _ hk => hk) trivial (Below.refl _ _) (Nat.le_refl _) (by simp) ?_; (case hd => rfl); (case hg => rfl); (case hr => first | (go_simp; done) | (go_simp; rfl)); (case hp => exact (dm.one (show Kd.M (Kd.int .i64) _ _ _ (-1) [.int .i64 (-1)] from rfl) (dm.one (show Kd.M (Kd.int .i64) _ _ _ 1 [.int .i64 1] from rfl) (dm.one (show Kd.M (Kd.int .i64) _ _ _ 1000 [.int .i64 1000] from rfl) (dm.none _ _)))))
    intro v398 w85 ho86 hb hg_ iL; clear hg_ iL; (first | rw [← Ny397.out] at ho86 | (simp only [Int.reduceToNat] at ho86; rw [← Ny397.out] at ho86))
    have Le := aa.mk (Kd.dJ ho86 (gP (w := w) (g := g) (row := none) (by repeat (first | (with_reducible first | exact HK.out | apply aI.dF | apply bu | apply bD | apply bz | refine aX ?_ il.out _ | refine aX ?_ iK.out _) | exact HK.out)))); replace dh := aa.mk (Kd.cB (pR_ dh.out) hb); replace gX := kb_ gX hb; replace eO := kb_ eO hb; replace HI0 := aa.mk (aH.below si_ hb); replace HK := aa.mk (aI.trans (by repeat (first | (with_reducible first | exact HK.out | apply aI.dF | apply bu | apply bD | apply bz | refine aX ?_ il.out _ | refine aX ?_ iK.out _) | exact HK.out)) (aI.of_below hb g none) (.inl rfl)); replace HB := aa.mk (au bl_ hb); clear hb ho86; obtain ⟨Ao87, co87, eo87⟩ := Kd.dG Le.out; (first | subst eo87 | (injection eo87 with f1_ f2_ f3_; have f4_ := f1_.symm; have f5_ := f3_.symm; clear f1_ f2_ f3_; subst f4_; subst f5_))
    refine hK.out _ _ ⟨(aC eO.out 0).trans rfl, (aC eO.out 1).trans rfl⟩ (fun hHeld => ?_)
    clear hK K; refine kS (a' := ?_) ?_ ?_
    rotate_left
    ·show Act.put _ (some 87) _ = _
     simp only [Act.put, List.setIfInBounds_toArray, List.set_cons_zero, List.set_cons_succ, eT, eY]; rfl
    refine oL (i := 4) (N := some 88) #[true, true, true, true, true, false, false, false] rfl rfl (iy HT_.out (by kernel_rfl)) (by decide) (fun K hK => ?_)
    refine tQ Tryd.func54 (by kernel_rfl) rfl #[.pointer (some ⟨g, 0, none⟩), .slice Ao87 y397.length co87] (by rfl) rfl rfl mp_ ?_
    with_reducible refine (ib.calls g bT DI DJ _ _ y397 t400 t401 t402 w0 _ ?aQ ?aT ?dK ?dL ?side5 A82.out).mono ?_
    (case aQ => repeat (first | (with_reducible first | exact HI0.out | apply aH.alloc | apply aH.drewN | apply aH.drew | apply aH.jI | apply aH.jJ | refine aH.far ?_ pK.out _ | refine aH.far ?_ mH.out _) | exact HI0.out))
    (case aT => repeat (first | (with_reducible first | exact HB.out | apply cz | apply bN | apply bU | refine bR ?_ (aH.ge HI0.out) | refine bR ?_ CS.out | refine bR ?_ CU.out) | exact HB.out))
    (case dK => exact cb_ ((Kd.cK Le.out).2.2))
    (case dL => exact (Kd.cK Le.out).2.1)
    (case side5 => exact XR (aH.own_ne HI0.out Le.out (by decide)))
    rintro e w88 ⟨rfl, hi, hb, hk⟩
    refine ⟨_, rfl, ?_⟩
    replace dh := aa.mk (Kd.bQ (Kd.GQ (aH.apart (show aH w0 _ g bT DI DJ from si_) (pR_ dh.out) (by decide)) hk (fun _ h => h.2)) (fun _ h => h.1)); replace gX := aa.mk (aI.blk hk (g' := fZ) (o := .cells #[.int .i64 0, .slice none 0 0] 51 (0, 0)) bk_ pM.out (by simp)); replace eO := aa.mk (aI.blk hk (g' := fD) (o := .cells #[.int .i64 fM, fV] 51 (0, 0)) bk_ mI.out (by simp)); replace Le := aa.mk (Kd.bQ (Kd.GQ (aH.apart (show aH w0 _ g bT DI DJ from si_) (pR_ Le.out) (by decide)) hk (fun _ h => h.2)) (fun _ h => h.1)); replace HK := aa.mk (aI.trans (by repeat (first | (with_reducible first | exact HK.out | apply aI.dF | apply bu | apply bD | apply bz | refine aX ?_ il.out _ | refine aX ?_ iK.out _) | exact HK.out)) hk (.inl rfl)); replace HB := aa.mk (hb); replace HI0 := aa.mk (hi); (try clear hb)
    (try clear hb2)
    (try clear hk)
    (try clear hi)
    refine hK.out _ _ ⟨(aC eO.out 0).trans rfl, (aC eO.out 1).trans rfl⟩ (fun hHeld => ?_)
    clear hK K; refine kS (a' := ?_) ?_ ?_
    rotate_left
    ·show Act.put _ (some 88) _ = _
     simp only [Act.put, List.setIfInBounds_toArray, List.set_cons_zero, List.set_cons_succ, eT, eY]; rfl
    refine pu_ HT_ 5 89 (bm 8 63) ?_
    refine pu_ HT_ 6 90 (bm 8 127) ?_
    refine Gu (i := 7) (N := none) #[true, true, true, true, true, true, true, true] rfl rfl (iy HT_.out (by kernel_rfl)) (by decide) (fun K hK => ?_)
    have hs89 : w88.cell? ⟨fD, 0, none⟩ = some (.int .i64 fM) := (aC eO.out 0).trans rfl; have hfs89 := dW eO.out 0; have hns89_0 := jS.out; have hms89_0 := rF.out; refine CO (w1 := ?_) (by rfl) rfl ?_ ?_
    rotate_left
    ·go_simp; rfl
    refine hK.out _ _ ?_
    clear hK K; refine wP (pF HT_.out (by kernel_rfl)) ?_
    have hnb90 := rF.out; have hnc90 := jS.out; have hnb91 := mI.out; have hnc91 := mH.out; obtain ⟨hcz92_0, hcz92_1, hfz92_0, hfz92_1⟩ := eQ eO.out; have hnb93 := pM.out; have hnc93 := pK.out; obtain ⟨hcz94_0, hcz94_1, hfz94_0, hfz94_1⟩ := eQ gX.out; obtain ⟨Ao95, co95, eo95⟩ := Kd.dG dh.out; subst eo95; try go_wp2
    refine bodyPost_ret (results_cell_row rfl _ _ fZ 51 #[.int .i64 (wrap64 (fM + t400)), .slice Ao95 iC.length co95] (0, 0) _ rfl (by (with_reducible repeat (first | refine aj ?_ _ | refine ak ?_ | refine ah ?_ _)); refine bn (cs := #[.int .i64 (wrap64 (fM + t400)), .slice none 0 0]) ?_ 1 _ rfl; (with_reducible repeat (first | refine aj ?_ _ | refine ak ?_ | refine ah ?_ _)); refine bn (cs := #[.int .i64 0, .slice none 0 0]) ?_ 0 _ rfl; (with_reducible repeat (first | refine aj ?_ _ | refine ak ?_ | refine ah ?_ _)); refine bM ?_ jS.out _; (with_reducible repeat (first | refine aj ?_ _ | refine ak ?_ | refine ah ?_ _)); exact gX.out) Tryd.underlying51 rfl (by kernel_rfl)) rfl ?_
    exact ⟨_, re_, by (with_reducible repeat (first | apply Kd.dN | apply Kd.dO | apply Kd.dP)); exact Kd.bQ (Kd.dD (p := ⟨fZ, 1, none⟩) (Kd.dD (p := ⟨fZ, 0, none⟩) (Kd.dD (p := ⟨fD, 0, none⟩) (Kd.bQ (Kd.bQ dh.out (fun k_ hk => (⟨hk, by first | exact hk.2 | exact hk.1 | exact hk.2 | exact hk.1.1 | exact hk.1.2⟩ : _ ∧ k_ ≠ fD))) (fun k_ hk => (⟨hk, by first | exact hk.1.1 | exact hk.1 | exact hk.2 | exact hk.1.1 | exact hk.1.2⟩ : _ ∧ k_ ≠ fZ))) (fun _ hk => hk.1.2) (.int .i64 (wrap64 (fM + t400)))) (fun _ hk => hk.2) (.int .i64 (wrap64 (fM + t400)))) (fun _ hk => hk.2) (.slice Ao95 iC.length co95)) (fun _ hk => trivial), si_, bl_, by repeat (first | (with_reducible first | exact HK.out | apply aI.dF | apply bu | apply bD | apply bz | refine aX ?_ il.out _ | refine aX ?_ iK.out _) | exact HK.out)⟩
   ·rw [if_neg c81] at H; have c81b0 : (zi == 0) = false := beq_eq_false_iff_ne.mpr c81; have c81b1 : (zi != 0) = true := bne_iff_ne.mpr c81; by_cases c96 : zi = 1
    ·rw [if_pos c96] at H; have c96b0 : (zi == 1) = true := beq_iff_eq.mpr c96; have c96b1 : (zi != 1) = false := bne_eq_false_iff_eq.mpr c96; clear c96; by_cases c97 : ([] : List (S51)).length + iC.length < 4398046511104
     ·rw [if_pos c97] at H; have LMc97 := aa.mk c97; clear c97; obtain ⟨FL, OM⟩ : ∃ y_ : List (S51), y_ = (([] : List (S51)) ++ iC) := ⟨_, rfl⟩; replace H : (if FL.length < 4398046511104 then (some (fM, (FL ++ [(⟨0, ([] : List (S51))⟩ : S51)]), DI, DJ)) else (none)) = some (r1, r2, r3, r4) := by first | (rw [OM]; with_reducible exact H) | (have H2_ := (Option.bind_some _ _).symm.trans H; rw [OM]; with_reducible exact H2_) | (have H2_ := (Option.bind_some _ _).symm.trans H; with_reducible exact H2_) | with_reducible exact H | (rw [OM]; exact H) | exact H
      have Ny403 := aa.mk OM; clear OM; by_cases c98 : FL.length < 4398046511104
      ·rw [if_pos c98] at H; have LMc98 := aa.mk c98; clear c98; obtain ⟨y406, OO⟩ : ∃ y_ : List (S51), y_ = (FL ++ [(⟨0, ([] : List (S51))⟩ : S51)]) := ⟨_, rfl⟩; replace H : (some (fM, y406, DI, DJ)) = some (r1, r2, r3, r4) := by first | (rw [OO]; with_reducible exact H) | (have H2_ := (Option.bind_some _ _).symm.trans H; rw [OO]; with_reducible exact H2_) | (have H2_ := (Option.bind_some _ _).symm.trans H; with_reducible exact H2_) | with_reducible exact H | (rw [OO]; exact H) | exact H
       have Ny406 := aa.mk OO; clear OO; simp only [Option.some.injEq, Prod.mk.injEq] at H; obtain ⟨rfl, rfl, rfl, rfl⟩ := H; go_wp2_with (first | ((with_reducible refine aN (f := 20) rfl ?_); refine bJ (some 81) rfl rfl Tryd.func20 (by kernel_rfl) rfl #[.pointer (some ⟨g, 0, none⟩), .int .i64 24] rfl mp_ ?_; (with_reducible refine (bS.calls g bT wR wS 24 zi DI DJ w0 _ ?aQ ?aT A80.out).mono ?_); (case aQ => repeat (first | (with_reducible first | exact HI0.out | apply aH.alloc | apply aH.drewN | apply aH.drew | apply aH.jI | apply aH.jJ | refine aH.far ?_ pK.out _ | refine aH.far ?_ mH.out _) | exact HI0.out)); (case aT => repeat (first | (with_reducible first | exact HB.out | apply cz | apply bN | apply bU | refine bR ?_ (aH.ge HI0.out) | refine bR ?_ CS.out | refine bR ?_ CU.out) | exact HB.out)); rintro e w99 ⟨rfl, hi, hb, hk⟩; refine ⟨_, rfl, ?_⟩; replace dh := aa.mk (Kd.bQ (Kd.GQ (aH.apart (show aH w0 _ g bT wR wS from si_) (pR_ dh.out) (by decide)) hk (fun _ h => h.2)) (fun _ h => h.1)); replace gX := aa.mk (aI.blk hk (g' := fZ) (o := .cells #[.int .i64 0, .slice none 0 0] 51 (0, 0)) bk_ pM.out (by simp)); replace eO := aa.mk (aI.blk hk (g' := fD) (o := .cells #[.int .i64 fM, fV] 51 (0, 0)) bk_ mI.out (by simp)); replace HK := aa.mk (aI.trans (by repeat (first | (with_reducible first | exact HK.out | apply aI.dF | apply bu | apply bD | apply bz | refine aX ?_ il.out _ | refine aX ?_ iK.out _) | exact HK.out)) hk (.inl rfl)); replace HB := aa.mk (hb); replace HI0 := aa.mk (hi); (try clear hb); (try clear hb2); (try clear hk); (try clear hi); have hnb100 := rF.out; have hnc100 := jS.out; have hnb101 := mI.out; have hnc101 := mH.out; obtain ⟨hcz102_0, hcz102_1, hfz102_0, hfz102_1⟩ := eQ eO.out; obtain ⟨OP, OQ, eo104⟩ := Kd.dG dh.out; subst eo104) | ((with_reducible refine vL (b := .append) (xs := #[.const (.slice none 0 0), .tmp 94]) rfl ?_); (try (refine bY (by rfl) ?_; dsimp only)); at_builtin; refine Kd.Dz k51 w.heap.size rfl (.const (.slice none 0 0)) (.tmp 94) 49 51 (.agg #[(.int .i64 0), (.slice none 0 0)]) 32 rfl Tryd.underlying49 G5 rfl (by decide) (by omega) (.slice none 0 0) ([] : List (S51)) iC _ _ _ (fun k_ => k_ ≠ fZ ∧ k_ ≠ fD) (fun k_ => ((fun k_ => k_ ≠ fZ ∧ k_ ≠ fD)) k_ ∧ some k_ ≠ (.slice OP iC.length OQ : Value).ownBlock) rfl rfl ?aO ?aR (fun _ _ h => h) (fun _ hk => ⟨hk.1, by simp [Value.ownBlock]⟩) ?aF (Below.refl _ _) ?aS ?aL ?_; (case aR => exact Kd.R_readsM (Kd.bQ (dh.out) (fun k_ hk => ⟨hk.1, hk.2⟩))); (case aF => exact (fun k_ hk => ⟨Kd.fP (g := fZ) (o := .cells #[.int .i64 0, .slice none 0 0] 51 (0, 0)) bk_ k_ hk, Kd.fP (g := fD) (o := .cells #[.int .i64 fM, .slice OP iC.length OQ] 51 (0, 0)) bk_ k_ hk⟩)); (case aO => exact ((Kd.gZ _ _ _ _ (fun k_ => k_ ≠ fZ ∧ k_ ≠ fD)))); (case aS => exact (gP (w := w) (g := g) (row := none) (by repeat (first | (with_reducible first | exact HK.out | apply aI.dF | apply bu | apply bD | apply bz | refine aX ?_ il.out _ | refine aX ?_ iK.out _) | exact HK.out)))); (case aL => have := LMc97.out; have hlx_ := (Kd.cK dh.out).1; omega); intro v404 w103 ho hb hg hat; rw [← Ny403.out] at ho; have Lf := aa.mk (ho); replace gX := aa.mk (fG (g := fZ) (o := .cells #[.int .i64 0, .slice none 0 0] 51 (0, 0)) bk_ hg (by simp [Value.ownBlock])); replace eO := aa.mk (fG (g := fD) (o := .cells #[.int .i64 fM, .slice OP iC.length OQ] 51 (0, 0)) bk_ hg (by simp [Value.ownBlock])); replace HI0 := aa.mk (aH.grown si_ hg (by simp [Value.ownBlock])); replace HB := aa.mk (vI bl_ HL.out hb); replace HK := aa.mk (aI.trans (by repeat (first | (with_reducible first | exact HK.out | apply aI.dF | apply bu | apply bD | apply bz | refine aX ?_ il.out _ | refine aX ?_ iK.out _) | exact HK.out)) (aI.zg hg g) (.inl (by simp [Value.ownBlock]))); clear dh; clear ho hb hg hat) | ((with_reducible refine vL (b := .append) (xs := #[.tmp 95, .tmp 97]) rfl ?_); (try (refine bY (by rfl) ?_; dsimp only)); at_builtin; refine Kd.Tk k51 w.heap.size rfl (.tmp 95) (.tmp 97) 49 51 (.agg #[(.int .i64 0), (.slice none 0 0)]) 32 rfl Tryd.underlying49 G5 rfl (by decide) (by omega) v404 FL (⟨0, ([] : List (S51))⟩ : S51) [.int .i64 0, .slice none 0 0] (fun k_ => k_ ≠ fZ ∧ k_ ≠ fD) (fun k_ => ((fun k_ => k_ ≠ fZ ∧ k_ ≠ fD)) k_ ∧ some k_ ≠ (v404 : Value).ownBlock) rfl rfl ?aP (fun _ hk => hk) ?aF ?aO (Below.refl _ _) ?aS ?aL ?_; (case aP => exact zA _ _ _ (⟨0, ([] : List (S51))⟩ : S51) (Kd.gZ _ _ _ _ _)); (case aF => exact (fun k_ hk => ⟨Kd.fP (g := fZ) (o := .cells #[.int .i64 0, .slice none 0 0] 51 (0, 0)) bk_ k_ hk, Kd.fP (g := fD) (o := .cells #[.int .i64 fM, .slice OP iC.length OQ] 51 (0, 0)) bk_ k_ hk⟩)); (case aO => exact (pR_ Lf.out)); (case aS => exact (gP (w := w) (g := g) (row := none) (by repeat (first | (with_reducible first | exact HK.out | apply aI.dF | apply bu | apply bD | apply bz | refine aX ?_ il.out _ | refine aX ?_ iK.out _) | exact HK.out)))); (case aL => have := LMc98.out; omega); intro v407 w105 ho hb hg hat; rw [← Ny406.out] at ho; have HO408 := aa.mk (ho); replace gX := aa.mk (fG (g := fZ) (o := .cells #[.int .i64 0, .slice none 0 0] 51 (0, 0)) bk_ hg (Kd.vH Lf.out (fun _ hk => hk.1))); replace eO := aa.mk (fG (g := fD) (o := .cells #[.int .i64 fM, .slice OP iC.length OQ] 51 (0, 0)) bk_ hg (Kd.vH Lf.out (fun _ hk => hk.2))); replace HI0 := aa.mk (aH.grown si_ hg (aH.own_ne HI0.out Lf.out (by decide))); replace HB := aa.mk (vI bl_ HL.out hb); replace HK := aa.mk (aI.trans (by repeat (first | (with_reducible first | exact HK.out | apply aI.dF | apply bu | apply bD | apply bz | refine aX ?_ il.out _ | refine aX ?_ iK.out _) | exact HK.out)) (aI.zg hg g) (Kd.KS Lf.out)); clear Lf; clear ho hb hg hat; obtain ⟨Ao106, co106, eo106⟩ := Kd.dG HO408.out; subst eo106; obtain ⟨hcz107_0, hcz107_1, hfz107_0, hfz107_1⟩ := eQ eO.out; have hnb108 := pM.out; have hnc108 := pK.out; obtain ⟨hcz109_0, hcz109_1, hfz109_0, hfz109_1⟩ := eQ gX.out))
       refine bodyPost_ret (results_cell_row rfl _ _ fZ 51 #[.int .i64 fM, .slice Ao106 y406.length co106] (0, 0) _ rfl (by (with_reducible repeat (first | refine aj ?_ _ | refine ak ?_ | refine ah ?_ _)); refine bn (cs := #[.int .i64 fM, .slice none 0 0]) ?_ 1 _ rfl; (with_reducible repeat (first | refine aj ?_ _ | refine ak ?_ | refine ah ?_ _)); refine bn (cs := #[.int .i64 0, .slice none 0 0]) ?_ 0 _ rfl; (with_reducible repeat (first | refine aj ?_ _ | refine ak ?_ | refine ah ?_ _)); refine bM ?_ jS.out _; (with_reducible repeat (first | refine aj ?_ _ | refine ak ?_ | refine ah ?_ _)); exact gX.out) Tryd.underlying51 rfl (by kernel_rfl)) rfl ?_
       exact ⟨_, re_, by (with_reducible repeat (first | apply Kd.dN | apply Kd.dO | apply Kd.dP)); exact Kd.bQ (Kd.dD (p := ⟨fZ, 1, none⟩) (Kd.dD (p := ⟨fZ, 0, none⟩) (Kd.dD (p := ⟨fD, 1, none⟩) (Kd.bQ (Kd.bQ HO408.out (fun k_ hk => (⟨hk, by first | exact hk.2 | exact hk.1 | exact hk.2 | exact hk.1.1 | exact hk.1.2⟩ : _ ∧ k_ ≠ fD))) (fun k_ hk => (⟨hk, by first | exact hk.1.1 | exact hk.1 | exact hk.2 | exact hk.1.1 | exact hk.1.2⟩ : _ ∧ k_ ≠ fZ))) (fun _ hk => hk.1.2) (.slice Ao106 y406.length co106)) (fun _ hk => hk.2) (.int .i64 fM)) (fun _ hk => hk.2) (.slice Ao106 y406.length co106)) (fun _ hk => trivial), si_, bl_, by repeat (first | (with_reducible first | exact HK.out | apply aI.dF | apply bu | apply bD | apply bz | refine aX ?_ il.out _ | refine aX ?_ iK.out _) | exact HK.out)⟩
      ·rw [if_neg c98] at H; exact absurd H (by simp)
     ·rw [if_neg c97] at H; exact absurd H (by simp)
    ·rw [if_neg c96] at H; have c96b0 : (zi == 1) = false := beq_eq_false_iff_ne.mpr c96; have c96b1 : (zi != 1) = true := bne_iff_ne.mpr c96; simp only [Option.some.injEq, Prod.mk.injEq] at H; obtain ⟨rfl, rfl, rfl, rfl⟩ := H; go_wp2_with (first | ((with_reducible refine aN (f := 20) rfl ?_); refine bJ (some 81) rfl rfl Tryd.func20 (by kernel_rfl) rfl #[.pointer (some ⟨g, 0, none⟩), .int .i64 24] rfl mp_ ?_; (with_reducible refine (bS.calls g bT wR wS 24 zi DI DJ w0 _ ?aQ ?aT A80.out).mono ?_); (case aQ => repeat (first | (with_reducible first | exact HI0.out | apply aH.alloc | apply aH.drewN | apply aH.drew | apply aH.jI | apply aH.jJ | refine aH.far ?_ pK.out _ | refine aH.far ?_ mH.out _) | exact HI0.out)); (case aT => repeat (first | (with_reducible first | exact HB.out | apply cz | apply bN | apply bU | refine bR ?_ (aH.ge HI0.out) | refine bR ?_ CS.out | refine bR ?_ CU.out) | exact HB.out)); rintro e w110 ⟨rfl, hi, hb, hk⟩; refine ⟨_, rfl, ?_⟩; replace dh := aa.mk (Kd.bQ (Kd.GQ (aH.apart (show aH w0 _ g bT wR wS from si_) (pR_ dh.out) (by decide)) hk (fun _ h => h.2)) (fun _ h => h.1)); replace gX := aa.mk (aI.blk hk (g' := fZ) (o := .cells #[.int .i64 0, .slice none 0 0] 51 (0, 0)) bk_ pM.out (by simp)); replace eO := aa.mk (aI.blk hk (g' := fD) (o := .cells #[.int .i64 fM, fV] 51 (0, 0)) bk_ mI.out (by simp)); replace HK := aa.mk (aI.trans (by repeat (first | (with_reducible first | exact HK.out | apply aI.dF | apply bu | apply bD | apply bz | refine aX ?_ il.out _ | refine aX ?_ iK.out _) | exact HK.out)) hk (.inl rfl)); replace HB := aa.mk (hb); replace HI0 := aa.mk (hi); (try clear hb); (try clear hb2); (try clear hk); (try clear hi); have hnb111 := rF.out; have hnc111 := jS.out; have hnb112 := mI.out; have hnc112 := mH.out; obtain ⟨hcz113_0, hcz113_1, hfz113_0, hfz113_1⟩ := eQ eO.out; have hnb114 := pM.out; have hnc114 := pK.out; obtain ⟨hcz115_0, hcz115_1, hfz115_0, hfz115_1⟩ := eQ gX.out; obtain ⟨Ao116, co116, eo116⟩ := Kd.dG dh.out; subst eo116))
     refine bodyPost_ret (results_cell_row rfl _ _ fZ 51 #[.int .i64 fM, .slice Ao116 iC.length co116] (0, 0) _ rfl (by (with_reducible repeat (first | refine aj ?_ _ | refine ak ?_ | refine ah ?_ _)); refine bn (cs := #[.int .i64 fM, .slice none 0 0]) ?_ 1 _ rfl; (with_reducible repeat (first | refine aj ?_ _ | refine ak ?_ | refine ah ?_ _)); refine bn (cs := #[.int .i64 0, .slice none 0 0]) ?_ 0 _ rfl; (with_reducible repeat (first | refine aj ?_ _ | refine ak ?_ | refine ah ?_ _)); exact gX.out) Tryd.underlying51 rfl (by kernel_rfl)) rfl ?_
     exact ⟨_, re_, by (with_reducible repeat (first | apply Kd.dN | apply Kd.dO | apply Kd.dP)); exact Kd.bQ (Kd.dD (p := ⟨fZ, 1, none⟩) (Kd.dD (p := ⟨fZ, 0, none⟩) (Kd.bQ dh.out (fun k_ hk => (⟨hk, by first | exact hk.1 | exact hk.1 | exact hk.2 | exact hk.1.1 | exact hk.1.2⟩ : _ ∧ k_ ≠ fZ))) (fun _ hk => hk.2) (.int .i64 fM)) (fun _ hk => hk.2) (.slice Ao116 iC.length co116)) (fun _ hk => trivial), si_, bl_, by repeat (first | (with_reducible first | exact HK.out | apply aI.dF | apply bu | apply bD | apply bz | refine aX ?_ il.out _ | refine aX ?_ iK.out _) | exact HK.out)⟩

end Go.Proofs.YtggelekooacmnaaDoor.Q
-- J7 third region: three values are made in a row, three boxes laid at any time between
namespace Go.Proofs.YtggelekooacmnaaDoor.Q
open Go.RowKit Go.Proofs.YtggelekooacmnaaDoorW.bg Go.Proofs.YtggelekooacmnaaDoorW.bP Go.Proofs.YtggelekooacmnaaDoorW.bX
set_option linter.unusedVariables false
set_option linter.unusedSimpArgs false
theorem run_move {P : Program} {o : Oper} {x : Operand} (hop : o.op = .move x) (a : Act) (w : World) : (execOp a.eval o).run P w = .ok (.value (a.eval x)) w := by
  unfold execOp
  rw [hop]
  rfl
theorem run_load {o : Oper} (hop : o.op = .load 24 (.tmp 4)) (a : Act) (w : World) (gb : Nat) (t0 t1 t2 t3 : Int) (tS : Value) (h4 : a.tmps[4]? = some (.pointer (some ⟨gb, 0, none⟩))) (hb : w.heap[gb]? = some (.cells #[.int .i64 t0, .int .i64 t1, .int .i64 t2, .int .i64 t3, tS] 24 (0, 0))) :
    (execOp a.eval o).run Tryd.prog w = .ok (.value (.agg #[.int .i64 t0, .int .i64 t1, .int .i64 t2, .int .i64 t3, tS])) w := by
  have ou := Tryd.underlying24
  have c0 : w.cell? ⟨gb, 0, none⟩ = some (.int .i64 t0) := (aC hb 0).trans rfl
  have c1 : w.cell? ⟨gb, 1, none⟩ = some (.int .i64 t1) := (aC hb 1).trans rfl
  have c2 : w.cell? ⟨gb, 2, none⟩ = some (.int .i64 t2) := (aC hb 2).trans rfl
  have c3 : w.cell? ⟨gb, 3, none⟩ = some (.int .i64 t3) := (aC hb 3).trans rfl
  have c4 : w.cell? ⟨gb, 4, none⟩ = some tS := (aC hb 4).trans rfl
  unfold execOp
  rw [hop]
  dsimp only
  rw [G6 h4]
  go_simp
theorem XZ {o : Oper} (hop : o.op = .alloc 51) (a : Act) (w : World) :
    (execOp a.eval o).run Tryd.prog w = .ok (.value (.pointer (some ⟨w.heap.size, 0, none⟩))) (w.alloc (.cells #[.int .i64 0, .slice none 0 0] 51 (0, 0))) := by
  have zh := Tryd.underlying51
  unfold execOp
  rw [hop]
  dsimp only
  go_simp
theorem run_store {o : Oper} {d x : Nat} (hop : o.op = .store 51 (.tmp d) (.tmp x)) (a : Act) (w : World) (b : Nat) (v0 : Int) (A : Option Addr) (n c : Nat) (u0 u1 : Value) (h1 : a.tmps[d]? = some (.pointer (some ⟨b, 0, none⟩))) (h2 : a.tmps[x]? = some (.agg #[.int .i64 v0, .slice A n c]))
    (hb : w.heap[b]? = some (.cells #[u0, u1] 51 (0, 0))) :
    (execOp a.eval o).run Tryd.prog w = .ok .skip ((w.setCell ⟨b, 0, none⟩ (.int .i64 v0)).setCell ⟨b, 1, none⟩ (.slice A n c)) := by
  have zh := Tryd.underlying51
  have c0 : w.cell? ⟨b, 0, none⟩ = some u0 := (aC hb 0).trans rfl
  have c1 : w.cell? ⟨b, 1, none⟩ = some u1 := (aC hb 1).trans rfl
  have f0 := dW hb 0
  have f1 := dW hb 1
  unfold execOp
  rw [hop]
  dsimp only
  rw [G6 h1, G6 h2]
  go_simp
/-- the slot that operation i fills -/
def dst (i : Nat) : Nat := if i < 9 then 24 + i else i - 4
theorem TI {i j : Nat} (hi : i < 12) (hj : j < 12) (h : i ≠ j) : dst i ≠ dst j := by unfold dst; split <;> split <;> omega
theorem dst_lt {i : Nat} (hi : i < 12) : dst i < 33 := by unfold dst; split <;> omega
abbrev ptr (b : Nat) : Value := .pointer (some ⟨b, 0, none⟩)
def okr (g gb : Nat) (listed : Array Bool) (a : Act) (x : Nat) : Prop := x ≠ g ∧ x ≠ gb ∧ ∀ k, k < 3 → listed.getD (9 + k) false = true → a.tmps[5 + k]? ≠ some (ptr x)
theorem TJ {g gb : Nat} {listed listed' : Array Bool} {a a' : Act} (h1 : ∀ k, k < 3 → listed'.getD (9 + k) false = listed.getD (9 + k) false) (h2 : ∀ k, k < 3 → a'.tmps[5 + k]? = a.tmps[5 + k]?) : okr g gb listed' a' = okr g gb listed a := by
  funext x
  refine propext ⟨fun h => ⟨h.1, h.2.1, fun k hk hl => ?_⟩, fun h => ⟨h.1, h.2.1, fun k hk hl => ?_⟩⟩
  · rw [← h2 k hk]; exact h.2.2 k hk (by rw [h1 k hk]; exact hl)
  · rw [h2 k hk]; exact h.2.2 k hk (by rw [← h1 k hk]; exact hl)
/-- what operation i has left -/
def Fact (B g gb : Nat) (v : Nat → S51) (tv : Value) (i : Nat) (x : Value) (ok : Nat → Prop) (w : World) : Prop :=
  if i < 9 then (if i % 3 = 0 then x = ptr g else if i % 3 = 1 then x = tv else ∃ A c, x = .agg #[.int .i64 (v (i / 3)).f0, .slice A (v (i / 3)).f1.length c] ∧ Kd.N k51 51 w B ok (.slice A (v (i / 3)).f1.length c) (v (i / 3)).f1)
  else ∃ b, x = ptr b ∧ w.heap[b]? = some (.cells #[.int .i64 0, .slice none 0 0] 51 (0, 0)) ∧ B ≤ b ∧ b ≠ g ∧ b ≠ gb
theorem Fact.mono {B g gb : Nat} {v : Nat → S51} {tv : Value} {i : Nat} {x : Value} {ok ok' : Nat → Prop} {w w' : World} (h : Fact B g gb v tv i x ok w)
    (hN : ∀ A c (l : List S51), Kd.N k51 51 w B ok (.slice A l.length c) l → Kd.N k51 51 w' B ok' (.slice A l.length c) l)
    (hb : ∀ b o, w.heap[b]? = some o → b ≠ g → w'.heap[b]? = some o) : Fact B g gb v tv i x ok' w' := by
  unfold Fact at h ⊢
  split
  · rename_i h9
    rw [if_pos h9] at h
    split
    · rename_i h0; rw [if_pos h0] at h; exact h
    · rename_i h0
      rw [if_neg h0] at h
      split
      · rename_i h1; rw [if_pos h1] at h; exact h
      · rename_i h1
        rw [if_neg h1] at h
        obtain ⟨A, c, e, hn⟩ := h
        exact ⟨A, c, e, hN _ _ _ hn⟩
  · rename_i h9
    rw [if_neg h9] at h
    obtain ⟨b, e, h1, h2, h3, h4⟩ := h
    exact ⟨b, e, hb b _ h1 h3, h2, h3, h4⟩
def cnt (listed : Array Bool) : Nat := if listed.getD 8 false then 3 else if listed.getD 5 false then 2 else if listed.getD 2 false then 1 else 0
/-- what holds whatever has been listed -/
structure Jo (w0 : World) (g gb : Nat) (L : List Int) (s : Int) (p : Nat → Int) (v : Nat → S51) (tc : Array Value) (tS : Value) (tl : List S24) (a0 : Act) (listed : Array Bool) (a : Act) (w : World) : Prop where
  sz : listed.size = 15
  un : ∀ i, 12 ≤ i → listed.getD i false = false
  cl : ∀ k, k < 3 → listed.getD (3 * k + 2) false = true → listed.getD (3 * k) false = true ∧ listed.getD (3 * k + 1) false = true ∧ (0 < k → listed.getD (3 * k - 1) false = true)
  df : a.defers = a0.defers
  ts : a.tmps.size = 149
  fr : ∀ N : Nat, (N < 5 ∨ (7 < N ∧ N < 24) ∨ 32 < N) → a.tmps[N]? = a0.tmps[N]?
  fa : ∀ i, i < 12 → listed.getD i false = true → ∃ x, a.tmps[dst i]? = some x ∧ Fact w0.heap.size g gb v (.agg tc) i x (okr g gb listed a) w
  di : ∀ j k b, j < 3 → k < 3 → j ≠ k → listed.getD (9 + j) false = true → listed.getD (9 + k) false = true → a.tmps[5 + j]? = some (ptr b) → a.tmps[5 + k]? ≠ some (ptr b)
  sr : aH w0 w g L (p (cnt listed)) s
  bl : Below w0.heap.size w0 w
  bt : w.heap[gb]? = some (.cells tc 24 (0, 0))
  gg : gb ≠ g
  nt : Kd.N k24 24 w w0.heap.size (okr g gb listed a) tS tl
section
variable {w0 : World} {g gb : Nat} {L : List Int} {s : Int} {p : Nat → Int} {v : Nat → S51} {tc : Array Value} {tS : Value} {tl : List S24} {a0 : Act} {listed : Array Bool} {a : Act} {w : World}
theorem Jo.pure (h : Jo w0 g gb L s p v tc tS tl a0 listed a w) {i : Nat} (hi : i < 9) (h3 : i % 3 ≠ 2) {x : Value} (hx : if i % 3 = 0 then x = ptr g else x = .agg tc) :
    Jo w0 g gb L s p v tc tS tl a0 (listed.setIfInBounds i true) (a.put (some (24 + i)) x) w := by
  have hs : i < listed.size := by have := h.sz; omega
  have ht : 24 + i < a.tmps.size := by have := h.ts; omega
  have ok : okr g gb (listed.setIfInBounds i true) (a.put (some (24 + i)) x) = okr g gb listed a := TJ (fun k hk => by rw [ld hs, if_neg (by omega)]) (fun k hk => by rw [pt ht, if_neg (by omega)])
  refine ⟨by simpa using h.sz, fun j hj => by rw [ld hs, if_neg (by omega)]; exact h.un j hj, fun k hk hl => ?_, OD.trans h.df, KW.trans h.ts, fun N hN => by rw [pt ht, if_neg (by omega)]; exact h.fr N hN, fun j hj hl => ?_, fun j k b hj hk hjk h1 h2 h4 => ?_, ?_, h.bl, h.bt, h.gg, by rw [ok]; exact h.nt⟩
  · rw [ld hs, if_neg (by omega)] at hl
    obtain ⟨h1, h2, h4⟩ := h.cl k hk hl
    refine ⟨by rw [ld hs]; split <;> simp [h1], by rw [ld hs]; split <;> simp [h2], fun h0 => by rw [ld hs]; split <;> simp [h4 h0]⟩
  · rw [ok]
    by_cases e : i = j
    · subst e
      refine ⟨x, by rw [pt ht, dst, if_pos hi, if_pos rfl], ?_⟩
      unfold Fact
      rw [if_pos hi]
      by_cases h0 : i % 3 = 0
      · rw [if_pos h0] at hx ⊢; exact hx
      · rw [if_neg h0] at hx ⊢; rw [if_pos (by omega)]; exact hx
    · rw [ld hs, if_neg e] at hl
      obtain ⟨y, h1, h2⟩ := h.fa j hj hl
      refine ⟨y, ?_, h2⟩
      have := TI (show i < 12 by omega) hj e
      rw [show dst i = 24 + i from by rw [dst, if_pos hi]] at this
      rw [pt ht, if_neg this]; exact h1
  · rw [ld hs, if_neg (by omega)] at h1 h2
    rw [pt ht, if_neg (by omega)] at h4 ⊢
    exact h.di j k b hj hk hjk h1 h2 h4
  · have : cnt (listed.setIfInBounds i true) = cnt listed := by unfold cnt; rw [ld hs, ld hs, ld hs, if_neg (show ¬ i = 8 by omega), if_neg (show ¬ i = 5 by omega), if_neg (show ¬ i = 2 by omega)]
    rw [this]; exact h.sr
theorem Jo.call (h : Jo w0 g gb L s p v tc tS tl a0 listed a w) {k : Nat} (hk : k < 3) (hf : listed.getD (3 * k + 2) false = false) (h1 : listed.getD (3 * k) false = true) (h2 : listed.getD (3 * k + 1) false = true) (h4 : 0 < k → listed.getD (3 * k - 1) false = true)
    {sv : Value} {w' : World} (hR : Kd.R k51 51 w' w.heap.size (fun _ => True) sv (v k).f1) (hI : aH w0 w' g L (p (k + 1)) s) (hB : Below w0.heap.size w0 w') (hK : aI w w' g none) :
    Jo w0 g gb L s p v tc tS tl a0 (listed.setIfInBounds (3 * k + 2) true) (a.put (some (26 + 3 * k)) (.agg #[.int .i64 (v k).f0, sv])) w' := by
  have hs : 3 * k + 2 < listed.size := by have := h.sz; omega
  have ht : 26 + 3 * k < a.tmps.size := by have := h.ts; omega
  have ok : okr g gb (listed.setIfInBounds (3 * k + 2) true) (a.put (some (26 + 3 * k)) (.agg #[.int .i64 (v k).f0, sv])) = okr g gb listed a := TJ (fun j hj => by rw [ld hs, if_neg (by omega)]) (fun j hj => by rw [pt ht, if_neg (by omega)])
  have hold : ∀ b o, w.heap[b]? = some o → b ≠ g → w'.heap[b]? = some o := fun b o hb hne => aI.blk hK hb hne (by simp)
  refine ⟨by simpa using h.sz, fun j hj => by rw [ld hs, if_neg (by omega)]; exact h.un j hj, fun j hj hl => ?_, OD.trans h.df, KW.trans h.ts, fun N hN => by rw [pt ht, if_neg (by omega)]; exact h.fr N hN, fun j hj hl => ?_, fun i j b hi hj hij l1 l2 l4 => ?_, ?_, hB, hold _ _ h.bt h.gg, h.gg, by rw [ok]; exact Kd.TA h.nt hK (fun _ hk => hk.1)⟩
  · by_cases e : k = j
    · subst e
      exact ⟨by rw [ld hs, if_neg (by omega)]; exact h1, by rw [ld hs, if_neg (by omega)]; exact h2, fun h0 => by rw [ld hs, if_neg (by omega)]; exact h4 h0⟩
    · rw [ld hs, if_neg (by omega)] at hl
      obtain ⟨m1, m2, m4⟩ := h.cl j hj hl
      exact ⟨by rw [ld hs, if_neg (by omega)]; exact m1, by rw [ld hs, if_neg (by omega)]; exact m2, fun h0 => by rw [ld hs]; split <;> simp [m4 h0]⟩
  · rw [ok]
    by_cases e : 3 * k + 2 = j
    · subst e
      refine ⟨_, by rw [show dst (3 * k + 2) = 26 + 3 * k from by rw [dst, if_pos (by omega)]; omega, pt ht, if_pos rfl], ?_⟩
      unfold Fact
      obtain ⟨A, c, rfl⟩ := Kd.dG hR
      rw [if_pos (by omega), if_neg (by omega), if_neg (by omega), show (3 * k + 2) / 3 = k from by omega]
      refine ⟨A, c, rfl, Kd.GY (Kd.ll (Kd.R_N (Kd.qo hR)) fun y hy => ⟨?_, ?_, fun m hm hl e => ?_⟩) (aG h.bl)⟩
      · exact h.sr.fresh y hy.2.1
      · have := iX h.bt; have := hy.2.1; omega
      · obtain ⟨x, e1, e2⟩ := h.fa (9 + m) (by omega) hl
        rw [show dst (9 + m) = 5 + m from by unfold dst; rw [if_neg (by omega)]; omega, e] at e1
        obtain rfl := Option.some.inj e1
        unfold Fact at e2
        rw [if_neg (by omega)] at e2
        obtain ⟨b, e3, e4, _⟩ := e2
        have : y = b := by injection e3 with e3; injection e3 with e3; injection e3
        subst this
        have := iX e4; have := hy.2.1; omega
    · rw [ld hs, if_neg e] at hl
      obtain ⟨y, m1, m2⟩ := h.fa j hj hl
      refine ⟨y, ?_, m2.mono (fun A c l hn => Kd.TA hn hK (fun _ hk => hk.1)) hold⟩
      have := TI (show 3 * k + 2 < 12 by omega) hj e
      rw [show dst (3 * k + 2) = 26 + 3 * k from by rw [dst, if_pos (by omega)]; omega] at this
      rw [pt ht, if_neg this]; exact m1
  · rw [ld hs, if_neg (by omega)] at l1 l2
    rw [pt ht, if_neg (by omega)] at l4 ⊢
    exact h.di i j b hi hj hij l1 l2 l4
  · have : cnt (listed.setIfInBounds (3 * k + 2) true) = k + 1 := by
      unfold cnt
      rw [ld hs, ld hs, ld hs]
      have q5 : listed.getD 5 false = true → listed.getD 2 false = true := fun h => (‹Jo w0 g gb L s p v tc tS tl a0 listed a w›.cl 1 (by omega) h).2.2 (by omega)
      have q8 : listed.getD 8 false = true → listed.getD 5 false = true := fun h => (‹Jo w0 g gb L s p v tc tS tl a0 listed a w›.cl 2 (by omega) h).2.2 (by omega)
      have hk' : k = 0 ∨ k = 1 ∨ k = 2 := by omega
      rcases hk' with rfl | rfl | rfl
      · have n5 : listed.getD 5 false = false := by cases hq : listed.getD 5 false with | false => rfl | true => rw [q5 hq] at hf; cases hf
        have n8 : listed.getD 8 false = false := by cases hq : listed.getD 8 false with | false => rfl | true => rw [q8 hq] at n5; cases n5
        simp [n5, n8]
      · have n8 : listed.getD 8 false = false := by cases hq : listed.getD 8 false with | false => rfl | true => rw [q8 hq] at hf; cases hf
        simp [n8]
      · simp
    rw [this]; exact hI
theorem Jo.box (h : Jo w0 g gb L s p v tc tS tl a0 listed a w) {k : Nat} (hk : k < 3) (hf : listed.getD (9 + k) false = false) :
    Jo w0 g gb L s p v tc tS tl a0 (listed.setIfInBounds (9 + k) true) (a.put (some (5 + k)) (ptr w.heap.size)) (w.alloc (.cells #[.int .i64 0, .slice none 0 0] 51 (0, 0))) := by
  have hs : 9 + k < listed.size := by have := h.sz; omega
  have ht : 5 + k < a.tmps.size := by have := h.ts; omega
  have hb := cz (Below.refl w.heap.size w) (.cells #[.int .i64 0, .slice none 0 0] 51 (0, 0))
  have hold : ∀ b o, w.heap[b]? = some o → b ≠ g → (w.alloc (.cells #[.int .i64 0, .slice none 0 0] 51 (0, 0))).heap[b]? = some o := fun b o h1 _ => (hb.block b (iX h1)).trans h1
  have okm : ∀ y, okr g gb listed a y → y < w.heap.size → okr g gb (listed.setIfInBounds (9 + k) true) (a.put (some (5 + k)) (ptr w.heap.size)) y := fun y hy hlt => ⟨hy.1, hy.2.1, fun m hm hl => by
    rw [pt ht]
    by_cases e : k = m
    · subst e
      rw [if_pos rfl]
      intro e
      injection e with e; injection e with e; injection e with e; injection e with e
      omega
    · rw [if_neg (by omega)]
      rw [ld hs, if_neg (by omega)] at hl
      exact hy.2.2 m hm hl⟩
  have hN : ∀ {α : Type} {d : Kd α} {e : Nat} {sv : Value} {l : List α}, Kd.N d e w w0.heap.size (okr g gb listed a) sv l → Kd.N d e (w.alloc (.cells #[.int .i64 0, .slice none 0 0] 51 (0, 0))) w0.heap.size (okr g gb (listed.setIfInBounds (9 + k) true) (a.put (some (5 + k)) (ptr w.heap.size))) sv l :=
    fun hn => Kd.ll (Kd.Bt (Kd.QI hn) _) fun y hy => okm y hy.1 hy.2
  refine ⟨by simpa using h.sz, fun j hj => by rw [ld hs, if_neg (by omega)]; exact h.un j hj, fun j hj hl => ?_, OD.trans h.df, KW.trans h.ts, fun N hN => by rw [pt ht, if_neg (by omega)]; exact h.fr N hN, fun j hj hl => ?_, fun i j b hi hj hij l1 l2 l4 => ?_, ?_, cz h.bl _, hold _ _ h.bt h.gg, h.gg, hN h.nt⟩
  · rw [ld hs, if_neg (by omega)] at hl
    obtain ⟨m1, m2, m4⟩ := h.cl j hj hl
    exact ⟨by rw [ld hs, if_neg (by omega)]; exact m1, by rw [ld hs, if_neg (by omega)]; exact m2, fun h0 => by rw [ld hs, if_neg (by omega)]; exact m4 h0⟩
  · by_cases e : 9 + k = j
    · subst e
      refine ⟨_, by rw [show dst (9 + k) = 5 + k from by rw [dst, if_neg (by omega)]; omega, pt ht, if_pos rfl], ?_⟩
      unfold Fact
      rw [if_neg (by omega)]
      have := h.sr.lt
      have := iX h.bt
      exact ⟨w.heap.size, rfl, heap_alloc_new w _, aG h.bl, by omega, by omega⟩
    · rw [ld hs, if_neg e] at hl
      obtain ⟨y, m1, m2⟩ := h.fa j hj hl
      refine ⟨y, ?_, m2.mono (fun A c l hn => hN hn) hold⟩
      have := TI (show 9 + k < 12 by omega) hj e
      rw [show dst (9 + k) = 5 + k from by rw [dst, if_neg (by omega)]; omega] at this
      rw [pt ht, if_neg this]; exact m1
  · have lt : ∀ m b', m < 3 → listed.getD (9 + m) false = true → a.tmps[5 + m]? = some (ptr b') → b' < w.heap.size := fun m b' hm hl he => by
      obtain ⟨x, e1, e2⟩ := h.fa (9 + m) (by omega) hl
      rw [show dst (9 + m) = 5 + m from by unfold dst; rw [if_neg (by omega)]; omega, he] at e1
      obtain rfl := Option.some.inj e1
      unfold Fact at e2
      rw [if_neg (by omega)] at e2
      obtain ⟨b, e3, e4, _⟩ := e2
      have : b' = b := by injection e3 with e3; injection e3 with e3; injection e3
      rw [this]; exact iX e4
    rw [ld hs] at l1 l2
    rw [pt ht] at l4 ⊢
    by_cases ei : k = i
    · subst ei
      rw [if_pos rfl] at l4
      rw [if_neg (by omega)] at l2 ⊢
      intro e
      have := lt j b hj l2 e
      injection l4 with l4; injection l4 with l4; injection l4 with l4; injection l4 with l4
      omega
    · rw [if_neg (by omega)] at l1 l4
      by_cases ej : k = j
      · subst ej
        rw [if_pos rfl]
        intro e
        have := lt i b hi l1 l4
        injection e with e; injection e with e; injection e with e; injection e with e
        omega
      · rw [if_neg (by omega)] at l2 ⊢
        exact h.di i j b hi hj hij l1 l2 l4
  · have : cnt (listed.setIfInBounds (9 + k) true) = cnt listed := by unfold cnt; rw [ld hs, ld hs, ld hs, if_neg (show ¬ 9 + k = 8 by omega), if_neg (show ¬ 9 + k = 5 by omega), if_neg (show ¬ 9 + k = 2 by omega)]
    rw [this]; exact h.sr.alloc _
end
end Go.Proofs.YtggelekooacmnaaDoor.Q
-- J7 third region, whole
namespace Go.Proofs.YtggelekooacmnaaDoor.Q
open Go.RowKit Go.Proofs.YtggelekooacmnaaDoorW.bg Go.Proofs.YtggelekooacmnaaDoorW.bP Go.Proofs.YtggelekooacmnaaDoorW.bX
set_option linter.unusedVariables false
set_option linter.unusedSimpArgs false
def FM (w : World) (b : Nat) (x y : Value) : World := (w.setCell ⟨b, 0, none⟩ x).setCell ⟨b, 1, none⟩ y
theorem Oa {w : World} {b : Nat} {u0 u1 x y : Value} {T : Nat} (h : w.heap[b]? = some (.cells #[u0, u1] T (0, 0))) : (FM w b x y).heap[b]? = some (.cells #[x, y] T (0, 0)) := by
  refine bn (cs := #[x, u1]) ?_ 1 _ rfl
  exact bn (cs := #[u0, u1]) h 0 _ rfl
theorem oO {w : World} {b k : Nat} {x y : Value} (h : k ≠ b) : (FM w b x y).heap[k]? = w.heap[k]? := (Below.heap_setCell _ ⟨b, 1, none⟩ _ _ h).trans (Below.heap_setCell _ ⟨b, 0, none⟩ _ _ h)
theorem TK {α : Type} {d : Kd α} {e base : Nat} {ok : Nat → Prop} {v : Value} {xs : List α} {w : World} {b : Nat} {x y : Value} (h : Kd.N d e w base ok v xs) (hok : ∀ k, ok k → k ≠ b) : Kd.N d e (FM w b x y) base ok v xs :=
  Kd.wQ (p := ⟨b, 1, none⟩) (Kd.wQ (p := ⟨b, 0, none⟩) h hok _) hok _
theorem Jv {w0 w : World} {b : Nat} {x y : Value} (h : Below w0.heap.size w0 w) (hb : w0.heap.size ≤ b) : Below w0.heap.size w0 (FM w b x y) := bR (bR h hb) hb
theorem arr_eq {l m : Array Bool} (hs : l.size = m.size) (h : ∀ i, i < m.size → l.getD i false = m.getD i false) : l = m := by
  apply Array.ext hs
  intro i h1 h2
  have := h i h2
  simpa [Array.getD_eq_getD_getElem?, h1, h2] using this
theorem BH {ops : Array Oper} {listed : Array Bool} {i : Nat} {o : Oper} {l : List Nat} (h : i ∈ Region.ready .any ops listed) (ho : ops[i]? = some o) (hl : (o.after.toList.filter (Region.binds .any)).map (·.on) = l) : ∀ j ∈ l, listed.getD j false = true := by
  obtain ⟨_, o', ho', ha⟩ := Jm h
  rw [ho] at ho'
  obtain rfl := Option.some.inj ho'
  intro j hj
  rw [← hl] at hj
  simp only [List.mem_map, List.mem_filter, Array.mem_toList_iff] at hj
  obtain ⟨e, ⟨h1, h2⟩, rfl⟩ := hj
  exact ha e h1 h2
theorem rQ {o : Oper} {ys : Nat → Option Bool} (h : o.guard = none) : Region.wanted o ys = true := by unfold Region.wanted; rw [h]
abbrev Op3 (i : Nat) (d : Option Nat) (q : Op) (l : List Nat) : Prop := ∃ o, (opsOf Tryd.f9 3)[i]? = some o ∧ o.dst = d ∧ o.op = q ∧ o.guard = none ∧ (o.after.toList.filter (Region.binds .any)).map (·.on) = l
theorem op3_0 : Op3 0 (some 24) (.move (.tmp 3)) [] := ⟨_, rfl, by kernel_rfl, by kernel_rfl, by kernel_rfl, by kernel_rfl⟩
theorem op3_1 : Op3 1 (some 25) (.load 24 (.tmp 4)) [] := ⟨_, rfl, by kernel_rfl, by kernel_rfl, by kernel_rfl, by kernel_rfl⟩
theorem op3_2 : Op3 2 (some 26) (.call { callee := .value (.func 28), args := #[.tmp 24, .tmp 25], argTypes := #[30, 24] }) [0, 1] := ⟨_, rfl, by kernel_rfl, by kernel_rfl, by kernel_rfl, by kernel_rfl⟩
theorem op3_3 : Op3 3 (some 27) (.move (.tmp 3)) [] := ⟨_, rfl, by kernel_rfl, by kernel_rfl, by kernel_rfl, by kernel_rfl⟩
theorem op3_4 : Op3 4 (some 28) (.load 24 (.tmp 4)) [] := ⟨_, rfl, by kernel_rfl, by kernel_rfl, by kernel_rfl, by kernel_rfl⟩
theorem op3_5 : Op3 5 (some 29) (.call { callee := .value (.func 28), args := #[.tmp 27, .tmp 28], argTypes := #[30, 24] }) [3, 4, 2] := ⟨_, rfl, by kernel_rfl, by kernel_rfl, by kernel_rfl, by kernel_rfl⟩
theorem op3_6 : Op3 6 (some 30) (.move (.tmp 3)) [] := ⟨_, rfl, by kernel_rfl, by kernel_rfl, by kernel_rfl, by kernel_rfl⟩
theorem op3_7 : Op3 7 (some 31) (.load 24 (.tmp 4)) [] := ⟨_, rfl, by kernel_rfl, by kernel_rfl, by kernel_rfl, by kernel_rfl⟩
theorem op3_8 : Op3 8 (some 32) (.call { callee := .value (.func 28), args := #[.tmp 30, .tmp 31], argTypes := #[30, 24] }) [6, 7, 5] := ⟨_, rfl, by kernel_rfl, by kernel_rfl, by kernel_rfl, by kernel_rfl⟩
theorem op3_9 : Op3 9 (some 5) (.alloc 51) [] := ⟨_, rfl, by kernel_rfl, by kernel_rfl, by kernel_rfl, by kernel_rfl⟩
theorem op3_10 : Op3 10 (some 6) (.alloc 51) [] := ⟨_, rfl, by kernel_rfl, by kernel_rfl, by kernel_rfl, by kernel_rfl⟩
theorem op3_11 : Op3 11 (some 7) (.alloc 51) [] := ⟨_, rfl, by kernel_rfl, by kernel_rfl, by kernel_rfl, by kernel_rfl⟩
theorem op3_12 : Op3 12 none (.store 51 (.tmp 5) (.tmp 26)) [9, 2, 8, 0, 1, 2, 9, 10, 11] := ⟨_, rfl, by kernel_rfl, by kernel_rfl, by kernel_rfl, by kernel_rfl⟩
theorem op3_13 : Op3 13 none (.store 51 (.tmp 6) (.tmp 29)) [10, 5, 12, 0, 1, 2, 3, 4, 5, 9, 10, 11, 12] := ⟨_, rfl, by kernel_rfl, by kernel_rfl, by kernel_rfl, by kernel_rfl⟩
theorem op3_14 : Op3 14 none (.store 51 (.tmp 7) (.tmp 32)) [11, 8, 13, 0, 1, 2, 3, 4, 5, 6, 7, 8, 9, 10, 11, 12, 13] := ⟨_, rfl, by kernel_rfl, by kernel_rfl, by kernel_rfl, by kernel_rfl⟩
section
variable {w0 : World} {g gb : Nat} {L : List Int} {s : Int} {p : Nat → Int} {v : Nat → S51} {t0 t1 t2 t3 : Int} {A : Option Addr} {c : Nat} {tl : List S24} {a0 : Act} {listed : Array Bool} {a : Act} {w : World} {Q : Exit → Act → World → Prop}
abbrev tcs (t0 t1 t2 t3 : Int) (A : Option Addr) (n c : Nat) : Array Value := #[.int .i64 t0, .int .i64 t1, .int .i64 t2, .int .i64 t3, .slice A n c]
theorem Ra {i d : Nat} (h : Jo w0 g gb L s p v (tcs t0 t1 t2 t3 A tl.length c) (.slice A tl.length c) tl a0 listed a w) (hi : i < 9) (h3 : i % 3 = 0) (ho : Op3 i (some d) (.move (.tmp 3)) []) (hd : d = 24 + i) (hg : a0.tmps[3]? = some (ptr g)) :
    wpOp Tryd.prog (opsOf Tryd.f9 3) Q i (Jo w0 g gb L s p v (tcs t0 t1 t2 t3 A tl.length c) (.slice A tl.length c) tl a0 (listed.setIfInBounds i true)) a w := by
  obtain ⟨o, h1, h2, h4, h5, _⟩ := ho
  subst hd
  refine Bz h1 ?_
  rw [h2]
  refine FE (rQ h5) h2 (run_move h4 a w) ?_
  rw [G6 ((h.fr 3 (by omega)).trans hg)]
  exact h.pure hi (by omega) (by rw [if_pos h3])
theorem Rb {i d : Nat} (h : Jo w0 g gb L s p v (tcs t0 t1 t2 t3 A tl.length c) (.slice A tl.length c) tl a0 listed a w) (hi : i < 9) (h3 : i % 3 = 1) (ho : Op3 i (some d) (.load 24 (.tmp 4)) []) (hd : d = 24 + i) (hg : a0.tmps[4]? = some (ptr gb)) :
    wpOp Tryd.prog (opsOf Tryd.f9 3) Q i (Jo w0 g gb L s p v (tcs t0 t1 t2 t3 A tl.length c) (.slice A tl.length c) tl a0 (listed.setIfInBounds i true)) a w := by
  obtain ⟨o, h1, h2, h4, h5, _⟩ := ho
  subst hd
  refine Bz h1 ?_
  rw [h2]
  refine FE (rQ h5) h2 (run_load h4 a w gb t0 t1 t2 t3 _ ((h.fr 4 (by omega)).trans hg) h.bt) ?_
  exact h.pure hi (by omega) (by rw [if_neg (by omega)])
theorem TL {k i d : Nat} (h : Jo w0 g gb L s p v (tcs t0 t1 t2 t3 A tl.length c) (.slice A tl.length c) tl a0 listed a w) (hk : k < 3) (hi : i = 9 + k) (hf : listed.getD i false = false) (ho : Op3 i (some d) (.alloc 51) []) (hd : d = 5 + k) :
    wpOp Tryd.prog (opsOf Tryd.f9 3) Q i (Jo w0 g gb L s p v (tcs t0 t1 t2 t3 A tl.length c) (.slice A tl.length c) tl a0 (listed.setIfInBounds i true)) a w := by
  obtain ⟨o, h1, h2, h4, h5, _⟩ := ho
  subst hd
  subst hi
  refine Bz h1 ?_
  rw [h2]
  refine FE (rQ h5) h2 (XZ h4 a w) ?_
  exact h.box hk hf
theorem Rc {K k i x y d : Nat} {l : List Nat} (h : Jo w0 g gb L s p v (tcs t0 t1 t2 t3 A tl.length c) (.slice A tl.length c) tl a0 listed a w) (hk : k < 3) (hi : i = 3 * k + 2) (hf : listed.getD i false = false)
    (ho : Op3 i (some d) (.call { callee := .value (.func 28), args := #[.tmp x, .tmp y], argTypes := #[30, 24] }) l) (hd : d = 26 + 3 * k) (hx : x = 24 + 3 * k) (hy : y = 25 + 3 * k) (h1 : listed.getD (3 * k) false = true) (h2 : listed.getD (3 * k + 1) false = true) (h4 : 0 < k → listed.getD (3 * k - 1) false = true)
    (hA : aD.f K L (p k) s t0 t1 t2 t3 tl = some ((v k).f0, (v k).f1, p (k + 1), s)) (hcn : cnt listed = k) (hc : tl.length ≤ c) :
    wpOp Tryd.prog (opsOf Tryd.f9 3) Q i (Jo w0 g gb L s p v (tcs t0 t1 t2 t3 A tl.length c) (.slice A tl.length c) tl a0 (listed.setIfInBounds i true)) a w := by
  obtain ⟨o, m1, m2, m4, m5, _⟩ := ho
  subst hd
  subst hx
  subst hy
  subst hi
  refine Bz m1 ?_
  rw [m2]
  have e1 : a.tmps[24 + 3 * k]? = some (ptr g) := by
    obtain ⟨z, z1, z2⟩ := h.fa (3 * k) (by omega) h1
    unfold Fact at z2
    rw [if_pos (by omega), if_pos (by omega)] at z2
    rw [z2, dst, if_pos (by omega)] at z1; exact z1
  have e2 : a.tmps[25 + 3 * k]? = some (.agg (tcs t0 t1 t2 t3 A tl.length c)) := by
    obtain ⟨z, z1, z2⟩ := h.fa (3 * k + 1) (by omega) h2
    unfold Fact at z2
    rw [if_pos (by omega), if_neg (by omega), if_pos (by omega)] at z2
    rw [z2, dst, if_pos (by omega), show 24 + (3 * k + 1) = 25 + 3 * k from by omega] at z1; exact z1
  refine tQ Tryd.func28 (by kernel_rfl) rfl #[ptr g, .agg (tcs t0 t1 t2 t3 A tl.length c)] (rQ m5) m2 m4 (by simp [G6 e1, G6 e2]) ?_
  have hI := h.sr
  rw [hcn] at hI
  refine (aD.calls K g L (p k) s t0 t1 t2 t3 A c tl (v k).f0 (v k).f1 (p (k + 1)) s w0 w hI h.bl (Kd.Ui (base := 0) (Kd.N_V h.nt) (fun _ hk => hk.1)) hc hA).mono ?_
  rintro e w' ⟨sv, rfl, hR, hI', hB', hK'⟩
  exact ⟨_, rfl, h.call hk hf h1 h2 h4 hR hI' hB' hK'⟩
end
end Go.Proofs.YtggelekooacmnaaDoor.Q
-- J7 third region: what it leaves
namespace Go.Proofs.YtggelekooacmnaaDoor.Q
open Go.RowKit Go.Proofs.YtggelekooacmnaaDoorW.bg Go.Proofs.YtggelekooacmnaaDoorW.bP Go.Proofs.YtggelekooacmnaaDoorW.bX
set_option linter.unusedVariables false
set_option linter.unusedSimpArgs false
def acts (a0 : Act) (g : Nat) (tv x1 x2 x3 : Value) (b1 b2 b3 : Nat) : Act :=
  (((((((((((a0.put (some 24) (ptr g)).put (some 25) tv).put (some 26) x1).put (some 27) (ptr g)).put (some 28) tv).put (some 29) x2).put (some 30) (ptr g)).put (some 31) tv).put (some 32) x3).put (some 5) (ptr b1)).put (some 6) (ptr b2)).put (some 7) (ptr b3)
theorem acts_eq {a a0 : Act} {g b1 b2 b3 : Nat} {tv x1 x2 x3 : Value} (hs : a0.tmps.size = 149) (df : a.defers = a0.defers) (fr : ∀ N : Nat, (N < 5 ∨ (7 < N ∧ N < 24) ∨ 32 < N) → a.tmps[N]? = a0.tmps[N]?)
    (h24 : a.tmps[24]? = some (ptr g)) (h25 : a.tmps[25]? = some tv) (h26 : a.tmps[26]? = some x1) (h27 : a.tmps[27]? = some (ptr g)) (h28 : a.tmps[28]? = some tv) (h29 : a.tmps[29]? = some x2) (h30 : a.tmps[30]? = some (ptr g)) (h31 : a.tmps[31]? = some tv) (h32 : a.tmps[32]? = some x3)
    (h5 : a.tmps[5]? = some (ptr b1)) (h6 : a.tmps[6]? = some (ptr b2)) (h7 : a.tmps[7]? = some (ptr b3)) : a = acts a0 g tv x1 x2 x3 b1 b2 b3 := by
  have key : ∀ N : Nat, (acts a0 g tv x1 x2 x3 b1 b2 b3).tmps[N]? = if 7 = N then some (ptr b3) else if 6 = N then some (ptr b2) else if 5 = N then some (ptr b1) else if 32 = N then some x3 else if 31 = N then some tv else if 30 = N then some (ptr g) else if 29 = N then some x2 else if 28 = N then some tv else if 27 = N then some (ptr g) else if 26 = N then some x1 else if 25 = N then some tv else if 24 = N then some (ptr g) else a0.tmps[N]? := by
    intro N
    unfold acts
    rw [pt, pt, pt, pt, pt, pt, pt, pt, pt, pt, pt, pt]
    all_goals ((try simp only [KW]); omega)
  have hd : (acts a0 g tv x1 x2 x3 b1 b2 b3).defers = a0.defers := by unfold acts; simp only [OD]
  refine act_ext (df.trans hd.symm) fun N => ?_
  rw [key]
  by_cases e7 : 7 = N
  · subst e7; rw [if_pos rfl]; exact h7
  by_cases e6 : 6 = N
  · subst e6; rw [if_neg (by omega), if_pos rfl]; exact h6
  by_cases e5 : 5 = N
  · subst e5; rw [if_neg (by omega), if_neg (by omega), if_pos rfl]; exact h5
  rw [if_neg e7, if_neg e6, if_neg e5]
  by_cases e : N < 24 ∨ 32 < N
  · rw [fr N (by omega)]
    repeat rw [if_neg (by omega)]
  · have : N = 24 ∨ N = 25 ∨ N = 26 ∨ N = 27 ∨ N = 28 ∨ N = 29 ∨ N = 30 ∨ N = 31 ∨ N = 32 := by omega
    rcases this with rfl | rfl | rfl | rfl | rfl | rfl | rfl | rfl | rfl
    · rw [h24]; rfl
    · rw [h25]; rfl
    · rw [h26]; rfl
    · rw [h27]; rfl
    · rw [h28]; rfl
    · rw [h29]; rfl
    · rw [h30]; rfl
    · rw [h31]; rfl
    · rw [h32]; rfl
section
variable {w0 : World} {g gb : Nat} {L : List Int} {s : Int} {p : Nat → Int} {v : Nat → S51} {t0 t1 t2 t3 : Int} {A : Option Addr} {c : Nat} {tl : List S24} {a0 : Act} {w : World} {Q : Exit → Act → World → Prop}
theorem TM {K : Nat} (hA : ∀ k, k < 3 → aD.f K L (p k) s t0 t1 t2 t3 tl = some ((v k).f0, (v k).f1, p (k + 1), s)) (hs : a0.tmps.size = 149) (hg3 : a0.tmps[3]? = some (ptr g)) (hg4 : a0.tmps[4]? = some (ptr gb))
    (hI : aH w0 w g L (p 0) s) (hB : Below w0.heap.size w0 w) (hbt : w.heap[gb]? = some (.cells (tcs t0 t1 t2 t3 A tl.length c) 24 (0, 0))) (hgb : w0.heap.size ≤ gb) (hne : gb ≠ g) (hN : Kd.N k24 24 w w0.heap.size (fun x => x ≠ g ∧ x ≠ gb) (.slice A tl.length c) tl) (hc : tl.length ≤ c)
    (hQ : ∀ A1 c1 A2 c2 A3 c3 b1 b2 b3 w', w'.heap[gb]? = some (.cells (tcs t0 t1 t2 t3 A tl.length c) 24 (0, 0)) → Kd.C k24 w' A tl.length tl → w'.heap[b1]? = some (.cells #[.int .i64 (v 0).f0, .slice A1 (v 0).f1.length c1] 51 (0, 0)) → w'.heap[b2]? = some (.cells #[.int .i64 (v 1).f0, .slice A2 (v 1).f1.length c2] 51 (0, 0)) → w'.heap[b3]? = some (.cells #[.int .i64 (v 2).f0, .slice A3 (v 2).f1.length c3] 51 (0, 0)) →
      (v 0).f1.length ≤ c1 ∧ Kd.C k51 w' A1 (v 0).f1.length (v 0).f1 → (v 1).f1.length ≤ c2 ∧ Kd.C k51 w' A2 (v 1).f1.length (v 1).f1 → (v 2).f1.length ≤ c3 ∧ Kd.C k51 w' A3 (v 2).f1.length (v 2).f1 → Below w0.heap.size w0 w' →
      Q .normal (acts a0 g (.agg (tcs t0 t1 t2 t3 A tl.length c)) (.agg #[.int .i64 (v 0).f0, .slice A1 (v 0).f1.length c1]) (.agg #[.int .i64 (v 1).f0, .slice A2 (v 1).f1.length c2]) (.agg #[.int .i64 (v 2).f0, .slice A3 (v 2).f1.length c3]) b1 b2 b3) w') :
    (Code.region 3 (opsOf Tryd.f9 3) true).wp Tryd.prog Q a0 w := by
  have hsz : (opsOf Tryd.f9 3).size = 15 := by kernel_rfl
  refine wp_region_any (by kernel_rfl) ?_
  rw [hsz]
  refine XY (J := Jo w0 g gb L s p v (tcs t0 t1 t2 t3 A tl.length c) (.slice A tl.length c) tl a0) 12 3 (by kernel_rfl) (fun l a w h => by rw [hsz]; exact h.sz) ?_ ?_ 12 (Array.replicate 15 false) a0 _ (by rfl) ?_
  · intro listed a w h hu i hi
    obtain ⟨q1, q2⟩ := UT (Jm hi).1
    have hi15 : i < 15 := by have := h.sz; omega
    by_cases h12 : i < 12
    · refine ⟨h12, ?_⟩
      have hl : ∀ j, listed.getD j false = false → listed.getD j false = true → False := fun j h1 h2 => by rw [h1] at h2; cases h2
      have c5 : listed.getD 5 false = true → listed.getD 2 false = true := fun hh => (h.cl 1 (by omega) hh).2.2 (by omega)
      have c8 : listed.getD 8 false = true → listed.getD 5 false = true := fun hh => (h.cl 2 (by omega) hh).2.2 (by omega)
      have : i = 0 ∨ i = 1 ∨ i = 2 ∨ i = 3 ∨ i = 4 ∨ i = 5 ∨ i = 6 ∨ i = 7 ∨ i = 8 ∨ i = 9 ∨ i = 10 ∨ i = 11 := by omega
      rcases this with rfl | rfl | rfl | rfl | rfl | rfl | rfl | rfl | rfl | rfl | rfl | rfl
      · exact Ra h (by omega) rfl op3_0 rfl hg3
      · exact Rb h (by omega) rfl op3_1 rfl hg4
      · obtain ⟨o, m1, _, _, _, m5⟩ := op3_2
        have hw := BH hi m1 m5
        refine Rc (k := 0) h (by omega) rfl q2 op3_2 rfl rfl rfl (hw 0 (by simp)) (hw 1 (by simp)) (fun h => absurd h (by omega)) (hA 0 (by omega)) ?_ hc
        unfold cnt
        rw [if_neg (fun e => hl 2 q2 (c5 (c8 e))), if_neg (fun e => hl 2 q2 (c5 e)), if_neg (fun e => hl 2 q2 e)]
      · exact Ra h (by omega) rfl op3_3 rfl hg3
      · exact Rb h (by omega) rfl op3_4 rfl hg4
      · obtain ⟨o, m1, _, _, _, m5⟩ := op3_5
        have hw := BH hi m1 m5
        refine Rc (k := 1) h (by omega) rfl q2 op3_5 rfl rfl rfl (hw 3 (by simp)) (hw 4 (by simp)) (fun _ => hw 2 (by simp)) (hA 1 (by omega)) ?_ hc
        unfold cnt
        rw [if_neg (fun e => hl 5 q2 (c8 e)), if_neg (fun e => hl 5 q2 e), if_pos (hw 2 (by simp))]
      · exact Ra h (by omega) rfl op3_6 rfl hg3
      · exact Rb h (by omega) rfl op3_7 rfl hg4
      · obtain ⟨o, m1, _, _, _, m5⟩ := op3_8
        have hw := BH hi m1 m5
        refine Rc (k := 2) h (by omega) rfl q2 op3_8 rfl rfl rfl (hw 6 (by simp)) (hw 7 (by simp)) (fun _ => hw 5 (by simp)) (hA 2 (by omega)) ?_ hc
        unfold cnt
        rw [if_neg (fun e => hl 8 q2 e), if_pos (hw 5 (by simp))]
      · exact TL (k := 0) h (by omega) rfl q2 op3_9 rfl
      · exact TL (k := 1) h (by omega) rfl q2 op3_10 rfl
      · exact TL (k := 2) h (by omega) rfl q2 op3_11 rfl
    · exfalso
      have : i = 12 ∨ i = 13 ∨ i = 14 := by omega
      rcases this with rfl | rfl | rfl
      · obtain ⟨o, m1, _, _, _, m5⟩ := op3_12
        have hw := BH hi m1 m5
        have h8 := h.cl 2 (by omega) (hw 8 (by simp))
        have h5 := h.cl 1 (by omega) (h8.2.2 (by omega))
        have e0 := hw 0 (by simp); have e1 := hw 1 (by simp); have e2 := hw 2 (by simp); have e9 := hw 9 (by simp); have e10 := hw 10 (by simp); have e11 := hw 11 (by simp); have e8 := hw 8 (by simp)
        have e3 := h5.1; have e4 := h5.2.1; have e5 := h8.2.2 (by omega); have e6 := h8.1; have e7 := h8.2.1
        simp only [Nat.mul_one, Nat.reduceMul, Nat.reduceAdd, Nat.reduceSub] at e3 e4 e5 e6 e7
        simp [unl, e0, e1, e2, e3, e4, e5, e6, e7, e8, e9, e10, e11] at hu
      · obtain ⟨o, m1, _, _, _, m5⟩ := op3_13
        have := BH hi m1 m5 12 (by simp)
        rw [h.un 12 (by omega)] at this; cases this
      · obtain ⟨o, m1, _, _, _, m5⟩ := op3_14
        have := BH hi m1 m5 13 (by simp)
        rw [h.un 13 (by omega)] at this; cases this
  · intro listed a w h hall
    have el : listed = #[true, true, true, true, true, true, true, true, true, true, true, true, false, false, false] := by
      refine arr_eq h.sz fun i hi => ?_
      have hi : i < 15 := hi
      by_cases h12 : i < 12
      · rw [hall i h12]
        have : i = 0 ∨ i = 1 ∨ i = 2 ∨ i = 3 ∨ i = 4 ∨ i = 5 ∨ i = 6 ∨ i = 7 ∨ i = 8 ∨ i = 9 ∨ i = 10 ∨ i = 11 := by omega
        rcases this with rfl | rfl | rfl | rfl | rfl | rfl | rfl | rfl | rfl | rfl | rfl | rfl <;> rfl
      · rw [h.un i (by omega)]
        have : i = 12 ∨ i = 13 ∨ i = 14 := by omega
        rcases this with rfl | rfl | rfl <;> rfl
    have pm : ∀ k, k < 3 → a.tmps[24 + 3 * k]? = some (ptr g) := fun k hk => by
      obtain ⟨z, z1, z2⟩ := h.fa (3 * k) (by omega) (hall _ (by omega))
      unfold Fact at z2
      rw [if_pos (by omega), if_pos (by omega)] at z2
      rw [z2, dst, if_pos (by omega)] at z1; exact z1
    have pl : ∀ k, k < 3 → a.tmps[25 + 3 * k]? = some (.agg (tcs t0 t1 t2 t3 A tl.length c)) := fun k hk => by
      obtain ⟨z, z1, z2⟩ := h.fa (3 * k + 1) (by omega) (hall _ (by omega))
      unfold Fact at z2
      rw [if_pos (by omega), if_neg (by omega), if_pos (by omega)] at z2
      rw [z2, dst, if_pos (by omega), show 24 + (3 * k + 1) = 25 + 3 * k from by omega] at z1; exact z1
    have pc : ∀ k, k < 3 → ∃ A c, a.tmps[26 + 3 * k]? = some (.agg #[.int .i64 (v k).f0, .slice A (v k).f1.length c]) ∧ Kd.N k51 51 w w0.heap.size (okr g gb listed a) (.slice A (v k).f1.length c) (v k).f1 := fun k hk => by
      obtain ⟨z, z1, z2⟩ := h.fa (3 * k + 2) (by omega) (hall _ (by omega))
      unfold Fact at z2
      rw [if_pos (by omega), if_neg (by omega), if_neg (by omega), show (3 * k + 2) / 3 = k from by omega] at z2
      obtain ⟨A, c, z3, z4⟩ := z2
      rw [z3, dst, if_pos (by omega), show 24 + (3 * k + 2) = 26 + 3 * k from by omega] at z1
      exact ⟨A, c, z1, z4⟩
    have pb : ∀ k, k < 3 → ∃ b, a.tmps[5 + k]? = some (ptr b) ∧ w.heap[b]? = some (.cells #[.int .i64 0, .slice none 0 0] 51 (0, 0)) ∧ w0.heap.size ≤ b ∧ b ≠ g ∧ b ≠ gb := fun k hk => by
      obtain ⟨z, z1, z2⟩ := h.fa (9 + k) (by omega) (hall _ (by omega))
      unfold Fact at z2
      rw [if_neg (by omega)] at z2
      obtain ⟨b, z3, z4⟩ := z2
      rw [z3, dst, if_neg (by omega), show 9 + k - 4 = 5 + k from by omega] at z1
      exact ⟨b, z1, z4⟩
    obtain ⟨A1, c1, m1, n1⟩ := pc 0 (by omega)
    obtain ⟨A2, c2, m2, n2⟩ := pc 1 (by omega)
    obtain ⟨A3, c3, m3, n3⟩ := pc 2 (by omega)
    obtain ⟨b1, k1, q1, g1, r1, u1⟩ := pb 0 (by omega)
    obtain ⟨b2, k2, q2, g2, r2, u2⟩ := pb 1 (by omega)
    obtain ⟨b3, k3, q3, g3, r3, u3⟩ := pb 2 (by omega)
    have d12 : b1 ≠ b2 := fun e => h.di 0 1 b1 (by omega) (by omega) (by omega) (hall _ (by omega)) (hall _ (by omega)) k1 (by rw [e]; exact k2)
    have d13 : b1 ≠ b3 := fun e => h.di 0 2 b1 (by omega) (by omega) (by omega) (hall _ (by omega)) (hall _ (by omega)) k1 (by rw [e]; exact k3)
    have d23 : b2 ≠ b3 := fun e => h.di 1 2 b2 (by omega) (by omega) (by omega) (hall _ (by omega)) (hall _ (by omega)) k2 (by rw [e]; exact k3)
    have ok1 : ∀ x, okr g gb listed a x → x ≠ b1 := fun x hx e => hx.2.2 0 (by omega) (hall _ (by omega)) (by rw [e]; exact k1)
    have ok2 : ∀ x, okr g gb listed a x → x ≠ b2 := fun x hx e => hx.2.2 1 (by omega) (hall _ (by omega)) (by rw [e]; exact k2)
    have ok3 : ∀ x, okr g gb listed a x → x ≠ b3 := fun x hx e => hx.2.2 2 (by omega) (hall _ (by omega)) (by rw [e]; exact k3)
    have ea := acts_eq hs h.df h.fr (pm 0 (by omega)) (pl 0 (by omega)) m1 (pm 1 (by omega)) (pl 1 (by omega)) m2 (pm 2 (by omega)) (pl 2 (by omega)) m3 k1 k2 k3
    have hN : ∀ {α : Type} {d : Kd α} {e : Nat} {sv : Value} {l : List α}, Kd.N d e w w0.heap.size (okr g gb listed a) sv l → Kd.N d e (FM (FM (FM w b1 (.int .i64 (v 0).f0) (.slice A1 (v 0).f1.length c1)) b2 (.int .i64 (v 1).f0) (.slice A2 (v 1).f1.length c2)) b3 (.int .i64 (v 2).f0) (.slice A3 (v 2).f1.length c3)) w0.heap.size (okr g gb listed a) sv l :=
      fun hn => TK (TK (TK hn ok1) ok2) ok3
    have f1 := Oa (x := .int .i64 (v 0).f0) (y := .slice A1 (v 0).f1.length c1) q1
    have f2 := Oa (x := .int .i64 (v 1).f0) (y := .slice A2 (v 1).f1.length c2) ((oO (w := w) (x := .int .i64 (v 0).f0) (y := .slice A1 (v 0).f1.length c1) d12.symm).trans q2)
    have f3 := Oa (x := .int .i64 (v 2).f0) (y := .slice A3 (v 2).f1.length c3) ((oO (w := FM w b1 (.int .i64 (v 0).f0) (.slice A1 (v 0).f1.length c1)) (x := .int .i64 (v 1).f0) (y := .slice A2 (v 1).f1.length c2) d23.symm).trans ((oO (w := w) (x := .int .i64 (v 0).f0) (y := .slice A1 (v 0).f1.length c1) d13.symm).trans q3))
    have hR := hQ A1 c1 A2 c2 A3 c3 b1 b2 b3 _ (((oO u3.symm).trans ((oO u2.symm).trans (oO u1.symm))).trans h.bt) (Kd.ni (hN h.nt)).2.2 ((oO d13).trans ((oO d12).trans f1)) ((oO d23).trans f2) f3
      ⟨(Kd.ni n1).2.1, (Kd.ni (hN n1)).2.2⟩ ⟨(Kd.ni n2).2.1, (Kd.ni (hN n2)).2.2⟩ ⟨(Kd.ni n3).2.1, (Kd.ni (hN n3)).2.2⟩ (Jv (Jv (Jv h.bl g1) g2) g3)
    rw [← ea] at hR
    rw [el]
    have y1 : Region.ready .any (opsOf Tryd.f9 3) #[true, true, true, true, true, true, true, true, true, true, true, true, false, false, false] = [12] := by kernel_rfl
    have y2 : Region.ready .any (opsOf Tryd.f9 3) #[true, true, true, true, true, true, true, true, true, true, true, true, true, false, false] = [13] := by kernel_rfl
    have y3 : Region.ready .any (opsOf Tryd.f9 3) #[true, true, true, true, true, true, true, true, true, true, true, true, true, true, false] = [14] := by kernel_rfl
    have y4 : Region.ready .any (opsOf Tryd.f9 3) #[true, true, true, true, true, true, true, true, true, true, true, true, true, true, true] = [] := by kernel_rfl
    refine ⟨fun e => (by rw [y1] at e; cases e), fun i hi => ?_⟩
    rw [y1] at hi
    obtain rfl : i = 12 := by simpa using hi
    obtain ⟨o, o1, o2, o3, o4, _⟩ := op3_12
    refine Bz o1 ?_
    rw [o2]
    refine CO (rQ o4) o2 (run_store o3 a w b1 _ A1 _ c1 _ _ k1 m1 q1) ?_
    refine ⟨fun e => (by rw [show (#[true, true, true, true, true, true, true, true, true, true, true, true, false, false, false] : Array Bool).setIfInBounds 12 true = #[true, true, true, true, true, true, true, true, true, true, true, true, true, false, false] from rfl, y2] at e; cases e), fun i hi => ?_⟩
    rw [show (#[true, true, true, true, true, true, true, true, true, true, true, true, false, false, false] : Array Bool).setIfInBounds 12 true = #[true, true, true, true, true, true, true, true, true, true, true, true, true, false, false] from rfl] at hi ⊢
    rw [y2] at hi
    obtain rfl : i = 13 := by simpa using hi
    obtain ⟨o, o1, o2, o3, o4, _⟩ := op3_13
    refine Bz o1 ?_
    rw [o2]
    refine CO (rQ o4) o2 (run_store o3 a (FM w b1 (.int .i64 (v 0).f0) (.slice A1 (v 0).f1.length c1)) b2 _ A2 _ c2 _ _ k2 m2 ((oO d12.symm).trans q2)) ?_
    refine ⟨fun e => (by rw [show (#[true, true, true, true, true, true, true, true, true, true, true, true, true, false, false] : Array Bool).setIfInBounds 13 true = #[true, true, true, true, true, true, true, true, true, true, true, true, true, true, false] from rfl, y3] at e; cases e), fun i hi => ?_⟩
    rw [show (#[true, true, true, true, true, true, true, true, true, true, true, true, true, false, false] : Array Bool).setIfInBounds 13 true = #[true, true, true, true, true, true, true, true, true, true, true, true, true, true, false] from rfl] at hi ⊢
    rw [y3] at hi
    obtain rfl : i = 14 := by simpa using hi
    obtain ⟨o, o1, o2, o3, o4, _⟩ := op3_14
    refine Bz o1 ?_
    rw [o2]
    refine CO (rQ o4) o2 (run_store o3 a (FM (FM w b1 (.int .i64 (v 0).f0) (.slice A1 (v 0).f1.length c1)) b2 (.int .i64 (v 1).f0) (.slice A2 (v 1).f1.length c2)) b3 _ A3 _ c3 _ _ k3 m3 ((oO d23.symm).trans ((oO d13.symm).trans q3))) ?_
    exact ⟨y4, hR⟩
  · have hdr : ∀ {α : Type} {d : Kd α} {e : Nat} {ok : Nat → Prop} {sv : Value} {l : List α}, Kd.N d e w w0.heap.size ok sv l → Kd.N d e w.drew w0.heap.size ok sv l := fun hn => Kd.FI hn
    have hz : ∀ i, (Array.replicate 15 false).getD i false = false := fun i => by rw [Array.getD_eq_getD_getElem?, Array.getElem?_replicate]; split <;> rfl
    refine ⟨by simp, fun i _ => hz i, fun k _ h => (by rw [hz] at h; cases h), rfl, hs, fun N _ => rfl, fun i _ h => (by rw [hz] at h; cases h), fun j k b _ _ _ h => (by rw [hz] at h; cases h), ?_, Av hB, hbt, hne, hdr (Kd.ll hN fun x hx => ⟨hx.1, hx.2, fun k _ h => (by rw [hz] at h; cases h)⟩)⟩
    have : cnt (Array.replicate 15 false) = 0 := by unfold cnt; rw [hz, hz, hz]; rfl
    rw [this]; exact hI.drew
end
end Go.Proofs.YtggelekooacmnaaDoor.Q
namespace Go.Proofs.YtggelekooacmnaaDoor.Q
open Go.RowKit Go.Proofs.YtggelekooacmnaaDoorW.bg Go.Proofs.YtggelekooacmnaaDoorW.bP Go.Proofs.YtggelekooacmnaaDoorW.bX
attribute [local go_sem] ek eu fw fA dH dI eB eD   -- for this text's walks alone
set_option linter.unusedVariables false
set_option linter.unusedSimpArgs false

/-! ### cZ: function 38 -/
mutual
def cZ.l0 : Nat → Int → List (S24) → Int → Int → Option (Int)
 | 0, _, _, _, _ => none
 | k + 1, x3, x7, x8, x9 => if x9 < x8 then (if 0 ≤ x9 then (if x9 < (x7.length : Int) then ((cZ.f k ((ag x7 x9).f0) ((ag x7 x9).f1) ((ag x7 x9).f2) ((ag x7 x9).f3) ((ag x7 x9).f4)).bind fun t104 => (cZ.l0 k (mx x3 t104) x7 x8 (wrap64 (x9 + 1)))) else (none)) else (none)) else (some (wrap64 (x3 + 1)))
def cZ.f : Nat → Int → Int → Int → Int → List (S24) → Option (Int)
 | 0, _, _, _, _, _ => none
 | k + 1, ai, az, aA, ay, af => cZ.l0 k 0 af (af.length : Int) 0
end
theorem cZ.fH : ∀ k, (∀ y0 y1 y2 y3 y4, LeO (cZ.f k y0 y1 y2 y3 y4) (cZ.f (k + 1) y0 y1 y2 y3 y4)) ∧ (∀ y0 y1 y2 y3, LeO (cZ.l0 k y0 y1 y2 y3) (cZ.l0 (k + 1) y0 y1 y2 y3))
 | 0 => ⟨fun _ _ _ _ _ r h => by simp [cZ.f] at h, fun _ _ _ _ r h => by simp [cZ.l0] at h⟩
 | k + 1 => by
  obtain ⟨ih0, ih1⟩ := cZ.fH k; refine ⟨?_, ?_⟩
  ·intro y0 y1 y2 y3 y4; unfold cZ.f; repeat' first
   | (with_reducible exact ih0 _ _ _ _ _)
   | (with_reducible exact ih1 _ _ _ _)
   | (with_reducible exact LeO.refl _)
   | (with_reducible exact LeO.none _)
   | (with_reducible refine LeO.ite ?_ ?_)
   | (with_reducible refine LeO.bind ?_ (fun _ => ?_))
   | exact ih0 _ _ _ _ _
   | exact ih1 _ _ _ _
   | exact LeO.none _
   | refine LeO.ite ?_ ?_
   | refine LeO.bind ?_ (fun _ => ?_)
  ·intro y0 y1 y2 y3; unfold cZ.l0; repeat' first
   | (with_reducible exact ih0 _ _ _ _ _)
   | (with_reducible exact ih1 _ _ _ _)
   | (with_reducible exact LeO.refl _)
   | (with_reducible exact LeO.none _)
   | (with_reducible refine LeO.ite ?_ ?_)
   | (with_reducible refine LeO.bind ?_ (fun _ => ?_))
   | exact ih0 _ _ _ _ _
   | exact ih1 _ _ _ _
   | exact LeO.none _
   | refine LeO.ite ?_ ?_
   | refine LeO.bind ?_ (fun _ => ?_)
theorem cZ.mono : ∀ a0 a1 a2 a3 a4 k, LeO (cZ.f k a0 a1 a2 a3 a4) (cZ.f (k + 1) a0 a1 a2 a3 a4) := by
 intro a0 a1 a2 a3 a4 k; obtain ⟨ih0, ih1⟩ := cZ.fH k; exact ih0 a0 a1 a2 a3 a4
set_option maxHeartbeats 8000000 in
set_option maxRecDepth 100000 in
theorem cZ.calls (k : Nat) : ∀ (ai : Int) (az : Int) (aA : Int) (ay : Int) (bq : Option Addr) (bf : Nat) (af : List (S24)) (r : Int) (w : World) (dX : Kd.C k24 w bq af.length af) (dY : af.length ≤ bf) (h : cZ.f k ai az aA ay af = some r),
  Calls Tryd.prog 38 #[.agg #[.int .i64 ai, .int .i64 az, .int .i64 aA, .int .i64 ay, .slice bq af.length bf]] w fun e w' => e = .returned (.int .i64 r) ∧ Below w.heap.size w w' := by
 induction k using Nat.strongRecOn with
 | _ k ih =>
 intro ai az aA ay bq bf af r w dX dY h; cases k with
 | zero => exact absurd h (by simp [cZ.f])
 | succ k =>
 simp only [cZ.f] at h; have ou := Tryd.underlying24; have bV := aa.mk dX; have dz := aa.mk dY; clear dX dY; have HB := aa.mk (Below.refl w.heap.size w); have H : (cZ.l0 k 0 af (af.length : Int) 0) = some r := h; clear h; have H' := aa.mk H; clear H; go_enter Tryd.func38, Tryd.ntmps38; go_wp2_with (first | ((with_reducible refine aY (N := 1) rfl ?_); refine aZ ?hg (N := 1) ?hd (cs := #[.int .i64 ai, .int .i64 az, .int .i64 aA, .int .i64 ay, .slice bq af.length bf]) (t := 24) ?hr ?_; (case hd => rfl); (case hg => rfl); (case hr => first | (go_simp; done) | (go_simp; rfl)); intro gb101 hg w2 aK hb; have Gy := aa.mk (aK); have GW101 : aa (w.heap.size ≤ gb101) := gw_ hg (aG bl_); have GE101 := GW101; replace HB := aa.mk (au bl_ hb); clear hb aK hg; obtain ⟨hcz3_0, hcz3_1, hcz3_2, hcz3_3, hcz3_4, hfz3_0, hfz3_1, hfz3_2, hfz3_3, hfz3_4⟩ := bF Gy.out))
 go_loopg [3, 9] k (fun kq v3 v9 w' => ∃ (BI : Int) (jh : Int), v3 = .int .i64 BI ∧ v9 = .int .i64 jh ∧ aa (cZ.l0 kq BI af (af.length : Int) jh = some r) ∧ aa (kq ≤ k) ∧ aa (w'.heap[gb101]? = some (.cells #[.int .i64 ai, .int .i64 az, .int .i64 aA, .int .i64 ay, (.slice bq af.length bf)] 24 (0, 0))) ∧ aa (Below w.heap.size w w'))
 case atStart => exact ⟨(0), (0), rs_, rs_, H', ⟨Nat.le_refl _⟩, ⟨bk_⟩, ⟨bl_⟩⟩
 case round =>
  clear H'; (try clear p2); (try clear c3); (try clear hcz3_0 hcz3_1 hcz3_2 hcz3_3 hcz3_4 hfz3_0 hfz3_1 hfz3_2 hfz3_3 hfz3_4); obtain ⟨BI, jh, rfl, rfl, HA, HK1, Gy, HB⟩ := hrel; cases gk with
  | zero => exact absurd HA.out (by simp [cZ.l0])
  | succ k1 =>
   have H := HA.out; clear HA; simp only [cZ.l0] at H; by_cases c4 : jh < (af.length : Int)
   ·rw [if_pos c4] at H; have kM : decide (jh < (af.length : Int)) = true := decide_eq_true c4; clear c4; by_cases c5 : 0 ≤ jh
    ·rw [if_pos c5] at H; have p8 : decide (0 ≤ jh) = true := decide_eq_true c5; clear c5; by_cases c6 : jh < (af.length : Int)
     ·rw [if_pos c6] at H; have oN : decide (jh < (af.length : Int)) = true := decide_eq_true c6; clear c6; replace H := Option.bind_eq_some_iff.mp H; obtain ⟨t104, A70, H⟩ := H; replace H : (cZ.l0 k1 (mx BI t104) af (af.length : Int) (wrap64 (jh + 1))) = some r := H; have A7 := aa.mk A70; clear A70; obtain ⟨ji8, FN⟩ : ∃ j_ : Int, (mx BI t104) = j_ := ⟨_, rfl⟩; replace H : (cZ.l0 k1 ji8 af (af.length : Int) (wrap64 (jh + 1))) = some r := by first | (rw [FN] at H; exact H) | (simp only [FN] at H ⊢; exact H)
      (try rw [FN] at A7)
      have hji8_ : (if BI < t104 then t104 else BI) = ji8 := FN; have H' := aa.mk H; clear H; have p102 : 0 ≤ (jh : Int) := dt_; have q102 : jh < (af.length : Int) := dt_; obtain ⟨ad102, A102_4, c102_4, e102, Va, Vb, Vd, Ve, Vf, Vg, Vh⟩ := eX bV.out jh p102 q102; cases e102; replace Va := hc_ HB Va; replace Vb := hc_ HB Vb; replace Vd := hc_ HB Vd; replace Ve := hc_ HB Ve; replace Vf := hc_ HB Vf; have HR102_4 := aa.mk Vh; have HC102_4 := aa.mk Vg; clear Vh Vg; replace p102 := eq_true p102; replace q102 := eq_true q102; go_wp2_with (first | ((with_reducible refine aY (N := 5) rfl ?_); refine aZ ?hg (N := 5) ?hd (cs := #[.int .i64 0, .int .i64 0, .int .i64 0, .int .i64 0, .slice none 0 0]) (t := 24) ?hr ?_; (case hd => rfl); (case hg => rfl); (case hr => first | (go_simp; done) | (go_simp; rfl)); intro gb103 hg w9 aK hb; have BK103 := aa.mk (aK); have GW103 : aa (w.heap.size ≤ gb103) := gw_ hg (aG bl_); have GE103 := GW103; have zB := nl_ Gy hg; have X0 := ng_ Gy hg; replace Gy := kb_ Gy hb; replace HB := aa.mk (au bl_ hb); clear hb aK hg; have hnb10 := X0.out; have hnc10 := zB.out; obtain ⟨qp, qw, wT, wU, wV, qx, qy, wW, wX, wY⟩ := bF BK103.out) | ((with_reducible refine aN (f := 38) rfl ?_); refine bJ (some 15) rfl rfl Tryd.func38 (by kernel_rfl) rfl #[.agg #[.int .i64 ((ag af jh).f0), .int .i64 ((ag af jh).f1), .int .i64 ((ag af jh).f2), .int .i64 ((ag af jh).f3), .slice A102_4 ((ag af jh).f4).length c102_4]] rfl mp_ ?_; (with_reducible refine (ih k1 (by have := HK1.out; omega) ((ag af jh).f0) ((ag af jh).f1) ((ag af jh).f2) ((ag af jh).f3) _ _ ((ag af jh).f4) t104 _ ?aQ ?aT A7.out).mono ?_); (case aQ => exact Kd.bA HR102_4.out bl_); (case aT => exact HC102_4.out); rintro e w12 ⟨rfl, hb⟩; refine ⟨_, rfl, ?_⟩; replace Gy := aa.mk (gy (g := gb101) (o := .cells #[.int .i64 ai, .int .i64 az, .int .i64 aA, .int .i64 ay, .slice (some ad102) af.length bf] 24 (0, 0)) (by (with_reducible repeat (first | refine aj ?_ _ | refine ak ?_ | refine ah ?_ _)); refine bM ?_ zB.out _; (with_reducible repeat (first | refine aj ?_ _ | refine ak ?_ | refine ah ?_ _)); refine bM ?_ zB.out _; (with_reducible repeat (first | refine aj ?_ _ | refine ak ?_ | refine ah ?_ _)); refine bM ?_ zB.out _; (with_reducible repeat (first | refine aj ?_ _ | refine ak ?_ | refine ah ?_ _)); refine bM ?_ zB.out _; (with_reducible repeat (first | refine aj ?_ _ | refine ak ?_ | refine ah ?_ _)); refine bM ?_ zB.out _; (with_reducible repeat (first | refine aj ?_ _ | refine ak ?_ | refine ah ?_ _)); exact Gy.out) hb); replace BK103 := aa.mk (gy (g := gb103) (o := .cells #[.int .i64 ((ag af jh).f0), .int .i64 ((ag af jh).f1), .int .i64 ((ag af jh).f2), .int .i64 ((ag af jh).f3), .slice A102_4 ((ag af jh).f4).length c102_4] 24 (0, 0)) (by (with_reducible repeat (first | refine aj ?_ _ | refine ak ?_ | refine ah ?_ _)); refine bn (cs := #[.int .i64 ((ag af jh).f0), .int .i64 ((ag af jh).f1), .int .i64 ((ag af jh).f2), .int .i64 ((ag af jh).f3), .slice none 0 0]) ?_ 4 _ rfl; (with_reducible repeat (first | refine aj ?_ _ | refine ak ?_ | refine ah ?_ _)); refine bn (cs := #[.int .i64 ((ag af jh).f0), .int .i64 ((ag af jh).f1), .int .i64 ((ag af jh).f2), .int .i64 0, .slice none 0 0]) ?_ 3 _ rfl; (with_reducible repeat (first | refine aj ?_ _ | refine ak ?_ | refine ah ?_ _)); refine bn (cs := #[.int .i64 ((ag af jh).f0), .int .i64 ((ag af jh).f1), .int .i64 0, .int .i64 0, .slice none 0 0]) ?_ 2 _ rfl; (with_reducible repeat (first | refine aj ?_ _ | refine ak ?_ | refine ah ?_ _)); refine bn (cs := #[.int .i64 ((ag af jh).f0), .int .i64 0, .int .i64 0, .int .i64 0, .slice none 0 0]) ?_ 1 _ rfl; (with_reducible repeat (first | refine aj ?_ _ | refine ak ?_ | refine ah ?_ _)); refine bn (cs := #[.int .i64 0, .int .i64 0, .int .i64 0, .int .i64 0, .slice none 0 0]) ?_ 0 _ rfl; (with_reducible repeat (first | refine aj ?_ _ | refine ak ?_ | refine ah ?_ _)); exact BK103.out) hb); replace HB := aa.mk (au bl_ hb); (try clear hb); (try clear hb2); (try clear hk); (try clear hi)))
      go_roundg k1
      case measure => have := HK1.out; omega
      case rel => exact ⟨(ji8), (wrap64 (jh + 1)), (by first | rfl | (simp; done) | (simp only [← FN] <;> (first | rfl | simp)) | (simp [*]; done)), rs_, H', ⟨by have := HK1.out; omega⟩, ⟨bk_⟩, ⟨bl_⟩⟩
     ·rw [if_neg c6] at H; exact absurd H (by simp)
    ·rw [if_neg c5] at H; exact absurd H (by simp)
   ·rw [if_neg c4] at H; have kM : decide (jh < (af.length : Int)) = false := decide_eq_false c4; clear c4; obtain rfl := Option.some.inj H; go_wp2; go_ret; exact ⟨re_, bl_⟩

end Go.Proofs.YtggelekooacmnaaDoor.Q
namespace Go.Proofs.YtggelekooacmnaaDoor.Q
open Go.RowKit Go.Proofs.YtggelekooacmnaaDoorW.bg Go.Proofs.YtggelekooacmnaaDoorW.bP Go.Proofs.YtggelekooacmnaaDoorW.bX
attribute [local go_sem] ek eu fw fA dH dI eB eD   -- for this text's walks alone
set_option linter.unusedVariables false
set_option linter.unusedSimpArgs false

/-! ### iJ: function 69 -/
def iJ.f (ai : Int) (az : Int) (aA : Int) (ay : Int) (af : List (S24)) : Option (Bool) := if ai = 2 then (if ay = 0 then (some ((af.length : Int) != 0)) else (some true)) else (if ai = 6 then (if az = 0 then (some (aA != 0)) else (some true)) else (if ai = 5 then (if az = 0 then (if aA = 0 then (some (ay != 0)) else (some true)) else (some true)) else (if az = 0 then (if aA = 0 then (if ay = 0 then (some ((af.length : Int) != 0)) else (some true)) else (some true)) else (some true))))
set_option maxHeartbeats 8000000 in
set_option maxRecDepth 100000 in
theorem iJ.calls (ai : Int) (az : Int) (aA : Int) (ay : Int) (bq : Option Addr) (bf : Nat) (af : List (S24)) (r : Bool) (w : World) (dX : Kd.C k24 w bq af.length af) (dY : af.length ≤ bf) (h : iJ.f ai az aA ay af = some r) :
  Calls Tryd.prog 69 #[.agg #[.int .i64 ai, .int .i64 az, .int .i64 aA, .int .i64 ay, .slice bq af.length bf]] w fun e w' => e = .returned (.bool r) ∧ Below w.heap.size w w' := by
 have ou := Tryd.underlying24; have bV := aa.mk dX; have dz := aa.mk dY; clear dX dY; have HB := aa.mk (Below.refl w.heap.size w); have H : (if ai = 2 then (if ay = 0 then (some ((af.length : Int) != 0)) else (some true)) else (if ai = 6 then (if az = 0 then (some (aA != 0)) else (some true)) else (if ai = 5 then (if az = 0 then (if aA = 0 then (some (ay != 0)) else (some true)) else (some true)) else (if az = 0 then (if aA = 0 then (if ay = 0 then (some ((af.length : Int) != 0)) else (some true)) else (some true)) else (some true))))) = some r := h; clear h; by_cases c2 : ai = 2
 ·rw [if_pos c2] at H; have yL : (ai == 2) = true := beq_iff_eq.mpr c2; have Ay : (ai != 2) = false := bne_eq_false_iff_eq.mpr c2; clear c2; by_cases c3 : ay = 0
  ·rw [if_pos c3] at H; have j5 : (ay == 0) = true := beq_iff_eq.mpr c3; have oM : (ay != 0) = false := bne_eq_false_iff_eq.mpr c3; clear c3; obtain rfl := Option.some.inj H; go_enter Tryd.func69, Tryd.ntmps69; go_wp2_with (first | ((with_reducible refine aY (N := 1) rfl ?_); (try (refine bY (by rfl) ?_; dsimp only)); refine aZ ?hg (N := 1) ?hd (cs := #[.int .i64 ai, .int .i64 az, .int .i64 aA, .int .i64 ay, .slice bq af.length bf]) (t := 24) ?hr ?_; (case hd => rfl); (case hg => rfl); (case hr => first | (go_simp; done) | (go_simp; rfl)); intro nY hg w4 aK hb; have nZ := aa.mk (aK); have og : aa (w.heap.size ≤ nY) := gw_ hg (aG bl_); have CV := og; replace HB := aa.mk (au bl_ hb); clear hb aK hg; obtain ⟨FO, FP, FQ, FR, FT, FU, FV, FW, FX, FY⟩ := bF nZ.out))
   go_ret; exact ⟨re_, bl_⟩
  ·rw [if_neg c3] at H; have j5 : (ay == 0) = false := beq_eq_false_iff_ne.mpr c3; have oM : (ay != 0) = true := bne_iff_ne.mpr c3; obtain rfl := Option.some.inj H; go_enter Tryd.func69, Tryd.ntmps69; go_wp2_with (first | ((with_reducible refine aY (N := 1) rfl ?_); (try (refine bY (by rfl) ?_; dsimp only)); refine aZ ?hg (N := 1) ?hd (cs := #[.int .i64 ai, .int .i64 az, .int .i64 aA, .int .i64 ay, .slice bq af.length bf]) (t := 24) ?hr ?_; (case hd => rfl); (case hg => rfl); (case hr => first | (go_simp; done) | (go_simp; rfl)); intro nY hg w6 aK hb; have nZ := aa.mk (aK); have og : aa (w.heap.size ≤ nY) := gw_ hg (aG bl_); have CV := og; replace HB := aa.mk (au bl_ hb); clear hb aK hg; obtain ⟨Dj, Dk, J5, OT, OU, FZ, Dl, J6, OV, OW⟩ := bF nZ.out))
   go_ret; exact ⟨re_, bl_⟩
 ·rw [if_neg c2] at H; have yL : (ai == 2) = false := beq_eq_false_iff_ne.mpr c2; have Ay : (ai != 2) = true := bne_iff_ne.mpr c2; by_cases c8 : ai = 6
  ·rw [if_pos c8] at H; have tV : (ai == 6) = true := beq_iff_eq.mpr c8; have BJ : (ai != 6) = false := bne_eq_false_iff_eq.mpr c8; clear c8; by_cases c9 : az = 0
   ·rw [if_pos c9] at H; have vQ : (az == 0) = true := beq_iff_eq.mpr c9; have F3 : (az != 0) = false := bne_eq_false_iff_eq.mpr c9; clear c9; obtain rfl := Option.some.inj H; go_enter Tryd.func69, Tryd.ntmps69; go_wp2_with (first | ((with_reducible refine aY (N := 1) rfl ?_); (try (refine bY (by rfl) ?_; dsimp only)); refine aZ ?hg (N := 1) ?hd (cs := #[.int .i64 ai, .int .i64 az, .int .i64 aA, .int .i64 ay, .slice bq af.length bf]) (t := 24) ?hr ?_; (case hd => rfl); (case hg => rfl); (case hr => first | (go_simp; done) | (go_simp; rfl)); intro nY hg w10 aK hb; have nZ := aa.mk (aK); have og : aa (w.heap.size ≤ nY) := gw_ hg (aG bl_); have CV := og; replace HB := aa.mk (au bl_ hb); clear hb aK hg; obtain ⟨qp, qw, wT, wU, wV, qx, qy, wW, wX, wY⟩ := bF nZ.out))
    go_ret; exact ⟨re_, bl_⟩
   ·rw [if_neg c9] at H; have vQ : (az == 0) = false := beq_eq_false_iff_ne.mpr c9; have F3 : (az != 0) = true := bne_iff_ne.mpr c9; obtain rfl := Option.some.inj H; go_enter Tryd.func69, Tryd.ntmps69; go_wp2_with (first | ((with_reducible refine aY (N := 1) rfl ?_); (try (refine bY (by rfl) ?_; dsimp only)); refine aZ ?hg (N := 1) ?hd (cs := #[.int .i64 ai, .int .i64 az, .int .i64 aA, .int .i64 ay, .slice bq af.length bf]) (t := 24) ?hr ?_; (case hd => rfl); (case hg => rfl); (case hr => first | (go_simp; done) | (go_simp; rfl)); intro nY hg w12 aK hb; have nZ := aa.mk (aK); have og : aa (w.heap.size ≤ nY) := gw_ hg (aG bl_); have CV := og; replace HB := aa.mk (au bl_ hb); clear hb aK hg; obtain ⟨Lg, Lh, hcz13_2, hcz13_3, hcz13_4, Li, Lj, hfz13_2, hfz13_3, hfz13_4⟩ := bF nZ.out))
    go_ret; exact ⟨re_, bl_⟩
  ·rw [if_neg c8] at H; have tV : (ai == 6) = false := beq_eq_false_iff_ne.mpr c8; have BJ : (ai != 6) = true := bne_iff_ne.mpr c8; by_cases c14 : ai = 5
   ·rw [if_pos c14] at H; have rW : (ai == 5) = true := beq_iff_eq.mpr c14; have CW : (ai != 5) = false := bne_eq_false_iff_eq.mpr c14; clear c14; by_cases c15 : az = 0
    ·rw [if_pos c15] at H; have oZ : (az == 0) = true := beq_iff_eq.mpr c15; have CX : (az != 0) = false := bne_eq_false_iff_eq.mpr c15; clear c15; by_cases c16 : aA = 0
     ·rw [if_pos c16] at H; have c16b0 : (aA == 0) = true := beq_iff_eq.mpr c16; have c16b1 : (aA != 0) = false := bne_eq_false_iff_eq.mpr c16; clear c16; obtain rfl := Option.some.inj H; go_enter Tryd.func69, Tryd.ntmps69; go_wp2_with (first | ((with_reducible refine aY (N := 1) rfl ?_); (try (refine bY (by rfl) ?_; dsimp only)); refine aZ ?hg (N := 1) ?hd (cs := #[.int .i64 ai, .int .i64 az, .int .i64 aA, .int .i64 ay, .slice bq af.length bf]) (t := 24) ?hr ?_; (case hd => rfl); (case hg => rfl); (case hr => first | (go_simp; done) | (go_simp; rfl)); intro nY hg w17 aK hb; have nZ := aa.mk (aK); have og : aa (w.heap.size ≤ nY) := gw_ hg (aG bl_); have CV := og; replace HB := aa.mk (au bl_ hb); clear hb aK hg; obtain ⟨lT, lU, qz, qA, qB, lV, lW, qC, qD, qE⟩ := bF nZ.out))
      go_ret; exact ⟨re_, bl_⟩
     ·rw [if_neg c16] at H; have c16b0 : (aA == 0) = false := beq_eq_false_iff_ne.mpr c16; have c16b1 : (aA != 0) = true := bne_iff_ne.mpr c16; obtain rfl := Option.some.inj H; go_enter Tryd.func69, Tryd.ntmps69; go_wp2_with (first | ((with_reducible refine aY (N := 1) rfl ?_); (try (refine bY (by rfl) ?_; dsimp only)); refine aZ ?hg (N := 1) ?hd (cs := #[.int .i64 ai, .int .i64 az, .int .i64 aA, .int .i64 ay, .slice bq af.length bf]) (t := 24) ?hr ?_; (case hd => rfl); (case hg => rfl); (case hr => first | (go_simp; done) | (go_simp; rfl)); intro nY hg w19 aK hb; have nZ := aa.mk (aK); have og : aa (w.heap.size ≤ nY) := gw_ hg (aG bl_); have CV := og; replace HB := aa.mk (au bl_ hb); clear hb aK hg; obtain ⟨zC, zD, BK, BL, BM, zF, zG, BN, BO, BP⟩ := bF nZ.out))
      go_ret; exact ⟨re_, bl_⟩
    ·rw [if_neg c15] at H; have oZ : (az == 0) = false := beq_eq_false_iff_ne.mpr c15; have CX : (az != 0) = true := bne_iff_ne.mpr c15; obtain rfl := Option.some.inj H; go_enter Tryd.func69, Tryd.ntmps69; go_wp2_with (first | ((with_reducible refine aY (N := 1) rfl ?_); (try (refine bY (by rfl) ?_; dsimp only)); refine aZ ?hg (N := 1) ?hd (cs := #[.int .i64 ai, .int .i64 az, .int .i64 aA, .int .i64 ay, .slice bq af.length bf]) (t := 24) ?hr ?_; (case hd => rfl); (case hg => rfl); (case hr => first | (go_simp; done) | (go_simp; rfl)); intro nY hg w21 aK hb; have nZ := aa.mk (aK); have og : aa (w.heap.size ≤ nY) := gw_ hg (aG bl_); have CV := og; replace HB := aa.mk (au bl_ hb); clear hb aK hg; obtain ⟨su, sw, uU, uV, uW, sD, sF, uX, uY, uZ⟩ := bF nZ.out))
     go_ret; exact ⟨re_, bl_⟩
   ·rw [if_neg c14] at H; have rW : (ai == 5) = false := beq_eq_false_iff_ne.mpr c14; have CW : (ai != 5) = true := bne_iff_ne.mpr c14; by_cases c23 : az = 0
    ·rw [if_pos c23] at H; have rX : (az == 0) = true := beq_iff_eq.mpr c23; have AJ : (az != 0) = false := bne_eq_false_iff_eq.mpr c23; clear c23; by_cases c24 : aA = 0
     ·rw [if_pos c24] at H; have tX : (aA == 0) = true := beq_iff_eq.mpr c24; have OX : (aA != 0) = false := bne_eq_false_iff_eq.mpr c24; clear c24; by_cases c25 : ay = 0
      ·rw [if_pos c25] at H; have Jw : (ay == 0) = true := beq_iff_eq.mpr c25; have c25b1 : (ay != 0) = false := bne_eq_false_iff_eq.mpr c25; clear c25; obtain rfl := Option.some.inj H; go_enter Tryd.func69, Tryd.ntmps69; go_wp2_with (first | ((with_reducible refine aY (N := 1) rfl ?_); (try (refine bY (by rfl) ?_; dsimp only)); refine aZ ?hg (N := 1) ?hd (cs := #[.int .i64 ai, .int .i64 az, .int .i64 aA, .int .i64 ay, .slice bq af.length bf]) (t := 24) ?hr ?_; (case hd => rfl); (case hg => rfl); (case hr => first | (go_simp; done) | (go_simp; rfl)); intro nY hg w26 aK hb; have nZ := aa.mk (aK); have og : aa (w.heap.size ≤ nY) := gw_ hg (aG bl_); have CV := og; replace HB := aa.mk (au bl_ hb); clear hb aK hg; obtain ⟨wZ, xc, xe, xg, xh, xk, xm, xn, xq, xu⟩ := bF nZ.out))
       go_ret; exact ⟨re_, bl_⟩
      ·rw [if_neg c25] at H; have Jw : (ay == 0) = false := beq_eq_false_iff_ne.mpr c25; have c25b1 : (ay != 0) = true := bne_iff_ne.mpr c25; obtain rfl := Option.some.inj H; go_enter Tryd.func69, Tryd.ntmps69; go_wp2_with (first | ((with_reducible refine aY (N := 1) rfl ?_); (try (refine bY (by rfl) ?_; dsimp only)); refine aZ ?hg (N := 1) ?hd (cs := #[.int .i64 ai, .int .i64 az, .int .i64 aA, .int .i64 ay, .slice bq af.length bf]) (t := 24) ?hr ?_; (case hd => rfl); (case hg => rfl); (case hr => first | (go_simp; done) | (go_simp; rfl)); intro nY hg w28 aK hb; have nZ := aa.mk (aK); have og : aa (w.heap.size ≤ nY) := gw_ hg (aG bl_); have CV := og; replace HB := aa.mk (au bl_ hb); clear hb aK hg; obtain ⟨nE, nG, uE, uF, uG, nH, nI, uH, uI, uJ⟩ := bF nZ.out))
       go_ret; exact ⟨re_, bl_⟩
     ·rw [if_neg c24] at H; have tX : (aA == 0) = false := beq_eq_false_iff_ne.mpr c24; have OX : (aA != 0) = true := bne_iff_ne.mpr c24; obtain rfl := Option.some.inj H; go_enter Tryd.func69, Tryd.ntmps69; go_wp2_with (first | ((with_reducible refine aY (N := 1) rfl ?_); (try (refine bY (by rfl) ?_; dsimp only)); refine aZ ?hg (N := 1) ?hd (cs := #[.int .i64 ai, .int .i64 az, .int .i64 aA, .int .i64 ay, .slice bq af.length bf]) (t := 24) ?hr ?_; (case hd => rfl); (case hg => rfl); (case hr => first | (go_simp; done) | (go_simp; rfl)); intro nY hg w30 aK hb; have nZ := aa.mk (aK); have og : aa (w.heap.size ≤ nY) := gw_ hg (aG bl_); have CV := og; replace HB := aa.mk (au bl_ hb); clear hb aK hg; obtain ⟨hcz31_0, hcz31_1, hcz31_2, hcz31_3, hcz31_4, hfz31_0, hfz31_1, hfz31_2, hfz31_3, hfz31_4⟩ := bF nZ.out))
      go_ret; exact ⟨re_, bl_⟩
    ·rw [if_neg c23] at H; have rX : (az == 0) = false := beq_eq_false_iff_ne.mpr c23; have AJ : (az != 0) = true := bne_iff_ne.mpr c23; obtain rfl := Option.some.inj H; go_enter Tryd.func69, Tryd.ntmps69; go_wp2_with (first | ((with_reducible refine aY (N := 1) rfl ?_); (try (refine bY (by rfl) ?_; dsimp only)); refine aZ ?hg (N := 1) ?hd (cs := #[.int .i64 ai, .int .i64 az, .int .i64 aA, .int .i64 ay, .slice bq af.length bf]) (t := 24) ?hr ?_; (case hd => rfl); (case hg => rfl); (case hr => first | (go_simp; done) | (go_simp; rfl)); intro nY hg w32 aK hb; have nZ := aa.mk (aK); have og : aa (w.heap.size ≤ nY) := gw_ hg (aG bl_); have CV := og; replace HB := aa.mk (au bl_ hb); clear hb aK hg; obtain ⟨Em, En, Ll, Lm, Lp, Eo, Ep, Lr, Ls, Lt⟩ := bF nZ.out))
     go_ret; exact ⟨re_, bl_⟩

end Go.Proofs.YtggelekooacmnaaDoor.Q
