/- Lemmas for: Proved: the tied card of exactppllaw06.TypesTexts (for every input the law returns true). Conditions: none beyond the given row. -/
import Derived.Shelf.Strings.Builder1
import Derived.Shelf.Strings.Builder2
import Derived.Shelf.Strings.OnBuilder
import Derived.Shelf.Strconv.Itoa0
import Derived.Shelf.Strconv.Itoa1
import Derived.Shelf.LaysM
import Derived.Shelf.Strconv.Itoa2
import Derived.Shelf.Strconv.Itoa3
import Derived.Shelf.Slices.Equal
import Derived.Ground.Names2Prog
import Derived.Shelf.Slices.SearchI
import Derived.Test.YtggelekooacmnaaDoorProg
import Derived.Lib.AppendIntMem
import Derived.Below
import Derived.Deep.Draws
import Derived.Deep.AppendLies
import Derived.Maps.AppendAt
import Derived.OwnWalk
import Derived.Laws.BytesArg
import Derived.Laws.MakeOwn
import Derived.Laws.OwnMore
import Derived.Deep.OwnRows
import Derived.Tactics
import Derived.Lib.ConvBytes
import Derived.Laws.Slices
import Derived.WalkKit
import Derived.KernelRfl
import Derived.RowKit3
import Derived.Deep.LoopGhost
import Derived.Deep.QuietTactic
import Derived.BigQuiet
import Derived.WideLaws
import Derived.Deep.DeepCutAuto
import Derived.Deep.CutBlock
import Derived.Deep.RegionHeld3
import Derived.Laws.Rows
import Derived.Lib.AppendStr
import Derived.ArgAppend
import Derived.Laws.IdiomCopy
import Derived.OrdersHeld
import Derived.Laws.BitsLemmas
import Derived.RowKit
import Derived.Test.YtggelekooacmnaaDoorTt1
/-
  DERIVED: THE SHELF's CONTRACTS AT THIS DUMP, IN PLAIN WORDS (tools/lay-plain.mjs out of 'TrydShelf.lean', which tools/lay-shelf.mjs wrote): THE SAME DECLARATIONS UNDER THE SAME NAMES: 'import', 'namespace', 'open', 'def', 'theorem' AND NOTHING ELSE: no command of the shelf's: FOR A HAND-IN. Each laying: the table of numbers ('.._ren') and one theorem, a field a fact of the dump's own or the kernel's comparison; each contract: ONE APPLICATION.
-/
namespace Go.Proofs
open Go.Shelf
def Tryd.lays169_ren : Go.Shelf.Ren := ⟨fun | 169 => 91 | n => n, fun | 70 => 88 | 9 => 9 | 0 => 0 | 72 => 91 | 37 => 89 | 127 => 100 | 3 => 3 | 5 => 5 | n => n, fun | n => n⟩
theorem Tryd.lays169 : Go.Proofs.Lays.n169 Tryd.prog Tryd.lays169_ren := {
  mixed := by kernel_rfl
  f169 := Tryd.func91.trans (congrArg some (by kernel_rfl))
  t0 := Tryd.underlying0
  a0 := Tryd.isAgg0
  z0 := Tryd.sizeOf0
  v0 := Tryd.zeroValue0
  t3 := Tryd.underlying3
  a3 := Tryd.isAgg3
  z3 := Tryd.sizeOf3
  v3 := Tryd.zeroValue3
  t9 := Tryd.underlying9
  a9 := Tryd.isAgg9
  z9 := Tryd.sizeOf9
  v9 := Tryd.zeroValue9
  t37 := Tryd.underlying89
  a37 := Tryd.isAgg89
  z37 := Tryd.sizeOf89
  v37 := Tryd.zeroValue89
  t70 := Tryd.underlying88
  a70 := Tryd.isAgg88
  z70 := Tryd.sizeOf88
  v70 := Tryd.zeroValue88
  t72 := Tryd.underlying91
  a72 := Tryd.isAgg91
  z72 := Tryd.sizeOf91
  v72 := Tryd.zeroValue91
  t127 := Tryd.underlying100
  a127 := Tryd.isAgg100
  z127 := Tryd.sizeOf100
  v127 := Tryd.zeroValue100 }
theorem Tryd.Builder_Extra_169 : Builder.Extra Tryd.prog Tryd.lays169_ren := {
  sizeBuilder := by kernel_rfl
  liesBuilder := by kernel_rfl
  t5 := Tryd.underlying5
  a5 := Tryd.isAgg5
  z5 := Tryd.sizeOf5
  v5 := Tryd.zeroValue5
  infoByte := by kernel_rfl
  cellsByte := by kernel_rfl
  sizeByte := by kernel_rfl
  neB5 := by decide }
open Go.RowKit in
/-- (*strings.Builder).String: "String returns the accumulated string.": OF A BUILDER THAT HOLDS AT LEAST ONE BYTE. ✋ THE MODEL FREEZES THOSE BYTES IN THE BUFFER (unsafe.String): a later write INTO them ends the model's run without an answer; a later append BEHIND them goes on. The statement's order of evaluation is drawn: one draw. (LAID: no walk: one application.) -/
theorem Tryd.Builder_String (B b : Nat) (l : List UInt8) (w : World) (h : Lib.IsBuilder 91 5 B b (Lib.byteCells l) w) (h0 : l ≠ []) :
    Calls Tryd.prog 91 #[.pointer (some ⟨b, 0, none⟩)] w fun e w' => e = .returned (.string ⟨l.toArray⟩) ∧ Below B w w' := Any.Builder_String Tryd.lays169 Tryd.Builder_Extra_169 B b l w h h0
open Go.RowKit in
/-- (*strings.Builder).String OF A BUILDER THAT HOLDS NO BYTE: the empty string. (Its buffer is nil, or a row of which it has taken nothing yet; where that row has NO capacity the model lays one new block for unsafe.SliceData's 'some address'.) One draw. (LAID: no walk: one application.) -/
theorem Tryd.Builder_String_empty (B b : Nat) (w : World) (h : Lib.IsBuilder 91 5 B b [] w) (hBw : B ≤ w.heap.size) :
    Calls Tryd.prog 91 #[.pointer (some ⟨b, 0, none⟩)] w fun e w' => e = .returned (.string ⟨#[]⟩) ∧ Below B w w' := Any.Builder_String_empty Tryd.lays169 Tryd.Builder_Extra_169 B b w h hBw
open Go.RowKit in
/-- (*strings.Builder).String: "String returns the accumulated string.": WHATEVER THE BUILDER HOLDS. (LAID: no walk: one application.) -/
theorem Tryd.Builder_String_any (B b : Nat) (l : List UInt8) (w : World) (h : Lib.IsBuilder 91 5 B b (Lib.byteCells l) w) (hBw : B ≤ w.heap.size) :
    Calls Tryd.prog 91 #[.pointer (some ⟨b, 0, none⟩)] w fun e w' => e = .returned (.string ⟨l.toArray⟩) ∧ Below B w w' := Any.Builder_String_any Tryd.lays169 Tryd.Builder_Extra_169 B b l w h hBw
def Tryd.lays241_ren : Go.Shelf.Ren := ⟨fun | 241 => 98 | 277 => 106 | n => n, fun | 70 => 88 | 3 => 3 | 0 => 0 | 72 => 91 | 37 => 89 | 5 => 5 | n => n, fun | n => n⟩
theorem Tryd.lays241 : Go.Proofs.Lays.n241 Tryd.prog Tryd.lays241_ren := {
  mixed := by kernel_rfl
  f241 := Tryd.func98.trans (congrArg some (by kernel_rfl))
  f277 := Tryd.func106.trans (congrArg some (by kernel_rfl))
  t0 := Tryd.underlying0
  a0 := Tryd.isAgg0
  z0 := Tryd.sizeOf0
  v0 := Tryd.zeroValue0
  t3 := Tryd.underlying3
  a3 := Tryd.isAgg3
  z3 := Tryd.sizeOf3
  v3 := Tryd.zeroValue3
  t37 := Tryd.underlying89
  a37 := Tryd.isAgg89
  z37 := Tryd.sizeOf89
  v37 := Tryd.zeroValue89
  t70 := Tryd.underlying88
  a70 := Tryd.isAgg88
  z70 := Tryd.sizeOf88
  v70 := Tryd.zeroValue88
  t72 := Tryd.underlying91
  a72 := Tryd.isAgg91
  z72 := Tryd.sizeOf91
  v72 := Tryd.zeroValue91 }
theorem Tryd.Builder_Extra_241 : Builder.Extra Tryd.prog Tryd.lays241_ren := {
  sizeBuilder := by kernel_rfl
  liesBuilder := by kernel_rfl
  t5 := Tryd.underlying5
  a5 := Tryd.isAgg5
  z5 := Tryd.sizeOf5
  v5 := Tryd.zeroValue5
  infoByte := by kernel_rfl
  cellsByte := by kernel_rfl
  sizeByte := by kernel_rfl
  neB5 := by decide }
open Go.RowKit in
/-- (*strings.Builder).grow (no doc but "grow copies the buffer to a new, larger buffer so that there are at least n bytes of capacity beyond len(b.buf)."): AT A BUILDER WITHOUT A BUFFER: a new row of whatever bytes for its buffer, none of them its own yet. Three draws. (LAID: no walk: one application.) -/
theorem Tryd.Builder_grow_fresh (B b n : Nat) (w : World) (hB : B ≤ b) (hbk : w.heap[b]? = some (.cells #[.pointer (some ⟨b, 0, none⟩), .slice none 0 0] 91 (0, 0))) (hBw : B ≤ w.heap.size) (hn : n ≤ 281474976710656) :
    Calls Tryd.prog 98 #[.pointer (some ⟨b, 0, none⟩), .int .i64 n] w fun e w' => e = .returned (.tuple #[]) ∧ (Lib.BuilderAt 91 5 B b (.pointer (some ⟨b, 0, none⟩)) [] w' ∧ Below B w w') := Any.Builder_grow_fresh Tryd.lays241 Tryd.Builder_Extra_241 B b n w hB hbk hBw hn
def Tryd.lays165_ren : Go.Shelf.Ren := ⟨fun | 165 => 89 | 240 => 97 | 241 => 98 | 276 => 105 | 277 => 106 | n => n, fun | 70 => 88 | 3 => 3 | 0 => 0 | 4 => 4 | 9 => 9 | 20 => 20 | 72 => 91 | 37 => 89 | 164 => 112 | 5 => 5 | n => n, fun | n => n⟩
theorem Tryd.lays165 : Go.Proofs.Lays.n165 Tryd.prog Tryd.lays165_ren := {
  mixed := by kernel_rfl
  f165 := Tryd.func89.trans (congrArg some (by kernel_rfl))
  f240 := Tryd.func97.trans (congrArg some (by kernel_rfl))
  f241 := Tryd.func98.trans (congrArg some (by kernel_rfl))
  f276 := Tryd.func105.trans (congrArg some (by kernel_rfl))
  f277 := Tryd.func106.trans (congrArg some (by kernel_rfl))
  t0 := Tryd.underlying0
  a0 := Tryd.isAgg0
  z0 := Tryd.sizeOf0
  v0 := Tryd.zeroValue0
  t3 := Tryd.underlying3
  a3 := Tryd.isAgg3
  z3 := Tryd.sizeOf3
  v3 := Tryd.zeroValue3
  t4 := Tryd.underlying4
  a4 := Tryd.isAgg4
  z4 := Tryd.sizeOf4
  v4 := Tryd.zeroValue4
  t9 := Tryd.underlying9
  a9 := Tryd.isAgg9
  z9 := Tryd.sizeOf9
  v9 := Tryd.zeroValue9
  t20 := Tryd.underlying20
  a20 := Tryd.isAgg20
  z20 := Tryd.sizeOf20
  v20 := Tryd.zeroValue20
  t37 := Tryd.underlying89
  a37 := Tryd.isAgg89
  z37 := Tryd.sizeOf89
  v37 := Tryd.zeroValue89
  t70 := Tryd.underlying88
  a70 := Tryd.isAgg88
  z70 := Tryd.sizeOf88
  v70 := Tryd.zeroValue88
  t72 := Tryd.underlying91
  a72 := Tryd.isAgg91
  z72 := Tryd.sizeOf91
  v72 := Tryd.zeroValue91
  t164 := Tryd.underlying112
  a164 := Tryd.isAgg112
  z164 := Tryd.sizeOf112
  v164 := Tryd.zeroValue112 }
theorem Tryd.Builder_Extra_165 : Builder.Extra Tryd.prog Tryd.lays165_ren := {
  sizeBuilder := by kernel_rfl
  liesBuilder := by kernel_rfl
  t5 := Tryd.underlying5
  a5 := Tryd.isAgg5
  z5 := Tryd.sizeOf5
  v5 := Tryd.zeroValue5
  infoByte := by kernel_rfl
  cellsByte := by kernel_rfl
  sizeByte := by kernel_rfl
  neB5 := by decide }
open Go.RowKit in
/-- (*strings.Builder).Grow AT A BUILDER THAT HAS NOT BEEN WRITTEN ('var b strings.Builder; b.Grow(n)'): "Grow grows b's capacity, if necessary, to guarantee space for another n bytes.": it holds no byte behind it as before it. (LAID: no walk: one application.) -/
theorem Tryd.Builder_Grow_fresh (B b n : Nat) (w : World) (hB : B ≤ b) (hbk : w.heap[b]? = some (.cells #[.pointer none, .slice none 0 0] 91 (0, 0))) (hBw : B ≤ w.heap.size) (hn : n ≤ 281474976710656) :
    Calls Tryd.prog 89 #[.pointer (some ⟨b, 0, none⟩), .int .i64 n] w fun e w' => e = .returned (.tuple #[]) ∧ (Lib.BuilderAt 91 5 B b (.pointer (some ⟨b, 0, none⟩)) [] w' ∧ Below B w w') := Any.Builder_Grow_fresh Tryd.lays165 Tryd.Builder_Extra_165 B b n w hB hbk hBw hn
def Tryd.lays156_ren : Go.Shelf.Ren := ⟨fun | 156 => 72 | 165 => 89 | 166 => 90 | 169 => 91 | 240 => 97 | 241 => 98 | 276 => 105 | 277 => 106 | n => n, fun | 31 => 79 | 9 => 9 | 3 => 3 | 4 => 4 | 0 => 0 | 20 => 20 | 72 => 91 | 76 => 95 | 70 => 88 | 37 => 89 | 75 => 94 | 127 => 100 | 164 => 112 | 5 => 5 | 80 => 97 | n => n, fun | n => n⟩
theorem Tryd.lays156 : Go.Proofs.Lays.n156 Tryd.prog Tryd.lays156_ren := {
  mixed := by kernel_rfl
  f156 := Tryd.func72.trans (congrArg some (by kernel_rfl))
  f165 := Tryd.func89.trans (congrArg some (by kernel_rfl))
  f166 := Tryd.func90.trans (congrArg some (by kernel_rfl))
  f169 := Tryd.func91.trans (congrArg some (by kernel_rfl))
  f240 := Tryd.func97.trans (congrArg some (by kernel_rfl))
  f241 := Tryd.func98.trans (congrArg some (by kernel_rfl))
  f276 := Tryd.func105.trans (congrArg some (by kernel_rfl))
  f277 := Tryd.func106.trans (congrArg some (by kernel_rfl))
  t0 := Tryd.underlying0
  a0 := Tryd.isAgg0
  z0 := Tryd.sizeOf0
  v0 := Tryd.zeroValue0
  t3 := Tryd.underlying3
  a3 := Tryd.isAgg3
  z3 := Tryd.sizeOf3
  v3 := Tryd.zeroValue3
  t4 := Tryd.underlying4
  a4 := Tryd.isAgg4
  z4 := Tryd.sizeOf4
  v4 := Tryd.zeroValue4
  t9 := Tryd.underlying9
  a9 := Tryd.isAgg9
  z9 := Tryd.sizeOf9
  v9 := Tryd.zeroValue9
  t20 := Tryd.underlying20
  a20 := Tryd.isAgg20
  z20 := Tryd.sizeOf20
  v20 := Tryd.zeroValue20
  t31 := Tryd.underlying79
  a31 := Tryd.isAgg79
  z31 := Tryd.sizeOf79
  v31 := Tryd.zeroValue79
  t37 := Tryd.underlying89
  a37 := Tryd.isAgg89
  z37 := Tryd.sizeOf89
  v37 := Tryd.zeroValue89
  t70 := Tryd.underlying88
  a70 := Tryd.isAgg88
  z70 := Tryd.sizeOf88
  v70 := Tryd.zeroValue88
  t72 := Tryd.underlying91
  a72 := Tryd.isAgg91
  z72 := Tryd.sizeOf91
  v72 := Tryd.zeroValue91
  t75 := Tryd.underlying94
  a75 := Tryd.isAgg94
  z75 := Tryd.sizeOf94
  v75 := Tryd.zeroValue94
  t76 := Tryd.underlying95
  a76 := Tryd.isAgg95
  z76 := Tryd.sizeOf95
  v76 := Tryd.zeroValue95
  t127 := Tryd.underlying100
  a127 := Tryd.isAgg100
  z127 := Tryd.sizeOf100
  v127 := Tryd.zeroValue100
  t164 := Tryd.underlying112
  a164 := Tryd.isAgg112
  z164 := Tryd.sizeOf112
  v164 := Tryd.zeroValue112 }
theorem Tryd.Builder_Extra_156 : Builder.Extra Tryd.prog Tryd.lays156_ren := {
  sizeBuilder := by kernel_rfl
  liesBuilder := by kernel_rfl
  t5 := Tryd.underlying5
  a5 := Tryd.isAgg5
  z5 := Tryd.sizeOf5
  v5 := Tryd.zeroValue5
  infoByte := by kernel_rfl
  cellsByte := by kernel_rfl
  sizeByte := by kernel_rfl
  neB5 := by decide }
open Go.RowKit in
/-- No element: the empty string; the world is as it was. (Whatever the slice's address and capacity: a nil slice too.) (LAID: no walk: one application.) -/
theorem Tryd.strings_Join_none (a : Option Addr) (c : Nat) (sep : ByteArray) (w : World) :
    Calls Tryd.prog 72 #[.slice a 0 c, .string sep] w fun e w' => e = .returned (.string ⟨#[]⟩) ∧ w' = w := Any.strings_Join_none Tryd.lays156 Tryd.Builder_Extra_156 a c sep w
open Go.RowKit in
/-- strings.Join: "Join concatenates the elements of its first argument to create a single string. The separator string sep is placed between elements in the resulting string.": HOWEVER MANY ELEMENTS. Below the heap's end the world is as it was. (LAID: no walk: one application.) -/
theorem Tryd.strings_Join (bk o c : Nat) (xs : List ByteArray) (sep : ByteArray) (w : World) (hcells : ∀ (j : Nat) x, xs[j]? = some x → w.cell? ⟨bk, o + j, none⟩ = some (.string x)) (hbk : bk < w.heap.size) (hN : xs.length ≤ 140737488355328) (hcap : xs.length ≤ c) (hlen : (Lib.join (xs.map (·.data.toList)) sep.data.toList).length ≤ 140737488355328) :
    Calls Tryd.prog 72 #[.slice (some ⟨bk, o, none⟩) xs.length c, .string sep] w fun e w' => e = .returned (.string ⟨(Lib.join (xs.map (·.data.toList)) sep.data.toList).toArray⟩) ∧ Below w.heap.size w w' := Any.strings_Join Tryd.lays156 Tryd.Builder_Extra_156 bk o c xs sep w hcells hbk hN hcap hlen
def Tryd.lays129_ren : Go.Shelf.Ren := ⟨fun | 129 => 112 | n => n, fun | 53 => 107 | 3 => 3 | 4 => 4 | 46 => 124 | 5 => 5 | 9 => 9 | n => n, fun | n => n⟩
theorem Tryd.lays129 : Go.Proofs.Lays.n129 Tryd.prog Tryd.lays129_ren := {
  mixed := by kernel_rfl
  f129 := Tryd.func112.trans (congrArg some (by kernel_rfl))
  t3 := Tryd.underlying3
  a3 := Tryd.isAgg3
  z3 := Tryd.sizeOf3
  v3 := Tryd.zeroValue3
  t4 := Tryd.underlying4
  a4 := Tryd.isAgg4
  z4 := Tryd.sizeOf4
  v4 := Tryd.zeroValue4
  t5 := Tryd.underlying5
  a5 := Tryd.isAgg5
  z5 := Tryd.sizeOf5
  v5 := Tryd.zeroValue5
  t9 := Tryd.underlying9
  a9 := Tryd.isAgg9
  z9 := Tryd.sizeOf9
  v9 := Tryd.zeroValue9
  t46 := Tryd.underlying124
  a46 := Tryd.isAgg124
  z46 := Tryd.sizeOf124
  v46 := Tryd.zeroValue124
  t53 := Tryd.underlying107
  a53 := Tryd.isAgg107
  z53 := Tryd.sizeOf107
  v53 := Tryd.zeroValue107 }
/-- bits.Len64: "Len64 returns the minimum number of bits required to represent x; the result is 0 for x == 0.": IT RETURNS 'Lib.bitLen x'; the world is as it was. ('h0', 'h1': x is a uint64.) (LAID: no walk: one application.) -/
theorem Tryd.bits_Len64 (x : Int) (w : World) (h0 : 0 ≤ x) (h1 : x ≤ 18446744073709551615) :
    Calls Tryd.prog 112 #[.int .u64 x] w fun e w' => e = .returned (.int .i64 (Lib.bitLen x.toNat)) ∧ w' = w := Any.bits_Len64 Tryd.lays129 x w h0 h1
def Tryd.lays317_ren : Go.Shelf.Ren := ⟨fun | 317 => 111 | n => n, fun | 3 => 3 | 46 => 124 | n => n, fun | n => n⟩
theorem Tryd.lays317 : Go.Proofs.Lays.n317 Tryd.prog Tryd.lays317_ren := {
  mixed := by kernel_rfl
  f317 := Tryd.func111.trans (congrArg some (by kernel_rfl))
  t3 := Tryd.underlying3
  a3 := Tryd.isAgg3
  z3 := Tryd.sizeOf3
  v3 := Tryd.zeroValue3
  t46 := Tryd.underlying124
  a46 := Tryd.isAgg124
  z46 := Tryd.sizeOf124
  v46 := Tryd.zeroValue124 }
open Go.Lib in
/-- internal/strconv.log10Pow2: "log10Pow2(x) returns ⌊log₁₀ 2**x⌋ = ⌊x * log₁₀ 2⌋.": '(x * 78913) >> 18', at an x up to 64 (a length in bits). The world is as it was. (LAID: no walk: one application.) -/
theorem Tryd.internal_strconv_log10Pow2 (x : Nat) (h : x ≤ 64) (w : World) :
    Calls Tryd.prog 111 #[.int .i64 x] w fun e w' => e = .returned (.int .i64 (Lib.l10 x)) ∧ w' = w := Any.internal_strconv_log10Pow2 Tryd.lays317 x h w
def Tryd.lays318_ren : Go.Shelf.Ren := ⟨fun | 318 => 113 | n => n, fun | 3 => 3 | 4 => 4 | n => n, fun | n => n⟩
theorem Tryd.lays318 : Go.Proofs.Lays.n318 Tryd.prog Tryd.lays318_ren := {
  mixed := by kernel_rfl
  f318 := Tryd.func113.trans (congrArg some (by kernel_rfl))
  t3 := Tryd.underlying3
  a3 := Tryd.isAgg3
  z3 := Tryd.sizeOf3
  v3 := Tryd.zeroValue3
  t4 := Tryd.underlying4
  a4 := Tryd.isAgg4
  z4 := Tryd.sizeOf4
  v4 := Tryd.zeroValue4 }
open Go.Lib in
/-- internal/strconv.bool2: "bool2 converts b to an integer: 1 for true, 0 for false." The world is as it was. (LAID: no walk: one application.) -/
theorem Tryd.internal_strconv_bool2_int (b : Bool) (w : World) :
    Calls Tryd.prog 113 #[.bool b] w fun e w' => e = .returned (.int .i64 (if b then 1 else 0)) ∧ w' = w := Any.internal_strconv_bool2_int Tryd.lays318 b w
def Tryd.lays283_ren : Go.Shelf.Ren := ⟨fun | 283 => 101 | n => n, fun | 3 => 3 | 9 => 9 | 4 => 4 | n => n, fun | n => n⟩
theorem Tryd.lays283 : Go.Proofs.Lays.n283 Tryd.prog Tryd.lays283_ren := {
  mixed := by kernel_rfl
  f283 := Tryd.func101.trans (congrArg some (by kernel_rfl))
  t3 := Tryd.underlying3
  a3 := Tryd.isAgg3
  z3 := Tryd.sizeOf3
  v3 := Tryd.zeroValue3
  t4 := Tryd.underlying4
  a4 := Tryd.isAgg4
  z4 := Tryd.sizeOf4
  v4 := Tryd.zeroValue4
  t9 := Tryd.underlying9
  a9 := Tryd.isAgg9
  z9 := Tryd.sizeOf9
  v9 := Tryd.zeroValue9 }
open Go.Lib in
/-- internal/strconv.small: "small returns the string for an i with 0 <= i < nSmalls.": i's decimal numeral. The world is as it was. (LAID: no walk: one application.) -/
theorem Tryd.internal_strconv_small (i : Nat) (h : i < 100) (w : World) :
    Calls Tryd.prog 101 #[.int .i64 i] w fun e w' => e = .returned (.string ⟨(Lib.decDigits i).toArray⟩) ∧ w' = w := Any.internal_strconv_small Tryd.lays283 i h w
def Tryd.laysM284_ren : Go.Shelf.Ren := ⟨fun | 284 => 102 | 129 => 112 | 317 => 111 | 318 => 113 | n => n, fun | 53 => 107 | 3 => 3 | 212 => 122 | 0 => 0 | 4 => 4 | 46 => 124 | 5 => 5 | 9 => 9 | n => n, fun | 17 => 0 | n => n⟩
theorem Tryd.laysM284 : Go.Proofs.LaysM.n284 Tryd.prog Tryd.laysM284_ren := {
  mixed := by kernel_rfl
  f129 := Tryd.func112.trans (congrArg some (by kernel_rfl))
  f284 := Tryd.func102.trans (congrArg some (by kernel_rfl))
  f317 := Tryd.func111.trans (congrArg some (by kernel_rfl))
  f318 := Tryd.func113.trans (congrArg some (by kernel_rfl))
  t0 := Tryd.underlying0
  a0 := Tryd.isAgg0
  z0 := Tryd.sizeOf0
  v0 := Tryd.zeroValue0
  t3 := Tryd.underlying3
  a3 := Tryd.isAgg3
  z3 := Tryd.sizeOf3
  v3 := Tryd.zeroValue3
  t4 := Tryd.underlying4
  a4 := Tryd.isAgg4
  z4 := Tryd.sizeOf4
  v4 := Tryd.zeroValue4
  t5 := Tryd.underlying5
  a5 := Tryd.isAgg5
  z5 := Tryd.sizeOf5
  v5 := Tryd.zeroValue5
  t9 := Tryd.underlying9
  a9 := Tryd.isAgg9
  z9 := Tryd.sizeOf9
  v9 := Tryd.zeroValue9
  t46 := Tryd.underlying124
  a46 := Tryd.isAgg124
  z46 := Tryd.sizeOf124
  v46 := Tryd.zeroValue124
  t53 := Tryd.underlying107
  a53 := Tryd.isAgg107
  z53 := Tryd.sizeOf107
  v53 := Tryd.zeroValue107
  t212 := Tryd.underlying122
  a212 := Tryd.isAgg122
  z212 := Tryd.sizeOf122
  v212 := Tryd.zeroValue122
  g17 := by kernel_rfl
  i0 := by kernel_rfl
  i3 := by kernel_rfl
  i4 := by kernel_rfl
  i5 := by kernel_rfl
  i9 := by kernel_rfl
  i46 := by kernel_rfl
  i53 := by kernel_rfl
  i212 := by kernel_rfl
  m17 := by kernel_rfl }
open Go.Lib in
/-- internal/strconv.numDigits, at a d that is not 0: THE NUMBER OF d's DECIMAL DIGITS. The world is as it was. (LAID: no walk: one application.) -/
theorem Tryd.internal_strconv_numDigits (u : Nat) (h1 : 1 ≤ u) (h2 : u < 18446744073709551616) (w : World) (htab : Lib.TabIs Tryd.prog w "internal/strconv.uint64pow10" .u64 Lib.pow10Tab) :
    Calls Tryd.prog 102 #[.int .u64 u] w fun e w' => e = .returned (.int .i64 (Lib.nDigits u)) ∧ w' = w := Any.internal_strconv_numDigits Tryd.laysM284 u h1 h2 w htab
def Tryd.lays285_ren : Go.Shelf.Ren := ⟨fun | 285 => 103 | n => n, fun | 37 => 89 | 53 => 107 | 3 => 3 | 4 => 4 | 51 => 119 | 9 => 9 | 5 => 5 | 0 => 0 | n => n, fun | n => n⟩
theorem Tryd.lays285 : Go.Proofs.Lays.n285 Tryd.prog Tryd.lays285_ren := {
  mixed := by kernel_rfl
  f285 := Tryd.func103.trans (congrArg some (by kernel_rfl))
  t0 := Tryd.underlying0
  a0 := Tryd.isAgg0
  z0 := Tryd.sizeOf0
  v0 := Tryd.zeroValue0
  t3 := Tryd.underlying3
  a3 := Tryd.isAgg3
  z3 := Tryd.sizeOf3
  v3 := Tryd.zeroValue3
  t4 := Tryd.underlying4
  a4 := Tryd.isAgg4
  z4 := Tryd.sizeOf4
  v4 := Tryd.zeroValue4
  t5 := Tryd.underlying5
  a5 := Tryd.isAgg5
  z5 := Tryd.sizeOf5
  v5 := Tryd.zeroValue5
  t9 := Tryd.underlying9
  a9 := Tryd.isAgg9
  z9 := Tryd.sizeOf9
  v9 := Tryd.zeroValue9
  t37 := Tryd.underlying89
  a37 := Tryd.isAgg89
  z37 := Tryd.sizeOf89
  v37 := Tryd.zeroValue89
  t51 := Tryd.underlying119
  a51 := Tryd.isAgg119
  z51 := Tryd.sizeOf119
  v51 := Tryd.zeroValue119
  t53 := Tryd.underlying107
  a53 := Tryd.isAgg107
  z53 := Tryd.sizeOf107
  v53 := Tryd.zeroValue107 }
open Go.RowKit Go.Sort Go.Lib in
/-- internal/strconv.formatBase10: "formatBase10 formats the decimal representation of u into a. The caller is responsible for ensuring that a is big enough to hold u. If a is too big, leading zeros will be filled in as needed.": THE ROW HOLDS u's DIGITS ('FmtInv .. 0 ..': every place t holds 'dg u (len - 1 - t)'); all else is as it was but for the count of draws. (LAID: no walk: one application.) -/
theorem Tryd.internal_strconv_formatBase10 (blk off cap : Nat) (u : Nat) (d : Array UInt8) (w : World) (hH : Holds (fun (b : UInt8) => Value.int .u8 (b.toNat : Int)) w blk off d) (hu : u < 10 ^ d.size) (hu64 : u < 18446744073709551616) (hsz : d.size < 4611686018427387904) :
    Calls Tryd.prog 103 #[.slice (some ⟨blk, off, none⟩) d.size cap, .int .u64 u] w fun e w' =>
      e = .returned (.tuple #[]) ∧ ∃ (n v' : Nat) (dk : Array UInt8), w' = (putRow (fun (b : UInt8) => Value.int .u8 (b.toNat : Int)) w blk off dk).drewN n ∧ FmtInv d.size u 0 v' dk := Any.internal_strconv_formatBase10 Tryd.lays285 blk off cap u d w hH hu hu64 hsz
def Tryd.laysM246_ren : Go.Shelf.Ren := ⟨fun | 246 => 96 | 283 => 101 | 284 => 102 | 285 => 103 | 286 => 104 | 129 => 112 | 317 => 111 | 318 => 113 | 319 => 114 | 320 => 115 | 337 => 119 | 338 => 120 | n => n, fun | 2 => 2 | 3 => 3 | 9 => 9 | 4 => 4 | 171 => 106 | 0 => 0 | 53 => 107 | 37 => 89 | 5 => 5 | 173 => 110 | 212 => 122 | 51 => 119 | 20 => 20 | 213 => 123 | 46 => 124 | 232 => 133 | 233 => 134 | n => n, fun | 17 => 0 | 18 => 2 | 19 => 3 | n => n⟩
theorem Tryd.laysM246 : Go.Proofs.LaysM.n246 Tryd.prog Tryd.laysM246_ren := {
  mixed := by kernel_rfl
  f129 := Tryd.func112.trans (congrArg some (by kernel_rfl))
  f246 := Tryd.func96.trans (congrArg some (by kernel_rfl))
  f283 := Tryd.func101.trans (congrArg some (by kernel_rfl))
  f284 := Tryd.func102.trans (congrArg some (by kernel_rfl))
  f285 := Tryd.func103.trans (congrArg some (by kernel_rfl))
  f286 := Tryd.func104.trans (congrArg some (by kernel_rfl))
  f317 := Tryd.func111.trans (congrArg some (by kernel_rfl))
  f318 := Tryd.func113.trans (congrArg some (by kernel_rfl))
  f319 := Tryd.func114.trans (congrArg some (by kernel_rfl))
  f320 := Tryd.func115.trans (congrArg some (by kernel_rfl))
  f337 := Tryd.func119.trans (congrArg some (by kernel_rfl))
  f338 := Tryd.func120.trans (congrArg some (by kernel_rfl))
  t0 := Tryd.underlying0
  a0 := Tryd.isAgg0
  z0 := Tryd.sizeOf0
  v0 := Tryd.zeroValue0
  t2 := Tryd.underlying2
  a2 := Tryd.isAgg2
  z2 := Tryd.sizeOf2
  v2 := Tryd.zeroValue2
  t3 := Tryd.underlying3
  a3 := Tryd.isAgg3
  z3 := Tryd.sizeOf3
  v3 := Tryd.zeroValue3
  t4 := Tryd.underlying4
  a4 := Tryd.isAgg4
  z4 := Tryd.sizeOf4
  v4 := Tryd.zeroValue4
  t5 := Tryd.underlying5
  a5 := Tryd.isAgg5
  z5 := Tryd.sizeOf5
  v5 := Tryd.zeroValue5
  t9 := Tryd.underlying9
  a9 := Tryd.isAgg9
  z9 := Tryd.sizeOf9
  v9 := Tryd.zeroValue9
  t20 := Tryd.underlying20
  a20 := Tryd.isAgg20
  z20 := Tryd.sizeOf20
  v20 := Tryd.zeroValue20
  t37 := Tryd.underlying89
  a37 := Tryd.isAgg89
  z37 := Tryd.sizeOf89
  v37 := Tryd.zeroValue89
  t46 := Tryd.underlying124
  a46 := Tryd.isAgg124
  z46 := Tryd.sizeOf124
  v46 := Tryd.zeroValue124
  t51 := Tryd.underlying119
  a51 := Tryd.isAgg119
  z51 := Tryd.sizeOf119
  v51 := Tryd.zeroValue119
  t53 := Tryd.underlying107
  a53 := Tryd.isAgg107
  z53 := Tryd.sizeOf107
  v53 := Tryd.zeroValue107
  t171 := Tryd.underlying106
  a171 := Tryd.isAgg106
  z171 := Tryd.sizeOf106
  v171 := Tryd.zeroValue106
  t173 := Tryd.underlying110
  a173 := Tryd.isAgg110
  z173 := Tryd.sizeOf110
  v173 := Tryd.zeroValue110
  t212 := Tryd.underlying122
  a212 := Tryd.isAgg122
  z212 := Tryd.sizeOf122
  v212 := Tryd.zeroValue122
  t213 := Tryd.underlying123
  a213 := Tryd.isAgg123
  z213 := Tryd.sizeOf123
  t232 := Tryd.underlying133
  a232 := Tryd.isAgg133
  z232 := Tryd.sizeOf133
  v232 := Tryd.zeroValue133
  t233 := Tryd.underlying134
  a233 := Tryd.isAgg134
  z233 := Tryd.sizeOf134
  v233 := Tryd.zeroValue134
  g17 := by kernel_rfl
  g18 := by kernel_rfl
  g19 := by kernel_rfl
  i0 := by kernel_rfl
  i2 := by kernel_rfl
  i3 := by kernel_rfl
  i4 := by kernel_rfl
  i5 := by kernel_rfl
  i9 := by kernel_rfl
  i20 := by kernel_rfl
  i37 := by kernel_rfl
  i46 := by kernel_rfl
  i51 := by kernel_rfl
  i53 := by kernel_rfl
  i171 := by kernel_rfl
  i173 := by kernel_rfl
  i212 := by kernel_rfl
  i232 := by kernel_rfl
  i233 := by kernel_rfl
  m17 := by kernel_rfl
  m18 := by kernel_rfl
  m19 := by kernel_rfl }
open Go.RowKit Go.Sort Go.Lib in
/-- internal/strconv.FormatInt: "FormatInt returns the string representation of i in the given base": AT BASE 10: i's decimal numeral, for every int64. The world behind the call: the world before it, new blocks behind the heap, draws. (LAID: no walk: one application.) -/
theorem Tryd.internal_strconv_FormatInt_10 (n : Int) (h0 : -9223372036854775808 ≤ n) (h1 : n ≤ 9223372036854775807) (w : World) (htab : Lib.TabIs Tryd.prog w "internal/strconv.uint64pow10" .u64 Lib.pow10Tab) :
    Calls Tryd.prog 96 #[.int .i64 n, .int .i64 10] w fun e w' => e = .returned (.string ⟨(Lib.itoa n).toArray⟩) ∧ ∃ k os, w' = grow (w.drewN k) os := Any.internal_strconv_FormatInt_10 Tryd.laysM246 n h0 h1 w htab
def Tryd.lays246_ren : Go.Shelf.Ren := ⟨fun | 246 => 96 | 283 => 101 | 284 => 102 | 285 => 103 | 286 => 104 | 129 => 112 | 317 => 111 | 318 => 113 | 319 => 114 | 320 => 115 | 337 => 119 | 338 => 120 | n => n, fun | 2 => 2 | 3 => 3 | 9 => 9 | 4 => 4 | 171 => 106 | 0 => 0 | 53 => 107 | 37 => 89 | 5 => 5 | 173 => 110 | 212 => 122 | 51 => 119 | 20 => 20 | 213 => 123 | 46 => 124 | 232 => 133 | 233 => 134 | n => n, fun | 17 => 0 | 18 => 2 | 19 => 3 | n => n⟩
theorem Tryd.lays246 : Go.Proofs.Lays.n246 Tryd.prog Tryd.lays246_ren := {
  mixed := by kernel_rfl
  f129 := Tryd.func112.trans (congrArg some (by kernel_rfl))
  f246 := Tryd.func96.trans (congrArg some (by kernel_rfl))
  f283 := Tryd.func101.trans (congrArg some (by kernel_rfl))
  f284 := Tryd.func102.trans (congrArg some (by kernel_rfl))
  f285 := Tryd.func103.trans (congrArg some (by kernel_rfl))
  f286 := Tryd.func104.trans (congrArg some (by kernel_rfl))
  f317 := Tryd.func111.trans (congrArg some (by kernel_rfl))
  f318 := Tryd.func113.trans (congrArg some (by kernel_rfl))
  f319 := Tryd.func114.trans (congrArg some (by kernel_rfl))
  f320 := Tryd.func115.trans (congrArg some (by kernel_rfl))
  f337 := Tryd.func119.trans (congrArg some (by kernel_rfl))
  f338 := Tryd.func120.trans (congrArg some (by kernel_rfl))
  t0 := Tryd.underlying0
  a0 := Tryd.isAgg0
  z0 := Tryd.sizeOf0
  v0 := Tryd.zeroValue0
  t2 := Tryd.underlying2
  a2 := Tryd.isAgg2
  z2 := Tryd.sizeOf2
  v2 := Tryd.zeroValue2
  t3 := Tryd.underlying3
  a3 := Tryd.isAgg3
  z3 := Tryd.sizeOf3
  v3 := Tryd.zeroValue3
  t4 := Tryd.underlying4
  a4 := Tryd.isAgg4
  z4 := Tryd.sizeOf4
  v4 := Tryd.zeroValue4
  t5 := Tryd.underlying5
  a5 := Tryd.isAgg5
  z5 := Tryd.sizeOf5
  v5 := Tryd.zeroValue5
  t9 := Tryd.underlying9
  a9 := Tryd.isAgg9
  z9 := Tryd.sizeOf9
  v9 := Tryd.zeroValue9
  t20 := Tryd.underlying20
  a20 := Tryd.isAgg20
  z20 := Tryd.sizeOf20
  v20 := Tryd.zeroValue20
  t37 := Tryd.underlying89
  a37 := Tryd.isAgg89
  z37 := Tryd.sizeOf89
  v37 := Tryd.zeroValue89
  t46 := Tryd.underlying124
  a46 := Tryd.isAgg124
  z46 := Tryd.sizeOf124
  v46 := Tryd.zeroValue124
  t51 := Tryd.underlying119
  a51 := Tryd.isAgg119
  z51 := Tryd.sizeOf119
  v51 := Tryd.zeroValue119
  t53 := Tryd.underlying107
  a53 := Tryd.isAgg107
  z53 := Tryd.sizeOf107
  v53 := Tryd.zeroValue107
  t171 := Tryd.underlying106
  a171 := Tryd.isAgg106
  z171 := Tryd.sizeOf106
  v171 := Tryd.zeroValue106
  t173 := Tryd.underlying110
  a173 := Tryd.isAgg110
  z173 := Tryd.sizeOf110
  v173 := Tryd.zeroValue110
  t212 := Tryd.underlying122
  a212 := Tryd.isAgg122
  z212 := Tryd.sizeOf122
  v212 := Tryd.zeroValue122
  t213 := Tryd.underlying123
  a213 := Tryd.isAgg123
  z213 := Tryd.sizeOf123
  t232 := Tryd.underlying133
  a232 := Tryd.isAgg133
  z232 := Tryd.sizeOf133
  v232 := Tryd.zeroValue133
  t233 := Tryd.underlying134
  a233 := Tryd.isAgg134
  z233 := Tryd.sizeOf134
  v233 := Tryd.zeroValue134
  g17 := by kernel_rfl
  g18 := by kernel_rfl
  g19 := by kernel_rfl }
open Go.RowKit Go.Sort Go.Lib in
/-- THE ROAD WITHOUT THE TABLE: 0 <= i < 100: two constants are read, nothing is laid: no premise on the world, and the world is as it was. (LAID: no walk: one application.) -/
theorem Tryd.internal_strconv_FormatInt_10_small (i : Nat) (hi : i < 100) (w : World) :
    Calls Tryd.prog 96 #[.int .i64 i, .int .i64 10] w fun e w' => e = .returned (.string ⟨(Lib.decDigits i).toArray⟩) ∧ w' = w := Any.internal_strconv_FormatInt_10_small Tryd.lays246 i hi w
def Tryd.laysM243_ren : Go.Shelf.Ren := ⟨fun | 243 => 88 | 246 => 96 | 283 => 101 | 284 => 102 | 285 => 103 | 286 => 104 | 129 => 112 | 317 => 111 | 318 => 113 | 319 => 114 | 320 => 115 | 337 => 119 | 338 => 120 | n => n, fun | 3 => 3 | 9 => 9 | 2 => 2 | 4 => 4 | 171 => 106 | 0 => 0 | 53 => 107 | 37 => 89 | 5 => 5 | 173 => 110 | 212 => 122 | 51 => 119 | 20 => 20 | 213 => 123 | 46 => 124 | 232 => 133 | 233 => 134 | n => n, fun | 17 => 0 | 18 => 2 | 19 => 3 | n => n⟩
theorem Tryd.laysM243 : Go.Proofs.LaysM.n243 Tryd.prog Tryd.laysM243_ren := {
  mixed := by kernel_rfl
  f129 := Tryd.func112.trans (congrArg some (by kernel_rfl))
  f243 := Tryd.func88.trans (congrArg some (by kernel_rfl))
  f246 := Tryd.func96.trans (congrArg some (by kernel_rfl))
  f283 := Tryd.func101.trans (congrArg some (by kernel_rfl))
  f284 := Tryd.func102.trans (congrArg some (by kernel_rfl))
  f285 := Tryd.func103.trans (congrArg some (by kernel_rfl))
  f286 := Tryd.func104.trans (congrArg some (by kernel_rfl))
  f317 := Tryd.func111.trans (congrArg some (by kernel_rfl))
  f318 := Tryd.func113.trans (congrArg some (by kernel_rfl))
  f319 := Tryd.func114.trans (congrArg some (by kernel_rfl))
  f320 := Tryd.func115.trans (congrArg some (by kernel_rfl))
  f337 := Tryd.func119.trans (congrArg some (by kernel_rfl))
  f338 := Tryd.func120.trans (congrArg some (by kernel_rfl))
  t0 := Tryd.underlying0
  a0 := Tryd.isAgg0
  z0 := Tryd.sizeOf0
  v0 := Tryd.zeroValue0
  t2 := Tryd.underlying2
  a2 := Tryd.isAgg2
  z2 := Tryd.sizeOf2
  v2 := Tryd.zeroValue2
  t3 := Tryd.underlying3
  a3 := Tryd.isAgg3
  z3 := Tryd.sizeOf3
  v3 := Tryd.zeroValue3
  t4 := Tryd.underlying4
  a4 := Tryd.isAgg4
  z4 := Tryd.sizeOf4
  v4 := Tryd.zeroValue4
  t5 := Tryd.underlying5
  a5 := Tryd.isAgg5
  z5 := Tryd.sizeOf5
  v5 := Tryd.zeroValue5
  t9 := Tryd.underlying9
  a9 := Tryd.isAgg9
  z9 := Tryd.sizeOf9
  v9 := Tryd.zeroValue9
  t20 := Tryd.underlying20
  a20 := Tryd.isAgg20
  z20 := Tryd.sizeOf20
  v20 := Tryd.zeroValue20
  t37 := Tryd.underlying89
  a37 := Tryd.isAgg89
  z37 := Tryd.sizeOf89
  v37 := Tryd.zeroValue89
  t46 := Tryd.underlying124
  a46 := Tryd.isAgg124
  z46 := Tryd.sizeOf124
  v46 := Tryd.zeroValue124
  t51 := Tryd.underlying119
  a51 := Tryd.isAgg119
  z51 := Tryd.sizeOf119
  v51 := Tryd.zeroValue119
  t53 := Tryd.underlying107
  a53 := Tryd.isAgg107
  z53 := Tryd.sizeOf107
  v53 := Tryd.zeroValue107
  t171 := Tryd.underlying106
  a171 := Tryd.isAgg106
  z171 := Tryd.sizeOf106
  v171 := Tryd.zeroValue106
  t173 := Tryd.underlying110
  a173 := Tryd.isAgg110
  z173 := Tryd.sizeOf110
  v173 := Tryd.zeroValue110
  t212 := Tryd.underlying122
  a212 := Tryd.isAgg122
  z212 := Tryd.sizeOf122
  v212 := Tryd.zeroValue122
  t213 := Tryd.underlying123
  a213 := Tryd.isAgg123
  z213 := Tryd.sizeOf123
  t232 := Tryd.underlying133
  a232 := Tryd.isAgg133
  z232 := Tryd.sizeOf133
  v232 := Tryd.zeroValue133
  t233 := Tryd.underlying134
  a233 := Tryd.isAgg134
  z233 := Tryd.sizeOf134
  v233 := Tryd.zeroValue134
  g17 := by kernel_rfl
  g18 := by kernel_rfl
  g19 := by kernel_rfl
  i0 := by kernel_rfl
  i2 := by kernel_rfl
  i3 := by kernel_rfl
  i4 := by kernel_rfl
  i5 := by kernel_rfl
  i9 := by kernel_rfl
  i20 := by kernel_rfl
  i37 := by kernel_rfl
  i46 := by kernel_rfl
  i51 := by kernel_rfl
  i53 := by kernel_rfl
  i171 := by kernel_rfl
  i173 := by kernel_rfl
  i212 := by kernel_rfl
  i232 := by kernel_rfl
  i233 := by kernel_rfl
  m17 := by kernel_rfl
  m18 := by kernel_rfl
  m19 := by kernel_rfl }
open Go.RowKit Go.Sort Go.Lib in
/-- internal/strconv.Itoa: "Itoa is equivalent to FormatInt(int64(i), 10).": i's decimal numeral, for every int. (LAID: no walk: one application.) -/
theorem Tryd.internal_strconv_Itoa (n : Int) (h0 : -9223372036854775808 ≤ n) (h1 : n ≤ 9223372036854775807) (w : World) (htab : Lib.TabIs Tryd.prog w "internal/strconv.uint64pow10" .u64 Lib.pow10Tab) :
    Calls Tryd.prog 88 #[.int .i64 n] w fun e w' => e = .returned (.string ⟨(Lib.itoa n).toArray⟩) ∧ ∃ k os, w' = grow (w.drewN k) os := Any.internal_strconv_Itoa Tryd.laysM243 n h0 h1 w htab
def Tryd.lays243_ren : Go.Shelf.Ren := ⟨fun | 243 => 88 | 246 => 96 | 283 => 101 | 284 => 102 | 285 => 103 | 286 => 104 | 129 => 112 | 317 => 111 | 318 => 113 | 319 => 114 | 320 => 115 | 337 => 119 | 338 => 120 | n => n, fun | 3 => 3 | 9 => 9 | 2 => 2 | 4 => 4 | 171 => 106 | 0 => 0 | 53 => 107 | 37 => 89 | 5 => 5 | 173 => 110 | 212 => 122 | 51 => 119 | 20 => 20 | 213 => 123 | 46 => 124 | 232 => 133 | 233 => 134 | n => n, fun | 17 => 0 | 18 => 2 | 19 => 3 | n => n⟩
theorem Tryd.lays243 : Go.Proofs.Lays.n243 Tryd.prog Tryd.lays243_ren := {
  mixed := by kernel_rfl
  f129 := Tryd.func112.trans (congrArg some (by kernel_rfl))
  f243 := Tryd.func88.trans (congrArg some (by kernel_rfl))
  f246 := Tryd.func96.trans (congrArg some (by kernel_rfl))
  f283 := Tryd.func101.trans (congrArg some (by kernel_rfl))
  f284 := Tryd.func102.trans (congrArg some (by kernel_rfl))
  f285 := Tryd.func103.trans (congrArg some (by kernel_rfl))
  f286 := Tryd.func104.trans (congrArg some (by kernel_rfl))
  f317 := Tryd.func111.trans (congrArg some (by kernel_rfl))
  f318 := Tryd.func113.trans (congrArg some (by kernel_rfl))
  f319 := Tryd.func114.trans (congrArg some (by kernel_rfl))
  f320 := Tryd.func115.trans (congrArg some (by kernel_rfl))
  f337 := Tryd.func119.trans (congrArg some (by kernel_rfl))
  f338 := Tryd.func120.trans (congrArg some (by kernel_rfl))
  t0 := Tryd.underlying0
  a0 := Tryd.isAgg0
  z0 := Tryd.sizeOf0
  v0 := Tryd.zeroValue0
  t2 := Tryd.underlying2
  a2 := Tryd.isAgg2
  z2 := Tryd.sizeOf2
  v2 := Tryd.zeroValue2
  t3 := Tryd.underlying3
  a3 := Tryd.isAgg3
  z3 := Tryd.sizeOf3
  v3 := Tryd.zeroValue3
  t4 := Tryd.underlying4
  a4 := Tryd.isAgg4
  z4 := Tryd.sizeOf4
  v4 := Tryd.zeroValue4
  t5 := Tryd.underlying5
  a5 := Tryd.isAgg5
  z5 := Tryd.sizeOf5
  v5 := Tryd.zeroValue5
  t9 := Tryd.underlying9
  a9 := Tryd.isAgg9
  z9 := Tryd.sizeOf9
  v9 := Tryd.zeroValue9
  t20 := Tryd.underlying20
  a20 := Tryd.isAgg20
  z20 := Tryd.sizeOf20
  v20 := Tryd.zeroValue20
  t37 := Tryd.underlying89
  a37 := Tryd.isAgg89
  z37 := Tryd.sizeOf89
  v37 := Tryd.zeroValue89
  t46 := Tryd.underlying124
  a46 := Tryd.isAgg124
  z46 := Tryd.sizeOf124
  v46 := Tryd.zeroValue124
  t51 := Tryd.underlying119
  a51 := Tryd.isAgg119
  z51 := Tryd.sizeOf119
  v51 := Tryd.zeroValue119
  t53 := Tryd.underlying107
  a53 := Tryd.isAgg107
  z53 := Tryd.sizeOf107
  v53 := Tryd.zeroValue107
  t171 := Tryd.underlying106
  a171 := Tryd.isAgg106
  z171 := Tryd.sizeOf106
  v171 := Tryd.zeroValue106
  t173 := Tryd.underlying110
  a173 := Tryd.isAgg110
  z173 := Tryd.sizeOf110
  v173 := Tryd.zeroValue110
  t212 := Tryd.underlying122
  a212 := Tryd.isAgg122
  z212 := Tryd.sizeOf122
  v212 := Tryd.zeroValue122
  t213 := Tryd.underlying123
  a213 := Tryd.isAgg123
  z213 := Tryd.sizeOf123
  t232 := Tryd.underlying133
  a232 := Tryd.isAgg133
  z232 := Tryd.sizeOf133
  v232 := Tryd.zeroValue133
  t233 := Tryd.underlying134
  a233 := Tryd.isAgg134
  z233 := Tryd.sizeOf134
  v233 := Tryd.zeroValue134
  g17 := by kernel_rfl
  g18 := by kernel_rfl
  g19 := by kernel_rfl }
open Go.RowKit Go.Sort Go.Lib in
/-- THE ROAD WITHOUT THE TABLE: 0 <= i < 100. (LAID: no walk: one application.) -/
theorem Tryd.internal_strconv_Itoa_small (i : Nat) (hi : i < 100) (w : World) :
    Calls Tryd.prog 88 #[.int .i64 i] w fun e w' => e = .returned (.string ⟨(Lib.decDigits i).toArray⟩) ∧ w' = w := Any.internal_strconv_Itoa_small Tryd.lays243 i hi w
def Tryd.laysM171_ren : Go.Shelf.Ren := ⟨fun | 171 => 71 | 243 => 88 | 246 => 96 | 283 => 101 | 284 => 102 | 285 => 103 | 286 => 104 | 129 => 112 | 317 => 111 | 318 => 113 | 319 => 114 | 320 => 115 | 337 => 119 | 338 => 120 | n => n, fun | 3 => 3 | 9 => 9 | 2 => 2 | 4 => 4 | 171 => 106 | 0 => 0 | 53 => 107 | 37 => 89 | 5 => 5 | 173 => 110 | 212 => 122 | 51 => 119 | 20 => 20 | 213 => 123 | 46 => 124 | 232 => 133 | 233 => 134 | n => n, fun | 17 => 0 | 18 => 2 | 19 => 3 | n => n⟩
theorem Tryd.laysM171 : Go.Proofs.LaysM.n171 Tryd.prog Tryd.laysM171_ren := {
  mixed := by kernel_rfl
  f129 := Tryd.func112.trans (congrArg some (by kernel_rfl))
  f171 := Tryd.func71.trans (congrArg some (by kernel_rfl))
  f243 := Tryd.func88.trans (congrArg some (by kernel_rfl))
  f246 := Tryd.func96.trans (congrArg some (by kernel_rfl))
  f283 := Tryd.func101.trans (congrArg some (by kernel_rfl))
  f284 := Tryd.func102.trans (congrArg some (by kernel_rfl))
  f285 := Tryd.func103.trans (congrArg some (by kernel_rfl))
  f286 := Tryd.func104.trans (congrArg some (by kernel_rfl))
  f317 := Tryd.func111.trans (congrArg some (by kernel_rfl))
  f318 := Tryd.func113.trans (congrArg some (by kernel_rfl))
  f319 := Tryd.func114.trans (congrArg some (by kernel_rfl))
  f320 := Tryd.func115.trans (congrArg some (by kernel_rfl))
  f337 := Tryd.func119.trans (congrArg some (by kernel_rfl))
  f338 := Tryd.func120.trans (congrArg some (by kernel_rfl))
  t0 := Tryd.underlying0
  a0 := Tryd.isAgg0
  z0 := Tryd.sizeOf0
  v0 := Tryd.zeroValue0
  t2 := Tryd.underlying2
  a2 := Tryd.isAgg2
  z2 := Tryd.sizeOf2
  v2 := Tryd.zeroValue2
  t3 := Tryd.underlying3
  a3 := Tryd.isAgg3
  z3 := Tryd.sizeOf3
  v3 := Tryd.zeroValue3
  t4 := Tryd.underlying4
  a4 := Tryd.isAgg4
  z4 := Tryd.sizeOf4
  v4 := Tryd.zeroValue4
  t5 := Tryd.underlying5
  a5 := Tryd.isAgg5
  z5 := Tryd.sizeOf5
  v5 := Tryd.zeroValue5
  t9 := Tryd.underlying9
  a9 := Tryd.isAgg9
  z9 := Tryd.sizeOf9
  v9 := Tryd.zeroValue9
  t20 := Tryd.underlying20
  a20 := Tryd.isAgg20
  z20 := Tryd.sizeOf20
  v20 := Tryd.zeroValue20
  t37 := Tryd.underlying89
  a37 := Tryd.isAgg89
  z37 := Tryd.sizeOf89
  v37 := Tryd.zeroValue89
  t46 := Tryd.underlying124
  a46 := Tryd.isAgg124
  z46 := Tryd.sizeOf124
  v46 := Tryd.zeroValue124
  t51 := Tryd.underlying119
  a51 := Tryd.isAgg119
  z51 := Tryd.sizeOf119
  v51 := Tryd.zeroValue119
  t53 := Tryd.underlying107
  a53 := Tryd.isAgg107
  z53 := Tryd.sizeOf107
  v53 := Tryd.zeroValue107
  t171 := Tryd.underlying106
  a171 := Tryd.isAgg106
  z171 := Tryd.sizeOf106
  v171 := Tryd.zeroValue106
  t173 := Tryd.underlying110
  a173 := Tryd.isAgg110
  z173 := Tryd.sizeOf110
  v173 := Tryd.zeroValue110
  t212 := Tryd.underlying122
  a212 := Tryd.isAgg122
  z212 := Tryd.sizeOf122
  v212 := Tryd.zeroValue122
  t213 := Tryd.underlying123
  a213 := Tryd.isAgg123
  z213 := Tryd.sizeOf123
  t232 := Tryd.underlying133
  a232 := Tryd.isAgg133
  z232 := Tryd.sizeOf133
  v232 := Tryd.zeroValue133
  t233 := Tryd.underlying134
  a233 := Tryd.isAgg134
  z233 := Tryd.sizeOf134
  v233 := Tryd.zeroValue134
  g17 := by kernel_rfl
  g18 := by kernel_rfl
  g19 := by kernel_rfl
  i0 := by kernel_rfl
  i2 := by kernel_rfl
  i3 := by kernel_rfl
  i4 := by kernel_rfl
  i5 := by kernel_rfl
  i9 := by kernel_rfl
  i20 := by kernel_rfl
  i37 := by kernel_rfl
  i46 := by kernel_rfl
  i51 := by kernel_rfl
  i53 := by kernel_rfl
  i171 := by kernel_rfl
  i173 := by kernel_rfl
  i212 := by kernel_rfl
  i232 := by kernel_rfl
  i233 := by kernel_rfl
  m17 := by kernel_rfl
  m18 := by kernel_rfl
  m19 := by kernel_rfl }
open Go.RowKit Go.Sort Go.Lib in
/-- strconv.Itoa: "Itoa is equivalent to FormatInt(int64(i), 10).": i's DECIMAL NUMERAL ('Lib.itoa': a '-' where i is negative, then the digits), FOR EVERY int. The world behind the call: the world before it, new blocks behind the heap (the library's 'var a [24]byte'), draws. (LAID: no walk: one application.) -/
theorem Tryd.strconv_Itoa (n : Int) (h0 : -9223372036854775808 ≤ n) (h1 : n ≤ 9223372036854775807) (w : World) (htab : Lib.TabIs Tryd.prog w "internal/strconv.uint64pow10" .u64 Lib.pow10Tab) :
    Calls Tryd.prog 71 #[.int .i64 n] w fun e w' => e = .returned (.string ⟨(Lib.itoa n).toArray⟩) ∧ ∃ k os, w' = grow (w.drewN k) os := Any.strconv_Itoa Tryd.laysM171 n h0 h1 w htab
def Tryd.lays171_ren : Go.Shelf.Ren := ⟨fun | 171 => 71 | 243 => 88 | 246 => 96 | 283 => 101 | 284 => 102 | 285 => 103 | 286 => 104 | 129 => 112 | 317 => 111 | 318 => 113 | 319 => 114 | 320 => 115 | 337 => 119 | 338 => 120 | n => n, fun | 3 => 3 | 9 => 9 | 2 => 2 | 4 => 4 | 171 => 106 | 0 => 0 | 53 => 107 | 37 => 89 | 5 => 5 | 173 => 110 | 212 => 122 | 51 => 119 | 20 => 20 | 213 => 123 | 46 => 124 | 232 => 133 | 233 => 134 | n => n, fun | 17 => 0 | 18 => 2 | 19 => 3 | n => n⟩
theorem Tryd.lays171 : Go.Proofs.Lays.n171 Tryd.prog Tryd.lays171_ren := {
  mixed := by kernel_rfl
  f129 := Tryd.func112.trans (congrArg some (by kernel_rfl))
  f171 := Tryd.func71.trans (congrArg some (by kernel_rfl))
  f243 := Tryd.func88.trans (congrArg some (by kernel_rfl))
  f246 := Tryd.func96.trans (congrArg some (by kernel_rfl))
  f283 := Tryd.func101.trans (congrArg some (by kernel_rfl))
  f284 := Tryd.func102.trans (congrArg some (by kernel_rfl))
  f285 := Tryd.func103.trans (congrArg some (by kernel_rfl))
  f286 := Tryd.func104.trans (congrArg some (by kernel_rfl))
  f317 := Tryd.func111.trans (congrArg some (by kernel_rfl))
  f318 := Tryd.func113.trans (congrArg some (by kernel_rfl))
  f319 := Tryd.func114.trans (congrArg some (by kernel_rfl))
  f320 := Tryd.func115.trans (congrArg some (by kernel_rfl))
  f337 := Tryd.func119.trans (congrArg some (by kernel_rfl))
  f338 := Tryd.func120.trans (congrArg some (by kernel_rfl))
  t0 := Tryd.underlying0
  a0 := Tryd.isAgg0
  z0 := Tryd.sizeOf0
  v0 := Tryd.zeroValue0
  t2 := Tryd.underlying2
  a2 := Tryd.isAgg2
  z2 := Tryd.sizeOf2
  v2 := Tryd.zeroValue2
  t3 := Tryd.underlying3
  a3 := Tryd.isAgg3
  z3 := Tryd.sizeOf3
  v3 := Tryd.zeroValue3
  t4 := Tryd.underlying4
  a4 := Tryd.isAgg4
  z4 := Tryd.sizeOf4
  v4 := Tryd.zeroValue4
  t5 := Tryd.underlying5
  a5 := Tryd.isAgg5
  z5 := Tryd.sizeOf5
  v5 := Tryd.zeroValue5
  t9 := Tryd.underlying9
  a9 := Tryd.isAgg9
  z9 := Tryd.sizeOf9
  v9 := Tryd.zeroValue9
  t20 := Tryd.underlying20
  a20 := Tryd.isAgg20
  z20 := Tryd.sizeOf20
  v20 := Tryd.zeroValue20
  t37 := Tryd.underlying89
  a37 := Tryd.isAgg89
  z37 := Tryd.sizeOf89
  v37 := Tryd.zeroValue89
  t46 := Tryd.underlying124
  a46 := Tryd.isAgg124
  z46 := Tryd.sizeOf124
  v46 := Tryd.zeroValue124
  t51 := Tryd.underlying119
  a51 := Tryd.isAgg119
  z51 := Tryd.sizeOf119
  v51 := Tryd.zeroValue119
  t53 := Tryd.underlying107
  a53 := Tryd.isAgg107
  z53 := Tryd.sizeOf107
  v53 := Tryd.zeroValue107
  t171 := Tryd.underlying106
  a171 := Tryd.isAgg106
  z171 := Tryd.sizeOf106
  v171 := Tryd.zeroValue106
  t173 := Tryd.underlying110
  a173 := Tryd.isAgg110
  z173 := Tryd.sizeOf110
  v173 := Tryd.zeroValue110
  t212 := Tryd.underlying122
  a212 := Tryd.isAgg122
  z212 := Tryd.sizeOf122
  v212 := Tryd.zeroValue122
  t213 := Tryd.underlying123
  a213 := Tryd.isAgg123
  z213 := Tryd.sizeOf123
  t232 := Tryd.underlying133
  a232 := Tryd.isAgg133
  z232 := Tryd.sizeOf133
  v232 := Tryd.zeroValue133
  t233 := Tryd.underlying134
  a233 := Tryd.isAgg134
  z233 := Tryd.sizeOf134
  v233 := Tryd.zeroValue134
  g17 := by kernel_rfl
  g18 := by kernel_rfl
  g19 := by kernel_rfl }
open Go.RowKit Go.Sort Go.Lib in
/-- THE ROAD WITHOUT THE TABLE: 0 <= i < 100: NO PREMISE ON THE WORLD, AND THE WORLD IS AS IT WAS: a row that keeps its argument in that range need list no table ('laid = []'). (LAID: no walk: one application.) -/
theorem Tryd.strconv_Itoa_small (i : Nat) (hi : i < 100) (w : World) :
    Calls Tryd.prog 71 #[.int .i64 i] w fun e w' => e = .returned (.string ⟨(Lib.decDigits i).toArray⟩) ∧ w' = w := Any.strconv_Itoa_small Tryd.lays171 i hi w
def Tryd.lays111_ren : Go.Shelf.Ren := ⟨fun | 111 => 79 | n => n, fun | 28 => 29 | 3 => 3 | 4 => 4 | 0 => 0 | n => n, fun | n => n⟩
theorem Tryd.lays111 : Go.Proofs.Lays.n111 Tryd.prog Tryd.lays111_ren := {
  mixed := by kernel_rfl
  f111 := Tryd.func79.trans (congrArg some (by kernel_rfl))
  t0 := Tryd.underlying0
  a0 := Tryd.isAgg0
  z0 := Tryd.sizeOf0
  v0 := Tryd.zeroValue0
  t3 := Tryd.underlying3
  a3 := Tryd.isAgg3
  z3 := Tryd.sizeOf3
  v3 := Tryd.zeroValue3
  t4 := Tryd.underlying4
  a4 := Tryd.isAgg4
  z4 := Tryd.sizeOf4
  v4 := Tryd.zeroValue4
  t28 := Tryd.underlying29
  a28 := Tryd.isAgg29
  z28 := Tryd.sizeOf29
  v28 := Tryd.zeroValue29 }
open Go.RowKit Go.Lib in
/-- slices.Equal at []int: "Equal reports whether two slices are equal: the same length and all elements equal. If the lengths are different, Equal returns false. Otherwise, the elements are compared in increasing index order, and the comparison stops at the first unequal pair. Empty and nil slices are considered equal.": IT RETURNS WHETHER THE TWO LISTS OF ELEMENTS ARE ONE; the world is as it was but for the count of draws (the test 's1[i] != s2[i]' has two reads, whose order the model draws, once a round). 'xs', 'ys': what the cells behind the two addresses hold (the spare capacity too, if you have it); 'xs.take n', 'ys.take m': the elements. THE TWO SLICES MAY OVERLAP. (LAID: no walk: one application.) -/
theorem Tryd.slices_Equal_int (b1 o1 n c b2 o2 m d : Nat) (xs ys : List Int) (w : World) (hx : n ≤ xs.length) (hy : m ≤ ys.length) (hbig : n ≤ 9223372036854775807) (hbig2 : m ≤ 9223372036854775807) (hc1 : ∀ j, j < xs.length → w.cell? ⟨b1, o1 + j, none⟩ = some (.int .i64 (xs.getD j 0))) (hc2 : ∀ j, j < ys.length → w.cell? ⟨b2, o2 + j, none⟩ = some (.int .i64 (ys.getD j 0))) :
    Calls Tryd.prog 79 #[.slice (some ⟨b1, o1, none⟩) n c, .slice (some ⟨b2, o2, none⟩) m d] w fun e w' => e = .returned (.bool (xs.take n == ys.take m)) ∧ ∃ q, w' = w.drewN q := Any.slices_Equal_int Tryd.lays111 b1 o1 n c b2 o2 m d xs ys w hx hy hbig hbig2 hc1 hc2
open Go.RowKit Go.Lib in
/-- The same where the first is of length 0 (a nil one too): no cell is asked for. (LAID: no walk: one application.) -/
theorem Tryd.slices_Equal_int_empty (a1 a2 : Option Addr) (c m d : Nat) (w : World) (hbig2 : m ≤ 9223372036854775807) :
    Calls Tryd.prog 79 #[.slice a1 0 c, .slice a2 m d] w fun e w' => e = .returned (.bool (decide (m = 0))) ∧ w' = w := Any.slices_Equal_int_empty Tryd.lays111 a1 a2 c m d w hbig2
def Tryd.laysNm237_ren : Go.Shelf.Ren := ⟨fun | 37 => 93 | n => n, fun | 3 => 3 | 4 => 4 | n => n, fun | n => n⟩
theorem Tryd.laysNm237 : Go.Proofs.Lays2.n37 Tryd.prog Tryd.laysNm237_ren := {
  mixed := by kernel_rfl
  f37 := Tryd.func93.trans (congrArg some (by kernel_rfl))
  t3 := Tryd.underlying3
  a3 := Tryd.isAgg3
  z3 := Tryd.sizeOf3
  v3 := Tryd.zeroValue3
  t4 := Tryd.underlying4
  a4 := Tryd.isAgg4
  z4 := Tryd.sizeOf4
  v4 := Tryd.zeroValue4 }
open Go.RowKit Go.Lib in
/-- cmp.isNaN[int]: 'x != x': false. (LAID: no walk: one application.) -/
theorem Tryd.cmp_isNaN_int2 (x : Int) (w : World) :
    Calls Tryd.prog 93 #[.int .i64 x] w fun e w' => e = .returned (.bool false) ∧ w' = w := Any.cmp_isNaN_int2 Tryd.laysNm237 x w
end Go.Proofs
-- the table of powers as a premise; strings.Join of a row that is read
namespace Go.Proofs.YtggelekooacmnaaDoor.Q
open Go.RowKit Go.Proofs.YtggelekooacmnaaDoorW.PrintWords Go.Proofs.YtggelekooacmnaaDoorW.PrintLast Go.Proofs.YtggelekooacmnaaDoorW.PrintMore
set_option linter.unusedVariables false
set_option linter.unusedSimpArgs false
abbrev PowTab (B : Nat) (w : World) : Prop := Lib.TabBelow Tryd.prog B w "internal/strconv.uint64pow10" .u64 Lib.pow10Tab
theorem PowTab.up {B B' : Nat} {w : World} (h : PowTab B w) (hB : B ≤ B') : PowTab B' w := fun w' hb => h w' (hb.mono hB)
theorem ptab {w W : World} (h : PowTab w.heap.size w) (hb : Below w.heap.size w W) : PowTab W.heap.size W := PowTab.up (h.on hb) hb.size
theorem grow_below_ (w : World) (k : Nat) (os : Array Obj) : Below w.heap.size w (Go.Sort.grow (w.drewN k) os) := Lib.below_grow _ w (Nat.le_refl _) k os
theorem lit_size : ∀ (a : Array UInt8), (⟨a⟩ : ByteArray).size = a.size := fun _ => rfl
theorem cell_plain {w : World} {a : Addr} {v : Value} (h : w.cell? a = some v) : a = ⟨a.block, a.off, none⟩ ∧ a.block < w.heap.size := by
  obtain ⟨b, o, s⟩ := a
  unfold World.cell? at h
  dsimp only at h
  constructor
  · cases s with
    | none => rfl
    | some s => split at h <;> simp at h
  · have : w.heap[b]? ≠ none := by intro e; rw [e] at h; simp at h
    exact Nat.lt_of_not_ge fun hn => this (Array.getElem?_eq_none hn)
theorem join_calls_ (A0 : Option Addr) (c0 : Nat) (l0 : List ByteArray) (a1 : ByteArray) (w : World) (hr0 : Kd.C Kd.string w A0 l0.length l0) (hc0 : l0.length ≤ c0)
    (h1 : l0.length ≤ 140737488355328) (h2 : (Lib.join (l0.map (·.data.toList)) a1.data.toList).length ≤ 140737488355328) :
    Calls Tryd.prog 72 #[.slice A0 l0.length c0, .string a1] w fun e w' => e = .returned (.string ⟨(Lib.join (l0.map (·.data.toList)) a1.data.toList).toArray⟩) ∧ Below w.heap.size w w' := by
  cases l0 with
  | nil =>
    refine (Tryd.strings_Join_none A0 c0 a1 w).mono ?_
    rintro e w' ⟨rfl, rfl⟩
    exact ⟨rfl, Below.refl _ _⟩
  | cons x xs =>
    obtain ⟨ad, rfl, hc⟩ := Kd.at_string hr0 0 (by omega) (by simp)
    obtain ⟨he, hb⟩ := cell_plain hc
    have hs : ad = ⟨ad.block, ad.off, none⟩ := by simpa [Addr.add] using he
    have hb' : ad.block < w.heap.size := by simpa [Addr.add] using hb
    obtain ⟨b, o, sp⟩ := ad
    obtain rfl : sp = none := by simpa using hs
    refine Tryd.strings_Join b o c0 (x :: xs) a1 w ?_ hb' h1 hc0 h2
    intro j y hj
    obtain ⟨ad', e', hj'⟩ := Kd.at_string hr0 j (by omega) (by have := (List.getElem?_eq_some_iff.1 hj).1; omega)
    obtain rfl := Option.some.inj e'
    have hz : rdOf ByteArray.empty (x :: xs) (j : Int) = y := by unfold rdOf; simp [List.getD_eq_getElem?_getD, hj]
    rw [hz] at hj'
    have : (Addr.add ⟨b, o, none⟩ ((j : Int)).toNat) = ⟨b, o + j, none⟩ := by
      unfold Addr.add; split
      · rename_i h0; simp at h0; simp [h0]
      · simp
    rwa [this] at hj'
end Go.Proofs.YtggelekooacmnaaDoor.Q
namespace Go.Proofs.YtggelekooacmnaaDoor.Q
open Go.RowKit Go.Proofs.YtggelekooacmnaaDoorW.PrintWords Go.Proofs.YtggelekooacmnaaDoorW.PrintLast Go.Proofs.YtggelekooacmnaaDoorW.PrintMore
attribute [local go_sem] max2_int min2_int max_two min_two max_three min_three max_four min_four   -- for this text's walks alone
set_option linter.unusedVariables false
set_option linter.unusedSimpArgs false



def errW : Option Int → Value
  | none => .nilIface
  | some c => .iface 0 (.int .i64 c)
theorem errW_none : errW none = .nilIface := rfl
theorem errW_some (c : Int) : errW (some c) = .iface 0 (.int .i64 c) := rfl

theorem info3 : (Tryd.prog.info? 3).map (fun i => (i.zero, i.size, i.bytes)) = some (some (.int .i64 0), 1, 8) := by kernel_rfl
theorem info9 : (Tryd.prog.info? 9).map (fun i => (i.zero, i.size, i.bytes)) = some (some (.string ⟨#[]⟩), 1, 16) := by kernel_rfl
theorem info24 : (Tryd.prog.info? 24).map (fun i => (i.zero, i.size, i.bytes)) = some (some (.agg #[(.int .i64 0), (.int .i64 0), (.int .i64 0), (.int .i64 0), (.slice none 0 0)]), 5, 56) := by kernel_rfl
theorem info41 : (Tryd.prog.info? 41).map (fun i => (i.zero, i.size, i.bytes)) = some (some (.agg #[(.int .i64 0), (.int .i64 0), (.int .i64 0)]), 3, 24) := by kernel_rfl
theorem info51 : (Tryd.prog.info? 51).map (fun i => (i.zero, i.size, i.bytes)) = some (some (.agg #[(.int .i64 0), (.slice none 0 0)]), 2, 32) := by kernel_rfl
-- the values' own types
/-! #### struct type 24, nested in itself -/
structure S24 where
  f0 : Int
  f1 : Int
  f2 : Int
  f3 : Int
  f4 : (List S24)
def z24 : S24 := ⟨(0 : Int), (0 : Int), (0 : Int), (0 : Int), ([] : List S24)⟩
def F24 (d : Kd S24) : Kd S24 := Kd.iso (Kd.pair (Kd.int .i64) (Kd.pair (Kd.int .i64) (Kd.pair (Kd.int .i64) (Kd.pair (Kd.int .i64) (Kd.slice 24 d))))) (fun x : S24 => (x.f0, x.f1, x.f2, x.f3, x.f4))
theorem mono24 : Kd.Mono F24 := Kd.mono_iso _ (Kd.mono_pair (Kd.mono_const _) (Kd.mono_pair (Kd.mono_const _) (Kd.mono_pair (Kd.mono_const _) (Kd.mono_pair (Kd.mono_const _) (Kd.mono_slice 24 Kd.mono_id)))))
theorem sub24 : Kd.Sub F24 [24] := Kd.sub_iso _ (Kd.sub_pair (Kd.sub_const _ (by decide)) (Kd.sub_pair (Kd.sub_const _ (by decide)) (Kd.sub_pair (Kd.sub_const _ (by decide)) (Kd.sub_pair (Kd.sub_const _ (by decide)) (Kd.sub_slice 24 (by decide) Kd.sub_id)))))
theorem sz24 : ∀ n, (Kd.upto F24 5 [24] n).sz = 5 := Kd.upto_sz (fun _ => rfl)
def k24 : Kd S24 := Kd.fix F24 5 [24] sz24 (Kd.upto_E sub24)
theorem k24_heap : Kd.Heap k24 := Kd.heap_fix (fun _ h_ => Kd.heap_iso _ (Kd.heap_pair (Kd.heap_int .i64) (Kd.heap_pair (Kd.heap_int .i64) (Kd.heap_pair (Kd.heap_int .i64) (Kd.heap_pair (Kd.heap_int .i64) (Kd.heap_slice 24 h_))))))
theorem k24_open {w : World} {x : S24} {cs : List Value} (h : k24.K w x cs) : ∃ A4 c4, cs = [.int .i64 x.f0, .int .i64 x.f1, .int .i64 x.f2, .int .i64 x.f3, .slice A4 x.f4.length c4] ∧ x.f4.length ≤ c4 ∧ k24.C w A4 x.f4.length x.f4 := by
  obtain ⟨n, h⟩ := h
  cases n with
  | zero => exact h.elim
  | succ n =>
    obtain ⟨_, _, rfl, rfl, ⟨_, _, rfl, rfl, ⟨_, _, rfl, rfl, ⟨_, _, rfl, rfl, ⟨A4, c4, rfl, l4, g4⟩⟩⟩⟩⟩ := h
    exact ⟨A4, c4, rfl, l4, Kd.fix_C g4⟩
theorem k24_openM {w : World} {base : Nat} {ok : Nat → Prop} {x : S24} {cs : List Value} (h : k24.M w base ok x cs) : ∃ v4, cs = [.int .i64 x.f0, .int .i64 x.f1, .int .i64 x.f2, .int .i64 x.f3, v4] ∧ k24.R 24 w base ok v4 x.f4 := by
  obtain ⟨n, h⟩ := h
  cases n with
  | zero => exact h.elim
  | succ n =>
    obtain ⟨_, _, rfl, rfl, ⟨_, _, rfl, rfl, ⟨_, _, rfl, rfl, ⟨_, _, rfl, rfl, ⟨v4, rfl, g4⟩⟩⟩⟩⟩ := h
    exact ⟨v4, rfl, Kd.fix_R g4⟩
theorem k24_mk (w : World) (x : S24) {A4 : Option Addr} {c4 : Nat} (l4 : x.f4.length ≤ c4) (g4 : k24.C w A4 x.f4.length x.f4) : k24.K w x [.int .i64 x.f0, .int .i64 x.f1, .int .i64 x.f2, .int .i64 x.f3, .slice A4 x.f4.length c4] := by
  obtain ⟨n4, q4⟩ := Kd.fix_C_back mono24 g4
  have r4 := Kd.upto_C_le mono24 sz24 (show n4 ≤ n4 by omega) q4
  exact ⟨n4 + 1, ⟨[.int .i64 x.f0], [.int .i64 x.f1, .int .i64 x.f2, .int .i64 x.f3, .slice A4 x.f4.length c4], rfl, rfl, ⟨[.int .i64 x.f1], [.int .i64 x.f2, .int .i64 x.f3, .slice A4 x.f4.length c4], rfl, rfl, ⟨[.int .i64 x.f2], [.int .i64 x.f3, .slice A4 x.f4.length c4], rfl, rfl, ⟨[.int .i64 x.f3], [.slice A4 x.f4.length c4], rfl, rfl, ⟨A4, c4, rfl, l4, r4⟩⟩⟩⟩⟩⟩
theorem k24_mkM (w : World) (base : Nat) (ok : Nat → Prop) (x : S24) {v4 : Value} (g4 : k24.R 24 w base ok v4 x.f4) : k24.M w base ok x [.int .i64 x.f0, .int .i64 x.f1, .int .i64 x.f2, .int .i64 x.f3, v4] := by
  obtain ⟨n4, q4⟩ := Kd.fix_R_back mono24 g4
  have r4 := Kd.upto_R_le mono24 sz24 (show n4 ≤ n4 by omega) q4
  exact ⟨n4 + 1, ⟨[.int .i64 x.f0], [.int .i64 x.f1, .int .i64 x.f2, .int .i64 x.f3, v4], rfl, rfl, ⟨[.int .i64 x.f1], [.int .i64 x.f2, .int .i64 x.f3, v4], rfl, rfl, ⟨[.int .i64 x.f2], [.int .i64 x.f3, v4], rfl, rfl, ⟨[.int .i64 x.f3], [v4], rfl, rfl, ⟨v4, rfl, r4⟩⟩⟩⟩⟩⟩
theorem k24_openF {W : World} {ok : Nat → Prop} {x : S24} {cs : List Value} (h : Kd.FK k24 W ok x cs) : ∃ A4 c4, cs = [.int .i64 x.f0, .int .i64 x.f1, .int .i64 x.f2, .int .i64 x.f3, .slice A4 x.f4.length c4] ∧ x.f4.length ≤ c4 ∧ Kd.F k24 W ok A4 x.f4.length x.f4 := by
  obtain ⟨A4, c4, rfl, l4, _⟩ := k24_open (Kd.FK_now h)
  exact ⟨A4, c4, rfl, l4, (fun W' hW => by obtain ⟨A4_, c4_, he, l4_, g4_⟩ := k24_open (h W' hW); injection (Option.some.inj (show some (Value.slice A4 x.f4.length c4) = some (Value.slice A4_ x.f4.length c4_) from congrArg (fun l => l[4]?) he)) with ha_ _ _; rw [ha_]; exact g4_)⟩
theorem k24_mkF (W : World) (ok : Nat → Prop) (x : S24) {A4 : Option Addr} {c4 : Nat} (l4 : x.f4.length ≤ c4) (g4 : Kd.F k24 W ok A4 x.f4.length x.f4) : Kd.FK k24 W ok x [.int .i64 x.f0, .int .i64 x.f1, .int .i64 x.f2, .int .i64 x.f3, .slice A4 x.f4.length c4] := fun W2 hW => k24_mk W2 x l4 (g4 W2 hW)
def rd_T24 (xs : List S24) (i : Int) : S24 := xs.getD i.toNat z24
theorem at_T24 {w : World} {A : Option Addr} {n : Nat} {xs : List S24} (h : Kd.C k24 w A n xs) (i : Int) (h0 : 0 ≤ i) (h1 : i < n) : ∃ ad A4 c4, A = some ad ∧ w.cell? (ad.add (i.toNat * 5)) = some (.int .i64 (rd_T24 xs i).f0) ∧ w.cell? ⟨(ad.add (i.toNat * 5)).block, (ad.add (i.toNat * 5)).off + 1, none⟩ = some (.int .i64 (rd_T24 xs i).f1) ∧ w.cell? ⟨(ad.add (i.toNat * 5)).block, (ad.add (i.toNat * 5)).off + 2, none⟩ = some (.int .i64 (rd_T24 xs i).f2) ∧ w.cell? ⟨(ad.add (i.toNat * 5)).block, (ad.add (i.toNat * 5)).off + 3, none⟩ = some (.int .i64 (rd_T24 xs i).f3) ∧ w.cell? ⟨(ad.add (i.toNat * 5)).block, (ad.add (i.toNat * 5)).off + 4, none⟩ = some (.slice A4 (rd_T24 xs i).f4.length c4) ∧ (rd_T24 xs i).f4.length ≤ c4 ∧ k24.C w A4 (rd_T24 xs i).f4.length (rd_T24 xs i).f4 := by
  obtain ⟨ad, c, e, _, hK, hc0⟩ := Kd.C_get h z24 i h0 h1
  have hc : ∀ j u, c[j]? = some u → w.cell? (ad.add (i.toNat * 5 + j)) = some u := hc0
  obtain ⟨A4, c4, rfl, l4, g4⟩ := k24_open hK
  exact ⟨ad, A4, c4, e, hc 0 _ rfl, by rw [← add_field _ _ 1 (by omega)]; exact hc 1 _ rfl, by rw [← add_field _ _ 2 (by omega)]; exact hc 2 _ rfl, by rw [← add_field _ _ 3 (by omega)]; exact hc 3 _ rfl, by rw [← add_field _ _ 4 (by omega)]; exact hc 4 _ rfl, l4, g4⟩

/-! #### struct type 41 -/
structure S41 where
  f0 : Int
  f1 : Int
  f2 : Int
def z41 : S41 := ⟨(0 : Int), (0 : Int), (0 : Int)⟩
def k41 : Kd S41 := Kd.iso (Kd.pair (Kd.int .i64) (Kd.pair (Kd.int .i64) (Kd.int .i64))) (fun x : S41 => (x.f0, x.f1, x.f2))
theorem k41_heap : Kd.Heap k41 := Kd.heap_iso _ (Kd.heap_pair (Kd.heap_int .i64) (Kd.heap_pair (Kd.heap_int .i64) (Kd.heap_int .i64)))
theorem k41_open {w : World} {x : S41} {cs : List Value} (h : k41.K w x cs) : cs = [.int .i64 x.f0, .int .i64 x.f1, .int .i64 x.f2] := by
  obtain ⟨_, _, rfl, rfl, ⟨_, _, rfl, rfl, rfl⟩⟩ := h
  exact rfl
theorem k41_openM {w : World} {base : Nat} {ok : Nat → Prop} {x : S41} {cs : List Value} (h : k41.M w base ok x cs) : cs = [.int .i64 x.f0, .int .i64 x.f1, .int .i64 x.f2] := by
  obtain ⟨_, _, rfl, rfl, ⟨_, _, rfl, rfl, rfl⟩⟩ := h
  exact rfl
theorem k41_mk (w : World) (x : S41)  : k41.K w x [.int .i64 x.f0, .int .i64 x.f1, .int .i64 x.f2] := ⟨[.int .i64 x.f0], [.int .i64 x.f1, .int .i64 x.f2], rfl, rfl, ⟨[.int .i64 x.f1], [.int .i64 x.f2], rfl, rfl, rfl⟩⟩
theorem k41_mkM (w : World) (base : Nat) (ok : Nat → Prop) (x : S41)  : k41.M w base ok x [.int .i64 x.f0, .int .i64 x.f1, .int .i64 x.f2] := ⟨[.int .i64 x.f0], [.int .i64 x.f1, .int .i64 x.f2], rfl, rfl, ⟨[.int .i64 x.f1], [.int .i64 x.f2], rfl, rfl, rfl⟩⟩
theorem k41_mkF (W : World) (ok : Nat → Prop) (x : S41) : Kd.FK k41 W ok x [.int .i64 x.f0, .int .i64 x.f1, .int .i64 x.f2] := fun W2 _ => k41_mk W2 x
def rd_T41 (xs : List S41) (i : Int) : S41 := xs.getD i.toNat z41
theorem at_T41 {w : World} {A : Option Addr} {n : Nat} {xs : List S41} (h : Kd.C k41 w A n xs) (i : Int) (h0 : 0 ≤ i) (h1 : i < n) : ∃ ad , A = some ad ∧ w.cell? (ad.add (i.toNat * 3)) = some (.int .i64 (rd_T41 xs i).f0) ∧ w.cell? ⟨(ad.add (i.toNat * 3)).block, (ad.add (i.toNat * 3)).off + 1, none⟩ = some (.int .i64 (rd_T41 xs i).f1) ∧ w.cell? ⟨(ad.add (i.toNat * 3)).block, (ad.add (i.toNat * 3)).off + 2, none⟩ = some (.int .i64 (rd_T41 xs i).f2) := by
  obtain ⟨ad, c, e, _, hK, hc0⟩ := Kd.C_get h z41 i h0 h1
  have hc : ∀ j u, c[j]? = some u → w.cell? (ad.add (i.toNat * 3 + j)) = some u := hc0
  obtain rfl := k41_open hK
  exact ⟨ad, e, hc 0 _ rfl, by rw [← add_field _ _ 1 (by omega)]; exact hc 1 _ rfl, by rw [← add_field _ _ 2 (by omega)]; exact hc 2 _ rfl⟩

/-! #### struct type 51, nested in itself -/
structure S51 where
  f0 : Int
  f1 : (List S51)
def z51 : S51 := ⟨(0 : Int), ([] : List S51)⟩
def F51 (d : Kd S51) : Kd S51 := Kd.iso (Kd.pair (Kd.int .i64) (Kd.slice 51 d)) (fun x : S51 => (x.f0, x.f1))
theorem mono51 : Kd.Mono F51 := Kd.mono_iso _ (Kd.mono_pair (Kd.mono_const _) (Kd.mono_slice 51 Kd.mono_id))
theorem sub51 : Kd.Sub F51 [51] := Kd.sub_iso _ (Kd.sub_pair (Kd.sub_const _ (by decide)) (Kd.sub_slice 51 (by decide) Kd.sub_id))
theorem sz51 : ∀ n, (Kd.upto F51 2 [51] n).sz = 2 := Kd.upto_sz (fun _ => rfl)
def k51 : Kd S51 := Kd.fix F51 2 [51] sz51 (Kd.upto_E sub51)
theorem k51_heap : Kd.Heap k51 := Kd.heap_fix (fun _ h_ => Kd.heap_iso _ (Kd.heap_pair (Kd.heap_int .i64) (Kd.heap_slice 51 h_)))
theorem k51_open {w : World} {x : S51} {cs : List Value} (h : k51.K w x cs) : ∃ A1 c1, cs = [.int .i64 x.f0, .slice A1 x.f1.length c1] ∧ x.f1.length ≤ c1 ∧ k51.C w A1 x.f1.length x.f1 := by
  obtain ⟨n, h⟩ := h
  cases n with
  | zero => exact h.elim
  | succ n =>
    obtain ⟨_, _, rfl, rfl, ⟨A1, c1, rfl, l1, g1⟩⟩ := h
    exact ⟨A1, c1, rfl, l1, Kd.fix_C g1⟩
theorem k51_openM {w : World} {base : Nat} {ok : Nat → Prop} {x : S51} {cs : List Value} (h : k51.M w base ok x cs) : ∃ v1, cs = [.int .i64 x.f0, v1] ∧ k51.R 51 w base ok v1 x.f1 := by
  obtain ⟨n, h⟩ := h
  cases n with
  | zero => exact h.elim
  | succ n =>
    obtain ⟨_, _, rfl, rfl, ⟨v1, rfl, g1⟩⟩ := h
    exact ⟨v1, rfl, Kd.fix_R g1⟩
theorem k51_mk (w : World) (x : S51) {A1 : Option Addr} {c1 : Nat} (l1 : x.f1.length ≤ c1) (g1 : k51.C w A1 x.f1.length x.f1) : k51.K w x [.int .i64 x.f0, .slice A1 x.f1.length c1] := by
  obtain ⟨n1, q1⟩ := Kd.fix_C_back mono51 g1
  have r1 := Kd.upto_C_le mono51 sz51 (show n1 ≤ n1 by omega) q1
  exact ⟨n1 + 1, ⟨[.int .i64 x.f0], [.slice A1 x.f1.length c1], rfl, rfl, ⟨A1, c1, rfl, l1, r1⟩⟩⟩
theorem k51_mkM (w : World) (base : Nat) (ok : Nat → Prop) (x : S51) {v1 : Value} (g1 : k51.R 51 w base ok v1 x.f1) : k51.M w base ok x [.int .i64 x.f0, v1] := by
  obtain ⟨n1, q1⟩ := Kd.fix_R_back mono51 g1
  have r1 := Kd.upto_R_le mono51 sz51 (show n1 ≤ n1 by omega) q1
  exact ⟨n1 + 1, ⟨[.int .i64 x.f0], [v1], rfl, rfl, ⟨v1, rfl, r1⟩⟩⟩
theorem k51_openF {W : World} {ok : Nat → Prop} {x : S51} {cs : List Value} (h : Kd.FK k51 W ok x cs) : ∃ A1 c1, cs = [.int .i64 x.f0, .slice A1 x.f1.length c1] ∧ x.f1.length ≤ c1 ∧ Kd.F k51 W ok A1 x.f1.length x.f1 := by
  obtain ⟨A1, c1, rfl, l1, _⟩ := k51_open (Kd.FK_now h)
  exact ⟨A1, c1, rfl, l1, (fun W' hW => by obtain ⟨A1_, c1_, he, l1_, g1_⟩ := k51_open (h W' hW); injection (Option.some.inj (show some (Value.slice A1 x.f1.length c1) = some (Value.slice A1_ x.f1.length c1_) from congrArg (fun l => l[1]?) he)) with ha_ _ _; rw [ha_]; exact g1_)⟩
theorem k51_mkF (W : World) (ok : Nat → Prop) (x : S51) {A1 : Option Addr} {c1 : Nat} (l1 : x.f1.length ≤ c1) (g1 : Kd.F k51 W ok A1 x.f1.length x.f1) : Kd.FK k51 W ok x [.int .i64 x.f0, .slice A1 x.f1.length c1] := fun W2 hW => k51_mk W2 x l1 (g1 W2 hW)
def rd_T51 (xs : List S51) (i : Int) : S51 := xs.getD i.toNat z51
theorem at_T51 {w : World} {A : Option Addr} {n : Nat} {xs : List S51} (h : Kd.C k51 w A n xs) (i : Int) (h0 : 0 ≤ i) (h1 : i < n) : ∃ ad A1 c1, A = some ad ∧ w.cell? (ad.add (i.toNat * 2)) = some (.int .i64 (rd_T51 xs i).f0) ∧ w.cell? ⟨(ad.add (i.toNat * 2)).block, (ad.add (i.toNat * 2)).off + 1, none⟩ = some (.slice A1 (rd_T51 xs i).f1.length c1) ∧ (rd_T51 xs i).f1.length ≤ c1 ∧ k51.C w A1 (rd_T51 xs i).f1.length (rd_T51 xs i).f1 := by
  obtain ⟨ad, c, e, _, hK, hc0⟩ := Kd.C_get h z51 i h0 h1
  have hc : ∀ j u, c[j]? = some u → w.cell? (ad.add (i.toNat * 2 + j)) = some u := hc0
  obtain ⟨A1, c1, rfl, l1, g1⟩ := k51_open hK
  exact ⟨ad, A1, c1, e, hc 0 _ rfl, by rw [← add_field _ _ 1 (by omega)]; exact hc 1 _ rfl, l1, g1⟩

theorem Kd.R_readsM {α : Type} {d : Kd α} {e : Nat} {W : World} {base : Nat} {ok : Nat → Prop} {A : Option Addr} {n c : Nat} {xs : List α} (h : Kd.R d e W base ok (.slice A n c) xs) :
    ReadsRow (d.M W base (fun k => ok k ∧ some k ≠ (Value.slice A n c).ownBlock)) d.sz W A n xs := by
  obtain ⟨_, inner, ho, hr⟩ := h
  obtain ⟨A', c', he, hR⟩ := own_reads_row ho hr rfl
  injection he with h1 h2 h3
  subst h1; subst h2
  exact hR
theorem Kd.V_away {α : Type} {d : Kd α} {e : Nat} {W : World} {base g : Nat} {ok : Nat → Prop} {v : Value} {xs : List α} (h : Kd.V d e W base ok v xs) (hok : ∀ k, ok k → k ≠ g) (hn : 0 < xs.length := by first | omega | (simp_all; omega)) (hs : 0 < d.sz := by decide) : some g ≠ v.ownBlock := by
  obtain ⟨A, c, rfl, _, hF⟩ := h
  rcases A with _ | ad
  · simp [Value.ownBlock]
  · intro he
    have h1 := Kd.F_in hF rfl hn hs
    simp only [Value.ownBlock, Option.some.injEq] at he
    exact hok _ h1 he.symm

theorem footat_T24_4 {w W : World} {g : Nat} {A : Option Addr} {n : Nat} {xs : List S24} {i : Int} {ad0 : Addr} {Ai : Option Addr} {m ci : Nat} (h : ∀ W_, KeepBut w W_ g none → Kd.C k24 W_ A n xs) (hk : KeepBut w W g none) (h0 : 0 ≤ i) (h1 : i < (n : Int)) (hA : A = some ad0)
    (hx : W.cell? ⟨(ad0.add (i.toNat * 5)).block, (ad0.add (i.toNat * 5)).off + 4, none⟩ = some (.slice Ai m ci)) : ∀ W_, KeepBut w W_ g none → Kd.C k24 W_ Ai (rd_T24 xs i).f4.length (rd_T24 xs i).f4 := by
  intro W_ hk_
  subst hA
  obtain ⟨ad, A4, c4, e, x0, x1, x2, x3, x4, l0, g0⟩ := at_T24 (h w (KeepBut.refl w g none)) i h0 h1
  have hne := Kd.foot_ne h (by omega) (by decide)
  injection e with e; subst e
  obtain ⟨ad2, A4_, c4_, e2, y0, y1, y2, y3, y4, m0, q0⟩ := at_T24 (h W_ hk_) i h0 h1
  injection e2 with e2; subst e2
  have z1 := keep_cell hk x4 (by first | (rw [add_block]; exact hne) | (show (Addr.add _ _).block ≠ _; rw [add_block]; exact hne) | exact hne)
  have z2 := keep_cell hk_ x4 (by first | (rw [add_block]; exact hne) | (show (Addr.add _ _).block ≠ _; rw [add_block]; exact hne) | exact hne)
  have z3 := Option.some.inj (z1.symm.trans hx)
  have z4 := Option.some.inj (z2.symm.trans y4)
  injection z3 with a1 _ _
  injection z4 with b1 _ _
  rw [← a1, b1]
  exact q0

theorem bl_ {p : Prop} (h : p := by repeat (first | (with_reducible first | exact HB.out | apply below_alloc | apply pw_below_drewN | apply below_drew1 | refine below_set ?_ (Aside0.out (by assumption)) | refine below_set ?_ (IsS63.ge (Aside0.out (by assumption)))) | exact HB.out)) : p := h
theorem si_ {p : Prop} (h : p := by repeat (first | (with_reducible first | exact (Aside0.out (by assumption)) | apply IsS63.alloc | apply IsS63.drewN | apply IsS63.drew | apply IsS63.set_1 | apply IsS63.set_2 | refine IsS63.far ?_ (Aside0.out (by assumption)) _) | exact (Aside0.out (by assumption)))) : p := h
theorem bk_ {p : Prop} (h : p := by (with_reducible repeat (first | refine blk_drewN ?_ _ | refine blk_drew ?_ | refine blk_alloc ?_ _)); exact (Aside0.out (by assumption))) : p := h
theorem pR_ {p q : Prop} (h : p) (k : p → q := by intro h_; (with_reducible repeat (first | apply Kd.R_alloc | apply Kd.R_drewN | apply Kd.R_drew)); exact h_) : q := k h
theorem pN_ {p q : Prop} (h : p) (k : p → q := by intro h_; (with_reducible repeat (first | apply Kd.N_alloc | apply Kd.N_drewN | apply Kd.N_drew)); exact h_) : q := k h
theorem pV_ {p q : Prop} (h : p) (k : p → q := by intro h_; (with_reducible repeat (first | apply Kd.V_alloc | apply Kd.V_drewN | apply Kd.V_drew)); exact h_) : q := k h
theorem pS_ {p q : Prop} (h : p) (k : p → q := by intro h_; (with_reducible repeat (first | apply Kd.S_alloc | apply Kd.S_drewN | apply Kd.S_drew)); exact h_) : q := k h
theorem pQ_ {p q : Prop} (h : p) (k : p → q := by intro h_; (with_reducible repeat (first | apply Kd.Q_alloc | apply Kd.Q_drewN | apply Kd.Q_drew)); exact h_) : q := k h
theorem re_ {p : Prop} (h : p := by first | rfl | (simp [errW_none, errW_some] <;> rfl) | (simp [*, errW_none, errW_some] <;> rfl)) : p := h
theorem rs_ {p : Prop} (h : p := by first | rfl | (simp; done) | (simp [*]; done)) : p := h
theorem dt_ {p : Prop} [Decidable p] (h : decide p = true := by first | (with_reducible assumption) | assumption) : p := of_decide_eq_true h
theorem gw_ {n m g : Nat} (hg : g = m) (h : n ≤ m) : Aside0 (n ≤ g) := ⟨by rw [hg]; exact h⟩
theorem cf1_ {W : World} {g : Nat} {a_ : Value} {t : TypeId} (h : W.heap[g]? = some (.cells #[a_] t (0, 0))) : W.cell? ⟨g, 0, none⟩ = some a_ ∧ W.frozen? ⟨g, 0, none⟩ = false :=
  ⟨(blk_cell h 0).trans rfl, blk_frozen h 0⟩
theorem cf2_ {W : World} {g : Nat} {a_ b_ : Value} {t : TypeId} (h : W.heap[g]? = some (.cells #[a_, b_] t (0, 0))) : W.cell? ⟨g, 0, none⟩ = some a_ ∧ W.cell? ⟨g, 1, none⟩ = some b_ ∧ W.frozen? ⟨g, 0, none⟩ = false ∧ W.frozen? ⟨g, 1, none⟩ = false :=
  ⟨(blk_cell h 0).trans rfl, (blk_cell h 1).trans rfl, blk_frozen h 0, blk_frozen h 1⟩
theorem cf3_ {W : World} {g : Nat} {a_ b_ c_ : Value} {t : TypeId} (h : W.heap[g]? = some (.cells #[a_, b_, c_] t (0, 0))) : W.cell? ⟨g, 0, none⟩ = some a_ ∧ W.cell? ⟨g, 1, none⟩ = some b_ ∧ W.cell? ⟨g, 2, none⟩ = some c_ ∧ W.frozen? ⟨g, 0, none⟩ = false ∧ W.frozen? ⟨g, 1, none⟩ = false ∧ W.frozen? ⟨g, 2, none⟩ = false :=
  ⟨(blk_cell h 0).trans rfl, (blk_cell h 1).trans rfl, (blk_cell h 2).trans rfl, blk_frozen h 0, blk_frozen h 1, blk_frozen h 2⟩
theorem cf4_ {W : World} {g : Nat} {a_ b_ c_ d_ : Value} {t : TypeId} (h : W.heap[g]? = some (.cells #[a_, b_, c_, d_] t (0, 0))) : W.cell? ⟨g, 0, none⟩ = some a_ ∧ W.cell? ⟨g, 1, none⟩ = some b_ ∧ W.cell? ⟨g, 2, none⟩ = some c_ ∧ W.cell? ⟨g, 3, none⟩ = some d_ ∧ W.frozen? ⟨g, 0, none⟩ = false ∧ W.frozen? ⟨g, 1, none⟩ = false ∧ W.frozen? ⟨g, 2, none⟩ = false ∧ W.frozen? ⟨g, 3, none⟩ = false :=
  ⟨(blk_cell h 0).trans rfl, (blk_cell h 1).trans rfl, (blk_cell h 2).trans rfl, (blk_cell h 3).trans rfl, blk_frozen h 0, blk_frozen h 1, blk_frozen h 2, blk_frozen h 3⟩
theorem cf5_ {W : World} {g : Nat} {a_ b_ c_ d_ e_ : Value} {t : TypeId} (h : W.heap[g]? = some (.cells #[a_, b_, c_, d_, e_] t (0, 0))) : W.cell? ⟨g, 0, none⟩ = some a_ ∧ W.cell? ⟨g, 1, none⟩ = some b_ ∧ W.cell? ⟨g, 2, none⟩ = some c_ ∧ W.cell? ⟨g, 3, none⟩ = some d_ ∧ W.cell? ⟨g, 4, none⟩ = some e_ ∧ W.frozen? ⟨g, 0, none⟩ = false ∧ W.frozen? ⟨g, 1, none⟩ = false ∧ W.frozen? ⟨g, 2, none⟩ = false ∧ W.frozen? ⟨g, 3, none⟩ = false ∧ W.frozen? ⟨g, 4, none⟩ = false :=
  ⟨(blk_cell h 0).trans rfl, (blk_cell h 1).trans rfl, (blk_cell h 2).trans rfl, (blk_cell h 3).trans rfl, (blk_cell h 4).trans rfl, blk_frozen h 0, blk_frozen h 1, blk_frozen h 2, blk_frozen h 3, blk_frozen h 4⟩
theorem cf6_ {W : World} {g : Nat} {a_ b_ c_ d_ e_ f_ : Value} {t : TypeId} (h : W.heap[g]? = some (.cells #[a_, b_, c_, d_, e_, f_] t (0, 0))) : W.cell? ⟨g, 0, none⟩ = some a_ ∧ W.cell? ⟨g, 1, none⟩ = some b_ ∧ W.cell? ⟨g, 2, none⟩ = some c_ ∧ W.cell? ⟨g, 3, none⟩ = some d_ ∧ W.cell? ⟨g, 4, none⟩ = some e_ ∧ W.cell? ⟨g, 5, none⟩ = some f_ ∧ W.frozen? ⟨g, 0, none⟩ = false ∧ W.frozen? ⟨g, 1, none⟩ = false ∧ W.frozen? ⟨g, 2, none⟩ = false ∧ W.frozen? ⟨g, 3, none⟩ = false ∧ W.frozen? ⟨g, 4, none⟩ = false ∧ W.frozen? ⟨g, 5, none⟩ = false :=
  ⟨(blk_cell h 0).trans rfl, (blk_cell h 1).trans rfl, (blk_cell h 2).trans rfl, (blk_cell h 3).trans rfl, (blk_cell h 4).trans rfl, (blk_cell h 5).trans rfl, blk_frozen h 0, blk_frozen h 1, blk_frozen h 2, blk_frozen h 3, blk_frozen h 4, blk_frozen h 5⟩
def bm (n b : Nat) : Array Bool := ((List.range n).map fun i => b.testBit i).toArray
theorem pu_ {P : Program} {ops : Array Oper} {Q : Exit → Act → World → Prop} {md : Region.Mode} {S : World → Prop} {ds : List Nat} {T : Bool × List (List Nat × List Nat)} {oi : Oper} {v : Value} {fuel : Nat} {l : Array Bool} {a a' : Act} {w : World} (hT : Aside0 (rtab md ops = T)) (i n : Nat) (l' : Array Bool) (h : wpAnyLast P md ops Q S ds fuel l' a' w)
    (hi : ops[i]? = some oi := by exact rfl) (hN : oi.dst = some n := by exact rfl) (hc : anyT T l.toList l'.toList i = true := by kernel_rfl) (hQ : ∀ c a w, Q (.panic c) (a.put oi.dst v) w → Q (.panic c) a w := by exact fun _ _ _ h => h) (hw : Region.wanted oi (yielded ops a.tmps) = true := by exact rfl)
    (hy : ∀ w, (execOp a.eval oi).run P w = .ok (.value v) w := by intro w'; go_simp; with_reducible rfl) (ha : a.put (some n) v = a' := by simp only [Act.put, List.setIfInBounds_toArray, List.set_cons_zero, List.set_cons_succ, i64_w, i32_w]; rfl) : wpAnyLast P md ops Q S ds (fuel + 1) l a w := pure_ l' hi hN (any_of hT.out hc) hQ (Or.inl ⟨hw, hy⟩) ha h
theorem pf_ {P : Program} {ops : Array Oper} {Q : Exit → Act → World → Prop} {md : Region.Mode} {S : World → Prop} {ds : List Nat} {T : Bool × List (List Nat × List Nat)} {oi : Oper} {fuel : Nat} {l : Array Bool} {a a' : Act} {w : World} (hT : Aside0 (rtab md ops = T)) (i n : Nat) (l' : Array Bool) (h : wpAnyLast P md ops Q S ds fuel l' a' w)
    (hi : ops[i]? = some oi := by exact rfl) (hN : oi.dst = some n := by exact rfl) (hc : anyT T l.toList l'.toList i = true := by kernel_rfl) (hQ : ∀ c a w, Q (.panic c) (a.put oi.dst undef) w → Q (.panic c) a w := by exact fun _ _ _ h => h) (hw : Region.wanted oi (yielded ops a.tmps) = false := by exact rfl)
    (ha : a.put (some n) undef = a' := by simp only [Act.put, List.setIfInBounds_toArray, List.set_cons_zero, List.set_cons_succ, i64_w, i32_w]; rfl) : wpAnyLast P md ops Q S ds (fuel + 1) l a w := pure_ l' hi hN (any_of hT.out hc) hQ (Or.inr ⟨hw, rfl⟩) ha h
theorem ta_ {P : Program} {ops : Array Oper} {Q : Exit → Act → World → Prop} {md : Region.Mode} {S : World → Prop} {ds B : List Nat} {T : Bool × List (List Nat × List Nat)} {oi : Oper} {v : Value} {fuel : Nat} {l : Array Bool} {a a' : Act} {w : World} (hT : Aside0 (rtab md ops = T)) (hB : Aside0 (waitsOk T.2 B = true)) (i n : Nat) (l' : Array Bool) (hS : S w)
    (h : wpAnyLast P md ops Q S ds fuel l' a' w)
    (hi : ops[i]? = some oi := by exact rfl) (hN : oi.dst = some n := by exact rfl) (hc : takeW T B ds l.toList l'.toList i = true := by kernel_rfl) (hQ : ∀ c a w, Q (.panic c) (a.put oi.dst v) w → Q (.panic c) a w := by exact fun _ _ _ h => h) (hw : Region.wanted oi (yielded ops a.tmps) = true := by exact rfl)
    (hy : ∀ w, S w → (execOp a.eval oi).run P w = .ok (.value v) w := by intro w' hs_; (repeat (obtain ⟨_, hs_⟩ := hs_)); go_simp; with_reducible rfl)
    (ha : a.put (some n) v = a' := by simp only [Act.put, List.setIfInBounds_toArray, List.set_cons_zero, List.set_cons_succ, i64_w, i32_w]; rfl) : wpAnyLast P md ops Q S ds (fuel + 1) l a w := take_ l' hi hN (take_ofW hT.out hB.out hc) hQ (Or.inl ⟨hw, hy⟩) hS ha h
end Go.Proofs.YtggelekooacmnaaDoor.Q
namespace Go.Proofs.YtggelekooacmnaaDoor.Q
open Go.RowKit Go.Proofs.YtggelekooacmnaaDoorW.PrintWords Go.Proofs.YtggelekooacmnaaDoorW.PrintLast Go.Proofs.YtggelekooacmnaaDoorW.PrintMore
attribute [local go_sem] max2_int min2_int max_two min_two max_three min_three max_four min_four   -- for this text's walks alone
set_option linter.unusedVariables false
set_option linter.unusedSimpArgs false

/-! ### types_depth: function 38 -/
mutual
def types_depth.l0 : Nat → Int → List (S24) → Int → Int → Option (Int)
  | 0, _, _, _, _ => none
  | k + 1, x3, x7, x8, x9 => if x9 < x8 then (if 0 ≤ x9 then (if x9 < (x7.length : Int) then ((types_depth.f k ((rd_T24 x7 x9).f0) ((rd_T24 x7 x9).f1) ((rd_T24 x7 x9).f2) ((rd_T24 x7 x9).f3) ((rd_T24 x7 x9).f4)).bind fun t104 => (types_depth.l0 k (mx x3 t104) x7 x8 (wrap64 (x9 + 1)))) else (none)) else (none)) else (some (wrap64 (x3 + 1)))
def types_depth.f : Nat → Int → Int → Int → Int → List (S24) → Option (Int)
  | 0, _, _, _, _, _ => none
  | k + 1, a0_0, a0_1, a0_2, a0_3, l0_4 => types_depth.l0 k 0 l0_4 (l0_4.length : Int) 0
end
theorem types_depth.mono_l : ∀ k, (∀ y0 y1 y2 y3 y4, LeO (types_depth.f k y0 y1 y2 y3 y4) (types_depth.f (k + 1) y0 y1 y2 y3 y4)) ∧ (∀ y0 y1 y2 y3, LeO (types_depth.l0 k y0 y1 y2 y3) (types_depth.l0 (k + 1) y0 y1 y2 y3))
  | 0 => ⟨fun _ _ _ _ _ r h => by simp [types_depth.f] at h, fun _ _ _ _ r h => by simp [types_depth.l0] at h⟩
  | k + 1 => by
    obtain ⟨ih0, ih1⟩ := types_depth.mono_l k
    refine ⟨?_, ?_⟩
    · intro y0 y1 y2 y3 y4
      unfold types_depth.f
      repeat' first
      | (with_reducible exact ih0 _ _ _ _ _)
      | (with_reducible exact ih1 _ _ _ _)
      | (with_reducible exact LeO.refl _)
      | (with_reducible exact LeO.none _)
      | (with_reducible refine LeO.ite ?_ ?_)
      | (with_reducible refine LeO.bind ?_ (fun _ => ?_))
      | exact ih0 _ _ _ _ _
      | exact ih1 _ _ _ _
      | exact LeO.none _
      | refine LeO.ite ?_ ?_
      | refine LeO.bind ?_ (fun _ => ?_)
    · intro y0 y1 y2 y3
      unfold types_depth.l0
      repeat' first
      | (with_reducible exact ih0 _ _ _ _ _)
      | (with_reducible exact ih1 _ _ _ _)
      | (with_reducible exact LeO.refl _)
      | (with_reducible exact LeO.none _)
      | (with_reducible refine LeO.ite ?_ ?_)
      | (with_reducible refine LeO.bind ?_ (fun _ => ?_))
      | exact ih0 _ _ _ _ _
      | exact ih1 _ _ _ _
      | exact LeO.none _
      | refine LeO.ite ?_ ?_
      | refine LeO.bind ?_ (fun _ => ?_)
theorem types_depth.mono : ∀ a0 a1 a2 a3 a4 k, LeO (types_depth.f k a0 a1 a2 a3 a4) (types_depth.f (k + 1) a0 a1 a2 a3 a4) := by
  intro a0 a1 a2 a3 a4 k
  obtain ⟨ih0, ih1⟩ := types_depth.mono_l k
  exact ih0 a0 a1 a2 a3 a4
set_option maxHeartbeats 8000000 in
set_option maxRecDepth 100000 in
theorem types_depth.calls (k : Nat) : ∀ (a0_0 : Int) (a0_1 : Int) (a0_2 : Int) (a0_3 : Int) (A0_4 : Option Addr) (c0_4 : Nat) (l0_4 : List (S24)) (r : Int) (w : World) (hr0_4 : Kd.C k24 w A0_4 l0_4.length l0_4) (hc0_4 : l0_4.length ≤ c0_4) (h : types_depth.f k a0_0 a0_1 a0_2 a0_3 l0_4 = some r),
    Calls Tryd.prog 38 #[.agg #[.int .i64 a0_0, .int .i64 a0_1, .int .i64 a0_2, .int .i64 a0_3, .slice A0_4 l0_4.length c0_4]] w fun e w' => e = .returned (.int .i64 r) ∧ Below w.heap.size w w' := by
  induction k using Nat.strongRecOn with
  | _ k ih =>
  intro a0_0 a0_1 a0_2 a0_3 A0_4 c0_4 l0_4 r w hr0_4 hc0_4 h
  cases k with
  | zero => exact absurd h (by simp [types_depth.f])
  | succ k =>
  simp only [types_depth.f] at h
  have hu24 := Tryd.underlying24
  have HR0_4 := Aside0.mk hr0_4
  have HC0_4 := Aside0.mk hc0_4
  clear hr0_4 hc0_4
  have HB := Aside0.mk (Below.refl w.heap.size w)
  have H : (types_depth.l0 k 0 l0_4 (l0_4.length : Int) 0) = some r := h
  clear h
  have H' := Aside0.mk H
  clear H
  go_enter Tryd.func38, Tryd.ntmps38
  go_wp2_with (first | ((with_reducible refine gate_dst (N := 1) rfl ?_); refine box_event ?hg (N := 1) ?hd (cs := #[.int .i64 a0_0, .int .i64 a0_1, .int .i64 a0_2, .int .i64 a0_3, .slice A0_4 l0_4.length c0_4]) (t := 24) ?hr ?_; (case hd => rfl); (case hg => rfl); (case hr => first | (go_simp; done) | (go_simp; rfl)); intro gb101 hg w2 hbox hb; have n0_ := Aside0.mk (below_step (by repeat (first | (with_reducible first | exact HB.out | apply below_alloc | apply pw_below_drewN | apply below_drew1) | exact HB.out)) hb); have n1_ := Aside0.mk (hbox); have n2_ := Aside0.mk ((by rw [hg]; exact (below_size (by repeat (first | (with_reducible first | exact HB.out | apply below_alloc | apply pw_below_drewN | apply below_drew1) | exact HB.out))) : w.heap.size ≤ gb101)); have n3_ := Aside0.mk ((by rw [hg]; exact (below_size (by repeat (first | (with_reducible first | exact HB.out | apply below_alloc | apply pw_below_drewN | apply below_drew1) | exact HB.out))) : w.heap.size ≤ gb101)); clear HB; have HB := n0_; have BK101 := n1_; have GW101 := n2_; have GE101 := n3_; clear n0_ n1_ n2_ n3_; clear hb hbox hg; have hcz3_0 : w2.cell? ⟨gb101, 0, none⟩ = some (.int .i64 a0_0) := (blk_cell BK101.out 0).trans rfl; have hcz3_1 : w2.cell? ⟨gb101, 1, none⟩ = some (.int .i64 a0_1) := (blk_cell BK101.out 1).trans rfl; have hcz3_2 : w2.cell? ⟨gb101, 2, none⟩ = some (.int .i64 a0_2) := (blk_cell BK101.out 2).trans rfl; have hcz3_3 : w2.cell? ⟨gb101, 3, none⟩ = some (.int .i64 a0_3) := (blk_cell BK101.out 3).trans rfl; have hcz3_4 : w2.cell? ⟨gb101, 4, none⟩ = some (.slice A0_4 l0_4.length c0_4) := (blk_cell BK101.out 4).trans rfl; have hfz3_0 := blk_frozen BK101.out 0; have hfz3_1 := blk_frozen BK101.out 1; have hfz3_2 := blk_frozen BK101.out 2; have hfz3_3 := blk_frozen BK101.out 3; have hfz3_4 := blk_frozen BK101.out 4))
  go_loopg [3, 9] k (fun kq v3 v9 w' => ∃ (x3_1 : Int) (x9_1 : Int), v3 = .int .i64 x3_1 ∧ v9 = .int .i64 x9_1 ∧ Aside0 (types_depth.l0 kq x3_1 l0_4 (l0_4.length : Int) x9_1 = some r) ∧ Aside0 (kq ≤ k) ∧ Aside0 (w'.heap[gb101]? = some (.cells #[.int .i64 a0_0, .int .i64 a0_1, .int .i64 a0_2, .int .i64 a0_3, (.slice A0_4 l0_4.length c0_4)] 24 (0, 0))) ∧ Aside0 (Below w.heap.size w w'))
  case atStart => exact ⟨(0), (0), (by first | rfl | (simp; done) | (simp [*]; done)), (by first | rfl | (simp; done) | (simp [*]; done)), H', ⟨Nat.le_refl _⟩, ⟨by (with_reducible repeat (first | refine blk_drewN ?_ _ | refine blk_drew ?_ | refine blk_alloc ?_ _)); exact BK101.out⟩, ⟨by repeat (first | (with_reducible first | exact HB.out | apply below_alloc | apply pw_below_drewN | apply below_drew1 | refine below_set ?_ GE101.out) | exact HB.out)⟩⟩
  case round =>
    clear H'
    try clear p2
    try clear c3
    try clear hcz3_0
    try clear hcz3_1
    try clear hcz3_2
    try clear hcz3_3
    try clear hcz3_4
    try clear hfz3_0
    try clear hfz3_1
    try clear hfz3_2
    try clear hfz3_3
    try clear hfz3_4
    obtain ⟨x3_1, x9_1, rfl, rfl, HA, HK1, BK101, HB⟩ := hrel
    cases gk with
    | zero => exact absurd HA.out (by simp [types_depth.l0])
    | succ k1 =>
      have H := HA.out
      clear HA
      simp only [types_depth.l0] at H
      by_cases c4 : x9_1 < (l0_4.length : Int)
      · rw [if_pos c4] at H
        have c4b0 : decide (x9_1 < (l0_4.length : Int)) = true := decide_eq_true c4
        clear c4
        by_cases c5 : 0 ≤ x9_1
        · rw [if_pos c5] at H
          have c5b0 : decide (0 ≤ x9_1) = true := decide_eq_true c5
          clear c5
          by_cases c6 : x9_1 < (l0_4.length : Int)
          · rw [if_pos c6] at H
            have c6b0 : decide (x9_1 < (l0_4.length : Int)) = true := decide_eq_true c6
            clear c6
            replace H := Option.bind_eq_some_iff.mp H
            obtain ⟨t104, A70, H⟩ := H
            replace H : (types_depth.l0 k1 (mx x3_1 t104) l0_4 (l0_4.length : Int) (wrap64 (x9_1 + 1))) = some r := H
            have A7 := Aside0.mk A70
            clear A70
            obtain ⟨ji8, hji8⟩ : ∃ j_ : Int, (mx x3_1 t104) = j_ := ⟨_, rfl⟩
            replace H : (types_depth.l0 k1 ji8 l0_4 (l0_4.length : Int) (wrap64 (x9_1 + 1))) = some r := by first | (rw [hji8] at H; exact H) | (simp only [hji8] at H ⊢; exact H)
            (try rw [hji8] at A7)
            have hji8_ : (if x3_1 < t104 then t104 else x3_1) = ji8 := hji8
            have H' := Aside0.mk H
            clear H
            have p102 : 0 ≤ (x9_1 : Int) := of_decide_eq_true (by first | (with_reducible assumption) | assumption)
            have q102 : x9_1 < (l0_4.length : Int) := of_decide_eq_true (by first | (with_reducible assumption) | assumption)
            obtain ⟨ad102, A102_4, c102_4, e102, hx102_0, hx102_1, hx102_2, hx102_3, hx102_4, hl102_4, hi102_4⟩ := at_T24 HR0_4.out x9_1 p102 q102
            cases e102
            replace hx102_0 := (HB.out.cell (World.block_lt_of_cell? w _ hx102_0)).trans hx102_0
            replace hx102_1 := (HB.out.cell (World.block_lt_of_cell? w _ hx102_1)).trans hx102_1
            replace hx102_2 := (HB.out.cell (World.block_lt_of_cell? w _ hx102_2)).trans hx102_2
            replace hx102_3 := (HB.out.cell (World.block_lt_of_cell? w _ hx102_3)).trans hx102_3
            replace hx102_4 := (HB.out.cell (World.block_lt_of_cell? w _ hx102_4)).trans hx102_4
            have HR102_4 := Aside0.mk hi102_4
            have HC102_4 := Aside0.mk hl102_4
            clear hi102_4 hl102_4
            replace p102 := eq_true p102
            replace q102 := eq_true q102
            go_wp2_with (first | ((with_reducible refine gate_dst (N := 5) rfl ?_); refine box_event ?hg (N := 5) ?hd (cs := #[.int .i64 0, .int .i64 0, .int .i64 0, .int .i64 0, .slice none 0 0]) (t := 24) ?hr ?_; (case hd => rfl); (case hg => rfl); (case hr => first | (go_simp; done) | (go_simp; rfl)); intro gb103 hg w9 hbox hb; have n0_ := Aside0.mk (blk_below (g := gb101) (o := .cells #[.int .i64 a0_0, .int .i64 a0_1, .int .i64 a0_2, .int .i64 a0_3, .slice (some ad102) l0_4.length c0_4] 24 (0, 0)) (by (with_reducible repeat (first | refine blk_drewN ?_ _ | refine blk_drew ?_ | refine blk_alloc ?_ _)); exact BK101.out) hb); have n1_ := Aside0.mk (below_step (by repeat (first | (with_reducible first | exact HB.out | apply below_alloc | apply pw_below_drewN | apply below_drew1 | refine below_set ?_ GE101.out) | exact HB.out)) hb); have n2_ := Aside0.mk (hbox); have n3_ := Aside0.mk ((by rw [hg]; exact (below_size (by repeat (first | (with_reducible first | exact HB.out | apply below_alloc | apply pw_below_drewN | apply below_drew1 | refine below_set ?_ GE101.out) | exact HB.out))) : w.heap.size ≤ gb103)); have n4_ := Aside0.mk ((by rw [hg]; exact (below_size (by repeat (first | (with_reducible first | exact HB.out | apply below_alloc | apply pw_below_drewN | apply below_drew1 | refine below_set ?_ GE101.out) | exact HB.out))) : w.heap.size ≤ gb103)); have n5_ := Aside0.mk ((by rw [hg]; exact Nat.ne_of_lt (blk_lt (g := gb101) (o := .cells #[.int .i64 a0_0, .int .i64 a0_1, .int .i64 a0_2, .int .i64 a0_3, .slice (some ad102) l0_4.length c0_4] 24 (0, 0)) (by (with_reducible repeat (first | refine blk_drewN ?_ _ | refine blk_drew ?_ | refine blk_alloc ?_ _)); exact BK101.out)) : gb101 ≠ gb103)); have n6_ := Aside0.mk ((by rw [hg]; exact Nat.ne_of_gt (blk_lt (g := gb101) (o := .cells #[.int .i64 a0_0, .int .i64 a0_1, .int .i64 a0_2, .int .i64 a0_3, .slice (some ad102) l0_4.length c0_4] 24 (0, 0)) (by (with_reducible repeat (first | refine blk_drewN ?_ _ | refine blk_drew ?_ | refine blk_alloc ?_ _)); exact BK101.out)) : gb103 ≠ gb101)); clear BK101; clear HB; have BK101 := n0_; have HB := n1_; have BK103 := n2_; have GW103 := n3_; have GE103 := n4_; have NB101_103 := n5_; have NB103_101 := n6_; clear n0_ n1_ n2_ n3_ n4_ n5_ n6_; clear hb hbox hg; have hnb10 := NB103_101.out; have hnc10 := NB101_103.out; have hcz11_0 : w9.cell? ⟨gb103, 0, none⟩ = some (.int .i64 0) := (blk_cell BK103.out 0).trans rfl; have hcz11_1 : w9.cell? ⟨gb103, 1, none⟩ = some (.int .i64 0) := (blk_cell BK103.out 1).trans rfl; have hcz11_2 : w9.cell? ⟨gb103, 2, none⟩ = some (.int .i64 0) := (blk_cell BK103.out 2).trans rfl; have hcz11_3 : w9.cell? ⟨gb103, 3, none⟩ = some (.int .i64 0) := (blk_cell BK103.out 3).trans rfl; have hcz11_4 : w9.cell? ⟨gb103, 4, none⟩ = some (.slice none 0 0) := (blk_cell BK103.out 4).trans rfl; have hfz11_0 := blk_frozen BK103.out 0; have hfz11_1 := blk_frozen BK103.out 1; have hfz11_2 := blk_frozen BK103.out 2; have hfz11_3 := blk_frozen BK103.out 3; have hfz11_4 := blk_frozen BK103.out 4) | ((with_reducible refine gate_callee (f := 38) rfl ?_); refine goesL_ (some 15) rfl rfl Tryd.func38 (by kernel_rfl) rfl #[.agg #[.int .i64 ((rd_T24 l0_4 x9_1).f0), .int .i64 ((rd_T24 l0_4 x9_1).f1), .int .i64 ((rd_T24 l0_4 x9_1).f2), .int .i64 ((rd_T24 l0_4 x9_1).f3), .slice A102_4 ((rd_T24 l0_4 x9_1).f4).length c102_4]] rfl (by (try simp only [List.map_toArray, List.map_cons, List.map_nil]); first | done | rfl | (simp only [List.length_drop, List.length_take]; rfl)) ?_; (with_reducible refine (ih k1 (by have := HK1.out; omega) ((rd_T24 l0_4 x9_1).f0) ((rd_T24 l0_4 x9_1).f1) ((rd_T24 l0_4 x9_1).f2) ((rd_T24 l0_4 x9_1).f3) _ _ ((rd_T24 l0_4 x9_1).f4) t104 _ ?side1 ?side2 A7.out).mono ?_); (case side1 => exact Kd.C_below HR102_4.out (by repeat (first | (with_reducible first | exact HB.out | apply below_alloc | apply pw_below_drewN | apply below_drew1 | refine below_set ?_ GE101.out | refine below_set ?_ GE103.out) | exact HB.out))); (case side2 => exact HC102_4.out); rintro e w12 ⟨rfl, hb⟩; refine ⟨_, rfl, ?_⟩; have n0_ := Aside0.mk (blk_below (g := gb101) (o := .cells #[.int .i64 a0_0, .int .i64 a0_1, .int .i64 a0_2, .int .i64 a0_3, .slice (some ad102) l0_4.length c0_4] 24 (0, 0)) (by (with_reducible repeat (first | refine blk_drewN ?_ _ | refine blk_drew ?_ | refine blk_alloc ?_ _)); refine blk_far ?_ NB101_103.out _; (with_reducible repeat (first | refine blk_drewN ?_ _ | refine blk_drew ?_ | refine blk_alloc ?_ _)); refine blk_far ?_ NB101_103.out _; (with_reducible repeat (first | refine blk_drewN ?_ _ | refine blk_drew ?_ | refine blk_alloc ?_ _)); refine blk_far ?_ NB101_103.out _; (with_reducible repeat (first | refine blk_drewN ?_ _ | refine blk_drew ?_ | refine blk_alloc ?_ _)); refine blk_far ?_ NB101_103.out _; (with_reducible repeat (first | refine blk_drewN ?_ _ | refine blk_drew ?_ | refine blk_alloc ?_ _)); refine blk_far ?_ NB101_103.out _; (with_reducible repeat (first | refine blk_drewN ?_ _ | refine blk_drew ?_ | refine blk_alloc ?_ _)); exact BK101.out) hb); have n1_ := Aside0.mk (blk_below (g := gb103) (o := .cells #[.int .i64 ((rd_T24 l0_4 x9_1).f0), .int .i64 ((rd_T24 l0_4 x9_1).f1), .int .i64 ((rd_T24 l0_4 x9_1).f2), .int .i64 ((rd_T24 l0_4 x9_1).f3), .slice A102_4 ((rd_T24 l0_4 x9_1).f4).length c102_4] 24 (0, 0)) (by (with_reducible repeat (first | refine blk_drewN ?_ _ | refine blk_drew ?_ | refine blk_alloc ?_ _)); refine blk_put (cs := #[.int .i64 ((rd_T24 l0_4 x9_1).f0), .int .i64 ((rd_T24 l0_4 x9_1).f1), .int .i64 ((rd_T24 l0_4 x9_1).f2), .int .i64 ((rd_T24 l0_4 x9_1).f3), .slice none 0 0]) ?_ 4 _ rfl; (with_reducible repeat (first | refine blk_drewN ?_ _ | refine blk_drew ?_ | refine blk_alloc ?_ _)); refine blk_put (cs := #[.int .i64 ((rd_T24 l0_4 x9_1).f0), .int .i64 ((rd_T24 l0_4 x9_1).f1), .int .i64 ((rd_T24 l0_4 x9_1).f2), .int .i64 0, .slice none 0 0]) ?_ 3 _ rfl; (with_reducible repeat (first | refine blk_drewN ?_ _ | refine blk_drew ?_ | refine blk_alloc ?_ _)); refine blk_put (cs := #[.int .i64 ((rd_T24 l0_4 x9_1).f0), .int .i64 ((rd_T24 l0_4 x9_1).f1), .int .i64 0, .int .i64 0, .slice none 0 0]) ?_ 2 _ rfl; (with_reducible repeat (first | refine blk_drewN ?_ _ | refine blk_drew ?_ | refine blk_alloc ?_ _)); refine blk_put (cs := #[.int .i64 ((rd_T24 l0_4 x9_1).f0), .int .i64 0, .int .i64 0, .int .i64 0, .slice none 0 0]) ?_ 1 _ rfl; (with_reducible repeat (first | refine blk_drewN ?_ _ | refine blk_drew ?_ | refine blk_alloc ?_ _)); refine blk_put (cs := #[.int .i64 0, .int .i64 0, .int .i64 0, .int .i64 0, .slice none 0 0]) ?_ 0 _ rfl; (with_reducible repeat (first | refine blk_drewN ?_ _ | refine blk_drew ?_ | refine blk_alloc ?_ _)); exact BK103.out) hb); have n2_ := Aside0.mk (below_step (by repeat (first | (with_reducible first | exact HB.out | apply below_alloc | apply pw_below_drewN | apply below_drew1 | refine below_set ?_ GE101.out | refine below_set ?_ GE103.out) | exact HB.out)) hb); clear BK101; clear BK103; clear HB; have BK101 := n0_; have BK103 := n1_; have HB := n2_; clear n0_ n1_ n2_; (try clear hb); (try clear hb2); (try clear hk); (try clear hi)))
            go_roundg k1
            case measure => have := HK1.out; omega
            case rel => exact ⟨(ji8), (wrap64 (x9_1 + 1)), (by first | rfl | (simp; done) | (simp only [← hji8] <;> (first | rfl | simp)) | (simp [*]; done)), (by first | rfl | (simp; done) | (simp [*]; done)), H', ⟨by have := HK1.out; omega⟩, ⟨by (with_reducible repeat (first | refine blk_drewN ?_ _ | refine blk_drew ?_ | refine blk_alloc ?_ _)); exact BK101.out⟩, ⟨by repeat (first | (with_reducible first | exact HB.out | apply below_alloc | apply pw_below_drewN | apply below_drew1 | refine below_set ?_ GE101.out | refine below_set ?_ GE103.out) | exact HB.out)⟩⟩
          · rw [if_neg c6] at H
            exact absurd H (by simp)
        · rw [if_neg c5] at H
          exact absurd H (by simp)
      · rw [if_neg c4] at H
        have c4b0 : decide (x9_1 < (l0_4.length : Int)) = false := decide_eq_false c4
        clear c4
        obtain rfl := Option.some.inj H
        go_wp2
        go_ret
        exact ⟨by first | rfl | (simp [errW_none, errW_some] <;> rfl) | (simp [*, errW_none, errW_some] <;> rfl), by repeat (first | (with_reducible first | exact HB.out | apply below_alloc | apply pw_below_drewN | apply below_drew1 | refine below_set ?_ GE101.out) | exact HB.out)⟩

end Go.Proofs.YtggelekooacmnaaDoor.Q
namespace Go.Proofs.YtggelekooacmnaaDoor.Q
open Go.RowKit Go.Proofs.YtggelekooacmnaaDoorW.PrintWords Go.Proofs.YtggelekooacmnaaDoorW.PrintLast Go.Proofs.YtggelekooacmnaaDoorW.PrintMore
attribute [local go_sem] max2_int min2_int max_two min_two max_three min_three max_four min_four   -- for this text's walks alone
set_option linter.unusedVariables false
set_option linter.unusedSimpArgs false

/-! ### types_unused: function 69 -/
def types_unused.f (a0_0 : Int) (a0_1 : Int) (a0_2 : Int) (a0_3 : Int) (l0_4 : List (S24)) : Option (Bool) := if a0_0 = 2 then (if a0_3 = 0 then (some ((l0_4.length : Int) != 0)) else (some true)) else (if a0_0 = 6 then (if a0_1 = 0 then (some (a0_2 != 0)) else (some true)) else (if a0_0 = 5 then (if a0_1 = 0 then (if a0_2 = 0 then (some (a0_3 != 0)) else (some true)) else (some true)) else (if a0_1 = 0 then (if a0_2 = 0 then (if a0_3 = 0 then (some ((l0_4.length : Int) != 0)) else (some true)) else (some true)) else (some true))))
set_option maxHeartbeats 8000000 in
set_option maxRecDepth 100000 in
theorem types_unused.calls (a0_0 : Int) (a0_1 : Int) (a0_2 : Int) (a0_3 : Int) (A0_4 : Option Addr) (c0_4 : Nat) (l0_4 : List (S24)) (r : Bool) (w : World) (hr0_4 : Kd.C k24 w A0_4 l0_4.length l0_4) (hc0_4 : l0_4.length ≤ c0_4) (h : types_unused.f a0_0 a0_1 a0_2 a0_3 l0_4 = some r) :
    Calls Tryd.prog 69 #[.agg #[.int .i64 a0_0, .int .i64 a0_1, .int .i64 a0_2, .int .i64 a0_3, .slice A0_4 l0_4.length c0_4]] w fun e w' => e = .returned (.bool r) ∧ Below w.heap.size w w' := by
  have hu24 := Tryd.underlying24
  have HR0_4 := Aside0.mk hr0_4
  have HC0_4 := Aside0.mk hc0_4
  clear hr0_4 hc0_4
  have HB := Aside0.mk (Below.refl w.heap.size w)
  have H : (if a0_0 = 2 then (if a0_3 = 0 then (some ((l0_4.length : Int) != 0)) else (some true)) else (if a0_0 = 6 then (if a0_1 = 0 then (some (a0_2 != 0)) else (some true)) else (if a0_0 = 5 then (if a0_1 = 0 then (if a0_2 = 0 then (some (a0_3 != 0)) else (some true)) else (some true)) else (if a0_1 = 0 then (if a0_2 = 0 then (if a0_3 = 0 then (some ((l0_4.length : Int) != 0)) else (some true)) else (some true)) else (some true))))) = some r := h
  clear h
  by_cases c2 : a0_0 = 2
  · rw [if_pos c2] at H
    have c2b0 : (a0_0 == 2) = true := beq_iff_eq.mpr c2
    have c2b1 : (a0_0 != 2) = false := bne_eq_false_iff_eq.mpr c2
    clear c2
    by_cases c3 : a0_3 = 0
    · rw [if_pos c3] at H
      have c3b0 : (a0_3 == 0) = true := beq_iff_eq.mpr c3
      have c3b1 : (a0_3 != 0) = false := bne_eq_false_iff_eq.mpr c3
      clear c3
      obtain rfl := Option.some.inj H
      go_enter Tryd.func69, Tryd.ntmps69
      go_wp2_with (first | ((with_reducible refine gate_dst (N := 1) rfl ?_); (try (refine gate_guard (by rfl) ?_; dsimp only)); refine box_event ?hg (N := 1) ?hd (cs := #[.int .i64 a0_0, .int .i64 a0_1, .int .i64 a0_2, .int .i64 a0_3, .slice A0_4 l0_4.length c0_4]) (t := 24) ?hr ?_; (case hd => rfl); (case hg => rfl); (case hr => first | (go_simp; done) | (go_simp; rfl)); intro gb105 hg w4 hbox hb; have n0_ := Aside0.mk (below_step (by repeat (first | (with_reducible first | exact HB.out | apply below_alloc | apply pw_below_drewN | apply below_drew1) | exact HB.out)) hb); have n1_ := Aside0.mk (hbox); have n2_ := Aside0.mk ((by rw [hg]; exact (below_size (by repeat (first | (with_reducible first | exact HB.out | apply below_alloc | apply pw_below_drewN | apply below_drew1) | exact HB.out))) : w.heap.size ≤ gb105)); have n3_ := Aside0.mk ((by rw [hg]; exact (below_size (by repeat (first | (with_reducible first | exact HB.out | apply below_alloc | apply pw_below_drewN | apply below_drew1) | exact HB.out))) : w.heap.size ≤ gb105)); clear HB; have HB := n0_; have BK105 := n1_; have GW105 := n2_; have GE105 := n3_; clear n0_ n1_ n2_ n3_; clear hb hbox hg; have hcz5_0 : w4.cell? ⟨gb105, 0, none⟩ = some (.int .i64 a0_0) := (blk_cell BK105.out 0).trans rfl; have hcz5_1 : w4.cell? ⟨gb105, 1, none⟩ = some (.int .i64 a0_1) := (blk_cell BK105.out 1).trans rfl; have hcz5_2 : w4.cell? ⟨gb105, 2, none⟩ = some (.int .i64 a0_2) := (blk_cell BK105.out 2).trans rfl; have hcz5_3 : w4.cell? ⟨gb105, 3, none⟩ = some (.int .i64 a0_3) := (blk_cell BK105.out 3).trans rfl; have hcz5_4 : w4.cell? ⟨gb105, 4, none⟩ = some (.slice A0_4 l0_4.length c0_4) := (blk_cell BK105.out 4).trans rfl; have hfz5_0 := blk_frozen BK105.out 0; have hfz5_1 := blk_frozen BK105.out 1; have hfz5_2 := blk_frozen BK105.out 2; have hfz5_3 := blk_frozen BK105.out 3; have hfz5_4 := blk_frozen BK105.out 4))
      go_ret
      exact ⟨by first | rfl | (simp [errW_none, errW_some] <;> rfl) | (simp [*, errW_none, errW_some] <;> rfl), by repeat (first | (with_reducible first | exact HB.out | apply below_alloc | apply pw_below_drewN | apply below_drew1 | refine below_set ?_ GE105.out) | exact HB.out)⟩
    · rw [if_neg c3] at H
      have c3b0 : (a0_3 == 0) = false := beq_eq_false_iff_ne.mpr c3
      have c3b1 : (a0_3 != 0) = true := bne_iff_ne.mpr c3
      obtain rfl := Option.some.inj H
      go_enter Tryd.func69, Tryd.ntmps69
      go_wp2_with (first | ((with_reducible refine gate_dst (N := 1) rfl ?_); (try (refine gate_guard (by rfl) ?_; dsimp only)); refine box_event ?hg (N := 1) ?hd (cs := #[.int .i64 a0_0, .int .i64 a0_1, .int .i64 a0_2, .int .i64 a0_3, .slice A0_4 l0_4.length c0_4]) (t := 24) ?hr ?_; (case hd => rfl); (case hg => rfl); (case hr => first | (go_simp; done) | (go_simp; rfl)); intro gb105 hg w6 hbox hb; have n0_ := Aside0.mk (below_step (by repeat (first | (with_reducible first | exact HB.out | apply below_alloc | apply pw_below_drewN | apply below_drew1) | exact HB.out)) hb); have n1_ := Aside0.mk (hbox); have n2_ := Aside0.mk ((by rw [hg]; exact (below_size (by repeat (first | (with_reducible first | exact HB.out | apply below_alloc | apply pw_below_drewN | apply below_drew1) | exact HB.out))) : w.heap.size ≤ gb105)); have n3_ := Aside0.mk ((by rw [hg]; exact (below_size (by repeat (first | (with_reducible first | exact HB.out | apply below_alloc | apply pw_below_drewN | apply below_drew1) | exact HB.out))) : w.heap.size ≤ gb105)); clear HB; have HB := n0_; have BK105 := n1_; have GW105 := n2_; have GE105 := n3_; clear n0_ n1_ n2_ n3_; clear hb hbox hg; have hcz7_0 : w6.cell? ⟨gb105, 0, none⟩ = some (.int .i64 a0_0) := (blk_cell BK105.out 0).trans rfl; have hcz7_1 : w6.cell? ⟨gb105, 1, none⟩ = some (.int .i64 a0_1) := (blk_cell BK105.out 1).trans rfl; have hcz7_2 : w6.cell? ⟨gb105, 2, none⟩ = some (.int .i64 a0_2) := (blk_cell BK105.out 2).trans rfl; have hcz7_3 : w6.cell? ⟨gb105, 3, none⟩ = some (.int .i64 a0_3) := (blk_cell BK105.out 3).trans rfl; have hcz7_4 : w6.cell? ⟨gb105, 4, none⟩ = some (.slice A0_4 l0_4.length c0_4) := (blk_cell BK105.out 4).trans rfl; have hfz7_0 := blk_frozen BK105.out 0; have hfz7_1 := blk_frozen BK105.out 1; have hfz7_2 := blk_frozen BK105.out 2; have hfz7_3 := blk_frozen BK105.out 3; have hfz7_4 := blk_frozen BK105.out 4))
      go_ret
      exact ⟨by first | rfl | (simp [errW_none, errW_some] <;> rfl) | (simp [*, errW_none, errW_some] <;> rfl), by repeat (first | (with_reducible first | exact HB.out | apply below_alloc | apply pw_below_drewN | apply below_drew1 | refine below_set ?_ GE105.out) | exact HB.out)⟩
  · rw [if_neg c2] at H
    have c2b0 : (a0_0 == 2) = false := beq_eq_false_iff_ne.mpr c2
    have c2b1 : (a0_0 != 2) = true := bne_iff_ne.mpr c2
    by_cases c8 : a0_0 = 6
    · rw [if_pos c8] at H
      have c8b0 : (a0_0 == 6) = true := beq_iff_eq.mpr c8
      have c8b1 : (a0_0 != 6) = false := bne_eq_false_iff_eq.mpr c8
      clear c8
      by_cases c9 : a0_1 = 0
      · rw [if_pos c9] at H
        have c9b0 : (a0_1 == 0) = true := beq_iff_eq.mpr c9
        have c9b1 : (a0_1 != 0) = false := bne_eq_false_iff_eq.mpr c9
        clear c9
        obtain rfl := Option.some.inj H
        go_enter Tryd.func69, Tryd.ntmps69
        go_wp2_with (first | ((with_reducible refine gate_dst (N := 1) rfl ?_); (try (refine gate_guard (by rfl) ?_; dsimp only)); refine box_event ?hg (N := 1) ?hd (cs := #[.int .i64 a0_0, .int .i64 a0_1, .int .i64 a0_2, .int .i64 a0_3, .slice A0_4 l0_4.length c0_4]) (t := 24) ?hr ?_; (case hd => rfl); (case hg => rfl); (case hr => first | (go_simp; done) | (go_simp; rfl)); intro gb105 hg w10 hbox hb; have n0_ := Aside0.mk (below_step (by repeat (first | (with_reducible first | exact HB.out | apply below_alloc | apply pw_below_drewN | apply below_drew1) | exact HB.out)) hb); have n1_ := Aside0.mk (hbox); have n2_ := Aside0.mk ((by rw [hg]; exact (below_size (by repeat (first | (with_reducible first | exact HB.out | apply below_alloc | apply pw_below_drewN | apply below_drew1) | exact HB.out))) : w.heap.size ≤ gb105)); have n3_ := Aside0.mk ((by rw [hg]; exact (below_size (by repeat (first | (with_reducible first | exact HB.out | apply below_alloc | apply pw_below_drewN | apply below_drew1) | exact HB.out))) : w.heap.size ≤ gb105)); clear HB; have HB := n0_; have BK105 := n1_; have GW105 := n2_; have GE105 := n3_; clear n0_ n1_ n2_ n3_; clear hb hbox hg; have hcz11_0 : w10.cell? ⟨gb105, 0, none⟩ = some (.int .i64 a0_0) := (blk_cell BK105.out 0).trans rfl; have hcz11_1 : w10.cell? ⟨gb105, 1, none⟩ = some (.int .i64 a0_1) := (blk_cell BK105.out 1).trans rfl; have hcz11_2 : w10.cell? ⟨gb105, 2, none⟩ = some (.int .i64 a0_2) := (blk_cell BK105.out 2).trans rfl; have hcz11_3 : w10.cell? ⟨gb105, 3, none⟩ = some (.int .i64 a0_3) := (blk_cell BK105.out 3).trans rfl; have hcz11_4 : w10.cell? ⟨gb105, 4, none⟩ = some (.slice A0_4 l0_4.length c0_4) := (blk_cell BK105.out 4).trans rfl; have hfz11_0 := blk_frozen BK105.out 0; have hfz11_1 := blk_frozen BK105.out 1; have hfz11_2 := blk_frozen BK105.out 2; have hfz11_3 := blk_frozen BK105.out 3; have hfz11_4 := blk_frozen BK105.out 4))
        go_ret
        exact ⟨by first | rfl | (simp [errW_none, errW_some] <;> rfl) | (simp [*, errW_none, errW_some] <;> rfl), by repeat (first | (with_reducible first | exact HB.out | apply below_alloc | apply pw_below_drewN | apply below_drew1 | refine below_set ?_ GE105.out) | exact HB.out)⟩
      · rw [if_neg c9] at H
        have c9b0 : (a0_1 == 0) = false := beq_eq_false_iff_ne.mpr c9
        have c9b1 : (a0_1 != 0) = true := bne_iff_ne.mpr c9
        obtain rfl := Option.some.inj H
        go_enter Tryd.func69, Tryd.ntmps69
        go_wp2_with (first | ((with_reducible refine gate_dst (N := 1) rfl ?_); (try (refine gate_guard (by rfl) ?_; dsimp only)); refine box_event ?hg (N := 1) ?hd (cs := #[.int .i64 a0_0, .int .i64 a0_1, .int .i64 a0_2, .int .i64 a0_3, .slice A0_4 l0_4.length c0_4]) (t := 24) ?hr ?_; (case hd => rfl); (case hg => rfl); (case hr => first | (go_simp; done) | (go_simp; rfl)); intro gb105 hg w12 hbox hb; have n0_ := Aside0.mk (below_step (by repeat (first | (with_reducible first | exact HB.out | apply below_alloc | apply pw_below_drewN | apply below_drew1) | exact HB.out)) hb); have n1_ := Aside0.mk (hbox); have n2_ := Aside0.mk ((by rw [hg]; exact (below_size (by repeat (first | (with_reducible first | exact HB.out | apply below_alloc | apply pw_below_drewN | apply below_drew1) | exact HB.out))) : w.heap.size ≤ gb105)); have n3_ := Aside0.mk ((by rw [hg]; exact (below_size (by repeat (first | (with_reducible first | exact HB.out | apply below_alloc | apply pw_below_drewN | apply below_drew1) | exact HB.out))) : w.heap.size ≤ gb105)); clear HB; have HB := n0_; have BK105 := n1_; have GW105 := n2_; have GE105 := n3_; clear n0_ n1_ n2_ n3_; clear hb hbox hg; have hcz13_0 : w12.cell? ⟨gb105, 0, none⟩ = some (.int .i64 a0_0) := (blk_cell BK105.out 0).trans rfl; have hcz13_1 : w12.cell? ⟨gb105, 1, none⟩ = some (.int .i64 a0_1) := (blk_cell BK105.out 1).trans rfl; have hcz13_2 : w12.cell? ⟨gb105, 2, none⟩ = some (.int .i64 a0_2) := (blk_cell BK105.out 2).trans rfl; have hcz13_3 : w12.cell? ⟨gb105, 3, none⟩ = some (.int .i64 a0_3) := (blk_cell BK105.out 3).trans rfl; have hcz13_4 : w12.cell? ⟨gb105, 4, none⟩ = some (.slice A0_4 l0_4.length c0_4) := (blk_cell BK105.out 4).trans rfl; have hfz13_0 := blk_frozen BK105.out 0; have hfz13_1 := blk_frozen BK105.out 1; have hfz13_2 := blk_frozen BK105.out 2; have hfz13_3 := blk_frozen BK105.out 3; have hfz13_4 := blk_frozen BK105.out 4))
        go_ret
        exact ⟨by first | rfl | (simp [errW_none, errW_some] <;> rfl) | (simp [*, errW_none, errW_some] <;> rfl), by repeat (first | (with_reducible first | exact HB.out | apply below_alloc | apply pw_below_drewN | apply below_drew1 | refine below_set ?_ GE105.out) | exact HB.out)⟩
    · rw [if_neg c8] at H
      have c8b0 : (a0_0 == 6) = false := beq_eq_false_iff_ne.mpr c8
      have c8b1 : (a0_0 != 6) = true := bne_iff_ne.mpr c8
      by_cases c14 : a0_0 = 5
      · rw [if_pos c14] at H
        have c14b0 : (a0_0 == 5) = true := beq_iff_eq.mpr c14
        have c14b1 : (a0_0 != 5) = false := bne_eq_false_iff_eq.mpr c14
        clear c14
        by_cases c15 : a0_1 = 0
        · rw [if_pos c15] at H
          have c15b0 : (a0_1 == 0) = true := beq_iff_eq.mpr c15
          have c15b1 : (a0_1 != 0) = false := bne_eq_false_iff_eq.mpr c15
          clear c15
          by_cases c16 : a0_2 = 0
          · rw [if_pos c16] at H
            have c16b0 : (a0_2 == 0) = true := beq_iff_eq.mpr c16
            have c16b1 : (a0_2 != 0) = false := bne_eq_false_iff_eq.mpr c16
            clear c16
            obtain rfl := Option.some.inj H
            go_enter Tryd.func69, Tryd.ntmps69
            go_wp2_with (first | ((with_reducible refine gate_dst (N := 1) rfl ?_); (try (refine gate_guard (by rfl) ?_; dsimp only)); refine box_event ?hg (N := 1) ?hd (cs := #[.int .i64 a0_0, .int .i64 a0_1, .int .i64 a0_2, .int .i64 a0_3, .slice A0_4 l0_4.length c0_4]) (t := 24) ?hr ?_; (case hd => rfl); (case hg => rfl); (case hr => first | (go_simp; done) | (go_simp; rfl)); intro gb105 hg w17 hbox hb; have n0_ := Aside0.mk (below_step (by repeat (first | (with_reducible first | exact HB.out | apply below_alloc | apply pw_below_drewN | apply below_drew1) | exact HB.out)) hb); have n1_ := Aside0.mk (hbox); have n2_ := Aside0.mk ((by rw [hg]; exact (below_size (by repeat (first | (with_reducible first | exact HB.out | apply below_alloc | apply pw_below_drewN | apply below_drew1) | exact HB.out))) : w.heap.size ≤ gb105)); have n3_ := Aside0.mk ((by rw [hg]; exact (below_size (by repeat (first | (with_reducible first | exact HB.out | apply below_alloc | apply pw_below_drewN | apply below_drew1) | exact HB.out))) : w.heap.size ≤ gb105)); clear HB; have HB := n0_; have BK105 := n1_; have GW105 := n2_; have GE105 := n3_; clear n0_ n1_ n2_ n3_; clear hb hbox hg; have hcz18_0 : w17.cell? ⟨gb105, 0, none⟩ = some (.int .i64 a0_0) := (blk_cell BK105.out 0).trans rfl; have hcz18_1 : w17.cell? ⟨gb105, 1, none⟩ = some (.int .i64 a0_1) := (blk_cell BK105.out 1).trans rfl; have hcz18_2 : w17.cell? ⟨gb105, 2, none⟩ = some (.int .i64 a0_2) := (blk_cell BK105.out 2).trans rfl; have hcz18_3 : w17.cell? ⟨gb105, 3, none⟩ = some (.int .i64 a0_3) := (blk_cell BK105.out 3).trans rfl; have hcz18_4 : w17.cell? ⟨gb105, 4, none⟩ = some (.slice A0_4 l0_4.length c0_4) := (blk_cell BK105.out 4).trans rfl; have hfz18_0 := blk_frozen BK105.out 0; have hfz18_1 := blk_frozen BK105.out 1; have hfz18_2 := blk_frozen BK105.out 2; have hfz18_3 := blk_frozen BK105.out 3; have hfz18_4 := blk_frozen BK105.out 4))
            go_ret
            exact ⟨by first | rfl | (simp [errW_none, errW_some] <;> rfl) | (simp [*, errW_none, errW_some] <;> rfl), by repeat (first | (with_reducible first | exact HB.out | apply below_alloc | apply pw_below_drewN | apply below_drew1 | refine below_set ?_ GE105.out) | exact HB.out)⟩
          · rw [if_neg c16] at H
            have c16b0 : (a0_2 == 0) = false := beq_eq_false_iff_ne.mpr c16
            have c16b1 : (a0_2 != 0) = true := bne_iff_ne.mpr c16
            obtain rfl := Option.some.inj H
            go_enter Tryd.func69, Tryd.ntmps69
            go_wp2_with (first | ((with_reducible refine gate_dst (N := 1) rfl ?_); (try (refine gate_guard (by rfl) ?_; dsimp only)); refine box_event ?hg (N := 1) ?hd (cs := #[.int .i64 a0_0, .int .i64 a0_1, .int .i64 a0_2, .int .i64 a0_3, .slice A0_4 l0_4.length c0_4]) (t := 24) ?hr ?_; (case hd => rfl); (case hg => rfl); (case hr => first | (go_simp; done) | (go_simp; rfl)); intro gb105 hg w19 hbox hb; have n0_ := Aside0.mk (below_step (by repeat (first | (with_reducible first | exact HB.out | apply below_alloc | apply pw_below_drewN | apply below_drew1) | exact HB.out)) hb); have n1_ := Aside0.mk (hbox); have n2_ := Aside0.mk ((by rw [hg]; exact (below_size (by repeat (first | (with_reducible first | exact HB.out | apply below_alloc | apply pw_below_drewN | apply below_drew1) | exact HB.out))) : w.heap.size ≤ gb105)); have n3_ := Aside0.mk ((by rw [hg]; exact (below_size (by repeat (first | (with_reducible first | exact HB.out | apply below_alloc | apply pw_below_drewN | apply below_drew1) | exact HB.out))) : w.heap.size ≤ gb105)); clear HB; have HB := n0_; have BK105 := n1_; have GW105 := n2_; have GE105 := n3_; clear n0_ n1_ n2_ n3_; clear hb hbox hg; have hcz20_0 : w19.cell? ⟨gb105, 0, none⟩ = some (.int .i64 a0_0) := (blk_cell BK105.out 0).trans rfl; have hcz20_1 : w19.cell? ⟨gb105, 1, none⟩ = some (.int .i64 a0_1) := (blk_cell BK105.out 1).trans rfl; have hcz20_2 : w19.cell? ⟨gb105, 2, none⟩ = some (.int .i64 a0_2) := (blk_cell BK105.out 2).trans rfl; have hcz20_3 : w19.cell? ⟨gb105, 3, none⟩ = some (.int .i64 a0_3) := (blk_cell BK105.out 3).trans rfl; have hcz20_4 : w19.cell? ⟨gb105, 4, none⟩ = some (.slice A0_4 l0_4.length c0_4) := (blk_cell BK105.out 4).trans rfl; have hfz20_0 := blk_frozen BK105.out 0; have hfz20_1 := blk_frozen BK105.out 1; have hfz20_2 := blk_frozen BK105.out 2; have hfz20_3 := blk_frozen BK105.out 3; have hfz20_4 := blk_frozen BK105.out 4))
            go_ret
            exact ⟨by first | rfl | (simp [errW_none, errW_some] <;> rfl) | (simp [*, errW_none, errW_some] <;> rfl), by repeat (first | (with_reducible first | exact HB.out | apply below_alloc | apply pw_below_drewN | apply below_drew1 | refine below_set ?_ GE105.out) | exact HB.out)⟩
        · rw [if_neg c15] at H
          have c15b0 : (a0_1 == 0) = false := beq_eq_false_iff_ne.mpr c15
          have c15b1 : (a0_1 != 0) = true := bne_iff_ne.mpr c15
          obtain rfl := Option.some.inj H
          go_enter Tryd.func69, Tryd.ntmps69
          go_wp2_with (first | ((with_reducible refine gate_dst (N := 1) rfl ?_); (try (refine gate_guard (by rfl) ?_; dsimp only)); refine box_event ?hg (N := 1) ?hd (cs := #[.int .i64 a0_0, .int .i64 a0_1, .int .i64 a0_2, .int .i64 a0_3, .slice A0_4 l0_4.length c0_4]) (t := 24) ?hr ?_; (case hd => rfl); (case hg => rfl); (case hr => first | (go_simp; done) | (go_simp; rfl)); intro gb105 hg w21 hbox hb; have n0_ := Aside0.mk (below_step (by repeat (first | (with_reducible first | exact HB.out | apply below_alloc | apply pw_below_drewN | apply below_drew1) | exact HB.out)) hb); have n1_ := Aside0.mk (hbox); have n2_ := Aside0.mk ((by rw [hg]; exact (below_size (by repeat (first | (with_reducible first | exact HB.out | apply below_alloc | apply pw_below_drewN | apply below_drew1) | exact HB.out))) : w.heap.size ≤ gb105)); have n3_ := Aside0.mk ((by rw [hg]; exact (below_size (by repeat (first | (with_reducible first | exact HB.out | apply below_alloc | apply pw_below_drewN | apply below_drew1) | exact HB.out))) : w.heap.size ≤ gb105)); clear HB; have HB := n0_; have BK105 := n1_; have GW105 := n2_; have GE105 := n3_; clear n0_ n1_ n2_ n3_; clear hb hbox hg; have hcz22_0 : w21.cell? ⟨gb105, 0, none⟩ = some (.int .i64 a0_0) := (blk_cell BK105.out 0).trans rfl; have hcz22_1 : w21.cell? ⟨gb105, 1, none⟩ = some (.int .i64 a0_1) := (blk_cell BK105.out 1).trans rfl; have hcz22_2 : w21.cell? ⟨gb105, 2, none⟩ = some (.int .i64 a0_2) := (blk_cell BK105.out 2).trans rfl; have hcz22_3 : w21.cell? ⟨gb105, 3, none⟩ = some (.int .i64 a0_3) := (blk_cell BK105.out 3).trans rfl; have hcz22_4 : w21.cell? ⟨gb105, 4, none⟩ = some (.slice A0_4 l0_4.length c0_4) := (blk_cell BK105.out 4).trans rfl; have hfz22_0 := blk_frozen BK105.out 0; have hfz22_1 := blk_frozen BK105.out 1; have hfz22_2 := blk_frozen BK105.out 2; have hfz22_3 := blk_frozen BK105.out 3; have hfz22_4 := blk_frozen BK105.out 4))
          go_ret
          exact ⟨by first | rfl | (simp [errW_none, errW_some] <;> rfl) | (simp [*, errW_none, errW_some] <;> rfl), by repeat (first | (with_reducible first | exact HB.out | apply below_alloc | apply pw_below_drewN | apply below_drew1 | refine below_set ?_ GE105.out) | exact HB.out)⟩
      · rw [if_neg c14] at H
        have c14b0 : (a0_0 == 5) = false := beq_eq_false_iff_ne.mpr c14
        have c14b1 : (a0_0 != 5) = true := bne_iff_ne.mpr c14
        by_cases c23 : a0_1 = 0
        · rw [if_pos c23] at H
          have c23b0 : (a0_1 == 0) = true := beq_iff_eq.mpr c23
          have c23b1 : (a0_1 != 0) = false := bne_eq_false_iff_eq.mpr c23
          clear c23
          by_cases c24 : a0_2 = 0
          · rw [if_pos c24] at H
            have c24b0 : (a0_2 == 0) = true := beq_iff_eq.mpr c24
            have c24b1 : (a0_2 != 0) = false := bne_eq_false_iff_eq.mpr c24
            clear c24
            by_cases c25 : a0_3 = 0
            · rw [if_pos c25] at H
              have c25b0 : (a0_3 == 0) = true := beq_iff_eq.mpr c25
              have c25b1 : (a0_3 != 0) = false := bne_eq_false_iff_eq.mpr c25
              clear c25
              obtain rfl := Option.some.inj H
              go_enter Tryd.func69, Tryd.ntmps69
              go_wp2_with (first | ((with_reducible refine gate_dst (N := 1) rfl ?_); (try (refine gate_guard (by rfl) ?_; dsimp only)); refine box_event ?hg (N := 1) ?hd (cs := #[.int .i64 a0_0, .int .i64 a0_1, .int .i64 a0_2, .int .i64 a0_3, .slice A0_4 l0_4.length c0_4]) (t := 24) ?hr ?_; (case hd => rfl); (case hg => rfl); (case hr => first | (go_simp; done) | (go_simp; rfl)); intro gb105 hg w26 hbox hb; have n0_ := Aside0.mk (below_step (by repeat (first | (with_reducible first | exact HB.out | apply below_alloc | apply pw_below_drewN | apply below_drew1) | exact HB.out)) hb); have n1_ := Aside0.mk (hbox); have n2_ := Aside0.mk ((by rw [hg]; exact (below_size (by repeat (first | (with_reducible first | exact HB.out | apply below_alloc | apply pw_below_drewN | apply below_drew1) | exact HB.out))) : w.heap.size ≤ gb105)); have n3_ := Aside0.mk ((by rw [hg]; exact (below_size (by repeat (first | (with_reducible first | exact HB.out | apply below_alloc | apply pw_below_drewN | apply below_drew1) | exact HB.out))) : w.heap.size ≤ gb105)); clear HB; have HB := n0_; have BK105 := n1_; have GW105 := n2_; have GE105 := n3_; clear n0_ n1_ n2_ n3_; clear hb hbox hg; have hcz27_0 : w26.cell? ⟨gb105, 0, none⟩ = some (.int .i64 a0_0) := (blk_cell BK105.out 0).trans rfl; have hcz27_1 : w26.cell? ⟨gb105, 1, none⟩ = some (.int .i64 a0_1) := (blk_cell BK105.out 1).trans rfl; have hcz27_2 : w26.cell? ⟨gb105, 2, none⟩ = some (.int .i64 a0_2) := (blk_cell BK105.out 2).trans rfl; have hcz27_3 : w26.cell? ⟨gb105, 3, none⟩ = some (.int .i64 a0_3) := (blk_cell BK105.out 3).trans rfl; have hcz27_4 : w26.cell? ⟨gb105, 4, none⟩ = some (.slice A0_4 l0_4.length c0_4) := (blk_cell BK105.out 4).trans rfl; have hfz27_0 := blk_frozen BK105.out 0; have hfz27_1 := blk_frozen BK105.out 1; have hfz27_2 := blk_frozen BK105.out 2; have hfz27_3 := blk_frozen BK105.out 3; have hfz27_4 := blk_frozen BK105.out 4))
              go_ret
              exact ⟨by first | rfl | (simp [errW_none, errW_some] <;> rfl) | (simp [*, errW_none, errW_some] <;> rfl), by repeat (first | (with_reducible first | exact HB.out | apply below_alloc | apply pw_below_drewN | apply below_drew1 | refine below_set ?_ GE105.out) | exact HB.out)⟩
            · rw [if_neg c25] at H
              have c25b0 : (a0_3 == 0) = false := beq_eq_false_iff_ne.mpr c25
              have c25b1 : (a0_3 != 0) = true := bne_iff_ne.mpr c25
              obtain rfl := Option.some.inj H
              go_enter Tryd.func69, Tryd.ntmps69
              go_wp2_with (first | ((with_reducible refine gate_dst (N := 1) rfl ?_); (try (refine gate_guard (by rfl) ?_; dsimp only)); refine box_event ?hg (N := 1) ?hd (cs := #[.int .i64 a0_0, .int .i64 a0_1, .int .i64 a0_2, .int .i64 a0_3, .slice A0_4 l0_4.length c0_4]) (t := 24) ?hr ?_; (case hd => rfl); (case hg => rfl); (case hr => first | (go_simp; done) | (go_simp; rfl)); intro gb105 hg w28 hbox hb; have n0_ := Aside0.mk (below_step (by repeat (first | (with_reducible first | exact HB.out | apply below_alloc | apply pw_below_drewN | apply below_drew1) | exact HB.out)) hb); have n1_ := Aside0.mk (hbox); have n2_ := Aside0.mk ((by rw [hg]; exact (below_size (by repeat (first | (with_reducible first | exact HB.out | apply below_alloc | apply pw_below_drewN | apply below_drew1) | exact HB.out))) : w.heap.size ≤ gb105)); have n3_ := Aside0.mk ((by rw [hg]; exact (below_size (by repeat (first | (with_reducible first | exact HB.out | apply below_alloc | apply pw_below_drewN | apply below_drew1) | exact HB.out))) : w.heap.size ≤ gb105)); clear HB; have HB := n0_; have BK105 := n1_; have GW105 := n2_; have GE105 := n3_; clear n0_ n1_ n2_ n3_; clear hb hbox hg; have hcz29_0 : w28.cell? ⟨gb105, 0, none⟩ = some (.int .i64 a0_0) := (blk_cell BK105.out 0).trans rfl; have hcz29_1 : w28.cell? ⟨gb105, 1, none⟩ = some (.int .i64 a0_1) := (blk_cell BK105.out 1).trans rfl; have hcz29_2 : w28.cell? ⟨gb105, 2, none⟩ = some (.int .i64 a0_2) := (blk_cell BK105.out 2).trans rfl; have hcz29_3 : w28.cell? ⟨gb105, 3, none⟩ = some (.int .i64 a0_3) := (blk_cell BK105.out 3).trans rfl; have hcz29_4 : w28.cell? ⟨gb105, 4, none⟩ = some (.slice A0_4 l0_4.length c0_4) := (blk_cell BK105.out 4).trans rfl; have hfz29_0 := blk_frozen BK105.out 0; have hfz29_1 := blk_frozen BK105.out 1; have hfz29_2 := blk_frozen BK105.out 2; have hfz29_3 := blk_frozen BK105.out 3; have hfz29_4 := blk_frozen BK105.out 4))
              go_ret
              exact ⟨by first | rfl | (simp [errW_none, errW_some] <;> rfl) | (simp [*, errW_none, errW_some] <;> rfl), by repeat (first | (with_reducible first | exact HB.out | apply below_alloc | apply pw_below_drewN | apply below_drew1 | refine below_set ?_ GE105.out) | exact HB.out)⟩
          · rw [if_neg c24] at H
            have c24b0 : (a0_2 == 0) = false := beq_eq_false_iff_ne.mpr c24
            have c24b1 : (a0_2 != 0) = true := bne_iff_ne.mpr c24
            obtain rfl := Option.some.inj H
            go_enter Tryd.func69, Tryd.ntmps69
            go_wp2_with (first | ((with_reducible refine gate_dst (N := 1) rfl ?_); (try (refine gate_guard (by rfl) ?_; dsimp only)); refine box_event ?hg (N := 1) ?hd (cs := #[.int .i64 a0_0, .int .i64 a0_1, .int .i64 a0_2, .int .i64 a0_3, .slice A0_4 l0_4.length c0_4]) (t := 24) ?hr ?_; (case hd => rfl); (case hg => rfl); (case hr => first | (go_simp; done) | (go_simp; rfl)); intro gb105 hg w30 hbox hb; have n0_ := Aside0.mk (below_step (by repeat (first | (with_reducible first | exact HB.out | apply below_alloc | apply pw_below_drewN | apply below_drew1) | exact HB.out)) hb); have n1_ := Aside0.mk (hbox); have n2_ := Aside0.mk ((by rw [hg]; exact (below_size (by repeat (first | (with_reducible first | exact HB.out | apply below_alloc | apply pw_below_drewN | apply below_drew1) | exact HB.out))) : w.heap.size ≤ gb105)); have n3_ := Aside0.mk ((by rw [hg]; exact (below_size (by repeat (first | (with_reducible first | exact HB.out | apply below_alloc | apply pw_below_drewN | apply below_drew1) | exact HB.out))) : w.heap.size ≤ gb105)); clear HB; have HB := n0_; have BK105 := n1_; have GW105 := n2_; have GE105 := n3_; clear n0_ n1_ n2_ n3_; clear hb hbox hg; have hcz31_0 : w30.cell? ⟨gb105, 0, none⟩ = some (.int .i64 a0_0) := (blk_cell BK105.out 0).trans rfl; have hcz31_1 : w30.cell? ⟨gb105, 1, none⟩ = some (.int .i64 a0_1) := (blk_cell BK105.out 1).trans rfl; have hcz31_2 : w30.cell? ⟨gb105, 2, none⟩ = some (.int .i64 a0_2) := (blk_cell BK105.out 2).trans rfl; have hcz31_3 : w30.cell? ⟨gb105, 3, none⟩ = some (.int .i64 a0_3) := (blk_cell BK105.out 3).trans rfl; have hcz31_4 : w30.cell? ⟨gb105, 4, none⟩ = some (.slice A0_4 l0_4.length c0_4) := (blk_cell BK105.out 4).trans rfl; have hfz31_0 := blk_frozen BK105.out 0; have hfz31_1 := blk_frozen BK105.out 1; have hfz31_2 := blk_frozen BK105.out 2; have hfz31_3 := blk_frozen BK105.out 3; have hfz31_4 := blk_frozen BK105.out 4))
            go_ret
            exact ⟨by first | rfl | (simp [errW_none, errW_some] <;> rfl) | (simp [*, errW_none, errW_some] <;> rfl), by repeat (first | (with_reducible first | exact HB.out | apply below_alloc | apply pw_below_drewN | apply below_drew1 | refine below_set ?_ GE105.out) | exact HB.out)⟩
        · rw [if_neg c23] at H
          have c23b0 : (a0_1 == 0) = false := beq_eq_false_iff_ne.mpr c23
          have c23b1 : (a0_1 != 0) = true := bne_iff_ne.mpr c23
          obtain rfl := Option.some.inj H
          go_enter Tryd.func69, Tryd.ntmps69
          go_wp2_with (first | ((with_reducible refine gate_dst (N := 1) rfl ?_); (try (refine gate_guard (by rfl) ?_; dsimp only)); refine box_event ?hg (N := 1) ?hd (cs := #[.int .i64 a0_0, .int .i64 a0_1, .int .i64 a0_2, .int .i64 a0_3, .slice A0_4 l0_4.length c0_4]) (t := 24) ?hr ?_; (case hd => rfl); (case hg => rfl); (case hr => first | (go_simp; done) | (go_simp; rfl)); intro gb105 hg w32 hbox hb; have n0_ := Aside0.mk (below_step (by repeat (first | (with_reducible first | exact HB.out | apply below_alloc | apply pw_below_drewN | apply below_drew1) | exact HB.out)) hb); have n1_ := Aside0.mk (hbox); have n2_ := Aside0.mk ((by rw [hg]; exact (below_size (by repeat (first | (with_reducible first | exact HB.out | apply below_alloc | apply pw_below_drewN | apply below_drew1) | exact HB.out))) : w.heap.size ≤ gb105)); have n3_ := Aside0.mk ((by rw [hg]; exact (below_size (by repeat (first | (with_reducible first | exact HB.out | apply below_alloc | apply pw_below_drewN | apply below_drew1) | exact HB.out))) : w.heap.size ≤ gb105)); clear HB; have HB := n0_; have BK105 := n1_; have GW105 := n2_; have GE105 := n3_; clear n0_ n1_ n2_ n3_; clear hb hbox hg; have hcz33_0 : w32.cell? ⟨gb105, 0, none⟩ = some (.int .i64 a0_0) := (blk_cell BK105.out 0).trans rfl; have hcz33_1 : w32.cell? ⟨gb105, 1, none⟩ = some (.int .i64 a0_1) := (blk_cell BK105.out 1).trans rfl; have hcz33_2 : w32.cell? ⟨gb105, 2, none⟩ = some (.int .i64 a0_2) := (blk_cell BK105.out 2).trans rfl; have hcz33_3 : w32.cell? ⟨gb105, 3, none⟩ = some (.int .i64 a0_3) := (blk_cell BK105.out 3).trans rfl; have hcz33_4 : w32.cell? ⟨gb105, 4, none⟩ = some (.slice A0_4 l0_4.length c0_4) := (blk_cell BK105.out 4).trans rfl; have hfz33_0 := blk_frozen BK105.out 0; have hfz33_1 := blk_frozen BK105.out 1; have hfz33_2 := blk_frozen BK105.out 2; have hfz33_3 := blk_frozen BK105.out 3; have hfz33_4 := blk_frozen BK105.out 4))
          go_ret
          exact ⟨by first | rfl | (simp [errW_none, errW_some] <;> rfl) | (simp [*, errW_none, errW_some] <;> rfl), by repeat (first | (with_reducible first | exact HB.out | apply below_alloc | apply pw_below_drewN | apply below_drew1 | refine below_set ?_ GE105.out) | exact HB.out)⟩

end Go.Proofs.YtggelekooacmnaaDoor.Q
namespace Go.Proofs.YtggelekooacmnaaDoor.Q
open Go.RowKit Go.Proofs.YtggelekooacmnaaDoorW.PrintWords Go.Proofs.YtggelekooacmnaaDoorW.PrintLast Go.Proofs.YtggelekooacmnaaDoorW.PrintMore
attribute [local go_sem] max2_int min2_int max_two min_two max_three min_three max_four min_four   -- for this text's walks alone
set_option linter.unusedVariables false
set_option linter.unusedSimpArgs false

/-! ### types_fault: function 39 -/
mutual
def types_fault.j0 : Nat → Bool → Int → Int → Int → Int → List (S24) → Option (Int)
 | 0, _, _, _, _, _, _ => none
 | k + 1, x15, x107000, x107001, x107002, x107003, x107004 => if x15 = true then (some 14) else ((types_unused.f x107000 x107001 x107002 x107003 x107004).bind fun t107 => (if t107 = true then (some 2) else (if x107000 = 2 then (if x107001 < (-1000) then (some 1) else (if x107001 > x107002 then (some 1) else (if x107002 > 1000 then (some 1) else (some 0)))) else (if x107000 = 5 then (if (x107004.length : Int) < 2 then (types_fault.j1 k true x107000 x107001 x107002 x107003 x107004) else (types_fault.j1 k (decide ((x107004.length : Int) > 4)) x107000 x107001 x107002 x107003 x107004)) else (if x107000 = 6 then (if x107003 < 1 then (types_fault.j3 k true x107000 x107001 x107002 x107003 x107004) else (types_fault.j3 k (decide (x107003 > 4)) x107000 x107001 x107002 x107003 x107004)) else (some 0))))))
def types_fault.j1 : Nat → Bool → Int → Int → Int → Int → List (S24) → Option (Int)
 | 0, _, _, _, _, _, _ => none
 | k + 1, x48, x107000, x107001, x107002, x107003, x107004 => if x48 = true then (some 1) else (types_fault.l0 k x107004 (x107004.length : Int) 0)
def types_fault.l0 : Nat → List (S24) → Int → Int → Option (Int)
 | 0, _, _, _ => none
 | k + 1, x50, x51, x52 => if x52 < x51 then (if 0 ≤ x52 then (if x52 < (x50.length : Int) then ((types_fault.f k ((rd_T24 x50 x52).f0) ((rd_T24 x50 x52).f1) ((rd_T24 x50 x52).f2) ((rd_T24 x50 x52).f3) ((rd_T24 x50 x52).f4)).bind fun t110 => (if t110 = 0 then (if ((rd_T24 x50 x52).f0) = 3 then (some 8) else (if ((rd_T24 x50 x52).f0) = 4 then (some 8) else (types_fault.l0 k x50 x51 (wrap64 (x52 + 1))))) else (some t110))) else (none)) else (none)) else (some 0)
def types_fault.j3 : Nat → Bool → Int → Int → Int → Int → List (S24) → Option (Int)
 | 0, _, _, _, _, _, _ => none
 | k + 1, x79, x107000, x107001, x107002, x107003, x107004 => if x79 = true then (some 1) else (if (x107004.length : Int) = 1 then (if 0 < (x107004.length : Int) then ((types_fault.f k ((rd_T24 x107004 0).f0) ((rd_T24 x107004 0).f1) ((rd_T24 x107004 0).f2) ((rd_T24 x107004 0).f3) ((rd_T24 x107004 0).f4)).bind fun t112 => (if t112 = 0 then (if ((rd_T24 x107004 0).f0) = 1 then (some 0) else (if ((rd_T24 x107004 0).f0) = 2 then (some 0) else (some 8))) else (some t112))) else (none)) else (some 2))
def types_fault.f : Nat → Int → Int → Int → Int → List (S24) → Option (Int)
 | 0, _, _, _, _, _ => none
 | k + 1, a0_0, a0_1, a0_2, a0_3, l0_4 => if a0_0 < 1 then (types_fault.j0 k true a0_0 a0_1 a0_2 a0_3 l0_4) else (types_fault.j0 k (decide (a0_0 > 6)) a0_0 a0_1 a0_2 a0_3 l0_4)
end
theorem types_fault.mono_l : ∀ k, (∀ y0 y1 y2 y3 y4, LeO (types_fault.f k y0 y1 y2 y3 y4) (types_fault.f (k + 1) y0 y1 y2 y3 y4)) ∧ (∀ y0 y1 y2 y3 y4 y5, LeO (types_fault.j0 k y0 y1 y2 y3 y4 y5) (types_fault.j0 (k + 1) y0 y1 y2 y3 y4 y5)) ∧ (∀ y0 y1 y2 y3 y4 y5, LeO (types_fault.j1 k y0 y1 y2 y3 y4 y5) (types_fault.j1 (k + 1) y0 y1 y2 y3 y4 y5)) ∧ (∀ y0 y1 y2, LeO (types_fault.l0 k y0 y1 y2) (types_fault.l0 (k + 1) y0 y1 y2)) ∧ (∀ y0 y1 y2 y3 y4 y5, LeO (types_fault.j3 k y0 y1 y2 y3 y4 y5) (types_fault.j3 (k + 1) y0 y1 y2 y3 y4 y5))
 | 0 => ⟨fun _ _ _ _ _ r h => by simp [types_fault.f] at h, fun _ _ _ _ _ _ r h => by simp [types_fault.j0] at h, fun _ _ _ _ _ _ r h => by simp [types_fault.j1] at h, fun _ _ _ r h => by simp [types_fault.l0] at h, fun _ _ _ _ _ _ r h => by simp [types_fault.j3] at h⟩
 | k + 1 => by
  obtain ⟨ih0, ih1, ih2, ih3, ih4⟩ := types_fault.mono_l k
  refine ⟨?_, ?_, ?_, ?_, ?_⟩
  ·intro y0 y1 y2 y3 y4
   unfold types_fault.f
   repeat' first
   | (with_reducible exact ih0 _ _ _ _ _)
   | (with_reducible exact ih1 _ _ _ _ _ _)
   | (with_reducible exact ih2 _ _ _ _ _ _)
   | (with_reducible exact ih3 _ _ _)
   | (with_reducible exact ih4 _ _ _ _ _ _)
   | (with_reducible exact LeO.refl _)
   | (with_reducible exact LeO.none _)
   | (with_reducible refine LeO.ite ?_ ?_)
   | (with_reducible refine LeO.bind ?_ (fun _ => ?_))
   | exact ih0 _ _ _ _ _
   | exact ih1 _ _ _ _ _ _
   | exact ih2 _ _ _ _ _ _
   | exact ih3 _ _ _
   | exact ih4 _ _ _ _ _ _
   | exact LeO.none _
   | refine LeO.ite ?_ ?_
   | refine LeO.bind ?_ (fun _ => ?_)
  ·intro y0 y1 y2 y3 y4 y5
   unfold types_fault.j0
   repeat' first
   | (with_reducible exact ih0 _ _ _ _ _)
   | (with_reducible exact ih1 _ _ _ _ _ _)
   | (with_reducible exact ih2 _ _ _ _ _ _)
   | (with_reducible exact ih3 _ _ _)
   | (with_reducible exact ih4 _ _ _ _ _ _)
   | (with_reducible exact LeO.refl _)
   | (with_reducible exact LeO.none _)
   | (with_reducible refine LeO.ite ?_ ?_)
   | (with_reducible refine LeO.bind ?_ (fun _ => ?_))
   | exact ih0 _ _ _ _ _
   | exact ih1 _ _ _ _ _ _
   | exact ih2 _ _ _ _ _ _
   | exact ih3 _ _ _
   | exact ih4 _ _ _ _ _ _
   | exact LeO.none _
   | refine LeO.ite ?_ ?_
   | refine LeO.bind ?_ (fun _ => ?_)
  ·intro y0 y1 y2 y3 y4 y5
   unfold types_fault.j1
   repeat' first
   | (with_reducible exact ih0 _ _ _ _ _)
   | (with_reducible exact ih1 _ _ _ _ _ _)
   | (with_reducible exact ih2 _ _ _ _ _ _)
   | (with_reducible exact ih3 _ _ _)
   | (with_reducible exact ih4 _ _ _ _ _ _)
   | (with_reducible exact LeO.refl _)
   | (with_reducible exact LeO.none _)
   | (with_reducible refine LeO.ite ?_ ?_)
   | (with_reducible refine LeO.bind ?_ (fun _ => ?_))
   | exact ih0 _ _ _ _ _
   | exact ih1 _ _ _ _ _ _
   | exact ih2 _ _ _ _ _ _
   | exact ih3 _ _ _
   | exact ih4 _ _ _ _ _ _
   | exact LeO.none _
   | refine LeO.ite ?_ ?_
   | refine LeO.bind ?_ (fun _ => ?_)
  ·intro y0 y1 y2
   unfold types_fault.l0
   repeat' first
   | (with_reducible exact ih0 _ _ _ _ _)
   | (with_reducible exact ih1 _ _ _ _ _ _)
   | (with_reducible exact ih2 _ _ _ _ _ _)
   | (with_reducible exact ih3 _ _ _)
   | (with_reducible exact ih4 _ _ _ _ _ _)
   | (with_reducible exact LeO.refl _)
   | (with_reducible exact LeO.none _)
   | (with_reducible refine LeO.ite ?_ ?_)
   | (with_reducible refine LeO.bind ?_ (fun _ => ?_))
   | exact ih0 _ _ _ _ _
   | exact ih1 _ _ _ _ _ _
   | exact ih2 _ _ _ _ _ _
   | exact ih3 _ _ _
   | exact ih4 _ _ _ _ _ _
   | exact LeO.none _
   | refine LeO.ite ?_ ?_
   | refine LeO.bind ?_ (fun _ => ?_)
  ·intro y0 y1 y2 y3 y4 y5
   unfold types_fault.j3
   repeat' first
   | (with_reducible exact ih0 _ _ _ _ _)
   | (with_reducible exact ih1 _ _ _ _ _ _)
   | (with_reducible exact ih2 _ _ _ _ _ _)
   | (with_reducible exact ih3 _ _ _)
   | (with_reducible exact ih4 _ _ _ _ _ _)
   | (with_reducible exact LeO.refl _)
   | (with_reducible exact LeO.none _)
   | (with_reducible refine LeO.ite ?_ ?_)
   | (with_reducible refine LeO.bind ?_ (fun _ => ?_))
   | exact ih0 _ _ _ _ _
   | exact ih1 _ _ _ _ _ _
   | exact ih2 _ _ _ _ _ _
   | exact ih3 _ _ _
   | exact ih4 _ _ _ _ _ _
   | exact LeO.none _
   | refine LeO.ite ?_ ?_
   | refine LeO.bind ?_ (fun _ => ?_)
theorem types_fault.mono : ∀ a0 a1 a2 a3 a4 k, LeO (types_fault.f k a0 a1 a2 a3 a4) (types_fault.f (k + 1) a0 a1 a2 a3 a4) := by
 intro a0 a1 a2 a3 a4 k
 obtain ⟨ih0, ih1, ih2, ih3, ih4⟩ := types_fault.mono_l k
 exact ih0 a0 a1 a2 a3 a4
set_option maxHeartbeats 8000000 in
set_option maxRecDepth 100000 in
theorem types_fault.calls (k : Nat) : ∀ (a0_0 : Int) (a0_1 : Int) (a0_2 : Int) (a0_3 : Int) (A0_4 : Option Addr) (c0_4 : Nat) (l0_4 : List (S24)) (r : Int) (w : World) (hr0_4 : Kd.C k24 w A0_4 l0_4.length l0_4) (hc0_4 : l0_4.length ≤ c0_4) (h : types_fault.f k a0_0 a0_1 a0_2 a0_3 l0_4 = some r),
  Calls Tryd.prog 39 #[.agg #[.int .i64 a0_0, .int .i64 a0_1, .int .i64 a0_2, .int .i64 a0_3, .slice A0_4 l0_4.length c0_4]] w fun e w' => e = .returned (.int .i64 r) ∧ Below w.heap.size w w' := by
 induction k using Nat.strongRecOn with
 | _ k ih =>
 intro a0_0 a0_1 a0_2 a0_3 A0_4 c0_4 l0_4 r w hr0_4 hc0_4 h
 cases k with
 | zero => exact absurd h (by simp [types_fault.f])
 | succ k =>
 simp only [types_fault.f] at h
 have hu24 := Tryd.underlying24
 have HR0_4 := Aside0.mk hr0_4
 have HC0_4 := Aside0.mk hc0_4
 clear hr0_4 hc0_4
 have HB := Aside0.mk (Below.refl w.heap.size w)
 have H : (if a0_0 < 1 then (types_fault.j0 k true a0_0 a0_1 a0_2 a0_3 l0_4) else (types_fault.j0 k (decide (a0_0 > 6)) a0_0 a0_1 a0_2 a0_3 l0_4)) = some r := h
 clear h
 have HC2 := Aside0.mk H
 clear H
 go_enter Tryd.func39, Tryd.ntmps39
 go_upto_region 1 with (first | ((with_reducible refine gate_dst (N := 1) rfl ?_); (try (refine gate_guard (by rfl) ?_; dsimp only)); refine box_event ?hg (N := 1) ?hd (cs := #[.int .i64 a0_0, .int .i64 a0_1, .int .i64 a0_2, .int .i64 a0_3, .slice A0_4 l0_4.length c0_4]) (t := 24) ?hr ?_; (case hd => rfl); (case hg => rfl); (case hr => first | (go_simp; done) | (go_simp; rfl)); intro gb106 hg w3 hbox hb; have BK106 := Aside0.mk (hbox); have GW106 : Aside0 (w.heap.size ≤ gb106) := gw_ hg (below_size bl_); have GE106 := GW106; replace HB := Aside0.mk (below_step bl_ hb); clear hb hbox hg))
 (try simp only [Act.put, List.setIfInBounds_toArray, List.set_cons_zero, List.set_cons_succ])
 go_cut [15] (fun v15 wc => ∃ (kq : Nat) (x15_1 : Bool), v15 = .bool x15_1 ∧ Aside0 (types_fault.j0 kq x15_1 a0_0 a0_1 a0_2 a0_3 l0_4 = some r) ∧ Aside0 (kq ≤ k) ∧ Aside0 (wc.heap[gb106]? = some (.cells #[.int .i64 a0_0, .int .i64 a0_1, .int .i64 a0_2, .int .i64 a0_3, (.slice A0_4 l0_4.length c0_4)] 24 (0, 0))) ∧ Aside0 (Below w.heap.size w wc))
 case first =>
  have H := HC2.out
  clear HC2
  by_cases c4 : a0_0 < 1
  ·rw [if_pos c4] at H
   have c4b0 : decide (a0_0 < 1) = true := decide_eq_true c4
   clear c4
   (first | rw [c4b0] | (simp only [i64_w, i32_w]; rw [c4b0]) | skip)
   have H' := Aside0.mk H
   clear H
   obtain ⟨hcz5_0, hcz5_1, hcz5_2, hcz5_3, hcz5_4, hfz5_0, hfz5_1, hfz5_2, hfz5_3, hfz5_4⟩ := cf5_ BK106.out
   go_wp2
   go_meet
   case rel => exact ⟨_, (true), rs_, H', ⟨by first | omega | exact Nat.le_refl _⟩, ⟨bk_⟩, ⟨bl_⟩⟩
  ·rw [if_neg c4] at H
   have c4b0 : decide (a0_0 < 1) = false := decide_eq_false c4
   clear c4
   (first | rw [c4b0] | (simp only [i64_w, i32_w]; rw [c4b0]) | skip)
   have H' := Aside0.mk H
   clear H
   obtain ⟨hcz6_0, hcz6_1, hcz6_2, hcz6_3, hcz6_4, hfz6_0, hfz6_1, hfz6_2, hfz6_3, hfz6_4⟩ := cf5_ BK106.out
   go_wp2
   go_meet
   case rel => exact ⟨_, (decide (a0_0 > 6)), rs_, H', ⟨by first | omega | exact Nat.le_refl _⟩, ⟨bk_⟩, ⟨bl_⟩⟩
 case rest =>
  clear HC2
  try clear p2
  try clear c3
  try clear c4
  try clear c4b0
  try clear hcz5_0 hcz5_1 hcz5_2 hcz5_3 hcz5_4 hfz5_0 hfz5_1 hfz5_2 hfz5_3 hfz5_4
  try clear hcz6_0 hcz6_1 hcz6_2 hcz6_3 hcz6_4 hfz6_0 hfz6_1 hfz6_2 hfz6_3 hfz6_4
  obtain ⟨kq, x15_1, rfl, HA, HJ1, BK106, HB⟩ := hcut
  cases kq with
  | zero => exact absurd HA.out (by simp [types_fault.j0])
  | succ kj1 =>
   have H := HA.out
   clear HA
   simp only [types_fault.j0] at H
   by_cases c7 : x15_1 = true
   ·subst c7
    have H1 : (some 14) = some r := by rw [if_pos rfl] at H; exact H
    clear H
    have H := H1
    clear H1
    obtain rfl := Option.some.inj H
    go_wp2
    go_ret
    exact ⟨re_, bl_⟩
   ·replace c7 := Bool.eq_false_iff.mpr c7
    subst c7
    have H1 : ((types_unused.f a0_0 a0_1 a0_2 a0_3 l0_4).bind fun t107 => (if t107 = true then (some 2) else (if a0_0 = 2 then (if a0_1 < (-1000) then (some 1) else (if a0_1 > a0_2 then (some 1) else (if a0_2 > 1000 then (some 1) else (some 0)))) else (if a0_0 = 5 then (if (l0_4.length : Int) < 2 then (types_fault.j1 kj1 true a0_0 a0_1 a0_2 a0_3 l0_4) else (types_fault.j1 kj1 (decide ((l0_4.length : Int) > 4)) a0_0 a0_1 a0_2 a0_3 l0_4)) else (if a0_0 = 6 then (if a0_3 < 1 then (types_fault.j3 kj1 true a0_0 a0_1 a0_2 a0_3 l0_4) else (types_fault.j3 kj1 (decide (a0_3 > 4)) a0_0 a0_1 a0_2 a0_3 l0_4)) else (some 0)))))) = some r := by rw [if_neg (show ¬ (false = true) by decide)] at H; exact H
    clear H
    have H := H1
    clear H1
    replace H := Option.bind_eq_some_iff.mp H
    obtain ⟨t107, A80, H⟩ := H
    replace H : (if t107 = true then (some 2) else (if a0_0 = 2 then (if a0_1 < (-1000) then (some 1) else (if a0_1 > a0_2 then (some 1) else (if a0_2 > 1000 then (some 1) else (some 0)))) else (if a0_0 = 5 then (if (l0_4.length : Int) < 2 then (types_fault.j1 kj1 true a0_0 a0_1 a0_2 a0_3 l0_4) else (types_fault.j1 kj1 (decide ((l0_4.length : Int) > 4)) a0_0 a0_1 a0_2 a0_3 l0_4)) else (if a0_0 = 6 then (if a0_3 < 1 then (types_fault.j3 kj1 true a0_0 a0_1 a0_2 a0_3 l0_4) else (types_fault.j3 kj1 (decide (a0_3 > 4)) a0_0 a0_1 a0_2 a0_3 l0_4)) else (some 0))))) = some r := H
    have A8 := Aside0.mk A80
    clear A80
    by_cases c9 : t107 = true
    ·subst c9
     have H1 : (some 2) = some r := by rw [if_pos rfl] at H; exact H
     clear H
     have H := H1
     clear H1
     obtain rfl := Option.some.inj H
     obtain ⟨hcz10_0, hcz10_1, hcz10_2, hcz10_3, hcz10_4, hfz10_0, hfz10_1, hfz10_2, hfz10_3, hfz10_4⟩ := cf5_ BK106.out
     go_wp2_with (first | ((with_reducible refine gate_callee (f := 69) rfl ?_); refine goesL_ (some 17) rfl rfl Tryd.func69 (by kernel_rfl) rfl #[.agg #[.int .i64 a0_0, .int .i64 a0_1, .int .i64 a0_2, .int .i64 a0_3, .slice A0_4 l0_4.length c0_4]] rfl (by (try simp only [List.map_toArray, List.map_cons, List.map_nil]); first | done | rfl | (simp only [List.length_drop, List.length_take]; rfl)) ?_; (with_reducible refine (types_unused.calls a0_0 a0_1 a0_2 a0_3 _ _ l0_4 true _ ?side1 ?side2 A8.out).mono ?_); (case side1 => repeat (first | exact (Kd.C_below HR0_4.out HB.out) | (with_reducible refine Kd.C_alloc ?_ _) | (with_reducible refine Kd.C_drewN ?_ _) | (with_reducible refine Kd.C_drew ?_))); (case side2 => exact HC0_4.out); rintro e w11 ⟨rfl, hb⟩; refine ⟨_, rfl, ?_⟩; replace BK106 := Aside0.mk (blk_below (g := gb106) (o := .cells #[.int .i64 a0_0, .int .i64 a0_1, .int .i64 a0_2, .int .i64 a0_3, .slice A0_4 l0_4.length c0_4] 24 (0, 0)) bk_ hb); replace HB := Aside0.mk (below_step bl_ hb); (try clear hb); (try clear hb2); (try clear hk); (try clear hi)))
     go_ret
     exact ⟨re_, bl_⟩
    ·replace c9 := Bool.eq_false_iff.mpr c9
     subst c9
     have H1 : (if a0_0 = 2 then (if a0_1 < (-1000) then (some 1) else (if a0_1 > a0_2 then (some 1) else (if a0_2 > 1000 then (some 1) else (some 0)))) else (if a0_0 = 5 then (if (l0_4.length : Int) < 2 then (types_fault.j1 kj1 true a0_0 a0_1 a0_2 a0_3 l0_4) else (types_fault.j1 kj1 (decide ((l0_4.length : Int) > 4)) a0_0 a0_1 a0_2 a0_3 l0_4)) else (if a0_0 = 6 then (if a0_3 < 1 then (types_fault.j3 kj1 true a0_0 a0_1 a0_2 a0_3 l0_4) else (types_fault.j3 kj1 (decide (a0_3 > 4)) a0_0 a0_1 a0_2 a0_3 l0_4)) else (some 0)))) = some r := by rw [if_neg (show ¬ (false = true) by decide)] at H; exact H
     clear H
     have H := H1
     clear H1
     by_cases c12 : a0_0 = 2
     ·rw [if_pos c12] at H
      have c12b0 : (a0_0 == 2) = true := beq_iff_eq.mpr c12
      have c12b1 : (a0_0 != 2) = false := bne_eq_false_iff_eq.mpr c12
      clear c12
      by_cases c13 : a0_1 < (-1000)
      ·rw [if_pos c13] at H
       have c13b0 : decide (a0_1 < (-1000)) = true := decide_eq_true c13
       clear c13
       obtain rfl := Option.some.inj H
       obtain ⟨hcz14_0, hcz14_1, hcz14_2, hcz14_3, hcz14_4, hfz14_0, hfz14_1, hfz14_2, hfz14_3, hfz14_4⟩ := cf5_ BK106.out
       go_wp2_with (first | ((with_reducible refine gate_callee (f := 69) rfl ?_); refine goesL_ (some 17) rfl rfl Tryd.func69 (by kernel_rfl) rfl #[.agg #[.int .i64 a0_0, .int .i64 a0_1, .int .i64 a0_2, .int .i64 a0_3, .slice A0_4 l0_4.length c0_4]] rfl (by (try simp only [List.map_toArray, List.map_cons, List.map_nil]); first | done | rfl | (simp only [List.length_drop, List.length_take]; rfl)) ?_; (with_reducible refine (types_unused.calls a0_0 a0_1 a0_2 a0_3 _ _ l0_4 false _ ?side1 ?side2 A8.out).mono ?_); (case side1 => repeat (first | exact (Kd.C_below HR0_4.out HB.out) | (with_reducible refine Kd.C_alloc ?_ _) | (with_reducible refine Kd.C_drewN ?_ _) | (with_reducible refine Kd.C_drew ?_))); (case side2 => exact HC0_4.out); rintro e w15 ⟨rfl, hb⟩; refine ⟨_, rfl, ?_⟩; replace BK106 := Aside0.mk (blk_below (g := gb106) (o := .cells #[.int .i64 a0_0, .int .i64 a0_1, .int .i64 a0_2, .int .i64 a0_3, .slice A0_4 l0_4.length c0_4] 24 (0, 0)) bk_ hb); replace HB := Aside0.mk (below_step bl_ hb); (try clear hb); (try clear hb2); (try clear hk); (try clear hi); obtain ⟨hcz16_0, hcz16_1, hcz16_2, hcz16_3, hcz16_4, hfz16_0, hfz16_1, hfz16_2, hfz16_3, hfz16_4⟩ := cf5_ BK106.out))
       go_ret
       exact ⟨re_, bl_⟩
      ·rw [if_neg c13] at H
       have c13b0 : decide (a0_1 < (-1000)) = false := decide_eq_false c13
       clear c13
       by_cases c17 : a0_1 > a0_2
       ·rw [if_pos c17] at H
        have c17b0 : decide (a0_2 < a0_1) = true := decide_eq_true c17
        clear c17
        obtain rfl := Option.some.inj H
        obtain ⟨hcz18_0, hcz18_1, hcz18_2, hcz18_3, hcz18_4, hfz18_0, hfz18_1, hfz18_2, hfz18_3, hfz18_4⟩ := cf5_ BK106.out
        go_wp2_with (first | ((with_reducible refine gate_callee (f := 69) rfl ?_); refine goesL_ (some 17) rfl rfl Tryd.func69 (by kernel_rfl) rfl #[.agg #[.int .i64 a0_0, .int .i64 a0_1, .int .i64 a0_2, .int .i64 a0_3, .slice A0_4 l0_4.length c0_4]] rfl (by (try simp only [List.map_toArray, List.map_cons, List.map_nil]); first | done | rfl | (simp only [List.length_drop, List.length_take]; rfl)) ?_; (with_reducible refine (types_unused.calls a0_0 a0_1 a0_2 a0_3 _ _ l0_4 false _ ?side1 ?side2 A8.out).mono ?_); (case side1 => repeat (first | exact (Kd.C_below HR0_4.out HB.out) | (with_reducible refine Kd.C_alloc ?_ _) | (with_reducible refine Kd.C_drewN ?_ _) | (with_reducible refine Kd.C_drew ?_))); (case side2 => exact HC0_4.out); rintro e w19 ⟨rfl, hb⟩; refine ⟨_, rfl, ?_⟩; replace BK106 := Aside0.mk (blk_below (g := gb106) (o := .cells #[.int .i64 a0_0, .int .i64 a0_1, .int .i64 a0_2, .int .i64 a0_3, .slice A0_4 l0_4.length c0_4] 24 (0, 0)) bk_ hb); replace HB := Aside0.mk (below_step bl_ hb); (try clear hb); (try clear hb2); (try clear hk); (try clear hi); obtain ⟨hcz20_0, hcz20_1, hcz20_2, hcz20_3, hcz20_4, hfz20_0, hfz20_1, hfz20_2, hfz20_3, hfz20_4⟩ := cf5_ BK106.out))
        go_ret
        exact ⟨re_, bl_⟩
       ·rw [if_neg c17] at H
        have c17b0 : decide (a0_2 < a0_1) = false := decide_eq_false c17
        clear c17
        by_cases c21 : a0_2 > 1000
        ·rw [if_pos c21] at H
         have c21b0 : decide (1000 < a0_2) = true := decide_eq_true c21
         clear c21
         obtain rfl := Option.some.inj H
         obtain ⟨hcz22_0, hcz22_1, hcz22_2, hcz22_3, hcz22_4, hfz22_0, hfz22_1, hfz22_2, hfz22_3, hfz22_4⟩ := cf5_ BK106.out
         go_wp2_with (first | ((with_reducible refine gate_callee (f := 69) rfl ?_); refine goesL_ (some 17) rfl rfl Tryd.func69 (by kernel_rfl) rfl #[.agg #[.int .i64 a0_0, .int .i64 a0_1, .int .i64 a0_2, .int .i64 a0_3, .slice A0_4 l0_4.length c0_4]] rfl (by (try simp only [List.map_toArray, List.map_cons, List.map_nil]); first | done | rfl | (simp only [List.length_drop, List.length_take]; rfl)) ?_; (with_reducible refine (types_unused.calls a0_0 a0_1 a0_2 a0_3 _ _ l0_4 false _ ?side1 ?side2 A8.out).mono ?_); (case side1 => repeat (first | exact (Kd.C_below HR0_4.out HB.out) | (with_reducible refine Kd.C_alloc ?_ _) | (with_reducible refine Kd.C_drewN ?_ _) | (with_reducible refine Kd.C_drew ?_))); (case side2 => exact HC0_4.out); rintro e w23 ⟨rfl, hb⟩; refine ⟨_, rfl, ?_⟩; replace BK106 := Aside0.mk (blk_below (g := gb106) (o := .cells #[.int .i64 a0_0, .int .i64 a0_1, .int .i64 a0_2, .int .i64 a0_3, .slice A0_4 l0_4.length c0_4] 24 (0, 0)) bk_ hb); replace HB := Aside0.mk (below_step bl_ hb); (try clear hb); (try clear hb2); (try clear hk); (try clear hi); obtain ⟨hcz24_0, hcz24_1, hcz24_2, hcz24_3, hcz24_4, hfz24_0, hfz24_1, hfz24_2, hfz24_3, hfz24_4⟩ := cf5_ BK106.out))
         go_ret
         exact ⟨re_, bl_⟩
        ·rw [if_neg c21] at H
         have c21b0 : decide (1000 < a0_2) = false := decide_eq_false c21
         clear c21
         obtain rfl := Option.some.inj H
         obtain ⟨hcz25_0, hcz25_1, hcz25_2, hcz25_3, hcz25_4, hfz25_0, hfz25_1, hfz25_2, hfz25_3, hfz25_4⟩ := cf5_ BK106.out
         go_wp2_with (first | ((with_reducible refine gate_callee (f := 69) rfl ?_); refine goesL_ (some 17) rfl rfl Tryd.func69 (by kernel_rfl) rfl #[.agg #[.int .i64 a0_0, .int .i64 a0_1, .int .i64 a0_2, .int .i64 a0_3, .slice A0_4 l0_4.length c0_4]] rfl (by (try simp only [List.map_toArray, List.map_cons, List.map_nil]); first | done | rfl | (simp only [List.length_drop, List.length_take]; rfl)) ?_; (with_reducible refine (types_unused.calls a0_0 a0_1 a0_2 a0_3 _ _ l0_4 false _ ?side1 ?side2 A8.out).mono ?_); (case side1 => repeat (first | exact (Kd.C_below HR0_4.out HB.out) | (with_reducible refine Kd.C_alloc ?_ _) | (with_reducible refine Kd.C_drewN ?_ _) | (with_reducible refine Kd.C_drew ?_))); (case side2 => exact HC0_4.out); rintro e w26 ⟨rfl, hb⟩; refine ⟨_, rfl, ?_⟩; replace BK106 := Aside0.mk (blk_below (g := gb106) (o := .cells #[.int .i64 a0_0, .int .i64 a0_1, .int .i64 a0_2, .int .i64 a0_3, .slice A0_4 l0_4.length c0_4] 24 (0, 0)) bk_ hb); replace HB := Aside0.mk (below_step bl_ hb); (try clear hb); (try clear hb2); (try clear hk); (try clear hi); obtain ⟨hcz27_0, hcz27_1, hcz27_2, hcz27_3, hcz27_4, hfz27_0, hfz27_1, hfz27_2, hfz27_3, hfz27_4⟩ := cf5_ BK106.out))
         go_ret
         exact ⟨re_, bl_⟩
     ·rw [if_neg c12] at H
      have c12b0 : (a0_0 == 2) = false := beq_eq_false_iff_ne.mpr c12
      have c12b1 : (a0_0 != 2) = true := bne_iff_ne.mpr c12
      by_cases c28 : a0_0 = 5
      ·rw [if_pos c28] at H
       have c28b0 : (a0_0 == 5) = true := beq_iff_eq.mpr c28
       have c28b1 : (a0_0 != 5) = false := bne_eq_false_iff_eq.mpr c28
       clear c28
       have HC29 := Aside0.mk H
       clear H
       obtain ⟨hcz30_0, hcz30_1, hcz30_2, hcz30_3, hcz30_4, hfz30_0, hfz30_1, hfz30_2, hfz30_3, hfz30_4⟩ := cf5_ BK106.out
       go_upto_region 10 with (first | ((with_reducible refine gate_callee (f := 69) rfl ?_); refine goesL_ (some 17) rfl rfl Tryd.func69 (by kernel_rfl) rfl #[.agg #[.int .i64 a0_0, .int .i64 a0_1, .int .i64 a0_2, .int .i64 a0_3, .slice A0_4 l0_4.length c0_4]] rfl (by (try simp only [List.map_toArray, List.map_cons, List.map_nil]); first | done | rfl | (simp only [List.length_drop, List.length_take]; rfl)) ?_; (with_reducible refine (types_unused.calls a0_0 a0_1 a0_2 a0_3 _ _ l0_4 false _ ?side1 ?side2 A8.out).mono ?_); (case side1 => repeat (first | exact (Kd.C_below HR0_4.out HB.out) | (with_reducible refine Kd.C_alloc ?_ _) | (with_reducible refine Kd.C_drewN ?_ _) | (with_reducible refine Kd.C_drew ?_))); (case side2 => exact HC0_4.out); rintro e w31 ⟨rfl, hb⟩; refine ⟨_, rfl, ?_⟩; replace BK106 := Aside0.mk (blk_below (g := gb106) (o := .cells #[.int .i64 a0_0, .int .i64 a0_1, .int .i64 a0_2, .int .i64 a0_3, .slice A0_4 l0_4.length c0_4] 24 (0, 0)) bk_ hb); replace HB := Aside0.mk (below_step bl_ hb); (try clear hb); (try clear hb2); (try clear hk); (try clear hi); obtain ⟨hcz32_0, hcz32_1, hcz32_2, hcz32_3, hcz32_4, hfz32_0, hfz32_1, hfz32_2, hfz32_3, hfz32_4⟩ := cf5_ BK106.out))
       (try simp only [Act.put, List.setIfInBounds_toArray, List.set_cons_zero, List.set_cons_succ])
       go_cut [48] (fun v48 wc => ∃ (kq : Nat) (x48_28 : Bool), v48 = .bool x48_28 ∧ Aside0 (types_fault.j1 kq x48_28 a0_0 a0_1 a0_2 a0_3 l0_4 = some r) ∧ Aside0 (kq ≤ kj1) ∧ Aside0 (wc.heap[gb106]? = some (.cells #[.int .i64 a0_0, .int .i64 a0_1, .int .i64 a0_2, .int .i64 a0_3, (.slice A0_4 l0_4.length c0_4)] 24 (0, 0))) ∧ Aside0 (Below w.heap.size w wc))
       case first =>
        have H := HC29.out
        clear HC29
        by_cases c33 : (l0_4.length : Int) < 2
        ·rw [if_pos c33] at H
         have c33b0 : decide ((l0_4.length : Int) < 2) = true := decide_eq_true c33
         have c33b1 : decide (l0_4.length < 2) = true := decide_eq_true (by omega)
         clear c33
         (first | rw [c33b0] | (simp only [i64_w, i32_w]; rw [c33b0]) | skip)
         have H' := Aside0.mk H
         clear H
         obtain ⟨hcz34_0, hcz34_1, hcz34_2, hcz34_3, hcz34_4, hfz34_0, hfz34_1, hfz34_2, hfz34_3, hfz34_4⟩ := cf5_ BK106.out
         go_wp2
         go_meet
         case rel => exact ⟨_, (true), rs_, H', ⟨by have := HJ1.out; first | omega | exact Nat.le_refl _⟩, ⟨bk_⟩, ⟨bl_⟩⟩
        ·rw [if_neg c33] at H
         have c33b0 : decide ((l0_4.length : Int) < 2) = false := decide_eq_false c33
         have c33b1 : decide (l0_4.length < 2) = false := decide_eq_false (by omega)
         clear c33
         (first | rw [c33b0] | (simp only [i64_w, i32_w]; rw [c33b0]) | skip)
         have H' := Aside0.mk H
         clear H
         obtain ⟨hcz35_0, hcz35_1, hcz35_2, hcz35_3, hcz35_4, hfz35_0, hfz35_1, hfz35_2, hfz35_3, hfz35_4⟩ := cf5_ BK106.out
         go_wp2
         go_meet
         case rel => exact ⟨_, (decide ((l0_4.length : Int) > 4)), rs_, H', ⟨by have := HJ1.out; first | omega | exact Nat.le_refl _⟩, ⟨bk_⟩, ⟨bl_⟩⟩
       case rest =>
        clear HC29
        try clear c1
        try clear c2
        try clear p2
        try clear c3
        try clear c4
        try clear c4b0
        try clear c6
        try clear c7
        try clear c9
        try clear c12
        try clear c12b0
        try clear c12b1
        try clear c13
        try clear c13b0
        try clear c17
        try clear c17b0
        try clear c21
        try clear c21b0
        try clear c28
        try clear c28b0
        try clear c28b1
        try clear c33
        try clear c33b0
        try clear c33b1
        try clear hcz10_0 hcz10_1 hcz10_2 hcz10_3 hcz10_4 hfz10_0 hfz10_1 hfz10_2 hfz10_3 hfz10_4
        try clear hcz14_0 hcz14_1 hcz14_2 hcz14_3 hcz14_4 hfz14_0 hfz14_1 hfz14_2 hfz14_3 hfz14_4
        try clear hcz16_0 hcz16_1 hcz16_2 hcz16_3 hcz16_4 hfz16_0 hfz16_1 hfz16_2 hfz16_3 hfz16_4
        try clear hcz18_0 hcz18_1 hcz18_2 hcz18_3 hcz18_4 hfz18_0 hfz18_1 hfz18_2 hfz18_3 hfz18_4
        try clear hcz20_0 hcz20_1 hcz20_2 hcz20_3 hcz20_4 hfz20_0 hfz20_1 hfz20_2 hfz20_3 hfz20_4
        try clear hcz22_0 hcz22_1 hcz22_2 hcz22_3 hcz22_4 hfz22_0 hfz22_1 hfz22_2 hfz22_3 hfz22_4
        try clear hcz24_0 hcz24_1 hcz24_2 hcz24_3 hcz24_4 hfz24_0 hfz24_1 hfz24_2 hfz24_3 hfz24_4
        try clear hcz25_0 hcz25_1 hcz25_2 hcz25_3 hcz25_4 hfz25_0 hfz25_1 hfz25_2 hfz25_3 hfz25_4
        try clear hcz27_0 hcz27_1 hcz27_2 hcz27_3 hcz27_4 hfz27_0 hfz27_1 hfz27_2 hfz27_3 hfz27_4
        try clear hcz30_0 hcz30_1 hcz30_2 hcz30_3 hcz30_4 hfz30_0 hfz30_1 hfz30_2 hfz30_3 hfz30_4
        try clear hcz32_0 hcz32_1 hcz32_2 hcz32_3 hcz32_4 hfz32_0 hfz32_1 hfz32_2 hfz32_3 hfz32_4
        try clear hcz34_0 hcz34_1 hcz34_2 hcz34_3 hcz34_4 hfz34_0 hfz34_1 hfz34_2 hfz34_3 hfz34_4
        try clear hcz35_0 hcz35_1 hcz35_2 hcz35_3 hcz35_4 hfz35_0 hfz35_1 hfz35_2 hfz35_3 hfz35_4
        try clear hcz5_0 hcz5_1 hcz5_2 hcz5_3 hcz5_4 hfz5_0 hfz5_1 hfz5_2 hfz5_3 hfz5_4
        try clear hcz6_0 hcz6_1 hcz6_2 hcz6_3 hcz6_4 hfz6_0 hfz6_1 hfz6_2 hfz6_3 hfz6_4
        try clear p2
        obtain ⟨kq, x48_28, rfl, HA, HJ28, BK106, HB⟩ := hcut
        cases kq with
        | zero => exact absurd HA.out (by simp [types_fault.j1])
        | succ kj28 =>
         have H := HA.out
         clear HA
         simp only [types_fault.j1] at H
         by_cases c36 : x48_28 = true
         ·subst c36
          have H1 : (some 1) = some r := by rw [if_pos rfl] at H; exact H
          clear H
          have H := H1
          clear H1
          obtain rfl := Option.some.inj H
          go_wp2
          go_ret
          exact ⟨re_, bl_⟩
         ·replace c36 := Bool.eq_false_iff.mpr c36
          subst c36
          have H1 : (types_fault.l0 kj28 l0_4 (l0_4.length : Int) 0) = some r := by rw [if_neg (show ¬ (false = true) by decide)] at H; exact H
          clear H
          have H := H1
          clear H1
          have H' := Aside0.mk H
          clear H
          obtain ⟨hcz37_0, hcz37_1, hcz37_2, hcz37_3, hcz37_4, hfz37_0, hfz37_1, hfz37_2, hfz37_3, hfz37_4⟩ := cf5_ BK106.out
          go_wp2
          go_loopg [52] kj28 (fun kq v52 w' => ∃ (x52_3 : Int), v52 = .int .i64 x52_3 ∧ Aside0 (types_fault.l0 kq l0_4 (l0_4.length : Int) x52_3 = some r) ∧ Aside0 (kq ≤ kj28) ∧ Aside0 (w'.heap[gb106]? = some (.cells #[.int .i64 a0_0, .int .i64 a0_1, .int .i64 a0_2, .int .i64 a0_3, (.slice A0_4 l0_4.length c0_4)] 24 (0, 0))) ∧ Aside0 (Below w.heap.size w w'))
          case atStart => exact ⟨(0), rs_, H', ⟨Nat.le_refl _⟩, ⟨bk_⟩, ⟨bl_⟩⟩
          case round =>
           clear H'
           try clear c1
           try clear c2
           try clear p2
           try clear c3
           try clear c4
           try clear c4b0
           try clear c6
           try clear c7
           try clear c9
           try clear c12
           try clear c12b0
           try clear c12b1
           try clear c13
           try clear c13b0
           try clear c17
           try clear c17b0
           try clear c21
           try clear c21b0
           try clear c28
           try clear c28b0
           try clear c28b1
           try clear c33
           try clear c33b0
           try clear c33b1
           try clear c36
           try clear hcz10_0 hcz10_1 hcz10_2 hcz10_3 hcz10_4 hfz10_0 hfz10_1 hfz10_2 hfz10_3 hfz10_4
           try clear hcz14_0 hcz14_1 hcz14_2 hcz14_3 hcz14_4 hfz14_0 hfz14_1 hfz14_2 hfz14_3 hfz14_4
           try clear hcz16_0 hcz16_1 hcz16_2 hcz16_3 hcz16_4 hfz16_0 hfz16_1 hfz16_2 hfz16_3 hfz16_4
           try clear hcz18_0 hcz18_1 hcz18_2 hcz18_3 hcz18_4 hfz18_0 hfz18_1 hfz18_2 hfz18_3 hfz18_4
           try clear hcz20_0 hcz20_1 hcz20_2 hcz20_3 hcz20_4 hfz20_0 hfz20_1 hfz20_2 hfz20_3 hfz20_4
           try clear hcz22_0 hcz22_1 hcz22_2 hcz22_3 hcz22_4 hfz22_0 hfz22_1 hfz22_2 hfz22_3 hfz22_4
           try clear hcz24_0 hcz24_1 hcz24_2 hcz24_3 hcz24_4 hfz24_0 hfz24_1 hfz24_2 hfz24_3 hfz24_4
           try clear hcz25_0 hcz25_1 hcz25_2 hcz25_3 hcz25_4 hfz25_0 hfz25_1 hfz25_2 hfz25_3 hfz25_4
           try clear hcz27_0 hcz27_1 hcz27_2 hcz27_3 hcz27_4 hfz27_0 hfz27_1 hfz27_2 hfz27_3 hfz27_4
           try clear hcz30_0 hcz30_1 hcz30_2 hcz30_3 hcz30_4 hfz30_0 hfz30_1 hfz30_2 hfz30_3 hfz30_4
           try clear hcz32_0 hcz32_1 hcz32_2 hcz32_3 hcz32_4 hfz32_0 hfz32_1 hfz32_2 hfz32_3 hfz32_4
           try clear hcz34_0 hcz34_1 hcz34_2 hcz34_3 hcz34_4 hfz34_0 hfz34_1 hfz34_2 hfz34_3 hfz34_4
           try clear hcz35_0 hcz35_1 hcz35_2 hcz35_3 hcz35_4 hfz35_0 hfz35_1 hfz35_2 hfz35_3 hfz35_4
           try clear hcz37_0 hcz37_1 hcz37_2 hcz37_3 hcz37_4 hfz37_0 hfz37_1 hfz37_2 hfz37_3 hfz37_4
           try clear hcz5_0 hcz5_1 hcz5_2 hcz5_3 hcz5_4 hfz5_0 hfz5_1 hfz5_2 hfz5_3 hfz5_4
           try clear hcz6_0 hcz6_1 hcz6_2 hcz6_3 hcz6_4 hfz6_0 hfz6_1 hfz6_2 hfz6_3 hfz6_4
           try clear p2
           obtain ⟨x52_3, rfl, HA, HK3, BK106, HB⟩ := hrel
           cases gk with
           | zero => exact absurd HA.out (by simp [types_fault.l0])
           | succ k3 =>
            have H := HA.out
            clear HA
            simp only [types_fault.l0] at H
            by_cases c38 : x52_3 < (l0_4.length : Int)
            ·rw [if_pos c38] at H
             have c38b0 : decide (x52_3 < (l0_4.length : Int)) = true := decide_eq_true c38
             clear c38
             by_cases c39 : 0 ≤ x52_3
             ·rw [if_pos c39] at H
              have c39b0 : decide (0 ≤ x52_3) = true := decide_eq_true c39
              clear c39
              by_cases c40 : x52_3 < (l0_4.length : Int)
              ·rw [if_pos c40] at H
               have c40b0 : decide (x52_3 < (l0_4.length : Int)) = true := decide_eq_true c40
               clear c40
               replace H := Option.bind_eq_some_iff.mp H
               obtain ⟨t110, A410, H⟩ := H
               replace H : (if t110 = 0 then (if ((rd_T24 l0_4 x52_3).f0) = 3 then (some 8) else (if ((rd_T24 l0_4 x52_3).f0) = 4 then (some 8) else (types_fault.l0 k3 l0_4 (l0_4.length : Int) (wrap64 (x52_3 + 1))))) else (some t110)) = some r := H
               have A41 := Aside0.mk A410
               clear A410
               by_cases c42 : t110 = 0
               ·rw [if_pos c42] at H
                have c42b0 : (t110 == 0) = true := beq_iff_eq.mpr c42
                have c42b1 : (t110 != 0) = false := bne_eq_false_iff_eq.mpr c42
                clear c42
                by_cases c43 : ((rd_T24 l0_4 x52_3).f0) = 3
                ·rw [if_pos c43] at H
                 have c43b0 : (((rd_T24 l0_4 x52_3).f0) == 3) = true := beq_iff_eq.mpr c43
                 have c43b1 : (((rd_T24 l0_4 x52_3).f0) != 3) = false := bne_eq_false_iff_eq.mpr c43
                 clear c43
                 obtain rfl := Option.some.inj H
                 have p108 : 0 ≤ (x52_3 : Int) := dt_
                 have q108 : x52_3 < (l0_4.length : Int) := dt_
                 obtain ⟨ad108, A108_4, c108_4, e108, hx108_0, hx108_1, hx108_2, hx108_3, hx108_4, hl108_4, hi108_4⟩ := at_T24 HR0_4.out x52_3 p108 q108
                 cases e108
                 replace hx108_0 := (HB.out.cell (World.block_lt_of_cell? w _ hx108_0)).trans hx108_0
                 replace hx108_1 := (HB.out.cell (World.block_lt_of_cell? w _ hx108_1)).trans hx108_1
                 replace hx108_2 := (HB.out.cell (World.block_lt_of_cell? w _ hx108_2)).trans hx108_2
                 replace hx108_3 := (HB.out.cell (World.block_lt_of_cell? w _ hx108_3)).trans hx108_3
                 replace hx108_4 := (HB.out.cell (World.block_lt_of_cell? w _ hx108_4)).trans hx108_4
                 have HR108_4 := Aside0.mk hi108_4
                 have HC108_4 := Aside0.mk hl108_4
                 clear hi108_4 hl108_4
                 replace p108 := eq_true p108
                 replace q108 := eq_true q108
                 go_wp2_with (first | ((with_reducible refine gate_dst (N := 4) rfl ?_); (try (refine gate_guard (by rfl) ?_; dsimp only)); refine box_event ?hg (N := 4) ?hd (cs := #[.int .i64 0, .int .i64 0, .int .i64 0, .int .i64 0, .slice none 0 0]) (t := 24) ?hr ?_; (case hd => rfl); (case hg => rfl); (case hr => first | (go_simp; done) | (go_simp; rfl)); intro gb109 hg w44 hbox hb; have BK109 := Aside0.mk (hbox); have GW109 : Aside0 (w.heap.size ≤ gb109) := gw_ hg (below_size bl_); have GE109 := GW109; have NB106_109 := Aside0.mk ((by rw [hg]; exact Nat.ne_of_lt (blk_lt (g := gb106) (o := .cells #[.int .i64 a0_0, .int .i64 a0_1, .int .i64 a0_2, .int .i64 a0_3, .slice (some ad108) l0_4.length c0_4] 24 (0, 0)) bk_) : gb106 ≠ gb109)); have NB109_106 := Aside0.mk ((by rw [hg]; exact Nat.ne_of_gt (blk_lt (g := gb106) (o := .cells #[.int .i64 a0_0, .int .i64 a0_1, .int .i64 a0_2, .int .i64 a0_3, .slice (some ad108) l0_4.length c0_4] 24 (0, 0)) bk_) : gb109 ≠ gb106)); replace BK106 := Aside0.mk (blk_below (g := gb106) (o := .cells #[.int .i64 a0_0, .int .i64 a0_1, .int .i64 a0_2, .int .i64 a0_3, .slice (some ad108) l0_4.length c0_4] 24 (0, 0)) bk_ hb); replace HB := Aside0.mk (below_step bl_ hb); clear hb hbox hg; have hnb45 := NB109_106.out; have hnc45 := NB106_109.out; obtain ⟨hcz46_0, hcz46_1, hcz46_2, hcz46_3, hcz46_4, hfz46_0, hfz46_1, hfz46_2, hfz46_3, hfz46_4⟩ := cf5_ BK109.out) | ((with_reducible refine gate_callee (f := 39) rfl ?_); refine goesL_ (some 57) rfl rfl Tryd.func39 (by kernel_rfl) rfl #[.agg #[.int .i64 ((rd_T24 l0_4 x52_3).f0), .int .i64 ((rd_T24 l0_4 x52_3).f1), .int .i64 ((rd_T24 l0_4 x52_3).f2), .int .i64 ((rd_T24 l0_4 x52_3).f3), .slice A108_4 ((rd_T24 l0_4 x52_3).f4).length c108_4]] rfl (by (try simp only [List.map_toArray, List.map_cons, List.map_nil]); first | done | rfl | (simp only [List.length_drop, List.length_take]; rfl)) ?_; (with_reducible refine (ih k3 (by have := HJ1.out; have := HJ28.out; have := HK3.out; omega) ((rd_T24 l0_4 x52_3).f0) ((rd_T24 l0_4 x52_3).f1) ((rd_T24 l0_4 x52_3).f2) ((rd_T24 l0_4 x52_3).f3) _ _ ((rd_T24 l0_4 x52_3).f4) t110 _ ?side1 ?side2 A41.out).mono ?_); (case side1 => exact Kd.C_below HR108_4.out bl_); (case side2 => exact HC108_4.out); rintro e w47 ⟨rfl, hb⟩; refine ⟨_, rfl, ?_⟩; replace BK106 := Aside0.mk (blk_below (g := gb106) (o := .cells #[.int .i64 a0_0, .int .i64 a0_1, .int .i64 a0_2, .int .i64 a0_3, .slice (some ad108) l0_4.length c0_4] 24 (0, 0)) (by (with_reducible repeat (first | refine blk_drewN ?_ _ | refine blk_drew ?_ | refine blk_alloc ?_ _)); refine blk_far ?_ NB106_109.out _; (with_reducible repeat (first | refine blk_drewN ?_ _ | refine blk_drew ?_ | refine blk_alloc ?_ _)); refine blk_far ?_ NB106_109.out _; (with_reducible repeat (first | refine blk_drewN ?_ _ | refine blk_drew ?_ | refine blk_alloc ?_ _)); refine blk_far ?_ NB106_109.out _; (with_reducible repeat (first | refine blk_drewN ?_ _ | refine blk_drew ?_ | refine blk_alloc ?_ _)); refine blk_far ?_ NB106_109.out _; (with_reducible repeat (first | refine blk_drewN ?_ _ | refine blk_drew ?_ | refine blk_alloc ?_ _)); refine blk_far ?_ NB106_109.out _; (with_reducible repeat (first | refine blk_drewN ?_ _ | refine blk_drew ?_ | refine blk_alloc ?_ _)); exact BK106.out) hb); replace BK109 := Aside0.mk (blk_below (g := gb109) (o := .cells #[.int .i64 ((rd_T24 l0_4 x52_3).f0), .int .i64 ((rd_T24 l0_4 x52_3).f1), .int .i64 ((rd_T24 l0_4 x52_3).f2), .int .i64 ((rd_T24 l0_4 x52_3).f3), .slice A108_4 ((rd_T24 l0_4 x52_3).f4).length c108_4] 24 (0, 0)) (by (with_reducible repeat (first | refine blk_drewN ?_ _ | refine blk_drew ?_ | refine blk_alloc ?_ _)); refine blk_put (cs := #[.int .i64 ((rd_T24 l0_4 x52_3).f0), .int .i64 ((rd_T24 l0_4 x52_3).f1), .int .i64 ((rd_T24 l0_4 x52_3).f2), .int .i64 ((rd_T24 l0_4 x52_3).f3), .slice none 0 0]) ?_ 4 _ rfl; (with_reducible repeat (first | refine blk_drewN ?_ _ | refine blk_drew ?_ | refine blk_alloc ?_ _)); refine blk_put (cs := #[.int .i64 ((rd_T24 l0_4 x52_3).f0), .int .i64 ((rd_T24 l0_4 x52_3).f1), .int .i64 ((rd_T24 l0_4 x52_3).f2), .int .i64 0, .slice none 0 0]) ?_ 3 _ rfl; (with_reducible repeat (first | refine blk_drewN ?_ _ | refine blk_drew ?_ | refine blk_alloc ?_ _)); refine blk_put (cs := #[.int .i64 ((rd_T24 l0_4 x52_3).f0), .int .i64 ((rd_T24 l0_4 x52_3).f1), .int .i64 0, .int .i64 0, .slice none 0 0]) ?_ 2 _ rfl; (with_reducible repeat (first | refine blk_drewN ?_ _ | refine blk_drew ?_ | refine blk_alloc ?_ _)); refine blk_put (cs := #[.int .i64 ((rd_T24 l0_4 x52_3).f0), .int .i64 0, .int .i64 0, .int .i64 0, .slice none 0 0]) ?_ 1 _ rfl; (with_reducible repeat (first | refine blk_drewN ?_ _ | refine blk_drew ?_ | refine blk_alloc ?_ _)); refine blk_put (cs := #[.int .i64 0, .int .i64 0, .int .i64 0, .int .i64 0, .slice none 0 0]) ?_ 0 _ rfl; (with_reducible repeat (first | refine blk_drewN ?_ _ | refine blk_drew ?_ | refine blk_alloc ?_ _)); exact BK109.out) hb); replace HB := Aside0.mk (below_step bl_ hb); (try clear hb); (try clear hb2); (try clear hk); (try clear hi); obtain ⟨hcz48_0, hcz48_1, hcz48_2, hcz48_3, hcz48_4, hfz48_0, hfz48_1, hfz48_2, hfz48_3, hfz48_4⟩ := cf5_ BK109.out))
                 go_ret
                 exact ⟨re_, bl_⟩
                ·rw [if_neg c43] at H
                 have c43b0 : (((rd_T24 l0_4 x52_3).f0) == 3) = false := beq_eq_false_iff_ne.mpr c43
                 have c43b1 : (((rd_T24 l0_4 x52_3).f0) != 3) = true := bne_iff_ne.mpr c43
                 by_cases c49 : ((rd_T24 l0_4 x52_3).f0) = 4
                 ·rw [if_pos c49] at H
                  have c49b0 : (((rd_T24 l0_4 x52_3).f0) == 4) = true := beq_iff_eq.mpr c49
                  have c49b1 : (((rd_T24 l0_4 x52_3).f0) != 4) = false := bne_eq_false_iff_eq.mpr c49
                  clear c49
                  obtain rfl := Option.some.inj H
                  have p108 : 0 ≤ (x52_3 : Int) := dt_
                  have q108 : x52_3 < (l0_4.length : Int) := dt_
                  obtain ⟨ad108, A108_4, c108_4, e108, hx108_0, hx108_1, hx108_2, hx108_3, hx108_4, hl108_4, hi108_4⟩ := at_T24 HR0_4.out x52_3 p108 q108
                  cases e108
                  replace hx108_0 := (HB.out.cell (World.block_lt_of_cell? w _ hx108_0)).trans hx108_0
                  replace hx108_1 := (HB.out.cell (World.block_lt_of_cell? w _ hx108_1)).trans hx108_1
                  replace hx108_2 := (HB.out.cell (World.block_lt_of_cell? w _ hx108_2)).trans hx108_2
                  replace hx108_3 := (HB.out.cell (World.block_lt_of_cell? w _ hx108_3)).trans hx108_3
                  replace hx108_4 := (HB.out.cell (World.block_lt_of_cell? w _ hx108_4)).trans hx108_4
                  have HR108_4 := Aside0.mk hi108_4
                  have HC108_4 := Aside0.mk hl108_4
                  clear hi108_4 hl108_4
                  replace p108 := eq_true p108
                  replace q108 := eq_true q108
                  go_wp2_with (first | ((with_reducible refine gate_dst (N := 4) rfl ?_); (try (refine gate_guard (by rfl) ?_; dsimp only)); refine box_event ?hg (N := 4) ?hd (cs := #[.int .i64 0, .int .i64 0, .int .i64 0, .int .i64 0, .slice none 0 0]) (t := 24) ?hr ?_; (case hd => rfl); (case hg => rfl); (case hr => first | (go_simp; done) | (go_simp; rfl)); intro gb109 hg w50 hbox hb; have BK109 := Aside0.mk (hbox); have GW109 : Aside0 (w.heap.size ≤ gb109) := gw_ hg (below_size bl_); have GE109 := GW109; have NB106_109 := Aside0.mk ((by rw [hg]; exact Nat.ne_of_lt (blk_lt (g := gb106) (o := .cells #[.int .i64 a0_0, .int .i64 a0_1, .int .i64 a0_2, .int .i64 a0_3, .slice (some ad108) l0_4.length c0_4] 24 (0, 0)) bk_) : gb106 ≠ gb109)); have NB109_106 := Aside0.mk ((by rw [hg]; exact Nat.ne_of_gt (blk_lt (g := gb106) (o := .cells #[.int .i64 a0_0, .int .i64 a0_1, .int .i64 a0_2, .int .i64 a0_3, .slice (some ad108) l0_4.length c0_4] 24 (0, 0)) bk_) : gb109 ≠ gb106)); replace BK106 := Aside0.mk (blk_below (g := gb106) (o := .cells #[.int .i64 a0_0, .int .i64 a0_1, .int .i64 a0_2, .int .i64 a0_3, .slice (some ad108) l0_4.length c0_4] 24 (0, 0)) bk_ hb); replace HB := Aside0.mk (below_step bl_ hb); clear hb hbox hg; have hnb51 := NB109_106.out; have hnc51 := NB106_109.out; obtain ⟨hcz52_0, hcz52_1, hcz52_2, hcz52_3, hcz52_4, hfz52_0, hfz52_1, hfz52_2, hfz52_3, hfz52_4⟩ := cf5_ BK109.out) | ((with_reducible refine gate_callee (f := 39) rfl ?_); refine goesL_ (some 57) rfl rfl Tryd.func39 (by kernel_rfl) rfl #[.agg #[.int .i64 ((rd_T24 l0_4 x52_3).f0), .int .i64 ((rd_T24 l0_4 x52_3).f1), .int .i64 ((rd_T24 l0_4 x52_3).f2), .int .i64 ((rd_T24 l0_4 x52_3).f3), .slice A108_4 ((rd_T24 l0_4 x52_3).f4).length c108_4]] rfl (by (try simp only [List.map_toArray, List.map_cons, List.map_nil]); first | done | rfl | (simp only [List.length_drop, List.length_take]; rfl)) ?_; (with_reducible refine (ih k3 (by have := HJ1.out; have := HJ28.out; have := HK3.out; omega) ((rd_T24 l0_4 x52_3).f0) ((rd_T24 l0_4 x52_3).f1) ((rd_T24 l0_4 x52_3).f2) ((rd_T24 l0_4 x52_3).f3) _ _ ((rd_T24 l0_4 x52_3).f4) t110 _ ?side1 ?side2 A41.out).mono ?_); (case side1 => exact Kd.C_below HR108_4.out bl_); (case side2 => exact HC108_4.out); rintro e w53 ⟨rfl, hb⟩; refine ⟨_, rfl, ?_⟩; replace BK106 := Aside0.mk (blk_below (g := gb106) (o := .cells #[.int .i64 a0_0, .int .i64 a0_1, .int .i64 a0_2, .int .i64 a0_3, .slice (some ad108) l0_4.length c0_4] 24 (0, 0)) (by (with_reducible repeat (first | refine blk_drewN ?_ _ | refine blk_drew ?_ | refine blk_alloc ?_ _)); refine blk_far ?_ NB106_109.out _; (with_reducible repeat (first | refine blk_drewN ?_ _ | refine blk_drew ?_ | refine blk_alloc ?_ _)); refine blk_far ?_ NB106_109.out _; (with_reducible repeat (first | refine blk_drewN ?_ _ | refine blk_drew ?_ | refine blk_alloc ?_ _)); refine blk_far ?_ NB106_109.out _; (with_reducible repeat (first | refine blk_drewN ?_ _ | refine blk_drew ?_ | refine blk_alloc ?_ _)); refine blk_far ?_ NB106_109.out _; (with_reducible repeat (first | refine blk_drewN ?_ _ | refine blk_drew ?_ | refine blk_alloc ?_ _)); refine blk_far ?_ NB106_109.out _; (with_reducible repeat (first | refine blk_drewN ?_ _ | refine blk_drew ?_ | refine blk_alloc ?_ _)); exact BK106.out) hb); replace BK109 := Aside0.mk (blk_below (g := gb109) (o := .cells #[.int .i64 ((rd_T24 l0_4 x52_3).f0), .int .i64 ((rd_T24 l0_4 x52_3).f1), .int .i64 ((rd_T24 l0_4 x52_3).f2), .int .i64 ((rd_T24 l0_4 x52_3).f3), .slice A108_4 ((rd_T24 l0_4 x52_3).f4).length c108_4] 24 (0, 0)) (by (with_reducible repeat (first | refine blk_drewN ?_ _ | refine blk_drew ?_ | refine blk_alloc ?_ _)); refine blk_put (cs := #[.int .i64 ((rd_T24 l0_4 x52_3).f0), .int .i64 ((rd_T24 l0_4 x52_3).f1), .int .i64 ((rd_T24 l0_4 x52_3).f2), .int .i64 ((rd_T24 l0_4 x52_3).f3), .slice none 0 0]) ?_ 4 _ rfl; (with_reducible repeat (first | refine blk_drewN ?_ _ | refine blk_drew ?_ | refine blk_alloc ?_ _)); refine blk_put (cs := #[.int .i64 ((rd_T24 l0_4 x52_3).f0), .int .i64 ((rd_T24 l0_4 x52_3).f1), .int .i64 ((rd_T24 l0_4 x52_3).f2), .int .i64 0, .slice none 0 0]) ?_ 3 _ rfl; (with_reducible repeat (first | refine blk_drewN ?_ _ | refine blk_drew ?_ | refine blk_alloc ?_ _)); refine blk_put (cs := #[.int .i64 ((rd_T24 l0_4 x52_3).f0), .int .i64 ((rd_T24 l0_4 x52_3).f1), .int .i64 0, .int .i64 0, .slice none 0 0]) ?_ 2 _ rfl; (with_reducible repeat (first | refine blk_drewN ?_ _ | refine blk_drew ?_ | refine blk_alloc ?_ _)); refine blk_put (cs := #[.int .i64 ((rd_T24 l0_4 x52_3).f0), .int .i64 0, .int .i64 0, .int .i64 0, .slice none 0 0]) ?_ 1 _ rfl; (with_reducible repeat (first | refine blk_drewN ?_ _ | refine blk_drew ?_ | refine blk_alloc ?_ _)); refine blk_put (cs := #[.int .i64 0, .int .i64 0, .int .i64 0, .int .i64 0, .slice none 0 0]) ?_ 0 _ rfl; (with_reducible repeat (first | refine blk_drewN ?_ _ | refine blk_drew ?_ | refine blk_alloc ?_ _)); exact BK109.out) hb); replace HB := Aside0.mk (below_step bl_ hb); (try clear hb); (try clear hb2); (try clear hk); (try clear hi); obtain ⟨hcz54_0, hcz54_1, hcz54_2, hcz54_3, hcz54_4, hfz54_0, hfz54_1, hfz54_2, hfz54_3, hfz54_4⟩ := cf5_ BK109.out))
                  go_ret
                  exact ⟨re_, bl_⟩
                 ·rw [if_neg c49] at H
                  have c49b0 : (((rd_T24 l0_4 x52_3).f0) == 4) = false := beq_eq_false_iff_ne.mpr c49
                  have c49b1 : (((rd_T24 l0_4 x52_3).f0) != 4) = true := bne_iff_ne.mpr c49
                  have H' := Aside0.mk H
                  clear H
                  have p108 : 0 ≤ (x52_3 : Int) := dt_
                  have q108 : x52_3 < (l0_4.length : Int) := dt_
                  obtain ⟨ad108, A108_4, c108_4, e108, hx108_0, hx108_1, hx108_2, hx108_3, hx108_4, hl108_4, hi108_4⟩ := at_T24 HR0_4.out x52_3 p108 q108
                  cases e108
                  replace hx108_0 := (HB.out.cell (World.block_lt_of_cell? w _ hx108_0)).trans hx108_0
                  replace hx108_1 := (HB.out.cell (World.block_lt_of_cell? w _ hx108_1)).trans hx108_1
                  replace hx108_2 := (HB.out.cell (World.block_lt_of_cell? w _ hx108_2)).trans hx108_2
                  replace hx108_3 := (HB.out.cell (World.block_lt_of_cell? w _ hx108_3)).trans hx108_3
                  replace hx108_4 := (HB.out.cell (World.block_lt_of_cell? w _ hx108_4)).trans hx108_4
                  have HR108_4 := Aside0.mk hi108_4
                  have HC108_4 := Aside0.mk hl108_4
                  clear hi108_4 hl108_4
                  replace p108 := eq_true p108
                  replace q108 := eq_true q108
                  go_wp2_with (first | ((with_reducible refine gate_dst (N := 4) rfl ?_); (try (refine gate_guard (by rfl) ?_; dsimp only)); refine box_event ?hg (N := 4) ?hd (cs := #[.int .i64 0, .int .i64 0, .int .i64 0, .int .i64 0, .slice none 0 0]) (t := 24) ?hr ?_; (case hd => rfl); (case hg => rfl); (case hr => first | (go_simp; done) | (go_simp; rfl)); intro gb109 hg w55 hbox hb; have BK109 := Aside0.mk (hbox); have GW109 : Aside0 (w.heap.size ≤ gb109) := gw_ hg (below_size bl_); have GE109 := GW109; have NB106_109 := Aside0.mk ((by rw [hg]; exact Nat.ne_of_lt (blk_lt (g := gb106) (o := .cells #[.int .i64 a0_0, .int .i64 a0_1, .int .i64 a0_2, .int .i64 a0_3, .slice (some ad108) l0_4.length c0_4] 24 (0, 0)) bk_) : gb106 ≠ gb109)); have NB109_106 := Aside0.mk ((by rw [hg]; exact Nat.ne_of_gt (blk_lt (g := gb106) (o := .cells #[.int .i64 a0_0, .int .i64 a0_1, .int .i64 a0_2, .int .i64 a0_3, .slice (some ad108) l0_4.length c0_4] 24 (0, 0)) bk_) : gb109 ≠ gb106)); replace BK106 := Aside0.mk (blk_below (g := gb106) (o := .cells #[.int .i64 a0_0, .int .i64 a0_1, .int .i64 a0_2, .int .i64 a0_3, .slice (some ad108) l0_4.length c0_4] 24 (0, 0)) bk_ hb); replace HB := Aside0.mk (below_step bl_ hb); clear hb hbox hg; have hnb56 := NB109_106.out; have hnc56 := NB106_109.out; obtain ⟨hcz57_0, hcz57_1, hcz57_2, hcz57_3, hcz57_4, hfz57_0, hfz57_1, hfz57_2, hfz57_3, hfz57_4⟩ := cf5_ BK109.out) | ((with_reducible refine gate_callee (f := 39) rfl ?_); refine goesL_ (some 57) rfl rfl Tryd.func39 (by kernel_rfl) rfl #[.agg #[.int .i64 ((rd_T24 l0_4 x52_3).f0), .int .i64 ((rd_T24 l0_4 x52_3).f1), .int .i64 ((rd_T24 l0_4 x52_3).f2), .int .i64 ((rd_T24 l0_4 x52_3).f3), .slice A108_4 ((rd_T24 l0_4 x52_3).f4).length c108_4]] rfl (by (try simp only [List.map_toArray, List.map_cons, List.map_nil]); first | done | rfl | (simp only [List.length_drop, List.length_take]; rfl)) ?_; (with_reducible refine (ih k3 (by have := HJ1.out; have := HJ28.out; have := HK3.out; omega) ((rd_T24 l0_4 x52_3).f0) ((rd_T24 l0_4 x52_3).f1) ((rd_T24 l0_4 x52_3).f2) ((rd_T24 l0_4 x52_3).f3) _ _ ((rd_T24 l0_4 x52_3).f4) t110 _ ?side1 ?side2 A41.out).mono ?_); (case side1 => exact Kd.C_below HR108_4.out bl_); (case side2 => exact HC108_4.out); rintro e w58 ⟨rfl, hb⟩; refine ⟨_, rfl, ?_⟩; replace BK106 := Aside0.mk (blk_below (g := gb106) (o := .cells #[.int .i64 a0_0, .int .i64 a0_1, .int .i64 a0_2, .int .i64 a0_3, .slice (some ad108) l0_4.length c0_4] 24 (0, 0)) (by (with_reducible repeat (first | refine blk_drewN ?_ _ | refine blk_drew ?_ | refine blk_alloc ?_ _)); refine blk_far ?_ NB106_109.out _; (with_reducible repeat (first | refine blk_drewN ?_ _ | refine blk_drew ?_ | refine blk_alloc ?_ _)); refine blk_far ?_ NB106_109.out _; (with_reducible repeat (first | refine blk_drewN ?_ _ | refine blk_drew ?_ | refine blk_alloc ?_ _)); refine blk_far ?_ NB106_109.out _; (with_reducible repeat (first | refine blk_drewN ?_ _ | refine blk_drew ?_ | refine blk_alloc ?_ _)); refine blk_far ?_ NB106_109.out _; (with_reducible repeat (first | refine blk_drewN ?_ _ | refine blk_drew ?_ | refine blk_alloc ?_ _)); refine blk_far ?_ NB106_109.out _; (with_reducible repeat (first | refine blk_drewN ?_ _ | refine blk_drew ?_ | refine blk_alloc ?_ _)); exact BK106.out) hb); replace BK109 := Aside0.mk (blk_below (g := gb109) (o := .cells #[.int .i64 ((rd_T24 l0_4 x52_3).f0), .int .i64 ((rd_T24 l0_4 x52_3).f1), .int .i64 ((rd_T24 l0_4 x52_3).f2), .int .i64 ((rd_T24 l0_4 x52_3).f3), .slice A108_4 ((rd_T24 l0_4 x52_3).f4).length c108_4] 24 (0, 0)) (by (with_reducible repeat (first | refine blk_drewN ?_ _ | refine blk_drew ?_ | refine blk_alloc ?_ _)); refine blk_put (cs := #[.int .i64 ((rd_T24 l0_4 x52_3).f0), .int .i64 ((rd_T24 l0_4 x52_3).f1), .int .i64 ((rd_T24 l0_4 x52_3).f2), .int .i64 ((rd_T24 l0_4 x52_3).f3), .slice none 0 0]) ?_ 4 _ rfl; (with_reducible repeat (first | refine blk_drewN ?_ _ | refine blk_drew ?_ | refine blk_alloc ?_ _)); refine blk_put (cs := #[.int .i64 ((rd_T24 l0_4 x52_3).f0), .int .i64 ((rd_T24 l0_4 x52_3).f1), .int .i64 ((rd_T24 l0_4 x52_3).f2), .int .i64 0, .slice none 0 0]) ?_ 3 _ rfl; (with_reducible repeat (first | refine blk_drewN ?_ _ | refine blk_drew ?_ | refine blk_alloc ?_ _)); refine blk_put (cs := #[.int .i64 ((rd_T24 l0_4 x52_3).f0), .int .i64 ((rd_T24 l0_4 x52_3).f1), .int .i64 0, .int .i64 0, .slice none 0 0]) ?_ 2 _ rfl; (with_reducible repeat (first | refine blk_drewN ?_ _ | refine blk_drew ?_ | refine blk_alloc ?_ _)); refine blk_put (cs := #[.int .i64 ((rd_T24 l0_4 x52_3).f0), .int .i64 0, .int .i64 0, .int .i64 0, .slice none 0 0]) ?_ 1 _ rfl; (with_reducible repeat (first | refine blk_drewN ?_ _ | refine blk_drew ?_ | refine blk_alloc ?_ _)); refine blk_put (cs := #[.int .i64 0, .int .i64 0, .int .i64 0, .int .i64 0, .slice none 0 0]) ?_ 0 _ rfl; (with_reducible repeat (first | refine blk_drewN ?_ _ | refine blk_drew ?_ | refine blk_alloc ?_ _)); exact BK109.out) hb); replace HB := Aside0.mk (below_step bl_ hb); (try clear hb); (try clear hb2); (try clear hk); (try clear hi); obtain ⟨hcz59_0, hcz59_1, hcz59_2, hcz59_3, hcz59_4, hfz59_0, hfz59_1, hfz59_2, hfz59_3, hfz59_4⟩ := cf5_ BK109.out))
                  go_roundg k3
                  case measure => have := HJ1.out; have := HJ28.out; have := HK3.out; omega
                  case rel => exact ⟨(wrap64 (x52_3 + 1)), rs_, H', ⟨by have := HJ1.out; have := HJ28.out; have := HK3.out; omega⟩, ⟨bk_⟩, ⟨bl_⟩⟩
               ·rw [if_neg c42] at H
                have c42b0 : (t110 == 0) = false := beq_eq_false_iff_ne.mpr c42
                have c42b1 : (t110 != 0) = true := bne_iff_ne.mpr c42
                obtain rfl := Option.some.inj H
                have p108 : 0 ≤ (x52_3 : Int) := dt_
                have q108 : x52_3 < (l0_4.length : Int) := dt_
                obtain ⟨ad108, A108_4, c108_4, e108, hx108_0, hx108_1, hx108_2, hx108_3, hx108_4, hl108_4, hi108_4⟩ := at_T24 HR0_4.out x52_3 p108 q108
                cases e108
                replace hx108_0 := (HB.out.cell (World.block_lt_of_cell? w _ hx108_0)).trans hx108_0
                replace hx108_1 := (HB.out.cell (World.block_lt_of_cell? w _ hx108_1)).trans hx108_1
                replace hx108_2 := (HB.out.cell (World.block_lt_of_cell? w _ hx108_2)).trans hx108_2
                replace hx108_3 := (HB.out.cell (World.block_lt_of_cell? w _ hx108_3)).trans hx108_3
                replace hx108_4 := (HB.out.cell (World.block_lt_of_cell? w _ hx108_4)).trans hx108_4
                have HR108_4 := Aside0.mk hi108_4
                have HC108_4 := Aside0.mk hl108_4
                clear hi108_4 hl108_4
                replace p108 := eq_true p108
                replace q108 := eq_true q108
                go_wp2_with (first | ((with_reducible refine gate_dst (N := 4) rfl ?_); (try (refine gate_guard (by rfl) ?_; dsimp only)); refine box_event ?hg (N := 4) ?hd (cs := #[.int .i64 0, .int .i64 0, .int .i64 0, .int .i64 0, .slice none 0 0]) (t := 24) ?hr ?_; (case hd => rfl); (case hg => rfl); (case hr => first | (go_simp; done) | (go_simp; rfl)); intro gb109 hg w60 hbox hb; have BK109 := Aside0.mk (hbox); have GW109 : Aside0 (w.heap.size ≤ gb109) := gw_ hg (below_size bl_); have GE109 := GW109; have NB106_109 := Aside0.mk ((by rw [hg]; exact Nat.ne_of_lt (blk_lt (g := gb106) (o := .cells #[.int .i64 a0_0, .int .i64 a0_1, .int .i64 a0_2, .int .i64 a0_3, .slice (some ad108) l0_4.length c0_4] 24 (0, 0)) bk_) : gb106 ≠ gb109)); have NB109_106 := Aside0.mk ((by rw [hg]; exact Nat.ne_of_gt (blk_lt (g := gb106) (o := .cells #[.int .i64 a0_0, .int .i64 a0_1, .int .i64 a0_2, .int .i64 a0_3, .slice (some ad108) l0_4.length c0_4] 24 (0, 0)) bk_) : gb109 ≠ gb106)); replace BK106 := Aside0.mk (blk_below (g := gb106) (o := .cells #[.int .i64 a0_0, .int .i64 a0_1, .int .i64 a0_2, .int .i64 a0_3, .slice (some ad108) l0_4.length c0_4] 24 (0, 0)) bk_ hb); replace HB := Aside0.mk (below_step bl_ hb); clear hb hbox hg; have hnb61 := NB109_106.out; have hnc61 := NB106_109.out; obtain ⟨hcz62_0, hcz62_1, hcz62_2, hcz62_3, hcz62_4, hfz62_0, hfz62_1, hfz62_2, hfz62_3, hfz62_4⟩ := cf5_ BK109.out) | ((with_reducible refine gate_callee (f := 39) rfl ?_); refine goesL_ (some 57) rfl rfl Tryd.func39 (by kernel_rfl) rfl #[.agg #[.int .i64 ((rd_T24 l0_4 x52_3).f0), .int .i64 ((rd_T24 l0_4 x52_3).f1), .int .i64 ((rd_T24 l0_4 x52_3).f2), .int .i64 ((rd_T24 l0_4 x52_3).f3), .slice A108_4 ((rd_T24 l0_4 x52_3).f4).length c108_4]] rfl (by (try simp only [List.map_toArray, List.map_cons, List.map_nil]); first | done | rfl | (simp only [List.length_drop, List.length_take]; rfl)) ?_; (with_reducible refine (ih k3 (by have := HJ1.out; have := HJ28.out; have := HK3.out; omega) ((rd_T24 l0_4 x52_3).f0) ((rd_T24 l0_4 x52_3).f1) ((rd_T24 l0_4 x52_3).f2) ((rd_T24 l0_4 x52_3).f3) _ _ ((rd_T24 l0_4 x52_3).f4) t110 _ ?side1 ?side2 A41.out).mono ?_); (case side1 => exact Kd.C_below HR108_4.out bl_); (case side2 => exact HC108_4.out); rintro e w63 ⟨rfl, hb⟩; refine ⟨_, rfl, ?_⟩; replace BK106 := Aside0.mk (blk_below (g := gb106) (o := .cells #[.int .i64 a0_0, .int .i64 a0_1, .int .i64 a0_2, .int .i64 a0_3, .slice (some ad108) l0_4.length c0_4] 24 (0, 0)) (by (with_reducible repeat (first | refine blk_drewN ?_ _ | refine blk_drew ?_ | refine blk_alloc ?_ _)); refine blk_far ?_ NB106_109.out _; (with_reducible repeat (first | refine blk_drewN ?_ _ | refine blk_drew ?_ | refine blk_alloc ?_ _)); refine blk_far ?_ NB106_109.out _; (with_reducible repeat (first | refine blk_drewN ?_ _ | refine blk_drew ?_ | refine blk_alloc ?_ _)); refine blk_far ?_ NB106_109.out _; (with_reducible repeat (first | refine blk_drewN ?_ _ | refine blk_drew ?_ | refine blk_alloc ?_ _)); refine blk_far ?_ NB106_109.out _; (with_reducible repeat (first | refine blk_drewN ?_ _ | refine blk_drew ?_ | refine blk_alloc ?_ _)); refine blk_far ?_ NB106_109.out _; (with_reducible repeat (first | refine blk_drewN ?_ _ | refine blk_drew ?_ | refine blk_alloc ?_ _)); exact BK106.out) hb); replace BK109 := Aside0.mk (blk_below (g := gb109) (o := .cells #[.int .i64 ((rd_T24 l0_4 x52_3).f0), .int .i64 ((rd_T24 l0_4 x52_3).f1), .int .i64 ((rd_T24 l0_4 x52_3).f2), .int .i64 ((rd_T24 l0_4 x52_3).f3), .slice A108_4 ((rd_T24 l0_4 x52_3).f4).length c108_4] 24 (0, 0)) (by (with_reducible repeat (first | refine blk_drewN ?_ _ | refine blk_drew ?_ | refine blk_alloc ?_ _)); refine blk_put (cs := #[.int .i64 ((rd_T24 l0_4 x52_3).f0), .int .i64 ((rd_T24 l0_4 x52_3).f1), .int .i64 ((rd_T24 l0_4 x52_3).f2), .int .i64 ((rd_T24 l0_4 x52_3).f3), .slice none 0 0]) ?_ 4 _ rfl; (with_reducible repeat (first | refine blk_drewN ?_ _ | refine blk_drew ?_ | refine blk_alloc ?_ _)); refine blk_put (cs := #[.int .i64 ((rd_T24 l0_4 x52_3).f0), .int .i64 ((rd_T24 l0_4 x52_3).f1), .int .i64 ((rd_T24 l0_4 x52_3).f2), .int .i64 0, .slice none 0 0]) ?_ 3 _ rfl; (with_reducible repeat (first | refine blk_drewN ?_ _ | refine blk_drew ?_ | refine blk_alloc ?_ _)); refine blk_put (cs := #[.int .i64 ((rd_T24 l0_4 x52_3).f0), .int .i64 ((rd_T24 l0_4 x52_3).f1), .int .i64 0, .int .i64 0, .slice none 0 0]) ?_ 2 _ rfl; (with_reducible repeat (first | refine blk_drewN ?_ _ | refine blk_drew ?_ | refine blk_alloc ?_ _)); refine blk_put (cs := #[.int .i64 ((rd_T24 l0_4 x52_3).f0), .int .i64 0, .int .i64 0, .int .i64 0, .slice none 0 0]) ?_ 1 _ rfl; (with_reducible repeat (first | refine blk_drewN ?_ _ | refine blk_drew ?_ | refine blk_alloc ?_ _)); refine blk_put (cs := #[.int .i64 0, .int .i64 0, .int .i64 0, .int .i64 0, .slice none 0 0]) ?_ 0 _ rfl; (with_reducible repeat (first | refine blk_drewN ?_ _ | refine blk_drew ?_ | refine blk_alloc ?_ _)); exact BK109.out) hb); replace HB := Aside0.mk (below_step bl_ hb); (try clear hb); (try clear hb2); (try clear hk); (try clear hi)))
                go_ret
                exact ⟨re_, bl_⟩
              ·rw [if_neg c40] at H
               exact absurd H (by simp)
             ·rw [if_neg c39] at H
              exact absurd H (by simp)
            ·rw [if_neg c38] at H
             have c38b0 : decide (x52_3 < (l0_4.length : Int)) = false := decide_eq_false c38
             clear c38
             obtain rfl := Option.some.inj H
             go_wp2
             go_ret
             exact ⟨re_, bl_⟩
      ·rw [if_neg c28] at H
       have c28b0 : (a0_0 == 5) = false := beq_eq_false_iff_ne.mpr c28
       have c28b1 : (a0_0 != 5) = true := bne_iff_ne.mpr c28
       by_cases c64 : a0_0 = 6
       ·rw [if_pos c64] at H
        have c64b0 : (a0_0 == 6) = true := beq_iff_eq.mpr c64
        have c64b1 : (a0_0 != 6) = false := bne_eq_false_iff_eq.mpr c64
        clear c64
        have HC65 := Aside0.mk H
        clear H
        obtain ⟨hcz66_0, hcz66_1, hcz66_2, hcz66_3, hcz66_4, hfz66_0, hfz66_1, hfz66_2, hfz66_3, hfz66_4⟩ := cf5_ BK106.out
        go_upto_region 22 with (first | ((with_reducible refine gate_callee (f := 69) rfl ?_); refine goesL_ (some 17) rfl rfl Tryd.func69 (by kernel_rfl) rfl #[.agg #[.int .i64 a0_0, .int .i64 a0_1, .int .i64 a0_2, .int .i64 a0_3, .slice A0_4 l0_4.length c0_4]] rfl (by (try simp only [List.map_toArray, List.map_cons, List.map_nil]); first | done | rfl | (simp only [List.length_drop, List.length_take]; rfl)) ?_; (with_reducible refine (types_unused.calls a0_0 a0_1 a0_2 a0_3 _ _ l0_4 false _ ?side1 ?side2 A8.out).mono ?_); (case side1 => repeat (first | exact (Kd.C_below HR0_4.out HB.out) | (with_reducible refine Kd.C_alloc ?_ _) | (with_reducible refine Kd.C_drewN ?_ _) | (with_reducible refine Kd.C_drew ?_))); (case side2 => exact HC0_4.out); rintro e w67 ⟨rfl, hb⟩; refine ⟨_, rfl, ?_⟩; replace BK106 := Aside0.mk (blk_below (g := gb106) (o := .cells #[.int .i64 a0_0, .int .i64 a0_1, .int .i64 a0_2, .int .i64 a0_3, .slice A0_4 l0_4.length c0_4] 24 (0, 0)) bk_ hb); replace HB := Aside0.mk (below_step bl_ hb); (try clear hb); (try clear hb2); (try clear hk); (try clear hi); obtain ⟨hcz68_0, hcz68_1, hcz68_2, hcz68_3, hcz68_4, hfz68_0, hfz68_1, hfz68_2, hfz68_3, hfz68_4⟩ := cf5_ BK106.out))
        (try simp only [Act.put, List.setIfInBounds_toArray, List.set_cons_zero, List.set_cons_succ])
        go_cut [79] (fun v79 wc => ∃ (kq : Nat) (x79_64 : Bool), v79 = .bool x79_64 ∧ Aside0 (types_fault.j3 kq x79_64 a0_0 a0_1 a0_2 a0_3 l0_4 = some r) ∧ Aside0 (kq ≤ kj1) ∧ Aside0 (wc.heap[gb106]? = some (.cells #[.int .i64 a0_0, .int .i64 a0_1, .int .i64 a0_2, .int .i64 a0_3, (.slice A0_4 l0_4.length c0_4)] 24 (0, 0))) ∧ Aside0 (Below w.heap.size w wc))
        case first =>
         have H := HC65.out
         clear HC65
         by_cases c69 : a0_3 < 1
         ·rw [if_pos c69] at H
          have c69b0 : decide (a0_3 < 1) = true := decide_eq_true c69
          clear c69
          (first | rw [c69b0] | (simp only [i64_w, i32_w]; rw [c69b0]) | skip)
          have H' := Aside0.mk H
          clear H
          obtain ⟨hcz70_0, hcz70_1, hcz70_2, hcz70_3, hcz70_4, hfz70_0, hfz70_1, hfz70_2, hfz70_3, hfz70_4⟩ := cf5_ BK106.out
          go_wp2
          go_meet
          case rel => exact ⟨_, (true), rs_, H', ⟨by have := HJ1.out; first | omega | exact Nat.le_refl _⟩, ⟨bk_⟩, ⟨bl_⟩⟩
         ·rw [if_neg c69] at H
          have c69b0 : decide (a0_3 < 1) = false := decide_eq_false c69
          clear c69
          (first | rw [c69b0] | (simp only [i64_w, i32_w]; rw [c69b0]) | skip)
          have H' := Aside0.mk H
          clear H
          obtain ⟨hcz71_0, hcz71_1, hcz71_2, hcz71_3, hcz71_4, hfz71_0, hfz71_1, hfz71_2, hfz71_3, hfz71_4⟩ := cf5_ BK106.out
          go_wp2
          go_meet
          case rel => exact ⟨_, (decide (a0_3 > 4)), rs_, H', ⟨by have := HJ1.out; first | omega | exact Nat.le_refl _⟩, ⟨bk_⟩, ⟨bl_⟩⟩
        case rest =>
         clear HC65
         try clear c1
         try clear p1
         try clear q1
         try clear hx1
         try clear c2
         try clear p2
         try clear c3
         try clear c4
         try clear c4b0
         try clear c5
         try clear c6
         try clear p6
         try clear c7
         try clear c9
         try clear c10
         try clear p10
         try clear q10
         try clear hx10
         try clear c12
         try clear c12b0
         try clear c12b1
         try clear c13
         try clear c13b0
         try clear c17
         try clear c17b0
         try clear c21
         try clear c21b0
         try clear c28
         try clear c28b0
         try clear c28b1
         try clear c33
         try clear c33b0
         try clear c33b1
         try clear c36
         try clear c38
         try clear c38b0
         try clear c39
         try clear c39b0
         try clear c40
         try clear c40b0
         try clear c42
         try clear c42b0
         try clear c42b1
         try clear c43
         try clear c43b0
         try clear c43b1
         try clear c45
         try clear c49
         try clear c49b0
         try clear c49b1
         try clear c51
         try clear c56
         try clear c61
         try clear c64
         try clear c64b0
         try clear c64b1
         try clear p64
         try clear c69
         try clear c69b0
         try clear hcz10_0 hcz10_1 hcz10_2 hcz10_3 hcz10_4 hfz10_0 hfz10_1 hfz10_2 hfz10_3 hfz10_4
         try clear hcz14_0 hcz14_1 hcz14_2 hcz14_3 hcz14_4 hfz14_0 hfz14_1 hfz14_2 hfz14_3 hfz14_4
         try clear hcz16_0 hcz16_1 hcz16_2 hcz16_3 hcz16_4 hfz16_0 hfz16_1 hfz16_2 hfz16_3 hfz16_4
         try clear hcz18_0 hcz18_1 hcz18_2 hcz18_3 hcz18_4 hfz18_0 hfz18_1 hfz18_2 hfz18_3 hfz18_4
         try clear hcz20_0 hcz20_1 hcz20_2 hcz20_3 hcz20_4 hfz20_0 hfz20_1 hfz20_2 hfz20_3 hfz20_4
         try clear hcz22_0 hcz22_1 hcz22_2 hcz22_3 hcz22_4 hfz22_0 hfz22_1 hfz22_2 hfz22_3 hfz22_4
         try clear hcz24_0 hcz24_1 hcz24_2 hcz24_3 hcz24_4 hfz24_0 hfz24_1 hfz24_2 hfz24_3 hfz24_4
         try clear hcz25_0 hcz25_1 hcz25_2 hcz25_3 hcz25_4 hfz25_0 hfz25_1 hfz25_2 hfz25_3 hfz25_4
         try clear hcz27_0 hcz27_1 hcz27_2 hcz27_3 hcz27_4 hfz27_0 hfz27_1 hfz27_2 hfz27_3 hfz27_4
         try clear hcz30_0 hcz30_1 hcz30_2 hcz30_3 hcz30_4 hfz30_0 hfz30_1 hfz30_2 hfz30_3 hfz30_4
         try clear hcz32_0 hcz32_1 hcz32_2 hcz32_3 hcz32_4 hfz32_0 hfz32_1 hfz32_2 hfz32_3 hfz32_4
         try clear hcz34_0 hcz34_1 hcz34_2 hcz34_3 hcz34_4 hfz34_0 hfz34_1 hfz34_2 hfz34_3 hfz34_4
         try clear hcz35_0 hcz35_1 hcz35_2 hcz35_3 hcz35_4 hfz35_0 hfz35_1 hfz35_2 hfz35_3 hfz35_4
         try clear hcz37_0 hcz37_1 hcz37_2 hcz37_3 hcz37_4 hfz37_0 hfz37_1 hfz37_2 hfz37_3 hfz37_4
         try clear hcz46_0 hcz46_1 hcz46_2 hcz46_3 hcz46_4 hfz46_0 hfz46_1 hfz46_2 hfz46_3 hfz46_4
         try clear hcz48_0 hcz48_1 hcz48_2 hcz48_3 hcz48_4 hfz48_0 hfz48_1 hfz48_2 hfz48_3 hfz48_4
         try clear hcz52_0 hcz52_1 hcz52_2 hcz52_3 hcz52_4 hfz52_0 hfz52_1 hfz52_2 hfz52_3 hfz52_4
         try clear hcz54_0 hcz54_1 hcz54_2 hcz54_3 hcz54_4 hfz54_0 hfz54_1 hfz54_2 hfz54_3 hfz54_4
         try clear hcz57_0 hcz57_1 hcz57_2 hcz57_3 hcz57_4 hfz57_0 hfz57_1 hfz57_2 hfz57_3 hfz57_4
         try clear hcz59_0 hcz59_1 hcz59_2 hcz59_3 hcz59_4 hfz59_0 hfz59_1 hfz59_2 hfz59_3 hfz59_4
         try clear hcz5_0 hcz5_1 hcz5_2 hcz5_3 hcz5_4 hfz5_0 hfz5_1 hfz5_2 hfz5_3 hfz5_4
         try clear hcz62_0 hcz62_1 hcz62_2 hcz62_3 hcz62_4 hfz62_0 hfz62_1 hfz62_2 hfz62_3 hfz62_4
         try clear hcz66_0 hcz66_1 hcz66_2 hcz66_3 hcz66_4 hfz66_0 hfz66_1 hfz66_2 hfz66_3 hfz66_4
         try clear hcz68_0 hcz68_1 hcz68_2 hcz68_3 hcz68_4 hfz68_0 hfz68_1 hfz68_2 hfz68_3 hfz68_4
         try clear hcz6_0 hcz6_1 hcz6_2 hcz6_3 hcz6_4 hfz6_0 hfz6_1 hfz6_2 hfz6_3 hfz6_4
         try clear hcz70_0 hcz70_1 hcz70_2 hcz70_3 hcz70_4 hfz70_0 hfz70_1 hfz70_2 hfz70_3 hfz70_4
         try clear hcz71_0 hcz71_1 hcz71_2 hcz71_3 hcz71_4 hfz71_0 hfz71_1 hfz71_2 hfz71_3 hfz71_4
         try clear hx108_0
         try clear hx108_1
         try clear hx108_2
         try clear hx108_3
         try clear hx108_4
         try clear p108
         try clear p2
         try clear q108
         obtain ⟨kq, x79_64, rfl, HA, HJ64, BK106, HB⟩ := hcut
         cases kq with
         | zero => exact absurd HA.out (by simp [types_fault.j3])
         | succ kj64 =>
          have H := HA.out
          clear HA
          simp only [types_fault.j3] at H
          by_cases c72 : x79_64 = true
          ·subst c72
           have H1 : (some 1) = some r := by rw [if_pos rfl] at H; exact H
           clear H
           have H := H1
           clear H1
           obtain rfl := Option.some.inj H
           go_wp2
           go_ret
           exact ⟨re_, bl_⟩
          ·replace c72 := Bool.eq_false_iff.mpr c72
           subst c72
           have H1 : (if (l0_4.length : Int) = 1 then (if 0 < (l0_4.length : Int) then ((types_fault.f kj64 ((rd_T24 l0_4 0).f0) ((rd_T24 l0_4 0).f1) ((rd_T24 l0_4 0).f2) ((rd_T24 l0_4 0).f3) ((rd_T24 l0_4 0).f4)).bind fun t112 => (if t112 = 0 then (if ((rd_T24 l0_4 0).f0) = 1 then (some 0) else (if ((rd_T24 l0_4 0).f0) = 2 then (some 0) else (some 8))) else (some t112))) else (none)) else (some 2)) = some r := by rw [if_neg (show ¬ (false = true) by decide)] at H; exact H
           clear H
           have H := H1
           clear H1
           by_cases c73 : (l0_4.length : Int) = 1
           ·rw [if_pos c73] at H
            have c73b0 : ((l0_4.length : Int) == 1) = true := beq_iff_eq.mpr c73
            have c73b1 : ((l0_4.length : Int) != 1) = false := bne_eq_false_iff_eq.mpr c73
            clear c73
            by_cases c74 : 0 < (l0_4.length : Int)
            ·rw [if_pos c74] at H
             have c74b0 : decide (0 < (l0_4.length : Int)) = true := decide_eq_true c74
             have c74b1 : decide (0 < l0_4.length) = true := decide_eq_true (by omega)
             clear c74
             replace H := Option.bind_eq_some_iff.mp H
             obtain ⟨t112, A750, H⟩ := H
             replace H : (if t112 = 0 then (if ((rd_T24 l0_4 0).f0) = 1 then (some 0) else (if ((rd_T24 l0_4 0).f0) = 2 then (some 0) else (some 8))) else (some t112)) = some r := H
             have A75 := Aside0.mk A750
             clear A750
             by_cases c76 : t112 = 0
             ·rw [if_pos c76] at H
              have c76b0 : (t112 == 0) = true := beq_iff_eq.mpr c76
              have c76b1 : (t112 != 0) = false := bne_eq_false_iff_eq.mpr c76
              clear c76
              by_cases c77 : ((rd_T24 l0_4 0).f0) = 1
              ·rw [if_pos c77] at H
               have c77b0 : (((rd_T24 l0_4 0).f0) == 1) = true := beq_iff_eq.mpr c77
               have c77b1 : (((rd_T24 l0_4 0).f0) != 1) = false := bne_eq_false_iff_eq.mpr c77
               clear c77
               obtain rfl := Option.some.inj H
               obtain ⟨hcz78_0, hcz78_1, hcz78_2, hcz78_3, hcz78_4, hfz78_0, hfz78_1, hfz78_2, hfz78_3, hfz78_4⟩ := cf5_ BK106.out
               have p111 : 0 ≤ (0 : Int) := (by omega)
               have q111 : 0 < (l0_4.length : Int) := dt_
               obtain ⟨ad111, A111_4, c111_4, e111, hx111_0, hx111_1, hx111_2, hx111_3, hx111_4, hl111_4, hi111_4⟩ := at_T24 HR0_4.out 0 p111 q111
               cases e111
               have qi111 : (0 < l0_4.length) = True := eq_true (by omega)
               (try rw [show ((0 : Int)).toNat = 0 from rfl] at hx111_0)
               (try rw [show 0 * 5 = 0 from rfl] at hx111_0)
               (try rw [Addr.add_zero'] at hx111_0)
               (try rw [show ((0 : Int)).toNat = 0 from rfl] at hx111_1)
               (try rw [show 0 * 5 = 0 from rfl] at hx111_1)
               (try rw [Addr.add_zero'] at hx111_1)
               (try rw [show ((0 : Int)).toNat = 0 from rfl] at hx111_2)
               (try rw [show 0 * 5 = 0 from rfl] at hx111_2)
               (try rw [Addr.add_zero'] at hx111_2)
               (try rw [show ((0 : Int)).toNat = 0 from rfl] at hx111_3)
               (try rw [show 0 * 5 = 0 from rfl] at hx111_3)
               (try rw [Addr.add_zero'] at hx111_3)
               (try rw [show ((0 : Int)).toNat = 0 from rfl] at hx111_4)
               (try rw [show 0 * 5 = 0 from rfl] at hx111_4)
               (try rw [Addr.add_zero'] at hx111_4)
               replace hx111_0 := (HB.out.cell (World.block_lt_of_cell? w _ hx111_0)).trans hx111_0
               replace hx111_1 := (HB.out.cell (World.block_lt_of_cell? w _ hx111_1)).trans hx111_1
               replace hx111_2 := (HB.out.cell (World.block_lt_of_cell? w _ hx111_2)).trans hx111_2
               replace hx111_3 := (HB.out.cell (World.block_lt_of_cell? w _ hx111_3)).trans hx111_3
               replace hx111_4 := (HB.out.cell (World.block_lt_of_cell? w _ hx111_4)).trans hx111_4
               have HR111_4 := Aside0.mk hi111_4
               have HC111_4 := Aside0.mk hl111_4
               clear hi111_4 hl111_4
               replace p111 := eq_true p111
               replace q111 := eq_true q111
               go_wp2_with (first | ((with_reducible refine gate_callee (f := 39) rfl ?_); refine goesL_ (some 88) rfl rfl Tryd.func39 (by kernel_rfl) rfl #[.agg #[.int .i64 ((rd_T24 l0_4 0).f0), .int .i64 ((rd_T24 l0_4 0).f1), .int .i64 ((rd_T24 l0_4 0).f2), .int .i64 ((rd_T24 l0_4 0).f3), .slice A111_4 ((rd_T24 l0_4 0).f4).length c111_4]] rfl (by (try simp only [List.map_toArray, List.map_cons, List.map_nil]); first | done | rfl | (simp only [List.length_drop, List.length_take]; rfl)) ?_; (with_reducible refine (ih kj64 (by have := HJ1.out; have := HJ64.out; omega) ((rd_T24 l0_4 0).f0) ((rd_T24 l0_4 0).f1) ((rd_T24 l0_4 0).f2) ((rd_T24 l0_4 0).f3) _ _ ((rd_T24 l0_4 0).f4) t112 _ ?side1 ?side2 A75.out).mono ?_); (case side1 => repeat (first | exact (Kd.C_below HR111_4.out HB.out) | (with_reducible refine Kd.C_alloc ?_ _) | (with_reducible refine Kd.C_drewN ?_ _) | (with_reducible refine Kd.C_drew ?_))); (case side2 => exact HC111_4.out); rintro e w79 ⟨rfl, hb⟩; refine ⟨_, rfl, ?_⟩; replace BK106 := Aside0.mk (blk_below (g := gb106) (o := .cells #[.int .i64 a0_0, .int .i64 a0_1, .int .i64 a0_2, .int .i64 a0_3, .slice (some ad111) l0_4.length c0_4] 24 (0, 0)) bk_ hb); replace HB := Aside0.mk (below_step bl_ hb); (try clear hb); (try clear hb2); (try clear hk); (try clear hi); obtain ⟨hcz80_0, hcz80_1, hcz80_2, hcz80_3, hcz80_4, hfz80_0, hfz80_1, hfz80_2, hfz80_3, hfz80_4⟩ := cf5_ BK106.out; have p113 : 0 ≤ (0 : Int) := (by omega); have q113 : 0 < (l0_4.length : Int) := dt_; obtain ⟨ad113, A113_4, c113_4, e113, hx113_0, hx113_1, hx113_2, hx113_3, hx113_4, hl113_4, hi113_4⟩ := at_T24 HR0_4.out 0 p113 q113; obtain rfl : ad111 = ad113 := (by injection e113); have qi113 : (0 < l0_4.length) = True := eq_true (by omega); (try rw [show ((0 : Int)).toNat = 0 from rfl] at hx113_0); (try rw [show 0 * 5 = 0 from rfl] at hx113_0); (try rw [Addr.add_zero'] at hx113_0); (try rw [show ((0 : Int)).toNat = 0 from rfl] at hx113_1); (try rw [show 0 * 5 = 0 from rfl] at hx113_1); (try rw [Addr.add_zero'] at hx113_1); (try rw [show ((0 : Int)).toNat = 0 from rfl] at hx113_2); (try rw [show 0 * 5 = 0 from rfl] at hx113_2); (try rw [Addr.add_zero'] at hx113_2); (try rw [show ((0 : Int)).toNat = 0 from rfl] at hx113_3); (try rw [show 0 * 5 = 0 from rfl] at hx113_3); (try rw [Addr.add_zero'] at hx113_3); (try rw [show ((0 : Int)).toNat = 0 from rfl] at hx113_4); (try rw [show 0 * 5 = 0 from rfl] at hx113_4); (try rw [Addr.add_zero'] at hx113_4); replace hx113_0 := (HB.out.cell (World.block_lt_of_cell? w _ hx113_0)).trans hx113_0; replace hx113_1 := (HB.out.cell (World.block_lt_of_cell? w _ hx113_1)).trans hx113_1; replace hx113_2 := (HB.out.cell (World.block_lt_of_cell? w _ hx113_2)).trans hx113_2; replace hx113_3 := (HB.out.cell (World.block_lt_of_cell? w _ hx113_3)).trans hx113_3; replace hx113_4 := (HB.out.cell (World.block_lt_of_cell? w _ hx113_4)).trans hx113_4; have HR113_4 := Aside0.mk hi113_4; have HC113_4 := Aside0.mk hl113_4; clear hi113_4 hl113_4; replace p113 := eq_true p113; replace q113 := eq_true q113))
               go_ret
               exact ⟨re_, bl_⟩
              ·rw [if_neg c77] at H
               have c77b0 : (((rd_T24 l0_4 0).f0) == 1) = false := beq_eq_false_iff_ne.mpr c77
               have c77b1 : (((rd_T24 l0_4 0).f0) != 1) = true := bne_iff_ne.mpr c77
               by_cases c81 : ((rd_T24 l0_4 0).f0) = 2
               ·rw [if_pos c81] at H
                have c81b0 : (((rd_T24 l0_4 0).f0) == 2) = true := beq_iff_eq.mpr c81
                have c81b1 : (((rd_T24 l0_4 0).f0) != 2) = false := bne_eq_false_iff_eq.mpr c81
                clear c81
                obtain rfl := Option.some.inj H
                obtain ⟨hcz82_0, hcz82_1, hcz82_2, hcz82_3, hcz82_4, hfz82_0, hfz82_1, hfz82_2, hfz82_3, hfz82_4⟩ := cf5_ BK106.out
                have p111 : 0 ≤ (0 : Int) := (by omega)
                have q111 : 0 < (l0_4.length : Int) := dt_
                obtain ⟨ad111, A111_4, c111_4, e111, hx111_0, hx111_1, hx111_2, hx111_3, hx111_4, hl111_4, hi111_4⟩ := at_T24 HR0_4.out 0 p111 q111
                cases e111
                have qi111 : (0 < l0_4.length) = True := eq_true (by omega)
                (try rw [show ((0 : Int)).toNat = 0 from rfl] at hx111_0)
                (try rw [show 0 * 5 = 0 from rfl] at hx111_0)
                (try rw [Addr.add_zero'] at hx111_0)
                (try rw [show ((0 : Int)).toNat = 0 from rfl] at hx111_1)
                (try rw [show 0 * 5 = 0 from rfl] at hx111_1)
                (try rw [Addr.add_zero'] at hx111_1)
                (try rw [show ((0 : Int)).toNat = 0 from rfl] at hx111_2)
                (try rw [show 0 * 5 = 0 from rfl] at hx111_2)
                (try rw [Addr.add_zero'] at hx111_2)
                (try rw [show ((0 : Int)).toNat = 0 from rfl] at hx111_3)
                (try rw [show 0 * 5 = 0 from rfl] at hx111_3)
                (try rw [Addr.add_zero'] at hx111_3)
                (try rw [show ((0 : Int)).toNat = 0 from rfl] at hx111_4)
                (try rw [show 0 * 5 = 0 from rfl] at hx111_4)
                (try rw [Addr.add_zero'] at hx111_4)
                replace hx111_0 := (HB.out.cell (World.block_lt_of_cell? w _ hx111_0)).trans hx111_0
                replace hx111_1 := (HB.out.cell (World.block_lt_of_cell? w _ hx111_1)).trans hx111_1
                replace hx111_2 := (HB.out.cell (World.block_lt_of_cell? w _ hx111_2)).trans hx111_2
                replace hx111_3 := (HB.out.cell (World.block_lt_of_cell? w _ hx111_3)).trans hx111_3
                replace hx111_4 := (HB.out.cell (World.block_lt_of_cell? w _ hx111_4)).trans hx111_4
                have HR111_4 := Aside0.mk hi111_4
                have HC111_4 := Aside0.mk hl111_4
                clear hi111_4 hl111_4
                replace p111 := eq_true p111
                replace q111 := eq_true q111
                go_wp2_with (first | ((with_reducible refine gate_callee (f := 39) rfl ?_); refine goesL_ (some 88) rfl rfl Tryd.func39 (by kernel_rfl) rfl #[.agg #[.int .i64 ((rd_T24 l0_4 0).f0), .int .i64 ((rd_T24 l0_4 0).f1), .int .i64 ((rd_T24 l0_4 0).f2), .int .i64 ((rd_T24 l0_4 0).f3), .slice A111_4 ((rd_T24 l0_4 0).f4).length c111_4]] rfl (by (try simp only [List.map_toArray, List.map_cons, List.map_nil]); first | done | rfl | (simp only [List.length_drop, List.length_take]; rfl)) ?_; (with_reducible refine (ih kj64 (by have := HJ1.out; have := HJ64.out; omega) ((rd_T24 l0_4 0).f0) ((rd_T24 l0_4 0).f1) ((rd_T24 l0_4 0).f2) ((rd_T24 l0_4 0).f3) _ _ ((rd_T24 l0_4 0).f4) t112 _ ?side1 ?side2 A75.out).mono ?_); (case side1 => repeat (first | exact (Kd.C_below HR111_4.out HB.out) | (with_reducible refine Kd.C_alloc ?_ _) | (with_reducible refine Kd.C_drewN ?_ _) | (with_reducible refine Kd.C_drew ?_))); (case side2 => exact HC111_4.out); rintro e w83 ⟨rfl, hb⟩; refine ⟨_, rfl, ?_⟩; replace BK106 := Aside0.mk (blk_below (g := gb106) (o := .cells #[.int .i64 a0_0, .int .i64 a0_1, .int .i64 a0_2, .int .i64 a0_3, .slice (some ad111) l0_4.length c0_4] 24 (0, 0)) bk_ hb); replace HB := Aside0.mk (below_step bl_ hb); (try clear hb); (try clear hb2); (try clear hk); (try clear hi); obtain ⟨hcz84_0, hcz84_1, hcz84_2, hcz84_3, hcz84_4, hfz84_0, hfz84_1, hfz84_2, hfz84_3, hfz84_4⟩ := cf5_ BK106.out; have p113 : 0 ≤ (0 : Int) := (by omega); have q113 : 0 < (l0_4.length : Int) := dt_; obtain ⟨ad113, A113_4, c113_4, e113, hx113_0, hx113_1, hx113_2, hx113_3, hx113_4, hl113_4, hi113_4⟩ := at_T24 HR0_4.out 0 p113 q113; obtain rfl : ad111 = ad113 := (by injection e113); have qi113 : (0 < l0_4.length) = True := eq_true (by omega); (try rw [show ((0 : Int)).toNat = 0 from rfl] at hx113_0); (try rw [show 0 * 5 = 0 from rfl] at hx113_0); (try rw [Addr.add_zero'] at hx113_0); (try rw [show ((0 : Int)).toNat = 0 from rfl] at hx113_1); (try rw [show 0 * 5 = 0 from rfl] at hx113_1); (try rw [Addr.add_zero'] at hx113_1); (try rw [show ((0 : Int)).toNat = 0 from rfl] at hx113_2); (try rw [show 0 * 5 = 0 from rfl] at hx113_2); (try rw [Addr.add_zero'] at hx113_2); (try rw [show ((0 : Int)).toNat = 0 from rfl] at hx113_3); (try rw [show 0 * 5 = 0 from rfl] at hx113_3); (try rw [Addr.add_zero'] at hx113_3); (try rw [show ((0 : Int)).toNat = 0 from rfl] at hx113_4); (try rw [show 0 * 5 = 0 from rfl] at hx113_4); (try rw [Addr.add_zero'] at hx113_4); replace hx113_0 := (HB.out.cell (World.block_lt_of_cell? w _ hx113_0)).trans hx113_0; replace hx113_1 := (HB.out.cell (World.block_lt_of_cell? w _ hx113_1)).trans hx113_1; replace hx113_2 := (HB.out.cell (World.block_lt_of_cell? w _ hx113_2)).trans hx113_2; replace hx113_3 := (HB.out.cell (World.block_lt_of_cell? w _ hx113_3)).trans hx113_3; replace hx113_4 := (HB.out.cell (World.block_lt_of_cell? w _ hx113_4)).trans hx113_4; have HR113_4 := Aside0.mk hi113_4; have HC113_4 := Aside0.mk hl113_4; clear hi113_4 hl113_4; replace p113 := eq_true p113; replace q113 := eq_true q113))
                go_ret
                exact ⟨re_, bl_⟩
               ·rw [if_neg c81] at H
                have c81b0 : (((rd_T24 l0_4 0).f0) == 2) = false := beq_eq_false_iff_ne.mpr c81
                have c81b1 : (((rd_T24 l0_4 0).f0) != 2) = true := bne_iff_ne.mpr c81
                obtain rfl := Option.some.inj H
                obtain ⟨hcz85_0, hcz85_1, hcz85_2, hcz85_3, hcz85_4, hfz85_0, hfz85_1, hfz85_2, hfz85_3, hfz85_4⟩ := cf5_ BK106.out
                have p111 : 0 ≤ (0 : Int) := (by omega)
                have q111 : 0 < (l0_4.length : Int) := dt_
                obtain ⟨ad111, A111_4, c111_4, e111, hx111_0, hx111_1, hx111_2, hx111_3, hx111_4, hl111_4, hi111_4⟩ := at_T24 HR0_4.out 0 p111 q111
                cases e111
                have qi111 : (0 < l0_4.length) = True := eq_true (by omega)
                (try rw [show ((0 : Int)).toNat = 0 from rfl] at hx111_0)
                (try rw [show 0 * 5 = 0 from rfl] at hx111_0)
                (try rw [Addr.add_zero'] at hx111_0)
                (try rw [show ((0 : Int)).toNat = 0 from rfl] at hx111_1)
                (try rw [show 0 * 5 = 0 from rfl] at hx111_1)
                (try rw [Addr.add_zero'] at hx111_1)
                (try rw [show ((0 : Int)).toNat = 0 from rfl] at hx111_2)
                (try rw [show 0 * 5 = 0 from rfl] at hx111_2)
                (try rw [Addr.add_zero'] at hx111_2)
                (try rw [show ((0 : Int)).toNat = 0 from rfl] at hx111_3)
                (try rw [show 0 * 5 = 0 from rfl] at hx111_3)
                (try rw [Addr.add_zero'] at hx111_3)
                (try rw [show ((0 : Int)).toNat = 0 from rfl] at hx111_4)
                (try rw [show 0 * 5 = 0 from rfl] at hx111_4)
                (try rw [Addr.add_zero'] at hx111_4)
                replace hx111_0 := (HB.out.cell (World.block_lt_of_cell? w _ hx111_0)).trans hx111_0
                replace hx111_1 := (HB.out.cell (World.block_lt_of_cell? w _ hx111_1)).trans hx111_1
                replace hx111_2 := (HB.out.cell (World.block_lt_of_cell? w _ hx111_2)).trans hx111_2
                replace hx111_3 := (HB.out.cell (World.block_lt_of_cell? w _ hx111_3)).trans hx111_3
                replace hx111_4 := (HB.out.cell (World.block_lt_of_cell? w _ hx111_4)).trans hx111_4
                have HR111_4 := Aside0.mk hi111_4
                have HC111_4 := Aside0.mk hl111_4
                clear hi111_4 hl111_4
                replace p111 := eq_true p111
                replace q111 := eq_true q111
                go_wp2_with (first | ((with_reducible refine gate_callee (f := 39) rfl ?_); refine goesL_ (some 88) rfl rfl Tryd.func39 (by kernel_rfl) rfl #[.agg #[.int .i64 ((rd_T24 l0_4 0).f0), .int .i64 ((rd_T24 l0_4 0).f1), .int .i64 ((rd_T24 l0_4 0).f2), .int .i64 ((rd_T24 l0_4 0).f3), .slice A111_4 ((rd_T24 l0_4 0).f4).length c111_4]] rfl (by (try simp only [List.map_toArray, List.map_cons, List.map_nil]); first | done | rfl | (simp only [List.length_drop, List.length_take]; rfl)) ?_; (with_reducible refine (ih kj64 (by have := HJ1.out; have := HJ64.out; omega) ((rd_T24 l0_4 0).f0) ((rd_T24 l0_4 0).f1) ((rd_T24 l0_4 0).f2) ((rd_T24 l0_4 0).f3) _ _ ((rd_T24 l0_4 0).f4) t112 _ ?side1 ?side2 A75.out).mono ?_); (case side1 => repeat (first | exact (Kd.C_below HR111_4.out HB.out) | (with_reducible refine Kd.C_alloc ?_ _) | (with_reducible refine Kd.C_drewN ?_ _) | (with_reducible refine Kd.C_drew ?_))); (case side2 => exact HC111_4.out); rintro e w86 ⟨rfl, hb⟩; refine ⟨_, rfl, ?_⟩; replace BK106 := Aside0.mk (blk_below (g := gb106) (o := .cells #[.int .i64 a0_0, .int .i64 a0_1, .int .i64 a0_2, .int .i64 a0_3, .slice (some ad111) l0_4.length c0_4] 24 (0, 0)) bk_ hb); replace HB := Aside0.mk (below_step bl_ hb); (try clear hb); (try clear hb2); (try clear hk); (try clear hi); obtain ⟨hcz87_0, hcz87_1, hcz87_2, hcz87_3, hcz87_4, hfz87_0, hfz87_1, hfz87_2, hfz87_3, hfz87_4⟩ := cf5_ BK106.out; have p113 : 0 ≤ (0 : Int) := (by omega); have q113 : 0 < (l0_4.length : Int) := dt_; obtain ⟨ad113, A113_4, c113_4, e113, hx113_0, hx113_1, hx113_2, hx113_3, hx113_4, hl113_4, hi113_4⟩ := at_T24 HR0_4.out 0 p113 q113; obtain rfl : ad111 = ad113 := (by injection e113); have qi113 : (0 < l0_4.length) = True := eq_true (by omega); (try rw [show ((0 : Int)).toNat = 0 from rfl] at hx113_0); (try rw [show 0 * 5 = 0 from rfl] at hx113_0); (try rw [Addr.add_zero'] at hx113_0); (try rw [show ((0 : Int)).toNat = 0 from rfl] at hx113_1); (try rw [show 0 * 5 = 0 from rfl] at hx113_1); (try rw [Addr.add_zero'] at hx113_1); (try rw [show ((0 : Int)).toNat = 0 from rfl] at hx113_2); (try rw [show 0 * 5 = 0 from rfl] at hx113_2); (try rw [Addr.add_zero'] at hx113_2); (try rw [show ((0 : Int)).toNat = 0 from rfl] at hx113_3); (try rw [show 0 * 5 = 0 from rfl] at hx113_3); (try rw [Addr.add_zero'] at hx113_3); (try rw [show ((0 : Int)).toNat = 0 from rfl] at hx113_4); (try rw [show 0 * 5 = 0 from rfl] at hx113_4); (try rw [Addr.add_zero'] at hx113_4); replace hx113_0 := (HB.out.cell (World.block_lt_of_cell? w _ hx113_0)).trans hx113_0; replace hx113_1 := (HB.out.cell (World.block_lt_of_cell? w _ hx113_1)).trans hx113_1; replace hx113_2 := (HB.out.cell (World.block_lt_of_cell? w _ hx113_2)).trans hx113_2; replace hx113_3 := (HB.out.cell (World.block_lt_of_cell? w _ hx113_3)).trans hx113_3; replace hx113_4 := (HB.out.cell (World.block_lt_of_cell? w _ hx113_4)).trans hx113_4; have HR113_4 := Aside0.mk hi113_4; have HC113_4 := Aside0.mk hl113_4; clear hi113_4 hl113_4; replace p113 := eq_true p113; replace q113 := eq_true q113))
                go_ret
                exact ⟨re_, bl_⟩
             ·rw [if_neg c76] at H
              have c76b0 : (t112 == 0) = false := beq_eq_false_iff_ne.mpr c76
              have c76b1 : (t112 != 0) = true := bne_iff_ne.mpr c76
              obtain rfl := Option.some.inj H
              obtain ⟨hcz88_0, hcz88_1, hcz88_2, hcz88_3, hcz88_4, hfz88_0, hfz88_1, hfz88_2, hfz88_3, hfz88_4⟩ := cf5_ BK106.out
              have p111 : 0 ≤ (0 : Int) := (by omega)
              have q111 : 0 < (l0_4.length : Int) := dt_
              obtain ⟨ad111, A111_4, c111_4, e111, hx111_0, hx111_1, hx111_2, hx111_3, hx111_4, hl111_4, hi111_4⟩ := at_T24 HR0_4.out 0 p111 q111
              cases e111
              have qi111 : (0 < l0_4.length) = True := eq_true (by omega)
              (try rw [show ((0 : Int)).toNat = 0 from rfl] at hx111_0)
              (try rw [show 0 * 5 = 0 from rfl] at hx111_0)
              (try rw [Addr.add_zero'] at hx111_0)
              (try rw [show ((0 : Int)).toNat = 0 from rfl] at hx111_1)
              (try rw [show 0 * 5 = 0 from rfl] at hx111_1)
              (try rw [Addr.add_zero'] at hx111_1)
              (try rw [show ((0 : Int)).toNat = 0 from rfl] at hx111_2)
              (try rw [show 0 * 5 = 0 from rfl] at hx111_2)
              (try rw [Addr.add_zero'] at hx111_2)
              (try rw [show ((0 : Int)).toNat = 0 from rfl] at hx111_3)
              (try rw [show 0 * 5 = 0 from rfl] at hx111_3)
              (try rw [Addr.add_zero'] at hx111_3)
              (try rw [show ((0 : Int)).toNat = 0 from rfl] at hx111_4)
              (try rw [show 0 * 5 = 0 from rfl] at hx111_4)
              (try rw [Addr.add_zero'] at hx111_4)
              replace hx111_0 := (HB.out.cell (World.block_lt_of_cell? w _ hx111_0)).trans hx111_0
              replace hx111_1 := (HB.out.cell (World.block_lt_of_cell? w _ hx111_1)).trans hx111_1
              replace hx111_2 := (HB.out.cell (World.block_lt_of_cell? w _ hx111_2)).trans hx111_2
              replace hx111_3 := (HB.out.cell (World.block_lt_of_cell? w _ hx111_3)).trans hx111_3
              replace hx111_4 := (HB.out.cell (World.block_lt_of_cell? w _ hx111_4)).trans hx111_4
              have HR111_4 := Aside0.mk hi111_4
              have HC111_4 := Aside0.mk hl111_4
              clear hi111_4 hl111_4
              replace p111 := eq_true p111
              replace q111 := eq_true q111
              go_wp2_with (first | ((with_reducible refine gate_callee (f := 39) rfl ?_); refine goesL_ (some 88) rfl rfl Tryd.func39 (by kernel_rfl) rfl #[.agg #[.int .i64 ((rd_T24 l0_4 0).f0), .int .i64 ((rd_T24 l0_4 0).f1), .int .i64 ((rd_T24 l0_4 0).f2), .int .i64 ((rd_T24 l0_4 0).f3), .slice A111_4 ((rd_T24 l0_4 0).f4).length c111_4]] rfl (by (try simp only [List.map_toArray, List.map_cons, List.map_nil]); first | done | rfl | (simp only [List.length_drop, List.length_take]; rfl)) ?_; (with_reducible refine (ih kj64 (by have := HJ1.out; have := HJ64.out; omega) ((rd_T24 l0_4 0).f0) ((rd_T24 l0_4 0).f1) ((rd_T24 l0_4 0).f2) ((rd_T24 l0_4 0).f3) _ _ ((rd_T24 l0_4 0).f4) t112 _ ?side1 ?side2 A75.out).mono ?_); (case side1 => repeat (first | exact (Kd.C_below HR111_4.out HB.out) | (with_reducible refine Kd.C_alloc ?_ _) | (with_reducible refine Kd.C_drewN ?_ _) | (with_reducible refine Kd.C_drew ?_))); (case side2 => exact HC111_4.out); rintro e w89 ⟨rfl, hb⟩; refine ⟨_, rfl, ?_⟩; replace BK106 := Aside0.mk (blk_below (g := gb106) (o := .cells #[.int .i64 a0_0, .int .i64 a0_1, .int .i64 a0_2, .int .i64 a0_3, .slice (some ad111) l0_4.length c0_4] 24 (0, 0)) bk_ hb); replace HB := Aside0.mk (below_step bl_ hb); (try clear hb); (try clear hb2); (try clear hk); (try clear hi)))
              go_ret
              exact ⟨re_, bl_⟩
            ·rw [if_neg c74] at H
             exact absurd H (by simp)
           ·rw [if_neg c73] at H
            have c73b0 : ((l0_4.length : Int) == 1) = false := beq_eq_false_iff_ne.mpr c73
            have c73b1 : ((l0_4.length : Int) != 1) = true := bne_iff_ne.mpr c73
            obtain rfl := Option.some.inj H
            obtain ⟨hcz90_0, hcz90_1, hcz90_2, hcz90_3, hcz90_4, hfz90_0, hfz90_1, hfz90_2, hfz90_3, hfz90_4⟩ := cf5_ BK106.out
            go_wp2
            go_ret
            exact ⟨re_, bl_⟩
       ·rw [if_neg c64] at H
        have c64b0 : (a0_0 == 6) = false := beq_eq_false_iff_ne.mpr c64
        have c64b1 : (a0_0 != 6) = true := bne_iff_ne.mpr c64
        obtain rfl := Option.some.inj H
        obtain ⟨hcz91_0, hcz91_1, hcz91_2, hcz91_3, hcz91_4, hfz91_0, hfz91_1, hfz91_2, hfz91_3, hfz91_4⟩ := cf5_ BK106.out
        go_wp2_with (first | ((with_reducible refine gate_callee (f := 69) rfl ?_); refine goesL_ (some 17) rfl rfl Tryd.func69 (by kernel_rfl) rfl #[.agg #[.int .i64 a0_0, .int .i64 a0_1, .int .i64 a0_2, .int .i64 a0_3, .slice A0_4 l0_4.length c0_4]] rfl (by (try simp only [List.map_toArray, List.map_cons, List.map_nil]); first | done | rfl | (simp only [List.length_drop, List.length_take]; rfl)) ?_; (with_reducible refine (types_unused.calls a0_0 a0_1 a0_2 a0_3 _ _ l0_4 false _ ?side1 ?side2 A8.out).mono ?_); (case side1 => repeat (first | exact (Kd.C_below HR0_4.out HB.out) | (with_reducible refine Kd.C_alloc ?_ _) | (with_reducible refine Kd.C_drewN ?_ _) | (with_reducible refine Kd.C_drew ?_))); (case side2 => exact HC0_4.out); rintro e w92 ⟨rfl, hb⟩; refine ⟨_, rfl, ?_⟩; replace BK106 := Aside0.mk (blk_below (g := gb106) (o := .cells #[.int .i64 a0_0, .int .i64 a0_1, .int .i64 a0_2, .int .i64 a0_3, .slice A0_4 l0_4.length c0_4] 24 (0, 0)) bk_ hb); replace HB := Aside0.mk (below_step bl_ hb); (try clear hb); (try clear hb2); (try clear hk); (try clear hi); obtain ⟨hcz93_0, hcz93_1, hcz93_2, hcz93_3, hcz93_4, hfz93_0, hfz93_1, hfz93_2, hfz93_3, hfz93_4⟩ := cf5_ BK106.out))
        go_ret
        exact ⟨re_, bl_⟩

end Go.Proofs.YtggelekooacmnaaDoor.Q
namespace Go.Proofs.YtggelekooacmnaaDoor.Q
open Go.RowKit Go.Proofs.YtggelekooacmnaaDoorW.PrintWords Go.Proofs.YtggelekooacmnaaDoorW.PrintLast Go.Proofs.YtggelekooacmnaaDoorW.PrintMore
attribute [local go_sem] max2_int min2_int max_two min_two max_three min_three max_four min_four   -- for this text's walks alone
set_option linter.unusedVariables false
set_option linter.unusedSimpArgs false

/-! ### types_width: function 40 -/
mutual
def types_width.l0 : Nat → Int → List (S24) → Int → Int → Option (Int)
  | 0, _, _, _, _ => none
  | k + 1, x3, x11, x12, x13 => if x13 < x12 then (if 0 ≤ x13 then (if x13 < (x11.length : Int) then ((types_width.f k ((rd_T24 x11 x13).f0) ((rd_T24 x11 x13).f1) ((rd_T24 x11 x13).f2) ((rd_T24 x11 x13).f3) ((rd_T24 x11 x13).f4)).bind fun t117 => (types_width.l0 k (wrap64 (x3 + t117)) x11 x12 (wrap64 (x13 + 1)))) else (none)) else (none)) else (some x3)
def types_width.f : Nat → Int → Int → Int → Int → List (S24) → Option (Int)
  | 0, _, _, _, _, _ => none
  | k + 1, a0_0, a0_1, a0_2, a0_3, l0_4 => if a0_0 = 5 then (types_width.l0 k 0 l0_4 (l0_4.length : Int) 0) else (if a0_0 = 6 then (if 0 < (l0_4.length : Int) then ((types_width.f k ((rd_T24 l0_4 0).f0) ((rd_T24 l0_4 0).f1) ((rd_T24 l0_4 0).f2) ((rd_T24 l0_4 0).f3) ((rd_T24 l0_4 0).f4)).bind fun t119 => (some (wrap64 (1 + (wrap64 (a0_3 * t119)))))) else (none)) else (some 1))
end
theorem types_width.mono_l : ∀ k, (∀ y0 y1 y2 y3 y4, LeO (types_width.f k y0 y1 y2 y3 y4) (types_width.f (k + 1) y0 y1 y2 y3 y4)) ∧ (∀ y0 y1 y2 y3, LeO (types_width.l0 k y0 y1 y2 y3) (types_width.l0 (k + 1) y0 y1 y2 y3))
  | 0 => ⟨fun _ _ _ _ _ r h => by simp [types_width.f] at h, fun _ _ _ _ r h => by simp [types_width.l0] at h⟩
  | k + 1 => by
    obtain ⟨ih0, ih1⟩ := types_width.mono_l k
    refine ⟨?_, ?_⟩
    · intro y0 y1 y2 y3 y4
      unfold types_width.f
      repeat' first
      | (with_reducible exact ih0 _ _ _ _ _)
      | (with_reducible exact ih1 _ _ _ _)
      | (with_reducible exact LeO.refl _)
      | (with_reducible exact LeO.none _)
      | (with_reducible refine LeO.ite ?_ ?_)
      | (with_reducible refine LeO.bind ?_ (fun _ => ?_))
      | exact ih0 _ _ _ _ _
      | exact ih1 _ _ _ _
      | exact LeO.none _
      | refine LeO.ite ?_ ?_
      | refine LeO.bind ?_ (fun _ => ?_)
    · intro y0 y1 y2 y3
      unfold types_width.l0
      repeat' first
      | (with_reducible exact ih0 _ _ _ _ _)
      | (with_reducible exact ih1 _ _ _ _)
      | (with_reducible exact LeO.refl _)
      | (with_reducible exact LeO.none _)
      | (with_reducible refine LeO.ite ?_ ?_)
      | (with_reducible refine LeO.bind ?_ (fun _ => ?_))
      | exact ih0 _ _ _ _ _
      | exact ih1 _ _ _ _
      | exact LeO.none _
      | refine LeO.ite ?_ ?_
      | refine LeO.bind ?_ (fun _ => ?_)
theorem types_width.mono : ∀ a0 a1 a2 a3 a4 k, LeO (types_width.f k a0 a1 a2 a3 a4) (types_width.f (k + 1) a0 a1 a2 a3 a4) := by
  intro a0 a1 a2 a3 a4 k
  obtain ⟨ih0, ih1⟩ := types_width.mono_l k
  exact ih0 a0 a1 a2 a3 a4
def types_width.T11 : Bool × List (List Nat × List Nat) := (true, [([], []), ([0], [0]), ([], []), ([2], [2]), ([3], [3]), ([4], [4]), ([5], [5]), ([1, 6], [1, 6]), ([7], [7]), ([8, 6, 0, 1, 2, 3, 4, 5, 6, 7, 8], [8])])
def types_width.B11 : List Nat := [0, 1, 0, 4, 12, 28, 60, 127, 255, 511]
theorem types_width.tab11 : rtab .any (opsOf Tryd.f40 11) = types_width.T11 := by kernel_rfl
theorem types_width.bits11 : waitsOk types_width.T11.2 types_width.B11 = true := by kernel_rfl
set_option maxHeartbeats 8000000 in
set_option maxRecDepth 100000 in
theorem types_width.calls (k : Nat) : ∀ (a0_0 : Int) (a0_1 : Int) (a0_2 : Int) (a0_3 : Int) (A0_4 : Option Addr) (c0_4 : Nat) (l0_4 : List (S24)) (r : Int) (w : World) (hr0_4 : Kd.C k24 w A0_4 l0_4.length l0_4) (hc0_4 : l0_4.length ≤ c0_4) (h : types_width.f k a0_0 a0_1 a0_2 a0_3 l0_4 = some r),
    Calls Tryd.prog 40 #[.agg #[.int .i64 a0_0, .int .i64 a0_1, .int .i64 a0_2, .int .i64 a0_3, .slice A0_4 l0_4.length c0_4]] w fun e w' => e = .returned (.int .i64 r) ∧ Below w.heap.size w w' := by
  induction k using Nat.strongRecOn with
  | _ k ih =>
  intro a0_0 a0_1 a0_2 a0_3 A0_4 c0_4 l0_4 r w hr0_4 hc0_4 h
  cases k with
  | zero => exact absurd h (by simp [types_width.f])
  | succ k =>
  simp only [types_width.f] at h
  have hu24 := Tryd.underlying24
  have HR0_4 := Aside0.mk hr0_4
  have HC0_4 := Aside0.mk hc0_4
  clear hr0_4 hc0_4
  have HB := Aside0.mk (Below.refl w.heap.size w)
  have H : (if a0_0 = 5 then (types_width.l0 k 0 l0_4 (l0_4.length : Int) 0) else (if a0_0 = 6 then (if 0 < (l0_4.length : Int) then ((types_width.f k ((rd_T24 l0_4 0).f0) ((rd_T24 l0_4 0).f1) ((rd_T24 l0_4 0).f2) ((rd_T24 l0_4 0).f3) ((rd_T24 l0_4 0).f4)).bind fun t119 => (some (wrap64 (1 + (wrap64 (a0_3 * t119)))))) else (none)) else (some 1))) = some r := h
  clear h
  by_cases c2 : a0_0 = 5
  · rw [if_pos c2] at H
    have c2b0 : (a0_0 == 5) = true := beq_iff_eq.mpr c2
    have c2b1 : (a0_0 != 5) = false := bne_eq_false_iff_eq.mpr c2
    clear c2
    have H' := Aside0.mk H
    clear H
    go_enter Tryd.func40, Tryd.ntmps40
    go_wp2_with (first | ((with_reducible refine gate_dst (N := 1) rfl ?_); refine box_event ?hg (N := 1) ?hd (cs := #[.int .i64 a0_0, .int .i64 a0_1, .int .i64 a0_2, .int .i64 a0_3, .slice A0_4 l0_4.length c0_4]) (t := 24) ?hr ?_; (case hd => rfl); (case hg => rfl); (case hr => first | (go_simp; done) | (go_simp; rfl)); intro gb114 hg w3 hbox hb; have n0_ := Aside0.mk (below_step (by repeat (first | (with_reducible first | exact HB.out | apply below_alloc | apply pw_below_drewN | apply below_drew1) | exact HB.out)) hb); have n1_ := Aside0.mk (hbox); have n2_ := Aside0.mk ((by rw [hg]; exact (below_size (by repeat (first | (with_reducible first | exact HB.out | apply below_alloc | apply pw_below_drewN | apply below_drew1) | exact HB.out))) : w.heap.size ≤ gb114)); have n3_ := Aside0.mk ((by rw [hg]; exact (below_size (by repeat (first | (with_reducible first | exact HB.out | apply below_alloc | apply pw_below_drewN | apply below_drew1) | exact HB.out))) : w.heap.size ≤ gb114)); clear HB; have HB := n0_; have BK114 := n1_; have GW114 := n2_; have GE114 := n3_; clear n0_ n1_ n2_ n3_; clear hb hbox hg; have hcz4_0 : w3.cell? ⟨gb114, 0, none⟩ = some (.int .i64 a0_0) := (blk_cell BK114.out 0).trans rfl; have hcz4_1 : w3.cell? ⟨gb114, 1, none⟩ = some (.int .i64 a0_1) := (blk_cell BK114.out 1).trans rfl; have hcz4_2 : w3.cell? ⟨gb114, 2, none⟩ = some (.int .i64 a0_2) := (blk_cell BK114.out 2).trans rfl; have hcz4_3 : w3.cell? ⟨gb114, 3, none⟩ = some (.int .i64 a0_3) := (blk_cell BK114.out 3).trans rfl; have hcz4_4 : w3.cell? ⟨gb114, 4, none⟩ = some (.slice A0_4 l0_4.length c0_4) := (blk_cell BK114.out 4).trans rfl; have hfz4_0 := blk_frozen BK114.out 0; have hfz4_1 := blk_frozen BK114.out 1; have hfz4_2 := blk_frozen BK114.out 2; have hfz4_3 := blk_frozen BK114.out 3; have hfz4_4 := blk_frozen BK114.out 4))
    go_loopg [3, 13] k (fun kq v3 v13 w' => ∃ (x3_1 : Int) (x13_1 : Int), v3 = .int .i64 x3_1 ∧ v13 = .int .i64 x13_1 ∧ Aside0 (types_width.l0 kq x3_1 l0_4 (l0_4.length : Int) x13_1 = some r) ∧ Aside0 (kq ≤ k) ∧ Aside0 (w'.heap[gb114]? = some (.cells #[.int .i64 a0_0, .int .i64 a0_1, .int .i64 a0_2, .int .i64 a0_3, (.slice A0_4 l0_4.length c0_4)] 24 (0, 0))) ∧ Aside0 (Below w.heap.size w w'))
    case atStart => exact ⟨(0), (0), (by first | rfl | (simp; done) | (simp [*]; done)), (by first | rfl | (simp; done) | (simp [*]; done)), H', ⟨Nat.le_refl _⟩, ⟨by (with_reducible repeat (first | refine blk_drewN ?_ _ | refine blk_drew ?_ | refine blk_alloc ?_ _)); exact BK114.out⟩, ⟨by repeat (first | (with_reducible first | exact HB.out | apply below_alloc | apply pw_below_drewN | apply below_drew1 | refine below_set ?_ GE114.out) | exact HB.out)⟩⟩
    case round =>
      clear H'
      try clear c2
      try clear c2b0
      try clear c2b1
      try clear p2
      try clear c4
      try clear hcz4_0
      try clear hcz4_1
      try clear hcz4_2
      try clear hcz4_3
      try clear hcz4_4
      try clear hfz4_0
      try clear hfz4_1
      try clear hfz4_2
      try clear hfz4_3
      try clear hfz4_4
      obtain ⟨x3_1, x13_1, rfl, rfl, HA, HK1, BK114, HB⟩ := hrel
      cases gk with
      | zero => exact absurd HA.out (by simp [types_width.l0])
      | succ k1 =>
        have H := HA.out
        clear HA
        simp only [types_width.l0] at H
        by_cases c5 : x13_1 < (l0_4.length : Int)
        · rw [if_pos c5] at H
          have c5b0 : decide (x13_1 < (l0_4.length : Int)) = true := decide_eq_true c5
          clear c5
          by_cases c6 : 0 ≤ x13_1
          · rw [if_pos c6] at H
            have c6b0 : decide (0 ≤ x13_1) = true := decide_eq_true c6
            clear c6
            by_cases c7 : x13_1 < (l0_4.length : Int)
            · rw [if_pos c7] at H
              have c7b0 : decide (x13_1 < (l0_4.length : Int)) = true := decide_eq_true c7
              clear c7
              replace H := Option.bind_eq_some_iff.mp H
              obtain ⟨t117, A80, H⟩ := H
              replace H : (types_width.l0 k1 (wrap64 (x3_1 + t117)) l0_4 (l0_4.length : Int) (wrap64 (x13_1 + 1))) = some r := H
              have A8 := Aside0.mk A80
              clear A80
              have H' := Aside0.mk H
              clear H
              have p115 : 0 ≤ (x13_1 : Int) := of_decide_eq_true (by first | (with_reducible assumption) | assumption)
              have q115 : x13_1 < (l0_4.length : Int) := of_decide_eq_true (by first | (with_reducible assumption) | assumption)
              obtain ⟨ad115, A115_4, c115_4, e115, hx115_0, hx115_1, hx115_2, hx115_3, hx115_4, hl115_4, hi115_4⟩ := at_T24 HR0_4.out x13_1 p115 q115
              cases e115
              replace hx115_0 := (HB.out.cell (World.block_lt_of_cell? w _ hx115_0)).trans hx115_0
              replace hx115_1 := (HB.out.cell (World.block_lt_of_cell? w _ hx115_1)).trans hx115_1
              replace hx115_2 := (HB.out.cell (World.block_lt_of_cell? w _ hx115_2)).trans hx115_2
              replace hx115_3 := (HB.out.cell (World.block_lt_of_cell? w _ hx115_3)).trans hx115_3
              replace hx115_4 := (HB.out.cell (World.block_lt_of_cell? w _ hx115_4)).trans hx115_4
              have HR115_4 := Aside0.mk hi115_4
              have HC115_4 := Aside0.mk hl115_4
              clear hi115_4 hl115_4
              replace p115 := eq_true p115
              replace q115 := eq_true q115
              go_wp2_with (first | ((with_reducible refine gate_dst (N := 5) rfl ?_); refine box_event ?hg (N := 5) ?hd (cs := #[.int .i64 0, .int .i64 0, .int .i64 0, .int .i64 0, .slice none 0 0]) (t := 24) ?hr ?_; (case hd => rfl); (case hg => rfl); (case hr => first | (go_simp; done) | (go_simp; rfl)); intro gb116 hg w9 hbox hb; have n0_ := Aside0.mk (blk_below (g := gb114) (o := .cells #[.int .i64 a0_0, .int .i64 a0_1, .int .i64 a0_2, .int .i64 a0_3, .slice (some ad115) l0_4.length c0_4] 24 (0, 0)) (by (with_reducible repeat (first | refine blk_drewN ?_ _ | refine blk_drew ?_ | refine blk_alloc ?_ _)); exact BK114.out) hb); have n1_ := Aside0.mk (below_step (by repeat (first | (with_reducible first | exact HB.out | apply below_alloc | apply pw_below_drewN | apply below_drew1 | refine below_set ?_ GE114.out) | exact HB.out)) hb); have n2_ := Aside0.mk (hbox); have n3_ := Aside0.mk ((by rw [hg]; exact (below_size (by repeat (first | (with_reducible first | exact HB.out | apply below_alloc | apply pw_below_drewN | apply below_drew1 | refine below_set ?_ GE114.out) | exact HB.out))) : w.heap.size ≤ gb116)); have n4_ := Aside0.mk ((by rw [hg]; exact (below_size (by repeat (first | (with_reducible first | exact HB.out | apply below_alloc | apply pw_below_drewN | apply below_drew1 | refine below_set ?_ GE114.out) | exact HB.out))) : w.heap.size ≤ gb116)); have n5_ := Aside0.mk ((by rw [hg]; exact Nat.ne_of_lt (blk_lt (g := gb114) (o := .cells #[.int .i64 a0_0, .int .i64 a0_1, .int .i64 a0_2, .int .i64 a0_3, .slice (some ad115) l0_4.length c0_4] 24 (0, 0)) (by (with_reducible repeat (first | refine blk_drewN ?_ _ | refine blk_drew ?_ | refine blk_alloc ?_ _)); exact BK114.out)) : gb114 ≠ gb116)); have n6_ := Aside0.mk ((by rw [hg]; exact Nat.ne_of_gt (blk_lt (g := gb114) (o := .cells #[.int .i64 a0_0, .int .i64 a0_1, .int .i64 a0_2, .int .i64 a0_3, .slice (some ad115) l0_4.length c0_4] 24 (0, 0)) (by (with_reducible repeat (first | refine blk_drewN ?_ _ | refine blk_drew ?_ | refine blk_alloc ?_ _)); exact BK114.out)) : gb116 ≠ gb114)); clear BK114; clear HB; have BK114 := n0_; have HB := n1_; have BK116 := n2_; have GW116 := n3_; have GE116 := n4_; have NB114_116 := n5_; have NB116_114 := n6_; clear n0_ n1_ n2_ n3_ n4_ n5_ n6_; clear hb hbox hg; have hnb10 := NB116_114.out; have hnc10 := NB114_116.out; have hcz11_0 : w9.cell? ⟨gb116, 0, none⟩ = some (.int .i64 0) := (blk_cell BK116.out 0).trans rfl; have hcz11_1 : w9.cell? ⟨gb116, 1, none⟩ = some (.int .i64 0) := (blk_cell BK116.out 1).trans rfl; have hcz11_2 : w9.cell? ⟨gb116, 2, none⟩ = some (.int .i64 0) := (blk_cell BK116.out 2).trans rfl; have hcz11_3 : w9.cell? ⟨gb116, 3, none⟩ = some (.int .i64 0) := (blk_cell BK116.out 3).trans rfl; have hcz11_4 : w9.cell? ⟨gb116, 4, none⟩ = some (.slice none 0 0) := (blk_cell BK116.out 4).trans rfl; have hfz11_0 := blk_frozen BK116.out 0; have hfz11_1 := blk_frozen BK116.out 1; have hfz11_2 := blk_frozen BK116.out 2; have hfz11_3 := blk_frozen BK116.out 3; have hfz11_4 := blk_frozen BK116.out 4) | ((with_reducible refine gate_callee (f := 40) rfl ?_); refine goesL_ (some 19) rfl rfl Tryd.func40 (by kernel_rfl) rfl #[.agg #[.int .i64 ((rd_T24 l0_4 x13_1).f0), .int .i64 ((rd_T24 l0_4 x13_1).f1), .int .i64 ((rd_T24 l0_4 x13_1).f2), .int .i64 ((rd_T24 l0_4 x13_1).f3), .slice A115_4 ((rd_T24 l0_4 x13_1).f4).length c115_4]] rfl (by (try simp only [List.map_toArray, List.map_cons, List.map_nil]); first | done | rfl | (simp only [List.length_drop, List.length_take]; rfl)) ?_; (with_reducible refine (ih k1 (by have := HK1.out; omega) ((rd_T24 l0_4 x13_1).f0) ((rd_T24 l0_4 x13_1).f1) ((rd_T24 l0_4 x13_1).f2) ((rd_T24 l0_4 x13_1).f3) _ _ ((rd_T24 l0_4 x13_1).f4) t117 _ ?side1 ?side2 A8.out).mono ?_); (case side1 => exact Kd.C_below HR115_4.out (by repeat (first | (with_reducible first | exact HB.out | apply below_alloc | apply pw_below_drewN | apply below_drew1 | refine below_set ?_ GE114.out | refine below_set ?_ GE116.out) | exact HB.out))); (case side2 => exact HC115_4.out); rintro e w12 ⟨rfl, hb⟩; refine ⟨_, rfl, ?_⟩; have n0_ := Aside0.mk (blk_below (g := gb114) (o := .cells #[.int .i64 a0_0, .int .i64 a0_1, .int .i64 a0_2, .int .i64 a0_3, .slice (some ad115) l0_4.length c0_4] 24 (0, 0)) (by (with_reducible repeat (first | refine blk_drewN ?_ _ | refine blk_drew ?_ | refine blk_alloc ?_ _)); refine blk_far ?_ NB114_116.out _; (with_reducible repeat (first | refine blk_drewN ?_ _ | refine blk_drew ?_ | refine blk_alloc ?_ _)); refine blk_far ?_ NB114_116.out _; (with_reducible repeat (first | refine blk_drewN ?_ _ | refine blk_drew ?_ | refine blk_alloc ?_ _)); refine blk_far ?_ NB114_116.out _; (with_reducible repeat (first | refine blk_drewN ?_ _ | refine blk_drew ?_ | refine blk_alloc ?_ _)); refine blk_far ?_ NB114_116.out _; (with_reducible repeat (first | refine blk_drewN ?_ _ | refine blk_drew ?_ | refine blk_alloc ?_ _)); refine blk_far ?_ NB114_116.out _; (with_reducible repeat (first | refine blk_drewN ?_ _ | refine blk_drew ?_ | refine blk_alloc ?_ _)); exact BK114.out) hb); have n1_ := Aside0.mk (blk_below (g := gb116) (o := .cells #[.int .i64 ((rd_T24 l0_4 x13_1).f0), .int .i64 ((rd_T24 l0_4 x13_1).f1), .int .i64 ((rd_T24 l0_4 x13_1).f2), .int .i64 ((rd_T24 l0_4 x13_1).f3), .slice A115_4 ((rd_T24 l0_4 x13_1).f4).length c115_4] 24 (0, 0)) (by (with_reducible repeat (first | refine blk_drewN ?_ _ | refine blk_drew ?_ | refine blk_alloc ?_ _)); refine blk_put (cs := #[.int .i64 ((rd_T24 l0_4 x13_1).f0), .int .i64 ((rd_T24 l0_4 x13_1).f1), .int .i64 ((rd_T24 l0_4 x13_1).f2), .int .i64 ((rd_T24 l0_4 x13_1).f3), .slice none 0 0]) ?_ 4 _ rfl; (with_reducible repeat (first | refine blk_drewN ?_ _ | refine blk_drew ?_ | refine blk_alloc ?_ _)); refine blk_put (cs := #[.int .i64 ((rd_T24 l0_4 x13_1).f0), .int .i64 ((rd_T24 l0_4 x13_1).f1), .int .i64 ((rd_T24 l0_4 x13_1).f2), .int .i64 0, .slice none 0 0]) ?_ 3 _ rfl; (with_reducible repeat (first | refine blk_drewN ?_ _ | refine blk_drew ?_ | refine blk_alloc ?_ _)); refine blk_put (cs := #[.int .i64 ((rd_T24 l0_4 x13_1).f0), .int .i64 ((rd_T24 l0_4 x13_1).f1), .int .i64 0, .int .i64 0, .slice none 0 0]) ?_ 2 _ rfl; (with_reducible repeat (first | refine blk_drewN ?_ _ | refine blk_drew ?_ | refine blk_alloc ?_ _)); refine blk_put (cs := #[.int .i64 ((rd_T24 l0_4 x13_1).f0), .int .i64 0, .int .i64 0, .int .i64 0, .slice none 0 0]) ?_ 1 _ rfl; (with_reducible repeat (first | refine blk_drewN ?_ _ | refine blk_drew ?_ | refine blk_alloc ?_ _)); refine blk_put (cs := #[.int .i64 0, .int .i64 0, .int .i64 0, .int .i64 0, .slice none 0 0]) ?_ 0 _ rfl; (with_reducible repeat (first | refine blk_drewN ?_ _ | refine blk_drew ?_ | refine blk_alloc ?_ _)); exact BK116.out) hb); have n2_ := Aside0.mk (below_step (by repeat (first | (with_reducible first | exact HB.out | apply below_alloc | apply pw_below_drewN | apply below_drew1 | refine below_set ?_ GE114.out | refine below_set ?_ GE116.out) | exact HB.out)) hb); clear BK114; clear BK116; clear HB; have BK114 := n0_; have BK116 := n1_; have HB := n2_; clear n0_ n1_ n2_; (try clear hb); (try clear hb2); (try clear hk); (try clear hi)))
              go_roundg k1
              case measure => have := HK1.out; omega
              case rel => exact ⟨(wrap64 (x3_1 + t117)), (wrap64 (x13_1 + 1)), (by first | rfl | (simp; done) | (simp [*]; done)), (by first | rfl | (simp; done) | (simp [*]; done)), H', ⟨by have := HK1.out; omega⟩, ⟨by (with_reducible repeat (first | refine blk_drewN ?_ _ | refine blk_drew ?_ | refine blk_alloc ?_ _)); exact BK114.out⟩, ⟨by repeat (first | (with_reducible first | exact HB.out | apply below_alloc | apply pw_below_drewN | apply below_drew1 | refine below_set ?_ GE114.out | refine below_set ?_ GE116.out) | exact HB.out)⟩⟩
            · rw [if_neg c7] at H
              exact absurd H (by simp)
          · rw [if_neg c6] at H
            exact absurd H (by simp)
        · rw [if_neg c5] at H
          have c5b0 : decide (x13_1 < (l0_4.length : Int)) = false := decide_eq_false c5
          clear c5
          obtain rfl := Option.some.inj H
          go_wp2
          go_ret
          exact ⟨by first | rfl | (simp [errW_none, errW_some] <;> rfl) | (simp [*, errW_none, errW_some] <;> rfl), by repeat (first | (with_reducible first | exact HB.out | apply below_alloc | apply pw_below_drewN | apply below_drew1 | refine below_set ?_ GE114.out) | exact HB.out)⟩
  · rw [if_neg c2] at H
    have c2b0 : (a0_0 == 5) = false := beq_eq_false_iff_ne.mpr c2
    have c2b1 : (a0_0 != 5) = true := bne_iff_ne.mpr c2
    by_cases c13 : a0_0 = 6
    · rw [if_pos c13] at H
      have c13b0 : (a0_0 == 6) = true := beq_iff_eq.mpr c13
      have c13b1 : (a0_0 != 6) = false := bne_eq_false_iff_eq.mpr c13
      clear c13
      by_cases c14 : 0 < (l0_4.length : Int)
      · rw [if_pos c14] at H
        have c14b0 : decide (0 < (l0_4.length : Int)) = true := decide_eq_true c14
        have c14b1 : decide (0 < l0_4.length) = true := decide_eq_true (by omega)
        clear c14
        replace H := Option.bind_eq_some_iff.mp H
        obtain ⟨t119, A150, H⟩ := H
        replace H : (some (wrap64 (1 + (wrap64 (a0_3 * t119))))) = some r := H
        have A15 := Aside0.mk A150
        clear A150
        obtain rfl := Option.some.inj H
        go_enter Tryd.func40, Tryd.ntmps40
        try go_wp2_with (first | ((with_reducible refine gate_dst (N := 1) rfl ?_); refine box_event ?hg (N := 1) ?hd (cs := #[.int .i64 a0_0, .int .i64 a0_1, .int .i64 a0_2, .int .i64 a0_3, .slice A0_4 l0_4.length c0_4]) (t := 24) ?hr ?_; (case hd => rfl); (case hg => rfl); (case hr => first | (go_simp; done) | (go_simp; rfl)); intro gb114 hg w16 hbox hb; have n0_ := Aside0.mk (below_step (by repeat (first | (with_reducible first | exact HB.out | apply below_alloc | apply pw_below_drewN | apply below_drew1) | exact HB.out)) hb); have n1_ := Aside0.mk (hbox); have n2_ := Aside0.mk ((by rw [hg]; exact (below_size (by repeat (first | (with_reducible first | exact HB.out | apply below_alloc | apply pw_below_drewN | apply below_drew1) | exact HB.out))) : w.heap.size ≤ gb114)); have n3_ := Aside0.mk ((by rw [hg]; exact (below_size (by repeat (first | (with_reducible first | exact HB.out | apply below_alloc | apply pw_below_drewN | apply below_drew1) | exact HB.out))) : w.heap.size ≤ gb114)); clear HB; have HB := n0_; have BK114 := n1_; have GW114 := n2_; have GE114 := n3_; clear n0_ n1_ n2_ n3_; clear hb hbox hg; have hcz17_0 : w16.cell? ⟨gb114, 0, none⟩ = some (.int .i64 a0_0) := (blk_cell BK114.out 0).trans rfl; have hcz17_1 : w16.cell? ⟨gb114, 1, none⟩ = some (.int .i64 a0_1) := (blk_cell BK114.out 1).trans rfl; have hcz17_2 : w16.cell? ⟨gb114, 2, none⟩ = some (.int .i64 a0_2) := (blk_cell BK114.out 2).trans rfl; have hcz17_3 : w16.cell? ⟨gb114, 3, none⟩ = some (.int .i64 a0_3) := (blk_cell BK114.out 3).trans rfl; have hcz17_4 : w16.cell? ⟨gb114, 4, none⟩ = some (.slice A0_4 l0_4.length c0_4) := (blk_cell BK114.out 4).trans rfl; have hfz17_0 := blk_frozen BK114.out 0; have hfz17_1 := blk_frozen BK114.out 1; have hfz17_2 := blk_frozen BK114.out 2; have hfz17_3 := blk_frozen BK114.out 3; have hfz17_4 := blk_frozen BK114.out 4))
        have n0_ := Aside0.mk (blk_drew BK114.out)
        have n1_ := Aside0.mk (below_drew1 HB.out)
        clear BK114
        clear HB
        have BK114 := n0_
        have HB := n1_
        clear n0_ n1_
        have p118 : 0 ≤ (0 : Int) := (by omega)
        have q118 : 0 < (l0_4.length : Int) := of_decide_eq_true (by first | (with_reducible assumption) | assumption)
        obtain ⟨ad118, A118_4, c118_4, e118, hx118_0, hx118_1, hx118_2, hx118_3, hx118_4, hl118_4, hi118_4⟩ := at_T24 HR0_4.out 0 p118 q118
        have hw118_4 := hx118_4
        (try rw [show ((0 : Int)).toNat = 0 from rfl] at hw118_4)
        (try rw [show 0 * 5 = 0 from rfl] at hw118_4)
        (try rw [Addr.add_zero'] at hw118_4)
        have hw118_3 := hx118_3
        (try rw [show ((0 : Int)).toNat = 0 from rfl] at hw118_3)
        (try rw [show 0 * 5 = 0 from rfl] at hw118_3)
        (try rw [Addr.add_zero'] at hw118_3)
        have hw118_2 := hx118_2
        (try rw [show ((0 : Int)).toNat = 0 from rfl] at hw118_2)
        (try rw [show 0 * 5 = 0 from rfl] at hw118_2)
        (try rw [Addr.add_zero'] at hw118_2)
        have hw118_1 := hx118_1
        (try rw [show ((0 : Int)).toNat = 0 from rfl] at hw118_1)
        (try rw [show 0 * 5 = 0 from rfl] at hw118_1)
        (try rw [Addr.add_zero'] at hw118_1)
        have hw118_0 := hx118_0
        (try rw [show ((0 : Int)).toNat = 0 from rfl] at hw118_0)
        (try rw [show 0 * 5 = 0 from rfl] at hw118_0)
        (try rw [Addr.add_zero'] at hw118_0)
        cases e118
        have qi118 : (0 < l0_4.length) = True := eq_true (by omega)
        (try rw [show ((0 : Int)).toNat = 0 from rfl] at hx118_0)
        (try rw [show 0 * 5 = 0 from rfl] at hx118_0)
        (try rw [Addr.add_zero'] at hx118_0)
        (try rw [show ((0 : Int)).toNat = 0 from rfl] at hx118_1)
        (try rw [show 0 * 5 = 0 from rfl] at hx118_1)
        (try rw [Addr.add_zero'] at hx118_1)
        (try rw [show ((0 : Int)).toNat = 0 from rfl] at hx118_2)
        (try rw [show 0 * 5 = 0 from rfl] at hx118_2)
        (try rw [Addr.add_zero'] at hx118_2)
        (try rw [show ((0 : Int)).toNat = 0 from rfl] at hx118_3)
        (try rw [show 0 * 5 = 0 from rfl] at hx118_3)
        (try rw [Addr.add_zero'] at hx118_3)
        (try rw [show ((0 : Int)).toNat = 0 from rfl] at hx118_4)
        (try rw [show 0 * 5 = 0 from rfl] at hx118_4)
        (try rw [Addr.add_zero'] at hx118_4)
        replace hx118_0 := (HB.out.cell (World.block_lt_of_cell? w _ hx118_0)).trans hx118_0
        replace hx118_1 := (HB.out.cell (World.block_lt_of_cell? w _ hx118_1)).trans hx118_1
        replace hx118_2 := (HB.out.cell (World.block_lt_of_cell? w _ hx118_2)).trans hx118_2
        replace hx118_3 := (HB.out.cell (World.block_lt_of_cell? w _ hx118_3)).trans hx118_3
        replace hx118_4 := (HB.out.cell (World.block_lt_of_cell? w _ hx118_4)).trans hx118_4
        have HR118_4 := Aside0.mk hi118_4
        have HC118_4 := Aside0.mk hl118_4
        clear hi118_4 hl118_4
        replace p118 := eq_true p118
        replace q118 := eq_true q118
        refine start_ (n := 10) (S := fun w' => w'.cell? ⟨gb114, 0, none⟩ = some (.int .i64 a0_0) ∧ w'.cell? ⟨gb114, 1, none⟩ = some (.int .i64 a0_1) ∧ w'.cell? ⟨gb114, 2, none⟩ = some (.int .i64 a0_2) ∧ w'.cell? ⟨gb114, 3, none⟩ = some (.int .i64 a0_3) ∧ w'.cell? ⟨gb114, 4, none⟩ = some (.slice (some ad118) l0_4.length c0_4) ∧ w'.cell? ad118 = some (.int .i64 ((rd_T24 l0_4 0).f0)) ∧ w'.cell? ⟨ad118.block, ad118.off + 1, none⟩ = some (.int .i64 ((rd_T24 l0_4 0).f1)) ∧ w'.cell? ⟨ad118.block, ad118.off + 2, none⟩ = some (.int .i64 ((rd_T24 l0_4 0).f2)) ∧ w'.cell? ⟨ad118.block, ad118.off + 3, none⟩ = some (.int .i64 ((rd_T24 l0_4 0).f3)) ∧ w'.cell? ⟨ad118.block, ad118.off + 4, none⟩ = some (.slice A118_4 ((rd_T24 l0_4 0).f4).length c118_4)) (ds := []) #[false, false, false, false, false, false, false, false, false, false] (by kernel_rfl) rfl rfl ⟨(blk_cell BK114.out 0).trans rfl, (blk_cell BK114.out 1).trans rfl, (blk_cell BK114.out 2).trans rfl, (blk_cell BK114.out 3).trans rfl, (blk_cell BK114.out 4).trans rfl, ((HB.out.cell (World.block_lt_of_cell? w _ hw118_0)).trans hw118_0), ((HB.out.cell (World.block_lt_of_cell? w _ hw118_1)).trans hw118_1), ((HB.out.cell (World.block_lt_of_cell? w _ hw118_2)).trans hw118_2), ((HB.out.cell (World.block_lt_of_cell? w _ hw118_3)).trans hw118_3), ((HB.out.cell (World.block_lt_of_cell? w _ hw118_4)).trans hw118_4)⟩ (fun hHeld => ?_); refine with_tabW types_width.tab11 types_width.bits11 (fun HT_ HW_ => ?_)
        generalize w16.drew = w18 at BK114 HB HR118_4 hx118_0 hx118_1 hx118_2 hx118_3 hx118_4 hHeld ⊢
        refine pure_ (i := 0) (N := some 25) (v := ?_) (a' := ?_) #[true, false, false, false, false, false, false, false, false, false] rfl rfl (any_of HT_.out (by kernel_rfl)) (fun _ _ _ h => h) (Or.inl ⟨by rfl, ?_⟩) ?_ ?_
        rotate_left
        · intro w'
          go_simp
          with_reducible rfl
        rotate_left
        · simp only [Act.put, List.setIfInBounds_toArray, List.set_cons_zero, List.set_cons_succ, i64_w, i32_w]
          rfl
        refine pure_ (i := 2) (N := some 27) (v := ?_) (a' := ?_) #[true, false, true, false, false, false, false, false, false, false] rfl rfl (any_of HT_.out (by kernel_rfl)) (fun _ _ _ h => h) (Or.inl ⟨by rfl, ?_⟩) ?_ ?_
        rotate_left
        · intro w'
          go_simp
          with_reducible rfl
        rotate_left
        · simp only [Act.put, List.setIfInBounds_toArray, List.set_cons_zero, List.set_cons_succ, i64_w, i32_w]
          rfl
        refine take_ (i := 1) (N := some 26) (v := ?_) (a' := ?_) #[true, true, true, false, false, false, false, false, false, false] rfl rfl (take_ofW HT_.out HW_.out (by kernel_rfl)) (fun _ _ _ h => h) (Or.inl ⟨by rfl, ?_⟩) hHeld ?_ ?_
        rotate_left
        · rintro w' ⟨s0, s1, s2, s3, s4, s5, s6, s7, s8, s9⟩
          go_simp
          with_reducible rfl
        rotate_left
        · simp only [Act.put, List.setIfInBounds_toArray, List.set_cons_zero, List.set_cons_succ, i64_w, i32_w]
          rfl
        refine take_ (i := 3) (N := some 28) (v := ?_) (a' := ?_) #[true, true, true, true, false, false, false, false, false, false] rfl rfl (take_ofW HT_.out HW_.out (by kernel_rfl)) (fun _ _ _ h => h) (Or.inl ⟨by rfl, ?_⟩) hHeld ?_ ?_
        rotate_left
        · rintro w' ⟨s0, s1, s2, s3, s4, s5, s6, s7, s8, s9⟩
          go_simp
          with_reducible rfl
        rotate_left
        · simp only [Act.put, List.setIfInBounds_toArray, List.set_cons_zero, List.set_cons_succ, i64_w, i32_w]
          rfl
        refine pure_ (i := 4) (N := some 29) (v := ?_) (a' := ?_) #[true, true, true, true, true, false, false, false, false, false] rfl rfl (any_of HT_.out (by kernel_rfl)) (fun _ _ _ h => h) (Or.inl ⟨by rfl, ?_⟩) ?_ ?_
        rotate_left
        · intro w'
          go_simp
          with_reducible rfl
        rotate_left
        · simp only [Act.put, List.setIfInBounds_toArray, List.set_cons_zero, List.set_cons_succ, i64_w, i32_w]
          rfl
        refine take_ (i := 5) (N := some 30) (v := ?_) (a' := ?_) #[true, true, true, true, true, true, false, false, false, false] rfl rfl (take_ofW HT_.out HW_.out (by kernel_rfl)) (fun _ _ _ h => h) (Or.inl ⟨by rfl, ?_⟩) hHeld ?_ ?_
        rotate_left
        · rintro w' ⟨s0, s1, s2, s3, s4, s5, s6, s7, s8, s9⟩
          go_simp
          with_reducible rfl
        rotate_left
        · simp only [Act.put, List.setIfInBounds_toArray, List.set_cons_zero, List.set_cons_succ, i64_w, i32_w]
          rfl
        refine one_ (i := 6) (N := some 31) #[true, true, true, true, true, true, true, false, false, false] rfl rfl (one_of HT_.out (by kernel_rfl)) (by decide) (fun K hK => ?_)
        refine goes_ Tryd.func40 (by kernel_rfl) rfl #[.agg #[.int .i64 ((rd_T24 l0_4 0).f0), .int .i64 ((rd_T24 l0_4 0).f1), .int .i64 ((rd_T24 l0_4 0).f2), .int .i64 ((rd_T24 l0_4 0).f3), .slice A118_4 ((rd_T24 l0_4 0).f4).length c118_4]] (by rfl) rfl rfl (by (try simp only [List.map_toArray, List.map_cons, List.map_nil]); first | done | rfl | (simp only [List.length_drop, List.length_take]; rfl)) ?_
        with_reducible refine (ih k (by omega) ((rd_T24 l0_4 0).f0) ((rd_T24 l0_4 0).f1) ((rd_T24 l0_4 0).f2) ((rd_T24 l0_4 0).f3) _ _ ((rd_T24 l0_4 0).f4) t119 _ ?side1 ?side2 A15.out).mono ?_
        (case side1 => repeat (first | exact (Kd.C_below HR118_4.out HB.out) | (with_reducible refine Kd.C_alloc ?_ _) | (with_reducible refine Kd.C_drewN ?_ _) | (with_reducible refine Kd.C_drew ?_)))
        (case side2 => exact HC118_4.out)
        rintro e w19 ⟨rfl, hb⟩
        refine ⟨_, rfl, ?_⟩
        have n0_ := Aside0.mk (blk_below (g := gb114) (o := .cells #[.int .i64 a0_0, .int .i64 a0_1, .int .i64 a0_2, .int .i64 a0_3, .slice (some ad118) l0_4.length c0_4] 24 (0, 0)) (by (with_reducible repeat (first | refine blk_drewN ?_ _ | refine blk_drew ?_ | refine blk_alloc ?_ _)); exact BK114.out) hb)
        have n1_ := Aside0.mk (below_step (by repeat (first | (with_reducible first | exact HB.out | apply below_alloc | apply pw_below_drewN | apply below_drew1 | refine below_set ?_ GE114.out) | exact HB.out)) hb)
        clear BK114
        clear HB
        have BK114 := n0_
        have HB := n1_
        clear n0_ n1_
        (try clear hb)
        (try clear hb2)
        (try clear hk)
        (try clear hi)
        refine hK.out _ _ ⟨(blk_cell BK114.out 0).trans rfl, (blk_cell BK114.out 1).trans rfl, (blk_cell BK114.out 2).trans rfl, (blk_cell BK114.out 3).trans rfl, (blk_cell BK114.out 4).trans rfl, ((HB.out.cell (World.block_lt_of_cell? w _ hw118_0)).trans hw118_0), ((HB.out.cell (World.block_lt_of_cell? w _ hw118_1)).trans hw118_1), ((HB.out.cell (World.block_lt_of_cell? w _ hw118_2)).trans hw118_2), ((HB.out.cell (World.block_lt_of_cell? w _ hw118_3)).trans hw118_3), ((HB.out.cell (World.block_lt_of_cell? w _ hw118_4)).trans hw118_4)⟩ (fun hHeld => ?_)
        clear hK K
        refine norm_ (a' := ?_) ?_ ?_
        rotate_left
        · show Act.put _ (some 31) _ = _
          simp only [Act.put, List.setIfInBounds_toArray, List.set_cons_zero, List.set_cons_succ, i64_w, i32_w]
          rfl
        refine pure_ (i := 7) (N := some 32) (v := ?_) (a' := ?_) #[true, true, true, true, true, true, true, true, false, false] rfl rfl (any_of HT_.out (by kernel_rfl)) (fun _ _ _ h => h) (Or.inl ⟨by rfl, ?_⟩) ?_ ?_
        rotate_left
        · intro w'
          go_simp
          with_reducible rfl
        rotate_left
        · simp only [Act.put, List.setIfInBounds_toArray, List.set_cons_zero, List.set_cons_succ, i64_w, i32_w]
          rfl
        refine pure_ (i := 8) (N := some 33) (v := ?_) (a' := ?_) #[true, true, true, true, true, true, true, true, true, false] rfl rfl (any_of HT_.out (by kernel_rfl)) (fun _ _ _ h => h) (Or.inl ⟨by rfl, ?_⟩) ?_ ?_
        rotate_left
        · intro w'
          go_simp
          with_reducible rfl
        rotate_left
        · simp only [Act.put, List.setIfInBounds_toArray, List.set_cons_zero, List.set_cons_succ, i64_w, i32_w]
          rfl
        refine pure_ (i := 9) (N := some 2) (v := ?_) (a' := ?_) #[true, true, true, true, true, true, true, true, true, true] rfl rfl (any_of HT_.out (by kernel_rfl)) (fun _ _ _ h => h) (Or.inl ⟨by rfl, ?_⟩) ?_ ?_
        rotate_left
        · intro w'
          go_simp
          with_reducible rfl
        rotate_left
        · simp only [Act.put, List.setIfInBounds_toArray, List.set_cons_zero, List.set_cons_succ, i64_w, i32_w]
          rfl
        refine done_ (done_of HT_.out (by kernel_rfl)) ?_
        try go_wp2
        go_ret
        exact ⟨by first | rfl | (simp [errW_none, errW_some] <;> rfl) | (simp [*, errW_none, errW_some] <;> rfl), by repeat (first | (with_reducible first | exact HB.out | apply below_alloc | apply pw_below_drewN | apply below_drew1 | refine below_set ?_ GE114.out) | exact HB.out)⟩
      · rw [if_neg c14] at H
        exact absurd H (by simp)
    · rw [if_neg c13] at H
      have c13b0 : (a0_0 == 6) = false := beq_eq_false_iff_ne.mpr c13
      have c13b1 : (a0_0 != 6) = true := bne_iff_ne.mpr c13
      obtain rfl := Option.some.inj H
      go_enter Tryd.func40, Tryd.ntmps40
      go_wp2_with (first | ((with_reducible refine gate_dst (N := 1) rfl ?_); refine box_event ?hg (N := 1) ?hd (cs := #[.int .i64 a0_0, .int .i64 a0_1, .int .i64 a0_2, .int .i64 a0_3, .slice A0_4 l0_4.length c0_4]) (t := 24) ?hr ?_; (case hd => rfl); (case hg => rfl); (case hr => first | (go_simp; done) | (go_simp; rfl)); intro gb114 hg w20 hbox hb; have n0_ := Aside0.mk (below_step (by repeat (first | (with_reducible first | exact HB.out | apply below_alloc | apply pw_below_drewN | apply below_drew1) | exact HB.out)) hb); have n1_ := Aside0.mk (hbox); have n2_ := Aside0.mk ((by rw [hg]; exact (below_size (by repeat (first | (with_reducible first | exact HB.out | apply below_alloc | apply pw_below_drewN | apply below_drew1) | exact HB.out))) : w.heap.size ≤ gb114)); have n3_ := Aside0.mk ((by rw [hg]; exact (below_size (by repeat (first | (with_reducible first | exact HB.out | apply below_alloc | apply pw_below_drewN | apply below_drew1) | exact HB.out))) : w.heap.size ≤ gb114)); clear HB; have HB := n0_; have BK114 := n1_; have GW114 := n2_; have GE114 := n3_; clear n0_ n1_ n2_ n3_; clear hb hbox hg; have hcz21_0 : w20.cell? ⟨gb114, 0, none⟩ = some (.int .i64 a0_0) := (blk_cell BK114.out 0).trans rfl; have hcz21_1 : w20.cell? ⟨gb114, 1, none⟩ = some (.int .i64 a0_1) := (blk_cell BK114.out 1).trans rfl; have hcz21_2 : w20.cell? ⟨gb114, 2, none⟩ = some (.int .i64 a0_2) := (blk_cell BK114.out 2).trans rfl; have hcz21_3 : w20.cell? ⟨gb114, 3, none⟩ = some (.int .i64 a0_3) := (blk_cell BK114.out 3).trans rfl; have hcz21_4 : w20.cell? ⟨gb114, 4, none⟩ = some (.slice A0_4 l0_4.length c0_4) := (blk_cell BK114.out 4).trans rfl; have hfz21_0 := blk_frozen BK114.out 0; have hfz21_1 := blk_frozen BK114.out 1; have hfz21_2 := blk_frozen BK114.out 2; have hfz21_3 := blk_frozen BK114.out 3; have hfz21_4 := blk_frozen BK114.out 4))
      go_ret
      exact ⟨by first | rfl | (simp [errW_none, errW_some] <;> rfl) | (simp [*, errW_none, errW_some] <;> rfl), by repeat (first | (with_reducible first | exact HB.out | apply below_alloc | apply pw_below_drewN | apply below_drew1 | refine below_set ?_ GE114.out) | exact HB.out)⟩

end Go.Proofs.YtggelekooacmnaaDoor.Q
