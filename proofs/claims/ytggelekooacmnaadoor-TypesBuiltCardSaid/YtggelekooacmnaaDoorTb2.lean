/- Lemmas for: mo -/
import Derived.Shelf.Strings.Builder1
import Derived.Shelf.Strings.Builder2
import Derived.Shelf.Strings.OnBuilder
import Derived.Shelf.Small.Wraps
import Derived.Shelf.Strconv.Itoa0
import Derived.Shelf.Strconv.Itoa1
import Derived.Shelf.LaysM
import Derived.Shelf.Strconv.Itoa2
import Derived.Shelf.Strconv.Itoa3
import Derived.Shelf.Slices.Equal
import Derived.Test.YtggelekooacmnaaDoorProg
import Derived.Lib.AppendIntMem
import Derived.Below
import Derived.Deep.Draws
import Derived.Deep.AppendLies
import Derived.Maps.AppendAt
import Derived.OwnWalk
import Derived.Laws.BytesArg
import Derived.Laws.MakeOwn
import Derived.Laws.OwnMore
import Derived.Deep.OwnRows
import Derived.Tactics
import Derived.Lib.ConvBytes
import Derived.Laws.Slices
import Derived.WalkKit
import Derived.KernelRfl
import Derived.RowKit3
import Derived.Deep.LoopGhost
import Derived.Deep.QuietTactic
import Derived.BigQuiet
import Derived.WideLaws
import Derived.Deep.DeepCutAuto
import Derived.Deep.CutBlock
import Derived.Deep.RegionHeld3
import Derived.Laws.Rows
import Derived.Lib.AppendStr
import Derived.ArgAppend
import Derived.Laws.IdiomCopy
import Derived.OrdersHeld
import Derived.Laws.BitsLemmas
import Derived.RowKit
import Derived.Test.YtggelekooacmnaaDoorTb1
/-
  DERIVED: THE SHELF's CONTRACTS AT THIS DUMP, IN PLAIN WORDS (tools/lay-plain.mjs out of 'TrydShelf.lean', which tools/lay-shelf.mjs wrote): THE SAME DECLARATIONS UNDER THE SAME NAMES: 'import', 'namespace', 'open', 'def', 'theorem' AND NOTHING ELSE: no command of the shelf's: FOR A HAND-IN. Each laying: the table of numbers ('.._ren') and one theorem, a field a fact of the dump's own or the kernel's comparison; each contract: ONE APPLICATION.
-/
namespace Go.Proofs
open Go.Shelf
def Tryd.OE : Go.Shelf.Ren := ⟨fun | 156 => 72 | 165 => 89 | 166 => 90 | 169 => 91 | 240 => 97 | 241 => 98 | 276 => 105 | 277 => 106 | n => n, fun | 31 => 79 | 9 => 9 | 3 => 3 | 4 => 4 | 0 => 0 | 20 => 20 | 72 => 91 | 76 => 95 | 70 => 88 | 37 => 89 | 75 => 94 | 127 => 100 | 164 => 112 | 5 => 5 | 80 => 97 | n => n, fun | n => n⟩
theorem Tryd.U2 : Go.Proofs.Lays.n156 Tryd.prog Tryd.OE := {
  mixed := by kernel_rfl
  f156 := Tryd.func72.trans (congrArg some (by kernel_rfl))
  f165 := Tryd.func89.trans (congrArg some (by kernel_rfl))
  f166 := Tryd.func90.trans (congrArg some (by kernel_rfl))
  f169 := Tryd.func91.trans (congrArg some (by kernel_rfl))
  f240 := Tryd.func97.trans (congrArg some (by kernel_rfl))
  f241 := Tryd.func98.trans (congrArg some (by kernel_rfl))
  f276 := Tryd.func105.trans (congrArg some (by kernel_rfl))
  f277 := Tryd.func106.trans (congrArg some (by kernel_rfl))
  t0 := Tryd.underlying0
  a0 := Tryd.isAgg0
  z0 := Tryd.sizeOf0
  v0 := Tryd.zeroValue0
  t3 := Tryd.underlying3
  a3 := Tryd.isAgg3
  z3 := Tryd.sizeOf3
  v3 := Tryd.zeroValue3
  t4 := Tryd.underlying4
  a4 := Tryd.isAgg4
  z4 := Tryd.sizeOf4
  v4 := Tryd.zeroValue4
  t9 := Tryd.underlying9
  a9 := Tryd.isAgg9
  z9 := Tryd.sizeOf9
  v9 := Tryd.zeroValue9
  t20 := Tryd.underlying20
  a20 := Tryd.isAgg20
  z20 := Tryd.sizeOf20
  v20 := Tryd.zeroValue20
  t31 := Tryd.underlying79
  a31 := Tryd.isAgg79
  z31 := Tryd.sizeOf79
  v31 := Tryd.zeroValue79
  t37 := Tryd.underlying89
  a37 := Tryd.isAgg89
  z37 := Tryd.sizeOf89
  v37 := Tryd.zeroValue89
  t70 := Tryd.underlying88
  a70 := Tryd.isAgg88
  z70 := Tryd.sizeOf88
  v70 := Tryd.zeroValue88
  t72 := Tryd.underlying91
  a72 := Tryd.isAgg91
  z72 := Tryd.sizeOf91
  v72 := Tryd.zeroValue91
  t75 := Tryd.underlying94
  a75 := Tryd.isAgg94
  z75 := Tryd.sizeOf94
  v75 := Tryd.zeroValue94
  t76 := Tryd.underlying95
  a76 := Tryd.isAgg95
  z76 := Tryd.sizeOf95
  v76 := Tryd.zeroValue95
  t127 := Tryd.underlying100
  a127 := Tryd.isAgg100
  z127 := Tryd.sizeOf100
  v127 := Tryd.zeroValue100
  t164 := Tryd.underlying112
  a164 := Tryd.isAgg112
  z164 := Tryd.sizeOf112
  v164 := Tryd.zeroValue112 }
theorem Tryd.F9 : Builder.Extra Tryd.prog Tryd.OE := {
  sizeBuilder := by kernel_rfl
  liesBuilder := by kernel_rfl
  t5 := Tryd.underlying5
  a5 := Tryd.isAgg5
  z5 := Tryd.sizeOf5
  v5 := Tryd.zeroValue5
  infoByte := by kernel_rfl
  cellsByte := by kernel_rfl
  sizeByte := by kernel_rfl
  neB5 := by decide }
open Go.RowKit in
/-- No element: the empty string; the world is as it was. (Whatever the slice's address and capacity: a nil slice too.) (LAID: no walk: one application.) -/
theorem Tryd.strings_Join_none (a : Option Addr) (c : Nat) (sep : ByteArray) (w : World) :
    Calls Tryd.prog 72 #[.slice a 0 c, .string sep] w fun e w' => e = .returned (.string ⟨#[]⟩) ∧ w' = w := Any.strings_Join_none Tryd.U2 Tryd.F9 a c sep w
open Go.RowKit in
/-- strings.Join: "Join concatenates the elements of its first argument to create a single string. The separator string sep is placed between elements in the resulting string.": HOWEVER MANY ELEMENTS. Below the heap's end the world is as it was. (LAID: no walk: one application.) -/
theorem Tryd.strings_Join (bk o c : Nat) (xs : List ByteArray) (sep : ByteArray) (w : World) (hcells : ∀ (j : Nat) x, xs[j]? = some x → w.cell? ⟨bk, o + j, none⟩ = some (.string x)) (hbk : bk < w.heap.size) (hN : xs.length ≤ 140737488355328) (hcap : xs.length ≤ c) (hlen : (Lib.join (xs.map (·.data.toList)) sep.data.toList).length ≤ 140737488355328) :
    Calls Tryd.prog 72 #[.slice (some ⟨bk, o, none⟩) xs.length c, .string sep] w fun e w' => e = .returned (.string ⟨(Lib.join (xs.map (·.data.toList)) sep.data.toList).toArray⟩) ∧ Below w.heap.size w w' := Any.strings_Join Tryd.U2 Tryd.F9 bk o c xs sep w hcells hbk hN hcap hlen
def Tryd.Um : Go.Shelf.Ren := ⟨fun | 171 => 71 | 243 => 88 | 246 => 96 | 283 => 101 | 284 => 102 | 285 => 103 | 286 => 104 | 129 => 112 | 317 => 111 | 318 => 113 | 319 => 114 | 320 => 115 | 337 => 119 | 338 => 120 | n => n, fun | 3 => 3 | 9 => 9 | 2 => 2 | 4 => 4 | 171 => 106 | 0 => 0 | 53 => 107 | 37 => 89 | 5 => 5 | 173 => 110 | 212 => 122 | 51 => 119 | 20 => 20 | 213 => 123 | 46 => 124 | 232 => 133 | 233 => 134 | n => n, fun | 17 => 0 | 18 => 2 | 19 => 3 | n => n⟩
theorem Tryd.laysM171 : Go.Proofs.LaysM.n171 Tryd.prog Tryd.Um := {
  mixed := by kernel_rfl
  f129 := Tryd.func112.trans (congrArg some (by kernel_rfl))
  f171 := Tryd.func71.trans (congrArg some (by kernel_rfl))
  f243 := Tryd.func88.trans (congrArg some (by kernel_rfl))
  f246 := Tryd.func96.trans (congrArg some (by kernel_rfl))
  f283 := Tryd.func101.trans (congrArg some (by kernel_rfl))
  f284 := Tryd.func102.trans (congrArg some (by kernel_rfl))
  f285 := Tryd.func103.trans (congrArg some (by kernel_rfl))
  f286 := Tryd.func104.trans (congrArg some (by kernel_rfl))
  f317 := Tryd.func111.trans (congrArg some (by kernel_rfl))
  f318 := Tryd.func113.trans (congrArg some (by kernel_rfl))
  f319 := Tryd.func114.trans (congrArg some (by kernel_rfl))
  f320 := Tryd.func115.trans (congrArg some (by kernel_rfl))
  f337 := Tryd.func119.trans (congrArg some (by kernel_rfl))
  f338 := Tryd.func120.trans (congrArg some (by kernel_rfl))
  t0 := Tryd.underlying0
  a0 := Tryd.isAgg0
  z0 := Tryd.sizeOf0
  v0 := Tryd.zeroValue0
  t2 := Tryd.underlying2
  a2 := Tryd.isAgg2
  z2 := Tryd.sizeOf2
  v2 := Tryd.zeroValue2
  t3 := Tryd.underlying3
  a3 := Tryd.isAgg3
  z3 := Tryd.sizeOf3
  v3 := Tryd.zeroValue3
  t4 := Tryd.underlying4
  a4 := Tryd.isAgg4
  z4 := Tryd.sizeOf4
  v4 := Tryd.zeroValue4
  t5 := Tryd.underlying5
  a5 := Tryd.isAgg5
  z5 := Tryd.sizeOf5
  v5 := Tryd.zeroValue5
  t9 := Tryd.underlying9
  a9 := Tryd.isAgg9
  z9 := Tryd.sizeOf9
  v9 := Tryd.zeroValue9
  t20 := Tryd.underlying20
  a20 := Tryd.isAgg20
  z20 := Tryd.sizeOf20
  v20 := Tryd.zeroValue20
  t37 := Tryd.underlying89
  a37 := Tryd.isAgg89
  z37 := Tryd.sizeOf89
  v37 := Tryd.zeroValue89
  t46 := Tryd.underlying124
  a46 := Tryd.isAgg124
  z46 := Tryd.sizeOf124
  v46 := Tryd.zeroValue124
  t51 := Tryd.underlying119
  a51 := Tryd.isAgg119
  z51 := Tryd.sizeOf119
  v51 := Tryd.zeroValue119
  t53 := Tryd.underlying107
  a53 := Tryd.isAgg107
  z53 := Tryd.sizeOf107
  v53 := Tryd.zeroValue107
  t171 := Tryd.underlying106
  a171 := Tryd.isAgg106
  z171 := Tryd.sizeOf106
  v171 := Tryd.zeroValue106
  t173 := Tryd.underlying110
  a173 := Tryd.isAgg110
  z173 := Tryd.sizeOf110
  v173 := Tryd.zeroValue110
  t212 := Tryd.underlying122
  a212 := Tryd.isAgg122
  z212 := Tryd.sizeOf122
  v212 := Tryd.zeroValue122
  t213 := Tryd.underlying123
  a213 := Tryd.isAgg123
  z213 := Tryd.sizeOf123
  t232 := Tryd.underlying133
  a232 := Tryd.isAgg133
  z232 := Tryd.sizeOf133
  v232 := Tryd.zeroValue133
  t233 := Tryd.underlying134
  a233 := Tryd.isAgg134
  z233 := Tryd.sizeOf134
  v233 := Tryd.zeroValue134
  g17 := by kernel_rfl
  g18 := by kernel_rfl
  g19 := by kernel_rfl
  i0 := by kernel_rfl
  i2 := by kernel_rfl
  i3 := by kernel_rfl
  i4 := by kernel_rfl
  i5 := by kernel_rfl
  i9 := by kernel_rfl
  i20 := by kernel_rfl
  i37 := by kernel_rfl
  i46 := by kernel_rfl
  i51 := by kernel_rfl
  i53 := by kernel_rfl
  i171 := by kernel_rfl
  i173 := by kernel_rfl
  i212 := by kernel_rfl
  i232 := by kernel_rfl
  i233 := by kernel_rfl
  m17 := by kernel_rfl
  m18 := by kernel_rfl
  m19 := by kernel_rfl }
open Go.RowKit Go.Sort Go.Lib in
/-- strconv.Itoa: "Itoa is equivalent to FormatInt(int64(i), 10).": i's DECIMAL NUMERAL ('Lib.itoa': a '-' where i is negative, then the digits), FOR EVERY int. The world behind the call: the world before it, new blocks behind the heap (the library's 'var a [24]byte'), draws. (LAID: no walk: one application.) -/
theorem Tryd.strconv_Itoa (n : Int) (h0 : -9223372036854775808 ≤ n) (h1 : n ≤ 9223372036854775807) (w : World) (htab : Lib.TabIs Tryd.prog w "internal/strconv.uint64pow10" .u64 Lib.pow10Tab) :
    Calls Tryd.prog 71 #[.int .i64 n] w fun e w' => e = .returned (.string ⟨(Lib.itoa n).toArray⟩) ∧ ∃ k os, w' = grow (w.drewN k) os := Any.strconv_Itoa Tryd.laysM171 n h0 h1 w htab
end Go.Proofs
-- the table of powers as a premise; strings.Join of a row that is read
namespace Go.Proofs.YtggelekooacmnaaDoor.Q
open Go.RowKit Go.Proofs.YtggelekooacmnaaDoorW.bg Go.Proofs.YtggelekooacmnaaDoorW.bW Go.Proofs.YtggelekooacmnaaDoorW.dh
set_option linter.unusedVariables false
set_option linter.unusedSimpArgs false
abbrev vw (B : Nat) (w : World) : Prop := Lib.TabBelow Tryd.prog B w "internal/strconv.uint64pow10" .u64 Lib.pow10Tab
theorem vw.up {B B' : Nat} {w : World} (h : vw B w) (hB : B ≤ B') : vw B' w := fun w' hb => h w' (hb.mono hB)
theorem yL {w W : World} (h : vw w.heap.size w) (hb : Below w.heap.size w W) : vw W.heap.size W := vw.up (h.on hb) hb.size
theorem UM (w : World) (k : Nat) (os : Array Obj) : Below w.heap.size w (Go.Sort.grow (w.drewN k) os) := Lib.below_grow _ w (Nat.le_refl _) k os
theorem ma : ∀ (a : Array UInt8), (⟨a⟩ : ByteArray).size = a.size := fun _ => rfl
theorem Yj {w : World} {a : Addr} {v : Value} (h : w.cell? a = some v) : a = ⟨a.block, a.off, none⟩ ∧ a.block < w.heap.size := by
  obtain ⟨b, o, s⟩ := a
  unfold World.cell? at h
  dsimp only at h
  constructor
  · cases s with
    | none => rfl
    | some s => split at h <;> simp at h
  · have : w.heap[b]? ≠ none := by intro e; rw [e] at h; simp at h
    exact Nat.lt_of_not_ge fun hn => this (Array.getElem?_eq_none hn)
theorem UN (A0 : Option Addr) (c0 : Nat) (l0 : List ByteArray) (a1 : ByteArray) (w : World) (hr0 : Kd.C Kd.string w A0 l0.length l0) (hc0 : l0.length ≤ c0)
    (h1 : l0.length ≤ 140737488355328) (h2 : (Lib.join (l0.map (·.data.toList)) a1.data.toList).length ≤ 140737488355328) :
    Calls Tryd.prog 72 #[.slice A0 l0.length c0, .string a1] w fun e w' => e = .returned (.string ⟨(Lib.join (l0.map (·.data.toList)) a1.data.toList).toArray⟩) ∧ Below w.heap.size w w' := by
  cases l0 with
  | nil =>
    refine (Tryd.strings_Join_none A0 c0 a1 w).mono ?_
    rintro e w' ⟨rfl, rfl⟩
    exact ⟨rfl, Below.refl _ _⟩
  | cons x xs =>
    obtain ⟨ad, rfl, hc⟩ := Kd.TL hr0 0 (by omega) (by simp)
    obtain ⟨he, hb⟩ := Yj hc
    have hs : ad = ⟨ad.block, ad.off, none⟩ := by simpa [Addr.add] using he
    have hb' : ad.block < w.heap.size := by simpa [Addr.add] using hb
    obtain ⟨b, o, sp⟩ := ad
    obtain rfl : sp = none := by simpa using hs
    refine Tryd.strings_Join b o c0 (x :: xs) a1 w ?_ hb' h1 hc0 h2
    intro j y hj
    obtain ⟨ad', e', hj'⟩ := Kd.TL hr0 j (by omega) (by have := (List.getElem?_eq_some_iff.1 hj).1; omega)
    obtain rfl := Option.some.inj e'
    have hz : rdOf ByteArray.empty (x :: xs) (j : Int) = y := by unfold rdOf; simp [List.getD_eq_getElem?_getD, hj]
    rw [hz] at hj'
    have : (Addr.add ⟨b, o, none⟩ ((j : Int)).toNat) = ⟨b, o + j, none⟩ := by
      unfold Addr.add; split
      · rename_i h0; simp at h0; simp [h0]
      · simp
    rwa [this] at hj'
end Go.Proofs.YtggelekooacmnaaDoor.Q
namespace Go.Proofs.YtggelekooacmnaaDoor.Q
open Go.RowKit Go.Proofs.YtggelekooacmnaaDoorW.bg Go.Proofs.YtggelekooacmnaaDoorW.bW Go.Proofs.YtggelekooacmnaaDoorW.dh
attribute [local go_sem] fE fF gy gz eO eP fG fH   -- for this text's walks alone
set_option linter.unusedVariables false
set_option linter.unusedSimpArgs false



def errW : Option Int → Value
  | none => .nilIface
  | some c => .iface 0 (.int .i64 c)
theorem fI : errW none = .nilIface := rfl
theorem fJ (c : Int) : errW (some c) = .iface 0 (.int .i64 c) := rfl

theorem info3 : (Tryd.prog.info? 3).map (fun i => (i.zero, i.size, i.bytes)) = some (some (.int .i64 0), 1, 8) := by kernel_rfl
theorem info5 : (Tryd.prog.info? 5).map (fun i => (i.zero, i.size, i.bytes)) = some (some (.int .u8 0), 1, 1) := by kernel_rfl
theorem info9 : (Tryd.prog.info? 9).map (fun i => (i.zero, i.size, i.bytes)) = some (some (.string ⟨#[]⟩), 1, 16) := by kernel_rfl
theorem info24 : (Tryd.prog.info? 24).map (fun i => (i.zero, i.size, i.bytes)) = some (some (.agg #[(.int .i64 0), (.int .i64 0), (.int .i64 0), (.int .i64 0), (.slice none 0 0)]), 5, 56) := by kernel_rfl
theorem O8 : (Tryd.prog.info? 41).map (fun i => (i.zero, i.size, i.bytes)) = some (some (.agg #[(.int .i64 0), (.int .i64 0), (.int .i64 0)]), 3, 24) := by kernel_rfl
theorem D5 : (Tryd.prog.info? 119).map (fun i => (i.zero, i.size, i.bytes)) = some (some (.int .u32 0), 1, 4) := by kernel_rfl
-- the values' own types
/-! #### struct type 24, nested in itself -/
structure S24 where
  f0 : Int
  f1 : Int
  f2 : Int
  f3 : Int
  f4 : (List S24)
def z24 : S24 := ⟨(0 : Int), (0 : Int), (0 : Int), (0 : Int), ([] : List S24)⟩
def F24 (d : Kd S24) : Kd S24 := Kd.iso (Kd.pair (Kd.int .i64) (Kd.pair (Kd.int .i64) (Kd.pair (Kd.int .i64) (Kd.pair (Kd.int .i64) (Kd.slice 24 d))))) (fun x : S24 => (x.f0, x.f1, x.f2, x.f3, x.f4))
theorem O9 : Kd.yK F24 := Kd.mono_iso _ (Kd.JA (Kd.Gb _) (Kd.JA (Kd.Gb _) (Kd.JA (Kd.Gb _) (Kd.JA (Kd.Gb _) (Kd.Ya 24 Kd.mono_id)))))
theorem sub24 : Kd.Sub F24 [24] := Kd.sub_iso _ (Kd.Lx (Kd.sub_const _ (by decide)) (Kd.Lx (Kd.sub_const _ (by decide)) (Kd.Lx (Kd.sub_const _ (by decide)) (Kd.Lx (Kd.sub_const _ (by decide)) (Kd.Yo 24 (by decide) Kd.sub_id)))))
theorem sz24 : ∀ n, (Kd.upto F24 5 [24] n).sz = 5 := Kd.upto_sz (fun _ => rfl)
def k24 : Kd S24 := Kd.fix F24 5 [24] sz24 (Kd.upto_E sub24)
theorem OM {w : World} {x : S24} {cs : List Value} (h : k24.K w x cs) : ∃ A4 c4, cs = [.int .i64 x.f0, .int .i64 x.f1, .int .i64 x.f2, .int .i64 x.f3, .slice A4 x.f4.length c4] ∧ x.f4.length ≤ c4 ∧ k24.C w A4 x.f4.length x.f4 := by
  obtain ⟨n, h⟩ := h
  cases n with
  | zero => exact h.elim
  | succ n =>
    obtain ⟨_, _, rfl, rfl, ⟨_, _, rfl, rfl, ⟨_, _, rfl, rfl, ⟨_, _, rfl, rfl, ⟨A4, c4, rfl, l4, g4⟩⟩⟩⟩⟩ := h
    exact ⟨A4, c4, rfl, l4, Kd.fix_C g4⟩
theorem k24_mk (w : World) (x : S24) {A4 : Option Addr} {c4 : Nat} (l4 : x.f4.length ≤ c4) (g4 : k24.C w A4 x.f4.length x.f4) : k24.K w x [.int .i64 x.f0, .int .i64 x.f1, .int .i64 x.f2, .int .i64 x.f3, .slice A4 x.f4.length c4] := by
  obtain ⟨n4, q4⟩ := Kd.Yc O9 g4
  have r4 := Kd.Yq O9 sz24 (show n4 ≤ n4 by omega) q4
  exact ⟨n4 + 1, ⟨[.int .i64 x.f0], [.int .i64 x.f1, .int .i64 x.f2, .int .i64 x.f3, .slice A4 x.f4.length c4], rfl, rfl, ⟨[.int .i64 x.f1], [.int .i64 x.f2, .int .i64 x.f3, .slice A4 x.f4.length c4], rfl, rfl, ⟨[.int .i64 x.f2], [.int .i64 x.f3, .slice A4 x.f4.length c4], rfl, rfl, ⟨[.int .i64 x.f3], [.slice A4 x.f4.length c4], rfl, rfl, ⟨A4, c4, rfl, l4, r4⟩⟩⟩⟩⟩⟩
theorem M3 (w : World) (base : Nat) (ok : Nat → Prop) (x : S24) {v4 : Value} (g4 : k24.R 24 w base ok v4 x.f4) : k24.M w base ok x [.int .i64 x.f0, .int .i64 x.f1, .int .i64 x.f2, .int .i64 x.f3, v4] := by
  obtain ⟨n4, q4⟩ := Kd.Yb O9 g4
  have r4 := Kd.Yp O9 sz24 (show n4 ≤ n4 by omega) q4
  exact ⟨n4 + 1, ⟨[.int .i64 x.f0], [.int .i64 x.f1, .int .i64 x.f2, .int .i64 x.f3, v4], rfl, rfl, ⟨[.int .i64 x.f1], [.int .i64 x.f2, .int .i64 x.f3, v4], rfl, rfl, ⟨[.int .i64 x.f2], [.int .i64 x.f3, v4], rfl, rfl, ⟨[.int .i64 x.f3], [v4], rfl, rfl, ⟨v4, rfl, r4⟩⟩⟩⟩⟩⟩
theorem TS {W : World} {ok : Nat → Prop} {x : S24} {cs : List Value} (h : Kd.FK k24 W ok x cs) : ∃ A4 c4, cs = [.int .i64 x.f0, .int .i64 x.f1, .int .i64 x.f2, .int .i64 x.f3, .slice A4 x.f4.length c4] ∧ x.f4.length ≤ c4 ∧ Kd.F k24 W ok A4 x.f4.length x.f4 := by
  obtain ⟨A4, c4, rfl, l4, _⟩ := OM (Kd.Bp h)
  exact ⟨A4, c4, rfl, l4, (fun W' hW => by obtain ⟨A4_, c4_, he, l4_, g4_⟩ := OM (h W' hW); injection (Option.some.inj (show some (Value.slice A4 x.f4.length c4) = some (Value.slice A4_ x.f4.length c4_) from congrArg (fun l => l[4]?) he)) with ha_ _ _; rw [ha_]; exact g4_)⟩
theorem vS (W : World) (ok : Nat → Prop) (x : S24) {A4 : Option Addr} {c4 : Nat} (l4 : x.f4.length ≤ c4) (g4 : Kd.F k24 W ok A4 x.f4.length x.f4) : Kd.FK k24 W ok x [.int .i64 x.f0, .int .i64 x.f1, .int .i64 x.f2, .int .i64 x.f3, .slice A4 x.f4.length c4] := fun W2 hW => k24_mk W2 x l4 (g4 W2 hW)
def ah (xs : List S24) (i : Int) : S24 := xs.getD i.toNat z24
theorem ib {w : World} {A : Option Addr} {n : Nat} {xs : List S24} (h : Kd.C k24 w A n xs) (i : Int) (h0 : 0 ≤ i) (h1 : i < n) : ∃ ad A4 c4, A = some ad ∧ w.cell? (ad.add (i.toNat * 5)) = some (.int .i64 (ah xs i).f0) ∧ w.cell? ⟨(ad.add (i.toNat * 5)).block, (ad.add (i.toNat * 5)).off + 1, none⟩ = some (.int .i64 (ah xs i).f1) ∧ w.cell? ⟨(ad.add (i.toNat * 5)).block, (ad.add (i.toNat * 5)).off + 2, none⟩ = some (.int .i64 (ah xs i).f2) ∧ w.cell? ⟨(ad.add (i.toNat * 5)).block, (ad.add (i.toNat * 5)).off + 3, none⟩ = some (.int .i64 (ah xs i).f3) ∧ w.cell? ⟨(ad.add (i.toNat * 5)).block, (ad.add (i.toNat * 5)).off + 4, none⟩ = some (.slice A4 (ah xs i).f4.length c4) ∧ (ah xs i).f4.length ≤ c4 ∧ k24.C w A4 (ah xs i).f4.length (ah xs i).f4 := by
  obtain ⟨ad, c, e, _, hK, hc0⟩ := Kd.OX h z24 i h0 h1
  have hc : ∀ j u, c[j]? = some u → w.cell? (ad.add (i.toNat * 5 + j)) = some u := hc0
  obtain ⟨A4, c4, rfl, l4, g4⟩ := OM hK
  exact ⟨ad, A4, c4, e, hc 0 _ rfl, by rw [← BI _ _ 1 (by omega)]; exact hc 1 _ rfl, by rw [← BI _ _ 2 (by omega)]; exact hc 2 _ rfl, by rw [← BI _ _ 3 (by omega)]; exact hc 3 _ rfl, by rw [← BI _ _ 4 (by omega)]; exact hc 4 _ rfl, l4, g4⟩

/-! #### struct type 41 -/
structure S41 where
  f0 : Int
  f1 : Int
  f2 : Int
def z41 : S41 := ⟨(0 : Int), (0 : Int), (0 : Int)⟩
def k41 : Kd S41 := Kd.iso (Kd.pair (Kd.int .i64) (Kd.pair (Kd.int .i64) (Kd.int .i64))) (fun x : S41 => (x.f0, x.f1, x.f2))
theorem k41_open {w : World} {x : S41} {cs : List Value} (h : k41.K w x cs) : cs = [.int .i64 x.f0, .int .i64 x.f1, .int .i64 x.f2] := by
  obtain ⟨_, _, rfl, rfl, ⟨_, _, rfl, rfl, rfl⟩⟩ := h
  exact rfl
theorem BL (w : World) (base : Nat) (ok : Nat → Prop) (x : S41)  : k41.M w base ok x [.int .i64 x.f0, .int .i64 x.f1, .int .i64 x.f2] := ⟨[.int .i64 x.f0], [.int .i64 x.f1, .int .i64 x.f2], rfl, rfl, ⟨[.int .i64 x.f1], [.int .i64 x.f2], rfl, rfl, rfl⟩⟩
def fU (xs : List S41) (i : Int) : S41 := xs.getD i.toNat z41
theorem J9 {w : World} {A : Option Addr} {n : Nat} {xs : List S41} (h : Kd.C k41 w A n xs) (i : Int) (h0 : 0 ≤ i) (h1 : i < n) : ∃ ad , A = some ad ∧ w.cell? (ad.add (i.toNat * 3)) = some (.int .i64 (fU xs i).f0) ∧ w.cell? ⟨(ad.add (i.toNat * 3)).block, (ad.add (i.toNat * 3)).off + 1, none⟩ = some (.int .i64 (fU xs i).f1) ∧ w.cell? ⟨(ad.add (i.toNat * 3)).block, (ad.add (i.toNat * 3)).off + 2, none⟩ = some (.int .i64 (fU xs i).f2) := by
  obtain ⟨ad, c, e, _, hK, hc0⟩ := Kd.OX h z41 i h0 h1
  have hc : ∀ j u, c[j]? = some u → w.cell? (ad.add (i.toNat * 3 + j)) = some u := hc0
  obtain rfl := k41_open hK
  exact ⟨ad, e, hc 0 _ rfl, by rw [← BI _ _ 1 (by omega)]; exact hc 1 _ rfl, by rw [← BI _ _ 2 (by omega)]; exact hc 2 _ rfl⟩

/-! #### struct type 51, nested in itself -/
structure S51 where
  f0 : Int
  f1 : (List S51)
def z51 : S51 := ⟨(0 : Int), ([] : List S51)⟩
theorem bl_ {p : Prop} (h : p := by repeat (first | (with_reducible first | exact HB.out | apply bS | apply bO | apply bQ | refine ed ?_ (aa.out (by assumption)) | refine ed ?_ (aD.ge (aa.out (by assumption)))) | exact HB.out)) : p := h
theorem si_ {p : Prop} (h : p := by repeat (first | (with_reducible first | exact (aa.out (by assumption)) | apply aD.alloc | apply aD.drewN | apply aD.drew | apply aD.sG | apply aD.sH | refine aD.far ?_ (aa.out (by assumption)) _) | exact (aa.out (by assumption)))) : p := h
theorem bk_ {p : Prop} (h : p := by (with_reducible repeat (first | refine bL ?_ _ | refine bC ?_ | refine bF ?_ _)); exact (aa.out (by assumption))) : p := h
theorem pR_ {p q : Prop} (h : p) (k : p → q := by intro h_; (with_reducible repeat (first | apply Kd.dx | apply Kd.dz | apply Kd.dH)); exact h_) : q := k h
theorem pN_ {p q : Prop} (h : p) (k : p → q := by intro h_; (with_reducible repeat (first | apply Kd.dL | apply Kd.dM | apply Kd.dO)); exact h_) : q := k h
theorem re_ {p : Prop} (h : p := by first | rfl | (simp [fI, fJ] <;> rfl) | (simp [*, fI, fJ] <;> rfl)) : p := h
theorem rs_ {p : Prop} (h : p := by first | rfl | (simp; done) | (simp [*]; done)) : p := h
theorem dt_ {p : Prop} [Decidable p] (h : decide p = true := by first | (with_reducible assumption) | assumption) : p := of_decide_eq_true h
theorem gw_ {n m g : Nat} (hg : g = m) (h : n ≤ m) : aa (n ≤ g) := ⟨by rw [hg]; exact h⟩
theorem qa {W : World} {g : Nat} {a_ b_ c_ : Value} {t : TypeId} (h : W.heap[g]? = some (.cells #[a_, b_, c_] t (0, 0))) : W.cell? ⟨g, 0, none⟩ = some a_ ∧ W.cell? ⟨g, 1, none⟩ = some b_ ∧ W.cell? ⟨g, 2, none⟩ = some c_ ∧ W.frozen? ⟨g, 0, none⟩ = false ∧ W.frozen? ⟨g, 1, none⟩ = false ∧ W.frozen? ⟨g, 2, none⟩ = false :=
  ⟨(ag h 0).trans rfl, (ag h 1).trans rfl, (ag h 2).trans rfl, gm h 0, gm h 1, gm h 2⟩
theorem bz {W : World} {g : Nat} {a_ b_ c_ d_ e_ : Value} {t : TypeId} (h : W.heap[g]? = some (.cells #[a_, b_, c_, d_, e_] t (0, 0))) : W.cell? ⟨g, 0, none⟩ = some a_ ∧ W.cell? ⟨g, 1, none⟩ = some b_ ∧ W.cell? ⟨g, 2, none⟩ = some c_ ∧ W.cell? ⟨g, 3, none⟩ = some d_ ∧ W.cell? ⟨g, 4, none⟩ = some e_ ∧ W.frozen? ⟨g, 0, none⟩ = false ∧ W.frozen? ⟨g, 1, none⟩ = false ∧ W.frozen? ⟨g, 2, none⟩ = false ∧ W.frozen? ⟨g, 3, none⟩ = false ∧ W.frozen? ⟨g, 4, none⟩ = false :=
  ⟨(ag h 0).trans rfl, (ag h 1).trans rfl, (ag h 2).trans rfl, (ag h 3).trans rfl, (ag h 4).trans rfl, gm h 0, gm h 1, gm h 2, gm h 3, gm h 4⟩
def bm (n b : Nat) : Array Bool := ((List.range n).map fun i => b.testBit i).toArray
theorem pu_ {P : Program} {ops : Array Oper} {Q : Exit → Act → World → Prop} {md : Region.Mode} {S : World → Prop} {ds : List Nat} {T : Bool × List (List Nat × List Nat)} {oi : Oper} {v : Value} {fuel : Nat} {l : Array Bool} {a a' : Act} {w : World} (hT : aa (l8 md ops = T)) (i n : Nat) (l' : Array Bool) (h : fC P md ops Q S ds fuel l' a' w)
    (hi : ops[i]? = some oi := by exact rfl) (hN : oi.dst = some n := by exact rfl) (hc : anyT T l.toList l'.toList i = true := by kernel_rfl) (hQ : ∀ c a w, Q (.panic c) (a.put oi.dst v) w → Q (.panic c) a w := by exact fun _ _ _ h => h) (hw : Region.wanted oi (yielded ops a.tmps) = true := by exact rfl)
    (hy : ∀ w, (execOp a.eval oi).run P w = .ok (.value v) w := by intro w'; go_simp; with_reducible rfl) (ha : a.put (some n) v = a' := by simp only [Act.put, List.setIfInBounds_toArray, List.set_cons_zero, List.set_cons_succ, eT, fA]; rfl) : fC P md ops Q S ds (fuel + 1) l a w := LB l' hi hN (any_of hT.out hc) hQ (Or.inl ⟨hw, hy⟩) ha h
theorem pf_ {P : Program} {ops : Array Oper} {Q : Exit → Act → World → Prop} {md : Region.Mode} {S : World → Prop} {ds : List Nat} {T : Bool × List (List Nat × List Nat)} {oi : Oper} {fuel : Nat} {l : Array Bool} {a a' : Act} {w : World} (hT : aa (l8 md ops = T)) (i n : Nat) (l' : Array Bool) (h : fC P md ops Q S ds fuel l' a' w)
    (hi : ops[i]? = some oi := by exact rfl) (hN : oi.dst = some n := by exact rfl) (hc : anyT T l.toList l'.toList i = true := by kernel_rfl) (hQ : ∀ c a w, Q (.panic c) (a.put oi.dst undef) w → Q (.panic c) a w := by exact fun _ _ _ h => h) (hw : Region.wanted oi (yielded ops a.tmps) = false := by exact rfl)
    (ha : a.put (some n) undef = a' := by simp only [Act.put, List.setIfInBounds_toArray, List.set_cons_zero, List.set_cons_succ, eT, fA]; rfl) : fC P md ops Q S ds (fuel + 1) l a w := LB l' hi hN (any_of hT.out hc) hQ (Or.inr ⟨hw, rfl⟩) ha h
theorem ta_ {P : Program} {ops : Array Oper} {Q : Exit → Act → World → Prop} {md : Region.Mode} {S : World → Prop} {ds B : List Nat} {T : Bool × List (List Nat × List Nat)} {oi : Oper} {v : Value} {fuel : Nat} {l : Array Bool} {a a' : Act} {w : World} (hT : aa (l8 md ops = T)) (hB : aa (nQ T.2 B = true)) (i n : Nat) (l' : Array Bool) (hS : S w)
    (h : fC P md ops Q S ds fuel l' a' w)
    (hi : ops[i]? = some oi := by exact rfl) (hN : oi.dst = some n := by exact rfl) (hc : takeW T B ds l.toList l'.toList i = true := by kernel_rfl) (hQ : ∀ c a w, Q (.panic c) (a.put oi.dst v) w → Q (.panic c) a w := by exact fun _ _ _ h => h) (hw : Region.wanted oi (yielded ops a.tmps) = true := by exact rfl)
    (hy : ∀ w, S w → (execOp a.eval oi).run P w = .ok (.value v) w := by intro w' hs_; (repeat (obtain ⟨_, hs_⟩ := hs_)); go_simp; with_reducible rfl)
    (ha : a.put (some n) v = a' := by simp only [Act.put, List.setIfInBounds_toArray, List.set_cons_zero, List.set_cons_succ, eT, fA]; rfl) : fC P md ops Q S ds (fuel + 1) l a w := OU l' hi hN (take_ofW hT.out hB.out hc) hQ (Or.inl ⟨hw, hy⟩) hS ha h
theorem kb_ {w W w1 : World} {g : Nat} {o : Obj} (h : aa (w.heap[g]? = some o)) (hb : Below W.heap.size W w1) (k : w.heap[g]? = some o → W.heap[g]? = some o := by intro h_; (with_reducible repeat (first | refine bL ?_ _ | refine bC ?_ | refine bF ?_ _)); exact h_) : aa (w1.heap[g]? = some o) := ⟨gJ (k h.out) hb⟩
theorem nl_ {w W : World} {g g2 : Nat} {o : Obj} (h : aa (w.heap[g]? = some o)) (hg : g2 = W.heap.size) (k : w.heap[g]? = some o → W.heap[g]? = some o := by intro h_; (with_reducible repeat (first | refine bL ?_ _ | refine bC ?_ | refine bF ?_ _)); exact h_) : aa (g ≠ g2) := ⟨by rw [hg]; exact Nat.ne_of_lt (Bo (k h.out))⟩
theorem ng_ {w W : World} {g g2 : Nat} {o : Obj} (h : aa (w.heap[g]? = some o)) (hg : g2 = W.heap.size) (k : w.heap[g]? = some o → W.heap[g]? = some o := by intro h_; (with_reducible repeat (first | refine bL ?_ _ | refine bC ?_ | refine bF ?_ _)); exact h_) : aa (g2 ≠ g) := ⟨by rw [hg]; exact Nat.ne_of_gt (Bo (k h.out))⟩
theorem hc_ {w W : World} {a : Addr} {v : Value} (hb : aa (Below w.heap.size w W)) (h : w.cell? a = some v) : W.cell? a = some v := (hb.out.cell (World.block_lt_of_cell? w _ h)).trans h
theorem cb_ {p q : Prop} (h : p) (k : p → q := by intro h_; repeat (first | exact h_ | (with_reducible refine Kd.vQ ?_ _) | (with_reducible refine Kd.vR ?_ _) | (with_reducible refine Kd.za ?_))) : q := k h
theorem mp_ {p : Prop} (h : p := by (try simp only [List.map_toArray, List.map_cons, List.map_nil]); first | done | rfl | (simp only [List.length_drop, List.length_take]; rfl)) : p := h
theorem z0_ : ((0 : Int)).toNat = 0 := rfl
theorem kp_ {w W : World} {g : Nat} {row : Option Nat} (h : aI w W g row := by repeat (first | (with_reducible first | exact HK.out | apply aI.l6 | apply gG | apply gK | apply gH | refine gM ?_ (aa.out (by assumption)) _) | exact HK.out)) : aI w W g row := h
theorem p5_ {w : World} {g : Nat} {t : TypeId} {a b c d e v0 v1 v2 v3 v4 : Value} (h : w.heap[g]? = some (.cells #[a, b, c, d, e] t (0, 0))) : (((((w.setCell ⟨g, 0, none⟩ v0).setCell ⟨g, 1, none⟩ v1).setCell ⟨g, 2, none⟩ v2).setCell ⟨g, 3, none⟩ v3).setCell ⟨g, 4, none⟩ v4).heap[g]? = some (.cells #[v0, v1, v2, v3, v4] t (0, 0)) :=
  iP (iP (iP (iP (iP h 0 v0 rfl) 1 v1 rfl) 2 v2 rfl) 3 v3 rfl) 4 v4 rfl
theorem p3_ {w : World} {g : Nat} {t : TypeId} {a b c v0 v1 v2 : Value} (h : w.heap[g]? = some (.cells #[a, b, c] t (0, 0))) : (((w.setCell ⟨g, 0, none⟩ v0).setCell ⟨g, 1, none⟩ v1).setCell ⟨g, 2, none⟩ v2).heap[g]? = some (.cells #[v0, v1, v2] t (0, 0)) :=
  iP (iP (iP h 0 v0 rfl) 1 v1 rfl) 2 v2 rfl
theorem p2_ {w : World} {g : Nat} {t : TypeId} {a b v0 v1 : Value} (h : w.heap[g]? = some (.cells #[a, b] t (0, 0))) : ((w.setCell ⟨g, 0, none⟩ v0).setCell ⟨g, 1, none⟩ v1).heap[g]? = some (.cells #[v0, v1] t (0, 0)) :=
  iP (iP h 0 v0 rfl) 1 v1 rfl
theorem b5_ {p : Prop} (h : p := by (with_reducible repeat (first | refine bL ?_ _ | refine bC ?_ | refine bF ?_ _ | apply p5_ | apply p3_ | apply p2_ | refine gp ?_ (aa.out (by assumption)) _)); exact (aa.out (by assumption))) : p := h
theorem bq_ {α : Type} [BEq α] [LawfulBEq α] {a b : α} (h : a = b) : (a == b) = true ∧ (a != b) = false := ⟨beq_iff_eq.mpr h, bne_eq_false_iff_eq.mpr h⟩
theorem bn_ {α : Type} [BEq α] [LawfulBEq α] {a b : α} (h : ¬ a = b) : (a == b) = false ∧ (a != b) = true := ⟨beq_eq_false_iff_ne.mpr h, bne_iff_ne.mpr h⟩
end Go.Proofs.YtggelekooacmnaaDoor.Q
namespace Go.Proofs.YtggelekooacmnaaDoor.Q
open Go.RowKit Go.Proofs.YtggelekooacmnaaDoorW.bg Go.Proofs.YtggelekooacmnaaDoorW.bW Go.Proofs.YtggelekooacmnaaDoorW.dh
attribute [local go_sem] fE fF gy gz eO eP fG fH   -- for this text's walks alone
set_option linter.unusedVariables false
set_option linter.unusedSimpArgs false

/-! ### eQ: function 38 -/
mutual
def eQ.l0 : Nat → Int → List (S24) → Int → Int → Option (Int)
 | 0, _, _, _, _ => none
 | k + 1, x3, x7, x8, x9 => if x9 < x8 then (if 0 ≤ x9 then (if x9 < (x7.length : Int) then ((eQ.f k ((ah x7 x9).f0) ((ah x7 x9).f1) ((ah x7 x9).f2) ((ah x7 x9).f3) ((ah x7 x9).f4)).bind fun t104 => (eQ.l0 k (mx x3 t104) x7 x8 (wrap64 (x9 + 1)))) else (none)) else (none)) else (some (wrap64 (x3 + 1)))
def eQ.f : Nat → Int → Int → Int → Int → List (S24) → Option (Int)
 | 0, _, _, _, _, _ => none
 | k + 1, aj, av, ak, au, af => eQ.l0 k 0 af (af.length : Int) 0
end
theorem eQ.iQ : ∀ k, (∀ y0 y1 y2 y3 y4, LeO (eQ.f k y0 y1 y2 y3 y4) (eQ.f (k + 1) y0 y1 y2 y3 y4)) ∧ (∀ y0 y1 y2 y3, LeO (eQ.l0 k y0 y1 y2 y3) (eQ.l0 (k + 1) y0 y1 y2 y3))
 | 0 => ⟨fun _ _ _ _ _ r h => by simp [eQ.f] at h, fun _ _ _ _ r h => by simp [eQ.l0] at h⟩
 | k + 1 => by
  obtain ⟨ih0, ih1⟩ := eQ.iQ k; refine ⟨?_, ?_⟩
  ·intro y0 y1 y2 y3 y4; unfold eQ.f; repeat' first
   | (with_reducible exact ih0 _ _ _ _ _)
   | (with_reducible exact ih1 _ _ _ _)
   | (with_reducible exact LeO.refl _)
   | (with_reducible exact LeO.none _)
   | (with_reducible refine LeO.ite ?_ ?_)
   | (with_reducible refine LeO.bind ?_ (fun _ => ?_))
   | exact ih0 _ _ _ _ _
   | exact ih1 _ _ _ _
   | exact LeO.none _
   | refine LeO.ite ?_ ?_
   | refine LeO.bind ?_ (fun _ => ?_)
  ·intro y0 y1 y2 y3; unfold eQ.l0; repeat' first
   | (with_reducible exact ih0 _ _ _ _ _)
   | (with_reducible exact ih1 _ _ _ _)
   | (with_reducible exact LeO.refl _)
   | (with_reducible exact LeO.none _)
   | (with_reducible refine LeO.ite ?_ ?_)
   | (with_reducible refine LeO.bind ?_ (fun _ => ?_))
   | exact ih0 _ _ _ _ _
   | exact ih1 _ _ _ _
   | exact LeO.none _
   | refine LeO.ite ?_ ?_
   | refine LeO.bind ?_ (fun _ => ?_)
theorem eQ.mono : ∀ a0 a1 a2 a3 a4 k, LeO (eQ.f k a0 a1 a2 a3 a4) (eQ.f (k + 1) a0 a1 a2 a3 a4) := by
 intro a0 a1 a2 a3 a4 k; obtain ⟨ih0, ih1⟩ := eQ.iQ k; exact ih0 a0 a1 a2 a3 a4
set_option maxHeartbeats 8000000 in
set_option maxRecDepth 100000 in
theorem eQ.calls (k : Nat) : ∀ (aj : Int) (av : Int) (ak : Int) (au : Int) (bA : Option Addr) (aZ : Nat) (af : List (S24)) (r : Int) (w : World) (fK : Kd.C k24 w bA af.length af) (fM : af.length ≤ aZ) (h : eQ.f k aj av ak au af = some r),
  Calls Tryd.prog 38 #[.agg #[.int .i64 aj, .int .i64 av, .int .i64 ak, .int .i64 au, .slice bA af.length aZ]] w fun e w' => e = .returned (.int .i64 r) ∧ Below w.heap.size w w' := by
 induction k using Nat.strongRecOn with
 | _ k ih =>
 intro aj av ak au bA aZ af r w fK fM h; cases k with
 | zero => exact absurd h (by simp [eQ.f])
 | succ k =>
 simp only [eQ.f] at h; have qb := Tryd.underlying24; have cz := aa.mk fK; have eZ := aa.mk fM; clear fK fM; have HB := aa.mk (Below.refl w.heap.size w); have H : (eQ.l0 k 0 af (af.length : Int) 0) = some r := h; clear h; have H' := aa.mk H; clear H; go_enter Tryd.func38, Tryd.ntmps38; go_wp2_with (first | ((with_reducible refine aU (N := 1) rfl ?_); refine aY ?hg (N := 1) ?hd (cs := #[.int .i64 aj, .int .i64 av, .int .i64 ak, .int .i64 au, .slice bA af.length aZ]) (t := 24) ?hr ?_; (case hd => rfl); (case hg => rfl); (case hr => first | (go_simp; done) | (go_simp; rfl)); intro gb101 hg w2 aK hb; have LD := aa.mk (aK); have GW101 : aa (w.heap.size ≤ gb101) := gw_ hg (ax bl_); have GE101 := GW101; replace HB := aa.mk (ai bl_ hb); clear hb aK hg; obtain ⟨Un, Uo, Uq, hcz3_3, hcz3_4, hfz3_0, Ur, Us, hfz3_3, hfz3_4⟩ := bz LD.out))
 go_loopg [3, 9] k (fun kq v3 v9 w' => ∃ (gD : Int) (jA : Int), v3 = .int .i64 gD ∧ v9 = .int .i64 jA ∧ aa (eQ.l0 kq gD af (af.length : Int) jA = some r) ∧ aa (kq ≤ k) ∧ aa (w'.heap[gb101]? = some (.cells #[.int .i64 aj, .int .i64 av, .int .i64 ak, .int .i64 au, (.slice bA af.length aZ)] 24 (0, 0))) ∧ aa (Below w.heap.size w w'))
 case atStart => exact ⟨(0), (0), rs_, rs_, H', ⟨Nat.le_refl _⟩, ⟨bk_⟩, ⟨bl_⟩⟩
 case round =>
  clear H'; (try clear p2); (try clear c3); (try clear Un Uo Uq hcz3_3 hcz3_4 hfz3_0 Ur Us hfz3_3 hfz3_4); obtain ⟨gD, jA, rfl, rfl, HA, HK1, LD, HB⟩ := hrel; cases gk with
  | zero => exact absurd HA.out (by simp [eQ.l0])
  | succ k1 =>
   have H := HA.out; clear HA; simp only [eQ.l0] at H; by_cases c4 : jA < (af.length : Int)
   ·rw [if_pos c4] at H; have tT := decide_eq_true c4; clear c4; by_cases c5 : 0 ≤ jA
    ·rw [if_pos c5] at H; have jU := decide_eq_true c5; clear c5; by_cases c6 : jA < (af.length : Int)
     ·rw [if_pos c6] at H; have vT := decide_eq_true c6; clear c6; replace H := Option.bind_eq_some_iff.mp H; obtain ⟨t104, A70, H⟩ := H; (try dsimp only at H)
      have A7 := aa.mk A70; clear A70; obtain ⟨ji8, Iu⟩ : ∃ j_ : Int, (mx gD t104) = j_ := ⟨_, rfl⟩; replace H : (eQ.l0 k1 ji8 af (af.length : Int) (wrap64 (jA + 1))) = some r := by first | (rw [Iu] at H; exact H) | (simp only [Iu] at H ⊢; exact H)
      (try rw [Iu] at A7)
      have hji8_ : (if gD < t104 then t104 else gD) = ji8 := Iu; have H' := aa.mk H; clear H; have p102 : 0 ≤ (jA : Int) := dt_; have q102 : jA < (af.length : Int) := dt_; obtain ⟨ad102, A102_4, c102_4, e102, U3, U4, U5, U6, U7, U8, U9⟩ := ib cz.out jA p102 q102; cases e102; replace U3 := hc_ HB U3; replace U4 := hc_ HB U4; replace U5 := hc_ HB U5; replace U6 := hc_ HB U6; replace U7 := hc_ HB U7; have HR102_4 := aa.mk U9; have HC102_4 := aa.mk U8; clear U9 U8; replace p102 := eq_true p102; replace q102 := eq_true q102; go_wp2_with (first | ((with_reducible refine aU (N := 5) rfl ?_); refine aY ?hg (N := 5) ?hd (cs := #[.int .i64 0, .int .i64 0, .int .i64 0, .int .i64 0, .slice none 0 0]) (t := 24) ?hr ?_; (case hd => rfl); (case hg => rfl); (case hr => first | (go_simp; done) | (go_simp; rfl)); intro gb103 hg w9 aK hb; have BK103 := aa.mk (aK); have GW103 : aa (w.heap.size ≤ gb103) := gw_ hg (ax bl_); have GE103 := GW103; have YB := nl_ LD hg; have YC := ng_ LD hg; replace LD := kb_ LD hb; replace HB := aa.mk (ai bl_ hb); clear hb aK hg; have hnb10 := YC.out; have hnc10 := YB.out; obtain ⟨nR, nS, nT, oU, oV, nU, nV, nW, oW, oZ⟩ := bz BK103.out) | ((with_reducible refine aC (f := 38) rfl ?_); refine aX (some 15) rfl rfl Tryd.func38 (by kernel_rfl) rfl #[.agg #[.int .i64 ((ah af jA).f0), .int .i64 ((ah af jA).f1), .int .i64 ((ah af jA).f2), .int .i64 ((ah af jA).f3), .slice A102_4 ((ah af jA).f4).length c102_4]] rfl mp_ ?_; (with_reducible refine (ih k1 (by have := HK1.out; omega) ((ah af jA).f0) ((ah af jA).f1) ((ah af jA).f2) ((ah af jA).f3) _ _ ((ah af jA).f4) t104 _ ?ay ?az A7.out).mono ?_); (case ay => exact Kd.bB HR102_4.out bl_); (case az => exact HC102_4.out); rintro e w12 ⟨rfl, hb⟩; refine ⟨_, rfl, ?_⟩; replace LD := aa.mk (gJ (g := gb101) (o := .cells #[.int .i64 aj, .int .i64 av, .int .i64 ak, .int .i64 au, .slice (some ad102) af.length aZ] 24 (0, 0)) b5_ hb); replace BK103 := aa.mk (gJ (g := gb103) (o := .cells #[.int .i64 ((ah af jA).f0), .int .i64 ((ah af jA).f1), .int .i64 ((ah af jA).f2), .int .i64 ((ah af jA).f3), .slice A102_4 ((ah af jA).f4).length c102_4] 24 (0, 0)) b5_ hb); replace HB := aa.mk (ai bl_ hb); (try clear hb); (try clear hb2); (try clear hk); (try clear hi)))
      go_roundg k1
      case measure => have := HK1.out; omega
      case rel => exact ⟨(ji8), (wrap64 (jA + 1)), (by first | rfl | (simp; done) | (simp only [← Iu] <;> (first | rfl | simp)) | (simp [*]; done)), rs_, H', ⟨by have := HK1.out; omega⟩, ⟨bk_⟩, ⟨bl_⟩⟩
     ·rw [if_neg c6] at H; exact absurd H (by simp)
    ·rw [if_neg c5] at H; exact absurd H (by simp)
   ·rw [if_neg c4] at H; have tT := decide_eq_false c4; clear c4; obtain rfl := Option.some.inj H; go_wp2; go_ret; exact ⟨re_, bl_⟩

end Go.Proofs.YtggelekooacmnaaDoor.Q
namespace Go.Proofs.YtggelekooacmnaaDoor.Q
open Go.RowKit Go.Proofs.YtggelekooacmnaaDoorW.bg Go.Proofs.YtggelekooacmnaaDoorW.bW Go.Proofs.YtggelekooacmnaaDoorW.dh
attribute [local go_sem] fE fF gy gz eO eP fG fH   -- for this text's walks alone
set_option linter.unusedVariables false
set_option linter.unusedSimpArgs false

/-! ### jV: function 69 -/
def jV.f (aj : Int) (av : Int) (ak : Int) (au : Int) (af : List (S24)) : Option (Bool) := if aj = 2 then (if au = 0 then (some ((af.length : Int) != 0)) else (some true)) else (if aj = 6 then (if av = 0 then (some (ak != 0)) else (some true)) else (if aj = 5 then (if av = 0 then (if ak = 0 then (some (au != 0)) else (some true)) else (some true)) else (if av = 0 then (if ak = 0 then (if au = 0 then (some ((af.length : Int) != 0)) else (some true)) else (some true)) else (some true))))
set_option maxHeartbeats 8000000 in
set_option maxRecDepth 100000 in
theorem jV.calls (aj : Int) (av : Int) (ak : Int) (au : Int) (bA : Option Addr) (aZ : Nat) (af : List (S24)) (r : Bool) (w : World) (fK : Kd.C k24 w bA af.length af) (fM : af.length ≤ aZ) (h : jV.f aj av ak au af = some r) :
  Calls Tryd.prog 69 #[.agg #[.int .i64 aj, .int .i64 av, .int .i64 ak, .int .i64 au, .slice bA af.length aZ]] w fun e w' => e = .returned (.bool r) ∧ Below w.heap.size w w' := by
 have qb := Tryd.underlying24; have cz := aa.mk fK; have eZ := aa.mk fM; clear fK fM; have HB := aa.mk (Below.refl w.heap.size w); have H : (if aj = 2 then (if au = 0 then (some ((af.length : Int) != 0)) else (some true)) else (if aj = 6 then (if av = 0 then (some (ak != 0)) else (some true)) else (if aj = 5 then (if av = 0 then (if ak = 0 then (some (au != 0)) else (some true)) else (some true)) else (if av = 0 then (if ak = 0 then (if au = 0 then (some ((af.length : Int) != 0)) else (some true)) else (some true)) else (some true))))) = some r := h; clear h; by_cases c2 : aj = 2
 ·rw [if_pos c2] at H; obtain ⟨lv, oH⟩ := bq_ c2; clear c2; by_cases c3 : au = 0
  ·rw [if_pos c3] at H; obtain ⟨kI, nu⟩ := bq_ c3; clear c3; obtain rfl := Option.some.inj H; go_enter Tryd.func69, Tryd.ntmps69; go_wp2_with (first | ((with_reducible refine aU (N := 1) rfl ?_); (try (refine jF (by rfl) ?_; dsimp only)); refine aY ?hg (N := 1) ?hd (cs := #[.int .i64 aj, .int .i64 av, .int .i64 ak, .int .i64 au, .slice bA af.length aZ]) (t := 24) ?hr ?_; (case hd => rfl); (case hg => rfl); (case hr => first | (go_simp; done) | (go_simp; rfl)); intro qP hg w4 aK hb; have qQ := aa.mk (aK); have qR : aa (w.heap.size ≤ qP) := gw_ hg (ax bl_); have E8 := qR; replace HB := aa.mk (ai bl_ hb); clear hb aK hg; obtain ⟨Iw, Iy, Iz, IA, IB, IC, IE, IG, II, IJ⟩ := bz qQ.out))
   go_ret; exact ⟨re_, bl_⟩
  ·rw [if_neg c3] at H; obtain ⟨kI, nu⟩ := bn_ c3; obtain rfl := Option.some.inj H; go_enter Tryd.func69, Tryd.ntmps69; go_wp2_with (first | ((with_reducible refine aU (N := 1) rfl ?_); (try (refine jF (by rfl) ?_; dsimp only)); refine aY ?hg (N := 1) ?hd (cs := #[.int .i64 aj, .int .i64 av, .int .i64 ak, .int .i64 au, .slice bA af.length aZ]) (t := 24) ?hr ?_; (case hd => rfl); (case hg => rfl); (case hr => first | (go_simp; done) | (go_simp; rfl)); intro qP hg w6 aK hb; have qQ := aa.mk (aK); have qR : aa (w.heap.size ≤ qP) := gw_ hg (ax bl_); have E8 := qR; replace HB := aa.mk (ai bl_ hb); clear hb aK hg; obtain ⟨Dk, Dl, Dm, Ut, Uu, FB, Dn, Dp, Uv, Uw⟩ := bz qQ.out))
   go_ret; exact ⟨re_, bl_⟩
 ·rw [if_neg c2] at H; obtain ⟨lv, oH⟩ := bn_ c2; by_cases c8 : aj = 6
  ·rw [if_pos c8] at H; obtain ⟨ko, ny⟩ := bq_ c8; clear c8; by_cases c9 : av = 0
   ·rw [if_pos c9] at H; obtain ⟨vH, yM⟩ := bq_ c9; clear c9; obtain rfl := Option.some.inj H; go_enter Tryd.func69, Tryd.ntmps69; go_wp2_with (first | ((with_reducible refine aU (N := 1) rfl ?_); (try (refine jF (by rfl) ?_; dsimp only)); refine aY ?hg (N := 1) ?hd (cs := #[.int .i64 aj, .int .i64 av, .int .i64 ak, .int .i64 au, .slice bA af.length aZ]) (t := 24) ?hr ?_; (case hd => rfl); (case hg => rfl); (case hr => first | (go_simp; done) | (go_simp; rfl)); intro qP hg w10 aK hb; have qQ := aa.mk (aK); have qR : aa (w.heap.size ≤ qP) := gw_ hg (ax bl_); have E8 := qR; replace HB := aa.mk (ai bl_ hb); clear hb aK hg; obtain ⟨nR, nS, nT, oU, oV, nU, nV, nW, oW, oZ⟩ := bz qQ.out))
    go_ret; exact ⟨re_, bl_⟩
   ·rw [if_neg c9] at H; obtain ⟨vH, yM⟩ := bn_ c9; obtain rfl := Option.some.inj H; go_enter Tryd.func69, Tryd.ntmps69; go_wp2_with (first | ((with_reducible refine aU (N := 1) rfl ?_); (try (refine jF (by rfl) ?_; dsimp only)); refine aY ?hg (N := 1) ?hd (cs := #[.int .i64 aj, .int .i64 av, .int .i64 ak, .int .i64 au, .slice bA af.length aZ]) (t := 24) ?hr ?_; (case hd => rfl); (case hg => rfl); (case hr => first | (go_simp; done) | (go_simp; rfl)); intro qP hg w12 aK hb; have qQ := aa.mk (aK); have qR : aa (w.heap.size ≤ qP) := gw_ hg (ax bl_); have E8 := qR; replace HB := aa.mk (ai bl_ hb); clear hb aK hg; obtain ⟨vU, vV, vW, xX, xY, vX, vY, vZ, xZ, yc⟩ := bz qQ.out))
    go_ret; exact ⟨re_, bl_⟩
  ·rw [if_neg c8] at H; obtain ⟨ko, ny⟩ := bn_ c8; by_cases c14 : aj = 5
   ·rw [if_pos c14] at H; obtain ⟨sI, E9⟩ := bq_ c14; clear c14; by_cases c15 : av = 0
    ·rw [if_pos c15] at H; obtain ⟨yR, JE⟩ := bq_ c15; clear c15; by_cases c16 : ak = 0
     ·rw [if_pos c16] at H; obtain ⟨Gf, LF⟩ := bq_ c16; clear c16; obtain rfl := Option.some.inj H; go_enter Tryd.func69, Tryd.ntmps69; go_wp2_with (first | ((with_reducible refine aU (N := 1) rfl ?_); (try (refine jF (by rfl) ?_; dsimp only)); refine aY ?hg (N := 1) ?hd (cs := #[.int .i64 aj, .int .i64 av, .int .i64 ak, .int .i64 au, .slice bA af.length aZ]) (t := 24) ?hr ?_; (case hd => rfl); (case hg => rfl); (case hr => first | (go_simp; done) | (go_simp; rfl)); intro qP hg w17 aK hb; have qQ := aa.mk (aK); have qR : aa (w.heap.size ≤ qP) := gw_ hg (ax bl_); have E8 := qR; replace HB := aa.mk (ai bl_ hb); clear hb aK hg; obtain ⟨qc, qd, qf, ry, rz, qg, qh, qi, rA, rC⟩ := bz qQ.out))
      go_ret; exact ⟨re_, bl_⟩
     ·rw [if_neg c16] at H; obtain ⟨Gf, LF⟩ := bn_ c16; obtain rfl := Option.some.inj H; go_enter Tryd.func69, Tryd.ntmps69; go_wp2_with (first | ((with_reducible refine aU (N := 1) rfl ?_); (try (refine jF (by rfl) ?_; dsimp only)); refine aY ?hg (N := 1) ?hd (cs := #[.int .i64 aj, .int .i64 av, .int .i64 ak, .int .i64 au, .slice bA af.length aZ]) (t := 24) ?hr ?_; (case hd => rfl); (case hg => rfl); (case hr => first | (go_simp; done) | (go_simp; rfl)); intro qP hg w19 aK hb; have qQ := aa.mk (aK); have qR : aa (w.heap.size ≤ qP) := gw_ hg (ax bl_); have E8 := qR; replace HB := aa.mk (ai bl_ hb); clear hb aK hg; obtain ⟨rD, rE, rF, tq, tu, rG, rH, rJ, tC, tF⟩ := bz qQ.out))
      go_ret; exact ⟨re_, bl_⟩
    ·rw [if_neg c15] at H; obtain ⟨yR, JE⟩ := bn_ c15; obtain rfl := Option.some.inj H; go_enter Tryd.func69, Tryd.ntmps69; go_wp2_with (first | ((with_reducible refine aU (N := 1) rfl ?_); (try (refine jF (by rfl) ?_; dsimp only)); refine aY ?hg (N := 1) ?hd (cs := #[.int .i64 aj, .int .i64 av, .int .i64 ak, .int .i64 au, .slice bA af.length aZ]) (t := 24) ?hr ?_; (case hd => rfl); (case hg => rfl); (case hr => first | (go_simp; done) | (go_simp; rfl)); intro qP hg w21 aK hb; have qQ := aa.mk (aK); have qR : aa (w.heap.size ≤ qP) := gw_ hg (ax bl_); have E8 := qR; replace HB := aa.mk (ai bl_ hb); clear hb aK hg; obtain ⟨qj, ql, qm, rM, rO, qo, qp, qw, rP, rQ⟩ := bz qQ.out))
     go_ret; exact ⟨re_, bl_⟩
   ·rw [if_neg c14] at H; obtain ⟨sI, E9⟩ := bn_ c14; by_cases c23 : av = 0
    ·rw [if_pos c23] at H; obtain ⟨qU, vz⟩ := bq_ c23; clear c23; by_cases c24 : ak = 0
     ·rw [if_pos c24] at H; obtain ⟨yS, Pb⟩ := bq_ c24; clear c24; by_cases c25 : au = 0
      ·rw [if_pos c25] at H; obtain ⟨JF, JG⟩ := bq_ c25; clear c25; obtain rfl := Option.some.inj H; go_enter Tryd.func69, Tryd.ntmps69; go_wp2_with (first | ((with_reducible refine aU (N := 1) rfl ?_); (try (refine jF (by rfl) ?_; dsimp only)); refine aY ?hg (N := 1) ?hd (cs := #[.int .i64 aj, .int .i64 av, .int .i64 ak, .int .i64 au, .slice bA af.length aZ]) (t := 24) ?hr ?_; (case hd => rfl); (case hg => rfl); (case hr => first | (go_simp; done) | (go_simp; rfl)); intro qP hg w26 aK hb; have qQ := aa.mk (aK); have qR : aa (w.heap.size ≤ qP) := gw_ hg (ax bl_); have E8 := qR; replace HB := aa.mk (ai bl_ hb); clear hb aK hg; obtain ⟨yf, yg, yh, yj, yl, ym, yn, yo, yt, yu⟩ := bz qQ.out))
       go_ret; exact ⟨re_, bl_⟩
      ·rw [if_neg c25] at H; obtain ⟨JF, JG⟩ := bn_ c25; obtain rfl := Option.some.inj H; go_enter Tryd.func69, Tryd.ntmps69; go_wp2_with (first | ((with_reducible refine aU (N := 1) rfl ?_); (try (refine jF (by rfl) ?_; dsimp only)); refine aY ?hg (N := 1) ?hd (cs := #[.int .i64 aj, .int .i64 av, .int .i64 ak, .int .i64 au, .slice bA af.length aZ]) (t := 24) ?hr ?_; (case hd => rfl); (case hg => rfl); (case hr => first | (go_simp; done) | (go_simp; rfl)); intro qP hg w28 aK hb; have qQ := aa.mk (aK); have qR : aa (w.heap.size ≤ qP) := gw_ hg (ax bl_); have E8 := qR; replace HB := aa.mk (ai bl_ hb); clear hb aK hg; obtain ⟨BM, BN, BO, BP, BQ, BR, BS, BU, BV, BX⟩ := bz qQ.out))
       go_ret; exact ⟨re_, bl_⟩
     ·rw [if_neg c24] at H; obtain ⟨yS, Pb⟩ := bn_ c24; obtain rfl := Option.some.inj H; go_enter Tryd.func69, Tryd.ntmps69; go_wp2_with (first | ((with_reducible refine aU (N := 1) rfl ?_); (try (refine jF (by rfl) ?_; dsimp only)); refine aY ?hg (N := 1) ?hd (cs := #[.int .i64 aj, .int .i64 av, .int .i64 ak, .int .i64 au, .slice bA af.length aZ]) (t := 24) ?hr ?_; (case hd => rfl); (case hg => rfl); (case hr => first | (go_simp; done) | (go_simp; rfl)); intro qP hg w30 aK hb; have qQ := aa.mk (aK); have qR : aa (w.heap.size ≤ qP) := gw_ hg (ax bl_); have E8 := qR; replace HB := aa.mk (ai bl_ hb); clear hb aK hg; obtain ⟨zy, zz, zA, BZ, Ca, zB, zC, zD, Cb, Cc⟩ := bz qQ.out))
      go_ret; exact ⟨re_, bl_⟩
    ·rw [if_neg c23] at H; obtain ⟨qU, vz⟩ := bn_ c23; obtain rfl := Option.some.inj H; go_enter Tryd.func69, Tryd.ntmps69; go_wp2_with (first | ((with_reducible refine aU (N := 1) rfl ?_); (try (refine jF (by rfl) ?_; dsimp only)); refine aY ?hg (N := 1) ?hd (cs := #[.int .i64 aj, .int .i64 av, .int .i64 ak, .int .i64 au, .slice bA af.length aZ]) (t := 24) ?hr ?_; (case hd => rfl); (case hg => rfl); (case hr => first | (go_simp; done) | (go_simp; rfl)); intro qP hg w32 aK hb; have qQ := aa.mk (aK); have qR : aa (w.heap.size ≤ qP) := gw_ hg (ax bl_); have E8 := qR; replace HB := aa.mk (ai bl_ hb); clear hb aK hg; obtain ⟨GD, GG, GH, Ke, Kg, GI, GJ, GK, Kh, Ki⟩ := bz qQ.out))
     go_ret; exact ⟨re_, bl_⟩

end Go.Proofs.YtggelekooacmnaaDoor.Q
namespace Go.Proofs.YtggelekooacmnaaDoor.Q
open Go.RowKit Go.Proofs.YtggelekooacmnaaDoorW.bg Go.Proofs.YtggelekooacmnaaDoorW.bW Go.Proofs.YtggelekooacmnaaDoorW.dh
attribute [local go_sem] fE fF gy gz eO eP fG fH   -- for this text's walks alone
set_option linter.unusedVariables false
set_option linter.unusedSimpArgs false

/-! ### bf: function 39 -/
mutual
def bf.j0 : Nat → Bool → Int → Int → Int → Int → List (S24) → Option (Int)
 | 0, _, _, _, _, _, _ => none
 | k + 1, x15, yw, zF, zG, zH, l5 => if x15 = true then (some 14) else ((jV.f yw zF zG zH l5).bind fun t107 => (if t107 = true then (some 2) else (if yw = 2 then (if zF < (-1000) then (some 1) else (if zF > zG then (some 1) else (if zG > 1000 then (some 1) else (some 0)))) else (if yw = 5 then (if (l5.length : Int) < 2 then (bf.j1 k true yw zF zG zH l5) else (bf.j1 k (decide ((l5.length : Int) > 4)) yw zF zG zH l5)) else (if yw = 6 then (if zH < 1 then (bf.j3 k true yw zF zG zH l5) else (bf.j3 k (decide (zH > 4)) yw zF zG zH l5)) else (some 0))))))
def bf.j1 : Nat → Bool → Int → Int → Int → Int → List (S24) → Option (Int)
 | 0, _, _, _, _, _, _ => none
 | k + 1, x48, yw, zF, zG, zH, l5 => if x48 = true then (some 1) else (bf.l0 k l5 (l5.length : Int) 0)
def bf.l0 : Nat → List (S24) → Int → Int → Option (Int)
 | 0, _, _, _ => none
 | k + 1, x50, x51, x52 => if x52 < x51 then (if 0 ≤ x52 then (if x52 < (x50.length : Int) then ((bf.f k ((ah x50 x52).f0) ((ah x50 x52).f1) ((ah x50 x52).f2) ((ah x50 x52).f3) ((ah x50 x52).f4)).bind fun t110 => (if t110 = 0 then (if ((ah x50 x52).f0) = 3 then (some 8) else (if ((ah x50 x52).f0) = 4 then (some 8) else (bf.l0 k x50 x51 (wrap64 (x52 + 1))))) else (some t110))) else (none)) else (none)) else (some 0)
def bf.j3 : Nat → Bool → Int → Int → Int → Int → List (S24) → Option (Int)
 | 0, _, _, _, _, _, _ => none
 | k + 1, x79, yw, zF, zG, zH, l5 => if x79 = true then (some 1) else (if (l5.length : Int) = 1 then (if 0 < (l5.length : Int) then ((bf.f k ((ah l5 0).f0) ((ah l5 0).f1) ((ah l5 0).f2) ((ah l5 0).f3) ((ah l5 0).f4)).bind fun t112 => (if t112 = 0 then (if ((ah l5 0).f0) = 1 then (some 0) else (if ((ah l5 0).f0) = 2 then (some 0) else (some 8))) else (some t112))) else (none)) else (some 2))
def bf.f : Nat → Int → Int → Int → Int → List (S24) → Option (Int)
 | 0, _, _, _, _, _ => none
 | k + 1, aj, av, ak, au, af => if aj < 1 then (bf.j0 k true aj av ak au af) else (bf.j0 k (decide (aj > 6)) aj av ak au af)
end
theorem bf.iQ : ∀ k, (∀ y0 y1 y2 y3 y4, LeO (bf.f k y0 y1 y2 y3 y4) (bf.f (k + 1) y0 y1 y2 y3 y4)) ∧ (∀ y0 y1 y2 y3 y4 y5, LeO (bf.j0 k y0 y1 y2 y3 y4 y5) (bf.j0 (k + 1) y0 y1 y2 y3 y4 y5)) ∧ (∀ y0 y1 y2 y3 y4 y5, LeO (bf.j1 k y0 y1 y2 y3 y4 y5) (bf.j1 (k + 1) y0 y1 y2 y3 y4 y5)) ∧ (∀ y0 y1 y2, LeO (bf.l0 k y0 y1 y2) (bf.l0 (k + 1) y0 y1 y2)) ∧ (∀ y0 y1 y2 y3 y4 y5, LeO (bf.j3 k y0 y1 y2 y3 y4 y5) (bf.j3 (k + 1) y0 y1 y2 y3 y4 y5))
 | 0 => ⟨fun _ _ _ _ _ r h => by simp [bf.f] at h, fun _ _ _ _ _ _ r h => by simp [bf.j0] at h, fun _ _ _ _ _ _ r h => by simp [bf.j1] at h, fun _ _ _ r h => by simp [bf.l0] at h, fun _ _ _ _ _ _ r h => by simp [bf.j3] at h⟩
 | k + 1 => by
  obtain ⟨ih0, ih1, ih2, ih3, ih4⟩ := bf.iQ k; refine ⟨?_, ?_, ?_, ?_, ?_⟩
  ·intro y0 y1 y2 y3 y4; unfold bf.f; repeat' first
   | (with_reducible exact ih0 _ _ _ _ _)
   | (with_reducible exact ih1 _ _ _ _ _ _)
   | (with_reducible exact ih2 _ _ _ _ _ _)
   | (with_reducible exact ih3 _ _ _)
   | (with_reducible exact ih4 _ _ _ _ _ _)
   | (with_reducible exact LeO.refl _)
   | (with_reducible exact LeO.none _)
   | (with_reducible refine LeO.ite ?_ ?_)
   | (with_reducible refine LeO.bind ?_ (fun _ => ?_))
   | exact ih0 _ _ _ _ _
   | exact ih1 _ _ _ _ _ _
   | exact ih2 _ _ _ _ _ _
   | exact ih3 _ _ _
   | exact ih4 _ _ _ _ _ _
   | exact LeO.none _
   | refine LeO.ite ?_ ?_
   | refine LeO.bind ?_ (fun _ => ?_)
  ·intro y0 y1 y2 y3 y4 y5; unfold bf.j0; repeat' first
   | (with_reducible exact ih0 _ _ _ _ _)
   | (with_reducible exact ih1 _ _ _ _ _ _)
   | (with_reducible exact ih2 _ _ _ _ _ _)
   | (with_reducible exact ih3 _ _ _)
   | (with_reducible exact ih4 _ _ _ _ _ _)
   | (with_reducible exact LeO.refl _)
   | (with_reducible exact LeO.none _)
   | (with_reducible refine LeO.ite ?_ ?_)
   | (with_reducible refine LeO.bind ?_ (fun _ => ?_))
   | exact ih0 _ _ _ _ _
   | exact ih1 _ _ _ _ _ _
   | exact ih2 _ _ _ _ _ _
   | exact ih3 _ _ _
   | exact ih4 _ _ _ _ _ _
   | exact LeO.none _
   | refine LeO.ite ?_ ?_
   | refine LeO.bind ?_ (fun _ => ?_)
  ·intro y0 y1 y2 y3 y4 y5; unfold bf.j1; repeat' first
   | (with_reducible exact ih0 _ _ _ _ _)
   | (with_reducible exact ih1 _ _ _ _ _ _)
   | (with_reducible exact ih2 _ _ _ _ _ _)
   | (with_reducible exact ih3 _ _ _)
   | (with_reducible exact ih4 _ _ _ _ _ _)
   | (with_reducible exact LeO.refl _)
   | (with_reducible exact LeO.none _)
   | (with_reducible refine LeO.ite ?_ ?_)
   | (with_reducible refine LeO.bind ?_ (fun _ => ?_))
   | exact ih0 _ _ _ _ _
   | exact ih1 _ _ _ _ _ _
   | exact ih2 _ _ _ _ _ _
   | exact ih3 _ _ _
   | exact ih4 _ _ _ _ _ _
   | exact LeO.none _
   | refine LeO.ite ?_ ?_
   | refine LeO.bind ?_ (fun _ => ?_)
  ·intro y0 y1 y2; unfold bf.l0; repeat' first
   | (with_reducible exact ih0 _ _ _ _ _)
   | (with_reducible exact ih1 _ _ _ _ _ _)
   | (with_reducible exact ih2 _ _ _ _ _ _)
   | (with_reducible exact ih3 _ _ _)
   | (with_reducible exact ih4 _ _ _ _ _ _)
   | (with_reducible exact LeO.refl _)
   | (with_reducible exact LeO.none _)
   | (with_reducible refine LeO.ite ?_ ?_)
   | (with_reducible refine LeO.bind ?_ (fun _ => ?_))
   | exact ih0 _ _ _ _ _
   | exact ih1 _ _ _ _ _ _
   | exact ih2 _ _ _ _ _ _
   | exact ih3 _ _ _
   | exact ih4 _ _ _ _ _ _
   | exact LeO.none _
   | refine LeO.ite ?_ ?_
   | refine LeO.bind ?_ (fun _ => ?_)
  ·intro y0 y1 y2 y3 y4 y5; unfold bf.j3; repeat' first
   | (with_reducible exact ih0 _ _ _ _ _)
   | (with_reducible exact ih1 _ _ _ _ _ _)
   | (with_reducible exact ih2 _ _ _ _ _ _)
   | (with_reducible exact ih3 _ _ _)
   | (with_reducible exact ih4 _ _ _ _ _ _)
   | (with_reducible exact LeO.refl _)
   | (with_reducible exact LeO.none _)
   | (with_reducible refine LeO.ite ?_ ?_)
   | (with_reducible refine LeO.bind ?_ (fun _ => ?_))
   | exact ih0 _ _ _ _ _
   | exact ih1 _ _ _ _ _ _
   | exact ih2 _ _ _ _ _ _
   | exact ih3 _ _ _
   | exact ih4 _ _ _ _ _ _
   | exact LeO.none _
   | refine LeO.ite ?_ ?_
   | refine LeO.bind ?_ (fun _ => ?_)
theorem bf.mono : ∀ a0 a1 a2 a3 a4 k, LeO (bf.f k a0 a1 a2 a3 a4) (bf.f (k + 1) a0 a1 a2 a3 a4) := by
 intro a0 a1 a2 a3 a4 k; obtain ⟨ih0, ih1, ih2, ih3, ih4⟩ := bf.iQ k; exact ih0 a0 a1 a2 a3 a4
set_option maxHeartbeats 8000000 in
set_option maxRecDepth 100000 in
theorem bf.calls (k : Nat) : ∀ (aj : Int) (av : Int) (ak : Int) (au : Int) (bA : Option Addr) (aZ : Nat) (af : List (S24)) (r : Int) (w : World) (fK : Kd.C k24 w bA af.length af) (fM : af.length ≤ aZ) (h : bf.f k aj av ak au af = some r),
  Calls Tryd.prog 39 #[.agg #[.int .i64 aj, .int .i64 av, .int .i64 ak, .int .i64 au, .slice bA af.length aZ]] w fun e w' => e = .returned (.int .i64 r) ∧ Below w.heap.size w w' := by
 induction k using Nat.strongRecOn with
 | _ k ih =>
 intro aj av ak au bA aZ af r w fK fM h; cases k with
 | zero => exact absurd h (by simp [bf.f])
 | succ k =>
 simp only [bf.f] at h; have qb := Tryd.underlying24; have cz := aa.mk fK; have eZ := aa.mk fM; clear fK fM; have HB := aa.mk (Below.refl w.heap.size w); have H : (if aj < 1 then (bf.j0 k true aj av ak au af) else (bf.j0 k (decide (aj > 6)) aj av ak au af)) = some r := h; clear h; have HC2 := aa.mk H; clear H; go_enter Tryd.func39, Tryd.ntmps39; go_upto_region 1 with (first | ((with_reducible refine aU (N := 1) rfl ?_); (try (refine jF (by rfl) ?_; dsimp only)); refine aY ?hg (N := 1) ?hd (cs := #[.int .i64 aj, .int .i64 av, .int .i64 ak, .int .i64 au, .slice bA af.length aZ]) (t := 24) ?hr ?_; (case hd => rfl); (case hg => rfl); (case hr => first | (go_simp; done) | (go_simp; rfl)); intro Gg hg w3 aK hb; have fV := aa.mk (aK); have GW106 : aa (w.heap.size ≤ Gg) := gw_ hg (ax bl_); have GE106 := GW106; replace HB := aa.mk (ai bl_ hb); clear hb aK hg))
 (try simp only [Act.put, List.setIfInBounds_toArray, List.set_cons_zero, List.set_cons_succ])
 go_cut [15] (fun v15 wc => ∃ (kq : Nat) (x15_1 : Bool), v15 = .bool x15_1 ∧ aa (bf.j0 kq x15_1 aj av ak au af = some r) ∧ aa (kq ≤ k) ∧ aa (wc.heap[Gg]? = some (.cells #[.int .i64 aj, .int .i64 av, .int .i64 ak, .int .i64 au, (.slice bA af.length aZ)] 24 (0, 0))) ∧ aa (Below w.heap.size w wc))
 case first =>
  have H := HC2.out; clear HC2; by_cases c4 : aj < 1
  ·rw [if_pos c4] at H; have tT := decide_eq_true c4; clear c4; (first | rw [tT] | (simp only [eT, fA]; rw [tT]) | skip)
   have H' := aa.mk H; clear H; obtain ⟨Iw, Iy, Iz, IA, IB, IC, IE, IG, II, IJ⟩ := bz fV.out; go_wp2; go_meet
   case rel => exact ⟨_, (true), rs_, H', ⟨by first | omega | exact Nat.le_refl _⟩, ⟨bk_⟩, ⟨bl_⟩⟩
  ·rw [if_neg c4] at H; have tT := decide_eq_false c4; clear c4; (first | rw [tT] | (simp only [eT, fA]; rw [tT]) | skip)
   have H' := aa.mk H; clear H; obtain ⟨pM, pO, pQ, pR, pU, pV, pW, pX, pY, p8⟩ := bz fV.out; go_wp2; go_meet
   case rel => exact ⟨_, (decide (aj > 6)), rs_, H', ⟨by first | omega | exact Nat.le_refl _⟩, ⟨bk_⟩, ⟨bl_⟩⟩
 case rest =>
  clear HC2; (try clear p2); (try clear c3); (try clear c4); (try clear tT); (try clear Iw Iy Iz IA IB IC IE IG II IJ); (try clear pM pO pQ pR pU pV pW pX pY p8); obtain ⟨kq, x15_1, rfl, HA, HJ1, fV, HB⟩ := hcut; cases kq with
  | zero => exact absurd HA.out (by simp [bf.j0])
  | succ kj1 =>
   have H := HA.out; clear HA; simp only [bf.j0] at H; by_cases c7 : x15_1 = true
   ·subst c7; have H1 : (some 14) = some r := by rw [if_pos rfl] at H; exact H
    clear H; have H := H1; clear H1; obtain rfl := Option.some.inj H; go_wp2; go_ret; exact ⟨re_, bl_⟩
   ·replace c7 := Bool.eq_false_iff.mpr c7; subst c7; have H1 : ((jV.f aj av ak au af).bind fun t107 => (if t107 = true then (some 2) else (if aj = 2 then (if av < (-1000) then (some 1) else (if av > ak then (some 1) else (if ak > 1000 then (some 1) else (some 0)))) else (if aj = 5 then (if (af.length : Int) < 2 then (bf.j1 kj1 true aj av ak au af) else (bf.j1 kj1 (decide ((af.length : Int) > 4)) aj av ak au af)) else (if aj = 6 then (if au < 1 then (bf.j3 kj1 true aj av ak au af) else (bf.j3 kj1 (decide (au > 4)) aj av ak au af)) else (some 0)))))) = some r := by rw [if_neg (show ¬ (false = true) by decide)] at H; exact H
    clear H; have H := H1; clear H1; replace H := Option.bind_eq_some_iff.mp H; obtain ⟨t107, A80, H⟩ := H; (try dsimp only at H)
    have A8 := aa.mk A80; clear A80; by_cases c9 : t107 = true
    ·subst c9; have H1 : (some 2) = some r := by rw [if_pos rfl] at H; exact H
     clear H; have H := H1; clear H1; obtain rfl := Option.some.inj H; obtain ⟨zI, zJ, zK, Ce, Cf, zL, zM, zN, Cg, Ch⟩ := bz fV.out; go_wp2_with (first | ((with_reducible refine aC (f := 69) rfl ?_); refine aX (some 17) rfl rfl Tryd.func69 (by kernel_rfl) rfl #[.agg #[.int .i64 aj, .int .i64 av, .int .i64 ak, .int .i64 au, .slice bA af.length aZ]] rfl mp_ ?_; (with_reducible refine (jV.calls aj av ak au _ _ af true _ ?ay ?az A8.out).mono ?_); (case ay => exact cb_ (Kd.bB cz.out HB.out)); (case az => exact eZ.out); rintro e w11 ⟨rfl, hb⟩; refine ⟨_, rfl, ?_⟩; replace fV := kb_ fV hb; replace HB := aa.mk (ai bl_ hb); (try clear hb); (try clear hb2); (try clear hk); (try clear hi)))
     go_ret; exact ⟨re_, bl_⟩
    ·replace c9 := Bool.eq_false_iff.mpr c9; subst c9; have H1 : (if aj = 2 then (if av < (-1000) then (some 1) else (if av > ak then (some 1) else (if ak > 1000 then (some 1) else (some 0)))) else (if aj = 5 then (if (af.length : Int) < 2 then (bf.j1 kj1 true aj av ak au af) else (bf.j1 kj1 (decide ((af.length : Int) > 4)) aj av ak au af)) else (if aj = 6 then (if au < 1 then (bf.j3 kj1 true aj av ak au af) else (bf.j3 kj1 (decide (au > 4)) aj av ak au af)) else (some 0)))) = some r := by rw [if_neg (show ¬ (false = true) by decide)] at H; exact H
     clear H; have H := H1; clear H1; by_cases c12 : aj = 2
     ·rw [if_pos c12] at H; obtain ⟨yT, Dq⟩ := bq_ c12; clear c12; by_cases c13 : av < (-1000)
      ·rw [if_pos c13] at H; have rR := decide_eq_true c13; clear c13; obtain rfl := Option.some.inj H; obtain ⟨mr, mD, mE, mF, mG, mH, mI, mJ, mK, mM⟩ := bz fV.out; go_wp2_with (first | ((with_reducible refine aC (f := 69) rfl ?_); refine aX (some 17) rfl rfl Tryd.func69 (by kernel_rfl) rfl #[.agg #[.int .i64 aj, .int .i64 av, .int .i64 ak, .int .i64 au, .slice bA af.length aZ]] rfl mp_ ?_; (with_reducible refine (jV.calls aj av ak au _ _ af false _ ?ay ?az A8.out).mono ?_); (case ay => exact cb_ (Kd.bB cz.out HB.out)); (case az => exact eZ.out); rintro e w15 ⟨rfl, hb⟩; refine ⟨_, rfl, ?_⟩; replace fV := kb_ fV hb; replace HB := aa.mk (ai bl_ hb); (try clear hb); (try clear hb2); (try clear hk); (try clear hi); obtain ⟨nX, nY, nZ, tH, tJ, og, oh, om, tK, tL⟩ := bz fV.out))
       go_ret; exact ⟨re_, bl_⟩
      ·rw [if_neg c13] at H; have rR := decide_eq_false c13; clear c13; by_cases c17 : av > ak
       ·rw [if_pos c17] at H; have qV : decide (ak < av) = true := decide_eq_true c17; clear c17; obtain rfl := Option.some.inj H; obtain ⟨qc, qd, qf, ry, rz, qg, qh, qi, rA, rC⟩ := bz fV.out; go_wp2_with (first | ((with_reducible refine aC (f := 69) rfl ?_); refine aX (some 17) rfl rfl Tryd.func69 (by kernel_rfl) rfl #[.agg #[.int .i64 aj, .int .i64 av, .int .i64 ak, .int .i64 au, .slice bA af.length aZ]] rfl mp_ ?_; (with_reducible refine (jV.calls aj av ak au _ _ af false _ ?ay ?az A8.out).mono ?_); (case ay => exact cb_ (Kd.bB cz.out HB.out)); (case az => exact eZ.out); rintro e w19 ⟨rfl, hb⟩; refine ⟨_, rfl, ?_⟩; replace fV := kb_ fV hb; replace HB := aa.mk (ai bl_ hb); (try clear hb); (try clear hb2); (try clear hk); (try clear hi); obtain ⟨rD, rE, rF, tq, tu, rG, rH, rJ, tC, tF⟩ := bz fV.out))
        go_ret; exact ⟨re_, bl_⟩
       ·rw [if_neg c17] at H; have qV : decide (ak < av) = false := decide_eq_false c17; clear c17; by_cases c21 : ak > 1000
        ·rw [if_pos c21] at H; have Fa : decide (1000 < ak) = true := decide_eq_true c21; clear c21; obtain rfl := Option.some.inj H; obtain ⟨qj, ql, qm, rM, rO, qo, qp, qw, rP, rQ⟩ := bz fV.out; go_wp2_with (first | ((with_reducible refine aC (f := 69) rfl ?_); refine aX (some 17) rfl rfl Tryd.func69 (by kernel_rfl) rfl #[.agg #[.int .i64 aj, .int .i64 av, .int .i64 ak, .int .i64 au, .slice bA af.length aZ]] rfl mp_ ?_; (with_reducible refine (jV.calls aj av ak au _ _ af false _ ?ay ?az A8.out).mono ?_); (case ay => exact cb_ (Kd.bB cz.out HB.out)); (case az => exact eZ.out); rintro e w23 ⟨rfl, hb⟩; refine ⟨_, rfl, ?_⟩; replace fV := kb_ fV hb; replace HB := aa.mk (ai bl_ hb); (try clear hb); (try clear hb2); (try clear hk); (try clear hi); obtain ⟨Ci, Cj, Ck, D6, D7, Cm, Cn, Co, D8, D9⟩ := bz fV.out))
         go_ret; exact ⟨re_, bl_⟩
        ·rw [if_neg c21] at H; have Fa : decide (1000 < ak) = false := decide_eq_false c21; clear c21; obtain rfl := Option.some.inj H; obtain ⟨zO, zP, zQ, zR, zS, zT, zU, zV, zW, zX⟩ := bz fV.out; go_wp2_with (first | ((with_reducible refine aC (f := 69) rfl ?_); refine aX (some 17) rfl rfl Tryd.func69 (by kernel_rfl) rfl #[.agg #[.int .i64 aj, .int .i64 av, .int .i64 ak, .int .i64 au, .slice bA af.length aZ]] rfl mp_ ?_; (with_reducible refine (jV.calls aj av ak au _ _ af false _ ?ay ?az A8.out).mono ?_); (case ay => exact cb_ (Kd.bB cz.out HB.out)); (case az => exact eZ.out); rintro e w26 ⟨rfl, hb⟩; refine ⟨_, rfl, ?_⟩; replace fV := kb_ fV hb; replace HB := aa.mk (ai bl_ hb); (try clear hb); (try clear hb2); (try clear hk); (try clear hi); obtain ⟨yf, yg, yh, yj, yl, ym, yn, yo, yt, yu⟩ := bz fV.out))
         go_ret; exact ⟨re_, bl_⟩
     ·rw [if_neg c12] at H; obtain ⟨yT, Dq⟩ := bn_ c12; by_cases c28 : aj = 5
      ·rw [if_pos c28] at H; obtain ⟨Pd, c28b1⟩ := bq_ c28; clear c28; have HC29 := aa.mk H; clear H; obtain ⟨Ea, Eb, Ec, Ed, Ee, Ef, Eg, Eh, Ei, Ej⟩ := bz fV.out; go_upto_region 10 with (first | ((with_reducible refine aC (f := 69) rfl ?_); refine aX (some 17) rfl rfl Tryd.func69 (by kernel_rfl) rfl #[.agg #[.int .i64 aj, .int .i64 av, .int .i64 ak, .int .i64 au, .slice bA af.length aZ]] rfl mp_ ?_; (with_reducible refine (jV.calls aj av ak au _ _ af false _ ?ay ?az A8.out).mono ?_); (case ay => exact cb_ (Kd.bB cz.out HB.out)); (case az => exact eZ.out); rintro e w31 ⟨rfl, hb⟩; refine ⟨_, rfl, ?_⟩; replace fV := kb_ fV hb; replace HB := aa.mk (ai bl_ hb); (try clear hb); (try clear hb2); (try clear hk); (try clear hi); obtain ⟨GL, GM, GN, GQ, GR, GU, GV, GX, GY, GZ⟩ := bz fV.out))
       (try simp only [Act.put, List.setIfInBounds_toArray, List.set_cons_zero, List.set_cons_succ])
       go_cut [48] (fun v48 wc => ∃ (kq : Nat) (Pe : Bool), v48 = .bool Pe ∧ aa (bf.j1 kq Pe aj av ak au af = some r) ∧ aa (kq ≤ kj1) ∧ aa (wc.heap[Gg]? = some (.cells #[.int .i64 aj, .int .i64 av, .int .i64 ak, .int .i64 au, (.slice bA af.length aZ)] 24 (0, 0))) ∧ aa (Below w.heap.size w wc))
       case first =>
        have H := HC29.out; clear HC29; by_cases c33 : (af.length : Int) < 2
        ·rw [if_pos c33] at H; have Fb := decide_eq_true c33; have c33b1 : decide (af.length < 2) = true := decide_eq_true (by omega); clear c33; (first | rw [Fb] | (simp only [eT, fA]; rw [Fb]) | skip)
         have H' := aa.mk H; clear H; obtain ⟨Cq, Cr, Cs, El, Em, Ct, Cu, Cv, En, Eo⟩ := bz fV.out; go_wp2; go_meet
         case rel => exact ⟨_, (true), rs_, H', ⟨by have := HJ1.out; first | omega | exact Nat.le_refl _⟩, ⟨bk_⟩, ⟨bl_⟩⟩
        ·rw [if_neg c33] at H; have Fb := decide_eq_false c33; have c33b1 : decide (af.length < 2) = false := decide_eq_false (by omega); clear c33; (first | rw [Fb] | (simp only [eT, fA]; rw [Fb]) | skip)
         have H' := aa.mk H; clear H; obtain ⟨Cw, Cx, Cy, Cz, CB, CE, CF, CG, CJ, CK⟩ := bz fV.out; go_wp2; go_meet
         case rel => exact ⟨_, (decide ((af.length : Int) > 4)), rs_, H', ⟨by have := HJ1.out; first | omega | exact Nat.le_refl _⟩, ⟨bk_⟩, ⟨bl_⟩⟩
       case rest =>
        clear HC29; (try clear c1); (try clear c2); (try clear p2); (try clear c3); (try clear c4); (try clear tT); (try clear c6); (try clear c7); (try clear c9); (try clear c12); (try clear yT); (try clear Dq); (try clear c13); (try clear rR); (try clear c17); (try clear qV); (try clear c21); (try clear Fa); (try clear c28); (try clear Pd); (try clear c28b1); (try clear c33); (try clear Fb); (try clear c33b1); (try clear zI zJ zK Ce Cf zL zM zN Cg Ch); (try clear mr mD mE mF mG mH mI mJ mK mM); (try clear nX nY nZ tH tJ og oh om tK tL); (try clear qc qd qf ry rz qg qh qi rA rC); (try clear rD rE rF tq tu rG rH rJ tC tF); (try clear qj ql qm rM rO qo qp qw rP rQ); (try clear Ci Cj Ck D6 D7 Cm Cn Co D8 D9); (try clear zO zP zQ zR zS zT zU zV zW zX); (try clear yf yg yh yj yl ym yn yo yt yu); (try clear Ea Eb Ec Ed Ee Ef Eg Eh Ei Ej); (try clear GL GM GN GQ GR GU GV GX GY GZ); (try clear Cq Cr Cs El Em Ct Cu Cv En Eo); (try clear Cw Cx Cy Cz CB CE CF CG CJ CK); (try clear Iw Iy Iz IA IB IC IE IG II IJ); (try clear pM pO pQ pR pU pV pW pX pY p8); (try clear p2); obtain ⟨kq, Pe, rfl, HA, HJ28, fV, HB⟩ := hcut; cases kq with
        | zero => exact absurd HA.out (by simp [bf.j1])
        | succ kj28 =>
         have H := HA.out; clear HA; simp only [bf.j1] at H; by_cases c36 : Pe = true
         ·subst c36; have H1 : (some 1) = some r := by rw [if_pos rfl] at H; exact H
          clear H; have H := H1; clear H1; obtain rfl := Option.some.inj H; go_wp2; go_ret; exact ⟨re_, bl_⟩
         ·replace c36 := Bool.eq_false_iff.mpr c36; subst c36; have H1 : (bf.l0 kj28 af (af.length : Int) 0) = some r := by rw [if_neg (show ¬ (false = true) by decide)] at H; exact H
          clear H; have H := H1; clear H1; have H' := aa.mk H; clear H; obtain ⟨wh, wm, wo, yx, yz, wu, wy, wz, yA, yB⟩ := bz fV.out; go_wp2; go_loopg [52] kj28 (fun kq v52 w' => ∃ (fP : Int), v52 = .int .i64 fP ∧ aa (bf.l0 kq af (af.length : Int) fP = some r) ∧ aa (kq ≤ kj28) ∧ aa (w'.heap[Gg]? = some (.cells #[.int .i64 aj, .int .i64 av, .int .i64 ak, .int .i64 au, (.slice bA af.length aZ)] 24 (0, 0))) ∧ aa (Below w.heap.size w w'))
          case atStart => exact ⟨(0), rs_, H', ⟨Nat.le_refl _⟩, ⟨bk_⟩, ⟨bl_⟩⟩
          case round =>
           clear H'; (try clear c1); (try clear c2); (try clear p2); (try clear c3); (try clear c4); (try clear tT); (try clear c6); (try clear c7); (try clear c9); (try clear c12); (try clear yT); (try clear Dq); (try clear c13); (try clear rR); (try clear c17); (try clear qV); (try clear c21); (try clear Fa); (try clear c28); (try clear Pd); (try clear c28b1); (try clear c33); (try clear Fb); (try clear c33b1); (try clear c36); (try clear zI zJ zK Ce Cf zL zM zN Cg Ch); (try clear mr mD mE mF mG mH mI mJ mK mM); (try clear nX nY nZ tH tJ og oh om tK tL); (try clear qc qd qf ry rz qg qh qi rA rC); (try clear rD rE rF tq tu rG rH rJ tC tF); (try clear qj ql qm rM rO qo qp qw rP rQ); (try clear Ci Cj Ck D6 D7 Cm Cn Co D8 D9); (try clear zO zP zQ zR zS zT zU zV zW zX); (try clear yf yg yh yj yl ym yn yo yt yu); (try clear Ea Eb Ec Ed Ee Ef Eg Eh Ei Ej); (try clear GL GM GN GQ GR GU GV GX GY GZ); (try clear Cq Cr Cs El Em Ct Cu Cv En Eo); (try clear Cw Cx Cy Cz CB CE CF CG CJ CK); (try clear wh wm wo yx yz wu wy wz yA yB); (try clear Iw Iy Iz IA IB IC IE IG II IJ); (try clear pM pO pQ pR pU pV pW pX pY p8); (try clear p2); obtain ⟨fP, rfl, HA, HK3, fV, HB⟩ := hrel; cases gk with
           | zero => exact absurd HA.out (by simp [bf.l0])
           | succ k3 =>
            have H := HA.out; clear HA; simp only [bf.l0] at H; by_cases c38 : fP < (af.length : Int)
            ·rw [if_pos c38] at H; have Pf := decide_eq_true c38; clear c38; by_cases c39 : 0 ≤ fP
             ·rw [if_pos c39] at H; have Dr := decide_eq_true c39; clear c39; by_cases c40 : fP < (af.length : Int)
              ·rw [if_pos c40] at H; have c40b0 := decide_eq_true c40; clear c40; replace H := Option.bind_eq_some_iff.mp H; obtain ⟨t110, A410, H⟩ := H; (try dsimp only at H)
               have A41 := aa.mk A410; clear A410; by_cases c42 : t110 = 0
               ·rw [if_pos c42] at H; obtain ⟨c42b0, c42b1⟩ := bq_ c42; clear c42; by_cases c43 : ((ah af fP).f0) = 3
                ·rw [if_pos c43] at H; obtain ⟨c43b0, c43b1⟩ := bq_ c43; clear c43; obtain rfl := Option.some.inj H; have Ba : 0 ≤ (fP : Int) := dt_; have Bb : fP < (af.length : Int) := dt_; obtain ⟨LG, zb, zf, e108, uy, uz, uA, uB, uC, wB, wC⟩ := ib cz.out fP Ba Bb; cases e108; replace uy := hc_ HB uy; replace uz := hc_ HB uz; replace uA := hc_ HB uA; replace uB := hc_ HB uB; replace uC := hc_ HB uC; have Ep := aa.mk wC; have Er := aa.mk wB; clear wC wB; replace Ba := eq_true Ba; replace Bb := eq_true Bb; go_wp2_with (first | ((with_reducible refine aU (N := 4) rfl ?_); (try (refine jF (by rfl) ?_; dsimp only)); refine aY ?hg (N := 4) ?hd (cs := #[.int .i64 0, .int .i64 0, .int .i64 0, .int .i64 0, .slice none 0 0]) (t := 24) ?hr ?_; (case hd => rfl); (case hg => rfl); (case hr => first | (go_simp; done) | (go_simp; rfl)); intro Dt hg w44 aK hb; have yU := aa.mk (aK); have LH : aa (w.heap.size ≤ Dt) := gw_ hg (ax bl_); have GE109 := LH; have zg := nl_ fV hg; have zh := ng_ fV hg; replace fV := kb_ fV hb; replace HB := aa.mk (ai bl_ hb); clear hb aK hg; have hnb45 := zh.out; have hnc45 := zg.out; obtain ⟨Va, Vb, Vd, Ve, Vf, Vg, Vh, Vi, Vj, Vk⟩ := bz yU.out) | ((with_reducible refine aC (f := 39) rfl ?_); refine aX (some 57) rfl rfl Tryd.func39 (by kernel_rfl) rfl #[.agg #[.int .i64 ((ah af fP).f0), .int .i64 ((ah af fP).f1), .int .i64 ((ah af fP).f2), .int .i64 ((ah af fP).f3), .slice zb ((ah af fP).f4).length zf]] rfl mp_ ?_; (with_reducible refine (ih k3 (by have := HJ1.out; have := HJ28.out; have := HK3.out; omega) ((ah af fP).f0) ((ah af fP).f1) ((ah af fP).f2) ((ah af fP).f3) _ _ ((ah af fP).f4) t110 _ ?ay ?az A41.out).mono ?_); (case ay => exact Kd.bB Ep.out bl_); (case az => exact Er.out); rintro e w47 ⟨rfl, hb⟩; refine ⟨_, rfl, ?_⟩; replace fV := aa.mk (gJ (g := Gg) (o := .cells #[.int .i64 aj, .int .i64 av, .int .i64 ak, .int .i64 au, .slice (some LG) af.length aZ] 24 (0, 0)) b5_ hb); replace yU := aa.mk (gJ (g := Dt) (o := .cells #[.int .i64 ((ah af fP).f0), .int .i64 ((ah af fP).f1), .int .i64 ((ah af fP).f2), .int .i64 ((ah af fP).f3), .slice zb ((ah af fP).f4).length zf] 24 (0, 0)) b5_ hb); replace HB := aa.mk (ai bl_ hb); (try clear hb); (try clear hb2); (try clear hk); (try clear hi); obtain ⟨M4, M5, M6, Rf, Rh, M7, M8, M9, Ri, Rj⟩ := bz yU.out))
                 go_ret; exact ⟨re_, bl_⟩
                ·rw [if_neg c43] at H; obtain ⟨c43b0, c43b1⟩ := bn_ c43; by_cases c49 : ((ah af fP).f0) = 4
                 ·rw [if_pos c49] at H; obtain ⟨Na, Nb⟩ := bq_ c49; clear c49; obtain rfl := Option.some.inj H; have Ba : 0 ≤ (fP : Int) := dt_; have Bb : fP < (af.length : Int) := dt_; obtain ⟨LG, zb, zf, e108, uy, uz, uA, uB, uC, wB, wC⟩ := ib cz.out fP Ba Bb; cases e108; replace uy := hc_ HB uy; replace uz := hc_ HB uz; replace uA := hc_ HB uA; replace uB := hc_ HB uB; replace uC := hc_ HB uC; have Ep := aa.mk wC; have Er := aa.mk wB; clear wC wB; replace Ba := eq_true Ba; replace Bb := eq_true Bb; go_wp2_with (first | ((with_reducible refine aU (N := 4) rfl ?_); (try (refine jF (by rfl) ?_; dsimp only)); refine aY ?hg (N := 4) ?hd (cs := #[.int .i64 0, .int .i64 0, .int .i64 0, .int .i64 0, .slice none 0 0]) (t := 24) ?hr ?_; (case hd => rfl); (case hg => rfl); (case hr => first | (go_simp; done) | (go_simp; rfl)); intro Dt hg w50 aK hb; have yU := aa.mk (aK); have LH : aa (w.heap.size ≤ Dt) := gw_ hg (ax bl_); have GE109 := LH; have zg := nl_ fV hg; have zh := ng_ fV hg; replace fV := kb_ fV hb; replace HB := aa.mk (ai bl_ hb); clear hb aK hg; have hnb51 := zh.out; have hnc51 := zg.out; obtain ⟨Kj, Kk, Kl, Km, Kn, Ko, Kq, Kr, Kt, Ku⟩ := bz yU.out) | ((with_reducible refine aC (f := 39) rfl ?_); refine aX (some 57) rfl rfl Tryd.func39 (by kernel_rfl) rfl #[.agg #[.int .i64 ((ah af fP).f0), .int .i64 ((ah af fP).f1), .int .i64 ((ah af fP).f2), .int .i64 ((ah af fP).f3), .slice zb ((ah af fP).f4).length zf]] rfl mp_ ?_; (with_reducible refine (ih k3 (by have := HJ1.out; have := HJ28.out; have := HK3.out; omega) ((ah af fP).f0) ((ah af fP).f1) ((ah af fP).f2) ((ah af fP).f3) _ _ ((ah af fP).f4) t110 _ ?ay ?az A41.out).mono ?_); (case ay => exact Kd.bB Ep.out bl_); (case az => exact Er.out); rintro e w53 ⟨rfl, hb⟩; refine ⟨_, rfl, ?_⟩; replace fV := aa.mk (gJ (g := Gg) (o := .cells #[.int .i64 aj, .int .i64 av, .int .i64 ak, .int .i64 au, .slice (some LG) af.length aZ] 24 (0, 0)) b5_ hb); replace yU := aa.mk (gJ (g := Dt) (o := .cells #[.int .i64 ((ah af fP).f0), .int .i64 ((ah af fP).f1), .int .i64 ((ah af fP).f2), .int .i64 ((ah af fP).f3), .slice zb ((ah af fP).f4).length zf] 24 (0, 0)) b5_ hb); replace HB := aa.mk (ai bl_ hb); (try clear hb); (try clear hb2); (try clear hk); (try clear hi); obtain ⟨Kv, Kw, Ky, Kz, KA, KC, KD, KE, KF, KG⟩ := bz yU.out))
                  go_ret; exact ⟨re_, bl_⟩
                 ·rw [if_neg c49] at H; obtain ⟨Na, Nb⟩ := bn_ c49; have H' := aa.mk H; clear H; have Ba : 0 ≤ (fP : Int) := dt_; have Bb : fP < (af.length : Int) := dt_; obtain ⟨LG, zb, zf, e108, uy, uz, uA, uB, uC, wB, wC⟩ := ib cz.out fP Ba Bb; cases e108; replace uy := hc_ HB uy; replace uz := hc_ HB uz; replace uA := hc_ HB uA; replace uB := hc_ HB uB; replace uC := hc_ HB uC; have Ep := aa.mk wC; have Er := aa.mk wB; clear wC wB; replace Ba := eq_true Ba; replace Bb := eq_true Bb; go_wp2_with (first | ((with_reducible refine aU (N := 4) rfl ?_); (try (refine jF (by rfl) ?_; dsimp only)); refine aY ?hg (N := 4) ?hd (cs := #[.int .i64 0, .int .i64 0, .int .i64 0, .int .i64 0, .slice none 0 0]) (t := 24) ?hr ?_; (case hd => rfl); (case hg => rfl); (case hr => first | (go_simp; done) | (go_simp; rfl)); intro Dt hg w55 aK hb; have yU := aa.mk (aK); have LH : aa (w.heap.size ≤ Dt) := gw_ hg (ax bl_); have GE109 := LH; have zg := nl_ fV hg; have zh := ng_ fV hg; replace fV := kb_ fV hb; replace HB := aa.mk (ai bl_ hb); clear hb aK hg; have hnb56 := zh.out; have hnc56 := zg.out; obtain ⟨Rk, Rl, Rm, Rn, Ro, Rp, Rq, Rt, Ru, Rv⟩ := bz yU.out) | ((with_reducible refine aC (f := 39) rfl ?_); refine aX (some 57) rfl rfl Tryd.func39 (by kernel_rfl) rfl #[.agg #[.int .i64 ((ah af fP).f0), .int .i64 ((ah af fP).f1), .int .i64 ((ah af fP).f2), .int .i64 ((ah af fP).f3), .slice zb ((ah af fP).f4).length zf]] rfl mp_ ?_; (with_reducible refine (ih k3 (by have := HJ1.out; have := HJ28.out; have := HK3.out; omega) ((ah af fP).f0) ((ah af fP).f1) ((ah af fP).f2) ((ah af fP).f3) _ _ ((ah af fP).f4) t110 _ ?ay ?az A41.out).mono ?_); (case ay => exact Kd.bB Ep.out bl_); (case az => exact Er.out); rintro e w58 ⟨rfl, hb⟩; refine ⟨_, rfl, ?_⟩; replace fV := aa.mk (gJ (g := Gg) (o := .cells #[.int .i64 aj, .int .i64 av, .int .i64 ak, .int .i64 au, .slice (some LG) af.length aZ] 24 (0, 0)) b5_ hb); replace yU := aa.mk (gJ (g := Dt) (o := .cells #[.int .i64 ((ah af fP).f0), .int .i64 ((ah af fP).f1), .int .i64 ((ah af fP).f2), .int .i64 ((ah af fP).f3), .slice zb ((ah af fP).f4).length zf] 24 (0, 0)) b5_ hb); replace HB := aa.mk (ai bl_ hb); (try clear hb); (try clear hb2); (try clear hk); (try clear hi); obtain ⟨Rw, Rx, Ry, Rz, RA, RB, RD, RF, RG, RH⟩ := bz yU.out))
                  go_roundg k3
                  case measure => have := HJ1.out; have := HJ28.out; have := HK3.out; omega
                  case rel => exact ⟨(wrap64 (fP + 1)), rs_, H', ⟨by have := HJ1.out; have := HJ28.out; have := HK3.out; omega⟩, ⟨bk_⟩, ⟨bl_⟩⟩
               ·rw [if_neg c42] at H; obtain ⟨c42b0, c42b1⟩ := bn_ c42; obtain rfl := Option.some.inj H; have Ba : 0 ≤ (fP : Int) := dt_; have Bb : fP < (af.length : Int) := dt_; obtain ⟨LG, zb, zf, e108, uy, uz, uA, uB, uC, wB, wC⟩ := ib cz.out fP Ba Bb; cases e108; replace uy := hc_ HB uy; replace uz := hc_ HB uz; replace uA := hc_ HB uA; replace uB := hc_ HB uB; replace uC := hc_ HB uC; have Ep := aa.mk wC; have Er := aa.mk wB; clear wC wB; replace Ba := eq_true Ba; replace Bb := eq_true Bb; go_wp2_with (first | ((with_reducible refine aU (N := 4) rfl ?_); (try (refine jF (by rfl) ?_; dsimp only)); refine aY ?hg (N := 4) ?hd (cs := #[.int .i64 0, .int .i64 0, .int .i64 0, .int .i64 0, .slice none 0 0]) (t := 24) ?hr ?_; (case hd => rfl); (case hg => rfl); (case hr => first | (go_simp; done) | (go_simp; rfl)); intro Dt hg w60 aK hb; have yU := aa.mk (aK); have LH : aa (w.heap.size ≤ Dt) := gw_ hg (ax bl_); have GE109 := LH; have zg := nl_ fV hg; have zh := ng_ fV hg; replace fV := kb_ fV hb; replace HB := aa.mk (ai bl_ hb); clear hb aK hg; have hnb61 := zh.out; have hnc61 := zg.out; obtain ⟨RI, RJ, RL, RN, RO, RP, RQ, RS, RU, RV⟩ := bz yU.out) | ((with_reducible refine aC (f := 39) rfl ?_); refine aX (some 57) rfl rfl Tryd.func39 (by kernel_rfl) rfl #[.agg #[.int .i64 ((ah af fP).f0), .int .i64 ((ah af fP).f1), .int .i64 ((ah af fP).f2), .int .i64 ((ah af fP).f3), .slice zb ((ah af fP).f4).length zf]] rfl mp_ ?_; (with_reducible refine (ih k3 (by have := HJ1.out; have := HJ28.out; have := HK3.out; omega) ((ah af fP).f0) ((ah af fP).f1) ((ah af fP).f2) ((ah af fP).f3) _ _ ((ah af fP).f4) t110 _ ?ay ?az A41.out).mono ?_); (case ay => exact Kd.bB Ep.out bl_); (case az => exact Er.out); rintro e w63 ⟨rfl, hb⟩; refine ⟨_, rfl, ?_⟩; replace fV := aa.mk (gJ (g := Gg) (o := .cells #[.int .i64 aj, .int .i64 av, .int .i64 ak, .int .i64 au, .slice (some LG) af.length aZ] 24 (0, 0)) b5_ hb); replace yU := aa.mk (gJ (g := Dt) (o := .cells #[.int .i64 ((ah af fP).f0), .int .i64 ((ah af fP).f1), .int .i64 ((ah af fP).f2), .int .i64 ((ah af fP).f3), .slice zb ((ah af fP).f4).length zf] 24 (0, 0)) b5_ hb); replace HB := aa.mk (ai bl_ hb); (try clear hb); (try clear hb2); (try clear hk); (try clear hi)))
                go_ret; exact ⟨re_, bl_⟩
              ·rw [if_neg c40] at H; exact absurd H (by simp)
             ·rw [if_neg c39] at H; exact absurd H (by simp)
            ·rw [if_neg c38] at H; have Pf := decide_eq_false c38; clear c38; obtain rfl := Option.some.inj H; go_wp2; go_ret; exact ⟨re_, bl_⟩
      ·rw [if_neg c28] at H; obtain ⟨Pd, c28b1⟩ := bn_ c28; by_cases c64 : aj = 6
       ·rw [if_pos c64] at H; obtain ⟨c64b0, c64b1⟩ := bq_ c64; clear c64; have HC65 := aa.mk H; clear H; obtain ⟨RX, RY, RZ, R3, R4, R5, R6, R7, R8, R9⟩ := bz fV.out; go_upto_region 22 with (first | ((with_reducible refine aC (f := 69) rfl ?_); refine aX (some 17) rfl rfl Tryd.func69 (by kernel_rfl) rfl #[.agg #[.int .i64 aj, .int .i64 av, .int .i64 ak, .int .i64 au, .slice bA af.length aZ]] rfl mp_ ?_; (with_reducible refine (jV.calls aj av ak au _ _ af false _ ?ay ?az A8.out).mono ?_); (case ay => exact cb_ (Kd.bB cz.out HB.out)); (case az => exact eZ.out); rintro e w67 ⟨rfl, hb⟩; refine ⟨_, rfl, ?_⟩; replace fV := kb_ fV hb; replace HB := aa.mk (ai bl_ hb); (try clear hb); (try clear hb2); (try clear hk); (try clear hi); obtain ⟨hcz68_0, hcz68_1, hcz68_2, hcz68_3, hcz68_4, hfz68_0, hfz68_1, hfz68_2, hfz68_3, hfz68_4⟩ := bz fV.out))
        (try simp only [Act.put, List.setIfInBounds_toArray, List.set_cons_zero, List.set_cons_succ])
        go_cut [79] (fun v79 wc => ∃ (kq : Nat) (Pg : Bool), v79 = .bool Pg ∧ aa (bf.j3 kq Pg aj av ak au af = some r) ∧ aa (kq ≤ kj1) ∧ aa (wc.heap[Gg]? = some (.cells #[.int .i64 aj, .int .i64 av, .int .i64 ak, .int .i64 au, (.slice bA af.length aZ)] 24 (0, 0))) ∧ aa (Below w.heap.size w wc))
        case first =>
         have H := HC65.out; clear HC65; by_cases c69 : au < 1
         ·rw [if_pos c69] at H; have JH := decide_eq_true c69; clear c69; (first | rw [JH] | (simp only [eT, fA]; rw [JH]) | skip)
          have H' := aa.mk H; clear H; obtain ⟨hcz70_0, hcz70_1, hcz70_2, hcz70_3, hcz70_4, hfz70_0, hfz70_1, hfz70_2, hfz70_3, hfz70_4⟩ := bz fV.out; go_wp2; go_meet
          case rel => exact ⟨_, (true), rs_, H', ⟨by have := HJ1.out; first | omega | exact Nat.le_refl _⟩, ⟨bk_⟩, ⟨bl_⟩⟩
         ·rw [if_neg c69] at H; have JH := decide_eq_false c69; clear c69; (first | rw [JH] | (simp only [eT, fA]; rw [JH]) | skip)
          have H' := aa.mk H; clear H; obtain ⟨hcz71_0, hcz71_1, hcz71_2, hcz71_3, hcz71_4, hfz71_0, hfz71_1, hfz71_2, hfz71_3, hfz71_4⟩ := bz fV.out; go_wp2; go_meet
          case rel => exact ⟨_, (decide (au > 4)), rs_, H', ⟨by have := HJ1.out; first | omega | exact Nat.le_refl _⟩, ⟨bk_⟩, ⟨bl_⟩⟩
        case rest =>
         clear HC65; (try clear c1); (try clear p1); (try clear q1); (try clear hx1); (try clear c2); (try clear p2); (try clear c3); (try clear c4); (try clear tT); (try clear c5); (try clear c6); (try clear p6); (try clear c7); (try clear c9); (try clear c10); (try clear p10); (try clear q10); (try clear hx10); (try clear c12); (try clear yT); (try clear Dq); (try clear c13); (try clear rR); (try clear c17); (try clear qV); (try clear c21); (try clear Fa); (try clear c28); (try clear Pd); (try clear c28b1); (try clear c33); (try clear Fb); (try clear c33b1); (try clear c36); (try clear c38); (try clear Pf); (try clear c39); (try clear Dr); (try clear c40); (try clear c40b0); (try clear c42); (try clear c42b0); (try clear c42b1); (try clear c43); (try clear c43b0); (try clear c43b1); (try clear c45); (try clear c49); (try clear Na); (try clear Nb); (try clear c51); (try clear c56); (try clear c61); (try clear c64); (try clear c64b0); (try clear c64b1); (try clear p64); (try clear c69); (try clear JH); (try clear zI zJ zK Ce Cf zL zM zN Cg Ch); (try clear mr mD mE mF mG mH mI mJ mK mM); (try clear nX nY nZ tH tJ og oh om tK tL); (try clear qc qd qf ry rz qg qh qi rA rC); (try clear rD rE rF tq tu rG rH rJ tC tF); (try clear qj ql qm rM rO qo qp qw rP rQ); (try clear Ci Cj Ck D6 D7 Cm Cn Co D8 D9); (try clear zO zP zQ zR zS zT zU zV zW zX); (try clear yf yg yh yj yl ym yn yo yt yu); (try clear Ea Eb Ec Ed Ee Ef Eg Eh Ei Ej); (try clear GL GM GN GQ GR GU GV GX GY GZ); (try clear Cq Cr Cs El Em Ct Cu Cv En Eo); (try clear Cw Cx Cy Cz CB CE CF CG CJ CK); (try clear wh wm wo yx yz wu wy wz yA yB); (try clear Va Vb Vd Ve Vf Vg Vh Vi Vj Vk); (try clear M4 M5 M6 Rf Rh M7 M8 M9 Ri Rj); (try clear Kj Kk Kl Km Kn Ko Kq Kr Kt Ku); (try clear Kv Kw Ky Kz KA KC KD KE KF KG); (try clear Rk Rl Rm Rn Ro Rp Rq Rt Ru Rv); (try clear Rw Rx Ry Rz RA RB RD RF RG RH); (try clear Iw Iy Iz IA IB IC IE IG II IJ); (try clear RI RJ RL RN RO RP RQ RS RU RV)
         (try clear RX RY RZ R3 R4 R5 R6 R7 R8 R9); (try clear hcz68_0 hcz68_1 hcz68_2 hcz68_3 hcz68_4 hfz68_0 hfz68_1 hfz68_2 hfz68_3 hfz68_4); (try clear pM pO pQ pR pU pV pW pX pY p8); (try clear hcz70_0 hcz70_1 hcz70_2 hcz70_3 hcz70_4 hfz70_0 hfz70_1 hfz70_2 hfz70_3 hfz70_4); (try clear hcz71_0 hcz71_1 hcz71_2 hcz71_3 hcz71_4 hfz71_0 hfz71_1 hfz71_2 hfz71_3 hfz71_4); (try clear uy); (try clear uz); (try clear uA); (try clear uB); (try clear uC); (try clear Ba); (try clear p2); (try clear Bb); obtain ⟨kq, Pg, rfl, HA, HJ64, fV, HB⟩ := hcut; cases kq with
         | zero => exact absurd HA.out (by simp [bf.j3])
         | succ kj64 =>
          have H := HA.out; clear HA; simp only [bf.j3] at H; by_cases c72 : Pg = true
          ·subst c72; have H1 : (some 1) = some r := by rw [if_pos rfl] at H; exact H
           clear H; have H := H1; clear H1; obtain rfl := Option.some.inj H; go_wp2; go_ret; exact ⟨re_, bl_⟩
          ·replace c72 := Bool.eq_false_iff.mpr c72; subst c72; have H1 : (if (af.length : Int) = 1 then (if 0 < (af.length : Int) then ((bf.f kj64 ((ah af 0).f0) ((ah af 0).f1) ((ah af 0).f2) ((ah af 0).f3) ((ah af 0).f4)).bind fun t112 => (if t112 = 0 then (if ((ah af 0).f0) = 1 then (some 0) else (if ((ah af 0).f0) = 2 then (some 0) else (some 8))) else (some t112))) else (none)) else (some 2)) = some r := by rw [if_neg (show ¬ (false = true) by decide)] at H; exact H
           clear H; have H := H1; clear H1; by_cases c73 : (af.length : Int) = 1
           ·rw [if_pos c73] at H; obtain ⟨c73b0, c73b1⟩ := bq_ c73; clear c73; by_cases c74 : 0 < (af.length : Int)
            ·rw [if_pos c74] at H; have c74b0 := decide_eq_true c74; have c74b1 : decide (0 < af.length) = true := decide_eq_true (by omega); clear c74; replace H := Option.bind_eq_some_iff.mp H; obtain ⟨t112, A750, H⟩ := H; (try dsimp only at H)
             have A75 := aa.mk A750; clear A750; by_cases c76 : t112 = 0
             ·rw [if_pos c76] at H; obtain ⟨c76b0, c76b1⟩ := bq_ c76; clear c76; by_cases c77 : ((ah af 0).f0) = 1
              ·rw [if_pos c77] at H; obtain ⟨c77b0, c77b1⟩ := bq_ c77; clear c77; obtain rfl := Option.some.inj H; obtain ⟨Vl, Vm, Vn, Vo, Vp, Vq, Vr, Vs, Vu, Vv⟩ := bz fV.out; have Bz : 0 ≤ (0 : Int) := (by omega); have BA : 0 < (af.length : Int) := dt_; obtain ⟨Nc, IK, IL, e111, qx, qy, qz, qA, qB, wD, wE⟩ := ib cz.out 0 Bz BA; cases e111; have qi111 : (0 < af.length) = True := eq_true (by omega); (try simp only [z0_, Nat.zero_mul, Addr.add_zero'] at qx qy qz qA qB)
               replace qx := hc_ HB qx; replace qy := hc_ HB qy; replace qz := hc_ HB qz; replace qA := hc_ HB qA; replace qB := hc_ HB qB; have Es := aa.mk wE; have Et := aa.mk wD; clear wE wD; replace Bz := eq_true Bz; replace BA := eq_true BA; go_wp2_with (first | ((with_reducible refine aC (f := 39) rfl ?_); refine aX (some 88) rfl rfl Tryd.func39 (by kernel_rfl) rfl #[.agg #[.int .i64 ((ah af 0).f0), .int .i64 ((ah af 0).f1), .int .i64 ((ah af 0).f2), .int .i64 ((ah af 0).f3), .slice IK ((ah af 0).f4).length IL]] rfl mp_ ?_; (with_reducible refine (ih kj64 (by have := HJ1.out; have := HJ64.out; omega) ((ah af 0).f0) ((ah af 0).f1) ((ah af 0).f2) ((ah af 0).f3) _ _ ((ah af 0).f4) t112 _ ?ay ?az A75.out).mono ?_); (case ay => exact cb_ (Kd.bB Es.out HB.out)); (case az => exact Et.out); rintro e w79 ⟨rfl, hb⟩; refine ⟨_, rfl, ?_⟩; replace fV := kb_ fV hb; replace HB := aa.mk (ai bl_ hb); (try clear hb); (try clear hb2); (try clear hk); (try clear hi); obtain ⟨hcz80_0, hcz80_1, hcz80_2, hcz80_3, hcz80_4, hfz80_0, hfz80_1, hfz80_2, hfz80_3, hfz80_4⟩ := bz fV.out; have IM : 0 ≤ (0 : Int) := (by omega); have IP : 0 < (af.length : Int) := dt_; obtain ⟨Ph, A113_4, c113_4, e113, wF, wG, wH, wI, wJ, CL, CO⟩ := ib cz.out 0 IM IP; obtain rfl : Nc = Ph := (by injection e113); have qi113 : (0 < af.length) = True := eq_true (by omega); (try simp only [z0_, Nat.zero_mul, Addr.add_zero'] at wF); (try simp only [z0_, Nat.zero_mul, Addr.add_zero'] at wG); (try simp only [z0_, Nat.zero_mul, Addr.add_zero'] at wH); (try simp only [z0_, Nat.zero_mul, Addr.add_zero'] at wI); (try simp only [z0_, Nat.zero_mul, Addr.add_zero'] at wJ); replace wF := hc_ HB wF; replace wG := hc_ HB wG; replace wH := hc_ HB wH; replace wI := hc_ HB wI; replace wJ := hc_ HB wJ; have Vw := aa.mk CO; have Vx := aa.mk CL; clear CO CL; replace IM := eq_true IM; replace IP := eq_true IP))
               go_ret; exact ⟨re_, bl_⟩
              ·rw [if_neg c77] at H; obtain ⟨c77b0, c77b1⟩ := bn_ c77; by_cases c81 : ((ah af 0).f0) = 2
               ·rw [if_pos c81] at H; obtain ⟨c81b0, c81b1⟩ := bq_ c81; clear c81; obtain rfl := Option.some.inj H; obtain ⟨hcz82_0, hcz82_1, hcz82_2, hcz82_3, hcz82_4, hfz82_0, hfz82_1, hfz82_2, hfz82_3, hfz82_4⟩ := bz fV.out; have Bz : 0 ≤ (0 : Int) := (by omega); have BA : 0 < (af.length : Int) := dt_; obtain ⟨Nc, IK, IL, e111, qx, qy, qz, qA, qB, wD, wE⟩ := ib cz.out 0 Bz BA; cases e111; have qi111 : (0 < af.length) = True := eq_true (by omega); (try simp only [z0_, Nat.zero_mul, Addr.add_zero'] at qx qy qz qA qB)
                replace qx := hc_ HB qx; replace qy := hc_ HB qy; replace qz := hc_ HB qz; replace qA := hc_ HB qA; replace qB := hc_ HB qB; have Es := aa.mk wE; have Et := aa.mk wD; clear wE wD; replace Bz := eq_true Bz; replace BA := eq_true BA; go_wp2_with (first | ((with_reducible refine aC (f := 39) rfl ?_); refine aX (some 88) rfl rfl Tryd.func39 (by kernel_rfl) rfl #[.agg #[.int .i64 ((ah af 0).f0), .int .i64 ((ah af 0).f1), .int .i64 ((ah af 0).f2), .int .i64 ((ah af 0).f3), .slice IK ((ah af 0).f4).length IL]] rfl mp_ ?_; (with_reducible refine (ih kj64 (by have := HJ1.out; have := HJ64.out; omega) ((ah af 0).f0) ((ah af 0).f1) ((ah af 0).f2) ((ah af 0).f3) _ _ ((ah af 0).f4) t112 _ ?ay ?az A75.out).mono ?_); (case ay => exact cb_ (Kd.bB Es.out HB.out)); (case az => exact Et.out); rintro e w83 ⟨rfl, hb⟩; refine ⟨_, rfl, ?_⟩; replace fV := kb_ fV hb; replace HB := aa.mk (ai bl_ hb); (try clear hb); (try clear hb2); (try clear hk); (try clear hi); obtain ⟨hcz84_0, hcz84_1, hcz84_2, hcz84_3, hcz84_4, hfz84_0, hfz84_1, hfz84_2, hfz84_3, hfz84_4⟩ := bz fV.out; have IM : 0 ≤ (0 : Int) := (by omega); have IP : 0 < (af.length : Int) := dt_; obtain ⟨Ph, A113_4, c113_4, e113, wF, wG, wH, wI, wJ, CL, CO⟩ := ib cz.out 0 IM IP; obtain rfl : Nc = Ph := (by injection e113); have qi113 : (0 < af.length) = True := eq_true (by omega); (try simp only [z0_, Nat.zero_mul, Addr.add_zero'] at wF); (try simp only [z0_, Nat.zero_mul, Addr.add_zero'] at wG); (try simp only [z0_, Nat.zero_mul, Addr.add_zero'] at wH); (try simp only [z0_, Nat.zero_mul, Addr.add_zero'] at wI); (try simp only [z0_, Nat.zero_mul, Addr.add_zero'] at wJ); replace wF := hc_ HB wF; replace wG := hc_ HB wG; replace wH := hc_ HB wH; replace wI := hc_ HB wI; replace wJ := hc_ HB wJ; have Vw := aa.mk CO; have Vx := aa.mk CL; clear CO CL; replace IM := eq_true IM; replace IP := eq_true IP))
                go_ret; exact ⟨re_, bl_⟩
               ·rw [if_neg c81] at H; obtain ⟨c81b0, c81b1⟩ := bn_ c81; obtain rfl := Option.some.inj H; obtain ⟨hcz85_0, hcz85_1, hcz85_2, hcz85_3, hcz85_4, hfz85_0, hfz85_1, hfz85_2, hfz85_3, hfz85_4⟩ := bz fV.out; have Bz : 0 ≤ (0 : Int) := (by omega); have BA : 0 < (af.length : Int) := dt_; obtain ⟨Nc, IK, IL, e111, qx, qy, qz, qA, qB, wD, wE⟩ := ib cz.out 0 Bz BA; cases e111; have qi111 : (0 < af.length) = True := eq_true (by omega); (try simp only [z0_, Nat.zero_mul, Addr.add_zero'] at qx qy qz qA qB)
                replace qx := hc_ HB qx; replace qy := hc_ HB qy; replace qz := hc_ HB qz; replace qA := hc_ HB qA; replace qB := hc_ HB qB; have Es := aa.mk wE; have Et := aa.mk wD; clear wE wD; replace Bz := eq_true Bz; replace BA := eq_true BA; go_wp2_with (first | ((with_reducible refine aC (f := 39) rfl ?_); refine aX (some 88) rfl rfl Tryd.func39 (by kernel_rfl) rfl #[.agg #[.int .i64 ((ah af 0).f0), .int .i64 ((ah af 0).f1), .int .i64 ((ah af 0).f2), .int .i64 ((ah af 0).f3), .slice IK ((ah af 0).f4).length IL]] rfl mp_ ?_; (with_reducible refine (ih kj64 (by have := HJ1.out; have := HJ64.out; omega) ((ah af 0).f0) ((ah af 0).f1) ((ah af 0).f2) ((ah af 0).f3) _ _ ((ah af 0).f4) t112 _ ?ay ?az A75.out).mono ?_); (case ay => exact cb_ (Kd.bB Es.out HB.out)); (case az => exact Et.out); rintro e w86 ⟨rfl, hb⟩; refine ⟨_, rfl, ?_⟩; replace fV := kb_ fV hb; replace HB := aa.mk (ai bl_ hb); (try clear hb); (try clear hb2); (try clear hk); (try clear hi); obtain ⟨hcz87_0, hcz87_1, hcz87_2, hcz87_3, hcz87_4, hfz87_0, hfz87_1, hfz87_2, hfz87_3, hfz87_4⟩ := bz fV.out; have IM : 0 ≤ (0 : Int) := (by omega); have IP : 0 < (af.length : Int) := dt_; obtain ⟨Ph, A113_4, c113_4, e113, wF, wG, wH, wI, wJ, CL, CO⟩ := ib cz.out 0 IM IP; obtain rfl : Nc = Ph := (by injection e113); have qi113 : (0 < af.length) = True := eq_true (by omega); (try simp only [z0_, Nat.zero_mul, Addr.add_zero'] at wF); (try simp only [z0_, Nat.zero_mul, Addr.add_zero'] at wG); (try simp only [z0_, Nat.zero_mul, Addr.add_zero'] at wH); (try simp only [z0_, Nat.zero_mul, Addr.add_zero'] at wI); (try simp only [z0_, Nat.zero_mul, Addr.add_zero'] at wJ); replace wF := hc_ HB wF; replace wG := hc_ HB wG; replace wH := hc_ HB wH; replace wI := hc_ HB wI; replace wJ := hc_ HB wJ; have Vw := aa.mk CO; have Vx := aa.mk CL; clear CO CL; replace IM := eq_true IM; replace IP := eq_true IP))
                go_ret; exact ⟨re_, bl_⟩
             ·rw [if_neg c76] at H; obtain ⟨c76b0, c76b1⟩ := bn_ c76; obtain rfl := Option.some.inj H; obtain ⟨hcz88_0, hcz88_1, hcz88_2, hcz88_3, hcz88_4, hfz88_0, hfz88_1, hfz88_2, hfz88_3, hfz88_4⟩ := bz fV.out; have Bz : 0 ≤ (0 : Int) := (by omega); have BA : 0 < (af.length : Int) := dt_; obtain ⟨Nc, IK, IL, e111, qx, qy, qz, qA, qB, wD, wE⟩ := ib cz.out 0 Bz BA; cases e111; have qi111 : (0 < af.length) = True := eq_true (by omega); (try simp only [z0_, Nat.zero_mul, Addr.add_zero'] at qx qy qz qA qB)
              replace qx := hc_ HB qx; replace qy := hc_ HB qy; replace qz := hc_ HB qz; replace qA := hc_ HB qA; replace qB := hc_ HB qB; have Es := aa.mk wE; have Et := aa.mk wD; clear wE wD; replace Bz := eq_true Bz; replace BA := eq_true BA; go_wp2_with (first | ((with_reducible refine aC (f := 39) rfl ?_); refine aX (some 88) rfl rfl Tryd.func39 (by kernel_rfl) rfl #[.agg #[.int .i64 ((ah af 0).f0), .int .i64 ((ah af 0).f1), .int .i64 ((ah af 0).f2), .int .i64 ((ah af 0).f3), .slice IK ((ah af 0).f4).length IL]] rfl mp_ ?_; (with_reducible refine (ih kj64 (by have := HJ1.out; have := HJ64.out; omega) ((ah af 0).f0) ((ah af 0).f1) ((ah af 0).f2) ((ah af 0).f3) _ _ ((ah af 0).f4) t112 _ ?ay ?az A75.out).mono ?_); (case ay => exact cb_ (Kd.bB Es.out HB.out)); (case az => exact Et.out); rintro e w89 ⟨rfl, hb⟩; refine ⟨_, rfl, ?_⟩; replace fV := kb_ fV hb; replace HB := aa.mk (ai bl_ hb); (try clear hb); (try clear hb2); (try clear hk); (try clear hi)))
              go_ret; exact ⟨re_, bl_⟩
            ·rw [if_neg c74] at H; exact absurd H (by simp)
           ·rw [if_neg c73] at H; obtain ⟨c73b0, c73b1⟩ := bn_ c73; obtain rfl := Option.some.inj H; obtain ⟨hcz90_0, hcz90_1, hcz90_2, hcz90_3, hcz90_4, hfz90_0, hfz90_1, hfz90_2, hfz90_3, hfz90_4⟩ := bz fV.out; go_wp2; go_ret; exact ⟨re_, bl_⟩
       ·rw [if_neg c64] at H; obtain ⟨c64b0, c64b1⟩ := bn_ c64; obtain rfl := Option.some.inj H; obtain ⟨hcz91_0, hcz91_1, hcz91_2, hcz91_3, hcz91_4, hfz91_0, hfz91_1, hfz91_2, hfz91_3, hfz91_4⟩ := bz fV.out; go_wp2_with (first | ((with_reducible refine aC (f := 69) rfl ?_); refine aX (some 17) rfl rfl Tryd.func69 (by kernel_rfl) rfl #[.agg #[.int .i64 aj, .int .i64 av, .int .i64 ak, .int .i64 au, .slice bA af.length aZ]] rfl mp_ ?_; (with_reducible refine (jV.calls aj av ak au _ _ af false _ ?ay ?az A8.out).mono ?_); (case ay => exact cb_ (Kd.bB cz.out HB.out)); (case az => exact eZ.out); rintro e w92 ⟨rfl, hb⟩; refine ⟨_, rfl, ?_⟩; replace fV := kb_ fV hb; replace HB := aa.mk (ai bl_ hb); (try clear hb); (try clear hb2); (try clear hk); (try clear hi); obtain ⟨hcz93_0, hcz93_1, hcz93_2, hcz93_3, hcz93_4, hfz93_0, hfz93_1, hfz93_2, hfz93_3, hfz93_4⟩ := bz fV.out))
        go_ret; exact ⟨re_, bl_⟩

end Go.Proofs.YtggelekooacmnaaDoor.Q
namespace Go.Proofs.YtggelekooacmnaaDoor.Q
open Go.RowKit Go.Proofs.YtggelekooacmnaaDoorW.bg Go.Proofs.YtggelekooacmnaaDoorW.bW Go.Proofs.YtggelekooacmnaaDoorW.dh
attribute [local go_sem] fE fF gy gz eO eP fG fH   -- for this text's walks alone
set_option linter.unusedVariables false
set_option linter.unusedSimpArgs false

/-! ### dG: function 40 -/
mutual
def dG.l0 : Nat → Int → List (S24) → Int → Int → Option (Int)
 | 0, _, _, _, _ => none
 | k + 1, x3, x11, x12, x13 => if x13 < x12 then (if 0 ≤ x13 then (if x13 < (x11.length : Int) then ((dG.f k ((ah x11 x13).f0) ((ah x11 x13).f1) ((ah x11 x13).f2) ((ah x11 x13).f3) ((ah x11 x13).f4)).bind fun t117 => (dG.l0 k (wrap64 (x3 + t117)) x11 x12 (wrap64 (x13 + 1)))) else (none)) else (none)) else (some x3)
def dG.f : Nat → Int → Int → Int → Int → List (S24) → Option (Int)
 | 0, _, _, _, _, _ => none
 | k + 1, aj, av, ak, au, af => if aj = 5 then (dG.l0 k 0 af (af.length : Int) 0) else (if aj = 6 then (if 0 < (af.length : Int) then ((dG.f k ((ah af 0).f0) ((ah af 0).f1) ((ah af 0).f2) ((ah af 0).f3) ((ah af 0).f4)).bind fun t119 => (some (wrap64 (1 + (wrap64 (au * t119)))))) else (none)) else (some 1))
end
theorem dG.iQ : ∀ k, (∀ y0 y1 y2 y3 y4, LeO (dG.f k y0 y1 y2 y3 y4) (dG.f (k + 1) y0 y1 y2 y3 y4)) ∧ (∀ y0 y1 y2 y3, LeO (dG.l0 k y0 y1 y2 y3) (dG.l0 (k + 1) y0 y1 y2 y3))
 | 0 => ⟨fun _ _ _ _ _ r h => by simp [dG.f] at h, fun _ _ _ _ r h => by simp [dG.l0] at h⟩
 | k + 1 => by
  obtain ⟨ih0, ih1⟩ := dG.iQ k; refine ⟨?_, ?_⟩
  ·intro y0 y1 y2 y3 y4; unfold dG.f; repeat' first
   | (with_reducible exact ih0 _ _ _ _ _)
   | (with_reducible exact ih1 _ _ _ _)
   | (with_reducible exact LeO.refl _)
   | (with_reducible exact LeO.none _)
   | (with_reducible refine LeO.ite ?_ ?_)
   | (with_reducible refine LeO.bind ?_ (fun _ => ?_))
   | exact ih0 _ _ _ _ _
   | exact ih1 _ _ _ _
   | exact LeO.none _
   | refine LeO.ite ?_ ?_
   | refine LeO.bind ?_ (fun _ => ?_)
  ·intro y0 y1 y2 y3; unfold dG.l0; repeat' first
   | (with_reducible exact ih0 _ _ _ _ _)
   | (with_reducible exact ih1 _ _ _ _)
   | (with_reducible exact LeO.refl _)
   | (with_reducible exact LeO.none _)
   | (with_reducible refine LeO.ite ?_ ?_)
   | (with_reducible refine LeO.bind ?_ (fun _ => ?_))
   | exact ih0 _ _ _ _ _
   | exact ih1 _ _ _ _
   | exact LeO.none _
   | refine LeO.ite ?_ ?_
   | refine LeO.bind ?_ (fun _ => ?_)
theorem dG.mono : ∀ a0 a1 a2 a3 a4 k, LeO (dG.f k a0 a1 a2 a3 a4) (dG.f (k + 1) a0 a1 a2 a3 a4) := by
 intro a0 a1 a2 a3 a4 k; obtain ⟨ih0, ih1⟩ := dG.iQ k; exact ih0 a0 a1 a2 a3 a4
def dG.T11 : Bool × List (List Nat × List Nat) := (true, [([], []), ([0], [0]), ([], []), ([2], [2]), ([3], [3]), ([4], [4]), ([5], [5]), ([1, 6], [1, 6]), ([7], [7]), ([8, 6, 0, 1, 2, 3, 4, 5, 6, 7, 8], [8])])
def dG.B11 : List Nat := [0, 1, 0, 4, 12, 28, 60, 127, 255, 511]
theorem dG.Pj : l8 .any (opsOf Tryd.f40 11) = dG.T11 := by kernel_rfl
theorem dG.MJ : nQ dG.T11.2 dG.B11 = true := by kernel_rfl
set_option maxHeartbeats 8000000 in
set_option maxRecDepth 100000 in
theorem dG.calls (k : Nat) : ∀ (aj : Int) (av : Int) (ak : Int) (au : Int) (bA : Option Addr) (aZ : Nat) (af : List (S24)) (r : Int) (w : World) (fK : Kd.C k24 w bA af.length af) (fM : af.length ≤ aZ) (h : dG.f k aj av ak au af = some r),
  Calls Tryd.prog 40 #[.agg #[.int .i64 aj, .int .i64 av, .int .i64 ak, .int .i64 au, .slice bA af.length aZ]] w fun e w' => e = .returned (.int .i64 r) ∧ Below w.heap.size w w' := by
 induction k using Nat.strongRecOn with
 | _ k ih =>
 intro aj av ak au bA aZ af r w fK fM h; cases k with
 | zero => exact absurd h (by simp [dG.f])
 | succ k =>
 simp only [dG.f] at h; have qb := Tryd.underlying24; have cz := aa.mk fK; have eZ := aa.mk fM; clear fK fM; have HB := aa.mk (Below.refl w.heap.size w); have H : (if aj = 5 then (dG.l0 k 0 af (af.length : Int) 0) else (if aj = 6 then (if 0 < (af.length : Int) then ((dG.f k ((ah af 0).f0) ((ah af 0).f1) ((ah af 0).f2) ((ah af 0).f3) ((ah af 0).f4)).bind fun t119 => (some (wrap64 (1 + (wrap64 (au * t119)))))) else (none)) else (some 1))) = some r := h; clear h; by_cases c2 : aj = 5
 ·rw [if_pos c2] at H; obtain ⟨lv, oH⟩ := bq_ c2; clear c2; have H' := aa.mk H; clear H; go_enter Tryd.func40, Tryd.ntmps40; go_wp2_with (first | ((with_reducible refine aU (N := 1) rfl ?_); refine aY ?hg (N := 1) ?hd (cs := #[.int .i64 aj, .int .i64 av, .int .i64 ak, .int .i64 au, .slice bA af.length aZ]) (t := 24) ?hr ?_; (case hd => rfl); (case hg => rfl); (case hr => first | (go_simp; done) | (go_simp; rfl)); intro Br hg w3 aK hb; have nD := aa.mk (aK); have Pk : aa (w.heap.size ≤ Br) := gw_ hg (ax bl_); have GE114 := Pk; replace HB := aa.mk (ai bl_ hb); clear hb aK hg; obtain ⟨lC, lD, lF, lG, lH, lI, lJ, lK, lL, lM⟩ := bz nD.out))
  go_loopg [3, 13] k (fun kq v3 v13 w' => ∃ (gD : Int) (nO : Int), v3 = .int .i64 gD ∧ v13 = .int .i64 nO ∧ aa (dG.l0 kq gD af (af.length : Int) nO = some r) ∧ aa (kq ≤ k) ∧ aa (w'.heap[Br]? = some (.cells #[.int .i64 aj, .int .i64 av, .int .i64 ak, .int .i64 au, (.slice bA af.length aZ)] 24 (0, 0))) ∧ aa (Below w.heap.size w w'))
  case atStart => exact ⟨(0), (0), rs_, rs_, H', ⟨Nat.le_refl _⟩, ⟨bk_⟩, ⟨bl_⟩⟩
  case round =>
   clear H'; (try clear c2); (try clear lv); (try clear oH); (try clear p2); (try clear c4); (try clear lC lD lF lG lH lI lJ lK lL lM); obtain ⟨gD, nO, rfl, rfl, HA, HK1, nD, HB⟩ := hrel; cases gk with
   | zero => exact absurd HA.out (by simp [dG.l0])
   | succ k1 =>
    have H := HA.out; clear HA; simp only [dG.l0] at H; by_cases c5 : nO < (af.length : Int)
    ·rw [if_pos c5] at H; have jU := decide_eq_true c5; clear c5; by_cases c6 : 0 ≤ nO
     ·rw [if_pos c6] at H; have vT := decide_eq_true c6; clear c6; by_cases c7 : nO < (af.length : Int)
      ·rw [if_pos c7] at H; have mO := decide_eq_true c7; clear c7; replace H := Option.bind_eq_some_iff.mp H; obtain ⟨t117, A80, H⟩ := H; (try dsimp only at H)
       have A8 := aa.mk A80; clear A80; have H' := aa.mk H; clear H; have p115 : 0 ≤ (nO : Int) := dt_; have q115 : nO < (af.length : Int) := dt_; obtain ⟨ad115, A115_4, c115_4, e115, Vy, Vz, VA, VB, VC, VD, VE⟩ := ib cz.out nO p115 q115; cases e115; replace Vy := hc_ HB Vy; replace Vz := hc_ HB Vz; replace VA := hc_ HB VA; replace VB := hc_ HB VB; replace VC := hc_ HB VC; have HR115_4 := aa.mk VE; have HC115_4 := aa.mk VD; clear VE VD; replace p115 := eq_true p115; replace q115 := eq_true q115; go_wp2_with (first | ((with_reducible refine aU (N := 5) rfl ?_); refine aY ?hg (N := 5) ?hd (cs := #[.int .i64 0, .int .i64 0, .int .i64 0, .int .i64 0, .slice none 0 0]) (t := 24) ?hr ?_; (case hd => rfl); (case hg => rfl); (case hr => first | (go_simp; done) | (go_simp; rfl)); intro gb116 hg w9 aK hb; have BK116 := aa.mk (aK); have GW116 : aa (w.heap.size ≤ gb116) := gw_ hg (ax bl_); have GE116 := GW116; have YD := nl_ nD hg; have YE := ng_ nD hg; replace nD := kb_ nD hb; replace HB := aa.mk (ai bl_ hb); clear hb aK hg; have hnb10 := YE.out; have hnc10 := YD.out; obtain ⟨nR, nS, nT, oU, oV, nU, nV, nW, oW, oZ⟩ := bz BK116.out) | ((with_reducible refine aC (f := 40) rfl ?_); refine aX (some 19) rfl rfl Tryd.func40 (by kernel_rfl) rfl #[.agg #[.int .i64 ((ah af nO).f0), .int .i64 ((ah af nO).f1), .int .i64 ((ah af nO).f2), .int .i64 ((ah af nO).f3), .slice A115_4 ((ah af nO).f4).length c115_4]] rfl mp_ ?_; (with_reducible refine (ih k1 (by have := HK1.out; omega) ((ah af nO).f0) ((ah af nO).f1) ((ah af nO).f2) ((ah af nO).f3) _ _ ((ah af nO).f4) t117 _ ?ay ?az A8.out).mono ?_); (case ay => exact Kd.bB HR115_4.out bl_); (case az => exact HC115_4.out); rintro e w12 ⟨rfl, hb⟩; refine ⟨_, rfl, ?_⟩; replace nD := aa.mk (gJ (g := Br) (o := .cells #[.int .i64 aj, .int .i64 av, .int .i64 ak, .int .i64 au, .slice (some ad115) af.length aZ] 24 (0, 0)) b5_ hb); replace BK116 := aa.mk (gJ (g := gb116) (o := .cells #[.int .i64 ((ah af nO).f0), .int .i64 ((ah af nO).f1), .int .i64 ((ah af nO).f2), .int .i64 ((ah af nO).f3), .slice A115_4 ((ah af nO).f4).length c115_4] 24 (0, 0)) b5_ hb); replace HB := aa.mk (ai bl_ hb); (try clear hb); (try clear hb2); (try clear hk); (try clear hi)))
       go_roundg k1
       case measure => have := HK1.out; omega
       case rel => exact ⟨(wrap64 (gD + t117)), (wrap64 (nO + 1)), rs_, rs_, H', ⟨by have := HK1.out; omega⟩, ⟨bk_⟩, ⟨bl_⟩⟩
      ·rw [if_neg c7] at H; exact absurd H (by simp)
     ·rw [if_neg c6] at H; exact absurd H (by simp)
    ·rw [if_neg c5] at H; have jU := decide_eq_false c5; clear c5; obtain rfl := Option.some.inj H; go_wp2; go_ret; exact ⟨re_, bl_⟩
 ·rw [if_neg c2] at H; obtain ⟨lv, oH⟩ := bn_ c2; by_cases c13 : aj = 6
  ·rw [if_pos c13] at H; obtain ⟨rR, c13b1⟩ := bq_ c13; clear c13; by_cases c14 : 0 < (af.length : Int)
   ·rw [if_pos c14] at H; have sI := decide_eq_true c14; have E9 : decide (0 < af.length) = true := decide_eq_true (by omega); clear c14; replace H := Option.bind_eq_some_iff.mp H; obtain ⟨t119, A150, H⟩ := H; (try dsimp only at H)
    have A15 := aa.mk A150; clear A150; obtain rfl := Option.some.inj H; go_enter Tryd.func40, Tryd.ntmps40; try go_wp2_with (first | ((with_reducible refine aU (N := 1) rfl ?_); refine aY ?hg (N := 1) ?hd (cs := #[.int .i64 aj, .int .i64 av, .int .i64 ak, .int .i64 au, .slice bA af.length aZ]) (t := 24) ?hr ?_; (case hd => rfl); (case hg => rfl); (case hr => first | (go_simp; done) | (go_simp; rfl)); intro Br hg w16 aK hb; have nD := aa.mk (aK); have Pk : aa (w.heap.size ≤ Br) := gw_ hg (ax bl_); have GE114 := Pk; replace HB := aa.mk (ai bl_ hb); clear hb aK hg; obtain ⟨rT, rU, rV, rW, rX, rY, rZ, r9, si, sj⟩ := bz nD.out))
    replace nD := aa.mk (bC nD.out); replace HB := aa.mk (bQ HB.out); have p118 : 0 ≤ (0 : Int) := (by omega); have q118 : 0 < (af.length : Int) := dt_; obtain ⟨Fe, A118_4, c118_4, e118, KH, KI, KJ, KL, KM, VF, VG⟩ := ib cz.out 0 p118 q118; have KN := KM; (try simp only [z0_, Nat.zero_mul, Addr.add_zero'] at KN)
    have KO := KL; (try simp only [z0_, Nat.zero_mul, Addr.add_zero'] at KO)
    have KP := KJ; (try simp only [z0_, Nat.zero_mul, Addr.add_zero'] at KP)
    have KQ := KI; (try simp only [z0_, Nat.zero_mul, Addr.add_zero'] at KQ)
    have KR := KH; (try simp only [z0_, Nat.zero_mul, Addr.add_zero'] at KR)
    cases e118; have qi118 : (0 < af.length) = True := eq_true (by omega); (try simp only [z0_, Nat.zero_mul, Addr.add_zero'] at KH KI KJ KL KM)
    replace KH := hc_ HB KH; replace KI := hc_ HB KI; replace KJ := hc_ HB KJ; replace KL := hc_ HB KL; replace KM := hc_ HB KM; have VH := aa.mk VG; have HC118_4 := aa.mk VF; clear VG VF; replace p118 := eq_true p118; replace q118 := eq_true q118; refine sD (n := 10) (S := fun w' => w'.cell? ⟨Br, 0, none⟩ = some (.int .i64 aj) ∧ w'.cell? ⟨Br, 1, none⟩ = some (.int .i64 av) ∧ w'.cell? ⟨Br, 2, none⟩ = some (.int .i64 ak) ∧ w'.cell? ⟨Br, 3, none⟩ = some (.int .i64 au) ∧ w'.cell? ⟨Br, 4, none⟩ = some (.slice (some Fe) af.length aZ) ∧ w'.cell? Fe = some (.int .i64 ((ah af 0).f0)) ∧ w'.cell? ⟨Fe.block, Fe.off + 1, none⟩ = some (.int .i64 ((ah af 0).f1)) ∧ w'.cell? ⟨Fe.block, Fe.off + 2, none⟩ = some (.int .i64 ((ah af 0).f2)) ∧ w'.cell? ⟨Fe.block, Fe.off + 3, none⟩ = some (.int .i64 ((ah af 0).f3)) ∧ w'.cell? ⟨Fe.block, Fe.off + 4, none⟩ = some (.slice A118_4 ((ah af 0).f4).length c118_4)) (ds := []) #[false, false, false, false, false, false, false, false, false, false] (by kernel_rfl) rfl rfl ⟨(ag nD.out 0).trans rfl, (ag nD.out 1).trans rfl, (ag nD.out 2).trans rfl, (ag nD.out 3).trans rfl, (ag nD.out 4).trans rfl, ((HB.out.cell (World.block_lt_of_cell? w _ KR)).trans KR), ((HB.out.cell (World.block_lt_of_cell? w _ KQ)).trans KQ), ((HB.out.cell (World.block_lt_of_cell? w _ KP)).trans KP), ((HB.out.cell (World.block_lt_of_cell? w _ KO)).trans KO), ((HB.out.cell (World.block_lt_of_cell? w _ KN)).trans KN)⟩ (fun hHeld => ?_); refine l9 dG.Pj dG.MJ (fun HT_ HW_ => ?_)
    generalize w16.drew = w18 at nD HB VH KH KI KJ KL KM hHeld ⊢
    refine pu_ HT_ 0 25 (bm 10 1) ?_
    refine pu_ HT_ 2 27 (bm 10 5) ?_
    refine ta_ HT_ HW_ 1 26 (bm 10 7) hHeld ?_
    refine ta_ HT_ HW_ 3 28 (bm 10 15) hHeld ?_
    refine pu_ HT_ 4 29 (bm 10 31) ?_
    refine ta_ HT_ HW_ 5 30 (bm 10 63) hHeld ?_
    refine l7 (i := 6) (N := some 31) #[true, true, true, true, true, true, true, false, false, false] rfl rfl (jD HT_.out (by kernel_rfl)) (by decide) (fun K hK => ?_)
    refine kY Tryd.func40 (by kernel_rfl) rfl #[.agg #[.int .i64 ((ah af 0).f0), .int .i64 ((ah af 0).f1), .int .i64 ((ah af 0).f2), .int .i64 ((ah af 0).f3), .slice A118_4 ((ah af 0).f4).length c118_4]] (by rfl) rfl rfl mp_ ?_
    with_reducible refine (ih k (by omega) ((ah af 0).f0) ((ah af 0).f1) ((ah af 0).f2) ((ah af 0).f3) _ _ ((ah af 0).f4) t119 _ ?ay ?az A15.out).mono ?_
    (case ay => exact cb_ (Kd.bB VH.out HB.out))
    (case az => exact HC118_4.out)
    rintro e w19 ⟨rfl, hb⟩
    refine ⟨_, rfl, ?_⟩
    replace nD := kb_ nD hb; replace HB := aa.mk (ai bl_ hb); (try clear hb)
    (try clear hb2)
    (try clear hk)
    (try clear hi)
    refine hK.out _ _ ⟨(ag nD.out 0).trans rfl, (ag nD.out 1).trans rfl, (ag nD.out 2).trans rfl, (ag nD.out 3).trans rfl, (ag nD.out 4).trans rfl, ((HB.out.cell (World.block_lt_of_cell? w _ KR)).trans KR), ((HB.out.cell (World.block_lt_of_cell? w _ KQ)).trans KQ), ((HB.out.cell (World.block_lt_of_cell? w _ KP)).trans KP), ((HB.out.cell (World.block_lt_of_cell? w _ KO)).trans KO), ((HB.out.cell (World.block_lt_of_cell? w _ KN)).trans KN)⟩ (fun hHeld => ?_)
    clear hK K; refine ic (a' := ?_) ?_ ?_
    rotate_left
    ·show Act.put _ (some 31) _ = _
     simp only [Act.put, List.setIfInBounds_toArray, List.set_cons_zero, List.set_cons_succ, eT, fA]; rfl
    refine pu_ HT_ 7 32 (bm 10 255) ?_
    refine pu_ HT_ 8 33 (bm 10 511) ?_
    refine pu_ HT_ 9 2 #[true, true, true, true, true, true, true, true, true, true] ?_
    refine vJ (p9 HT_.out (by kernel_rfl)) ?_
    try go_wp2
    go_ret; exact ⟨re_, bl_⟩
   ·rw [if_neg c14] at H; exact absurd H (by simp)
  ·rw [if_neg c13] at H; obtain ⟨rR, c13b1⟩ := bn_ c13; obtain rfl := Option.some.inj H; go_enter Tryd.func40, Tryd.ntmps40; go_wp2_with (first | ((with_reducible refine aU (N := 1) rfl ?_); refine aY ?hg (N := 1) ?hd (cs := #[.int .i64 aj, .int .i64 av, .int .i64 ak, .int .i64 au, .slice bA af.length aZ]) (t := 24) ?hr ?_; (case hd => rfl); (case hg => rfl); (case hr => first | (go_simp; done) | (go_simp; rfl)); intro Br hg w20 aK hb; have nD := aa.mk (aK); have Pk : aa (w.heap.size ≤ Br) := gw_ hg (ax bl_); have GE114 := Pk; replace HB := aa.mk (ai bl_ hb); clear hb aK hg; obtain ⟨mP, mQ, mR, qC, qD, mU, mV, mW, qE, qF⟩ := bz nD.out))
   go_ret; exact ⟨re_, bl_⟩

end Go.Proofs.YtggelekooacmnaaDoor.Q
namespace Go.Proofs.YtggelekooacmnaaDoor.Q
open Go.RowKit Go.Proofs.YtggelekooacmnaaDoorW.bg Go.Proofs.YtggelekooacmnaaDoorW.bW Go.Proofs.YtggelekooacmnaaDoorW.dh
attribute [local go_sem] fE fF gy gz eO eP fG fH   -- for this text's walks alone
set_option linter.unusedVariables false
set_option linter.unusedSimpArgs false

/-! ### dE: function 12 -/
def dE.f (k : Nat) (aj : Int) (av : Int) (ak : Int) (au : Int) (af : List (S24)) : Option (Int) := (eQ.f k aj av ak au af).bind fun t121 => (if t121 > 10 then (some 9) else ((bf.f k aj av ak au af).bind fun t122 => (if t122 = 0 then ((dG.f k aj av ak au af).bind fun t123 => (if t123 > 24 then (some 9) else (some 0))) else (some t122))))
theorem dE.mono : ∀ a0 a1 a2 a3 a4 k, LeO (dE.f k a0 a1 a2 a3 a4) (dE.f (k + 1) a0 a1 a2 a3 a4) := by
 intro a0 a1 a2 a3 a4 k; unfold dE.f
 repeat' first
   | (with_reducible exact eQ.mono _ _ _ _ _ _)
   | (with_reducible exact bf.mono _ _ _ _ _ _)
   | (with_reducible exact dG.mono _ _ _ _ _ _)
   | (with_reducible exact LeO.refl _)
   | (with_reducible exact LeO.none _)
   | (with_reducible refine LeO.ite ?_ ?_)
   | (with_reducible refine LeO.bind ?_ (fun _ => ?_))
   | exact eQ.mono _ _ _ _ _ _
   | exact bf.mono _ _ _ _ _ _
   | exact dG.mono _ _ _ _ _ _
   | exact LeO.none _
   | refine LeO.ite ?_ ?_
   | refine LeO.bind ?_ (fun _ => ?_)
set_option maxHeartbeats 8000000 in
set_option maxRecDepth 100000 in
theorem dE.calls (k : Nat) (aj : Int) (av : Int) (ak : Int) (au : Int) (bA : Option Addr) (aZ : Nat) (af : List (S24)) (r : Int) (w : World) (fK : Kd.C k24 w bA af.length af) (fM : af.length ≤ aZ) (h : dE.f k aj av ak au af = some r) :
  Calls Tryd.prog 12 #[.agg #[.int .i64 aj, .int .i64 av, .int .i64 ak, .int .i64 au, .slice bA af.length aZ]] w fun e w' => e = .returned (.int .i64 r) ∧ Below w.heap.size w w' := by
 have qb := Tryd.underlying24; have cz := aa.mk fK; have eZ := aa.mk fM; clear fK fM; have HB := aa.mk (Below.refl w.heap.size w); have H : ((eQ.f k aj av ak au af).bind fun t121 => (if t121 > 10 then (some 9) else ((bf.f k aj av ak au af).bind fun t122 => (if t122 = 0 then ((dG.f k aj av ak au af).bind fun t123 => (if t123 > 24 then (some 9) else (some 0))) else (some t122))))) = some r := h; clear h; replace H := Option.bind_eq_some_iff.mp H; obtain ⟨t121, A20, H⟩ := H; (try dsimp only at H)
 have A2 := aa.mk A20; clear A20; by_cases c3 : t121 > 10
 ·rw [if_pos c3] at H; have kI : decide (10 < t121) = true := decide_eq_true c3; clear c3; obtain rfl := Option.some.inj H; go_enter Tryd.func12, Tryd.ntmps12; go_wp2_with (first | ((with_reducible refine aU (N := 1) rfl ?_); refine aY ?hg (N := 1) ?hd (cs := #[.int .i64 aj, .int .i64 av, .int .i64 ak, .int .i64 au, .slice bA af.length aZ]) (t := 24) ?hr ?_; (case hd => rfl); (case hg => rfl); (case hr => first | (go_simp; done) | (go_simp; rfl)); intro LJ hg w4 aK hb; have lS := aa.mk (aK); have LK : aa (w.heap.size ≤ LJ) := gw_ hg (ax bl_); have GE120 := LK; replace HB := aa.mk (ai bl_ hb); clear hb aK hg; obtain ⟨Iw, Iy, Iz, IA, IB, IC, IE, IG, II, IJ⟩ := bz lS.out) | ((with_reducible refine aC (f := 38) rfl ?_); refine aX (some 5) rfl rfl Tryd.func38 (by kernel_rfl) rfl #[.agg #[.int .i64 aj, .int .i64 av, .int .i64 ak, .int .i64 au, .slice bA af.length aZ]] rfl mp_ ?_; (with_reducible refine (eQ.calls k aj av ak au _ _ af t121 _ ?ay ?az A2.out).mono ?_); (case ay => exact cb_ (Kd.bB cz.out HB.out)); (case az => exact eZ.out); rintro e w6 ⟨rfl, hb⟩; refine ⟨_, rfl, ?_⟩; replace lS := kb_ lS hb; replace HB := aa.mk (ai bl_ hb); (try clear hb); (try clear hb2); (try clear hk); (try clear hi)))
  go_ret; exact ⟨re_, bl_⟩
 ·rw [if_neg c3] at H; have kI : decide (10 < t121) = false := decide_eq_false c3; clear c3; replace H := Option.bind_eq_some_iff.mp H; obtain ⟨t122, A70, H⟩ := H; (try dsimp only at H)
  have A7 := aa.mk A70; clear A70; by_cases c8 : t122 = 0
  ·rw [if_pos c8] at H; obtain ⟨ko, ny⟩ := bq_ c8; clear c8; replace H := Option.bind_eq_some_iff.mp H; obtain ⟨t123, A90, H⟩ := H; (try dsimp only at H)
   have A9 := aa.mk A90; clear A90; by_cases c10 : t123 > 24
   ·rw [if_pos c10] at H; have kv : decide (24 < t123) = true := decide_eq_true c10; clear c10; obtain rfl := Option.some.inj H; go_enter Tryd.func12, Tryd.ntmps12; go_wp2_with (first | ((with_reducible refine aU (N := 1) rfl ?_); refine aY ?hg (N := 1) ?hd (cs := #[.int .i64 aj, .int .i64 av, .int .i64 ak, .int .i64 au, .slice bA af.length aZ]) (t := 24) ?hr ?_; (case hd => rfl); (case hg => rfl); (case hr => first | (go_simp; done) | (go_simp; rfl)); intro LJ hg w11 aK hb; have lS := aa.mk (aK); have LK : aa (w.heap.size ≤ LJ) := gw_ hg (ax bl_); have GE120 := LK; replace HB := aa.mk (ai bl_ hb); clear hb aK hg; obtain ⟨o5, o6, o7, o8, o9, pg, pq, pz, pE, pF⟩ := bz lS.out) | ((with_reducible refine aC (f := 38) rfl ?_); refine aX (some 5) rfl rfl Tryd.func38 (by kernel_rfl) rfl #[.agg #[.int .i64 aj, .int .i64 av, .int .i64 ak, .int .i64 au, .slice bA af.length aZ]] rfl mp_ ?_; (with_reducible refine (eQ.calls k aj av ak au _ _ af t121 _ ?ay ?az A2.out).mono ?_); (case ay => exact cb_ (Kd.bB cz.out HB.out)); (case az => exact eZ.out); rintro e w13 ⟨rfl, hb⟩; refine ⟨_, rfl, ?_⟩; replace lS := kb_ lS hb; replace HB := aa.mk (ai bl_ hb); (try clear hb); (try clear hb2); (try clear hk); (try clear hi); obtain ⟨mr, mD, mE, mF, mG, mH, mI, mJ, mK, mM⟩ := bz lS.out) | ((with_reducible refine aC (f := 39) rfl ?_); refine aX (some 8) rfl rfl Tryd.func39 (by kernel_rfl) rfl #[.agg #[.int .i64 aj, .int .i64 av, .int .i64 ak, .int .i64 au, .slice bA af.length aZ]] rfl mp_ ?_; (with_reducible refine (bf.calls k aj av ak au _ _ af t122 _ ?ay ?az A7.out).mono ?_); (case ay => exact cb_ (Kd.bB cz.out HB.out)); (case az => exact eZ.out); rintro e w15 ⟨rfl, hb⟩; refine ⟨_, rfl, ?_⟩; replace lS := kb_ lS hb; replace HB := aa.mk (ai bl_ hb); (try clear hb); (try clear hb2); (try clear hk); (try clear hi); obtain ⟨nX, nY, nZ, tH, tJ, og, oh, om, tK, tL⟩ := bz lS.out) | ((with_reducible refine aC (f := 40) rfl ?_); refine aX (some 13) rfl rfl Tryd.func40 (by kernel_rfl) rfl #[.agg #[.int .i64 aj, .int .i64 av, .int .i64 ak, .int .i64 au, .slice bA af.length aZ]] rfl mp_ ?_; (with_reducible refine (dG.calls k aj av ak au _ _ af t123 _ ?ay ?az A9.out).mono ?_); (case ay => exact cb_ (Kd.bB cz.out HB.out)); (case az => exact eZ.out); rintro e w17 ⟨rfl, hb⟩; refine ⟨_, rfl, ?_⟩; replace lS := kb_ lS hb; replace HB := aa.mk (ai bl_ hb); (try clear hb); (try clear hb2); (try clear hk); (try clear hi)))
    go_ret; exact ⟨re_, bl_⟩
   ·rw [if_neg c10] at H; have kv : decide (24 < t123) = false := decide_eq_false c10; clear c10; obtain rfl := Option.some.inj H; go_enter Tryd.func12, Tryd.ntmps12; go_wp2_with (first | ((with_reducible refine aU (N := 1) rfl ?_); refine aY ?hg (N := 1) ?hd (cs := #[.int .i64 aj, .int .i64 av, .int .i64 ak, .int .i64 au, .slice bA af.length aZ]) (t := 24) ?hr ?_; (case hd => rfl); (case hg => rfl); (case hr => first | (go_simp; done) | (go_simp; rfl)); intro LJ hg w18 aK hb; have lS := aa.mk (aK); have LK : aa (w.heap.size ≤ LJ) := gw_ hg (ax bl_); have GE120 := LK; replace HB := aa.mk (ai bl_ hb); clear hb aK hg; obtain ⟨CP, CQ, CR, CS, CU, CV, CW, CX, CY, CZ⟩ := bz lS.out) | ((with_reducible refine aC (f := 38) rfl ?_); refine aX (some 5) rfl rfl Tryd.func38 (by kernel_rfl) rfl #[.agg #[.int .i64 aj, .int .i64 av, .int .i64 ak, .int .i64 au, .slice bA af.length aZ]] rfl mp_ ?_; (with_reducible refine (eQ.calls k aj av ak au _ _ af t121 _ ?ay ?az A2.out).mono ?_); (case ay => exact cb_ (Kd.bB cz.out HB.out)); (case az => exact eZ.out); rintro e w20 ⟨rfl, hb⟩; refine ⟨_, rfl, ?_⟩; replace lS := kb_ lS hb; replace HB := aa.mk (ai bl_ hb); (try clear hb); (try clear hb2); (try clear hk); (try clear hi); obtain ⟨mP, mQ, mR, qC, qD, mU, mV, mW, qE, qF⟩ := bz lS.out) | ((with_reducible refine aC (f := 39) rfl ?_); refine aX (some 8) rfl rfl Tryd.func39 (by kernel_rfl) rfl #[.agg #[.int .i64 aj, .int .i64 av, .int .i64 ak, .int .i64 au, .slice bA af.length aZ]] rfl mp_ ?_; (with_reducible refine (bf.calls k aj av ak au _ _ af t122 _ ?ay ?az A7.out).mono ?_); (case ay => exact cb_ (Kd.bB cz.out HB.out)); (case az => exact eZ.out); rintro e w22 ⟨rfl, hb⟩; refine ⟨_, rfl, ?_⟩; replace lS := kb_ lS hb; replace HB := aa.mk (ai bl_ hb); (try clear hb); (try clear hb2); (try clear hk); (try clear hi); obtain ⟨KS, KT, KU, Sa, Sb, KV, KW, KX, Sc, Sd⟩ := bz lS.out) | ((with_reducible refine aC (f := 40) rfl ?_); refine aX (some 13) rfl rfl Tryd.func40 (by kernel_rfl) rfl #[.agg #[.int .i64 aj, .int .i64 av, .int .i64 ak, .int .i64 au, .slice bA af.length aZ]] rfl mp_ ?_; (with_reducible refine (dG.calls k aj av ak au _ _ af t123 _ ?ay ?az A9.out).mono ?_); (case ay => exact cb_ (Kd.bB cz.out HB.out)); (case az => exact eZ.out); rintro e w24 ⟨rfl, hb⟩; refine ⟨_, rfl, ?_⟩; replace lS := kb_ lS hb; replace HB := aa.mk (ai bl_ hb); (try clear hb); (try clear hb2); (try clear hk); (try clear hi)))
    go_ret; exact ⟨re_, bl_⟩
  ·rw [if_neg c8] at H; obtain ⟨ko, ny⟩ := bn_ c8; obtain rfl := Option.some.inj H; go_enter Tryd.func12, Tryd.ntmps12; go_wp2_with (first | ((with_reducible refine aU (N := 1) rfl ?_); refine aY ?hg (N := 1) ?hd (cs := #[.int .i64 aj, .int .i64 av, .int .i64 ak, .int .i64 au, .slice bA af.length aZ]) (t := 24) ?hr ?_; (case hd => rfl); (case hg => rfl); (case hr => first | (go_simp; done) | (go_simp; rfl)); intro LJ hg w25 aK hb; have lS := aa.mk (aK); have LK : aa (w.heap.size ≤ LJ) := gw_ hg (ax bl_); have GE120 := LK; replace HB := aa.mk (ai bl_ hb); clear hb aK hg; obtain ⟨wK, wL, wM, yC, yD, wN, wO, wP, yE, yF⟩ := bz lS.out) | ((with_reducible refine aC (f := 38) rfl ?_); refine aX (some 5) rfl rfl Tryd.func38 (by kernel_rfl) rfl #[.agg #[.int .i64 aj, .int .i64 av, .int .i64 ak, .int .i64 au, .slice bA af.length aZ]] rfl mp_ ?_; (with_reducible refine (eQ.calls k aj av ak au _ _ af t121 _ ?ay ?az A2.out).mono ?_); (case ay => exact cb_ (Kd.bB cz.out HB.out)); (case az => exact eZ.out); rintro e w27 ⟨rfl, hb⟩; refine ⟨_, rfl, ?_⟩; replace lS := kb_ lS hb; replace HB := aa.mk (ai bl_ hb); (try clear hb); (try clear hb2); (try clear hk); (try clear hi); obtain ⟨uD, uE, uF, uG, uH, uI, uJ, uK, uL, uM⟩ := bz lS.out) | ((with_reducible refine aC (f := 39) rfl ?_); refine aX (some 8) rfl rfl Tryd.func39 (by kernel_rfl) rfl #[.agg #[.int .i64 aj, .int .i64 av, .int .i64 ak, .int .i64 au, .slice bA af.length aZ]] rfl mp_ ?_; (with_reducible refine (bf.calls k aj av ak au _ _ af t122 _ ?ay ?az A7.out).mono ?_); (case ay => exact cb_ (Kd.bB cz.out HB.out)); (case az => exact eZ.out); rintro e w29 ⟨rfl, hb⟩; refine ⟨_, rfl, ?_⟩; replace lS := kb_ lS hb; replace HB := aa.mk (ai bl_ hb); (try clear hb); (try clear hb2); (try clear hk); (try clear hi)))
   go_ret; exact ⟨re_, bl_⟩

end Go.Proofs.YtggelekooacmnaaDoor.Q
namespace Go.Proofs.YtggelekooacmnaaDoor.Q
open Go.RowKit Go.Proofs.YtggelekooacmnaaDoorW.bg Go.Proofs.YtggelekooacmnaaDoorW.bW Go.Proofs.YtggelekooacmnaaDoorW.dh
attribute [local go_sem] fE fF gy gz eO eP fG fH   -- for this text's walks alone
set_option linter.unusedVariables false
set_option linter.unusedSimpArgs false

/-! ### bG: function 42 -/
theorem Yk {w : World} {a : Addr} {u v : Value} (h : (w.cell? a).isSome = true) : ((w.setCell a u).setCell a v).cell? a = some v := by
 obtain ⟨x, hx⟩ := Option.isSome_iff_exists.1 h; exact World.cell?_setCell_same _ _ _ (World.cell?_setCell_same _ _ _ hx)
mutual
def bG.j0 : Nat → Int → Bool → Int → Int → Int → Int → List (S24) → Int → Int → Int → Option ((List (S41)))
 | 0, _, _, _, _, _, _, _, _, _, _ => none
 | k + 1, x12, x15, Nf, Ng, Nh, KY, wQ, x126000, x126001, x126002 => if x15 = true then (some (([(⟨x126000, x126001, x126002⟩ : S41)] : List (S41)))) else (if x12 = 2 then (some (([(⟨Nf, Ng, Nh⟩ : S41)] : List (S41)))) else (if x12 = 6 then (bG.l0 k (([(⟨2, 0, KY⟩ : S41)] : List (S41))) KY 0 Nf Ng Nh KY wQ) else (bG.l1 k ([] : List (S41)) wQ (wQ.length : Int) 0)))
def bG.l0 : Nat → List (S41) → Int → Int → Int → Int → Int → Int → List (S24) → Option ((List (S41)))
 | 0, _, _, _, _, _, _, _, _ => none
 | k + 1, x4, x38, x39, Nf, Ng, Nh, KY, wQ => if x39 < x38 then (if 0 < (wQ.length : Int) then ((bG.f k ((ah wQ 0).f0) ((ah wQ 0).f1) ((ah wQ 0).f2) ((ah wQ 0).f3) ((ah wQ 0).f4)).bind fun t139 => (if x4.length + t139.length < 5864062014805 then (bG.l0 k (x4 ++ t139) x38 (wrap64 (x39 + 1)) Nf Ng Nh KY wQ) else (none))) else (none)) else (some x4)
def bG.l1 : Nat → List (S41) → List (S24) → Int → Int → Option ((List (S41)))
 | 0, _, _, _, _ => none
 | k + 1, x5, x51, x52, x53 => if x53 < x52 then (if 0 ≤ x53 then (if x53 < (x51.length : Int) then ((bG.f k ((ah x51 x53).f0) ((ah x51 x53).f1) ((ah x51 x53).f2) ((ah x51 x53).f3) ((ah x51 x53).f4)).bind fun t147 => (if x5.length + t147.length < 5864062014805 then (bG.l1 k (x5 ++ t147) x51 x52 (wrap64 (x53 + 1))) else (none))) else (none)) else (none)) else (some x5)
def bG.f : Nat → Int → Int → Int → Int → List (S24) → Option ((List (S41)))
 | 0, _, _, _, _, _ => none
 | k + 1, aj, av, ak, au, af => if aj = 1 then (some (([(⟨aj, 0, 1⟩ : S41)] : List (S41)))) else (if aj = 3 then (bG.j0 k aj (aj == 3) aj av ak au af aj 0 0) else (bG.j0 k aj (aj == 4) aj av ak au af aj 0 0))
end
theorem bG.iQ : ∀ k, (∀ y0 y1 y2 y3 y4, LeO (bG.f k y0 y1 y2 y3 y4) (bG.f (k + 1) y0 y1 y2 y3 y4)) ∧ (∀ y0 y1 y2 y3 y4 y5 y6 y7 y8 y9, LeO (bG.j0 k y0 y1 y2 y3 y4 y5 y6 y7 y8 y9) (bG.j0 (k + 1) y0 y1 y2 y3 y4 y5 y6 y7 y8 y9)) ∧ (∀ y0 y1 y2 y3 y4 y5 y6 y7, LeO (bG.l0 k y0 y1 y2 y3 y4 y5 y6 y7) (bG.l0 (k + 1) y0 y1 y2 y3 y4 y5 y6 y7)) ∧ (∀ y0 y1 y2 y3, LeO (bG.l1 k y0 y1 y2 y3) (bG.l1 (k + 1) y0 y1 y2 y3))
 | 0 => ⟨fun _ _ _ _ _ r h => by simp [bG.f] at h, fun _ _ _ _ _ _ _ _ _ _ r h => by simp [bG.j0] at h, fun _ _ _ _ _ _ _ _ r h => by simp [bG.l0] at h, fun _ _ _ _ r h => by simp [bG.l1] at h⟩
 | k + 1 => by
  obtain ⟨ih0, ih1, ih2, ih3⟩ := bG.iQ k; refine ⟨?_, ?_, ?_, ?_⟩
  ·intro y0 y1 y2 y3 y4; unfold bG.f; repeat' first
   | (with_reducible exact ih0 _ _ _ _ _)
   | (with_reducible exact ih1 _ _ _ _ _ _ _ _ _ _)
   | (with_reducible exact ih2 _ _ _ _ _ _ _ _)
   | (with_reducible exact ih3 _ _ _ _)
   | (with_reducible exact LeO.refl _)
   | (with_reducible exact LeO.none _)
   | (with_reducible refine LeO.ite ?_ ?_)
   | (with_reducible refine LeO.bind ?_ (fun _ => ?_))
   | exact ih0 _ _ _ _ _
   | exact ih1 _ _ _ _ _ _ _ _ _ _
   | exact ih2 _ _ _ _ _ _ _ _
   | exact ih3 _ _ _ _
   | exact LeO.none _
   | refine LeO.ite ?_ ?_
   | refine LeO.bind ?_ (fun _ => ?_)
  ·intro y0 y1 y2 y3 y4 y5 y6 y7 y8 y9; unfold bG.j0; repeat' first
   | (with_reducible exact ih0 _ _ _ _ _)
   | (with_reducible exact ih1 _ _ _ _ _ _ _ _ _ _)
   | (with_reducible exact ih2 _ _ _ _ _ _ _ _)
   | (with_reducible exact ih3 _ _ _ _)
   | (with_reducible exact LeO.refl _)
   | (with_reducible exact LeO.none _)
   | (with_reducible refine LeO.ite ?_ ?_)
   | (with_reducible refine LeO.bind ?_ (fun _ => ?_))
   | exact ih0 _ _ _ _ _
   | exact ih1 _ _ _ _ _ _ _ _ _ _
   | exact ih2 _ _ _ _ _ _ _ _
   | exact ih3 _ _ _ _
   | exact LeO.none _
   | refine LeO.ite ?_ ?_
   | refine LeO.bind ?_ (fun _ => ?_)
  ·intro y0 y1 y2 y3 y4 y5 y6 y7; unfold bG.l0; repeat' first
   | (with_reducible exact ih0 _ _ _ _ _)
   | (with_reducible exact ih1 _ _ _ _ _ _ _ _ _ _)
   | (with_reducible exact ih2 _ _ _ _ _ _ _ _)
   | (with_reducible exact ih3 _ _ _ _)
   | (with_reducible exact LeO.refl _)
   | (with_reducible exact LeO.none _)
   | (with_reducible refine LeO.ite ?_ ?_)
   | (with_reducible refine LeO.bind ?_ (fun _ => ?_))
   | exact ih0 _ _ _ _ _
   | exact ih1 _ _ _ _ _ _ _ _ _ _
   | exact ih2 _ _ _ _ _ _ _ _
   | exact ih3 _ _ _ _
   | exact LeO.none _
   | refine LeO.ite ?_ ?_
   | refine LeO.bind ?_ (fun _ => ?_)
  ·intro y0 y1 y2 y3; unfold bG.l1; repeat' first
   | (with_reducible exact ih0 _ _ _ _ _)
   | (with_reducible exact ih1 _ _ _ _ _ _ _ _ _ _)
   | (with_reducible exact ih2 _ _ _ _ _ _ _ _)
   | (with_reducible exact ih3 _ _ _ _)
   | (with_reducible exact LeO.refl _)
   | (with_reducible exact LeO.none _)
   | (with_reducible refine LeO.ite ?_ ?_)
   | (with_reducible refine LeO.bind ?_ (fun _ => ?_))
   | exact ih0 _ _ _ _ _
   | exact ih1 _ _ _ _ _ _ _ _ _ _
   | exact ih2 _ _ _ _ _ _ _ _
   | exact ih3 _ _ _ _
   | exact LeO.none _
   | refine LeO.ite ?_ ?_
   | refine LeO.bind ?_ (fun _ => ?_)
theorem bG.mono : ∀ a0 a1 a2 a3 a4 k, LeO (bG.f k a0 a1 a2 a3 a4) (bG.f (k + 1) a0 a1 a2 a3 a4) := by
 intro a0 a1 a2 a3 a4 k; obtain ⟨ih0, ih1, ih2, ih3⟩ := bG.iQ k; exact ih0 a0 a1 a2 a3 a4
set_option maxHeartbeats 8000000 in
set_option maxRecDepth 100000 in
theorem bG.calls (k : Nat) : ∀ (aj : Int) (av : Int) (ak : Int) (au : Int) (bA : Option Addr) (aZ : Nat) (af : List (S24)) (r : List (S41)) (w : World) (fK : Kd.C k24 w bA af.length af) (fM : af.length ≤ aZ) (h : bG.f k aj av ak au af = some r),
  Calls Tryd.prog 42 #[.agg #[.int .i64 aj, .int .i64 av, .int .i64 ak, .int .i64 au, .slice bA af.length aZ]] w fun e w' => ∃ v0_ : Value, e = .returned (v0_) ∧ Kd.R k41 41 w' w.heap.size (fun _ => True) v0_ r ∧ Below w.heap.size w w' := by
 induction k using Nat.strongRecOn with
 | _ k ih =>
 intro aj av ak au bA aZ af r w fK fM h; cases k with
 | zero => exact absurd h (by simp [bG.f])
 | succ k =>
 simp only [bG.f] at h; have qb := Tryd.underlying24; have hu41 := Tryd.underlying41; have cz := aa.mk fK; have eZ := aa.mk fM; clear fK fM; have HB := aa.mk (Below.refl w.heap.size w); have HSS := @Yk; have H : (if aj = 1 then (some (([(⟨aj, 0, 1⟩ : S41)] : List (S41)))) else (if aj = 3 then (bG.j0 k aj (aj == 3) aj av ak au af aj 0 0) else (bG.j0 k aj (aj == 4) aj av ak au af aj 0 0))) = some r := h; clear h; by_cases c2 : aj = 1
 ·rw [if_pos c2] at H; obtain ⟨lv, oH⟩ := bq_ c2; clear c2; obtain ⟨y126, Pm⟩ : ∃ y_ : List (S41), y_ = (([(⟨aj, 0, 1⟩ : S41)] : List (S41))) := ⟨_, rfl⟩; replace H : (some y126) = some r := by first | (rw [Pm]; with_reducible exact H) | (have H2_ := (Option.bind_some _ _).symm.trans H; rw [Pm]; with_reducible exact H2_) | (have H2_ := (Option.bind_some _ _).symm.trans H; with_reducible exact H2_) | with_reducible exact H | (rw [Pm]; exact H) | exact H
  have Ny126 := aa.mk Pm; clear Pm; obtain rfl := Option.some.inj H; go_enter Tryd.func42, Tryd.ntmps42; go_wp2_with (first | ((with_reducible refine aU (N := 1) rfl ?_); refine aY ?hg (N := 1) ?hd (cs := #[.int .i64 aj, .int .i64 av, .int .i64 ak, .int .i64 au, .slice bA af.length aZ]) (t := 24) ?hr ?_; (case hd => rfl); (case hg => rfl); (case hr => first | (go_simp; done) | (go_simp; rfl)); intro Ff hg w3 aK hb; have jJ := aa.mk (aK); have GW124 : aa (w.heap.size ≤ Ff) := gw_ hg (ax bl_); have GE124 := GW124; replace HB := aa.mk (ai bl_ hb); clear hb aK hg; obtain ⟨lC, lD, lF, lG, lH, lI, lJ, lK, lL, lM⟩ := bz jJ.out) | ((with_reducible refine aU (N := 3) rfl ?_); refine aY ?hg (N := 3) ?hd (cs := #[.int .i64 0, .int .i64 0, .int .i64 0]) (t := 41) ?hr ?_; (case hd => rfl); (case hg => rfl); (case hr => first | (go_simp; done) | (go_simp; rfl)); intro oF hg w5 aK hb; have mX := aa.mk (aK); have GW125 : aa (w.heap.size ≤ oF) := gw_ hg (ax bl_); have GE125 := GW125; have nE := nl_ jJ hg; have xz := ng_ jJ hg; replace jJ := kb_ jJ hb; replace HB := aa.mk (ai bl_ hb); clear hb aK hg; have hnb6 := xz.out; have hnc6 := nE.out; obtain ⟨Dk, Dl, Dm, FB, Dn, Dp⟩ := qa mX.out; obtain ⟨wR, wS, wT, wU, wV, wW, wX, wY, wZ, xc⟩ := bz jJ.out) | ((with_reducible refine aU (N := 24) rfl ?_); refine Kd.oD k41 _ 41 ?hg (N := 24) ?hd (xs := ([(⟨aj, 0, 1⟩ : S41)] : List (S41))) (inner := [.int .i64 aj, .int .i64 0, .int .i64 1]) (ok := fun _ => True) (okp := fun _ => True) ?hr ?hp (fun _ hk => hk) trivial (Below.refl _ _) (Nat.le_refl _) (by simp) ?_; (case hd => rfl); (case hg => rfl); (case hr => first | (go_simp; done) | (go_simp; rfl)); (case hp => exact (dN.c3 (show Kd.M k41 _ _ _ (⟨aj, 0, 1⟩ : S41) [.int .i64 aj, .int .i64 0, .int .i64 1] from (BL _ _ _ (⟨aj, 0, 1⟩ : S41) )) (dN.none _ _))); intro v127 w9 ho10 hb hg_ ig; clear hg_ ig; (first | rw [← Ny126.out] at ho10 | (simp only [Int.reduceToNat] at ho10; rw [← Ny126.out] at ho10)); have HO128 := aa.mk (Kd.bV (Kd.JZ ho10 (g := oF) (o := .cells #[.int .i64 aj, .int .i64 0, .int .i64 1] 41 (0, 0)) (by (with_reducible repeat (first | refine bL ?_ _ | refine bC ?_ | refine bF ?_ _)); refine iP (cs := #[.int .i64 aj, .int .i64 0, .int .i64 0]) ?_ 2 _ rfl; (with_reducible repeat (first | refine bL ?_ _ | refine bC ?_ | refine bF ?_ _)); refine iP (cs := #[.int .i64 aj, .int .i64 0, .int .i64 0]) ?_ 2 _ rfl; (with_reducible repeat (first | refine bL ?_ _ | refine bC ?_ | refine bF ?_ _)); refine iP (cs := #[.int .i64 aj, .int .i64 0, .int .i64 0]) ?_ 1 _ rfl; (with_reducible repeat (first | refine bL ?_ _ | refine bC ?_ | refine bF ?_ _)); refine iP (cs := #[.int .i64 0, .int .i64 0, .int .i64 0]) ?_ 0 _ rfl; (with_reducible repeat (first | refine bL ?_ _ | refine bC ?_ | refine bF ?_ _)); exact mX.out)) (ax bl_)); replace jJ := aa.mk (gJ (g := Ff) (o := .cells #[.int .i64 aj, .int .i64 av, .int .i64 ak, .int .i64 au, .slice bA af.length aZ] 24 (0, 0)) b5_ hb); replace mX := aa.mk (gJ (g := oF) (o := .cells #[.int .i64 aj, .int .i64 0, .int .i64 1] 41 (0, 0)) (by (with_reducible repeat (first | refine bL ?_ _ | refine bC ?_ | refine bF ?_ _)); refine iP (cs := #[.int .i64 aj, .int .i64 0, .int .i64 0]) ?_ 2 _ rfl; (with_reducible repeat (first | refine bL ?_ _ | refine bC ?_ | refine bF ?_ _)); refine iP (cs := #[.int .i64 aj, .int .i64 0, .int .i64 0]) ?_ 2 _ rfl; (with_reducible repeat (first | refine bL ?_ _ | refine bC ?_ | refine bF ?_ _)); refine iP (cs := #[.int .i64 aj, .int .i64 0, .int .i64 0]) ?_ 1 _ rfl; (with_reducible repeat (first | refine bL ?_ _ | refine bC ?_ | refine bF ?_ _)); refine iP (cs := #[.int .i64 0, .int .i64 0, .int .i64 0]) ?_ 0 _ rfl; (with_reducible repeat (first | refine bL ?_ _ | refine bC ?_ | refine bF ?_ _)); exact mX.out) hb); replace HB := aa.mk (ai bl_ hb); clear hb ho10))
  go_ret; exact ⟨_, re_, by (with_reducible repeat (first | apply Kd.dx | apply Kd.dz | apply Kd.dH)); exact Kd.cK HO128.out (fun _ hk => trivial), bl_⟩
 ·rw [if_neg c2] at H; obtain ⟨lv, oH⟩ := bn_ c2; have HC11 := aa.mk H; clear H; go_enter Tryd.func42, Tryd.ntmps42; go_upto_if 15 with (first | ((with_reducible refine aU (N := 1) rfl ?_); refine aY ?hg (N := 1) ?hd (cs := #[.int .i64 aj, .int .i64 av, .int .i64 ak, .int .i64 au, .slice bA af.length aZ]) (t := 24) ?hr ?_; (case hd => rfl); (case hg => rfl); (case hr => first | (go_simp; done) | (go_simp; rfl)); intro Ff hg w12 aK hb; have jJ := aa.mk (aK); have GW124 : aa (w.heap.size ≤ Ff) := gw_ hg (ax bl_); have GE124 := GW124; replace HB := aa.mk (ai bl_ hb); clear hb aK hg; obtain ⟨vU, vV, vW, xX, xY, vX, vY, vZ, xZ, yc⟩ := bz jJ.out) | ((with_reducible refine aU (N := 3) rfl ?_); refine aY ?hg (N := 3) ?hd (cs := #[.int .i64 0, .int .i64 0, .int .i64 0]) (t := 41) ?hr ?_; (case hd => rfl); (case hg => rfl); (case hr => first | (go_simp; done) | (go_simp; rfl)); intro oF hg w14 aK hb; have mX := aa.mk (aK); have GW125 : aa (w.heap.size ≤ oF) := gw_ hg (ax bl_); have GE125 := GW125; have nE := nl_ jJ hg; have xz := ng_ jJ hg; replace jJ := kb_ jJ hb; replace HB := aa.mk (ai bl_ hb); clear hb aK hg; have hnb15 := xz.out; have hnc15 := nE.out; obtain ⟨nX, nY, nZ, og, oh, om⟩ := qa mX.out; obtain ⟨rT, rU, rV, rW, rX, rY, rZ, r9, si, sj⟩ := bz jJ.out))
  (try simp only [Act.put, List.setIfInBounds_toArray, List.set_cons_zero, List.set_cons_succ])
  go_cut [15] (fun v15 wc => ∃ (kq : Nat) (Pn : Bool), v15 = .bool Pn ∧ aa (bG.j0 kq aj Pn aj av ak au af aj 0 0 = some r) ∧ aa (kq ≤ k) ∧ aa (wc.heap[Ff]? = some (.cells #[.int .i64 aj, .int .i64 av, .int .i64 ak, .int .i64 au, (.slice bA af.length aZ)] 24 (0, 0))) ∧ aa (wc.heap[oF]? = some (.cells #[.int .i64 aj, .int .i64 0, .int .i64 0] 41 (0, 0))) ∧ aa (Below w.heap.size w wc))
  case first =>
   have H := HC11.out; clear HC11; by_cases c18 : aj = 3
   ·rw [if_pos c18] at H; obtain ⟨vK, Du⟩ := bq_ c18; clear c18; (first | rw [vK] | (simp only [eT, fA]; rw [vK]) | skip)
    have H' := aa.mk H; clear H; go_wp2; go_meet
    case rel => exact ⟨_, ((aj == 3)), rs_, H', ⟨by first | omega | exact Nat.le_refl _⟩, ⟨by (with_reducible repeat (first | refine bL ?_ _ | refine bC ?_ | refine bF ?_ _)); refine gp ?_ nE.out _; (with_reducible repeat (first | refine bL ?_ _ | refine bC ?_ | refine bF ?_ _)); refine gp ?_ nE.out _; (with_reducible repeat (first | refine bL ?_ _ | refine bC ?_ | refine bF ?_ _)); refine gp ?_ nE.out _; (with_reducible repeat (first | refine bL ?_ _ | refine bC ?_ | refine bF ?_ _)); exact jJ.out⟩, ⟨by (with_reducible repeat (first | refine bL ?_ _ | refine bC ?_ | refine bF ?_ _)); refine iP (cs := #[.int .i64 aj, .int .i64 0, .int .i64 0]) ?_ 2 _ rfl; (with_reducible repeat (first | refine bL ?_ _ | refine bC ?_ | refine bF ?_ _)); refine iP (cs := #[.int .i64 aj, .int .i64 0, .int .i64 0]) ?_ 1 _ rfl; (with_reducible repeat (first | refine bL ?_ _ | refine bC ?_ | refine bF ?_ _)); refine iP (cs := #[.int .i64 0, .int .i64 0, .int .i64 0]) ?_ 0 _ rfl; (with_reducible repeat (first | refine bL ?_ _ | refine bC ?_ | refine bF ?_ _)); exact mX.out⟩, ⟨bl_⟩⟩
   ·rw [if_neg c18] at H; obtain ⟨vK, Du⟩ := bn_ c18; (first | rw [vK] | (simp only [eT, fA]; rw [vK]) | skip)
    have H' := aa.mk H; clear H; go_wp2; go_meet
    case rel => exact ⟨_, ((aj == 4)), rs_, H', ⟨by first | omega | exact Nat.le_refl _⟩, ⟨by (with_reducible repeat (first | refine bL ?_ _ | refine bC ?_ | refine bF ?_ _)); refine gp ?_ nE.out _; (with_reducible repeat (first | refine bL ?_ _ | refine bC ?_ | refine bF ?_ _)); refine gp ?_ nE.out _; (with_reducible repeat (first | refine bL ?_ _ | refine bC ?_ | refine bF ?_ _)); refine gp ?_ nE.out _; (with_reducible repeat (first | refine bL ?_ _ | refine bC ?_ | refine bF ?_ _)); exact jJ.out⟩, ⟨by (with_reducible repeat (first | refine bL ?_ _ | refine bC ?_ | refine bF ?_ _)); refine iP (cs := #[.int .i64 aj, .int .i64 0, .int .i64 0]) ?_ 2 _ rfl; (with_reducible repeat (first | refine bL ?_ _ | refine bC ?_ | refine bF ?_ _)); refine iP (cs := #[.int .i64 aj, .int .i64 0, .int .i64 0]) ?_ 1 _ rfl; (with_reducible repeat (first | refine bL ?_ _ | refine bC ?_ | refine bF ?_ _)); refine iP (cs := #[.int .i64 0, .int .i64 0, .int .i64 0]) ?_ 0 _ rfl; (with_reducible repeat (first | refine bL ?_ _ | refine bC ?_ | refine bF ?_ _)); exact mX.out⟩, ⟨bl_⟩⟩
  case rest =>
   clear HC11; (try clear c1); (try clear c2); (try clear lv); (try clear oH); (try clear p2); (try clear c3); (try clear c4); (try clear c6); (try clear c15); (try clear c18); (try clear vK); (try clear Du); (try clear vU vV vW xX xY vX vY vZ xZ yc); (try clear nX nY nZ og oh om); (try clear rT rU rV rW rX rY rZ r9 si sj); (try clear lC lD lF lG lH lI lJ lK lL lM); (try clear Dk Dl Dm FB Dn Dp); (try clear wR wS wT wU wV wW wX wY wZ xc); obtain ⟨kq, Pn, rfl, HA, HJ10, jJ, mX, HB⟩ := hcut; cases kq with
   | zero => exact absurd HA.out (by simp [bG.j0])
   | succ kj10 =>
    have H := HA.out; clear HA; simp only [bG.j0] at H; by_cases c19 : Pn = true
    ·subst c19; have H1 : (some (([(⟨aj, 0, 0⟩ : S41)] : List (S41)))) = some r := by rw [if_pos rfl] at H; exact H
     clear H; have H := H1; clear H1; obtain ⟨y129, Po⟩ : ∃ y_ : List (S41), y_ = (([(⟨aj, 0, 0⟩ : S41)] : List (S41))) := ⟨_, rfl⟩; replace H : (some y129) = some r := by first | (rw [Po]; with_reducible exact H) | (have H2_ := (Option.bind_some _ _).symm.trans H; rw [Po]; with_reducible exact H2_) | (have H2_ := (Option.bind_some _ _).symm.trans H; with_reducible exact H2_) | with_reducible exact H | (rw [Po]; exact H) | exact H
     have Ny129 := aa.mk Po; clear Po; obtain rfl := Option.some.inj H; have hnb20 := xz.out; have hnc20 := nE.out; obtain ⟨mP, mQ, mR, mU, mV, mW⟩ := qa mX.out; go_wp2_with (first | ((with_reducible refine aU (N := 24) rfl ?_); refine Kd.oD k41 _ 41 ?hg (N := 24) ?hd (xs := ([(⟨aj, 0, 0⟩ : S41)] : List (S41))) (inner := [.int .i64 aj, .int .i64 0, .int .i64 0]) (ok := fun _ => True) (okp := fun _ => True) ?hr ?hp (fun _ hk => hk) trivial (Below.refl _ _) (Nat.le_refl _) (by simp) ?_; (case hd => rfl); (case hg => rfl); (case hr => first | (go_simp; done) | (go_simp; rfl)); (case hp => exact (dN.c3 (show Kd.M k41 _ _ _ (⟨aj, 0, 0⟩ : S41) [.int .i64 aj, .int .i64 0, .int .i64 0] from (BL _ _ _ (⟨aj, 0, 0⟩ : S41) )) (dN.none _ _))); intro v130 w22 zi hb hg_ ig; clear hg_ ig; (first | rw [← Ny129.out] at zi | (simp only [Int.reduceToNat] at zi; rw [← Ny129.out] at zi)); have HO131 := aa.mk (Kd.bV (Kd.JZ zi (g := oF) (o := .cells #[.int .i64 aj, .int .i64 0, .int .i64 0] 41 (0, 0)) bk_) (ax bl_)); replace jJ := kb_ jJ hb; replace mX := kb_ mX hb; replace HB := aa.mk (ai bl_ hb); clear hb zi))
     go_ret; exact ⟨_, re_, by (with_reducible repeat (first | apply Kd.dx | apply Kd.dz | apply Kd.dH)); exact Kd.cK HO131.out (fun _ hk => trivial), bl_⟩
    ·replace c19 := Bool.eq_false_iff.mpr c19; subst c19; have H1 : (if aj = 2 then (some (([(⟨aj, av, ak⟩ : S41)] : List (S41)))) else (if aj = 6 then (bG.l0 kj10 (([(⟨2, 0, au⟩ : S41)] : List (S41))) au 0 aj av ak au af) else (bG.l1 kj10 ([] : List (S41)) af (af.length : Int) 0))) = some r := by rw [if_neg (show ¬ (false = true) by decide)] at H; exact H
     clear H; have H := H1; clear H1; by_cases c24 : aj = 2
     ·rw [if_pos c24] at H; obtain ⟨yS, Pb⟩ := bq_ c24; clear c24; obtain ⟨y132, Pp⟩ : ∃ y_ : List (S41), y_ = (([(⟨aj, av, ak⟩ : S41)] : List (S41))) := ⟨_, rfl⟩; replace H : (some y132) = some r := by first | (rw [Pp]; with_reducible exact H) | (have H2_ := (Option.bind_some _ _).symm.trans H; rw [Pp]; with_reducible exact H2_) | (have H2_ := (Option.bind_some _ _).symm.trans H; with_reducible exact H2_) | with_reducible exact H | (rw [Pp]; exact H) | exact H
      have Ny132 := aa.mk Pp; clear Pp; obtain rfl := Option.some.inj H; have hnb25 := nE.out; have hnc25 := xz.out; obtain ⟨wK, wL, wM, yC, yD, wN, wO, wP, yE, yF⟩ := bz jJ.out; go_wp2_with (first | ((with_reducible refine aU (N := 32) rfl ?_); refine Kd.oD k41 _ 41 ?hg (N := 32) ?hd (xs := ([(⟨aj, av, ak⟩ : S41)] : List (S41))) (inner := [.int .i64 aj, .int .i64 av, .int .i64 ak]) (ok := fun _ => True) (okp := fun _ => True) ?hr ?hp (fun _ hk => hk) trivial (Below.refl _ _) (Nat.le_refl _) (by simp) ?_; (case hd => rfl); (case hg => rfl); (case hr => first | (go_simp; done) | (go_simp; rfl)); (case hp => exact (dN.c3 (show Kd.M k41 _ _ _ (⟨aj, av, ak⟩ : S41) [.int .i64 aj, .int .i64 av, .int .i64 ak] from (BL _ _ _ (⟨aj, av, ak⟩ : S41) )) (dN.none _ _))); intro v133 w27 ho28 hb hg_ ig; clear hg_ ig; (first | rw [← Ny132.out] at ho28 | (simp only [Int.reduceToNat] at ho28; rw [← Ny132.out] at ho28)); have HO134 := aa.mk (Kd.bV (Kd.JZ ho28 (g := oF) (o := .cells #[.int .i64 aj, .int .i64 0, .int .i64 0] 41 (0, 0)) bk_) (ax bl_)); replace jJ := kb_ jJ hb; replace mX := kb_ mX hb; replace HB := aa.mk (ai bl_ hb); clear hb ho28))
      go_ret; exact ⟨_, re_, by (with_reducible repeat (first | apply Kd.dx | apply Kd.dz | apply Kd.dH)); exact Kd.cK HO134.out (fun _ hk => trivial), bl_⟩
     ·rw [if_neg c24] at H; obtain ⟨yS, Pb⟩ := bn_ c24; by_cases c29 : aj = 6
      ·rw [if_pos c29] at H; obtain ⟨Gh, Gi⟩ := bq_ c29; clear c29; obtain ⟨y135, Pq⟩ : ∃ y_ : List (S41), y_ = (([(⟨2, 0, au⟩ : S41)] : List (S41))) := ⟨_, rfl⟩; replace H : (bG.l0 kj10 y135 au 0 aj av ak au af) = some r := by first | (rw [Pq]; with_reducible exact H) | (have H2_ := (Option.bind_some _ _).symm.trans H; rw [Pq]; with_reducible exact H2_) | (have H2_ := (Option.bind_some _ _).symm.trans H; with_reducible exact H2_) | with_reducible exact H | (rw [Pq]; exact H) | exact H
       have Ny135 := aa.mk Pq; clear Pq; have H' := aa.mk H; clear H; have hnb30 := nE.out; have hnc30 := xz.out; obtain ⟨zy, zz, zA, BZ, Ca, zB, zC, zD, Cb, Cc⟩ := bz jJ.out; go_wp2_with (first | ((with_reducible refine aU (N := 36) rfl ?_); refine Kd.oD k41 _ 41 ?hg (N := 36) ?hd (xs := ([(⟨2, 0, au⟩ : S41)] : List (S41))) (inner := [.int .i64 2, .int .i64 0, .int .i64 au]) (ok := fun _ => True) (okp := fun _ => True) ?hr ?hp (fun _ hk => hk) trivial (Below.refl _ _) (Nat.le_refl _) (by simp) ?_; (case hd => rfl); (case hg => rfl); (case hr => first | (go_simp; done) | (go_simp; rfl)); (case hp => exact (dN.c3 (show Kd.M k41 _ _ _ (⟨2, 0, au⟩ : S41) [.int .i64 2, .int .i64 0, .int .i64 au] from (BL _ _ _ (⟨2, 0, au⟩ : S41) )) (dN.none _ _))); intro v136 w32 ho33 hb hg_ ig; clear hg_ ig; (first | rw [← Ny135.out] at ho33 | (simp only [Int.reduceToNat] at ho33; rw [← Ny135.out] at ho33)); have HO137 := aa.mk (Kd.bV (Kd.JZ ho33 (g := oF) (o := .cells #[.int .i64 aj, .int .i64 0, .int .i64 0] 41 (0, 0)) bk_) (ax bl_)); replace jJ := kb_ jJ hb; replace mX := kb_ mX hb; replace HB := aa.mk (ai bl_ hb); clear hb ho33; obtain ⟨Cq, Cr, Cs, El, Em, Ct, Cu, Cv, En, Eo⟩ := bz jJ.out))
       go_loopg [4, 39] kj10 (fun kq v4 v39 w' => ∃ (Eu : List (S41)) (Nl : Int), v39 = .int .i64 Nl ∧ aa (bG.l0 kq Eu au Nl aj av ak au af = some r) ∧ aa (kq ≤ kj10) ∧ aa (Kd.R k41 41 w' w.heap.size (fun k_ => k_ ≠ oF) v4 Eu) ∧ aa (w'.heap[Ff]? = some (.cells #[.int .i64 aj, .int .i64 av, .int .i64 ak, .int .i64 au, (.slice bA af.length aZ)] 24 (0, 0))) ∧ aa (w'.heap[oF]? = some (.cells #[.int .i64 aj, .int .i64 0, .int .i64 0] 41 (0, 0))) ∧ aa (Below w.heap.size w w'))
       case atStart => exact ⟨(y135), (0), rs_, H', ⟨Nat.le_refl _⟩, ⟨by (with_reducible repeat (first | apply Kd.dx | apply Kd.dz | apply Kd.dH)); exact Kd.cK HO137.out (fun _ hk => hk.2)⟩, ⟨bk_⟩, ⟨bk_⟩, ⟨bl_⟩⟩
       case round =>
        clear H'; (try clear c1); (try clear c2); (try clear lv); (try clear oH); (try clear p2); (try clear c3); (try clear c4); (try clear c6); (try clear c15); (try clear c18); (try clear vK); (try clear Du); (try clear c19); (try clear c20); (try clear c24); (try clear yS); (try clear Pb); (try clear c25); (try clear c29); (try clear Gh); (try clear Gi); (try clear c30); (try clear vU vV vW xX xY vX vY vZ xZ yc); (try clear nX nY nZ og oh om); (try clear rT rU rV rW rX rY rZ r9 si sj); (try clear mP mQ mR mU mV mW); (try clear wK wL wM yC yD wN wO wP yE yF); (try clear zy zz zA BZ Ca zB zC zD Cb Cc); (try clear Cq Cr Cs El Em Ct Cu Cv En Eo); (try clear lC lD lF lG lH lI lJ lK lL lM); (try clear Dk Dl Dm FB Dn Dp); (try clear wR wS wT wU wV wW wX wY wZ xc); (try clear p2); obtain ⟨Eu, Nl, rfl, HA, HK2, HO_4, jJ, mX, HB⟩ := hrel; cases gk with
        | zero => exact absurd HA.out (by simp [bG.l0])
        | succ k2 =>
         have H := HA.out; clear HA; simp only [bG.l0] at H; by_cases c35 : Nl < au
         ·rw [if_pos c35] at H; have c35b0 := decide_eq_true c35; clear c35; by_cases c36 : 0 < (af.length : Int)
          ·rw [if_pos c36] at H; have Fg := decide_eq_true c36; have c36b1 : decide (0 < af.length) = true := decide_eq_true (by omega); clear c36; replace H := Option.bind_eq_some_iff.mp H; obtain ⟨t139, A370, H⟩ := H; (try dsimp only at H)
           have A37 := aa.mk A370; clear A370; by_cases c38 : Eu.length + t139.length < 5864062014805
           ·rw [if_pos c38] at H; have LMc38 := aa.mk c38; clear c38; obtain ⟨y142, Ps⟩ : ∃ y_ : List (S41), y_ = (Eu ++ t139) := ⟨_, rfl⟩; replace H : (bG.l0 k2 y142 au (wrap64 (Nl + 1)) aj av ak au af) = some r := by first | (rw [Ps]; with_reducible exact H) | (have H2_ := (Option.bind_some _ _).symm.trans H; rw [Ps]; with_reducible exact H2_) | (have H2_ := (Option.bind_some _ _).symm.trans H; with_reducible exact H2_) | with_reducible exact H | (rw [Ps]; exact H) | exact H
            have Ny142 := aa.mk Ps; clear Ps; have H' := aa.mk H; clear H; have hnb39 := nE.out; have hnc39 := xz.out; obtain ⟨Sg, Si, Sj, Sk, Sl, Sm, Sn, Sq, Sr, Su⟩ := bz jJ.out; have p138 : 0 ≤ (0 : Int) := (by omega); have q138 : 0 < (af.length : Int) := dt_; obtain ⟨ad138, A138_4, c138_4, e138, Nn, Np, Nq, Nr, Ns, VI, VJ⟩ := ib cz.out 0 p138 q138; cases e138; have qi138 : (0 < af.length) = True := eq_true (by omega); (try simp only [z0_, Nat.zero_mul, Addr.add_zero'] at Nn Np Nq Nr Ns)
            replace Nn := hc_ HB Nn; replace Np := hc_ HB Np; replace Nq := hc_ HB Nq; replace Nr := hc_ HB Nr; replace Ns := hc_ HB Ns; have HR138_4 := aa.mk VJ; have HC138_4 := aa.mk VI; clear VJ VI; replace p138 := eq_true p138; replace q138 := eq_true q138; go_wp2_with (first | ((with_reducible refine aC (f := 42) rfl ?_); refine aX (some 46) rfl rfl Tryd.func42 (by kernel_rfl) rfl #[.agg #[.int .i64 ((ah af 0).f0), .int .i64 ((ah af 0).f1), .int .i64 ((ah af 0).f2), .int .i64 ((ah af 0).f3), .slice A138_4 ((ah af 0).f4).length c138_4]] rfl mp_ ?_; (with_reducible refine (ih k2 (by have := HJ10.out; have := HK2.out; omega) ((ah af 0).f0) ((ah af 0).f1) ((ah af 0).f2) ((ah af 0).f3) _ _ ((ah af 0).f4) t139 _ ?ay ?az A37.out).mono ?_); (case ay => exact cb_ (Kd.bB HR138_4.out HB.out)); (case az => exact HC138_4.out); rintro e w41 ⟨v140, rfl, ho0, hb⟩; refine ⟨_, rfl, ?_⟩; have Pt := aa.mk (Kd.bV (Kd.JZ (Kd.eD ho0 (Kd.gF (pR_ HO_4.out))) (g := oF) (o := .cells #[.int .i64 aj, .int .i64 0, .int .i64 0] 41 (0, 0)) bk_) (ax bl_)); replace HO_4 := aa.mk (Kd.eF (pR_ HO_4.out) (Kd.cO ho0) hb); replace jJ := kb_ jJ hb; replace mX := kb_ mX hb; replace HB := aa.mk (ai bl_ hb); (try clear hb); (try clear hb2); (try clear hk); (try clear hi); (try clear ho0); obtain ⟨Ao43, co43, eo43⟩ := Kd.df Pt.out; subst eo43) | ((with_reducible refine qY (b := .append) (xs := #[.tmp 41, .tmp 46]) rfl ?_); at_builtin; refine Kd.uw k41 (w0 := w) w.heap.size rfl (.tmp 41) (.tmp 46) 37 41 (.agg #[(.int .i64 0), (.int .i64 0), (.int .i64 0)]) 24 rfl Tryd.underlying37 O8 rfl (by decide) (by omega) u4 Eu t139 _ _ _ (fun k_ => some k_ ≠ (.slice Ao43 t139.length co43 : Value).ownBlock ∧ k_ ≠ oF) (fun _ => False) rfl rfl ?aO ?aR (fun _ _ h => h) (fun _ h => h.elim) ?aF ?aB ?aS ?aL ?_; (case aR => exact cb_ ((Kd.bu Pt.out).2.2)); (case aB => exact bl_); (case aF => exact (fun k_ hk => ⟨Kd.fresh' (Kd.gF (pR_ Pt.out)) k_ hk, Kd.iH (g := oF) (o := .cells #[.int .i64 aj, .int .i64 0, .int .i64 0] 41 (0, 0)) bk_ k_ hk⟩)); (case aO => exact (by (with_reducible repeat (first | apply Kd.dx | apply Kd.dz | apply Kd.dH)); exact Kd.cK HO_4.out (fun _ hk => ⟨hk.2, hk.1⟩))); (case aS => exact (ax bl_)); (case aL => have := LMc38.out; omega); intro v143 w42 ho hb hg hat; rw [← Ny142.out] at ho; have HO144 := aa.mk (ho); replace jJ := aa.mk (nC (g := Ff) (o := .cells #[.int .i64 aj, .int .i64 av, .int .i64 ak, .int .i64 au, .slice (some ad138) af.length aZ] 24 (0, 0)) bk_ hg (Kd.R_ne HO_4.out jJ.out (by decide))); replace mX := aa.mk (nC (g := oF) (o := .cells #[.int .i64 aj, .int .i64 0, .int .i64 0] 41 (0, 0)) bk_ hg (Kd.R_away HO_4.out (fun _ hk => hk.1))); replace Pt := aa.mk (Kd.Gy (ok := (fun k_ => k_ ≠ oF)) (by (with_reducible repeat (first | apply Kd.dx | apply Kd.dz | apply Kd.dH)); exact Kd.cK Pt.out (fun _ hk => ⟨hk.2, hk.1.2⟩)) hg hat); replace HB := aa.mk (hb); clear HO_4; clear ho hb hg hat))
            go_roundg k2
            case measure => have := HJ10.out; have := HK2.out; omega
            case rel => exact ⟨(y142), (wrap64 (Nl + 1)), rs_, H', ⟨by have := HJ10.out; have := HK2.out; omega⟩, ⟨by (with_reducible repeat (first | apply Kd.dx | apply Kd.dz | apply Kd.dH)); exact Kd.cK HO144.out (fun _ hk => hk.2)⟩, ⟨bk_⟩, ⟨bk_⟩, ⟨bl_⟩⟩
           ·rw [if_neg c38] at H; exact absurd H (by simp)
          ·rw [if_neg c36] at H; exact absurd H (by simp)
         ·rw [if_neg c35] at H; have c35b0 := decide_eq_false c35; clear c35; obtain rfl := Option.some.inj H; go_wp2; go_ret; exact ⟨_, re_, by (with_reducible repeat (first | apply Kd.dx | apply Kd.dz | apply Kd.dH)); exact Kd.cK HO_4.out (fun _ hk => trivial), bl_⟩
      ·rw [if_neg c29] at H; obtain ⟨Gh, Gi⟩ := bn_ c29; have H' := aa.mk H; clear H; have hnb44 := nE.out; have hnc44 := xz.out; obtain ⟨VK, VL, VM, VN, VO, VP, VQ, VR, VS, VT⟩ := bz jJ.out; go_wp2; go_loopg [5, 53] kj10 (fun kq v5 v53 w' => ∃ (dZ : List (S41)) (jK : Int), v53 = .int .i64 jK ∧ aa (bG.l1 kq dZ af (af.length : Int) jK = some r) ∧ aa (kq ≤ kj10) ∧ aa (Kd.R k41 41 w' w.heap.size (fun k_ => k_ ≠ oF) v5 dZ) ∧ aa (w'.heap[Ff]? = some (.cells #[.int .i64 aj, .int .i64 av, .int .i64 ak, .int .i64 au, (.slice bA af.length aZ)] 24 (0, 0))) ∧ aa (w'.heap[oF]? = some (.cells #[.int .i64 aj, .int .i64 0, .int .i64 0] 41 (0, 0))) ∧ aa (Below w.heap.size w w'))
       case atStart => exact ⟨(([] : List (S41))), (0), rs_, H', ⟨Nat.le_refl _⟩, ⟨by first | exact Kd.oC _ _ _ _ _ | exact Kd.xG _ _ _ _ _ | exact Kd.xI _ _ _ _ _ | exact Kd.xD _ _ _ _ _ | exact Kd.xE _ _ _ _ _⟩, ⟨bk_⟩, ⟨bk_⟩, ⟨bl_⟩⟩
       case round =>
        clear H'; (try clear c1); (try clear p1); (try clear q1); (try clear hx1); (try clear qi1); (try clear c2); (try clear lv); (try clear oH); (try clear p2); (try clear c3); (try clear c4); (try clear c6); (try clear p6); (try clear c13); (try clear p13); (try clear q13); (try clear hx13); (try clear qi13); (try clear c15); (try clear c18); (try clear vK); (try clear Du); (try clear c19); (try clear c20); (try clear c24); (try clear yS); (try clear Pb); (try clear c25); (try clear c29); (try clear Gh); (try clear Gi); (try clear c30); (try clear c35); (try clear c35b0); (try clear c36); (try clear Fg); (try clear c36b1); (try clear c38); (try clear c39); (try clear c42); (try clear c44); (try clear vU vV vW xX xY vX vY vZ xZ yc); (try clear nX nY nZ og oh om); (try clear rT rU rV rW rX rY rZ r9 si sj); (try clear mP mQ mR mU mV mW); (try clear wK wL wM yC yD wN wO wP yE yF); (try clear zy zz zA BZ Ca zB zC zD Cb Cc); (try clear Cq Cr Cs El Em Ct Cu Cv En Eo); (try clear Sg Si Sj Sk Sl Sm Sn Sq Sr Su); (try clear VK VL VM VN VO VP VQ VR VS VT); (try clear lC lD lF lG lH lI lJ lK lL lM); (try clear Dk Dl Dm FB Dn Dp); (try clear wR wS wT wU wV wW wX wY wZ xc); (try clear Nn); (try clear Np); (try clear Nq); (try clear Nr); (try clear Ns); (try clear p138); (try clear p2); (try clear q138); obtain ⟨dZ, jK, rfl, HA, HK2, jP, jJ, mX, HB⟩ := hrel; cases gk with
        | zero => exact absurd HA.out (by simp [bG.l1])
        | succ k2 =>
         have H := HA.out; clear HA; simp only [bG.l1] at H; by_cases c46 : jK < (af.length : Int)
         ·rw [if_pos c46] at H; have Pv := decide_eq_true c46; clear c46; by_cases c47 : 0 ≤ jK
          ·rw [if_pos c47] at H; have c47b0 := decide_eq_true c47; clear c47; by_cases c48 : jK < (af.length : Int)
           ·rw [if_pos c48] at H; have c48b0 := decide_eq_true c48; clear c48; replace H := Option.bind_eq_some_iff.mp H; obtain ⟨t147, A490, H⟩ := H; (try dsimp only at H)
            have A49 := aa.mk A490; clear A490; by_cases c50 : dZ.length + t147.length < 5864062014805
            ·rw [if_pos c50] at H; have LMc50 := aa.mk c50; clear c50; obtain ⟨y150, hy150⟩ : ∃ y_ : List (S41), y_ = (dZ ++ t147) := ⟨_, rfl⟩; replace H : (bG.l1 k2 y150 af (af.length : Int) (wrap64 (jK + 1))) = some r := by first | (rw [hy150]; with_reducible exact H) | (have H2_ := (Option.bind_some _ _).symm.trans H; rw [hy150]; with_reducible exact H2_) | (have H2_ := (Option.bind_some _ _).symm.trans H; with_reducible exact H2_) | with_reducible exact H | (rw [hy150]; exact H) | exact H
             have Ny150 := aa.mk hy150; clear hy150; have H' := aa.mk H; clear H; have p145 : 0 ≤ (jK : Int) := dt_; have q145 : jK < (af.length : Int) := dt_; obtain ⟨ad145, MK, ML, e145, VU, VV, VW, VX, VY, VZ, V3⟩ := ib cz.out jK p145 q145; cases e145; replace VU := hc_ HB VU; replace VV := hc_ HB VV; replace VW := hc_ HB VW; replace VX := hc_ HB VX; replace VY := hc_ HB VY; have HR145_4 := aa.mk V3; have HC145_4 := aa.mk VZ; clear V3 VZ; replace p145 := eq_true p145; replace q145 := eq_true q145; go_wp2_with (first | ((with_reducible refine aU (N := 7) rfl ?_); refine aY ?hg (N := 7) ?hd (cs := #[.int .i64 0, .int .i64 0, .int .i64 0, .int .i64 0, .slice none 0 0]) (t := 24) ?hr ?_; (case hd => rfl); (case hg => rfl); (case hr => first | (go_simp; done) | (go_simp; rfl)); intro zY hg w51 aK hb; have Nt := aa.mk (aK); have GW146 : aa (w.heap.size ≤ zY) := gw_ hg (ax bl_); have GE146 := GW146; have YF := nl_ jJ hg; have YG := ng_ jJ hg; have YH := nl_ mX hg; have YI := ng_ mX hg; replace jP := aa.mk (Kd.gq (pR_ jP.out) hb); replace jJ := kb_ jJ hb; replace mX := kb_ mX hb; replace HB := aa.mk (ai bl_ hb); clear hb aK hg; have hnb52 := YG.out; have hnc52 := YF.out; have hnb53 := YI.out; have hnc53 := YH.out; obtain ⟨Kv, Kw, Ky, Kz, KA, KC, KD, KE, KF, KG⟩ := bz Nt.out) | ((with_reducible refine aC (f := 42) rfl ?_); refine aX (some 59) rfl rfl Tryd.func42 (by kernel_rfl) rfl #[.agg #[.int .i64 ((ah af jK).f0), .int .i64 ((ah af jK).f1), .int .i64 ((ah af jK).f2), .int .i64 ((ah af jK).f3), .slice MK ((ah af jK).f4).length ML]] rfl mp_ ?_; (with_reducible refine (ih k2 (by have := HJ10.out; have := HK2.out; omega) ((ah af jK).f0) ((ah af jK).f1) ((ah af jK).f2) ((ah af jK).f3) _ _ ((ah af jK).f4) t147 _ ?ay ?az A49.out).mono ?_); (case ay => exact Kd.bB HR145_4.out bl_); (case az => exact HC145_4.out); rintro e w55 ⟨v148, rfl, ho0, hb⟩; refine ⟨_, rfl, ?_⟩; have Pw := aa.mk (Kd.bV (Kd.JZ (Kd.eD ho0 (Kd.gF (by (with_reducible repeat (first | apply Kd.dx | apply Kd.dz | apply Kd.dH)); exact (Kd.cK (Kd.di (p := ⟨zY, 4, none⟩) (Kd.di (p := ⟨zY, 3, none⟩) (Kd.di (p := ⟨zY, 2, none⟩) (Kd.di (p := ⟨zY, 1, none⟩) (Kd.di (p := ⟨zY, 0, none⟩) (Kd.jQ jP.out Nt.out (by decide)) (fun _ hk => hk.2) (.int .i64 ((ah af jK).f0))) (fun _ hk => hk.2) (.int .i64 ((ah af jK).f1))) (fun _ hk => hk.2) (.int .i64 ((ah af jK).f2))) (fun _ hk => hk.2) (.int .i64 ((ah af jK).f3))) (fun _ hk => hk.2) (.slice MK ((ah af jK).f4).length ML)) (fun _ h_ => h_.1))))) (g := oF) (o := .cells #[.int .i64 aj, .int .i64 0, .int .i64 0] 41 (0, 0)) b5_) (ax bl_)); replace jP := aa.mk (Kd.eF (by (with_reducible repeat (first | apply Kd.dx | apply Kd.dz | apply Kd.dH)); exact (Kd.cK (Kd.di (p := ⟨zY, 4, none⟩) (Kd.di (p := ⟨zY, 3, none⟩) (Kd.di (p := ⟨zY, 2, none⟩) (Kd.di (p := ⟨zY, 1, none⟩) (Kd.di (p := ⟨zY, 0, none⟩) (Kd.jQ jP.out Nt.out (by decide)) (fun _ hk => hk.2) (.int .i64 ((ah af jK).f0))) (fun _ hk => hk.2) (.int .i64 ((ah af jK).f1))) (fun _ hk => hk.2) (.int .i64 ((ah af jK).f2))) (fun _ hk => hk.2) (.int .i64 ((ah af jK).f3))) (fun _ hk => hk.2) (.slice MK ((ah af jK).f4).length ML)) (fun _ h_ => h_.1))) (Kd.cO ho0) hb); replace jJ := aa.mk (gJ (g := Ff) (o := .cells #[.int .i64 aj, .int .i64 av, .int .i64 ak, .int .i64 au, .slice (some ad145) af.length aZ] 24 (0, 0)) b5_ hb); replace mX := aa.mk (gJ (g := oF) (o := .cells #[.int .i64 aj, .int .i64 0, .int .i64 0] 41 (0, 0)) b5_ hb); replace Nt := aa.mk (gJ (g := zY) (o := .cells #[.int .i64 ((ah af jK).f0), .int .i64 ((ah af jK).f1), .int .i64 ((ah af jK).f2), .int .i64 ((ah af jK).f3), .slice MK ((ah af jK).f4).length ML] 24 (0, 0)) b5_ hb); replace HB := aa.mk (ai bl_ hb); (try clear hb); (try clear hb2); (try clear hk); (try clear hi); (try clear ho0); obtain ⟨Ao57, co57, eo57⟩ := Kd.df Pw.out; subst eo57) | ((with_reducible refine qY (b := .append) (xs := #[.tmp 57, .tmp 59]) rfl ?_); at_builtin; refine Kd.uw k41 (w0 := w) w.heap.size rfl (.tmp 57) (.tmp 59) 37 41 (.agg #[(.int .i64 0), (.int .i64 0), (.int .i64 0)]) 24 rfl Tryd.underlying37 O8 rfl (by decide) (by omega) u5 dZ t147 _ _ _ (fun k_ => some k_ ≠ (.slice Ao57 t147.length co57 : Value).ownBlock ∧ k_ ≠ oF) (fun _ => False) rfl rfl ?aO ?aR (fun _ _ h => h) (fun _ h => h.elim) ?aF ?aB ?aS ?aL ?_; (case aR => exact cb_ ((Kd.bu Pw.out).2.2)); (case aB => exact bl_); (case aF => exact (fun k_ hk => ⟨Kd.fresh' (Kd.gF (pR_ Pw.out)) k_ hk, Kd.iH (g := oF) (o := .cells #[.int .i64 aj, .int .i64 0, .int .i64 0] 41 (0, 0)) bk_ k_ hk⟩)); (case aO => exact (by (with_reducible repeat (first | apply Kd.dx | apply Kd.dz | apply Kd.dH)); exact Kd.cK jP.out (fun _ hk => ⟨hk.2, hk.1⟩))); (case aS => exact (ax bl_)); (case aL => have := LMc50.out; omega); intro v151 w56 ho hb hg hat; rw [← Ny150.out] at ho; have HO152 := aa.mk (ho); replace jJ := aa.mk (nC (g := Ff) (o := .cells #[.int .i64 aj, .int .i64 av, .int .i64 ak, .int .i64 au, .slice (some ad145) af.length aZ] 24 (0, 0)) bk_ hg (Kd.R_ne jP.out jJ.out (by decide))); replace mX := aa.mk (nC (g := oF) (o := .cells #[.int .i64 aj, .int .i64 0, .int .i64 0] 41 (0, 0)) bk_ hg (Kd.R_away jP.out (fun _ hk => hk.1))); replace Nt := aa.mk (nC (g := zY) (o := .cells #[.int .i64 ((ah af jK).f0), .int .i64 ((ah af jK).f1), .int .i64 ((ah af jK).f2), .int .i64 ((ah af jK).f3), .slice MK ((ah af jK).f4).length ML] 24 (0, 0)) bk_ hg (Kd.R_ne jP.out Nt.out (by decide))); replace Pw := aa.mk (Kd.Gy (ok := (fun k_ => k_ ≠ oF)) (by (with_reducible repeat (first | apply Kd.dx | apply Kd.dz | apply Kd.dH)); exact Kd.cK Pw.out (fun _ hk => ⟨hk.2, hk.1.2⟩)) hg hat); replace HB := aa.mk (hb); clear jP; clear ho hb hg hat))
             go_roundg k2
             case measure => have := HJ10.out; have := HK2.out; omega
             case rel => exact ⟨(y150), (wrap64 (jK + 1)), rs_, H', ⟨by have := HJ10.out; have := HK2.out; omega⟩, ⟨by (with_reducible repeat (first | apply Kd.dx | apply Kd.dz | apply Kd.dH)); exact Kd.cK HO152.out (fun _ hk => hk.2)⟩, ⟨bk_⟩, ⟨bk_⟩, ⟨bl_⟩⟩
            ·rw [if_neg c50] at H; exact absurd H (by simp)
           ·rw [if_neg c48] at H; exact absurd H (by simp)
          ·rw [if_neg c47] at H; exact absurd H (by simp)
         ·rw [if_neg c46] at H; have Pv := decide_eq_false c46; clear c46; obtain rfl := Option.some.inj H; go_wp2; go_ret; exact ⟨_, re_, by (with_reducible repeat (first | apply Kd.dx | apply Kd.dz | apply Kd.dH)); exact Kd.cK jP.out (fun _ hk => trivial), bl_⟩

end Go.Proofs.YtggelekooacmnaaDoor.Q
namespace Go.Proofs.YtggelekooacmnaaDoor.Q
open Go.RowKit Go.Proofs.YtggelekooacmnaaDoorW.bg Go.Proofs.YtggelekooacmnaaDoorW.bW Go.Proofs.YtggelekooacmnaaDoorW.dh
attribute [local go_sem] fE fF gy gz eO eP fG fH   -- for this text's walks alone
set_option linter.unusedVariables false
set_option linter.unusedSimpArgs false

theorem eqA41 (d : Nat) (w : World) (x0 y0 : Int) (x1 y1 : Int) (x2 y2 : Int) :
    (Op.equalIn (d + 2) 41 (.agg #[.int .i64 x0, .int .i64 x1, .int .i64 x2]) (.agg #[.int .i64 y0, .int .i64 y1, .int .i64 y2])).run Tryd.prog w = .ok (x0 == y0 && (x1 == y1 && (x2 == y2))) w := by
  refine eqA_of Tryd.underlying41 (by kernel_rfl) ?_
  refine Ul (by rfl) (by go_simp; rfl) (by go_simp; rfl) (by go_simp) ?_
  refine Ul (by rfl) (by go_simp; rfl) (by go_simp; rfl) (by go_simp) ?_
  exact eqf_last (by rfl) (by go_simp; rfl) (by go_simp; rfl) (by go_simp)
end Go.Proofs.YtggelekooacmnaaDoor.Q
namespace Go.Proofs.YtggelekooacmnaaDoor.Q
open Go.RowKit Go.Proofs.YtggelekooacmnaaDoorW.bg Go.Proofs.YtggelekooacmnaaDoorW.bW Go.Proofs.YtggelekooacmnaaDoorW.dh
attribute [local go_sem] fE fF gy gz eO eP fG fH   -- for this text's walks alone
set_option linter.unusedVariables false
set_option linter.unusedSimpArgs false

attribute [local go_sem high] eqA41
/-! ### nP: function 70 -/
def nP.f (aj : Int) (av : Int) (ak : Int) : Option (Bool) := some (aj == 1 && (av == 0 && (ak == 1)))
set_option maxHeartbeats 8000000 in
set_option maxRecDepth 100000 in
theorem nP.calls (aj : Int) (av : Int) (ak : Int) (r : Bool) (w : World) (h : nP.f aj av ak = some r) :
    Calls Tryd.prog 70 #[.agg #[.int .i64 aj, .int .i64 av, .int .i64 ak]] w fun e w' => e = .returned (.bool r) ∧ Below w.heap.size w w' := by
  have hu41 := Tryd.underlying41
  have HB := aa.mk (Below.refl w.heap.size w)
  have H : (some (aj == 1 && (av == 0 && (ak == 1)))) = some r := h
  clear h
  obtain rfl := Option.some.inj H
  go_enter Tryd.func70, Tryd.ntmps70
  go_wp2_with (first | ((with_reducible refine aU (N := 1) rfl ?_); refine aY ?hg (N := 1) ?hd (cs := #[.int .i64 aj, .int .i64 av, .int .i64 ak]) (t := 41) ?hr ?_; (case hd => rfl); (case hg => rfl); (case hr => first | (go_simp; done) | (go_simp; rfl)); intro Px hg w2 aK hb; have n0_ := aa.mk (ai (by repeat (first | (with_reducible first | exact HB.out | apply bS | apply bO | apply bQ) | exact HB.out)) hb); have n1_ := aa.mk (aK); have n2_ := aa.mk ((by rw [hg]; exact (ax (by repeat (first | (with_reducible first | exact HB.out | apply bS | apply bO | apply bQ) | exact HB.out))) : w.heap.size ≤ Px)); have n3_ := aa.mk ((by rw [hg]; exact (ax (by repeat (first | (with_reducible first | exact HB.out | apply bS | apply bO | apply bQ) | exact HB.out))) : w.heap.size ≤ Px)); clear HB; have HB := n0_; have Nu := n1_; have GW153 := n2_; have GE153 := n3_; clear n0_ n1_ n2_ n3_; clear hb aK hg; have Un : w2.cell? ⟨Px, 0, none⟩ = some (.int .i64 aj) := (ag Nu.out 0).trans rfl; have Uo : w2.cell? ⟨Px, 1, none⟩ = some (.int .i64 av) := (ag Nu.out 1).trans rfl; have Uq : w2.cell? ⟨Px, 2, none⟩ = some (.int .i64 ak) := (ag Nu.out 2).trans rfl; have hfz3_0 := gm Nu.out 0; have Ur := gm Nu.out 1; have Us := gm Nu.out 2))
  go_ret
  exact ⟨by first | rfl | (simp [fI, fJ] <;> rfl) | (simp [*, fI, fJ] <;> rfl), by repeat (first | (with_reducible first | exact HB.out | apply bS | apply bO | apply bQ | refine ed ?_ GE153.out) | exact HB.out)⟩

end Go.Proofs.YtggelekooacmnaaDoor.Q
namespace Go.Proofs.YtggelekooacmnaaDoor.Q
open Go.RowKit Go.Proofs.YtggelekooacmnaaDoorW.bg Go.Proofs.YtggelekooacmnaaDoorW.bW Go.Proofs.YtggelekooacmnaaDoorW.dh
attribute [local go_sem] fE fF gy gz eO eP fG fH   -- for this text's walks alone
set_option linter.unusedVariables false
set_option linter.unusedSimpArgs false

/-! ### types_size: function 41 -/
mutual
def types_size.l0 : Nat → Int → List (S24) → Int → Int → Option (Int)
 | 0, _, _, _, _ => none
 | k + 1, x3, x15, x16, x17 => if x17 < x16 then (if 0 ≤ x17 then (if x17 < (x15.length : Int) then ((types_size.f k ((ah x15 x17).f0) ((ah x15 x17).f1) ((ah x15 x17).f2) ((ah x15 x17).f3) ((ah x15 x17).f4)).bind fun t157 => (types_size.l0 k (mn (wrap64 (x3 * t157)) 1073741825) x15 x16 (wrap64 (x17 + 1)))) else (none)) else (none)) else (some x3)
def types_size.l1 : Nat → Int → Int → Int → Int → Int → Option (Int)
 | 0, _, _, _, _, _ => none
 | k + 1, x6, x7, x8, x36, x37 => if x37 < x36 then (types_size.l1 k (mn (wrap64 (x6 + (mn (wrap64 (x7 * x8)) 1073741825))) 1073741825) (mn (wrap64 (x7 * x8)) 1073741825) x8 x36 (wrap64 (x37 + 1))) else (some x6)
def types_size.f : Nat → Int → Int → Int → Int → List (S24) → Option (Int)
 | 0, _, _, _, _, _ => none
 | k + 1, aj, av, ak, au, af => if aj = 5 then (types_size.l0 k 1 af (af.length : Int) 0) else (if aj = 6 then (if 0 < (af.length : Int) then ((types_size.f k ((ah af 0).f0) ((ah af 0).f1) ((ah af 0).f2) ((ah af 0).f3) ((ah af 0).f4)).bind fun t159 => (types_size.l1 k 1 1 t159 au 0)) else (none)) else ((bG.f k aj av ak au af).bind fun t160 => (if 0 < (t160.length : Int) then ((nP.f ((fU t160 0).f0) ((fU t160 0).f1) ((fU t160 0).f2)).bind fun t165 => (if t165 = true then (some 2) else (some (wrap64 ((wrap64 (((fU t160 0).f2) - ((fU t160 0).f1))) + 1))))) else (none))))
end
theorem types_size.iQ : ∀ k, (∀ y0 y1 y2 y3 y4, LeO (types_size.f k y0 y1 y2 y3 y4) (types_size.f (k + 1) y0 y1 y2 y3 y4)) ∧ (∀ y0 y1 y2 y3, LeO (types_size.l0 k y0 y1 y2 y3) (types_size.l0 (k + 1) y0 y1 y2 y3)) ∧ (∀ y0 y1 y2 y3 y4, LeO (types_size.l1 k y0 y1 y2 y3 y4) (types_size.l1 (k + 1) y0 y1 y2 y3 y4))
 | 0 => ⟨fun _ _ _ _ _ r h => by simp [types_size.f] at h, fun _ _ _ _ r h => by simp [types_size.l0] at h, fun _ _ _ _ _ r h => by simp [types_size.l1] at h⟩
 | k + 1 => by
  obtain ⟨ih0, ih1, ih2⟩ := types_size.iQ k; refine ⟨?_, ?_, ?_⟩
  ·intro y0 y1 y2 y3 y4; unfold types_size.f; repeat' first
   | (with_reducible exact ih0 _ _ _ _ _)
   | (with_reducible exact ih1 _ _ _ _)
   | (with_reducible exact ih2 _ _ _ _ _)
   | (with_reducible exact bG.mono _ _ _ _ _ _)
   | (with_reducible exact LeO.refl _)
   | (with_reducible exact LeO.none _)
   | (with_reducible refine LeO.ite ?_ ?_)
   | (with_reducible refine LeO.bind ?_ (fun _ => ?_))
   | exact ih0 _ _ _ _ _
   | exact ih1 _ _ _ _
   | exact ih2 _ _ _ _ _
   | exact bG.mono _ _ _ _ _ _
   | exact LeO.none _
   | refine LeO.ite ?_ ?_
   | refine LeO.bind ?_ (fun _ => ?_)
  ·intro y0 y1 y2 y3; unfold types_size.l0; repeat' first
   | (with_reducible exact ih0 _ _ _ _ _)
   | (with_reducible exact ih1 _ _ _ _)
   | (with_reducible exact ih2 _ _ _ _ _)
   | (with_reducible exact bG.mono _ _ _ _ _ _)
   | (with_reducible exact LeO.refl _)
   | (with_reducible exact LeO.none _)
   | (with_reducible refine LeO.ite ?_ ?_)
   | (with_reducible refine LeO.bind ?_ (fun _ => ?_))
   | exact ih0 _ _ _ _ _
   | exact ih1 _ _ _ _
   | exact ih2 _ _ _ _ _
   | exact bG.mono _ _ _ _ _ _
   | exact LeO.none _
   | refine LeO.ite ?_ ?_
   | refine LeO.bind ?_ (fun _ => ?_)
  ·intro y0 y1 y2 y3 y4; unfold types_size.l1; repeat' first
   | (with_reducible exact ih0 _ _ _ _ _)
   | (with_reducible exact ih1 _ _ _ _)
   | (with_reducible exact ih2 _ _ _ _ _)
   | (with_reducible exact bG.mono _ _ _ _ _ _)
   | (with_reducible exact LeO.refl _)
   | (with_reducible exact LeO.none _)
   | (with_reducible refine LeO.ite ?_ ?_)
   | (with_reducible refine LeO.bind ?_ (fun _ => ?_))
   | exact ih0 _ _ _ _ _
   | exact ih1 _ _ _ _
   | exact ih2 _ _ _ _ _
   | exact bG.mono _ _ _ _ _ _
   | exact LeO.none _
   | refine LeO.ite ?_ ?_
   | refine LeO.bind ?_ (fun _ => ?_)
theorem types_size.mono : ∀ a0 a1 a2 a3 a4 k, LeO (types_size.f k a0 a1 a2 a3 a4) (types_size.f (k + 1) a0 a1 a2 a3 a4) := by
 intro a0 a1 a2 a3 a4 k; obtain ⟨ih0, ih1, ih2⟩ := types_size.iQ k; exact ih0 a0 a1 a2 a3 a4
set_option maxHeartbeats 8000000 in
set_option maxRecDepth 100000 in
theorem types_size.calls (k : Nat) : ∀ (aj : Int) (av : Int) (ak : Int) (au : Int) (bA : Option Addr) (aZ : Nat) (af : List (S24)) (r : Int) (w : World) (fK : Kd.C k24 w bA af.length af) (fM : af.length ≤ aZ) (h : types_size.f k aj av ak au af = some r),
  Calls Tryd.prog 41 #[.agg #[.int .i64 aj, .int .i64 av, .int .i64 ak, .int .i64 au, .slice bA af.length aZ]] w fun e w' => e = .returned (.int .i64 r) ∧ Below w.heap.size w w' := by
 induction k using Nat.strongRecOn with
 | _ k ih =>
 intro aj av ak au bA aZ af r w fK fM h; cases k with
 | zero => exact absurd h (by simp [types_size.f])
 | succ k =>
 simp only [types_size.f] at h; have qb := Tryd.underlying24; have hu41 := Tryd.underlying41; have cz := aa.mk fK; have eZ := aa.mk fM; clear fK fM; have HB := aa.mk (Below.refl w.heap.size w); have H : (if aj = 5 then (types_size.l0 k 1 af (af.length : Int) 0) else (if aj = 6 then (if 0 < (af.length : Int) then ((types_size.f k ((ah af 0).f0) ((ah af 0).f1) ((ah af 0).f2) ((ah af 0).f3) ((ah af 0).f4)).bind fun t159 => (types_size.l1 k 1 1 t159 au 0)) else (none)) else ((bG.f k aj av ak au af).bind fun t160 => (if 0 < (t160.length : Int) then ((nP.f ((fU t160 0).f0) ((fU t160 0).f1) ((fU t160 0).f2)).bind fun t165 => (if t165 = true then (some 2) else (some (wrap64 ((wrap64 (((fU t160 0).f2) - ((fU t160 0).f1))) + 1))))) else (none))))) = some r := h; clear h; by_cases c2 : aj = 5
 ·rw [if_pos c2] at H; obtain ⟨lv, oH⟩ := bq_ c2; clear c2; have H' := aa.mk H; clear H; go_enter Tryd.func41, Tryd.ntmps41; go_wp2_with (first | ((with_reducible refine aU (N := 1) rfl ?_); refine aY ?hg (N := 1) ?hd (cs := #[.int .i64 aj, .int .i64 av, .int .i64 ak, .int .i64 au, .slice bA af.length aZ]) (t := 24) ?hr ?_; (case hd => rfl); (case hg => rfl); (case hr => first | (go_simp; done) | (go_simp; rfl)); intro Bt hg w3 aK hb; have kZ := aa.mk (aK); have LM : aa (w.heap.size ≤ Bt) := gw_ hg (ax bl_); have GE154 := LM; replace HB := aa.mk (ai bl_ hb); clear hb aK hg; obtain ⟨lC, lD, lF, lG, lH, lI, lJ, lK, lL, lM⟩ := bz kZ.out))
  go_loopg [3, 17] k (fun kq v3 v17 w' => ∃ (gD : Int) (nG : Int), v3 = .int .i64 gD ∧ v17 = .int .i64 nG ∧ aa (types_size.l0 kq gD af (af.length : Int) nG = some r) ∧ aa (kq ≤ k) ∧ aa (w'.heap[Bt]? = some (.cells #[.int .i64 aj, .int .i64 av, .int .i64 ak, .int .i64 au, (.slice bA af.length aZ)] 24 (0, 0))) ∧ aa (Below w.heap.size w w'))
  case atStart => exact ⟨(1), (0), rs_, rs_, H', ⟨Nat.le_refl _⟩, ⟨bk_⟩, ⟨bl_⟩⟩
  case round =>
   clear H'; (try clear c2); (try clear lv); (try clear oH); (try clear p2); (try clear c4); (try clear lC lD lF lG lH lI lJ lK lL lM); obtain ⟨gD, nG, rfl, rfl, HA, HK1, kZ, HB⟩ := hrel; cases gk with
   | zero => exact absurd HA.out (by simp [types_size.l0])
   | succ k1 =>
    have H := HA.out; clear HA; simp only [types_size.l0] at H; by_cases c5 : nG < (af.length : Int)
    ·rw [if_pos c5] at H; have jU := decide_eq_true c5; clear c5; by_cases c6 : 0 ≤ nG
     ·rw [if_pos c6] at H; have vT := decide_eq_true c6; clear c6; by_cases c7 : nG < (af.length : Int)
      ·rw [if_pos c7] at H; have mO := decide_eq_true c7; clear c7; replace H := Option.bind_eq_some_iff.mp H; obtain ⟨t157, A80, H⟩ := H; (try dsimp only at H)
       have A8 := aa.mk A80; clear A80; obtain ⟨ji9, hji9⟩ : ∃ j_ : Int, (mn (wrap64 (gD * t157)) 1073741825) = j_ := ⟨_, rfl⟩; replace H : (types_size.l0 k1 ji9 af (af.length : Int) (wrap64 (nG + 1))) = some r := by first | (rw [hji9] at H; exact H) | (simp only [hji9] at H ⊢; exact H)
       (try rw [hji9] at A8)
       have hji9_ : (if 1073741825 < (wrap64 (gD * t157)) then 1073741825 else (wrap64 (gD * t157))) = ji9 := hji9; have H' := aa.mk H; clear H; have p155 : 0 ≤ (nG : Int) := dt_; have q155 : nG < (af.length : Int) := dt_; obtain ⟨ad155, A155_4, c155_4, e155, Sv, Sw, Sy, Sz, SA, V4, V5⟩ := ib cz.out nG p155 q155; cases e155; replace Sv := hc_ HB Sv; replace Sw := hc_ HB Sw; replace Sy := hc_ HB Sy; replace Sz := hc_ HB Sz; replace SA := hc_ HB SA; have HR155_4 := aa.mk V5; have HC155_4 := aa.mk V4; clear V5 V4; replace p155 := eq_true p155; replace q155 := eq_true q155; go_wp2_with (first | ((with_reducible refine aU (N := 5) rfl ?_); refine aY ?hg (N := 5) ?hd (cs := #[.int .i64 0, .int .i64 0, .int .i64 0, .int .i64 0, .slice none 0 0]) (t := 24) ?hr ?_; (case hd => rfl); (case hg => rfl); (case hr => first | (go_simp; done) | (go_simp; rfl)); intro gb156 hg w10 aK hb; have BK156 := aa.mk (aK); have GW156 : aa (w.heap.size ≤ gb156) := gw_ hg (ax bl_); have GE156 := GW156; have YJ := nl_ kZ hg; have YK := ng_ kZ hg; replace kZ := kb_ kZ hb; replace HB := aa.mk (ai bl_ hb); clear hb aK hg; have hnb11 := YK.out; have hnc11 := YJ.out; obtain ⟨o5, o6, o7, o8, o9, pg, pq, pz, pE, pF⟩ := bz BK156.out) | ((with_reducible refine aC (f := 41) rfl ?_); refine aX (some 23) rfl rfl Tryd.func41 (by kernel_rfl) rfl #[.agg #[.int .i64 ((ah af nG).f0), .int .i64 ((ah af nG).f1), .int .i64 ((ah af nG).f2), .int .i64 ((ah af nG).f3), .slice A155_4 ((ah af nG).f4).length c155_4]] rfl mp_ ?_; (with_reducible refine (ih k1 (by have := HK1.out; omega) ((ah af nG).f0) ((ah af nG).f1) ((ah af nG).f2) ((ah af nG).f3) _ _ ((ah af nG).f4) t157 _ ?ay ?az A8.out).mono ?_); (case ay => exact Kd.bB HR155_4.out bl_); (case az => exact HC155_4.out); rintro e w13 ⟨rfl, hb⟩; refine ⟨_, rfl, ?_⟩; replace kZ := aa.mk (gJ (g := Bt) (o := .cells #[.int .i64 aj, .int .i64 av, .int .i64 ak, .int .i64 au, .slice (some ad155) af.length aZ] 24 (0, 0)) b5_ hb); replace BK156 := aa.mk (gJ (g := gb156) (o := .cells #[.int .i64 ((ah af nG).f0), .int .i64 ((ah af nG).f1), .int .i64 ((ah af nG).f2), .int .i64 ((ah af nG).f3), .slice A155_4 ((ah af nG).f4).length c155_4] 24 (0, 0)) b5_ hb); replace HB := aa.mk (ai bl_ hb); (try clear hb); (try clear hb2); (try clear hk); (try clear hi)))
       go_roundg k1
       case measure => have := HK1.out; omega
       case rel => exact ⟨(ji9), (wrap64 (nG + 1)), (by first | rfl | (simp; done) | (simp only [← hji9] <;> (first | rfl | simp)) | (simp [*]; done)), rs_, H', ⟨by have := HK1.out; omega⟩, ⟨bk_⟩, ⟨bl_⟩⟩
      ·rw [if_neg c7] at H; exact absurd H (by simp)
     ·rw [if_neg c6] at H; exact absurd H (by simp)
    ·rw [if_neg c5] at H; have jU := decide_eq_false c5; clear c5; obtain rfl := Option.some.inj H; go_wp2; go_ret; exact ⟨re_, bl_⟩
 ·rw [if_neg c2] at H; obtain ⟨lv, oH⟩ := bn_ c2; by_cases c14 : aj = 6
  ·rw [if_pos c14] at H; obtain ⟨sI, E9⟩ := bq_ c14; clear c14; by_cases c15 : 0 < (af.length : Int)
   ·rw [if_pos c15] at H; have yR := decide_eq_true c15; have JE : decide (0 < af.length) = true := decide_eq_true (by omega); clear c15; replace H := Option.bind_eq_some_iff.mp H; obtain ⟨t159, A160, H⟩ := H; (try dsimp only at H)
    have A16 := aa.mk A160; clear A160; have H' := aa.mk H; clear H; go_enter Tryd.func41, Tryd.ntmps41; go_wp2_with (first | ((with_reducible refine aU (N := 1) rfl ?_); refine aY ?hg (N := 1) ?hd (cs := #[.int .i64 aj, .int .i64 av, .int .i64 ak, .int .i64 au, .slice bA af.length aZ]) (t := 24) ?hr ?_; (case hd => rfl); (case hg => rfl); (case hr => first | (go_simp; done) | (go_simp; rfl)); intro Bt hg w17 aK hb; have kZ := aa.mk (aK); have LM : aa (w.heap.size ≤ Bt) := gw_ hg (ax bl_); have GE154 := LM; replace HB := aa.mk (ai bl_ hb); clear hb aK hg; obtain ⟨qc, qd, qf, ry, rz, qg, qh, qi, rA, rC⟩ := bz kZ.out; have p158 : 0 ≤ (0 : Int) := (by omega); have q158 : 0 < (af.length : Int) := dt_; obtain ⟨ad158, A158_4, c158_4, e158, Nv, Nw, Ny, Nz, NA, V6, V7⟩ := ib cz.out 0 p158 q158; cases e158; have qi158 : (0 < af.length) = True := eq_true (by omega); (try simp only [z0_, Nat.zero_mul, Addr.add_zero'] at Nv); (try simp only [z0_, Nat.zero_mul, Addr.add_zero'] at Nw); (try simp only [z0_, Nat.zero_mul, Addr.add_zero'] at Ny); (try simp only [z0_, Nat.zero_mul, Addr.add_zero'] at Nz); (try simp only [z0_, Nat.zero_mul, Addr.add_zero'] at NA); replace Nv := hc_ HB Nv; replace Nw := hc_ HB Nw; replace Ny := hc_ HB Ny; replace Nz := hc_ HB Nz; replace NA := hc_ HB NA; have HR158_4 := aa.mk V7; have HC158_4 := aa.mk V6; clear V7 V6; replace p158 := eq_true p158; replace q158 := eq_true q158) | ((with_reducible refine aC (f := 41) rfl ?_); refine aX (some 34) rfl rfl Tryd.func41 (by kernel_rfl) rfl #[.agg #[.int .i64 ((ah af 0).f0), .int .i64 ((ah af 0).f1), .int .i64 ((ah af 0).f2), .int .i64 ((ah af 0).f3), .slice A158_4 ((ah af 0).f4).length c158_4]] rfl mp_ ?_; (with_reducible refine (ih k (by omega) ((ah af 0).f0) ((ah af 0).f1) ((ah af 0).f2) ((ah af 0).f3) _ _ ((ah af 0).f4) t159 _ ?ay ?az A16.out).mono ?_); (case ay => exact cb_ (Kd.bB HR158_4.out HB.out)); (case az => exact HC158_4.out); rintro e w19 ⟨rfl, hb⟩; refine ⟨_, rfl, ?_⟩; replace kZ := kb_ kZ hb; replace HB := aa.mk (ai bl_ hb); (try clear hb); (try clear hb2); (try clear hk); (try clear hi); obtain ⟨rD, rE, rF, tq, tu, rG, rH, rJ, tC, tF⟩ := bz kZ.out))
    go_loopg [6, 7, 37] k (fun kq v6 v7 v37 w' => ∃ (iE : Int) (fZ : Int) (LP : Int), v6 = .int .i64 iE ∧ v7 = .int .i64 fZ ∧ v37 = .int .i64 LP ∧ aa (types_size.l1 kq iE fZ t159 au LP = some r) ∧ aa (kq ≤ k) ∧ aa (w'.heap[Bt]? = some (.cells #[.int .i64 aj, .int .i64 av, .int .i64 ak, .int .i64 au, (.slice (some ad158) af.length aZ)] 24 (0, 0))) ∧ aa (Below w.heap.size w w'))
    case atStart => exact ⟨(1), (1), (0), rs_, rs_, rs_, H', ⟨Nat.le_refl _⟩, ⟨bk_⟩, ⟨bl_⟩⟩
    case round =>
     clear H'; (try clear c1); (try clear p1); (try clear q1); (try clear hx1); (try clear qi1); (try clear c2); (try clear lv); (try clear oH); (try clear p2); (try clear c4); (try clear c5); (try clear jU); (try clear c6); (try clear vT); (try clear p6); (try clear c7); (try clear mO); (try clear c11); (try clear c14); (try clear sI); (try clear E9); (try clear c15); (try clear yR); (try clear JE); (try clear p15); (try clear q15); (try clear hx15); (try clear qi15); (try clear o5 o6 o7 o8 o9 pg pq pz pE pF); (try clear qc qd qf ry rz qg qh qi rA rC); (try clear rD rE rF tq tu rG rH rJ tC tF); (try clear lC lD lF lG lH lI lJ lK lL lM); (try clear Sv); (try clear Sw); (try clear Sy); (try clear Sz); (try clear SA); (try clear Nv); (try clear Nw); (try clear Ny); (try clear Nz); (try clear NA); (try clear p155); (try clear p158); (try clear p2); (try clear q155); (try clear q158); obtain ⟨iE, fZ, LP, rfl, rfl, rfl, HA, HK1, kZ, HB⟩ := hrel; cases gk with
     | zero => exact absurd HA.out (by simp [types_size.l1])
     | succ k1 =>
      have H := HA.out; clear HA; simp only [types_size.l1] at H; by_cases c21 : LP < au
      ·rw [if_pos c21] at H; have Fa := decide_eq_true c21; clear c21; obtain ⟨ji22, hji22⟩ : ∃ j_ : Int, (mn (wrap64 (fZ * t159)) 1073741825) = j_ := ⟨_, rfl⟩; replace H : (types_size.l1 k1 (mn (wrap64 (iE + (ji22))) 1073741825) ji22 t159 au (wrap64 (LP + 1))) = some r := by first | (rw [hji22] at H; exact H) | (simp only [hji22] at H ⊢; exact H)
       have hji22_ : (if 1073741825 < (wrap64 (fZ * t159)) then 1073741825 else (wrap64 (fZ * t159))) = ji22 := hji22; obtain ⟨ji23, hji23⟩ : ∃ j_ : Int, (mn (wrap64 (iE + (ji22))) 1073741825) = j_ := ⟨_, rfl⟩; replace H : (types_size.l1 k1 ji23 ji22 t159 au (wrap64 (LP + 1))) = some r := by first | (rw [hji23] at H; exact H) | (simp only [hji23] at H ⊢; exact H)
       have hji23_ : (if 1073741825 < (wrap64 (iE + (ji22))) then 1073741825 else (wrap64 (iE + (ji22)))) = ji23 := hji23; have H' := aa.mk H; clear H; go_wp2; go_roundg k1
       case measure => have := HK1.out; omega
       case rel => exact ⟨(ji23), (ji22), (wrap64 (LP + 1)), (by first | rfl | (simp; done) | (simp only [← hji23] <;> (first | rfl | simp)) | (simp [*]; done)), (by first | rfl | (simp; done) | (simp only [← hji22] <;> (first | rfl | simp)) | (simp [*]; done)), rs_, H', ⟨by have := HK1.out; omega⟩, ⟨bk_⟩, ⟨bl_⟩⟩
      ·rw [if_neg c21] at H; have Fa := decide_eq_false c21; clear c21; obtain rfl := Option.some.inj H; go_wp2; go_ret; exact ⟨re_, bl_⟩
   ·rw [if_neg c15] at H; exact absurd H (by simp)
  ·rw [if_neg c14] at H; obtain ⟨sI, E9⟩ := bn_ c14; replace H := Option.bind_eq_some_iff.mp H; obtain ⟨t160, A240, H⟩ := H; (try dsimp only at H)
   have A24 := aa.mk A240; clear A240; by_cases c25 : 0 < (t160.length : Int)
   ·rw [if_pos c25] at H; have JF := decide_eq_true c25; have JG : decide (0 < t160.length) = true := decide_eq_true (by omega); clear c25; replace H := Option.bind_eq_some_iff.mp H; obtain ⟨t165, A260, H⟩ := H; (try dsimp only at H)
    have A26 := aa.mk A260; clear A260; by_cases c27 : t165 = true
    ·subst c27; have H1 : (some 2) = some r := by rw [if_pos rfl] at H; exact H
     clear H; have H := H1; clear H1; obtain rfl := Option.some.inj H; go_enter Tryd.func41, Tryd.ntmps41; go_wp2_with (first | ((with_reducible refine aU (N := 1) rfl ?_); refine aY ?hg (N := 1) ?hd (cs := #[.int .i64 aj, .int .i64 av, .int .i64 ak, .int .i64 au, .slice bA af.length aZ]) (t := 24) ?hr ?_; (case hd => rfl); (case hg => rfl); (case hr => first | (go_simp; done) | (go_simp; rfl)); intro Bt hg w28 aK hb; have kZ := aa.mk (aK); have LM : aa (w.heap.size ≤ Bt) := gw_ hg (ax bl_); have GE154 := LM; replace HB := aa.mk (ai bl_ hb); clear hb aK hg; obtain ⟨BM, BN, BO, BP, BQ, BR, BS, BU, BV, BX⟩ := bz kZ.out) | ((with_reducible refine aC (f := 42) rfl ?_); refine aX (some 50) rfl rfl Tryd.func42 (by kernel_rfl) rfl #[.agg #[.int .i64 aj, .int .i64 av, .int .i64 ak, .int .i64 au, .slice bA af.length aZ]] rfl mp_ ?_; (with_reducible refine (bG.calls k aj av ak au _ _ af t160 _ ?ay ?az A24.out).mono ?_); (case ay => exact cb_ (Kd.bB cz.out HB.out)); (case az => exact eZ.out); rintro e w30 ⟨v161, rfl, ho0, hb⟩; refine ⟨_, rfl, ?_⟩; have zZ := aa.mk (Kd.bV ho0 (ax bl_)); replace kZ := kb_ kZ hb; replace HB := aa.mk (ai bl_ hb); (try clear hb); (try clear hb2); (try clear hk); (try clear hi); (try clear ho0); obtain ⟨Ao31, co31, eo31⟩ := Kd.df zZ.out; subst eo31; have p163 : 0 ≤ (0 : Int) := (by omega); have q163 : 0 < (t160.length : Int) := dt_; obtain ⟨ad163, e163, SB, SC, SE⟩ := J9 (Kd.bu zZ.out).2.2 0 p163 q163; cases e163; have qi163 : (0 < t160.length) = True := eq_true (by omega); (try simp only [z0_, Nat.zero_mul, Addr.add_zero'] at SB); (try simp only [z0_, Nat.zero_mul, Addr.add_zero'] at SC); (try simp only [z0_, Nat.zero_mul, Addr.add_zero'] at SE); replace p163 := eq_true p163; replace q163 := eq_true q163) | ((with_reducible refine aU (N := 9) rfl ?_); refine aY ?hg (N := 9) ?hd (cs := #[.int .i64 0, .int .i64 0, .int .i64 0]) (t := 41) ?hr ?_; (case hd => rfl); (case hg => rfl); (case hr => first | (go_simp; done) | (go_simp; rfl)); intro xJ hg w32 aK hb; have NB := aa.mk (aK); have GW164 : aa (w.heap.size ≤ xJ) := gw_ hg (ax bl_); have GE164 := GW164; have MM := nl_ kZ hg; have MN := ng_ kZ hg; replace zZ := aa.mk (Kd.gq (Kd.DZ (pR_ zZ.out) xJ (Nat.le_of_eq hg.symm)) hb); replace kZ := kb_ kZ hb; replace HB := aa.mk (ai bl_ hb); clear hb aK hg; have hnb33 := MN.out; have hnc33 := MM.out; obtain ⟨Cq, Cr, Cs, Ct, Cu, Cv⟩ := qa NB.out) | ((with_reducible refine aC (f := 70) rfl ?_); refine aX (some 54) rfl rfl Tryd.func70 (by kernel_rfl) rfl #[.agg #[.int .i64 ((fU t160 0).f0), .int .i64 ((fU t160 0).f1), .int .i64 ((fU t160 0).f2)]] rfl mp_ ?_; (with_reducible refine (nP.calls ((fU t160 0).f0) ((fU t160 0).f1) ((fU t160 0).f2) true _ A26.out).mono ?_); rintro e w35 ⟨rfl, hb⟩; refine ⟨_, rfl, ?_⟩; replace zZ := aa.mk (Kd.gq (by (with_reducible repeat (first | apply Kd.dx | apply Kd.dz | apply Kd.dH)); exact (Kd.cK (Kd.di (p := ⟨xJ, 2, none⟩) (Kd.di (p := ⟨xJ, 1, none⟩) (Kd.di (p := ⟨xJ, 0, none⟩) (Kd.cK zZ.out (fun k_ hk => (⟨hk, by first | exact hk.2 | exact hk.1 | exact hk.2 | exact hk.1.1 | exact hk.1.2⟩ : _ ∧ k_ ≠ xJ))) (fun _ hk => hk.2) (.int .i64 ((fU t160 0).f0))) (fun _ hk => hk.2) (.int .i64 ((fU t160 0).f1))) (fun _ hk => hk.2) (.int .i64 ((fU t160 0).f2))) (fun _ h_ => h_.1))) hb); replace kZ := aa.mk (gJ (g := Bt) (o := .cells #[.int .i64 aj, .int .i64 av, .int .i64 ak, .int .i64 au, .slice bA af.length aZ] 24 (0, 0)) b5_ hb); replace NB := aa.mk (gJ (g := xJ) (o := .cells #[.int .i64 ((fU t160 0).f0), .int .i64 ((fU t160 0).f1), .int .i64 ((fU t160 0).f2)] 41 (0, 0)) b5_ hb); replace HB := aa.mk (ai bl_ hb); (try clear hb); (try clear hb2); (try clear hk); (try clear hi)))
     go_ret; exact ⟨re_, bl_⟩
    ·replace c27 := Bool.eq_false_iff.mpr c27; subst c27; have H1 : (some (wrap64 ((wrap64 (((fU t160 0).f2) - ((fU t160 0).f1))) + 1))) = some r := by rw [if_neg (show ¬ (false = true) by decide)] at H; exact H
     clear H; have H := H1; clear H1; obtain rfl := Option.some.inj H; go_enter Tryd.func41, Tryd.ntmps41; go_wp2_with (first | ((with_reducible refine aU (N := 1) rfl ?_); refine aY ?hg (N := 1) ?hd (cs := #[.int .i64 aj, .int .i64 av, .int .i64 ak, .int .i64 au, .slice bA af.length aZ]) (t := 24) ?hr ?_; (case hd => rfl); (case hg => rfl); (case hr => first | (go_simp; done) | (go_simp; rfl)); intro Bt hg w36 aK hb; have kZ := aa.mk (aK); have LM : aa (w.heap.size ≤ Bt) := gw_ hg (ax bl_); have GE154 := LM; replace HB := aa.mk (ai bl_ hb); clear hb aK hg; obtain ⟨wh, wm, wo, yx, yz, wu, wy, wz, yA, yB⟩ := bz kZ.out) | ((with_reducible refine aC (f := 42) rfl ?_); refine aX (some 50) rfl rfl Tryd.func42 (by kernel_rfl) rfl #[.agg #[.int .i64 aj, .int .i64 av, .int .i64 ak, .int .i64 au, .slice bA af.length aZ]] rfl mp_ ?_; (with_reducible refine (bG.calls k aj av ak au _ _ af t160 _ ?ay ?az A24.out).mono ?_); (case ay => exact cb_ (Kd.bB cz.out HB.out)); (case az => exact eZ.out); rintro e w38 ⟨v161, rfl, ho0, hb⟩; refine ⟨_, rfl, ?_⟩; have zZ := aa.mk (Kd.bV ho0 (ax bl_)); replace kZ := kb_ kZ hb; replace HB := aa.mk (ai bl_ hb); (try clear hb); (try clear hb2); (try clear hk); (try clear hi); (try clear ho0); obtain ⟨Ao39, co39, eo39⟩ := Kd.df zZ.out; subst eo39; have p163 : 0 ≤ (0 : Int) := (by omega); have q163 : 0 < (t160.length : Int) := dt_; obtain ⟨ad163, e163, SB, SC, SE⟩ := J9 (Kd.bu zZ.out).2.2 0 p163 q163; cases e163; have qi163 : (0 < t160.length) = True := eq_true (by omega); (try simp only [z0_, Nat.zero_mul, Addr.add_zero'] at SB); (try simp only [z0_, Nat.zero_mul, Addr.add_zero'] at SC); (try simp only [z0_, Nat.zero_mul, Addr.add_zero'] at SE); replace p163 := eq_true p163; replace q163 := eq_true q163) | ((with_reducible refine aU (N := 9) rfl ?_); refine aY ?hg (N := 9) ?hd (cs := #[.int .i64 0, .int .i64 0, .int .i64 0]) (t := 41) ?hr ?_; (case hd => rfl); (case hg => rfl); (case hr => first | (go_simp; done) | (go_simp; rfl)); intro xJ hg w40 aK hb; have NB := aa.mk (aK); have GW164 : aa (w.heap.size ≤ xJ) := gw_ hg (ax bl_); have GE164 := GW164; have MM := nl_ kZ hg; have MN := ng_ kZ hg; replace zZ := aa.mk (Kd.gq (Kd.DZ (pR_ zZ.out) xJ (Nat.le_of_eq hg.symm)) hb); replace kZ := kb_ kZ hb; replace HB := aa.mk (ai bl_ hb); clear hb aK hg; have hnb41 := MN.out; have hnc41 := MM.out; obtain ⟨G5, G6, G7, G8, G9, Ha⟩ := qa NB.out) | ((with_reducible refine aC (f := 70) rfl ?_); refine aX (some 54) rfl rfl Tryd.func70 (by kernel_rfl) rfl #[.agg #[.int .i64 ((fU t160 0).f0), .int .i64 ((fU t160 0).f1), .int .i64 ((fU t160 0).f2)]] rfl mp_ ?_; (with_reducible refine (nP.calls ((fU t160 0).f0) ((fU t160 0).f1) ((fU t160 0).f2) false _ A26.out).mono ?_); rintro e w43 ⟨rfl, hb⟩; refine ⟨_, rfl, ?_⟩; replace zZ := aa.mk (Kd.gq (by (with_reducible repeat (first | apply Kd.dx | apply Kd.dz | apply Kd.dH)); exact (Kd.cK (Kd.di (p := ⟨xJ, 2, none⟩) (Kd.di (p := ⟨xJ, 1, none⟩) (Kd.di (p := ⟨xJ, 0, none⟩) (Kd.cK zZ.out (fun k_ hk => (⟨hk, by first | exact hk.2 | exact hk.1 | exact hk.2 | exact hk.1.1 | exact hk.1.2⟩ : _ ∧ k_ ≠ xJ))) (fun _ hk => hk.2) (.int .i64 ((fU t160 0).f0))) (fun _ hk => hk.2) (.int .i64 ((fU t160 0).f1))) (fun _ hk => hk.2) (.int .i64 ((fU t160 0).f2))) (fun _ h_ => h_.1))) hb); replace kZ := aa.mk (gJ (g := Bt) (o := .cells #[.int .i64 aj, .int .i64 av, .int .i64 ak, .int .i64 au, .slice bA af.length aZ] 24 (0, 0)) b5_ hb); replace NB := aa.mk (gJ (g := xJ) (o := .cells #[.int .i64 ((fU t160 0).f0), .int .i64 ((fU t160 0).f1), .int .i64 ((fU t160 0).f2)] 41 (0, 0)) b5_ hb); replace HB := aa.mk (ai bl_ hb); (try clear hb); (try clear hb2); (try clear hk); (try clear hi); obtain ⟨NC, ND, NF, NG, NH, NI⟩ := qa NB.out))
     go_ret; exact ⟨re_, bl_⟩
   ·rw [if_neg c25] at H; exact absurd H (by simp)

end Go.Proofs.YtggelekooacmnaaDoor.Q
namespace Go.Proofs.YtggelekooacmnaaDoor.Q
open Go.RowKit Go.Proofs.YtggelekooacmnaaDoorW.bg Go.Proofs.YtggelekooacmnaaDoorW.bW Go.Proofs.YtggelekooacmnaaDoorW.dh
attribute [local go_sem] fE fF gy gz eO eP fG fH   -- for this text's walks alone
set_option linter.unusedVariables false
set_option linter.unusedSimpArgs false

/-! ### fu: function 16 -/
def fu.j0 : Nat → Bool → Int → Int → Int → Int → List (S24) → Option (Int × Int)
 | 0, _, _, _, _, _, _ => none
 | k + 1, x18, x167000, x167001, x167002, x167003, x167004 => if x18 = true then (some (0, 8)) else ((types_size.f k x167000 x167001 x167002 x167003 x167004).bind fun t168 => (if t168 > 1073741824 then (some (0, 9)) else (some (t168, 0))))
def fu.f (k : Nat) (aj : Int) (av : Int) (ak : Int) (au : Int) (af : List (S24)) : Option (Int × Int) := (dE.f k aj av ak au af).bind fun t167 => (if t167 = 0 then (if aj = 3 then (fu.j0 k true aj av ak au af) else (fu.j0 k (aj == 4) aj av ak au af)) else (some (0, t167)))
theorem fu.iQ : ∀ k, (∀ y0 y1 y2 y3 y4 y5, LeO (fu.j0 k y0 y1 y2 y3 y4 y5) (fu.j0 (k + 1) y0 y1 y2 y3 y4 y5))
 | 0 => fun _ _ _ _ _ _ r h => by simp [fu.j0] at h
 | k + 1 => by
  have ih0 := fu.iQ k
  ·intro y0 y1 y2 y3 y4 y5; unfold fu.j0; repeat' first
   | (with_reducible exact ih0 _ _ _ _ _ _)
   | (with_reducible exact dE.mono _ _ _ _ _ _)
   | (with_reducible exact types_size.mono _ _ _ _ _ _)
   | (with_reducible exact LeO.refl _)
   | (with_reducible exact LeO.none _)
   | (with_reducible refine LeO.ite ?_ ?_)
   | (with_reducible refine LeO.bind ?_ (fun _ => ?_))
   | exact ih0 _ _ _ _ _ _
   | exact dE.mono _ _ _ _ _ _
   | exact types_size.mono _ _ _ _ _ _
   | exact LeO.none _
   | refine LeO.ite ?_ ?_
   | refine LeO.bind ?_ (fun _ => ?_)
theorem fu.mono : ∀ a0 a1 a2 a3 a4 k, LeO (fu.f k a0 a1 a2 a3 a4) (fu.f (k + 1) a0 a1 a2 a3 a4) := by
 intro a0 a1 a2 a3 a4 k; have ih0 := fu.iQ k; unfold fu.f
 repeat' first
   | (with_reducible exact ih0 _ _ _ _ _ _)
   | (with_reducible exact dE.mono _ _ _ _ _ _)
   | (with_reducible exact types_size.mono _ _ _ _ _ _)
   | (with_reducible exact LeO.refl _)
   | (with_reducible exact LeO.none _)
   | (with_reducible refine LeO.ite ?_ ?_)
   | (with_reducible refine LeO.bind ?_ (fun _ => ?_))
   | exact ih0 _ _ _ _ _ _
   | exact dE.mono _ _ _ _ _ _
   | exact types_size.mono _ _ _ _ _ _
   | exact LeO.none _
   | refine LeO.ite ?_ ?_
   | refine LeO.bind ?_ (fun _ => ?_)
set_option maxHeartbeats 8000000 in
set_option maxRecDepth 100000 in
theorem fu.calls (k : Nat) (aj : Int) (av : Int) (ak : Int) (au : Int) (bA : Option Addr) (aZ : Nat) (af : List (S24)) (r1 : Int) (r2 : Int) (w : World) (fK : Kd.C k24 w bA af.length af) (fM : af.length ≤ aZ) (h : fu.f k aj av ak au af = some (r1, r2)) :
  Calls Tryd.prog 16 #[.agg #[.int .i64 aj, .int .i64 av, .int .i64 ak, .int .i64 au, .slice bA af.length aZ]] w fun e w' => e = .returned (.tuple #[.int .i64 r1, .int .i64 r2]) ∧ Below w.heap.size w w' := by
 have qb := Tryd.underlying24; have cz := aa.mk fK; have eZ := aa.mk fM; clear fK fM; have HB := aa.mk (Below.refl w.heap.size w); have H : ((dE.f k aj av ak au af).bind fun t167 => (if t167 = 0 then (if aj = 3 then (fu.j0 k true aj av ak au af) else (fu.j0 k (aj == 4) aj av ak au af)) else (some (0, t167)))) = some (r1, r2) := h; clear h; replace H := Option.bind_eq_some_iff.mp H; obtain ⟨t167, A20, H⟩ := H; (try dsimp only at H)
 have A2 := aa.mk A20; clear A20; by_cases c3 : t167 = 0
 ·rw [if_pos c3] at H; obtain ⟨kI, nu⟩ := bq_ c3; clear c3; have HC4 := aa.mk H; clear H; go_enter Tryd.func16, Tryd.ntmps16; go_upto_region 4 with (first | ((with_reducible refine aU (N := 1) rfl ?_); refine aY ?hg (N := 1) ?hd (cs := #[.int .i64 aj, .int .i64 av, .int .i64 ak, .int .i64 au, .slice bA af.length aZ]) (t := 24) ?hr ?_; (case hd => rfl); (case hg => rfl); (case hr => first | (go_simp; done) | (go_simp; rfl)); intro gb166 hg w5 aK hb; have vL := aa.mk (aK); have GW166 : aa (w.heap.size ≤ gb166) := gw_ hg (ax bl_); have GE166 := GW166; replace HB := aa.mk (ai bl_ hb); clear hb aK hg; obtain ⟨pM, pO, pQ, pR, pU, pV, pW, pX, pY, p8⟩ := bz vL.out) | ((with_reducible refine aC (f := 12) rfl ?_); refine aX (some 7) rfl rfl Tryd.func12 (by kernel_rfl) rfl #[.agg #[.int .i64 aj, .int .i64 av, .int .i64 ak, .int .i64 au, .slice bA af.length aZ]] rfl mp_ ?_; (with_reducible refine (dE.calls k aj av ak au _ _ af t167 _ ?ay ?az A2.out).mono ?_); (case ay => exact cb_ (Kd.bB cz.out HB.out)); (case az => exact eZ.out); rintro e w7 ⟨rfl, hb⟩; refine ⟨_, rfl, ?_⟩; replace vL := kb_ vL hb; replace HB := aa.mk (ai bl_ hb); (try clear hb); (try clear hb2); (try clear hk); (try clear hi)))
  (try simp only [Act.put, List.setIfInBounds_toArray, List.set_cons_zero, List.set_cons_succ])
  go_cut [18] (fun v18 wc => ∃ (kq : Nat) (Gj : Bool), v18 = .bool Gj ∧ aa (fu.j0 kq Gj aj av ak au af = some (r1, r2)) ∧ aa (kq ≤ k) ∧ aa (wc.heap[gb166]? = some (.cells #[.int .i64 aj, .int .i64 av, .int .i64 ak, .int .i64 au, (.slice bA af.length aZ)] 24 (0, 0))) ∧ aa (Below w.heap.size w wc))
  case first =>
   have H := HC4.out; clear HC4; by_cases c8 : aj = 3
   ·rw [if_pos c8] at H; obtain ⟨ko, ny⟩ := bq_ c8; clear c8; (first | rw [ko] | (simp only [eT, fA]; rw [ko]) | skip)
    have H' := aa.mk H; clear H; obtain ⟨Dv, Dw, Dx, FC, FD, Dy, Dz, DC, FE, FH⟩ := bz vL.out; go_wp2; go_meet
    case rel => exact ⟨_, (true), rs_, H', ⟨by first | omega | exact Nat.le_refl _⟩, ⟨bk_⟩, ⟨bl_⟩⟩
   ·rw [if_neg c8] at H; obtain ⟨ko, ny⟩ := bn_ c8; (first | rw [ko] | (simp only [eT, fA]; rw [ko]) | skip)
    have H' := aa.mk H; clear H; obtain ⟨zI, zJ, zK, Ce, Cf, zL, zM, zN, Cg, Ch⟩ := bz vL.out; go_wp2; go_meet
    case rel => exact ⟨_, ((aj == 4)), rs_, H', ⟨by first | omega | exact Nat.le_refl _⟩, ⟨bk_⟩, ⟨bl_⟩⟩
  case rest =>
   clear HC4; (try clear c1); (try clear p2); (try clear c3); (try clear kI); (try clear nu); (try clear c8); (try clear ko); (try clear ny); (try clear zI zJ zK Ce Cf zL zM zN Cg Ch); (try clear pM pO pQ pR pU pV pW pX pY p8); (try clear Dv Dw Dx FC FD Dy Dz DC FE FH); obtain ⟨kq, Gj, rfl, HA, HJ3, vL, HB⟩ := hcut; cases kq with
   | zero => exact absurd HA.out (by simp [fu.j0])
   | succ kj3 =>
    have H := HA.out; clear HA; simp only [fu.j0] at H; by_cases c11 : Gj = true
    ·subst c11; have H1 : (some (0, 8)) = some (r1, r2) := by rw [if_pos rfl] at H; exact H
     clear H; have H := H1; clear H1; simp only [Option.some.injEq, Prod.mk.injEq] at H; obtain ⟨rfl, rfl⟩ := H; go_wp2; go_ret2; exact ⟨re_, bl_⟩
    ·replace c11 := Bool.eq_false_iff.mpr c11; subst c11; have H1 : ((types_size.f kj3 aj av ak au af).bind fun t168 => (if t168 > 1073741824 then (some (0, 9)) else (some (t168, 0)))) = some (r1, r2) := by rw [if_neg (show ¬ (false = true) by decide)] at H; exact H
     clear H; have H := H1; clear H1; replace H := Option.bind_eq_some_iff.mp H; obtain ⟨t168, A120, H⟩ := H; (try dsimp only at H)
     have A12 := aa.mk A120; clear A120; by_cases c13 : t168 > 1073741824
     ·rw [if_pos c13] at H; have rR : decide (1073741824 < t168) = true := decide_eq_true c13; clear c13; simp only [Option.some.injEq, Prod.mk.injEq] at H; obtain ⟨rfl, rfl⟩ := H; obtain ⟨mr, mD, mE, mF, mG, mH, mI, mJ, mK, mM⟩ := bz vL.out; go_wp2_with (first | ((with_reducible refine aC (f := 41) rfl ?_); refine aX (some 20) rfl rfl Tryd.func41 (by kernel_rfl) rfl #[.agg #[.int .i64 aj, .int .i64 av, .int .i64 ak, .int .i64 au, .slice bA af.length aZ]] rfl mp_ ?_; (with_reducible refine (types_size.calls kj3 aj av ak au _ _ af t168 _ ?ay ?az A12.out).mono ?_); (case ay => exact cb_ (Kd.bB cz.out HB.out)); (case az => exact eZ.out); rintro e w15 ⟨rfl, hb⟩; refine ⟨_, rfl, ?_⟩; replace vL := kb_ vL hb; replace HB := aa.mk (ai bl_ hb); (try clear hb); (try clear hb2); (try clear hk); (try clear hi)))
      go_ret2; exact ⟨re_, bl_⟩
     ·rw [if_neg c13] at H; have rR : decide (1073741824 < t168) = false := decide_eq_false c13; clear c13; simp only [Option.some.injEq, Prod.mk.injEq] at H; obtain ⟨rfl, rfl⟩ := H; obtain ⟨nX, nY, nZ, tH, tJ, og, oh, om, tK, tL⟩ := bz vL.out; go_wp2_with (first | ((with_reducible refine aC (f := 41) rfl ?_); refine aX (some 20) rfl rfl Tryd.func41 (by kernel_rfl) rfl #[.agg #[.int .i64 aj, .int .i64 av, .int .i64 ak, .int .i64 au, .slice bA af.length aZ]] rfl mp_ ?_; (with_reducible refine (types_size.calls kj3 aj av ak au _ _ af t168 _ ?ay ?az A12.out).mono ?_); (case ay => exact cb_ (Kd.bB cz.out HB.out)); (case az => exact eZ.out); rintro e w17 ⟨rfl, hb⟩; refine ⟨_, rfl, ?_⟩; replace vL := kb_ vL hb; replace HB := aa.mk (ai bl_ hb); (try clear hb); (try clear hb2); (try clear hk); (try clear hi)))
      go_ret2; exact ⟨re_, bl_⟩
 ·rw [if_neg c3] at H; obtain ⟨kI, nu⟩ := bn_ c3; simp only [Option.some.injEq, Prod.mk.injEq] at H; obtain ⟨rfl, rfl⟩ := H; go_enter Tryd.func16, Tryd.ntmps16; go_wp2_with (first | ((with_reducible refine aU (N := 1) rfl ?_); refine aY ?hg (N := 1) ?hd (cs := #[.int .i64 aj, .int .i64 av, .int .i64 ak, .int .i64 au, .slice bA af.length aZ]) (t := 24) ?hr ?_; (case hd => rfl); (case hg => rfl); (case hr => first | (go_simp; done) | (go_simp; rfl)); intro gb166 hg w18 aK hb; have vL := aa.mk (aK); have GW166 : aa (w.heap.size ≤ gb166) := gw_ hg (ax bl_); have GE166 := GW166; replace HB := aa.mk (ai bl_ hb); clear hb aK hg; obtain ⟨CP, CQ, CR, CS, CU, CV, CW, CX, CY, CZ⟩ := bz vL.out) | ((with_reducible refine aC (f := 12) rfl ?_); refine aX (some 7) rfl rfl Tryd.func12 (by kernel_rfl) rfl #[.agg #[.int .i64 aj, .int .i64 av, .int .i64 ak, .int .i64 au, .slice bA af.length aZ]] rfl mp_ ?_; (with_reducible refine (dE.calls k aj av ak au _ _ af t167 _ ?ay ?az A2.out).mono ?_); (case ay => exact cb_ (Kd.bB cz.out HB.out)); (case az => exact eZ.out); rintro e w20 ⟨rfl, hb⟩; refine ⟨_, rfl, ?_⟩; replace vL := kb_ vL hb; replace HB := aa.mk (ai bl_ hb); (try clear hb); (try clear hb2); (try clear hk); (try clear hi)))
  go_ret2; exact ⟨re_, bl_⟩

end Go.Proofs.YtggelekooacmnaaDoor.Q
namespace Go.Proofs.YtggelekooacmnaaDoor.Q
open Go.RowKit Go.Proofs.YtggelekooacmnaaDoorW.bg Go.Proofs.YtggelekooacmnaaDoorW.bW Go.Proofs.YtggelekooacmnaaDoorW.dh
attribute [local go_sem] fE fF gy gz eO eP fG fH   -- for this text's walks alone
set_option linter.unusedVariables false
set_option linter.unusedSimpArgs false

/-! ### jh: function 71 -/
def jh.f (a0 : Int) : Option ByteArray := if -9223372036854775808 ≤ a0 ∧ a0 ≤ 9223372036854775807 then some ⟨(Lib.itoa a0).toArray⟩ else none
theorem jh.calls (a0 : Int) (r : ByteArray) (w : World) (h : jh.f a0 = some r) (htab : vw w.heap.size w) :
    Calls Tryd.prog 71 #[.int .i64 a0] w fun e w' => e = .returned (.string r) ∧ Below w.heap.size w w' := by
  unfold jh.f at h
  by_cases h0 : -9223372036854775808 ≤ a0 ∧ a0 ≤ 9223372036854775807
  · rw [if_pos h0] at h
    obtain rfl := Option.some.inj h
    refine (Tryd.strconv_Itoa a0 h0.1 h0.2 w htab.here).mono ?_
    rintro e w' ⟨rfl, k, os, rfl⟩
    exact ⟨rfl, UM w k os⟩
  · rw [if_neg h0] at h; cases h

end Go.Proofs.YtggelekooacmnaaDoor.Q
namespace Go.Proofs.YtggelekooacmnaaDoor.Q
open Go.RowKit Go.Proofs.YtggelekooacmnaaDoorW.bg Go.Proofs.YtggelekooacmnaaDoorW.bW Go.Proofs.YtggelekooacmnaaDoorW.dh
attribute [local go_sem] fE fF gy gz eO eP fG fH   -- for this text's walks alone
set_option linter.unusedVariables false
set_option linter.unusedSimpArgs false

/-! ### strings_Join: function 72 -/
def strings_Join.f (l0 : List ByteArray) (a1 : ByteArray) : Option ByteArray := if l0.length ≤ 140737488355328 ∧ (Lib.join (l0.map (·.data.toList)) a1.data.toList).length ≤ 140737488355328 then some ⟨(Lib.join (l0.map (·.data.toList)) a1.data.toList).toArray⟩ else none
theorem strings_Join.calls (A0 : Option Addr) (c0 : Nat) (l0 : List ByteArray) (a1 : ByteArray) (r : ByteArray) (w : World) (hr0 : Kd.C Kd.string w A0 l0.length l0) (hc0 : l0.length ≤ c0) (h : strings_Join.f l0 a1 = some r) :
    Calls Tryd.prog 72 #[.slice A0 l0.length c0, .string a1] w fun e w' => e = .returned (.string r) ∧ Below w.heap.size w w' := by
  unfold strings_Join.f at h
  by_cases h0 : l0.length ≤ 140737488355328 ∧ (Lib.join (l0.map (·.data.toList)) a1.data.toList).length ≤ 140737488355328
  · rw [if_pos h0] at h
    obtain rfl := Option.some.inj h
    exact UN A0 c0 l0 a1 w hr0 hc0 h0.1 h0.2
  · rw [if_neg h0] at h; cases h

end Go.Proofs.YtggelekooacmnaaDoor.Q
namespace Go.Proofs.YtggelekooacmnaaDoor.Q
open Go.RowKit Go.Proofs.YtggelekooacmnaaDoorW.bg Go.Proofs.YtggelekooacmnaaDoorW.bW Go.Proofs.YtggelekooacmnaaDoorW.dh
attribute [local go_sem] fE fF gy gz eO eP fG fH   -- for this text's walks alone
set_option linter.unusedVariables false
set_option linter.unusedSimpArgs false

/-! ### bT: function 44 -/
mutual
def bT.l0 : Nat → List ByteArray → List (S24) → Int → Int → Option (ByteArray)
 | 0, _, _, _, _ => none
 | k + 1, x3, x40, x41, x42 => if x42 < x41 then (if 0 ≤ x42 then (if x42 < (x40.length : Int) then ((bT.f k ((ah x40 x42).f0) ((ah x40 x42).f1) ((ah x40 x42).f2) ((ah x40 x42).f3) ((ah x40 x42).f4)).bind fun t196 => (if x3.length < 8796093022208 then (bT.l0 k (x3 ++ [t196]) x40 x41 (wrap64 (x42 + 1))) else (none))) else (none)) else (none)) else ((strings_Join.f x3 (⟨#[44, 32]⟩ : ByteArray)).bind fun t200 => (if 1 + t200.size ≤ 9223372036854775807 then (if ((⟨#[40]⟩ : ByteArray) ++ t200).size + 1 ≤ 9223372036854775807 then (some (((⟨#[40]⟩ : ByteArray) ++ t200) ++ (⟨#[41]⟩ : ByteArray))) else (none)) else (none)))
def bT.f : Nat → Int → Int → Int → Int → List (S24) → Option (ByteArray)
 | 0, _, _, _, _, _ => none
 | k + 1, aj, av, ak, au, af => if aj = 1 then (some (⟨#[98, 111, 111, 108]⟩ : ByteArray)) else (if aj = 2 then ((jh.f av).bind fun t189 => (if 4 + t189.size ≤ 9223372036854775807 then (if ((⟨#[105, 110, 116, 91]⟩ : ByteArray) ++ t189).size + 2 ≤ 9223372036854775807 then ((jh.f ak).bind fun t190 => (if (((⟨#[105, 110, 116, 91]⟩ : ByteArray) ++ t189) ++ (⟨#[44, 32]⟩ : ByteArray)).size + t190.size ≤ 9223372036854775807 then (if ((((⟨#[105, 110, 116, 91]⟩ : ByteArray) ++ t189) ++ (⟨#[44, 32]⟩ : ByteArray)) ++ t190).size + 1 ≤ 9223372036854775807 then (some (((((⟨#[105, 110, 116, 91]⟩ : ByteArray) ++ t189) ++ (⟨#[44, 32]⟩ : ByteArray)) ++ t190) ++ (⟨#[93]⟩ : ByteArray))) else (none)) else (none))) else (none)) else (none))) else (if aj = 3 then (some (⟨#[110, 97, 116]⟩ : ByteArray)) else (if aj = 4 then (some (⟨#[114, 101, 97, 108]⟩ : ByteArray)) else (if aj = 6 then ((jh.f au).bind fun t191 => (if 5 + t191.size ≤ 9223372036854775807 then (if ((⟨#[108, 105, 115, 116, 91]⟩ : ByteArray) ++ t191).size + 2 ≤ 9223372036854775807 then (if 0 < (af.length : Int) then ((bT.f k ((ah af 0).f0) ((ah af 0).f1) ((ah af 0).f2) ((ah af 0).f3) ((ah af 0).f4)).bind fun t193 => (if (((⟨#[108, 105, 115, 116, 91]⟩ : ByteArray) ++ t191) ++ (⟨#[93, 32]⟩ : ByteArray)).size + t193.size ≤ 9223372036854775807 then (some ((((⟨#[108, 105, 115, 116, 91]⟩ : ByteArray) ++ t191) ++ (⟨#[93, 32]⟩ : ByteArray)) ++ t193)) else (none))) else (none)) else (none)) else (none))) else (bT.l0 k ([] : List ByteArray) af (af.length : Int) 0)))))
end
theorem bT.iQ : ∀ k, (∀ y0 y1 y2 y3 y4, LeO (bT.f k y0 y1 y2 y3 y4) (bT.f (k + 1) y0 y1 y2 y3 y4)) ∧ (∀ y0 y1 y2 y3, LeO (bT.l0 k y0 y1 y2 y3) (bT.l0 (k + 1) y0 y1 y2 y3))
 | 0 => ⟨fun _ _ _ _ _ r h => by simp [bT.f] at h, fun _ _ _ _ r h => by simp [bT.l0] at h⟩
 | k + 1 => by
  obtain ⟨ih0, ih1⟩ := bT.iQ k; refine ⟨?_, ?_⟩
  ·intro y0 y1 y2 y3 y4; unfold bT.f; repeat' first
   | (with_reducible exact ih0 _ _ _ _ _)
   | (with_reducible exact ih1 _ _ _ _)
   | (with_reducible exact LeO.refl _)
   | (with_reducible exact LeO.none _)
   | (with_reducible refine LeO.ite ?_ ?_)
   | (with_reducible refine LeO.bind ?_ (fun _ => ?_))
   | exact ih0 _ _ _ _ _
   | exact ih1 _ _ _ _
   | exact LeO.none _
   | refine LeO.ite ?_ ?_
   | refine LeO.bind ?_ (fun _ => ?_)
  ·intro y0 y1 y2 y3; unfold bT.l0; repeat' first
   | (with_reducible exact ih0 _ _ _ _ _)
   | (with_reducible exact ih1 _ _ _ _)
   | (with_reducible exact LeO.refl _)
   | (with_reducible exact LeO.none _)
   | (with_reducible refine LeO.ite ?_ ?_)
   | (with_reducible refine LeO.bind ?_ (fun _ => ?_))
   | exact ih0 _ _ _ _ _
   | exact ih1 _ _ _ _
   | exact LeO.none _
   | refine LeO.ite ?_ ?_
   | refine LeO.bind ?_ (fun _ => ?_)
theorem bT.mono : ∀ a0 a1 a2 a3 a4 k, LeO (bT.f k a0 a1 a2 a3 a4) (bT.f (k + 1) a0 a1 a2 a3 a4) := by
 intro a0 a1 a2 a3 a4 k; obtain ⟨ih0, ih1⟩ := bT.iQ k; exact ih0 a0 a1 a2 a3 a4
def bT.T5 : Bool × List (List Nat × List Nat) := (true, [([], []), ([0], [0]), ([1], [1]), ([2], [2]), ([3], [3]), ([], []), ([5], [5]), ([6, 2], [6]), ([4, 7], [4, 7]), ([8], [8]), ([9, 7, 0, 1, 2, 3, 4, 5, 6, 7, 8, 9], [9])])
def bT.B5 : List Nat := [0, 1, 3, 7, 15, 0, 32, 103, 255, 511, 1023]
theorem bT.tab5 : l8 .any (opsOf Tryd.f44 5) = bT.T5 := by kernel_rfl
theorem bT.Py : nQ bT.T5.2 bT.B5 = true := by kernel_rfl
def bT.T11 : Bool × List (List Nat × List Nat) := (true, [([], []), ([0], [0]), ([1], [1]), ([2], [2]), ([3], [3]), ([], []), ([5], [5]), ([6], [6]), ([7], [7]), ([8, 2], [8]), ([4, 9], [4, 9]), ([10, 9, 0, 1, 2, 3, 4, 5, 6, 7, 8, 9, 10], [10])])
def bT.B11 : List Nat := [0, 1, 3, 7, 15, 0, 32, 96, 224, 487, 1023, 2047]
theorem bT.Pj : l8 .any (opsOf Tryd.f44 11) = bT.T11 := by kernel_rfl
theorem bT.MJ : nQ bT.T11.2 bT.B11 = true := by kernel_rfl
set_option maxHeartbeats 8000000 in
set_option maxRecDepth 100000 in
theorem bT.calls (k : Nat) : ∀ (aj : Int) (av : Int) (ak : Int) (au : Int) (bA : Option Addr) (aZ : Nat) (af : List (S24)) (r : ByteArray) (w : World) (fK : Kd.C k24 w bA af.length af) (fM : af.length ≤ aZ) (h : bT.f k aj av ak au af = some r) (htab : vw w.heap.size w),
  Calls Tryd.prog 44 #[.agg #[.int .i64 aj, .int .i64 av, .int .i64 ak, .int .i64 au, .slice bA af.length aZ]] w fun e w' => e = .returned (.string r) ∧ Below w.heap.size w w' := by
 induction k using Nat.strongRecOn with
 | _ k ih =>
 intro aj av ak au bA aZ af r w fK fM h htab; have ui := aa.mk htab; clear htab; cases k with
 | zero => exact absurd h (by simp [bT.f])
 | succ k =>
 simp only [bT.f] at h; have qb := Tryd.underlying24; have cz := aa.mk fK; have eZ := aa.mk fM; clear fK fM; have HB := aa.mk (Below.refl w.heap.size w); have H : (if aj = 1 then (some (⟨#[98, 111, 111, 108]⟩ : ByteArray)) else (if aj = 2 then ((jh.f av).bind fun t189 => (if 4 + t189.size ≤ 9223372036854775807 then (if ((⟨#[105, 110, 116, 91]⟩ : ByteArray) ++ t189).size + 2 ≤ 9223372036854775807 then ((jh.f ak).bind fun t190 => (if (((⟨#[105, 110, 116, 91]⟩ : ByteArray) ++ t189) ++ (⟨#[44, 32]⟩ : ByteArray)).size + t190.size ≤ 9223372036854775807 then (if ((((⟨#[105, 110, 116, 91]⟩ : ByteArray) ++ t189) ++ (⟨#[44, 32]⟩ : ByteArray)) ++ t190).size + 1 ≤ 9223372036854775807 then (some (((((⟨#[105, 110, 116, 91]⟩ : ByteArray) ++ t189) ++ (⟨#[44, 32]⟩ : ByteArray)) ++ t190) ++ (⟨#[93]⟩ : ByteArray))) else (none)) else (none))) else (none)) else (none))) else (if aj = 3 then (some (⟨#[110, 97, 116]⟩ : ByteArray)) else (if aj = 4 then (some (⟨#[114, 101, 97, 108]⟩ : ByteArray)) else (if aj = 6 then ((jh.f au).bind fun t191 => (if 5 + t191.size ≤ 9223372036854775807 then (if ((⟨#[108, 105, 115, 116, 91]⟩ : ByteArray) ++ t191).size + 2 ≤ 9223372036854775807 then (if 0 < (af.length : Int) then ((bT.f k ((ah af 0).f0) ((ah af 0).f1) ((ah af 0).f2) ((ah af 0).f3) ((ah af 0).f4)).bind fun t193 => (if (((⟨#[108, 105, 115, 116, 91]⟩ : ByteArray) ++ t191) ++ (⟨#[93, 32]⟩ : ByteArray)).size + t193.size ≤ 9223372036854775807 then (some ((((⟨#[108, 105, 115, 116, 91]⟩ : ByteArray) ++ t191) ++ (⟨#[93, 32]⟩ : ByteArray)) ++ t193)) else (none))) else (none)) else (none)) else (none))) else (bT.l0 k ([] : List ByteArray) af (af.length : Int) 0)))))) = some r := h; clear h; by_cases c2 : aj = 1
 ·rw [if_pos c2] at H; obtain ⟨lv, oH⟩ := bq_ c2; clear c2; obtain rfl := Option.some.inj H; go_enter Tryd.func44, Tryd.ntmps44; go_wp2_with (first | ((with_reducible refine aU (N := 1) rfl ?_); refine aY ?hg (N := 1) ?hd (cs := #[.int .i64 aj, .int .i64 av, .int .i64 ak, .int .i64 au, .slice bA af.length aZ]) (t := 24) ?hr ?_; (case hd => rfl); (case hg => rfl); (case hr => first | (go_simp; done) | (go_simp; rfl)); intro oG hg w3 aK hb; have gQ := aa.mk (aK); have DD : aa (w.heap.size ≤ oG) := gw_ hg (ax bl_); have Pz := DD; replace HB := aa.mk (ai bl_ hb); clear hb aK hg; obtain ⟨lC, lD, lF, lG, lH, lI, lJ, lK, lL, lM⟩ := bz gQ.out))
  go_ret; exact ⟨re_, bl_⟩
 ·rw [if_neg c2] at H; obtain ⟨lv, oH⟩ := bn_ c2; by_cases c5 : aj = 2
  ·rw [if_pos c5] at H; obtain ⟨jU, sJ⟩ := bq_ c5; clear c5; replace H := Option.bind_eq_some_iff.mp H; obtain ⟨t189, A60, H⟩ := H; (try dsimp only at H)
   have A6 := aa.mk A60; clear A60; by_cases c7 : 4 + t189.size ≤ 9223372036854775807
   ·rw [if_pos c7] at H; have mO := eq_true c7; have zk := decide_eq_true c7; try have c7b2 : (9223372036854775807 < 4 + t189.size) = False := eq_false (Nat.not_lt.2 c7)
    by_cases c8 : ((⟨#[105, 110, 116, 91]⟩ : ByteArray) ++ t189).size + 2 ≤ 9223372036854775807
    ·rw [if_pos c8] at H; have ko := eq_true c8; have ny := decide_eq_true c8; try have c8b2 : (9223372036854775807 < ((⟨#[105, 110, 116, 91]⟩ : ByteArray) ++ t189).size + 2) = False := eq_false (Nat.not_lt.2 c8)
     have c8b9 : (9223372036854775807 < 4 + t189.size + 2) = False := by have h := c8; simp only [ByteArray.size_append, ma, List.size_toArray, List.length_cons, List.length_nil] at h; exact eq_false (by omega)
     replace H := Option.bind_eq_some_iff.mp H; obtain ⟨t190, A90, H⟩ := H; (try dsimp only at H)
     have A9 := aa.mk A90; clear A90; by_cases c10 : (((⟨#[105, 110, 116, 91]⟩ : ByteArray) ++ t189) ++ (⟨#[44, 32]⟩ : ByteArray)).size + t190.size ≤ 9223372036854775807
     ·rw [if_pos c10] at H; have kv := eq_true c10; have vM := decide_eq_true c10; try have c10b2 : (9223372036854775807 < (((⟨#[105, 110, 116, 91]⟩ : ByteArray) ++ t189) ++ (⟨#[44, 32]⟩ : ByteArray)).size + t190.size) = False := eq_false (Nat.not_lt.2 c10)
      have c10b9 : (9223372036854775807 < 4 + t189.size + 2 + t190.size) = False := by have h := c10; simp only [ByteArray.size_append, ma, List.size_toArray, List.length_cons, List.length_nil] at h; exact eq_false (by omega)
      by_cases c11 : ((((⟨#[105, 110, 116, 91]⟩ : ByteArray) ++ t189) ++ (⟨#[44, 32]⟩ : ByteArray)) ++ t190).size + 1 ≤ 9223372036854775807
      ·rw [if_pos c11] at H; have NJ := eq_true c11; have c11b1 := decide_eq_true c11; try have c11b2 : (9223372036854775807 < ((((⟨#[105, 110, 116, 91]⟩ : ByteArray) ++ t189) ++ (⟨#[44, 32]⟩ : ByteArray)) ++ t190).size + 1) = False := eq_false (Nat.not_lt.2 c11)
       have c11b9 : (9223372036854775807 < 4 + t189.size + 2 + t190.size + 1) = False := by have h := c11; simp only [ByteArray.size_append, ma, List.size_toArray, List.length_cons, List.length_nil] at h; exact eq_false (by omega)
       obtain rfl := Option.some.inj H; go_enter Tryd.func44, Tryd.ntmps44; try go_wp2_with (first | ((with_reducible refine aU (N := 1) rfl ?_); refine aY ?hg (N := 1) ?hd (cs := #[.int .i64 aj, .int .i64 av, .int .i64 ak, .int .i64 au, .slice bA af.length aZ]) (t := 24) ?hr ?_; (case hd => rfl); (case hg => rfl); (case hr => first | (go_simp; done) | (go_simp; rfl)); intro oG hg w12 aK hb; have gQ := aa.mk (aK); have DD : aa (w.heap.size ≤ oG) := gw_ hg (ax bl_); have Pz := DD; replace HB := aa.mk (ai bl_ hb); clear hb aK hg; obtain ⟨vU, vV, vW, xX, xY, vX, vY, vZ, xZ, yc⟩ := bz gQ.out))
       replace gQ := aa.mk (bC gQ.out); replace HB := aa.mk (bQ HB.out); refine sD (n := 11) (S := fun w' => w'.cell? ⟨oG, 0, none⟩ = some (.int .i64 aj) ∧ w'.cell? ⟨oG, 1, none⟩ = some (.int .i64 av) ∧ w'.cell? ⟨oG, 2, none⟩ = some (.int .i64 ak) ∧ w'.cell? ⟨oG, 3, none⟩ = some (.int .i64 au) ∧ w'.cell? ⟨oG, 4, none⟩ = some (.slice bA af.length aZ)) (ds := []) #[false, false, false, false, false, false, false, false, false, false, false] (by kernel_rfl) rfl rfl ⟨(ag gQ.out 0).trans rfl, (ag gQ.out 1).trans rfl, (ag gQ.out 2).trans rfl, (ag gQ.out 3).trans rfl, (ag gQ.out 4).trans rfl⟩ (fun hHeld => ?_); refine l9 bT.tab5 bT.Py (fun HT_ HW_ => ?_)
       generalize w12.drew = w14 at gQ HB hHeld ⊢
       refine pu_ HT_ 0 12 (bm 11 1) ?_
       refine pu_ HT_ 5 17 (bm 11 33) ?_
       refine ta_ HT_ HW_ 1 13 (bm 11 35) hHeld ?_
       refine ta_ HT_ HW_ 6 18 (bm 11 99) hHeld ?_
       refine l7 (i := 2) (N := some 14) #[true, true, true, false, false, true, true, false, false, false, false] rfl rfl (jD HT_.out (by kernel_rfl)) (by decide) (fun K hK => ?_)
       refine kY Tryd.func71 (by kernel_rfl) rfl #[.int .i64 av] (by rfl) rfl rfl mp_ ?_
       with_reducible refine (jh.calls av t189 _ A6.out ?tab).mono ?_
       (case tab => exact yL ui.out bl_)
       rintro e w15 ⟨rfl, hb⟩
       refine ⟨_, rfl, ?_⟩
       replace gQ := kb_ gQ hb; replace HB := aa.mk (ai bl_ hb); (try clear hb)
       (try clear hb2)
       (try clear hk)
       (try clear hi)
       refine hK.out _ _ ⟨(ag gQ.out 0).trans rfl, (ag gQ.out 1).trans rfl, (ag gQ.out 2).trans rfl, (ag gQ.out 3).trans rfl, (ag gQ.out 4).trans rfl⟩ (fun hHeld => ?_)
       clear hK K; refine ic (a' := ?_) ?_ ?_
       rotate_left
       ·show Act.put _ (some 14) _ = _
        simp only [Act.put, List.setIfInBounds_toArray, List.set_cons_zero, List.set_cons_succ, eT, fA]; rfl
       refine pu_ HT_ 3 15 (bm 11 111) ?_
       refine pu_ HT_ 4 16 (bm 11 127) ?_
       refine l7 (i := 7) (N := some 19) #[true, true, true, true, true, true, true, true, false, false, false] rfl rfl (jD HT_.out (by kernel_rfl)) (by decide) (fun K hK => ?_)
       refine kY Tryd.func71 (by kernel_rfl) rfl #[.int .i64 ak] (by rfl) rfl rfl mp_ ?_
       with_reducible refine (jh.calls ak t190 _ A9.out ?tab).mono ?_
       (case tab => exact yL ui.out bl_)
       rintro e w16 ⟨rfl, hb⟩
       refine ⟨_, rfl, ?_⟩
       replace gQ := kb_ gQ hb; replace HB := aa.mk (ai bl_ hb); (try clear hb)
       (try clear hb2)
       (try clear hk)
       (try clear hi)
       refine hK.out _ _ ⟨(ag gQ.out 0).trans rfl, (ag gQ.out 1).trans rfl, (ag gQ.out 2).trans rfl, (ag gQ.out 3).trans rfl, (ag gQ.out 4).trans rfl⟩ (fun hHeld => ?_)
       clear hK K; refine ic (a' := ?_) ?_ ?_
       rotate_left
       ·show Act.put _ (some 19) _ = _
        simp only [Act.put, List.setIfInBounds_toArray, List.set_cons_zero, List.set_cons_succ, eT, fA]; rfl
       refine pu_ HT_ 8 20 (bm 11 511) ?_
       refine pu_ HT_ 9 21 (bm 11 1023) ?_
       refine pu_ HT_ 10 2 #[true, true, true, true, true, true, true, true, true, true, true] ?_
       refine vJ (p9 HT_.out (by kernel_rfl)) ?_
       try go_wp2
       go_ret; exact ⟨re_, bl_⟩
      ·rw [if_neg c11] at H; exact absurd H (by simp)
     ·rw [if_neg c10] at H; exact absurd H (by simp)
    ·rw [if_neg c8] at H; exact absurd H (by simp)
   ·rw [if_neg c7] at H; exact absurd H (by simp)
  ·rw [if_neg c5] at H; obtain ⟨jU, sJ⟩ := bn_ c5; by_cases c17 : aj = 3
   ·rw [if_pos c17] at H; obtain ⟨qV, xK⟩ := bq_ c17; clear c17; obtain rfl := Option.some.inj H; go_enter Tryd.func44, Tryd.ntmps44; go_wp2_with (first | ((with_reducible refine aU (N := 1) rfl ?_); refine aY ?hg (N := 1) ?hd (cs := #[.int .i64 aj, .int .i64 av, .int .i64 ak, .int .i64 au, .slice bA af.length aZ]) (t := 24) ?hr ?_; (case hd => rfl); (case hg => rfl); (case hr => first | (go_simp; done) | (go_simp; rfl)); intro oG hg w18 aK hb; have gQ := aa.mk (aK); have DD : aa (w.heap.size ≤ oG) := gw_ hg (ax bl_); have Pz := DD; replace HB := aa.mk (ai bl_ hb); clear hb aK hg; obtain ⟨CP, CQ, CR, CS, CU, CV, CW, CX, CY, CZ⟩ := bz gQ.out))
    go_ret; exact ⟨re_, bl_⟩
   ·rw [if_neg c17] at H; obtain ⟨qV, xK⟩ := bn_ c17; by_cases c20 : aj = 4
    ·rw [if_pos c20] at H; obtain ⟨vN, Gl⟩ := bq_ c20; clear c20; obtain rfl := Option.some.inj H; go_enter Tryd.func44, Tryd.ntmps44; go_wp2_with (first | ((with_reducible refine aU (N := 1) rfl ?_); refine aY ?hg (N := 1) ?hd (cs := #[.int .i64 aj, .int .i64 av, .int .i64 ak, .int .i64 au, .slice bA af.length aZ]) (t := 24) ?hr ?_; (case hd => rfl); (case hg => rfl); (case hr => first | (go_simp; done) | (go_simp; rfl)); intro oG hg w21 aK hb; have gQ := aa.mk (aK); have DD : aa (w.heap.size ≤ oG) := gw_ hg (ax bl_); have Pz := DD; replace HB := aa.mk (ai bl_ hb); clear hb aK hg; obtain ⟨qj, ql, qm, rM, rO, qo, qp, qw, rP, rQ⟩ := bz gQ.out))
     go_ret; exact ⟨re_, bl_⟩
    ·rw [if_neg c20] at H; obtain ⟨vN, Gl⟩ := bn_ c20; by_cases c23 : aj = 6
     ·rw [if_pos c23] at H; obtain ⟨qU, vz⟩ := bq_ c23; clear c23; replace H := Option.bind_eq_some_iff.mp H; obtain ⟨t191, A240, H⟩ := H; (try dsimp only at H)
      have A24 := aa.mk A240; clear A240; by_cases c25 : 5 + t191.size ≤ 9223372036854775807
      ·rw [if_pos c25] at H; have JF := eq_true c25; have JG := decide_eq_true c25; try have c25b2 : (9223372036854775807 < 5 + t191.size) = False := eq_false (Nat.not_lt.2 c25)
       by_cases c26 : ((⟨#[108, 105, 115, 116, 91]⟩ : ByteArray) ++ t191).size + 2 ≤ 9223372036854775807
       ·rw [if_pos c26] at H; have PD := eq_true c26; have c26b1 := decide_eq_true c26; try have c26b2 : (9223372036854775807 < ((⟨#[108, 105, 115, 116, 91]⟩ : ByteArray) ++ t191).size + 2) = False := eq_false (Nat.not_lt.2 c26)
        have c26b9 : (9223372036854775807 < 5 + t191.size + 2) = False := by have h := c26; simp only [ByteArray.size_append, ma, List.size_toArray, List.length_cons, List.length_nil] at h; exact eq_false (by omega)
        by_cases c27 : 0 < (af.length : Int)
        ·rw [if_pos c27] at H; have PE := decide_eq_true c27; have c27b1 : decide (0 < af.length) = true := decide_eq_true (by omega); clear c27; replace H := Option.bind_eq_some_iff.mp H; obtain ⟨t193, A280, H⟩ := H; (try dsimp only at H)
         have A28 := aa.mk A280; clear A280; by_cases c29 : (((⟨#[108, 105, 115, 116, 91]⟩ : ByteArray) ++ t191) ++ (⟨#[93, 32]⟩ : ByteArray)).size + t193.size ≤ 9223372036854775807
         ·rw [if_pos c29] at H; have Gh := eq_true c29; have Gi := decide_eq_true c29; try have c29b2 : (9223372036854775807 < (((⟨#[108, 105, 115, 116, 91]⟩ : ByteArray) ++ t191) ++ (⟨#[93, 32]⟩ : ByteArray)).size + t193.size) = False := eq_false (Nat.not_lt.2 c29)
          have c29b9 : (9223372036854775807 < 5 + t191.size + 2 + t193.size) = False := by have h := c29; simp only [ByteArray.size_append, ma, List.size_toArray, List.length_cons, List.length_nil] at h; exact eq_false (by omega)
          obtain rfl := Option.some.inj H; go_enter Tryd.func44, Tryd.ntmps44; try go_wp2_with (first | ((with_reducible refine aU (N := 1) rfl ?_); refine aY ?hg (N := 1) ?hd (cs := #[.int .i64 aj, .int .i64 av, .int .i64 ak, .int .i64 au, .slice bA af.length aZ]) (t := 24) ?hr ?_; (case hd => rfl); (case hg => rfl); (case hr => first | (go_simp; done) | (go_simp; rfl)); intro oG hg w30 aK hb; have gQ := aa.mk (aK); have DD : aa (w.heap.size ≤ oG) := gw_ hg (ax bl_); have Pz := DD; replace HB := aa.mk (ai bl_ hb); clear hb aK hg; obtain ⟨zy, zz, zA, BZ, Ca, zB, zC, zD, Cb, Cc⟩ := bz gQ.out))
          replace gQ := aa.mk (bC gQ.out); replace HB := aa.mk (bQ HB.out); have p192 : 0 ≤ (0 : Int) := (by omega); have q192 : 0 < (af.length : Int) := dt_; obtain ⟨Fh, A192_4, c192_4, e192, Hd, He, Hf, Hg, Hl, V8, V9⟩ := ib cz.out 0 p192 q192; have Ew := Hl; (try simp only [z0_, Nat.zero_mul, Addr.add_zero'] at Ew)
          have Ex := Hg; (try simp only [z0_, Nat.zero_mul, Addr.add_zero'] at Ex)
          have Ey := Hf; (try simp only [z0_, Nat.zero_mul, Addr.add_zero'] at Ey)
          have Ez := He; (try simp only [z0_, Nat.zero_mul, Addr.add_zero'] at Ez)
          have EA := Hd; (try simp only [z0_, Nat.zero_mul, Addr.add_zero'] at EA)
          cases e192; have qi192 : (0 < af.length) = True := eq_true (by omega); (try simp only [z0_, Nat.zero_mul, Addr.add_zero'] at Hd He Hf Hg Hl)
          replace Hd := hc_ HB Hd; replace He := hc_ HB He; replace Hf := hc_ HB Hf; replace Hg := hc_ HB Hg; replace Hl := hc_ HB Hl; have Wd := aa.mk V9; have HC192_4 := aa.mk V8; clear V9 V8; replace p192 := eq_true p192; replace q192 := eq_true q192; refine sD (n := 12) (S := fun w' => w'.cell? ⟨oG, 0, none⟩ = some (.int .i64 aj) ∧ w'.cell? ⟨oG, 1, none⟩ = some (.int .i64 av) ∧ w'.cell? ⟨oG, 2, none⟩ = some (.int .i64 ak) ∧ w'.cell? ⟨oG, 3, none⟩ = some (.int .i64 au) ∧ w'.cell? ⟨oG, 4, none⟩ = some (.slice (some Fh) af.length aZ) ∧ w'.cell? Fh = some (.int .i64 ((ah af 0).f0)) ∧ w'.cell? ⟨Fh.block, Fh.off + 1, none⟩ = some (.int .i64 ((ah af 0).f1)) ∧ w'.cell? ⟨Fh.block, Fh.off + 2, none⟩ = some (.int .i64 ((ah af 0).f2)) ∧ w'.cell? ⟨Fh.block, Fh.off + 3, none⟩ = some (.int .i64 ((ah af 0).f3)) ∧ w'.cell? ⟨Fh.block, Fh.off + 4, none⟩ = some (.slice A192_4 ((ah af 0).f4).length c192_4)) (ds := []) #[false, false, false, false, false, false, false, false, false, false, false, false] (by kernel_rfl) rfl rfl ⟨(ag gQ.out 0).trans rfl, (ag gQ.out 1).trans rfl, (ag gQ.out 2).trans rfl, (ag gQ.out 3).trans rfl, (ag gQ.out 4).trans rfl, ((HB.out.cell (World.block_lt_of_cell? w _ EA)).trans EA), ((HB.out.cell (World.block_lt_of_cell? w _ Ez)).trans Ez), ((HB.out.cell (World.block_lt_of_cell? w _ Ey)).trans Ey), ((HB.out.cell (World.block_lt_of_cell? w _ Ex)).trans Ex), ((HB.out.cell (World.block_lt_of_cell? w _ Ew)).trans Ew)⟩ (fun hHeld => ?_); refine l9 bT.Pj bT.MJ (fun HT_ HW_ => ?_)
          generalize w30.drew = w32 at gQ HB Wd Hd He Hf Hg Hl hHeld ⊢
          refine pu_ HT_ 0 28 (bm 12 1) ?_
          refine pu_ HT_ 5 33 (bm 12 33) ?_
          refine ta_ HT_ HW_ 1 29 (bm 12 35) hHeld ?_
          refine ta_ HT_ HW_ 6 34 (bm 12 99) hHeld ?_
          refine pu_ HT_ 7 35 (bm 12 227) ?_
          refine ta_ HT_ HW_ 8 36 (bm 12 483) hHeld ?_
          refine l7 (i := 2) (N := some 30) #[true, true, true, false, false, true, true, true, true, false, false, false] rfl rfl (jD HT_.out (by kernel_rfl)) (by decide) (fun K hK => ?_)
          refine kY Tryd.func71 (by kernel_rfl) rfl #[.int .i64 au] (by rfl) rfl rfl mp_ ?_
          with_reducible refine (jh.calls au t191 _ A24.out ?tab).mono ?_
          (case tab => exact yL ui.out bl_)
          rintro e w33 ⟨rfl, hb⟩
          refine ⟨_, rfl, ?_⟩
          replace gQ := kb_ gQ hb; replace HB := aa.mk (ai bl_ hb); (try clear hb)
          (try clear hb2)
          (try clear hk)
          (try clear hi)
          refine hK.out _ _ ⟨(ag gQ.out 0).trans rfl, (ag gQ.out 1).trans rfl, (ag gQ.out 2).trans rfl, (ag gQ.out 3).trans rfl, (ag gQ.out 4).trans rfl, ((HB.out.cell (World.block_lt_of_cell? w _ EA)).trans EA), ((HB.out.cell (World.block_lt_of_cell? w _ Ez)).trans Ez), ((HB.out.cell (World.block_lt_of_cell? w _ Ey)).trans Ey), ((HB.out.cell (World.block_lt_of_cell? w _ Ex)).trans Ex), ((HB.out.cell (World.block_lt_of_cell? w _ Ew)).trans Ew)⟩ (fun hHeld => ?_)
          clear hK K; refine ic (a' := ?_) ?_ ?_
          rotate_left
          ·show Act.put _ (some 30) _ = _
           simp only [Act.put, List.setIfInBounds_toArray, List.set_cons_zero, List.set_cons_succ, eT, fA]; rfl
          refine pu_ HT_ 3 31 (bm 12 495) ?_
          refine pu_ HT_ 4 32 (bm 12 511) ?_
          refine l7 (i := 9) (N := some 37) #[true, true, true, true, true, true, true, true, true, true, false, false] rfl rfl (jD HT_.out (by kernel_rfl)) (by decide) (fun K hK => ?_)
          refine kY Tryd.func44 (by kernel_rfl) rfl #[.agg #[.int .i64 ((ah af 0).f0), .int .i64 ((ah af 0).f1), .int .i64 ((ah af 0).f2), .int .i64 ((ah af 0).f3), .slice A192_4 ((ah af 0).f4).length c192_4]] (by rfl) rfl rfl mp_ ?_
          with_reducible refine (ih k (by omega) ((ah af 0).f0) ((ah af 0).f1) ((ah af 0).f2) ((ah af 0).f3) _ _ ((ah af 0).f4) t193 _ ?ay ?az A28.out ?tab).mono ?_
          (case tab => exact yL ui.out bl_)
          (case ay => exact cb_ (Kd.bB Wd.out HB.out))
          (case az => exact HC192_4.out)
          rintro e w34 ⟨rfl, hb⟩
          refine ⟨_, rfl, ?_⟩
          replace gQ := kb_ gQ hb; replace HB := aa.mk (ai bl_ hb); (try clear hb)
          (try clear hb2)
          (try clear hk)
          (try clear hi)
          refine hK.out _ _ ⟨(ag gQ.out 0).trans rfl, (ag gQ.out 1).trans rfl, (ag gQ.out 2).trans rfl, (ag gQ.out 3).trans rfl, (ag gQ.out 4).trans rfl, ((HB.out.cell (World.block_lt_of_cell? w _ EA)).trans EA), ((HB.out.cell (World.block_lt_of_cell? w _ Ez)).trans Ez), ((HB.out.cell (World.block_lt_of_cell? w _ Ey)).trans Ey), ((HB.out.cell (World.block_lt_of_cell? w _ Ex)).trans Ex), ((HB.out.cell (World.block_lt_of_cell? w _ Ew)).trans Ew)⟩ (fun hHeld => ?_)
          clear hK K; refine ic (a' := ?_) ?_ ?_
          rotate_left
          ·show Act.put _ (some 37) _ = _
           simp only [Act.put, List.setIfInBounds_toArray, List.set_cons_zero, List.set_cons_succ, eT, fA]; rfl
          refine pu_ HT_ 10 38 (bm 12 2047) ?_
          refine pu_ HT_ 11 2 #[true, true, true, true, true, true, true, true, true, true, true, true] ?_
          refine vJ (p9 HT_.out (by kernel_rfl)) ?_
          try go_wp2
          go_ret; exact ⟨re_, bl_⟩
         ·rw [if_neg c29] at H; exact absurd H (by simp)
        ·rw [if_neg c27] at H; exact absurd H (by simp)
       ·rw [if_neg c26] at H; exact absurd H (by simp)
      ·rw [if_neg c25] at H; exact absurd H (by simp)
     ·rw [if_neg c23] at H; obtain ⟨qU, vz⟩ := bn_ c23; have H' := aa.mk H; clear H; go_enter Tryd.func44, Tryd.ntmps44; go_wp2_with (first | ((with_reducible refine aU (N := 1) rfl ?_); refine aY ?hg (N := 1) ?hd (cs := #[.int .i64 aj, .int .i64 av, .int .i64 ak, .int .i64 au, .slice bA af.length aZ]) (t := 24) ?hr ?_; (case hd => rfl); (case hg => rfl); (case hr => first | (go_simp; done) | (go_simp; rfl)); intro oG hg w35 aK hb; have gQ := aa.mk (aK); have DD : aa (w.heap.size ≤ oG) := gw_ hg (ax bl_); have Pz := DD; replace HB := aa.mk (ai bl_ hb); clear hb aK hg; obtain ⟨Hm, Ho, Hq, Hr, Ht, Hu, Hw, Hy, Hz, HV⟩ := bz gQ.out))
      go_loopg [3, 42] k (fun kq v3 v42 w' => ∃ (gD : List ByteArray) (ky : Int), v42 = .int .i64 ky ∧ aa (bT.l0 kq gD af (af.length : Int) ky = some r) ∧ aa (kq ≤ k) ∧ aa (Kd.R Kd.string 9 w' w.heap.size (fun _ => True) v3 gD) ∧ aa (w'.heap[oG]? = some (.cells #[.int .i64 aj, .int .i64 av, .int .i64 ak, .int .i64 au, (.slice bA af.length aZ)] 24 (0, 0))) ∧ aa (Below w.heap.size w w'))
      case atStart => exact ⟨(([] : List ByteArray)), (0), rs_, H', ⟨Nat.le_refl _⟩, ⟨by first | exact Kd.oC _ _ _ _ _ | exact Kd.xG _ _ _ _ _ | exact Kd.xI _ _ _ _ _ | exact Kd.xD _ _ _ _ _ | exact Kd.xE _ _ _ _ _⟩, ⟨bk_⟩, ⟨bl_⟩⟩
      case round =>
       clear H'; (try clear c1); (try clear p1); (try clear q1); (try clear hx1); (try clear qi1); (try clear c2); (try clear lv); (try clear oH); (try clear p2); (try clear c4); (try clear c5); (try clear jU); (try clear sJ); (try clear c7); (try clear mO); (try clear zk); (try clear c7b2); (try clear c8); (try clear ko); (try clear ny); (try clear c8b2); (try clear c10); (try clear kv); (try clear vM); (try clear c10b2); (try clear c11); (try clear NJ); (try clear c11b1); (try clear c11b2); (try clear c17); (try clear qV); (try clear xK); (try clear c19); (try clear p19); (try clear q19); (try clear hx19); (try clear qi19); (try clear c20); (try clear vN); (try clear Gl); (try clear c23); (try clear qU); (try clear vz); (try clear c25); (try clear JF); (try clear JG); (try clear c25b2); (try clear c26); (try clear PD); (try clear c26b1); (try clear c26b2); (try clear c27); (try clear PE); (try clear c27b1); (try clear c29); (try clear Gh); (try clear Gi); (try clear c29b2); (try clear vU vV vW xX xY vX vY vZ xZ yc); (try clear CP CQ CR CS CU CV CW CX CY CZ); (try clear qj ql qm rM rO qo qp qw rP rQ); (try clear zy zz zA BZ Ca zB zC zD Cb Cc); (try clear Hm Ho Hq Hr Ht Hu Hw Hy Hz HV); (try clear lC lD lF lG lH lI lJ lK lL lM); (try clear Hd); (try clear He); (try clear Hf); (try clear Hg); (try clear Hl); (try clear p192); (try clear q192); obtain ⟨gD, ky, rfl, HA, HK1, kJ, gQ, HB⟩ := hrel; cases gk with
       | zero => exact absurd HA.out (by simp [bT.l0])
       | succ k1 =>
        have H := HA.out; clear HA; simp only [bT.l0] at H; by_cases c37 : ky < (af.length : Int)
        ·rw [if_pos c37] at H; have PG := decide_eq_true c37; clear c37; by_cases c38 : 0 ≤ ky
         ·rw [if_pos c38] at H; have Pf := decide_eq_true c38; clear c38; by_cases c39 : ky < (af.length : Int)
          ·rw [if_pos c39] at H; have Dr := decide_eq_true c39; clear c39; replace H := Option.bind_eq_some_iff.mp H; obtain ⟨t196, A400, H⟩ := H; (try dsimp only at H)
           have A40 := aa.mk A400; clear A400; by_cases c41 : gD.length < 8796093022208
           ·rw [if_pos c41] at H; have LMc41 := aa.mk c41; clear c41; obtain ⟨y197, PH⟩ : ∃ y_ : List ByteArray, y_ = (gD ++ [t196]) := ⟨_, rfl⟩; replace H : (bT.l0 k1 y197 af (af.length : Int) (wrap64 (ky + 1))) = some r := by first | (rw [PH]; with_reducible exact H) | (have H2_ := (Option.bind_some _ _).symm.trans H; rw [PH]; with_reducible exact H2_) | (have H2_ := (Option.bind_some _ _).symm.trans H; with_reducible exact H2_) | with_reducible exact H | (rw [PH]; exact H) | exact H
            have Ny197 := aa.mk PH; clear PH; have H' := aa.mk H; clear H; have p194 : 0 ≤ (ky : Int) := dt_; have q194 : ky < (af.length : Int) := dt_; obtain ⟨ad194, PI, PK, e194, We, Wh, Wi, Wj, Wl, Wm, Wn⟩ := ib cz.out ky p194 q194; cases e194; replace We := hc_ HB We; replace Wh := hc_ HB Wh; replace Wi := hc_ HB Wi; replace Wj := hc_ HB Wj; replace Wl := hc_ HB Wl; have HR194_4 := aa.mk Wn; have HC194_4 := aa.mk Wm; clear Wn Wm; replace p194 := eq_true p194; replace q194 := eq_true q194; go_wp2_with (first | ((with_reducible refine aU (N := 5) rfl ?_); refine aY ?hg (N := 5) ?hd (cs := #[.int .i64 0, .int .i64 0, .int .i64 0, .int .i64 0, .slice none 0 0]) (t := 24) ?hr ?_; (case hd => rfl); (case hg => rfl); (case hr => first | (go_simp; done) | (go_simp; rfl)); intro JI hg w42 aK hb; have PL := aa.mk (aK); have GW195 : aa (w.heap.size ≤ JI) := gw_ hg (ax bl_); have GE195 := GW195; have YL := nl_ gQ hg; have YM := ng_ gQ hg; replace kJ := aa.mk (Kd.gq (pR_ kJ.out) hb); replace gQ := kb_ gQ hb; replace HB := aa.mk (ai bl_ hb); clear hb aK hg; have hnb43 := YM.out; have hnc43 := YL.out; obtain ⟨NC, ND, NF, Wo, Wp, NG, NH, NI, Wq, Ws⟩ := bz PL.out) | ((with_reducible refine aC (f := 44) rfl ?_); refine aX (some 48) rfl rfl Tryd.func44 (by kernel_rfl) rfl #[.agg #[.int .i64 ((ah af ky).f0), .int .i64 ((ah af ky).f1), .int .i64 ((ah af ky).f2), .int .i64 ((ah af ky).f3), .slice PI ((ah af ky).f4).length PK]] rfl mp_ ?_; (with_reducible refine (ih k1 (by have := HK1.out; omega) ((ah af ky).f0) ((ah af ky).f1) ((ah af ky).f2) ((ah af ky).f3) _ _ ((ah af ky).f4) t196 _ ?ay ?az A40.out ?tab).mono ?_); (case tab => exact yL ui.out bl_); (case ay => exact Kd.bB HR194_4.out bl_); (case az => exact HC194_4.out); rintro e w45 ⟨rfl, hb⟩; refine ⟨_, rfl, ?_⟩; replace kJ := aa.mk (Kd.gq (by (with_reducible repeat (first | apply Kd.dx | apply Kd.dz | apply Kd.dH)); exact (Kd.cK (Kd.di (p := ⟨JI, 4, none⟩) (Kd.di (p := ⟨JI, 3, none⟩) (Kd.di (p := ⟨JI, 2, none⟩) (Kd.di (p := ⟨JI, 1, none⟩) (Kd.di (p := ⟨JI, 0, none⟩) (Kd.jQ kJ.out PL.out (by decide)) (fun _ hk => hk.2) (.int .i64 ((ah af ky).f0))) (fun _ hk => hk.2) (.int .i64 ((ah af ky).f1))) (fun _ hk => hk.2) (.int .i64 ((ah af ky).f2))) (fun _ hk => hk.2) (.int .i64 ((ah af ky).f3))) (fun _ hk => hk.2) (.slice PI ((ah af ky).f4).length PK)) (fun _ h_ => h_.1))) hb); replace gQ := aa.mk (gJ (g := oG) (o := .cells #[.int .i64 aj, .int .i64 av, .int .i64 ak, .int .i64 au, .slice (some ad194) af.length aZ] 24 (0, 0)) b5_ hb); replace PL := aa.mk (gJ (g := JI) (o := .cells #[.int .i64 ((ah af ky).f0), .int .i64 ((ah af ky).f1), .int .i64 ((ah af ky).f2), .int .i64 ((ah af ky).f3), .slice PI ((ah af ky).f4).length PK] 24 (0, 0)) b5_ hb); replace HB := aa.mk (ai bl_ hb); (try clear hb); (try clear hb2); (try clear hk); (try clear hi)) | ((with_reducible refine qY (b := .append) (xs := #[.tmp 46, .tmp 49]) rfl ?_); at_builtin; refine Kd.Uf Kd.string (w0 := w) w.heap.size rfl (.tmp 46) (.tmp 49) 79 9 (.string ⟨#[]⟩) 16 rfl Tryd.underlying79 info9 rfl (by decide) (by omega) u3 gD t196 [.string t196] (fun _ => True) (fun _ => False) rfl rfl ?aP (fun _ hk => hk.elim) ?aF ?aO ?aB ?aS ?aL ?_; (case aP => exact rfl); (case aB => exact bl_); (case aF => exact (fun _ _ => trivial)); (case aO => exact (pR_ kJ.out)); (case aS => exact (ax bl_)); (case aL => have := LMc41.out; omega); intro v198 w46 ho hb hg hat; rw [← Ny197.out] at ho; have HO199 := aa.mk (ho); replace gQ := aa.mk (nC (g := oG) (o := .cells #[.int .i64 aj, .int .i64 av, .int .i64 ak, .int .i64 au, .slice (some ad194) af.length aZ] 24 (0, 0)) bk_ hg (Kd.R_ne kJ.out gQ.out (by decide))); replace PL := aa.mk (nC (g := JI) (o := .cells #[.int .i64 ((ah af ky).f0), .int .i64 ((ah af ky).f1), .int .i64 ((ah af ky).f2), .int .i64 ((ah af ky).f3), .slice PI ((ah af ky).f4).length PK] 24 (0, 0)) bk_ hg (Kd.R_ne kJ.out PL.out (by decide))); replace HB := aa.mk (hb); clear kJ; clear ho hb hg hat))
            go_roundg k1
            case measure => have := HK1.out; omega
            case rel => exact ⟨(y197), (wrap64 (ky + 1)), rs_, H', ⟨by have := HK1.out; omega⟩, ⟨pR_ HO199.out⟩, ⟨bk_⟩, ⟨bl_⟩⟩
           ·rw [if_neg c41] at H; exact absurd H (by simp)
          ·rw [if_neg c39] at H; exact absurd H (by simp)
         ·rw [if_neg c38] at H; exact absurd H (by simp)
        ·rw [if_neg c37] at H; have PG := decide_eq_false c37; clear c37; replace H := Option.bind_eq_some_iff.mp H; obtain ⟨t200, A470, H⟩ := H; (try dsimp only at H)
         have A47 := aa.mk A470; clear A470; by_cases c48 : 1 + t200.size ≤ 9223372036854775807
         ·rw [if_pos c48] at H; have c48b0 := eq_true c48; have c48b1 := decide_eq_true c48; try have c48b2 : (9223372036854775807 < 1 + t200.size) = False := eq_false (Nat.not_lt.2 c48)
          by_cases c49 : ((⟨#[40]⟩ : ByteArray) ++ t200).size + 1 ≤ 9223372036854775807
          ·rw [if_pos c49] at H; have Na := eq_true c49; have Nb := decide_eq_true c49; try have c49b2 : (9223372036854775807 < ((⟨#[40]⟩ : ByteArray) ++ t200).size + 1) = False := eq_false (Nat.not_lt.2 c49)
           have c49b9 : (9223372036854775807 < 1 + t200.size + 1) = False := by have h := c49; simp only [ByteArray.size_append, ma, List.size_toArray, List.length_cons, List.length_nil] at h; exact eq_false (by omega)
           obtain rfl := Option.some.inj H; obtain ⟨Ao50, co50, eo50⟩ := Kd.df kJ.out; subst eo50; go_wp2_with (first | ((with_reducible refine aC (f := 72) rfl ?_); refine aX (some 53) rfl rfl Tryd.func72 (by kernel_rfl) rfl #[.slice Ao50 gD.length co50, .string (⟨#[44, 32]⟩ : ByteArray)] rfl mp_ ?_; (with_reducible refine (strings_Join.calls _ _ gD (⟨#[44, 32]⟩ : ByteArray) t200 _ ?ay ?az A47.out).mono ?_); (case ay => exact cb_ ((Kd.bu kJ.out).2.2)); (case az => exact (Kd.bu kJ.out).2.1); rintro e w51 ⟨rfl, hb⟩; refine ⟨_, rfl, ?_⟩; replace kJ := aa.mk (Kd.gq (pR_ kJ.out) hb); replace gQ := kb_ gQ hb; replace HB := aa.mk (ai bl_ hb); (try clear hb); (try clear hb2); (try clear hk); (try clear hi)))
           go_ret; exact ⟨re_, bl_⟩
          ·rw [if_neg c49] at H; exact absurd H (by simp)
         ·rw [if_neg c48] at H; exact absurd H (by simp)

end Go.Proofs.YtggelekooacmnaaDoor.Q
namespace Go.Proofs.YtggelekooacmnaaDoor.Q
open Go.RowKit Go.Proofs.YtggelekooacmnaaDoorW.bg Go.Proofs.YtggelekooacmnaaDoorW.bW Go.Proofs.YtggelekooacmnaaDoorW.dh
attribute [local go_sem] fE fF gy gz eO eP fG fH   -- for this text's walks alone
set_option linter.unusedVariables false
set_option linter.unusedSimpArgs false

/-! ### iy: function 21 -/
def iy.f (k : Nat) (aj : Int) (av : Int) (ak : Int) (au : Int) (af : List (S24)) : Option (ByteArray × Int) := (dE.f k aj av ak au af).bind fun t202 => (if t202 = 0 then ((bT.f k aj av ak au af).bind fun t203 => (some (t203, 0))) else (some ((⟨#[]⟩ : ByteArray), t202)))
theorem iy.mono : ∀ a0 a1 a2 a3 a4 k, LeO (iy.f k a0 a1 a2 a3 a4) (iy.f (k + 1) a0 a1 a2 a3 a4) := by
 intro a0 a1 a2 a3 a4 k; unfold iy.f
 repeat' first
   | (with_reducible exact dE.mono _ _ _ _ _ _)
   | (with_reducible exact bT.mono _ _ _ _ _ _)
   | (with_reducible exact LeO.refl _)
   | (with_reducible exact LeO.none _)
   | (with_reducible refine LeO.ite ?_ ?_)
   | (with_reducible refine LeO.bind ?_ (fun _ => ?_))
   | exact dE.mono _ _ _ _ _ _
   | exact bT.mono _ _ _ _ _ _
   | exact LeO.none _
   | refine LeO.ite ?_ ?_
   | refine LeO.bind ?_ (fun _ => ?_)
set_option maxHeartbeats 8000000 in
set_option maxRecDepth 100000 in
theorem iy.calls (k : Nat) (aj : Int) (av : Int) (ak : Int) (au : Int) (bA : Option Addr) (aZ : Nat) (af : List (S24)) (r1 : ByteArray) (r2 : Int) (w : World) (fK : Kd.C k24 w bA af.length af) (fM : af.length ≤ aZ) (h : iy.f k aj av ak au af = some (r1, r2)) (htab : vw w.heap.size w) :
  Calls Tryd.prog 21 #[.agg #[.int .i64 aj, .int .i64 av, .int .i64 ak, .int .i64 au, .slice bA af.length aZ]] w fun e w' => e = .returned (.tuple #[.string r1, .int .i64 r2]) ∧ Below w.heap.size w w' := by
 have ui := aa.mk htab; clear htab; have qb := Tryd.underlying24; have cz := aa.mk fK; have eZ := aa.mk fM; clear fK fM; have HB := aa.mk (Below.refl w.heap.size w); have H : ((dE.f k aj av ak au af).bind fun t202 => (if t202 = 0 then ((bT.f k aj av ak au af).bind fun t203 => (some (t203, 0))) else (some ((⟨#[]⟩ : ByteArray), t202)))) = some (r1, r2) := h; clear h; replace H := Option.bind_eq_some_iff.mp H; obtain ⟨t202, A20, H⟩ := H; (try dsimp only at H)
 have A2 := aa.mk A20; clear A20; by_cases c3 : t202 = 0
 ·rw [if_pos c3] at H; obtain ⟨kI, nu⟩ := bq_ c3; clear c3; replace H := Option.bind_eq_some_iff.mp H; obtain ⟨t203, A40, H⟩ := H; (try dsimp only at H)
  have A4 := aa.mk A40; clear A40; simp only [Option.some.injEq, Prod.mk.injEq] at H; obtain ⟨rfl, rfl⟩ := H; go_enter Tryd.func21, Tryd.ntmps21; go_wp2_with (first | ((with_reducible refine aU (N := 1) rfl ?_); refine aY ?hg (N := 1) ?hd (cs := #[.int .i64 aj, .int .i64 av, .int .i64 ak, .int .i64 au, .slice bA af.length aZ]) (t := 24) ?hr ?_; (case hd => rfl); (case hg => rfl); (case hr => first | (go_simp; done) | (go_simp; rfl)); intro gb201 hg w5 aK hb; have Fj := aa.mk (aK); have GW201 : aa (w.heap.size ≤ gb201) := gw_ hg (ax bl_); have GE201 := GW201; replace HB := aa.mk (ai bl_ hb); clear hb aK hg; obtain ⟨pM, pO, pQ, pR, pU, pV, pW, pX, pY, p8⟩ := bz Fj.out) | ((with_reducible refine aC (f := 12) rfl ?_); refine aX (some 6) rfl rfl Tryd.func12 (by kernel_rfl) rfl #[.agg #[.int .i64 aj, .int .i64 av, .int .i64 ak, .int .i64 au, .slice bA af.length aZ]] rfl mp_ ?_; (with_reducible refine (dE.calls k aj av ak au _ _ af t202 _ ?ay ?az A2.out).mono ?_); (case ay => exact cb_ (Kd.bB cz.out HB.out)); (case az => exact eZ.out); rintro e w7 ⟨rfl, hb⟩; refine ⟨_, rfl, ?_⟩; replace Fj := kb_ Fj hb; replace HB := aa.mk (ai bl_ hb); (try clear hb); (try clear hb2); (try clear hk); (try clear hi); obtain ⟨wR, wS, wT, wU, wV, wW, wX, wY, wZ, xc⟩ := bz Fj.out) | ((with_reducible refine aC (f := 44) rfl ?_); refine aX (some 11) rfl rfl Tryd.func44 (by kernel_rfl) rfl #[.agg #[.int .i64 aj, .int .i64 av, .int .i64 ak, .int .i64 au, .slice bA af.length aZ]] rfl mp_ ?_; (with_reducible refine (bT.calls k aj av ak au _ _ af t203 _ ?ay ?az A4.out ?tab).mono ?_); (case tab => exact yL ui.out bl_); (case ay => exact cb_ (Kd.bB cz.out HB.out)); (case az => exact eZ.out); rintro e w9 ⟨rfl, hb⟩; refine ⟨_, rfl, ?_⟩; replace Fj := kb_ Fj hb; replace HB := aa.mk (ai bl_ hb); (try clear hb); (try clear hb2); (try clear hk); (try clear hi)))
  go_ret2; exact ⟨re_, bl_⟩
 ·rw [if_neg c3] at H; obtain ⟨kI, nu⟩ := bn_ c3; simp only [Option.some.injEq, Prod.mk.injEq] at H; obtain ⟨rfl, rfl⟩ := H; go_enter Tryd.func21, Tryd.ntmps21; go_wp2_with (first | ((with_reducible refine aU (N := 1) rfl ?_); refine aY ?hg (N := 1) ?hd (cs := #[.int .i64 aj, .int .i64 av, .int .i64 ak, .int .i64 au, .slice bA af.length aZ]) (t := 24) ?hr ?_; (case hd => rfl); (case hg => rfl); (case hr => first | (go_simp; done) | (go_simp; rfl)); intro gb201 hg w10 aK hb; have Fj := aa.mk (aK); have GW201 : aa (w.heap.size ≤ gb201) := gw_ hg (ax bl_); have GE201 := GW201; replace HB := aa.mk (ai bl_ hb); clear hb aK hg; obtain ⟨nR, nS, nT, oU, oV, nU, nV, nW, oW, oZ⟩ := bz Fj.out) | ((with_reducible refine aC (f := 12) rfl ?_); refine aX (some 6) rfl rfl Tryd.func12 (by kernel_rfl) rfl #[.agg #[.int .i64 aj, .int .i64 av, .int .i64 ak, .int .i64 au, .slice bA af.length aZ]] rfl mp_ ?_; (with_reducible refine (dE.calls k aj av ak au _ _ af t202 _ ?ay ?az A2.out).mono ?_); (case ay => exact cb_ (Kd.bB cz.out HB.out)); (case az => exact eZ.out); rintro e w12 ⟨rfl, hb⟩; refine ⟨_, rfl, ?_⟩; replace Fj := kb_ Fj hb; replace HB := aa.mk (ai bl_ hb); (try clear hb); (try clear hb2); (try clear hk); (try clear hi)))
  go_ret2; exact ⟨re_, bl_⟩

end Go.Proofs.YtggelekooacmnaaDoor.Q
