/- Lemmas for: l9 -/
import Derived.Shelf.Strings.Builder1
import Derived.Shelf.Strings.Builder2
import Derived.Shelf.Strings.OnBuilder
import Derived.Shelf.Small.Wraps
import Derived.Shelf.Strconv.Itoa0
import Derived.Shelf.Strconv.Itoa1
import Derived.Shelf.LaysM
import Derived.Shelf.Strconv.Itoa2
import Derived.Shelf.Strconv.Itoa3
import Derived.Shelf.Slices.Equal
import Derived.Test.YtggelekooacmnaaDoorProg
import Derived.Lib.AppendIntMem
import Derived.Below
import Derived.Deep.Draws
import Derived.Deep.AppendLies
import Derived.Maps.AppendAt
import Derived.OwnWalk
import Derived.Laws.BytesArg
import Derived.Laws.MakeOwn
import Derived.Laws.OwnMore
import Derived.Deep.OwnRows
import Derived.Tactics
import Derived.Lib.ConvBytes
import Derived.Laws.Slices
import Derived.WalkKit
import Derived.KernelRfl
import Derived.RowKit3
import Derived.Deep.LoopGhost
import Derived.Deep.QuietTactic
import Derived.BigQuiet
import Derived.WideLaws
import Derived.Deep.DeepCutAuto
import Derived.Deep.CutBlock
import Derived.Deep.RegionHeld3
import Derived.Laws.Rows
import Derived.Lib.AppendStr
import Derived.ArgAppend
import Derived.Laws.IdiomCopy
import Derived.OrdersHeld
import Derived.Laws.BitsLemmas
import Derived.RowKit
import Derived.Orders
import Derived.Test.YtggelekooacmnaaDoorVt1
/-
  DERIVED: THE SHELF's CONTRACTS AT THIS DUMP, IN PLAIN WORDS (tools/lay-plain.mjs out of 'TrydShelf.lean', which tools/lay-shelf.mjs wrote): THE SAME DECLARATIONS UNDER THE SAME NAMES: 'import', 'namespace', 'open', 'def', 'theorem' AND NOTHING ELSE: no command of the shelf's: FOR A HAND-IN. Each laying: the table of numbers ('.._ren') and one theorem, a field a fact of the dump's own or the kernel's comparison; each contract: ONE APPLICATION.
-/
namespace Go.Proofs
open Go.Shelf
def Tryd.LA : Go.Shelf.Ren := ⟨fun | 156 => 72 | 165 => 89 | 166 => 90 | 169 => 91 | 240 => 97 | 241 => 98 | 276 => 105 | 277 => 106 | n => n, fun | 31 => 79 | 9 => 9 | 3 => 3 | 4 => 4 | 0 => 0 | 20 => 20 | 72 => 91 | 76 => 95 | 70 => 88 | 37 => 89 | 75 => 94 | 127 => 100 | 164 => 112 | 5 => 5 | 80 => 97 | n => n, fun | n => n⟩
theorem Tryd.Ua : Go.Proofs.Lays.n156 Tryd.prog Tryd.LA := {
  mixed := by kernel_rfl
  f156 := Tryd.func72.trans (congrArg some (by kernel_rfl))
  f165 := Tryd.func89.trans (congrArg some (by kernel_rfl))
  f166 := Tryd.func90.trans (congrArg some (by kernel_rfl))
  f169 := Tryd.func91.trans (congrArg some (by kernel_rfl))
  f240 := Tryd.func97.trans (congrArg some (by kernel_rfl))
  f241 := Tryd.func98.trans (congrArg some (by kernel_rfl))
  f276 := Tryd.func105.trans (congrArg some (by kernel_rfl))
  f277 := Tryd.func106.trans (congrArg some (by kernel_rfl))
  t0 := Tryd.underlying0
  a0 := Tryd.isAgg0
  z0 := Tryd.sizeOf0
  v0 := Tryd.zeroValue0
  t3 := Tryd.underlying3
  a3 := Tryd.isAgg3
  z3 := Tryd.sizeOf3
  v3 := Tryd.zeroValue3
  t4 := Tryd.underlying4
  a4 := Tryd.isAgg4
  z4 := Tryd.sizeOf4
  v4 := Tryd.zeroValue4
  t9 := Tryd.underlying9
  a9 := Tryd.isAgg9
  z9 := Tryd.sizeOf9
  v9 := Tryd.zeroValue9
  t20 := Tryd.underlying20
  a20 := Tryd.isAgg20
  z20 := Tryd.sizeOf20
  v20 := Tryd.zeroValue20
  t31 := Tryd.underlying79
  a31 := Tryd.isAgg79
  z31 := Tryd.sizeOf79
  v31 := Tryd.zeroValue79
  t37 := Tryd.underlying89
  a37 := Tryd.isAgg89
  z37 := Tryd.sizeOf89
  v37 := Tryd.zeroValue89
  t70 := Tryd.underlying88
  a70 := Tryd.isAgg88
  z70 := Tryd.sizeOf88
  v70 := Tryd.zeroValue88
  t72 := Tryd.underlying91
  a72 := Tryd.isAgg91
  z72 := Tryd.sizeOf91
  v72 := Tryd.zeroValue91
  t75 := Tryd.underlying94
  a75 := Tryd.isAgg94
  z75 := Tryd.sizeOf94
  v75 := Tryd.zeroValue94
  t76 := Tryd.underlying95
  a76 := Tryd.isAgg95
  z76 := Tryd.sizeOf95
  v76 := Tryd.zeroValue95
  t127 := Tryd.underlying100
  a127 := Tryd.isAgg100
  z127 := Tryd.sizeOf100
  v127 := Tryd.zeroValue100
  t164 := Tryd.underlying112
  a164 := Tryd.isAgg112
  z164 := Tryd.sizeOf112
  v164 := Tryd.zeroValue112 }
theorem Tryd.Bn : Builder.Extra Tryd.prog Tryd.LA := {
  sizeBuilder := by kernel_rfl
  liesBuilder := by kernel_rfl
  t5 := Tryd.underlying5
  a5 := Tryd.isAgg5
  z5 := Tryd.sizeOf5
  v5 := Tryd.zeroValue5
  infoByte := by kernel_rfl
  cellsByte := by kernel_rfl
  sizeByte := by kernel_rfl
  neB5 := by decide }
open Go.RowKit in
/-- No element: the empty string; the world is as it was. (Whatever the slice's address and capacity: a nil slice too.) (LAID: no walk: one application.) -/
theorem Tryd.strings_Join_none (a : Option Addr) (c : Nat) (sep : ByteArray) (w : World) :
    Calls Tryd.prog 72 #[.slice a 0 c, .string sep] w fun e w' => e = .returned (.string ⟨#[]⟩) ∧ w' = w := Any.strings_Join_none Tryd.Ua Tryd.Bn a c sep w
open Go.RowKit in
/-- strings.Join: "Join concatenates the elements of its first argument to create a single string. The separator string sep is placed between elements in the resulting string.": HOWEVER MANY ELEMENTS. Below the heap's end the world is as it was. (LAID: no walk: one application.) -/
theorem Tryd.strings_Join (bk o c : Nat) (xs : List ByteArray) (sep : ByteArray) (w : World) (hcells : ∀ (j : Nat) x, xs[j]? = some x → w.cell? ⟨bk, o + j, none⟩ = some (.string x)) (hbk : bk < w.heap.size) (hN : xs.length ≤ 140737488355328) (hcap : xs.length ≤ c) (hlen : (Lib.join (xs.map (·.data.toList)) sep.data.toList).length ≤ 140737488355328) :
    Calls Tryd.prog 72 #[.slice (some ⟨bk, o, none⟩) xs.length c, .string sep] w fun e w' => e = .returned (.string ⟨(Lib.join (xs.map (·.data.toList)) sep.data.toList).toArray⟩) ∧ Below w.heap.size w w' := Any.strings_Join Tryd.Ua Tryd.Bn bk o c xs sep w hcells hbk hN hcap hlen
def Tryd.RI : Go.Shelf.Ren := ⟨fun | 171 => 71 | 243 => 88 | 246 => 96 | 283 => 101 | 284 => 102 | 285 => 103 | 286 => 104 | 129 => 112 | 317 => 111 | 318 => 113 | 319 => 114 | 320 => 115 | 337 => 119 | 338 => 120 | n => n, fun | 3 => 3 | 9 => 9 | 2 => 2 | 4 => 4 | 171 => 106 | 0 => 0 | 53 => 107 | 37 => 89 | 5 => 5 | 173 => 110 | 212 => 122 | 51 => 119 | 20 => 20 | 213 => 123 | 46 => 124 | 232 => 133 | 233 => 134 | n => n, fun | 17 => 0 | 18 => 2 | 19 => 3 | n => n⟩
theorem Tryd.laysM171 : Go.Proofs.LaysM.n171 Tryd.prog Tryd.RI := {
  mixed := by kernel_rfl
  f129 := Tryd.func112.trans (congrArg some (by kernel_rfl))
  f171 := Tryd.func71.trans (congrArg some (by kernel_rfl))
  f243 := Tryd.func88.trans (congrArg some (by kernel_rfl))
  f246 := Tryd.func96.trans (congrArg some (by kernel_rfl))
  f283 := Tryd.func101.trans (congrArg some (by kernel_rfl))
  f284 := Tryd.func102.trans (congrArg some (by kernel_rfl))
  f285 := Tryd.func103.trans (congrArg some (by kernel_rfl))
  f286 := Tryd.func104.trans (congrArg some (by kernel_rfl))
  f317 := Tryd.func111.trans (congrArg some (by kernel_rfl))
  f318 := Tryd.func113.trans (congrArg some (by kernel_rfl))
  f319 := Tryd.func114.trans (congrArg some (by kernel_rfl))
  f320 := Tryd.func115.trans (congrArg some (by kernel_rfl))
  f337 := Tryd.func119.trans (congrArg some (by kernel_rfl))
  f338 := Tryd.func120.trans (congrArg some (by kernel_rfl))
  t0 := Tryd.underlying0
  a0 := Tryd.isAgg0
  z0 := Tryd.sizeOf0
  v0 := Tryd.zeroValue0
  t2 := Tryd.underlying2
  a2 := Tryd.isAgg2
  z2 := Tryd.sizeOf2
  v2 := Tryd.zeroValue2
  t3 := Tryd.underlying3
  a3 := Tryd.isAgg3
  z3 := Tryd.sizeOf3
  v3 := Tryd.zeroValue3
  t4 := Tryd.underlying4
  a4 := Tryd.isAgg4
  z4 := Tryd.sizeOf4
  v4 := Tryd.zeroValue4
  t5 := Tryd.underlying5
  a5 := Tryd.isAgg5
  z5 := Tryd.sizeOf5
  v5 := Tryd.zeroValue5
  t9 := Tryd.underlying9
  a9 := Tryd.isAgg9
  z9 := Tryd.sizeOf9
  v9 := Tryd.zeroValue9
  t20 := Tryd.underlying20
  a20 := Tryd.isAgg20
  z20 := Tryd.sizeOf20
  v20 := Tryd.zeroValue20
  t37 := Tryd.underlying89
  a37 := Tryd.isAgg89
  z37 := Tryd.sizeOf89
  v37 := Tryd.zeroValue89
  t46 := Tryd.underlying124
  a46 := Tryd.isAgg124
  z46 := Tryd.sizeOf124
  v46 := Tryd.zeroValue124
  t51 := Tryd.underlying119
  a51 := Tryd.isAgg119
  z51 := Tryd.sizeOf119
  v51 := Tryd.zeroValue119
  t53 := Tryd.underlying107
  a53 := Tryd.isAgg107
  z53 := Tryd.sizeOf107
  v53 := Tryd.zeroValue107
  t171 := Tryd.underlying106
  a171 := Tryd.isAgg106
  z171 := Tryd.sizeOf106
  v171 := Tryd.zeroValue106
  t173 := Tryd.underlying110
  a173 := Tryd.isAgg110
  z173 := Tryd.sizeOf110
  v173 := Tryd.zeroValue110
  t212 := Tryd.underlying122
  a212 := Tryd.isAgg122
  z212 := Tryd.sizeOf122
  v212 := Tryd.zeroValue122
  t213 := Tryd.underlying123
  a213 := Tryd.isAgg123
  z213 := Tryd.sizeOf123
  t232 := Tryd.underlying133
  a232 := Tryd.isAgg133
  z232 := Tryd.sizeOf133
  v232 := Tryd.zeroValue133
  t233 := Tryd.underlying134
  a233 := Tryd.isAgg134
  z233 := Tryd.sizeOf134
  v233 := Tryd.zeroValue134
  g17 := by kernel_rfl
  g18 := by kernel_rfl
  g19 := by kernel_rfl
  i0 := by kernel_rfl
  i2 := by kernel_rfl
  i3 := by kernel_rfl
  i4 := by kernel_rfl
  i5 := by kernel_rfl
  i9 := by kernel_rfl
  i20 := by kernel_rfl
  i37 := by kernel_rfl
  i46 := by kernel_rfl
  i51 := by kernel_rfl
  i53 := by kernel_rfl
  i171 := by kernel_rfl
  i173 := by kernel_rfl
  i212 := by kernel_rfl
  i232 := by kernel_rfl
  i233 := by kernel_rfl
  m17 := by kernel_rfl
  m18 := by kernel_rfl
  m19 := by kernel_rfl }
open Go.RowKit Go.Sort Go.Lib in
/-- strconv.Itoa: "Itoa is equivalent to FormatInt(int64(i), 10).": i's DECIMAL NUMERAL ('Lib.itoa': a '-' where i is negative, then the digits), FOR EVERY int. The world behind the call: the world before it, new blocks behind the heap (the library's 'var a [24]byte'), draws. (LAID: no walk: one application.) -/
theorem Tryd.strconv_Itoa (n : Int) (h0 : -9223372036854775808 ≤ n) (h1 : n ≤ 9223372036854775807) (w : World) (htab : Lib.TabIs Tryd.prog w "internal/strconv.uint64pow10" .u64 Lib.pow10Tab) :
    Calls Tryd.prog 71 #[.int .i64 n] w fun e w' => e = .returned (.string ⟨(Lib.itoa n).toArray⟩) ∧ ∃ k os, w' = grow (w.drewN k) os := Any.strconv_Itoa Tryd.laysM171 n h0 h1 w htab
end Go.Proofs
-- the table of powers as a premise; strings.Join of a row that is read
namespace Go.Proofs.YtggelekooacmnaaDoor.Q
open Go.RowKit Go.Proofs.YtggelekooacmnaaDoorW.aJ Go.Proofs.YtggelekooacmnaaDoorW.bu Go.Proofs.YtggelekooacmnaaDoorW.bB
set_option linter.unusedVariables false
set_option linter.unusedSimpArgs false
abbrev qx (B : Nat) (w : World) : Prop := Lib.TabBelow Tryd.prog B w "internal/strconv.uint64pow10" .u64 Lib.pow10Tab
theorem qx.up {B B' : Nat} {w : World} (h : qx B w) (hB : B ≤ B') : qx B' w := fun w' hb => h w' (hb.mono hB)
theorem ptab {w W : World} (h : qx w.heap.size w) (hb : Below w.heap.size w W) : qx W.heap.size W := qx.up (h.on hb) hb.size
theorem Tz (w : World) (k : Nat) (os : Array Obj) : Below w.heap.size w (Go.Sort.grow (w.drewN k) os) := Lib.below_grow _ w (Nat.le_refl _) k os
theorem CG : ∀ (a : Array UInt8), (⟨a⟩ : ByteArray).size = a.size := fun _ => rfl
theorem Yd {w : World} {a : Addr} {v : Value} (h : w.cell? a = some v) : a = ⟨a.block, a.off, none⟩ ∧ a.block < w.heap.size := by
  obtain ⟨b, o, s⟩ := a
  unfold World.cell? at h
  dsimp only at h
  constructor
  · cases s with
    | none => rfl
    | some s => split at h <;> simp at h
  · have : w.heap[b]? ≠ none := by intro e; rw [e] at h; simp at h
    exact Nat.lt_of_not_ge fun hn => this (Array.getElem?_eq_none hn)
theorem TA (A0 : Option Addr) (c0 : Nat) (l0 : List ByteArray) (a1 : ByteArray) (w : World) (hr0 : Kd.C Kd.string w A0 l0.length l0) (hc0 : l0.length ≤ c0)
    (h1 : l0.length ≤ 140737488355328) (h2 : (Lib.join (l0.map (·.data.toList)) a1.data.toList).length ≤ 140737488355328) :
    Calls Tryd.prog 72 #[.slice A0 l0.length c0, .string a1] w fun e w' => e = .returned (.string ⟨(Lib.join (l0.map (·.data.toList)) a1.data.toList).toArray⟩) ∧ Below w.heap.size w w' := by
  cases l0 with
  | nil =>
    refine (Tryd.strings_Join_none A0 c0 a1 w).mono ?_
    rintro e w' ⟨rfl, rfl⟩
    exact ⟨rfl, Below.refl _ _⟩
  | cons x xs =>
    obtain ⟨ad, rfl, hc⟩ := Kd.QL hr0 0 (by omega) (by simp)
    obtain ⟨he, hb⟩ := Yd hc
    have hs : ad = ⟨ad.block, ad.off, none⟩ := by simpa [Addr.add] using he
    have hb' : ad.block < w.heap.size := by simpa [Addr.add] using hb
    obtain ⟨b, o, sp⟩ := ad
    obtain rfl : sp = none := by simpa using hs
    refine Tryd.strings_Join b o c0 (x :: xs) a1 w ?_ hb' h1 hc0 h2
    intro j y hj
    obtain ⟨ad', e', hj'⟩ := Kd.QL hr0 j (by omega) (by have := (List.getElem?_eq_some_iff.1 hj).1; omega)
    obtain rfl := Option.some.inj e'
    have hz : rdOf ByteArray.empty (x :: xs) (j : Int) = y := by unfold rdOf; simp [List.getD_eq_getElem?_getD, hj]
    rw [hz] at hj'
    have : (Addr.add ⟨b, o, none⟩ ((j : Int)).toNat) = ⟨b, o + j, none⟩ := by
      unfold Addr.add; split
      · rename_i h0; simp at h0; simp [h0]
      · simp
    rwa [this] at hj'
end Go.Proofs.YtggelekooacmnaaDoor.Q
namespace Go.Proofs.YtggelekooacmnaaDoor.Q
open Go.RowKit Go.Proofs.YtggelekooacmnaaDoorW.aJ Go.Proofs.YtggelekooacmnaaDoorW.bu Go.Proofs.YtggelekooacmnaaDoorW.bB
attribute [local go_sem] cZ dh dO dP bX bY dm dn   -- for this text's walks alone
set_option linter.unusedVariables false
set_option linter.unusedSimpArgs false



def errW : Option Int → Value
  | none => .nilIface
  | some c => .iface 0 (.int .i64 c)
theorem AA : errW none = .nilIface := rfl
theorem AB (c : Int) : errW (some c) = .iface 0 (.int .i64 c) := rfl

theorem info3 : (Tryd.prog.info? 3).map (fun i => (i.zero, i.size, i.bytes)) = some (some (.int .i64 0), 1, 8) := by kernel_rfl
theorem info5 : (Tryd.prog.info? 5).map (fun i => (i.zero, i.size, i.bytes)) = some (some (.int .u8 0), 1, 1) := by kernel_rfl
theorem info9 : (Tryd.prog.info? 9).map (fun i => (i.zero, i.size, i.bytes)) = some (some (.string ⟨#[]⟩), 1, 16) := by kernel_rfl
theorem info24 : (Tryd.prog.info? 24).map (fun i => (i.zero, i.size, i.bytes)) = some (some (.agg #[(.int .i64 0), (.int .i64 0), (.int .i64 0), (.int .i64 0), (.slice none 0 0)]), 5, 56) := by kernel_rfl
theorem info41 : (Tryd.prog.info? 41).map (fun i => (i.zero, i.size, i.bytes)) = some (some (.agg #[(.int .i64 0), (.int .i64 0), (.int .i64 0)]), 3, 24) := by kernel_rfl
theorem yn : (Tryd.prog.info? 51).map (fun i => (i.zero, i.size, i.bytes)) = some (some (.agg #[(.int .i64 0), (.slice none 0 0)]), 2, 32) := by kernel_rfl
theorem EA : (Tryd.prog.info? 119).map (fun i => (i.zero, i.size, i.bytes)) = some (some (.int .u32 0), 1, 4) := by kernel_rfl
-- the values' own types
/-! #### struct type 24, nested in itself -/
structure S24 where
  f0 : Int
  f1 : Int
  f2 : Int
  f3 : Int
  f4 : (List S24)
def z24 : S24 := ⟨(0 : Int), (0 : Int), (0 : Int), (0 : Int), ([] : List S24)⟩
def F24 (d : Kd S24) : Kd S24 := Kd.iso (Kd.pair (Kd.int .i64) (Kd.pair (Kd.int .i64) (Kd.pair (Kd.int .i64) (Kd.pair (Kd.int .i64) (Kd.slice 24 d))))) (fun x : S24 => (x.f0, x.f1, x.f2, x.f3, x.f4))
theorem MM : Kd.tF F24 := Kd.Rt _ (Kd.Aw (Kd.yj _) (Kd.Aw (Kd.yj _) (Kd.Aw (Kd.yj _) (Kd.Aw (Kd.yj _) (Kd.MC 24 Kd.TP)))))
theorem sub24 : Kd.Sub F24 [24] := Kd.TQ _ (Kd.CB (Kd.sub_const _ (by decide)) (Kd.CB (Kd.sub_const _ (by decide)) (Kd.CB (Kd.sub_const _ (by decide)) (Kd.CB (Kd.sub_const _ (by decide)) (Kd.QH 24 (by decide) Kd.sub_id)))))
theorem sz24 : ∀ n, (Kd.upto F24 5 [24] n).sz = 5 := Kd.TR (fun _ => rfl)
def k24 : Kd S24 := Kd.fix F24 5 [24] sz24 (Kd.Ru sub24)
theorem Gs : Kd.Heap k24 := Kd.heap_fix (fun _ h_ => Kd.heap_iso _ (Kd.Dz (Kd.tK .i64) (Kd.Dz (Kd.tK .i64) (Kd.Dz (Kd.tK .i64) (Kd.Dz (Kd.tK .i64) (Kd.X8 24 h_))))))
theorem LW {w : World} {x : S24} {cs : List Value} (h : k24.K w x cs) : ∃ A4 c4, cs = [.int .i64 x.f0, .int .i64 x.f1, .int .i64 x.f2, .int .i64 x.f3, .slice A4 x.f4.length c4] ∧ x.f4.length ≤ c4 ∧ k24.C w A4 x.f4.length x.f4 := by
  obtain ⟨n, h⟩ := h
  cases n with
  | zero => exact h.elim
  | succ n =>
    obtain ⟨_, _, rfl, rfl, ⟨_, _, rfl, rfl, ⟨_, _, rfl, rfl, ⟨_, _, rfl, rfl, ⟨A4, c4, rfl, l4, g4⟩⟩⟩⟩⟩ := h
    exact ⟨A4, c4, rfl, l4, Kd.fix_C g4⟩
theorem k24_mk (w : World) (x : S24) {A4 : Option Addr} {c4 : Nat} (l4 : x.f4.length ≤ c4) (g4 : k24.C w A4 x.f4.length x.f4) : k24.K w x [.int .i64 x.f0, .int .i64 x.f1, .int .i64 x.f2, .int .i64 x.f3, .slice A4 x.f4.length c4] := by
  obtain ⟨n4, q4⟩ := Kd.X3 MM g4
  have r4 := Kd.Yp MM sz24 (show n4 ≤ n4 by omega) q4
  exact ⟨n4 + 1, ⟨[.int .i64 x.f0], [.int .i64 x.f1, .int .i64 x.f2, .int .i64 x.f3, .slice A4 x.f4.length c4], rfl, rfl, ⟨[.int .i64 x.f1], [.int .i64 x.f2, .int .i64 x.f3, .slice A4 x.f4.length c4], rfl, rfl, ⟨[.int .i64 x.f2], [.int .i64 x.f3, .slice A4 x.f4.length c4], rfl, rfl, ⟨[.int .i64 x.f3], [.slice A4 x.f4.length c4], rfl, rfl, ⟨A4, c4, rfl, l4, r4⟩⟩⟩⟩⟩⟩
theorem k24_mkM (w : World) (base : Nat) (ok : Nat → Prop) (x : S24) {v4 : Value} (g4 : k24.R 24 w base ok v4 x.f4) : k24.M w base ok x [.int .i64 x.f0, .int .i64 x.f1, .int .i64 x.f2, .int .i64 x.f3, v4] := by
  obtain ⟨n4, q4⟩ := Kd.ME MM g4
  have r4 := Kd.QK MM sz24 (show n4 ≤ n4 by omega) q4
  exact ⟨n4 + 1, ⟨[.int .i64 x.f0], [.int .i64 x.f1, .int .i64 x.f2, .int .i64 x.f3, v4], rfl, rfl, ⟨[.int .i64 x.f1], [.int .i64 x.f2, .int .i64 x.f3, v4], rfl, rfl, ⟨[.int .i64 x.f2], [.int .i64 x.f3, v4], rfl, rfl, ⟨[.int .i64 x.f3], [v4], rfl, rfl, ⟨v4, rfl, r4⟩⟩⟩⟩⟩⟩
theorem DC {W : World} {ok : Nat → Prop} {x : S24} {cs : List Value} (h : Kd.FK k24 W ok x cs) : ∃ A4 c4, cs = [.int .i64 x.f0, .int .i64 x.f1, .int .i64 x.f2, .int .i64 x.f3, .slice A4 x.f4.length c4] ∧ x.f4.length ≤ c4 ∧ Kd.F k24 W ok A4 x.f4.length x.f4 := by
  obtain ⟨A4, c4, rfl, l4, _⟩ := LW (Kd.Az h)
  exact ⟨A4, c4, rfl, l4, (fun W' hW => by obtain ⟨A4_, c4_, he, l4_, g4_⟩ := LW (h W' hW); injection (Option.some.inj (show some (Value.slice A4 x.f4.length c4) = some (Value.slice A4_ x.f4.length c4_) from congrArg (fun l => l[4]?) he)) with ha_ _ _; rw [ha_]; exact g4_)⟩
theorem Js (W : World) (ok : Nat → Prop) (x : S24) {A4 : Option Addr} {c4 : Nat} (l4 : x.f4.length ≤ c4) (g4 : Kd.F k24 W ok A4 x.f4.length x.f4) : Kd.FK k24 W ok x [.int .i64 x.f0, .int .i64 x.f1, .int .i64 x.f2, .int .i64 x.f3, .slice A4 x.f4.length c4] := fun W2 hW => k24_mk W2 x l4 (g4 W2 hW)
def ag (xs : List S24) (i : Int) : S24 := xs.getD i.toNat z24
theorem gu {w : World} {A : Option Addr} {n : Nat} {xs : List S24} (h : Kd.C k24 w A n xs) (i : Int) (h0 : 0 ≤ i) (h1 : i < n) : ∃ ad A4 c4, A = some ad ∧ w.cell? (ad.add (i.toNat * 5)) = some (.int .i64 (ag xs i).f0) ∧ w.cell? ⟨(ad.add (i.toNat * 5)).block, (ad.add (i.toNat * 5)).off + 1, none⟩ = some (.int .i64 (ag xs i).f1) ∧ w.cell? ⟨(ad.add (i.toNat * 5)).block, (ad.add (i.toNat * 5)).off + 2, none⟩ = some (.int .i64 (ag xs i).f2) ∧ w.cell? ⟨(ad.add (i.toNat * 5)).block, (ad.add (i.toNat * 5)).off + 3, none⟩ = some (.int .i64 (ag xs i).f3) ∧ w.cell? ⟨(ad.add (i.toNat * 5)).block, (ad.add (i.toNat * 5)).off + 4, none⟩ = some (.slice A4 (ag xs i).f4.length c4) ∧ (ag xs i).f4.length ≤ c4 ∧ k24.C w A4 (ag xs i).f4.length (ag xs i).f4 := by
  obtain ⟨ad, c, e, _, hK, hc0⟩ := Kd.Mx h z24 i h0 h1
  have hc : ∀ j u, c[j]? = some u → w.cell? (ad.add (i.toNat * 5 + j)) = some u := hc0
  obtain ⟨A4, c4, rfl, l4, g4⟩ := LW hK
  exact ⟨ad, A4, c4, e, hc 0 _ rfl, by rw [← uT _ _ 1 (by omega)]; exact hc 1 _ rfl, by rw [← uT _ _ 2 (by omega)]; exact hc 2 _ rfl, by rw [← uT _ _ 3 (by omega)]; exact hc 3 _ rfl, by rw [← uT _ _ 4 (by omega)]; exact hc 4 _ rfl, l4, g4⟩

/-! #### struct type 41 -/
structure S41 where
  f0 : Int
  f1 : Int
  f2 : Int
def k41 : Kd S41 := Kd.iso (Kd.pair (Kd.int .i64) (Kd.pair (Kd.int .i64) (Kd.int .i64))) (fun x : S41 => (x.f0, x.f1, x.f2))
theorem Jt (w : World) (base : Nat) (ok : Nat → Prop) (x : S41)  : k41.M w base ok x [.int .i64 x.f0, .int .i64 x.f1, .int .i64 x.f2] := ⟨[.int .i64 x.f0], [.int .i64 x.f1, .int .i64 x.f2], rfl, rfl, ⟨[.int .i64 x.f1], [.int .i64 x.f2], rfl, rfl, rfl⟩⟩
/-! #### struct type 51, nested in itself -/
structure S51 where
  f0 : Int
  f1 : (List S51)
def z51 : S51 := ⟨(0 : Int), ([] : List S51)⟩
def F51 (d : Kd S51) : Kd S51 := Kd.iso (Kd.pair (Kd.int .i64) (Kd.slice 51 d)) (fun x : S51 => (x.f0, x.f1))
theorem mono51 : Kd.tF F51 := Kd.Rt _ (Kd.Aw (Kd.yj _) (Kd.MC 51 Kd.TP))
theorem sub51 : Kd.Sub F51 [51] := Kd.TQ _ (Kd.CB (Kd.sub_const _ (by decide)) (Kd.QH 51 (by decide) Kd.sub_id))
theorem sz51 : ∀ n, (Kd.upto F51 2 [51] n).sz = 2 := Kd.TR (fun _ => rfl)
def k51 : Kd S51 := Kd.fix F51 2 [51] sz51 (Kd.Ru sub51)
theorem k51_open {w : World} {x : S51} {cs : List Value} (h : k51.K w x cs) : ∃ A1 c1, cs = [.int .i64 x.f0, .slice A1 x.f1.length c1] ∧ x.f1.length ≤ c1 ∧ k51.C w A1 x.f1.length x.f1 := by
  obtain ⟨n, h⟩ := h
  cases n with
  | zero => exact h.elim
  | succ n =>
    obtain ⟨_, _, rfl, rfl, ⟨A1, c1, rfl, l1, g1⟩⟩ := h
    exact ⟨A1, c1, rfl, l1, Kd.fix_C g1⟩
theorem vL (w : World) (base : Nat) (ok : Nat → Prop) (x : S51) {v1 : Value} (g1 : k51.R 51 w base ok v1 x.f1) : k51.M w base ok x [.int .i64 x.f0, v1] := by
  obtain ⟨n1, q1⟩ := Kd.ME mono51 g1
  have r1 := Kd.QK mono51 sz51 (show n1 ≤ n1 by omega) q1
  exact ⟨n1 + 1, ⟨[.int .i64 x.f0], [v1], rfl, rfl, ⟨v1, rfl, r1⟩⟩⟩
def bq (xs : List S51) (i : Int) : S51 := xs.getD i.toNat z51
theorem rW {w : World} {A : Option Addr} {n : Nat} {xs : List S51} (h : Kd.C k51 w A n xs) (i : Int) (h0 : 0 ≤ i) (h1 : i < n) : ∃ ad A1 c1, A = some ad ∧ w.cell? (ad.add (i.toNat * 2)) = some (.int .i64 (bq xs i).f0) ∧ w.cell? ⟨(ad.add (i.toNat * 2)).block, (ad.add (i.toNat * 2)).off + 1, none⟩ = some (.slice A1 (bq xs i).f1.length c1) ∧ (bq xs i).f1.length ≤ c1 ∧ k51.C w A1 (bq xs i).f1.length (bq xs i).f1 := by
  obtain ⟨ad, c, e, _, hK, hc0⟩ := Kd.Mx h z51 i h0 h1
  have hc : ∀ j u, c[j]? = some u → w.cell? (ad.add (i.toNat * 2 + j)) = some u := hc0
  obtain ⟨A1, c1, rfl, l1, g1⟩ := k51_open hK
  exact ⟨ad, A1, c1, e, hc 0 _ rfl, by rw [← uT _ _ 1 (by omega)]; exact hc 1 _ rfl, l1, g1⟩

theorem Kd.R_readsM {α : Type} {d : Kd α} {e : Nat} {W : World} {base : Nat} {ok : Nat → Prop} {A : Option Addr} {n c : Nat} {xs : List α} (h : Kd.R d e W base ok (.slice A n c) xs) :
    lT (d.M W base (fun k => ok k ∧ some k ≠ (Value.slice A n c).ownBlock)) d.sz W A n xs := by
  obtain ⟨_, inner, ho, hr⟩ := h
  obtain ⟨A', c', he, hR⟩ := Ij ho hr rfl
  injection he with h1 h2 h3
  subst h1; subst h2
  exact hR
theorem Kd.MN {α : Type} {d : Kd α} {e : Nat} {W : World} {base g : Nat} {ok : Nat → Prop} {v : Value} {xs : List α} (h : Kd.V d e W base ok v xs) (hok : ∀ k, ok k → k ≠ g) (hn : 0 < xs.length := by first | omega | (simp_all; omega)) (hs : 0 < d.sz := by decide) : some g ≠ v.ownBlock := by
  obtain ⟨A, c, rfl, _, hF⟩ := h
  rcases A with _ | ad
  · simp [Value.ownBlock]
  · intro he
    have h1 := Kd.F_in hF rfl hn hs
    simp only [Value.ownBlock, Option.some.injEq] at he
    exact hok _ h1 he.symm

theorem Iz {w W : World} {g : Nat} {A : Option Addr} {n : Nat} {xs : List S24} {i : Int} {ad0 : Addr} {Ai : Option Addr} {m ci : Nat} (h : ∀ W_, aH w W_ g none → Kd.C k24 W_ A n xs) (hk : aH w W g none) (h0 : 0 ≤ i) (h1 : i < (n : Int)) (hA : A = some ad0)
    (hx : W.cell? ⟨(ad0.add (i.toNat * 5)).block, (ad0.add (i.toNat * 5)).off + 4, none⟩ = some (.slice Ai m ci)) : ∀ W_, aH w W_ g none → Kd.C k24 W_ Ai (ag xs i).f4.length (ag xs i).f4 := by
  intro W_ hk_
  subst hA
  obtain ⟨ad, A4, c4, e, x0, x1, x2, x3, x4, l0, g0⟩ := gu (h w (aH.refl w g none)) i h0 h1
  have hne := Kd.rU h (by omega) (by decide)
  injection e with e; subst e
  obtain ⟨ad2, A4_, c4_, e2, y0, y1, y2, y3, y4, m0, q0⟩ := gu (h W_ hk_) i h0 h1
  injection e2 with e2; subst e2
  have z1 := nk hk x4 (by first | (rw [add_block]; exact hne) | (show (Addr.add _ _).block ≠ _; rw [add_block]; exact hne) | exact hne)
  have z2 := nk hk_ x4 (by first | (rw [add_block]; exact hne) | (show (Addr.add _ _).block ≠ _; rw [add_block]; exact hne) | exact hne)
  have z3 := Option.some.inj (z1.symm.trans hx)
  have z4 := Option.some.inj (z2.symm.trans y4)
  injection z3 with a1 _ _
  injection z4 with b1 _ _
  rw [← a1, b1]
  exact q0

theorem bl_ {p : Prop} (h : p := by repeat (first | (with_reducible first | exact HB.out | apply jY | apply iF | apply eX | refine jv ?_ (aa.out (by assumption)) | refine jv ?_ (bC.ge (aa.out (by assumption)))) | exact HB.out)) : p := h
theorem si_ {p : Prop} (h : p := by repeat (first | (with_reducible first | exact (aa.out (by assumption)) | apply bC.alloc | apply bC.drewN | apply bC.drew | apply bC.set_1 | apply bC.set_2 | refine bC.far ?_ (aa.out (by assumption)) _) | exact (aa.out (by assumption)))) : p := h
theorem bk_ {p : Prop} (h : p := by (with_reducible repeat (first | refine Av ?_ _ | refine dz ?_ | refine eU ?_ _)); exact (aa.out (by assumption))) : p := h
theorem pR_ {p q : Prop} (h : p) (k : p → q := by intro h_; (with_reducible repeat (first | apply Kd.R_alloc | apply Kd.Oy | apply Kd.oQ)); exact h_) : q := k h
theorem pN_ {p q : Prop} (h : p) (k : p → q := by intro h_; (with_reducible repeat (first | apply Kd.OD | apply Kd.N_drewN | apply Kd.Iy)); exact h_) : q := k h
theorem pV_ {p q : Prop} (h : p) (k : p → q := by intro h_; (with_reducible repeat (first | apply Kd.V_alloc | apply Kd.V_drewN | apply Kd.Ez)); exact h_) : q := k h
theorem re_ {p : Prop} (h : p := by first | rfl | (simp [AA, AB] <;> rfl) | (simp [*, AA, AB] <;> rfl)) : p := h
theorem rs_ {p : Prop} (h : p := by first | rfl | (simp; done) | (simp [*]; done)) : p := h
theorem dt_ {p : Prop} [Decidable p] (h : decide p = true := by first | (with_reducible assumption) | assumption) : p := of_decide_eq_true h
theorem dS {W : World} {g : Nat} {a_ b_ : Value} {t : TypeId} (h : W.heap[g]? = some (.cells #[a_, b_] t (0, 0))) : W.cell? ⟨g, 0, none⟩ = some a_ ∧ W.cell? ⟨g, 1, none⟩ = some b_ ∧ W.frozen? ⟨g, 0, none⟩ = false ∧ W.frozen? ⟨g, 1, none⟩ = false :=
  ⟨(bH h 0).trans rfl, (bH h 1).trans rfl, fF h 0, fF h 1⟩
theorem za {W : World} {g : Nat} {a_ b_ c_ : Value} {t : TypeId} (h : W.heap[g]? = some (.cells #[a_, b_, c_] t (0, 0))) : W.cell? ⟨g, 0, none⟩ = some a_ ∧ W.cell? ⟨g, 1, none⟩ = some b_ ∧ W.cell? ⟨g, 2, none⟩ = some c_ ∧ W.frozen? ⟨g, 0, none⟩ = false ∧ W.frozen? ⟨g, 1, none⟩ = false ∧ W.frozen? ⟨g, 2, none⟩ = false :=
  ⟨(bH h 0).trans rfl, (bH h 1).trans rfl, (bH h 2).trans rfl, fF h 0, fF h 1, fF h 2⟩
theorem bE {W : World} {g : Nat} {a_ b_ c_ d_ e_ : Value} {t : TypeId} (h : W.heap[g]? = some (.cells #[a_, b_, c_, d_, e_] t (0, 0))) : W.cell? ⟨g, 0, none⟩ = some a_ ∧ W.cell? ⟨g, 1, none⟩ = some b_ ∧ W.cell? ⟨g, 2, none⟩ = some c_ ∧ W.cell? ⟨g, 3, none⟩ = some d_ ∧ W.cell? ⟨g, 4, none⟩ = some e_ ∧ W.frozen? ⟨g, 0, none⟩ = false ∧ W.frozen? ⟨g, 1, none⟩ = false ∧ W.frozen? ⟨g, 2, none⟩ = false ∧ W.frozen? ⟨g, 3, none⟩ = false ∧ W.frozen? ⟨g, 4, none⟩ = false :=
  ⟨(bH h 0).trans rfl, (bH h 1).trans rfl, (bH h 2).trans rfl, (bH h 3).trans rfl, (bH h 4).trans rfl, fF h 0, fF h 1, fF h 2, fF h 3, fF h 4⟩
def bm (n b : Nat) : Array Bool := ((List.range n).map fun i => b.testBit i).toArray
theorem pu_ {P : Program} {ops : Array Oper} {Q : Exit → Act → World → Prop} {md : Region.Mode} {S : World → Prop} {ds : List Nat} {T : Bool × List (List Nat × List Nat)} {oi : Oper} {v : Value} {fuel : Nat} {l : Array Bool} {a a' : Act} {w : World} (hT : aa (jX md ops = T)) (i n : Nat) (l' : Array Bool) (h : fQ P md ops Q S ds fuel l' a' w)
    (hi : ops[i]? = some oi := by exact rfl) (hN : oi.dst = some n := by exact rfl) (hc : anyT T l.toList l'.toList i = true := by kernel_rfl) (hQ : ∀ c a w, Q (.panic c) (a.put oi.dst v) w → Q (.panic c) a w := by exact fun _ _ _ h => h) (hw : Region.wanted oi (yielded ops a.tmps) = true := by exact rfl)
    (hy : ∀ w, (execOp a.eval oi).run P w = .ok (.value v) w := by intro w'; go_simp; with_reducible rfl) (ha : a.put (some n) v = a' := by simp only [Act.put, List.setIfInBounds_toArray, List.set_cons_zero, List.set_cons_succ, gM, iE]; rfl) : fQ P md ops Q S ds (fuel + 1) l a w := pure_ l' hi hN (any_of hT.out hc) hQ (Or.inl ⟨hw, hy⟩) ha h
theorem pf_ {P : Program} {ops : Array Oper} {Q : Exit → Act → World → Prop} {md : Region.Mode} {S : World → Prop} {ds : List Nat} {T : Bool × List (List Nat × List Nat)} {oi : Oper} {fuel : Nat} {l : Array Bool} {a a' : Act} {w : World} (hT : aa (jX md ops = T)) (i n : Nat) (l' : Array Bool) (h : fQ P md ops Q S ds fuel l' a' w)
    (hi : ops[i]? = some oi := by exact rfl) (hN : oi.dst = some n := by exact rfl) (hc : anyT T l.toList l'.toList i = true := by kernel_rfl) (hQ : ∀ c a w, Q (.panic c) (a.put oi.dst undef) w → Q (.panic c) a w := by exact fun _ _ _ h => h) (hw : Region.wanted oi (yielded ops a.tmps) = false := by exact rfl)
    (ha : a.put (some n) undef = a' := by simp only [Act.put, List.setIfInBounds_toArray, List.set_cons_zero, List.set_cons_succ, gM, iE]; rfl) : fQ P md ops Q S ds (fuel + 1) l a w := pure_ l' hi hN (any_of hT.out hc) hQ (Or.inr ⟨hw, rfl⟩) ha h
theorem ta_ {P : Program} {ops : Array Oper} {Q : Exit → Act → World → Prop} {md : Region.Mode} {S : World → Prop} {ds B : List Nat} {T : Bool × List (List Nat × List Nat)} {oi : Oper} {v : Value} {fuel : Nat} {l : Array Bool} {a a' : Act} {w : World} (hT : aa (jX md ops = T)) (hB : aa (jK T.2 B = true)) (i n : Nat) (l' : Array Bool) (hS : S w)
    (h : fQ P md ops Q S ds fuel l' a' w)
    (hi : ops[i]? = some oi := by exact rfl) (hN : oi.dst = some n := by exact rfl) (hc : takeW T B ds l.toList l'.toList i = true := by kernel_rfl) (hQ : ∀ c a w, Q (.panic c) (a.put oi.dst v) w → Q (.panic c) a w := by exact fun _ _ _ h => h) (hw : Region.wanted oi (yielded ops a.tmps) = true := by exact rfl)
    (hy : ∀ w, S w → (execOp a.eval oi).run P w = .ok (.value v) w := by intro w' hs_; (repeat (obtain ⟨_, hs_⟩ := hs_)); go_simp; with_reducible rfl)
    (ha : a.put (some n) v = a' := by simp only [Act.put, List.setIfInBounds_toArray, List.set_cons_zero, List.set_cons_succ, gM, iE]; rfl) : fQ P md ops Q S ds (fuel + 1) l a w := Jm l' hi hN (LM hT.out hB.out hc) hQ (Or.inl ⟨hw, hy⟩) hS ha h
theorem kb_ {w W w1 : World} {g : Nat} {o : Obj} (h : aa (w.heap[g]? = some o)) (hb : Below W.heap.size W w1) (k : w.heap[g]? = some o → W.heap[g]? = some o := by intro h_; (with_reducible repeat (first | refine Av ?_ _ | refine dz ?_ | refine eU ?_ _)); exact h_) : aa (w1.heap[g]? = some o) := ⟨gW (k h.out) hb⟩
theorem nl_ {w W : World} {g g2 : Nat} {o : Obj} (h : aa (w.heap[g]? = some o)) (hg : g2 = W.heap.size) (k : w.heap[g]? = some o → W.heap[g]? = some o := by intro h_; (with_reducible repeat (first | refine Av ?_ _ | refine dz ?_ | refine eU ?_ _)); exact h_) : aa (g ≠ g2) := ⟨by rw [hg]; exact Nat.ne_of_lt (kE (k h.out))⟩
theorem ng_ {w W : World} {g g2 : Nat} {o : Obj} (h : aa (w.heap[g]? = some o)) (hg : g2 = W.heap.size) (k : w.heap[g]? = some o → W.heap[g]? = some o := by intro h_; (with_reducible repeat (first | refine Av ?_ _ | refine dz ?_ | refine eU ?_ _)); exact h_) : aa (g2 ≠ g) := ⟨by rw [hg]; exact Nat.ne_of_gt (kE (k h.out))⟩
theorem hc_ {w W : World} {a : Addr} {v : Value} (hb : aa (Below w.heap.size w W)) (h : w.cell? a = some v) : W.cell? a = some v := (hb.out.cell (World.block_lt_of_cell? w _ h)).trans h
theorem cb_ {p q : Prop} (h : p) (k : p → q := by intro h_; repeat (first | exact h_ | (with_reducible refine Kd.C_alloc ?_ _) | (with_reducible refine Kd.C_drewN ?_ _) | (with_reducible refine Kd.C_drew ?_))) : q := k h
theorem mp_ {p : Prop} (h : p := by (try simp only [List.map_toArray, List.map_cons, List.map_nil]); first | done | rfl | (simp only [List.length_drop, List.length_take]; rfl)) : p := h
theorem z0_ : ((0 : Int)).toNat = 0 := rfl
theorem kp_ {w W : World} {g : Nat} {row : Option Nat} (h : aH w W g row := by repeat (first | (with_reducible first | exact HK.out | apply aH.set_ | apply Gp | apply uU | apply X4 | refine iD ?_ (aa.out (by assumption)) _) | exact HK.out)) : aH w W g row := h
theorem p5_ {w : World} {g : Nat} {t : TypeId} {a b c d e v0 v1 v2 v3 v4 : Value} (h : w.heap[g]? = some (.cells #[a, b, c, d, e] t (0, 0))) : (((((w.setCell ⟨g, 0, none⟩ v0).setCell ⟨g, 1, none⟩ v1).setCell ⟨g, 2, none⟩ v2).setCell ⟨g, 3, none⟩ v3).setCell ⟨g, 4, none⟩ v4).heap[g]? = some (.cells #[v0, v1, v2, v3, v4] t (0, 0)) :=
  eP (eP (eP (eP (eP h 0 v0 rfl) 1 v1 rfl) 2 v2 rfl) 3 v3 rfl) 4 v4 rfl
theorem p3_ {w : World} {g : Nat} {t : TypeId} {a b c v0 v1 v2 : Value} (h : w.heap[g]? = some (.cells #[a, b, c] t (0, 0))) : (((w.setCell ⟨g, 0, none⟩ v0).setCell ⟨g, 1, none⟩ v1).setCell ⟨g, 2, none⟩ v2).heap[g]? = some (.cells #[v0, v1, v2] t (0, 0)) :=
  eP (eP (eP h 0 v0 rfl) 1 v1 rfl) 2 v2 rfl
theorem p2_ {w : World} {g : Nat} {t : TypeId} {a b v0 v1 : Value} (h : w.heap[g]? = some (.cells #[a, b] t (0, 0))) : ((w.setCell ⟨g, 0, none⟩ v0).setCell ⟨g, 1, none⟩ v1).heap[g]? = some (.cells #[v0, v1] t (0, 0)) :=
  eP (eP h 0 v0 rfl) 1 v1 rfl
theorem b5_ {p : Prop} (h : p := by (with_reducible repeat (first | refine Av ?_ _ | refine dz ?_ | refine eU ?_ _ | apply p5_ | apply p3_ | apply p2_ | refine bP ?_ (aa.out (by assumption)) _)); exact (aa.out (by assumption))) : p := h
theorem bq_ {α : Type} [BEq α] [LawfulBEq α] {a b : α} (h : a = b) : (a == b) = true ∧ (a != b) = false := ⟨beq_iff_eq.mpr h, bne_eq_false_iff_eq.mpr h⟩
theorem bn_ {α : Type} [BEq α] [LawfulBEq α] {a b : α} (h : ¬ a = b) : (a == b) = false ∧ (a != b) = true := ⟨beq_eq_false_iff_ne.mpr h, bne_iff_ne.mpr h⟩
theorem mo_ {p : Prop} (h : p := by repeat' first | (with_reducible exact LeO.refl _) | (with_reducible exact LeO.none _) | (with_reducible apply m0) | (with_reducible apply m1) | (with_reducible apply m2) | (with_reducible apply m3) | (with_reducible apply m4) | (with_reducible apply m5) | (with_reducible apply m6) | (with_reducible apply m7) | (with_reducible apply m8) | (with_reducible apply m9) | (with_reducible apply ih0) | (with_reducible apply ih1) | (with_reducible apply ih2) | (with_reducible apply ih3) | (with_reducible apply ih4) | (with_reducible apply ih5) | (with_reducible apply ih6) | (with_reducible refine LeO.ite ?_ ?_) | (with_reducible refine LeO.bind ?_ (fun _ => ?_)) | exact LeO.none _ | apply m0 | apply ih0 | apply ih1 | apply ih2 | apply ih3 | apply ih4 | refine LeO.ite ?_ ?_ | refine LeO.bind ?_ (fun _ => ?_)) : p := h
theorem ys_ {α β : Type} {e : α} {f : α → Option β} {r : β} (h : (some e).bind f = some r) : ∃ y, y = e ∧ f y = some r := ⟨e, rfl, h⟩
theorem bx_ {P : Program} {ops : Array Oper} {o : Oper} {rest : List Oper} {a : Act} {Q : Exit → Act → World → Prop} {W w : World} {N : Tmp} (cs : Array Value) (t : TypeId)
    (h : ∀ g, g = W.heap.size → ∀ w1, aa (w1.heap[g]? = some (.cells cs t (0, 0))) → aa (w.heap.size ≤ g) → aa (Below w.heap.size w w1) → Below W.heap.size W w1 → wpList P ops Q rest (a.put o.dst (.pointer (some ⟨g, 0, none⟩))) w1)
    (hB : Below w.heap.size w W := by repeat (first | (with_reducible first | exact HB.out | apply jY | apply iF | apply eX | refine jv ?_ (aa.out (by assumption)) | refine jv ?_ (bC.ge (aa.out (by assumption)))) | exact HB.out))
    (hgd : o.guard = none := by rfl) (hd : o.dst = some N := by rfl)
    (hrun : (execOp a.eval o).run P W = .ok (.value (.pointer (some ⟨W.heap.size, 0, none⟩))) (W.alloc (.cells cs t (0, 0))) := by first | (go_simp; done) | (go_simp; rfl)) : wpList P ops Q (o :: rest) a W :=
  oU hgd hd hrun fun g hg w1 hb hw => h g hg w1 ⟨hb⟩ ⟨by rw [hg]; exact aI hB⟩ ⟨ax hB hw⟩ hw
theorem gl_ {P : Program} {ops : Array Oper} {Q : Exit → Act → World → Prop} {rest : List Oper} {oi : Oper} {a : Act} {w : World} (N : Option Tmp) {f : FuncId} {fn : Func} {az : Array Operand} {ts : Array TypeId} (hf : P.funcs[f]? = some fn) (args : Array Value)
    (h : Calls P f args w fun e w' => ∃ v, e = .returned v ∧ wpList P ops Q rest (a.put N v) w')
    (hd : oi.dst = N := by rfl) (hg : oi.guard = none := by rfl) (hname : (fn.name == "runtime.NumGoroutine") = false := by kernel_rfl) (hb : fn.body.isSome = true := by rfl)
    (hop : oi.op = .call { callee := .value (.func f), args := az, argTypes := ts } := by rfl) (hargs : az.map a.eval = args := by (try simp only [List.map_toArray, List.map_cons, List.map_nil]); first | done | rfl | (simp only [List.length_drop, List.length_take]; rfl)) : wpList P ops Q (oi :: rest) a w :=
  CE N hd hg hf hname hb args hop hargs h
theorem ci_ {w : World} {g i : Nat} {cs : Array Value} {t : TypeId} {v : Value} (h : aa (w.heap[g]? = some (.cells cs t (0, 0)))) (e : cs[i]? = some v := by rfl) : w.cell? ⟨g, i, none⟩ = some v := (bH h.out i).trans e
abbrev t5_ (a b c d : Int) (A : Option Addr) (n e : Nat) : Array Value := #[.int .i64 a, .int .i64 b, .int .i64 c, .int .i64 d, .slice A n e]
abbrev t2_ (a : Int) (A : Option Addr) (n e : Nat) : Array Value := #[.int .i64 a, .slice A n e]
end Go.Proofs.YtggelekooacmnaaDoor.Q
-- a region that draws its order, by what holds whatever has been listed
namespace Go.Proofs.YtggelekooacmnaaDoor.Q
open Go.RowKit
section
variable {P : Program} {ops : Array Oper} {Q : Exit → Act → World → Prop} {md : Region.Mode}
/-- how many of the first n are still to come -/
def unl (listed : Array Bool) : Nat → Nat
  | 0 => 0
  | n + 1 => unl listed n + if listed.getD n false then 0 else 1
theorem RJ {listed : Array Bool} : ∀ {n : Nat}, unl listed n = 0 → ∀ i, i < n → listed.getD i false = true
  | 0, _, i, hi => by omega
  | n + 1, h, i, hi => by
    simp only [unl] at h
    by_cases hn : listed.getD n false = true
    · by_cases e : i = n
      · rw [e]; exact hn
      · exact RJ (n := n) (by omega) i (by omega)
    · rw [if_neg hn] at h; omega
theorem ld {listed : Array Bool} {i j : Nat} (hi : i < listed.size) : (listed.setIfInBounds i true).getD j false = if i = j then true else listed.getD j false := by
  by_cases e : i = j
  · subst e
    rw [if_pos rfl, Array.getD_eq_getD_getElem?, Array.getElem?_setIfInBounds, if_pos rfl, if_pos hi]; rfl
  · rw [if_neg e, Array.getD_eq_getD_getElem?, Array.getD_eq_getD_getElem?, Array.getElem?_setIfInBounds, if_neg e]
theorem Ub {listed : Array Bool} {i : Nat} (hi : i < listed.size) (hf : listed.getD i false = false) : ∀ n, unl (listed.setIfInBounds i true) n + (if i < n then 1 else 0) = unl listed n
  | 0 => by simp [unl]
  | n + 1 => by
    have ih := Ub hi hf n
    simp only [unl, ld hi]
    by_cases e : i = n
    · subst e
      rw [if_neg (by omega)] at ih
      rw [if_pos rfl, if_pos rfl, if_pos (show i < i + 1 by omega), if_neg (show ¬ listed.getD i false = true by rw [hf]; simp)]
      omega
    · rw [if_neg e]
      by_cases h : i < n
      · rw [if_pos h] at ih; rw [if_pos (show i < n + 1 by omega)]; omega
      · rw [if_neg h] at ih; rw [if_neg (show ¬ i < n + 1 by omega)]; omega
theorem Gu {listed : Array Bool} {i : Nat} (h : i ∈ Region.ready md ops listed) : listed.getD i true = false ∧ ∃ o, ops[i]? = some o ∧ ∀ e ∈ o.after, Region.binds md e = true → listed.getD e.on false = true := by
  unfold Region.ready at h
  simp only [List.mem_filter, Bool.and_eq_true, Bool.not_eq_true'] at h
  refine ⟨h.2.1, ?_⟩
  cases ho : ops[i]? with
  | none => rw [ho] at h; simp at h
  | some o =>
    rw [ho] at h
    refine ⟨o, rfl, fun e he hb => ?_⟩
    have := h.2.2
    simp only [Option.map_some, Option.getD_some, Array.all_eq_true_iff_forall_mem, Bool.or_eq_true, Bool.not_eq_true'] at this
    rcases this e he with h1 | h1
    · rw [hb] at h1; cases h1
    · exact h1
theorem Uc {listed : Array Bool} {i : Nat} (h : listed.getD i true = false) : i < listed.size ∧ listed.getD i false = false := by
  rw [Array.getD_eq_getD_getElem?] at h ⊢
  cases hl : listed[i]? with
  | none => rw [hl] at h; simp at h
  | some b => rw [hl] at h; exact ⟨(Array.getElem?_eq_some_iff.1 hl).1, by simpa using h⟩
/-- each operation waits for elder ones alone -/
def elder (ops : Array Oper) (n : Nat) : Bool := (List.range n).all fun i => match ops[i]? with | some o => o.after.all fun e => !Region.binds .any e || decide (e.on < i) | none => false
theorem Ye {listed : Array Bool} {n : Nat} (hs : listed.size = ops.size) (he : elder ops n = true) (h : 0 < unl listed n) : Region.ready .any ops listed ≠ [] := by
  have key : ∀ i, i < n → listed.getD i false = false → ∃ j, j ∈ Region.ready .any ops listed := by
    intro i
    induction i using Nat.strongRecOn with
    | _ i ih =>
      intro hi hf
      have h1 := he
      unfold elder at h1
      rw [List.all_eq_true] at h1
      have h2 := h1 i (List.mem_range.2 hi)
      cases ho : ops[i]? with
      | none => rw [ho] at h2; simp at h2
      | some o =>
        rw [ho] at h2
        simp only [Array.all_eq_true_iff_forall_mem, Bool.or_eq_true, Bool.not_eq_true', decide_eq_true_eq] at h2
        by_cases hall : ∀ e ∈ o.after, Region.binds .any e = true → listed.getD e.on false = true
        · refine ⟨i, ?_⟩
          have hlt : i < ops.size := (Array.getElem?_eq_some_iff.1 ho).1
          unfold Region.ready
          simp only [List.mem_filter, Bool.and_eq_true, Bool.not_eq_true', List.mem_range]
          refine ⟨hlt, ?_, ?_⟩
          · rw [Array.getD_eq_getD_getElem?] at hf ⊢
            have : i < listed.size := by omega
            rw [Array.getElem?_eq_getElem this] at hf ⊢
            simpa using hf
          · rw [ho]
            simp only [Option.map_some, Option.getD_some, Array.all_eq_true_iff_forall_mem, Bool.or_eq_true, Bool.not_eq_true']
            intro e hm
            by_cases hb : Region.binds .any e = true
            · exact .inr (hall e hm hb)
            · exact .inl (by simpa using hb)
        · have : ∃ e ∈ o.after, Region.binds .any e = true ∧ ¬ listed.getD e.on false = true := by
            apply Classical.byContradiction
            intro hn
            exact hall fun e hm hb => Classical.byContradiction fun h3 => hn ⟨e, hm, hb, h3⟩
          obtain ⟨e, hm, hb, h3⟩ := this
          rcases h2 e hm with h4 | h4
          · rw [hb] at h4; cases h4
          · exact ih e.on h4 (by omega) (by simpa using h3)
  have : ∃ i, i < n ∧ listed.getD i false = false := by
    apply Classical.byContradiction
    intro hn
    have : ∀ m, m ≤ n → unl listed m = 0 := by
      intro m
      induction m with
      | zero => intro _; rfl
      | succ m ih =>
        intro hm
        simp only [unl, ih (by omega)]
        have : listed.getD m false = true := Classical.byContradiction fun h => hn ⟨m, by omega, by simpa using h⟩
        rw [if_pos this]
    have := this n (Nat.le_refl _)
    omega
  obtain ⟨i, hi, hf⟩ := this
  obtain ⟨j, hj⟩ := key i hi hf
  intro e
  rw [e] at hj; cases hj
/-- THE RULE: J holds whatever has been listed of the first n; behind them the rest. -/
theorem Yy (J : Array Bool → Act → World → Prop) (n f : Nat) (he : elder ops n = true)
    (hsz : ∀ listed a w, J listed a w → listed.size = ops.size)
    (hstep : ∀ listed a w, J listed a w → 0 < unl listed n → ∀ i ∈ Region.ready .any ops listed, i < n ∧ wpOp P ops Q i (J (listed.setIfInBounds i true)) a w)
    (hend : ∀ listed a w, J listed a w → (∀ i, i < n → listed.getD i false = true) → wpAny P .any ops Q f listed a w) :
    ∀ k listed a w, unl listed n = k → J listed a w → wpAny P .any ops Q (k + f) listed a w := by
  intro k
  induction k with
  | zero => intro listed a w hk hJ; rw [Nat.zero_add]; exact hend listed a w hJ (RJ hk)
  | succ k ih =>
    intro listed a w hk hJ
    rw [show k + 1 + f = (k + f) + 1 from by omega]
    refine ⟨fun hr => absurd hr (Ye (hsz _ _ _ hJ) he (by omega)), fun i hi => ?_⟩
    obtain ⟨hin, hw⟩ := hstep listed a w hJ (by omega) i hi
    obtain ⟨h1, h2⟩ := Uc (Gu hi).1
    have := Ub h1 h2 n
    rw [if_pos hin] at this
    exact wpOp_mono (fun a' w' hJ' => ih _ a' w' (by omega) hJ') hw
/-- an operation's place -/
theorem BR {i : Nat} {o : Oper} {K : Act → World → Prop} {a : Act} {w : World} (ho : ops[i]? = some o) (h : if Region.wanted o (yielded ops a.tmps) = true then o.wp P a w K Q else K (a.put o.dst undef) w) : wpOp P ops Q i K a w := by
  unfold wpOp
  rw [ho]
  dsimp only
  by_cases hw : Region.wanted o (yielded ops a.tmps) = true
  · rw [if_pos hw] at h ⊢; exact .inl h
  · rw [if_neg hw] at h ⊢; exact h
theorem pt {a : Act} {d N : Nat} {v : Value} (hd : d < a.tmps.size) : (a.put (some d) v).tmps[N]? = if d = N then some v else a.tmps[N]? := by
  show (a.tmps.setIfInBounds d v)[N]? = _
  rw [Array.getElem?_setIfInBounds]
  by_cases e : d = N
  · rw [if_pos e, if_pos e, if_pos hd]
  · rw [if_neg e, if_neg e]
theorem Ju {a : Act} {d : Nat} {v : Value} : (a.put (some d) v).tmps.size = a.tmps.size := by
  show (a.tmps.setIfInBounds d v).size = _
  simp
theorem MO {a : Act} {d : Option Nat} {v : Value} : (a.put d v).defers = a.defers := by cases d <;> rfl
theorem EB {a : Act} {N : Nat} {v : Value} (h : a.tmps[N]? = some v) : a.eval (.tmp N) = v := by
  show a.tmps.getD N undef = v
  rw [Array.getD_eq_getD_getElem?, h]; rfl
/-- an act, told place by place -/
theorem act_ext {a b : Act} (hd : a.defers = b.defers) (h : ∀ N : Nat, a.tmps[N]? = b.tmps[N]?) : a = b := by
  obtain ⟨t, d⟩ := a
  obtain ⟨t', d'⟩ := b
  have h1 : d = d' := hd
  have h2 : t = t' := Array.ext_getElem? h
  rw [h1, h2]
end
end Go.Proofs.YtggelekooacmnaaDoor.Q
namespace Go.Proofs.YtggelekooacmnaaDoor.Q
open Go.RowKit Go.Proofs.YtggelekooacmnaaDoorW.aJ Go.Proofs.YtggelekooacmnaaDoorW.bu Go.Proofs.YtggelekooacmnaaDoorW.bB
attribute [local go_sem] cZ dh dO dP bX bY dm dn   -- for this text's walks alone
set_option linter.unusedVariables false
set_option linter.unusedSimpArgs false

/-- A state of type 63 at block g of W; what its slices lead to came in by w0. -/
def bC (w0 W : World) (g : Nat) (f0 : List Int) (f1 f2 : Int) : Prop := ∃ A0 c0, W.heap[g]? = some (.cells #[.slice A0 f0.length c0, .int .i64 f1, .int .i64 f2] 63 (0, 0)) ∧ w0.heap.size ≤ g ∧ Kd.C (Kd.int .i64) w0 A0 f0.length f0
theorem bC.grown {w0 W : World} {g : Nat} {f0 : List Int} {f1 : Int} {f2 : Int} {W1 : World} {row : Option Nat} (h : bC w0 W g f0 f1 f2) (hw : W.grownBy W1 row) (hne : some g ≠ row) : bC w0 W1 g f0 f1 f2 := by
 obtain ⟨A0, c0, hb, hg, hr0⟩ := h; exact ⟨A0, c0, eF hb hw hne, hg, hr0⟩
theorem bC.OE {w0 W : World} {g : Nat} {f0 : List Int} {f1 : Int} {f2 : Int} {α : Type} {d : Kd α} {e : Nat} {base : Nat} {ok : Nat → Prop} {v : Value} {xs : List α} (h : bC w0 W g f0 f1 f2) (ho : Kd.N d e W base ok v xs) (ht : e ≠ 63) : some g ≠ v.ownBlock := by
 obtain ⟨A0, c0, hb, hg, hr0⟩ := h; exact Kd.N_ne ho hb ht
theorem bC.fresh {w0 W : World} {g : Nat} {f0 : List Int} {f1 : Int} {f2 : Int} (h : bC w0 W g f0 f1 f2) : ∀ k, W.heap.size ≤ k → k ≠ g := by
 obtain ⟨A0, c0, hb, hg, hr0⟩ := h; exact Kd.fo hb
theorem bC.below {w0 W : World} {g : Nat} {f0 : List Int} {f1 : Int} {f2 : Int} {W1 : World} (h : bC w0 W g f0 f1 f2) (hw : Below W.heap.size W W1) : bC w0 W1 g f0 f1 f2 := h.grown (Ep hw none) (by simp)
theorem bC.alloc {w0 W : World} {g : Nat} {f0 : List Int} {f1 : Int} {f2 : Int} (h : bC w0 W g f0 f1 f2) (o : Obj) : bC w0 (W.alloc o) g f0 f1 f2 := h.below (jY (Below.refl _ _) o)
theorem bC.drewN {w0 W : World} {g : Nat} {f0 : List Int} {f1 : Int} {f2 : Int} (h : bC w0 W g f0 f1 f2) (m : Nat) : bC w0 (W.drewN m) g f0 f1 f2 := h
theorem bC.drew {w0 W : World} {g : Nat} {f0 : List Int} {f1 : Int} {f2 : Int} (h : bC w0 W g f0 f1 f2) : bC w0 W.drew g f0 f1 f2 := h
theorem bC.apart {w0 W : World} {g : Nat} {f0 : List Int} {f1 : Int} {f2 : Int} {α : Type} {d : Kd α} {e : Nat} {base : Nat} {ok : Nat → Prop} {v : Value} {xs : List α} (h : bC w0 W g f0 f1 f2) (ho : d.R e W base ok v xs) (ht : ∀ q, q ∈ e :: d.E → q ≠ 63) : d.R e W base (fun k => ok k ∧ k ≠ g) v xs := by
 obtain ⟨A0, c0, hb, hg, hr0⟩ := h; exact Kd.ko ho hb ht
theorem bC.own_ne {w0 W : World} {g : Nat} {f0 : List Int} {f1 : Int} {f2 : Int} {α : Type} {d : Kd α} {e : Nat} {base : Nat} {ok : Nat → Prop} {v : Value} {xs : List α} (h : bC w0 W g f0 f1 f2) (ho : d.R e W base ok v xs) (ht : e ≠ 63) : some g ≠ v.ownBlock := by
 obtain ⟨A0, c0, hb, hg, hr0⟩ := h; exact Kd.nY ho hb ht
theorem bC.lt {w0 W : World} {g : Nat} {f0 : List Int} {f1 : Int} {f2 : Int} (h : bC w0 W g f0 f1 f2) : g < W.heap.size := by
 obtain ⟨A0, c0, hb, hg, hr0⟩ := h; exact kE hb
theorem bC.ge {w0 W : World} {g : Nat} {f0 : List Int} {f1 : Int} {f2 : Int} (h : bC w0 W g f0 f1 f2) : w0.heap.size ≤ g := by
 obtain ⟨A0, c0, hb, hg, hr0⟩ := h; exact hg
theorem bC.far {w0 W : World} {g : Nat} {f0 : List Int} {f1 : Int} {f2 : Int} {p : Addr} (h : bC w0 W g f0 f1 f2) (hne : g ≠ p.block) (u : Value) : bC w0 (W.setCell p u) g f0 f1 f2 := by
 obtain ⟨A0, c0, hb, hg, hr0⟩ := h; exact ⟨A0, c0, bP hb hne u, hg, hr0⟩
theorem QR {W : World} {g : Nat} {A0 : Option Addr} {c0 : Nat} {f0 : List Int} {f1 : Int} {f2 : Int} (h : W.heap[g]? = some (.cells #[.slice A0 f0.length c0, .int .i64 f1, .int .i64 f2] 63 (0, 0))) : W.cell? ⟨g, 0, none⟩ = some (.slice A0 f0.length c0) := (bH h 0).trans rfl
theorem QS {W : World} {g : Nat} {A0 : Option Addr} {c0 : Nat} {f0 : List Int} {f1 : Int} {f2 : Int} (h : W.heap[g]? = some (.cells #[.slice A0 f0.length c0, .int .i64 f1, .int .i64 f2] 63 (0, 0))) : W.cell? ⟨g, 1, none⟩ = some (.int .i64 f1) := (bH h 1).trans rfl
theorem bC.set_1 {w0 W : World} {g : Nat} {f0 : List Int} {f1 : Int} {f2 : Int} (h : bC w0 W g f0 f1 f2) (x : Int) : bC w0 (W.setCell ⟨g, 1, none⟩ (.int .i64 x)) g f0 x f2 := by
 obtain ⟨A0, c0, hb, hg, hr0⟩ := h; exact ⟨A0, c0, by simpa using Jn hb 1 (.int .i64 x), hg, hr0⟩
theorem bC.set_2 {w0 W : World} {g : Nat} {f0 : List Int} {f1 : Int} {f2 : Int} (h : bC w0 W g f0 f1 f2) (x : Int) : bC w0 (W.setCell ⟨g, 2, none⟩ (.int .i64 x)) g f0 f1 x := by
 obtain ⟨A0, c0, hb, hg, hr0⟩ := h; exact ⟨A0, c0, by simpa using Jn hb 2 (.int .i64 x), hg, hr0⟩
/-! ### lV: function 14 -/
def lV.f (l0 : List Int) : Option (List Int × Int × Int) := if (l0.length : Int) > 1000 then (if 1000 ≤ (l0.length : Int) then (some (l0.take 1000, 0, 0)) else (none)) else (some (l0, 0, 0))
set_option maxHeartbeats 8000000 in
set_option maxRecDepth 100000 in
theorem lV.calls (A0 : Option Addr) (c0 : Nat) (l0 r1 : List Int) (r2 r3 : Int) (w0 w : World) (hB : Below w0.heap.size w0 w) (hr0 : Kd.C (Kd.int .i64) w0 A0 l0.length l0) (hc0 : l0.length ≤ c0) (h : lV.f l0 = some (r1, r2, r3)) :
  Calls Tryd.prog 14 #[.slice A0 l0.length c0] w fun e w' => ∃ g_ : Nat, e = .returned (.pointer (some ⟨g_, 0, none⟩)) ∧ bC w0 w' g_ r1 r2 r3 ∧ Below w0.heap.size w0 w' ∧ Below w.heap.size w w' := by
 have HR0 := aa.mk hr0; have HC0 := aa.mk hc0; clear hr0 hc0; have HBW := aa.mk (Below.refl w.heap.size w); have HW0 := aa.mk hB.size; have HB := aa.mk hB; clear hB; have H := h; unfold lV.f at H; clear h; by_cases c2 : (l0.length : Int) > 1000
 ·rw [if_pos c2] at H; have uW : decide (1000 < (l0.length : Int)) = true := decide_eq_true c2; clear c2; by_cases c3 : 1000 ≤ (l0.length : Int)
  ·rw [if_pos c3] at H; have mF := decide_eq_true c3; clear c3; simp only [Option.some.injEq, Prod.mk.injEq] at H; obtain ⟨rfl, rfl, rfl⟩ := H; obtain ⟨i04, hi04, _, hsz4, _⟩ := info_parts info3; obtain ⟨hcut4, hA4, _⟩ := AU (P := Tryd.prog) (Value.int .i64) 0 29 3 .i64 Tryd.underlying29 hi04 hsz4 A0 c0 l0 1000 (by omega) (dt_) HC0.out; have HR212 := aa.mk (Kd.Gn (h1 := fun _ => rfl) (hA4 _ (Kd.Bo HR0.out))); clear hA4 hi04 hsz4; go_enter Tryd.func14, Tryd.ntmps14; go_wp2_with (((with_reducible refine aM (N := 10) rfl ?_); refine bx_ (#[.slice A0 (l0.take 1000).length c0, .int .i64 0, .int .i64 0]) 63 ?_; intro gb213 hg w5 BK213 _ HB9 hb; have GE213 := aa.mk ((Nat.le_trans HW0.out (by rw [hg]; exact (aI (by repeat ((with_reducible exact HBW.out)))) : w.heap.size ≤ gb213) : w0.heap.size ≤ gb213)); replace HBW := aa.mk (ax HBW.out hb); replace HB := HB9; clear hb hg))
   go_ret; exact ⟨_, rfl, (show bC w0 _ gb213 (l0.take 1000) 0 0 from ⟨_, _, bk_, GE213.out, HR212.out⟩), bl_, by repeat ((with_reducible exact HBW.out))⟩
  ·rw [if_neg c3] at H; exact absurd H (by simp)
 ·rw [if_neg c2] at H; have uW : decide (1000 < (l0.length : Int)) = false := decide_eq_false c2; clear c2; simp only [Option.some.injEq, Prod.mk.injEq] at H; obtain ⟨rfl, rfl, rfl⟩ := H; go_enter Tryd.func14, Tryd.ntmps14; go_wp2_with (((with_reducible refine aM (N := 10) rfl ?_); refine bx_ (#[.slice A0 l0.length c0, .int .i64 0, .int .i64 0]) 63 ?_; intro gb214 hg w6 BK214 _ HB9 hb; have GE214 := aa.mk ((Nat.le_trans HW0.out (by rw [hg]; exact (aI (by repeat ((with_reducible exact HBW.out)))) : w.heap.size ≤ gb214) : w0.heap.size ≤ gb214)); replace HBW := aa.mk (ax HBW.out hb); replace HB := HB9; clear hb hg))
  go_ret; exact ⟨_, rfl, (show bC w0 _ gb214 l0 0 0 from ⟨_, _, bk_, GE214.out, HR0.out⟩), bl_, by repeat ((with_reducible exact HBW.out))⟩


/-! ### kv: function 43 -/
def kv.f (bV : List Int) (fC gp : Int) : Option (Int × Int × Int) := if fC ≥ (bV.length : Int) then (some (0, fC, gp)) else (if 0 ≤ (wrap64 ((wrap64 (fC + 1)) - 1)) then (if (wrap64 ((wrap64 (fC + 1)) - 1)) < (bV.length : Int) then (some (rd bV (wrap64 ((wrap64 (fC + 1)) - 1)), wrap64 (fC + 1), gp)) else (none)) else (none))
set_option maxHeartbeats 8000000 in
set_option maxRecDepth 100000 in
theorem kv.calls (g : Nat) (bV : List Int) (fC gp r1 r2 r3 : Int) (w0 w : World) (hI : bC w0 w g bV fC gp) (hB : Below w0.heap.size w0 w) (h : kv.f bV fC gp = some (r1, r2, r3)) :
    Calls Tryd.prog 43 #[.pointer (some ⟨g, 0, none⟩)] w fun e w' => e = .returned (.int .i64 r1) ∧ bC w0 w' g bV r2 r3 ∧ Below w0.heap.size w0 w' ∧ aH w w' g none := by
  have HI0 := aa.mk hI; have HK := aa.mk (aH.refl w g none); clear hI; have HB := aa.mk hB; clear hB; have H : (if fC ≥ (bV.length : Int) then (some (0, fC, gp)) else (if 0 ≤ (wrap64 ((wrap64 (fC + 1)) - 1)) then (if (wrap64 ((wrap64 (fC + 1)) - 1)) < (bV.length : Int) then (some (rd bV (wrap64 ((wrap64 (fC + 1)) - 1)), wrap64 (fC + 1), gp)) else (none)) else (none))) = some (r1, r2, r3) := h; clear h; by_cases c2 : fC ≥ (bV.length : Int)
  · rw [if_pos c2] at H
    have uW : decide ((bV.length : Int) ≤ fC) = true := decide_eq_true c2; clear c2; simp only [Option.some.injEq, Prod.mk.injEq] at H; obtain ⟨rfl, rfl, rfl⟩ := H; obtain ⟨ASz3_0, cSz3_0, HGz3, _, _⟩ := HI0.out; have hcz3_0 := QR HGz3; have hcz3_1 := QS HGz3; clear HGz3; go_enter Tryd.func43, Tryd.ntmps43; go_wp2; repeat (go_quiet (fail); try go_wp2)
    go_ret; exact ⟨by rfl, by repeat (with_reducible first | exact HI0.out | apply bC.drewN), by repeat (with_reducible first | exact HB.out | apply iF), by repeat (with_reducible first | exact HK.out | apply Gp)⟩
  · rw [if_neg c2] at H
    have uW : decide ((bV.length : Int) ≤ fC) = false := decide_eq_false c2; clear c2; obtain ⟨ji4, zb⟩ : ∃ j_ : Int, (wrap64 ((wrap64 (fC + 1)) - 1)) = j_ := ⟨_, rfl⟩; replace H : (if 0 ≤ (ji4) then (if (ji4) < (bV.length : Int) then (some (rd bV (ji4), wrap64 (fC + 1), gp)) else (none)) else (none)) = some (r1, r2, r3) := by (rw [zb] at H; exact H)
    have hji4w : (IntKind.i64.wrap ((wrap64 (fC + 1)) - 1)) = ji4 := (gM _).trans zb; by_cases c5 : 0 ≤ (ji4)
    · rw [if_pos c5] at H
      have rH : decide (0 ≤ (ji4)) = true := decide_eq_true c5; clear c5; by_cases c6 : (ji4) < (bV.length : Int)
      · rw [if_pos c6] at H
        have rX : decide ((ji4) < (bV.length : Int)) = true := decide_eq_true c6; clear c6; simp only [Option.some.injEq, Prod.mk.injEq] at H; obtain ⟨rfl, rfl, rfl⟩ := H; obtain ⟨ASz7_0, cSz7_0, HGz7, _, HSz7_0⟩ := HI0.out; have RL := QR HGz7; have hcz7_1 := QS HGz7; have hfz7_1 := fF HGz7 1; clear HGz7; have p215 : 0 ≤ ((ji4) : Int) := of_decide_eq_true (by (with_reducible assumption)); have q215 : (ji4) < (bV.length : Int) := of_decide_eq_true (by (with_reducible assumption)); obtain ⟨ad215, e215, BS⟩ := Kd.gz HSz7_0 (ji4) p215 q215; cases e215; have Ud : ad215.block ≠ g := Nat.ne_of_lt (Nat.lt_of_lt_of_le (by have := World.block_lt_of_cell? _ _ BS; rwa [add_block] at this) (bC.ge HI0.out)); replace BS := kg HB.out BS; replace BS := (cell_far (p := ⟨g, 1, none⟩) (by (rw [add_block]; exact Ud)) (.int .i64 (wrap64 (fC + 1)))).trans BS; (try have hy215_0 := fun (n_ : Nat) => (show (((w.drewN n_).setCell ⟨g, 1, none⟩ (.int .i64 (wrap64 (fC + 1))))).cell? _ = some _ from BS))
        clear Ud; replace p215 := eq_true p215; replace q215 := eq_true q215; go_enter Tryd.func43, Tryd.ntmps43; go_wp2; repeat (go_quiet (fail); try go_wp2)
        all_goals go_ret
        all_goals exact ⟨by rfl, by repeat (with_reducible first | exact HI0.out | apply bC.drewN | apply bC.set_1), by repeat (with_reducible first | exact HB.out | apply iF | refine jv ?_ (bC.ge HI0.out)), by repeat (with_reducible first | exact HK.out | apply aH.set_ | apply Gp)⟩
      · rw [if_neg c6] at H
        exact absurd H (by simp)
    · rw [if_neg c5] at H
      exact absurd H (by simp)


/-! ### bG: function 20 -/
def bG.f (bV : List Int) (fC gp a1 : Int) : Option (Int × Int × Int) := if a1 < 1 then (some (0, fC, gp)) else ((kv.f bV fC gp).bind fun Gv => (if a1 = 0 then (none) else (if (Int.tmod Gv.1 a1) < 0 then (some (wrap64 ((Int.tmod Gv.1 a1) + a1), Gv.2.1, Gv.2.2)) else (some (Int.tmod Gv.1 a1, Gv.2.1, Gv.2.2)))))
set_option maxHeartbeats 8000000 in
set_option maxRecDepth 100000 in
theorem bG.calls (g : Nat) (bV : List Int) (fC gp a1 r1 r2 r3 : Int) (w0 w : World) (hI : bC w0 w g bV fC gp) (hB : Below w0.heap.size w0 w) (h : bG.f bV fC gp a1 = some (r1, r2, r3)) :
  Calls Tryd.prog 20 #[.pointer (some ⟨g, 0, none⟩), .int .i64 a1] w fun e w' => e = .returned (.int .i64 r1) ∧ bC w0 w' g bV r2 r3 ∧ Below w0.heap.size w0 w' ∧ aH w w' g none := by
 have HI0 := aa.mk hI; have HK := aa.mk (aH.refl w g none); clear hI; have HB := aa.mk hB; clear hB; have H := h; unfold bG.f at H; clear h; by_cases c3 : a1 < 1
 ·rw [if_pos c3] at H; have kM := decide_eq_true c3; clear c3; simp only [Option.some.injEq, Prod.mk.injEq] at H; obtain ⟨rfl, rfl, rfl⟩ := H; go_enter Tryd.func20, Tryd.ntmps20; go_wp2; go_ret; exact ⟨re_, si_, bl_, by repeat ((with_reducible exact HK.out))⟩
 ·rw [if_neg c3] at H; have kM := decide_eq_false c3; clear c3; replace H := Option.bind_eq_some_iff.mp H; obtain ⟨⟨t216, t217, t218⟩, A40, H⟩ := H; (try dsimp only at H); have A4 := aa.mk A40; clear A40; by_cases c5 : a1 = 0
  ·rw [if_pos c5] at H; exact absurd H (by simp)
  ·rw [if_neg c5] at H; obtain ⟨_, _⟩ := bn_ c5; by_cases c6 : (Int.tmod t216 a1) < 0
   ·rw [if_pos c6] at H; have rX := decide_eq_true c6; clear c6; simp only [Option.some.injEq, Prod.mk.injEq] at H; obtain ⟨rfl, rfl, rfl⟩ := H; go_enter Tryd.func20, Tryd.ntmps20; go_wp2_with (((with_reducible refine ay (f := 43) rfl ?_); refine gl_ (some 9) Tryd.func43 #[.pointer (some ⟨g, 0, none⟩)] ?_; (with_reducible refine (kv.calls g bV fC gp t216 t217 t218 w0 _ ?au ?av A4.out).mono ?_); (case au => exact si_); (case av => exact bl_); rintro e w7 ⟨rfl, hi, hb, hk⟩; refine ⟨_, rfl, ?_⟩; replace HK := aa.mk (aH.trans (kp_ (w := w)) hk (.inl rfl)); replace HB := aa.mk (hb); replace HI0 := aa.mk (hi)))
    go_ret; exact ⟨re_, si_, bl_, by repeat ((with_reducible exact HK.out))⟩
   ·rw [if_neg c6] at H; have rX := decide_eq_false c6; clear c6; simp only [Option.some.injEq, Prod.mk.injEq] at H; obtain ⟨rfl, rfl, rfl⟩ := H; go_enter Tryd.func20, Tryd.ntmps20; go_wp2_with (((with_reducible refine ay (f := 43) rfl ?_); refine gl_ (some 9) Tryd.func43 #[.pointer (some ⟨g, 0, none⟩)] ?_; (with_reducible refine (kv.calls g bV fC gp t216 t217 t218 w0 _ ?au ?av A4.out).mono ?_); (case au => exact si_); (case av => exact bl_); rintro e w8 ⟨rfl, hi, hb, hk⟩; refine ⟨_, rfl, ?_⟩; replace HK := aa.mk (aH.trans (kp_ (w := w)) hk (.inl rfl)); replace HB := aa.mk (hb); replace HI0 := aa.mk (hi)))
    go_ret; exact ⟨re_, si_, bl_, by repeat ((with_reducible exact HK.out))⟩


/-! ### dC: function 17 -/
def dC.f (bV : List Int) (fC gp a1 a2 : Int) : Option (Int × Int × Int) := (bG.f bV fC gp (wrap64 ((wrap64 (a2 - a1)) + 1))).bind fun Gw => (some (wrap64 (a1 + Gw.1), Gw.2.1, Gw.2.2))
set_option maxHeartbeats 8000000 in
set_option maxRecDepth 100000 in
theorem dC.calls (g : Nat) (bV : List Int) (fC gp a1 a2 r1 r2 r3 : Int) (w0 w : World) (hI : bC w0 w g bV fC gp) (hB : Below w0.heap.size w0 w) (h : dC.f bV fC gp a1 a2 = some (r1, r2, r3)) :
    Calls Tryd.prog 17 #[.pointer (some ⟨g, 0, none⟩), .int .i64 a1, .int .i64 a2] w fun e w' => e = .returned (.int .i64 r1) ∧ bC w0 w' g bV r2 r3 ∧ Below w0.heap.size w0 w' ∧ aH w w' g none := by
  have HI0 := aa.mk hI; have HK := aa.mk (aH.refl w g none); clear hI; have HB := aa.mk hB; clear hB; have H : ((bG.f bV fC gp (wrap64 ((wrap64 (a2 - a1)) + 1))).bind fun Gw => (some (wrap64 (a1 + Gw.1), Gw.2.1, Gw.2.2))) = some (r1, r2, r3) := h; clear h; replace H := Option.bind_eq_some_iff.mp H; obtain ⟨⟨t219, t220, t221⟩, A40, H⟩ := H; replace H : (some (wrap64 (a1 + t219), t220, t221)) = some (r1, r2, r3) := H; have A4 := aa.mk A40; clear A40; simp only [Option.some.injEq, Prod.mk.injEq] at H; obtain ⟨rfl, rfl, rfl⟩ := H; go_enter Tryd.func17, Tryd.ntmps17; go_wp2_with (((with_reducible refine ay (f := 20) rfl ?_); refine CE (some 13) rfl rfl Tryd.func20 (by kernel_rfl) rfl #[.pointer (some ⟨g, 0, none⟩), .int .i64 (wrap64 ((wrap64 (a2 - a1)) + 1))] rfl (by (try simp only [List.map_toArray, List.map_cons, List.map_nil]); rfl) ?_; (with_reducible refine (bG.calls g bV fC gp (wrap64 ((wrap64 (a2 - a1)) + 1)) t219 t220 t221 w0 _ ?au ?av A4.out).mono ?_); (case au => repeat ((with_reducible exact HI0.out))); (case av => repeat ((with_reducible exact HB.out))); rintro e w5 ⟨rfl, hi, hb, hk⟩; refine ⟨_, rfl, ?_⟩; have n0_ := aa.mk (aH.trans (by repeat ((with_reducible exact HK.out))) hk (.inl rfl)); have n1_ := aa.mk (hb); have n2_ := aa.mk (hi); clear HK; clear HB; clear HI0; have HK := n0_; have HB := n1_; have HI0 := n2_; clear n0_ n1_ n2_))
  go_ret; exact ⟨by rfl, by repeat ((with_reducible exact HI0.out)), by repeat ((with_reducible exact HB.out)), by repeat ((with_reducible exact HK.out))⟩


/-! ### dN: function 54 -/
def dN.f (bV : List Int) (fC gp : Int) (l1 : List Int) : Option (Int × Int × Int) := (bG.f bV fC gp (l1.length : Int)).bind fun yo => (if 0 ≤ yo.1 then (if yo.1 < (l1.length : Int) then (some (rd l1 yo.1, yo.2.1, yo.2.2)) else (none)) else (none))
set_option maxHeartbeats 8000000 in
set_option maxRecDepth 100000 in
theorem dN.calls (g : Nat) (bV : List Int) (fC gp : Int) (A1 : Option Addr) (c1 : Nat) (l1 : List Int) (r1 r2 r3 : Int) (w0 w : World) (hI : bC w0 w g bV fC gp) (hB : Below w0.heap.size w0 w) (hr1 : Kd.C (Kd.int .i64) w A1 l1.length l1) (hc1 : l1.length ≤ c1) (hf1 : ∀ ad, A1 = some ad → 0 < l1.length → ad.block ≠ g) (h : dN.f bV fC gp l1 = some (r1, r2, r3)) :
    Calls Tryd.prog 54 #[.pointer (some ⟨g, 0, none⟩), .slice A1 l1.length c1] w fun e w' => e = .returned (.int .i64 r1) ∧ bC w0 w' g bV r2 r3 ∧ Below w0.heap.size w0 w' ∧ aH w w' g none := by
  have HR1 := aa.mk hr1; clear hr1 hc1; have HI0 := aa.mk hI; have HK := aa.mk (aH.refl w g none); clear hI; have HB := aa.mk hB; clear hB; have H : ((bG.f bV fC gp (l1.length : Int)).bind fun yo => (if 0 ≤ yo.1 then (if yo.1 < (l1.length : Int) then (some (rd l1 yo.1, yo.2.1, yo.2.2)) else (none)) else (none))) = some (r1, r2, r3) := h; clear h; replace H := Option.bind_eq_some_iff.mp H; obtain ⟨⟨CJ, t598, t599⟩, A30, H⟩ := H; replace H : (if 0 ≤ CJ then (if CJ < (l1.length : Int) then (some (rd l1 CJ, t598, t599)) else (none)) else (none)) = some (r1, r2, r3) := H; have A3 := aa.mk A30; clear A30; by_cases c4 : 0 ≤ CJ
  · rw [if_pos c4] at H
    have kN : decide (0 ≤ CJ) = true := decide_eq_true c4; clear c4; by_cases c5 : CJ < (l1.length : Int)
    · rw [if_pos c5] at H
      have rH : decide (CJ < (l1.length : Int)) = true := decide_eq_true c5; clear c5; simp only [Option.some.injEq, Prod.mk.injEq] at H; obtain ⟨rfl, rfl, rfl⟩ := H; go_enter Tryd.func54, Tryd.ntmps54; go_wp2_with (((with_reducible refine ay (f := 20) rfl ?_); refine CE (some 9) rfl rfl Tryd.func20 (by kernel_rfl) rfl #[.pointer (some ⟨g, 0, none⟩), .int .i64 (l1.length : Int)] rfl (by (try simp only [List.map_toArray, List.map_cons, List.map_nil]); rfl) ?_; (with_reducible refine (bG.calls g bV fC gp (l1.length : Int) CJ t598 t599 w0 _ ?au ?av A3.out).mono ?_); (case au => repeat ((with_reducible exact HI0.out))); (case av => repeat ((with_reducible exact HB.out))); rintro e w6 ⟨rfl, hi, hb, hk⟩; refine ⟨_, rfl, ?_⟩; have n0_ := aa.mk (aH.trans (by repeat ((with_reducible exact HK.out))) hk (.inl rfl)); have n1_ := aa.mk (hb); have n2_ := aa.mk (hi); clear HK; clear HB; clear HI0; have HK := n0_; have HB := n1_; have HI0 := n2_; clear n0_ n1_ n2_; have p600 : 0 ≤ (CJ : Int) := of_decide_eq_true (by (with_reducible assumption)); have q600 : CJ < (l1.length : Int) := of_decide_eq_true (by (with_reducible assumption)); obtain ⟨ad600, e600, Ue⟩ := Kd.gz HR1.out CJ p600 q600; cases e600; replace Ue := nk HK.out Ue (by (rw [add_block]; exact hf1 _ rfl (by omega))); replace p600 := eq_true p600; replace q600 := eq_true q600))
      go_ret; exact ⟨by rfl, by repeat ((with_reducible exact HI0.out)), by repeat ((with_reducible exact HB.out)), by repeat ((with_reducible exact HK.out))⟩
    · rw [if_neg c5] at H
      exact absurd H (by simp)
  · rw [if_neg c4] at H
    exact absurd H (by simp)


/-! ### aK: function 28 -/
mutual
def aK.j2 : Nat → List Int → Int → Int → Int → List (S51) → Option (Int × (List (S51)) × Int × Int)
 | 0, _, _, _, _, _ => none
 | k + 1, x1000, oo, oq, uB, qj => (bG.f x1000 oo oq 24).bind fun DD => (if DD.1 = 0 then ((dN.f x1000 DD.2.1 DD.2.2 (([(-1), 1, 1000] : List Int))).bind fun bt774 => (some (wrap64 (uB + bt774.1), qj, bt774.2.1, bt774.2.2))) else (if DD.1 = 1 then (if ([] : List (S51)).length + qj.length < 4398046511104 then ((some (([] : List (S51)) ++ qj : List (S51))).bind fun y777 => (if y777.length < 4398046511104 then (some (uB, (y777 ++ [(⟨0, ([] : List (S51))⟩ : S51)]), DD.2.1, DD.2.2)) else (none))) else (none)) else (some (uB, qj, DD.2.1, DD.2.2))))
def aK.l0 : Nat → Int → List Int → Int → Int → Int → Int → Int → Int → List (S24) → Int → List (S51) → Option (Int × (List (S51)) × Int × Int)
 | 0, _, _, _, _, _, _, _, _, _, _, _ => none
 | k + 1, x6, x1000, oo, oq, OG, OH, OI, OJ, nU, uB, qj => if x6 < (nU.length : Int) then (if 0 ≤ x6 then ((aK.f k x1000 oo oq ((ag nU x6).f0) ((ag nU x6).f1) ((ag nU x6).f2) ((ag nU x6).f3) ((ag nU x6).f4)).bind fun bt737 => (if qj.length < 4398046511104 then (aK.l0 k (wrap64 (x6 + 1)) x1000 bt737.2.2.1 bt737.2.2.2 OG OH OI OJ nU uB (qj ++ [(⟨bt737.1, bt737.2.1⟩ : S51)])) else (none))) else (none)) else (aK.j2 k x1000 oo oq uB qj)
def aK.l1 : Nat → Int → List Int → Int → Int → Int → Int → Int → Int → List (S24) → Int → List (S51) → Option (Int × (List (S51)) × Int × Int)
 | 0, _, _, _, _, _, _, _, _, _, _, _ => none
 | k + 1, x7, x1000, oo, oq, OG, OH, OI, OJ, nU, uB, qj => if x7 > 0 then (if (nU.length : Int) > 0 then (if 0 < (nU.length : Int) then ((aK.f k x1000 oo oq ((ag nU 0).f0) ((ag nU 0).f1) ((ag nU 0).f2) ((ag nU 0).f3) ((ag nU 0).f4)).bind fun bt750 => (if qj.length < 4398046511104 then (aK.l1 k (wrap64 (x7 - 1)) x1000 bt750.2.2.1 bt750.2.2.2 OG OH OI OJ nU uB (qj ++ [(⟨bt750.1, bt750.2.1⟩ : S51)])) else (none))) else (none)) else (aK.j2 k x1000 oo oq uB qj)) else (aK.j2 k x1000 oo oq uB qj)
def aK.f : Nat → List Int → Int → Int → Int → Int → Int → Int → List (S24) → Option (Int × (List (S51)) × Int × Int)
 | 0, _, _, _, _, _, _, _, _ => none
 | k + 1, bV, fC, gp, bf, oW, qG, rJ, iO => if bf = 5 then (aK.l0 k 0 bV fC gp bf oW qG rJ iO 0 ([] : List (S51))) else (if bf = 6 then ((bG.f bV fC gp (wrap64 (rJ + 1))).bind fun bt746 => (aK.l1 k bt746.1 bV bt746.2.1 bt746.2.2 bf oW qG rJ iO 0 ([] : List (S51)))) else (if bf = 1 then ((bG.f bV fC gp 2).bind fun bt759 => (aK.j2 k bV bt759.2.1 bt759.2.2 bt759.1 ([] : List (S51)))) else (if bf = 2 then ((dC.f bV fC gp oW (mn qG (wrap64 (oW + 5)))).bind fun Gx => (aK.j2 k bV Gx.2.1 Gx.2.2 Gx.1 ([] : List (S51)))) else ((bG.f bV fC gp 4).bind fun bt765 => (aK.j2 k bV bt765.2.1 bt765.2.2 bt765.1 ([] : List (S51)))))))
end
def aK.T8 : Bool × List (List Nat × List Nat) := (true, [([], []), ([0], [0]), ([], []), ([], []), ([3], [3]), ([], []), ([4, 5], [4, 5]), ([6], [6]), ([2, 7], [2, 7]), ([8], [8]), ([1, 9, 8], [1, 9]), ([0, 1, 2, 3, 4, 5, 6, 7, 8, 9, 10], []), ([11, 10, 10, 0, 1, 2, 3, 4, 5, 6, 7, 8, 9, 10], [10, 11])])
def aK.B8 : List Nat := [0, 1, 0, 0, 8, 0, 56, 120, 252, 508, 1023, 2047, 4095]
theorem aK.tab8 : jX .any (opsOf Tryd.f28 8) = aK.T8 := by kernel_rfl
theorem aK.bits8 : jK aK.T8.2 aK.B8 = true := by kernel_rfl
def aK.T13 : Bool × List (List Nat × List Nat) := (true, [([], []), ([0], [0]), ([], []), ([], []), ([3], [3]), ([4], [4]), ([5], [5]), ([2, 6], [2, 6]), ([7], [7]), ([1, 8, 7], [1, 8]), ([0, 1, 2, 3, 4, 5, 6, 7, 8, 9], []), ([10, 9, 9, 0, 1, 2, 3, 4, 5, 6, 7, 8, 9], [9, 10])])
def aK.B13 : List Nat := [0, 1, 0, 0, 8, 24, 56, 124, 252, 511, 1023, 2047]
theorem aK.tab13 : jX .any (opsOf Tryd.f28 13) = aK.T13 := by kernel_rfl
theorem aK.bits13 : jK aK.T13.2 aK.B13 = true := by kernel_rfl
def aK.T20 : Bool × List (List Nat × List Nat) := (true, [([], []), ([0], [0]), ([], []), ([], []), ([2, 3], [2, 3]), ([1, 4], [1, 4]), ([0, 1, 2, 3, 4, 5], []), ([6, 5, 4, 0, 1, 2, 3, 4, 5], [5, 6])])
def aK.B20 : List Nat := [0, 1, 0, 0, 12, 31, 63, 127]
theorem aK.tab20 : jX .any (opsOf Tryd.f28 20) = aK.T20 := by kernel_rfl
theorem aK.bits20 : jK aK.T20.2 aK.B20 = true := by kernel_rfl
set_option maxHeartbeats 8000000 in
set_option maxRecDepth 100000 in
theorem aK.calls (k : Nat) : ∀ (g : Nat) (bV : List Int) (fC gp bf oW qG rJ : Int) (A1_4 : Option Addr) (ze : Nat) (iO : List (S24)) (r1 : Int) (r2 : List (S51)) (r3 r4 : Int) (w0 w : World) (hI : bC w0 w g bV fC gp) (hB : Below w0.heap.size w0 w) (hr1_4 : ∀ W_, aH w W_ g none → Kd.C k24 W_ A1_4 iO.length iO) (hc1_4 : iO.length ≤ ze) (h : aK.f k bV fC gp bf oW qG rJ iO = some (r1, r2, r3, r4)),
  Calls Tryd.prog 28 #[.pointer (some ⟨g, 0, none⟩), .agg #[.int .i64 bf, .int .i64 oW, .int .i64 qG, .int .i64 rJ, .slice A1_4 iO.length ze]] w fun e w' => ∃ v1_ : Value, e = .returned (.agg #[.int .i64 r1, v1_]) ∧ Kd.R k51 51 w' w.heap.size (fun _ => True) v1_ r2 ∧ bC w0 w' g bV r3 r4 ∧ Below w0.heap.size w0 w' ∧ aH w w' g none := by
 induction k using Nat.strongRecOn with
 | _ k ih =>
 intro g bV fC gp bf oW qG rJ A1_4 ze iO r1 r2 r3 r4 w0 w hI hB hr1_4 hc1_4 h; cases k with
 | zero => exact absurd h (by simp [aK.f])
 | succ k =>
 simp only [aK.f] at h; have uP := aa.mk hr1_4; clear hr1_4 hc1_4; have HI0 := aa.mk hI; have HK := aa.mk (aH.refl w g none); have HL := aa.mk hB.size; clear hI; have HW0 := aa.mk hB.size; have HB := aa.mk hB; clear hB; have H := h; unfold aK.f at H; clear h; have HC3 := aa.mk H; clear H; go_enter Tryd.func28, Tryd.ntmps28; go_upto_block 0 with (first | ((with_reducible refine aM (N := 3) rfl ?_); (try (refine gH (by rfl) ?_; dsimp only)); refine bx_ ((t5_ bf oW qG rJ A1_4 iO.length ze)) 24 ?_; intro qC hg w4 gI _ HB hb; have OL := aa.mk ((by rw [hg]; exact Nat.ne_of_gt (bC.lt (show bC w0 _ g bV fC gp from si_)) : qC ≠ g)); replace HI0 := aa.mk (bC.below si_ hb); replace HK := aa.mk (aH.trans (kp_ (w := w)) (aH.of_below hb g none) (.inl rfl)); clear hb hg) | ((with_reducible refine aM (N := 4) rfl ?_); (try (refine gH (by rfl) ?_; dsimp only)); refine oU ?hg (N := 4) ?hd (cs := (t2_ 0 none 0 0)) (t := 51) ?hr ?_; (case hd => rfl); (case hg => rfl); (case hr => (go_simp; done)); intro il hg w5 nN hb; have jL := aa.mk (nN); have GW734 := aa.mk ((by rw [hg]; exact (dM (w := w) (g := g) (row := none) kp_) : w.heap.size ≤ il)); have GE734 := aa.mk ((Nat.le_trans HW0.out (by rw [hg]; exact (dM (w := w) (g := g) (row := none) kp_) : w.heap.size ≤ il) : w0.heap.size ≤ il)); have Uf := aa.mk ((by rw [hg]; exact Nat.ne_of_lt (bC.lt (show bC w0 _ g bV fC gp from si_)) : g ≠ il)); have qN := aa.mk ((by rw [hg]; exact Nat.ne_of_gt (bC.lt (show bC w0 _ g bV fC gp from si_)) : il ≠ g)); replace HI0 := aa.mk (bC.below si_ hb); replace gI := kb_ gI hb; replace HK := aa.mk (aH.trans (kp_ (w := w)) (aH.of_below hb g none) (.inl rfl)); replace HB := aa.mk (ax bl_ hb); clear hb nN hg) | ((with_reducible refine aM (N := 5) rfl ?_); (try (refine gH (by rfl) ?_; dsimp only)); refine oU ?hg (N := 5) ?hd (cs := (t2_ 0 none 0 0)) (t := 51) ?hr ?_; (case hd => rfl); (case hg => rfl); (case hr => (go_simp; done)); intro gJ hg w6 nN hb; have fT := aa.mk (nN); have Gy := aa.mk ((by rw [hg]; exact (dM (w := w) (g := g) (row := none) kp_) : w.heap.size ≤ gJ)); have GE735 := aa.mk ((Nat.le_trans HW0.out (by rw [hg]; exact (dM (w := w) (g := g) (row := none) kp_) : w.heap.size ≤ gJ) : w0.heap.size ≤ gJ)); have QT := nl_ gI hg; have uX := nl_ jL hg; have Ug := aa.mk ((by rw [hg]; exact Nat.ne_of_lt (bC.lt (show bC w0 _ g bV fC gp from si_)) : g ≠ gJ)); have qO := aa.mk ((by rw [hg]; exact Nat.ne_of_gt (bC.lt (show bC w0 _ g bV fC gp from si_)) : gJ ≠ g)); replace HI0 := aa.mk (bC.below si_ hb); replace gI := kb_ gI hb; replace jL := kb_ jL hb; replace HK := aa.mk (aH.trans (kp_ (w := w)) (aH.of_below hb g none) (.inl rfl)); replace HB := aa.mk (ax bl_ hb); clear hb nN hg; obtain ⟨o8, ql, vM, xK, _, _, _, _, _, _⟩ := bE gI.out))
 go_cut [] (fun wc => ∃ (kq : Nat) (vN : Int) (vO : Int) (jU : Int) (mI : List (S51)) (ik : Value), aa (aK.j2 kq bV vN vO jU mI = some (r1, r2, r3, r4)) ∧ aa (kq ≤ k) ∧ aa (Kd.R k51 51 wc w.heap.size (fun k_ => k_ ≠ il ∧ k_ ≠ gJ) ik mI) ∧ aa (wc.heap[il]? = some (.cells #[.int .i64 0, (.slice none 0 0)] 51 (0, 0))) ∧ aa (wc.heap[gJ]? = some (.cells #[.int .i64 jU, ik] 51 (0, 0))) ∧ aa (bC w0 wc g bV vN vO) ∧ aa (aH w wc g none) ∧ aa (Below w0.heap.size w0 wc))
 case first =>
  have H := HC3.out; clear HC3; by_cases c11 : bf = 5
  ·rw [if_pos c11] at H; obtain ⟨Gz, c11b1⟩ := bq_ c11; clear c11; (skip); have H' := aa.mk H; clear H; go_wp2; go_loopg [6] k (fun kq v6 w' => ∃ (cK : Int) (o9 : Int) (pg : Int) (lH : List (S51)) (ik : Value), v6 = .int .i64 cK ∧ aa (aK.l0 kq cK bV o9 pg bf oW qG rJ iO 0 lH = some (r1, r2, r3, r4)) ∧ aa (kq ≤ k) ∧ aa (Kd.R k51 51 w' w.heap.size (fun k_ => k_ ≠ il ∧ k_ ≠ gJ) ik lH) ∧ aa (w'.heap[qC]? = some (.cells #[.int .i64 bf, .int .i64 oW, .int .i64 qG, .int .i64 rJ, (.slice A1_4 iO.length ze)] 24 (0, 0))) ∧ aa (w'.heap[il]? = some (.cells #[.int .i64 0, (.slice none 0 0)] 51 (0, 0))) ∧ aa (w'.heap[gJ]? = some (.cells #[.int .i64 0, ik] 51 (0, 0))) ∧ aa (bC w0 w' g bV o9 pg) ∧ aa (aH w w' g none) ∧ aa (Below w0.heap.size w0 w'))
   case atStart => exact ⟨(0), (fC), (gp), (([] : List (S51))), (.slice none 0 0), rs_, H', ⟨Nat.le_refl _⟩, ⟨by exact Kd.jy _ _ _ _ _⟩, ⟨bk_⟩, ⟨bk_⟩, ⟨bk_⟩, ⟨si_⟩, ⟨by repeat ((with_reducible exact HK.out))⟩, ⟨bl_⟩⟩
   case round =>
    clear H'; obtain ⟨cK, o9, pg, lH, ik, rfl, HA, HK1, dY, gI, jL, fT, HI0, HK, HB⟩ := hrel; cases gk with
    | zero => exact absurd HA.out (by simp [aK.l0])
    | succ k1 =>
     have H := HA.out; clear HA; simp only [aK.l0] at H; by_cases c12 : cK < (iO.length : Int)
     ·rw [if_pos c12] at H; have wP := decide_eq_true c12; clear c12; by_cases c13 : 0 ≤ cK
      ·rw [if_pos c13] at H; have Af := decide_eq_true c13; clear c13; replace H := Option.bind_eq_some_iff.mp H; obtain ⟨⟨t737, t738, t741, t742⟩, A140, H⟩ := H; (try dsimp only at H); have A14 := aa.mk A140; clear A140; by_cases c15 : lH.length < 4398046511104
       ·rw [if_pos c15] at H; have LMc15 := aa.mk c15; clear c15; generalize hy743 : (lH ++ [(⟨t737, t738⟩ : S51)]) = y743 at H; replace hy743 := hy743.symm; have Ny743 := aa.mk hy743; clear hy743; have H' := aa.mk H; clear H; obtain ⟨_, _, _, _, hcz19_4, _, _, _, _, _⟩ := bE gI.out; try go_wp2
        replace dY := aa.mk (Kd.oQ dY.out); replace gI := aa.mk (dz gI.out); replace jL := aa.mk (dz jL.out); replace fT := aa.mk (dz fT.out); replace HI0 := aa.mk (bC.drew HI0.out); replace HK := aa.mk (uU HK.out); replace HB := aa.mk (eX HB.out); have p736 : 0 ≤ (cK : Int) := dt_; have q736 : cK < (iO.length : Int) := dt_; obtain ⟨oK, A736_4, c736_4, e736, Uh, Ui, Uj, Uk, OM, Ul, OO⟩ := gu (Kd.MI uP.out HK.out) cK p736 q736; replace OO := Iz uP.out HK.out p736 q736 e736 OM; cases e736; have hne736_4 := (show (⟨(oK.add ((cK).toNat * 5)).block, (oK.add ((cK).toNat * 5)).off + 4, none⟩ : Addr).block ≠ g from by (rw [add_block]; exact Kd.rU uP.out (by omega) (by decide))); have hne736_3 := (show (⟨(oK.add ((cK).toNat * 5)).block, (oK.add ((cK).toNat * 5)).off + 3, none⟩ : Addr).block ≠ g from by (rw [add_block]; exact Kd.rU uP.out (by omega) (by decide))); have hne736_2 := (show (⟨(oK.add ((cK).toNat * 5)).block, (oK.add ((cK).toNat * 5)).off + 2, none⟩ : Addr).block ≠ g from by (rw [add_block]; exact Kd.rU uP.out (by omega) (by decide))); have hne736_1 := (show (⟨(oK.add ((cK).toNat * 5)).block, (oK.add ((cK).toNat * 5)).off + 1, none⟩ : Addr).block ≠ g from by (rw [add_block]; exact Kd.rU uP.out (by omega) (by decide))); have hne736_0 := (show ((oK.add ((cK).toNat * 5)) : Addr).block ≠ g from by (rw [add_block]; exact Kd.rU uP.out (by omega) (by decide))); have Um := aa.mk OO; have HC736_4 := aa.mk Ul; clear OO Ul; replace p736 := eq_true p736; replace q736 := eq_true q736; refine kL (n := 13) (S := fun w' => w'.cell? ⟨gJ, 0, none⟩ = some (.int .i64 0) ∧ w'.cell? ⟨gJ, 1, none⟩ = some (ik) ∧ w'.cell? ⟨qC, 0, none⟩ = some (.int .i64 bf) ∧ w'.cell? ⟨qC, 1, none⟩ = some (.int .i64 oW) ∧ w'.cell? ⟨qC, 2, none⟩ = some (.int .i64 qG) ∧ w'.cell? ⟨qC, 3, none⟩ = some (.int .i64 rJ) ∧ w'.cell? ⟨qC, 4, none⟩ = some (.slice (some oK) iO.length ze) ∧ w'.cell? (oK.add ((cK).toNat * 5)) = some (.int .i64 ((ag iO cK).f0)) ∧ w'.cell? ⟨(oK.add ((cK).toNat * 5)).block, (oK.add ((cK).toNat * 5)).off + 1, none⟩ = some (.int .i64 ((ag iO cK).f1)) ∧ w'.cell? ⟨(oK.add ((cK).toNat * 5)).block, (oK.add ((cK).toNat * 5)).off + 2, none⟩ = some (.int .i64 ((ag iO cK).f2)) ∧ w'.cell? ⟨(oK.add ((cK).toNat * 5)).block, (oK.add ((cK).toNat * 5)).off + 3, none⟩ = some (.int .i64 ((ag iO cK).f3)) ∧ w'.cell? ⟨(oK.add ((cK).toNat * 5)).block, (oK.add ((cK).toNat * 5)).off + 4, none⟩ = some (.slice A736_4 ((ag iO cK).f4).length c736_4)) (ds := [10, 12]) #[false, false, false, false, false, false, false, false, false, false, false, false, false] (by kernel_rfl) rfl rfl ⟨ci_ fT, ci_ fT, ci_ gI, ci_ gI, ci_ gI, ci_ gI, ci_ gI, Uh, Ui, Uj, Uk, OM⟩ (fun hHeld => ?_); refine iG aK.tab8 aK.bits8 (fun HT_ HW_ => ?_)
        generalize wr.drew = w20 at dY gI jL fT HI0 HK HB Um Uh Ui Uj Uk OM hHeld ⊢
        refine pu_ HT_ 0 22 (bm 13 1) ?_
        refine pu_ HT_ 2 24 (bm 13 5) ?_
        refine pu_ HT_ 3 25 (bm 13 13) ?_
        refine pu_ HT_ 5 27 (bm 13 45) ?_
        refine ta_ HT_ HW_ 1 23 (bm 13 47) hHeld ?_
        refine ta_ HT_ HW_ 4 26 (bm 13 63) hHeld ?_
        refine pu_ HT_ 6 28 (bm 13 127) ?_
        refine ta_ HT_ HW_ 7 29 (bm 13 255) hHeld ?_
        refine jW (i := 8) (N := some 30) #[true, true, true, true, true, true, true, true, true, false, false, false, false] rfl rfl (fB HT_.out (by kernel_rfl)) (by decide) (fun K hK => ?_)
        refine mf Tryd.func28 (by kernel_rfl) rfl #[.pointer (some ⟨g, 0, none⟩), .agg (t5_ ((ag iO cK).f0) ((ag iO cK).f1) ((ag iO cK).f2) ((ag iO cK).f3) A736_4 ((ag iO cK).f4).length c736_4)] (by rfl) rfl rfl mp_ ?_
        with_reducible refine (ih k1 (by have := HK1.out; omega) g bV o9 pg ((ag iO cK).f0) ((ag iO cK).f1) ((ag iO cK).f2) ((ag iO cK).f3) _ _ ((ag iO cK).f4) t737 t738 t741 t742 w0 _ ?au ?av ?bO ?bQ A14.out).mono ?_
        (case au => exact si_)
        (case av => exact bl_)
        (case bO => exact Kd.Lx Um.out kp_)
        (case bQ => exact HC736_4.out)
        rintro e w21 ⟨v739, rfl, ho0, hi, hb, hk⟩
        have HS7_ := nk hk (hHeld.2.2.2.2.2.2.2.1) (by exact hne736_0); have HS8_ := nk hk (hHeld.2.2.2.2.2.2.2.2.1) (by exact hne736_1); have HS9_ := nk hk (hHeld.2.2.2.2.2.2.2.2.2.1) (by exact hne736_2); have HS10_ := nk hk (hHeld.2.2.2.2.2.2.2.2.2.2.1) (by exact hne736_3); have HS11_ := nk hk (hHeld.2.2.2.2.2.2.2.2.2.2.2) (by exact hne736_4); refine ⟨_, rfl, ?_⟩
        have HO740 := aa.mk (Kd.bN (Kd.iY (Kd.iY (Kd.eG ho0 (Kd.fK (pR_ dY.out))) (g := il) (o := .cells (t2_ 0 none 0 0) 51 (0, 0)) bk_) (g := gJ) (o := .cells #[.int .i64 0, ik] 51 (0, 0)) bk_) (dM (w := w) (g := g) (row := none) kp_)); replace dY := aa.mk (Kd.aX (Kd.lJ (Kd.R_oldK (bC.apart (show bC w0 _ g bV o9 pg from si_) (pR_ dY.out) (by decide)) hk) (Kd.dI ho0)) (fun _ h_ => h_.1)); replace gI := aa.mk (aH.blk hk (g' := qC) (o := .cells (t5_ bf oW qG rJ (some oK) iO.length ze) 24 (0, 0)) bk_ OL.out (by simp)); replace jL := aa.mk (aH.blk hk (g' := il) (o := .cells (t2_ 0 none 0 0) 51 (0, 0)) bk_ qN.out (by simp)); replace fT := aa.mk (aH.blk hk (g' := gJ) (o := .cells #[.int .i64 0, ik] 51 (0, 0)) bk_ qO.out (by simp)); replace HK := aa.mk (aH.trans (kp_ (w := w)) hk (.inl rfl)); replace HB := aa.mk (hb); replace HI0 := aa.mk (hi); obtain ⟨xh, wC, CK⟩ := Kd.bF HO740.out; (subst CK); refine hK.out _ _ ⟨ci_ fT, ci_ fT, ci_ gI, ci_ gI, ci_ gI, ci_ gI, ci_ gI, HS7_, HS8_, HS9_, HS10_, HS11_⟩ (fun hHeld => ?_)
        clear hK K; refine jd (a' := ?_) ?_ ?_
        rotate_left
        ·show Act.put _ (some 30) _ = _
         simp only [Act.put, List.setIfInBounds_toArray, List.set_cons_zero, List.set_cons_succ, gM, iE]; rfl
        refine jW (i := 9) (N := some 31) #[true, true, true, true, true, true, true, true, true, true, false, false, false] rfl rfl (fB HT_.out (by kernel_rfl)) (by decide) (fun K hK => ?_)
        refine wK (w1 := ?_) (v := ?_) (by rfl) rfl ?_ ?_
        rotate_left 2
        ·go_simp; constructor
         ·rfl
         ·rfl
        refine hK.out _ _ ⟨(bH (eU fT.out _) 0).trans rfl, (bH (eU fT.out _) 1).trans rfl, (bH (eU gI.out _) 0).trans rfl, (bH (eU gI.out _) 1).trans rfl, (bH (eU gI.out _) 2).trans rfl, (bH (eU gI.out _) 3).trans rfl, (bH (eU gI.out _) 4).trans rfl, (World.cell?_alloc_lt _ _ _ (World.block_lt_of_cell? _ _ (hHeld.2.2.2.2.2.2.2.1))).trans (hHeld.2.2.2.2.2.2.2.1), (World.cell?_alloc_lt _ _ _ (World.block_lt_of_cell? _ _ (hHeld.2.2.2.2.2.2.2.2.1))).trans (hHeld.2.2.2.2.2.2.2.2.1), (World.cell?_alloc_lt _ _ _ (World.block_lt_of_cell? _ _ (hHeld.2.2.2.2.2.2.2.2.2.1))).trans (hHeld.2.2.2.2.2.2.2.2.2.1), (World.cell?_alloc_lt _ _ _ (World.block_lt_of_cell? _ _ (hHeld.2.2.2.2.2.2.2.2.2.2.1))).trans (hHeld.2.2.2.2.2.2.2.2.2.2.1), (World.cell?_alloc_lt _ _ _ (World.block_lt_of_cell? _ _ (hHeld.2.2.2.2.2.2.2.2.2.2.2))).trans (hHeld.2.2.2.2.2.2.2.2.2.2.2)⟩ (fun hHeld => ?_)
        clear hK K; refine jd (a' := ?_) ?_ ?_
        rotate_left
        ·show Act.put _ (some 31) _ = _
         simp only [Act.put, List.setIfInBounds_toArray, List.set_cons_zero, List.set_cons_succ, gM, iE]; rfl
        refine tJ (i := 10) (N := some 32) #[true, true, true, true, true, true, true, true, true, true, true, false, false] rfl rfl (fB HT_.out (by kernel_rfl)) (by decide) (fun K hK => ?_)
        refine Kd.qM k51 w.heap.size (by rfl) (.tmp 23) (.tmp 31) 49 51 (.agg #[(.int .i64 0), (.slice none 0 0)]) 32 rfl Tryd.underlying49 yn rfl (by decide) (by omega) ik lH (⟨t737, t738⟩ : S51) [.int .i64 t737, .slice xh t738.length wC] (fun k_ => k_ ≠ il ∧ k_ ≠ gJ) (fun k_ => ((fun k_ => k_ ≠ il ∧ k_ ≠ gJ)) k_ ∧ some k_ ≠ (ik : Value).ownBlock) rfl rfl ?aP (fun _ hk => hk) ?aF ?aO (Below.refl _ _) ?aS ?aL ?_
        (case aP => exact vL _ _ _ (⟨t737, t738⟩ : S51) (Kd.aX (HO740.out) (fun k_ hk => ⟨⟨hk.1.2, hk.2⟩, hk.1.1.2⟩)))
        (case aF => exact (fun k_ hk => ⟨Kd.fo (g := il) (o := .cells (t2_ 0 none 0 0) 51 (0, 0)) bk_ k_ hk, Kd.fo (g := gJ) (o := .cells #[.int .i64 0, ik] 51 (0, 0)) bk_ k_ hk⟩))
        (case aO => exact (by exact Kd.aX dY.out (fun _ hk => ⟨hk.1.1, hk.1.2⟩)))
        (case aS => exact (dM (w := w) (g := g) (row := none) kp_))
        (case aL => have := LMc15.out; omega)
        intro v744 w22 ho hb hg hat; rw [← Ny743.out] at ho; have HO745 := aa.mk (ho); replace gI := aa.mk (eF (g := qC) (o := .cells (t5_ bf oW qG rJ (some oK) iO.length ze) 24 (0, 0)) bk_ hg (Kd.nY dY.out gI.out (by decide))); replace jL := aa.mk (eF (g := il) (o := .cells (t2_ 0 none 0 0) 51 (0, 0)) bk_ hg (Kd.pQ dY.out (fun _ hk => hk.1.1))); replace fT := aa.mk (eF (g := gJ) (o := .cells #[.int .i64 0, ik] 51 (0, 0)) bk_ hg (Kd.pQ dY.out (fun _ hk => hk.1.2))); replace HI0 := aa.mk (bC.grown si_ hg (bC.own_ne HI0.out dY.out (by decide))); replace HB := aa.mk (rR bl_ HL.out hb); replace HK := aa.mk (aH.trans (kp_ (w := w)) (aH.tC hg g) (Kd.Jp dY.out)); clear dY HO740; clear ho hb hg hat; obtain ⟨wD, uL, eo24⟩ := Kd.bF HO745.out; (subst eo24); refine hK.out _ _ ?_
        clear hK K; refine jd (a' := ?_) ?_ ?_
        rotate_left
        ·show Act.put _ (some 32) _ = _
         simp only [Act.put, List.setIfInBounds_toArray, List.set_cons_zero, List.set_cons_succ, gM, iE]; rfl
        refine pu_ HT_ 11 33 (bm 13 4095) ?_
        refine tJ (i := 12) (N := none) #[true, true, true, true, true, true, true, true, true, true, true, true, true] rfl rfl (fB HT_.out (by kernel_rfl)) (by decide) (fun K hK => ?_)
        have hs25 : w22.cell? ⟨gJ, 1, none⟩ = some (ik) := ci_ fT; have hfs25 := fF fT.out 1; refine qB (w1 := ?_) (by rfl) rfl ?_ ?_
        rotate_left
        ·go_simp; rfl
        refine hK.out _ _ ?_
        clear hK K; refine mH (jT HT_.out (by kernel_rfl)) ?_
        try go_wp2
        go_roundg k1
        case measure => have := HK1.out; omega
        case rel => exact ⟨(wrap64 (cK + 1)), (t741), (t742), (y743), (.slice wD y743.length uL), rs_, H', ⟨by have := HK1.out; omega⟩, ⟨by exact Kd.aX (Kd.bL (p := ⟨gJ, 1, none⟩) (Kd.aX HO745.out (fun k_ hk => (⟨hk, by exact hk.2⟩ : _ ∧ k_ ≠ gJ))) (fun _ hk => hk.2) (.slice wD y743.length uL)) (fun _ hk => ⟨hk.1.1, hk.1.2⟩)⟩, ⟨by refine bP ?_ QT.out _; exact gI.out⟩, ⟨by refine bP ?_ uX.out _; exact jL.out⟩, ⟨by refine eP (cs := #[.int .i64 0, ik]) ?_ 1 _ rfl; exact fT.out⟩, ⟨si_⟩, ⟨by repeat (with_reducible first | exact HK.out | refine iD ?_ Gy.out _)⟩, ⟨bl_⟩⟩
       ·rw [if_neg c15] at H; exact absurd H (by simp)
      ·rw [if_neg c13] at H; exact absurd H (by simp)
     ·rw [if_neg c12] at H; have wP := decide_eq_false c12; clear c12; have H' := aa.mk H; clear H; obtain ⟨_, _, _, _, hcz29_4, _, _, _, _, _⟩ := bE gI.out; go_wp2; go_meet
      case rel => exact ⟨_, (o9), (pg), (0), (lH), (ik), H', ⟨by have := HK1.out; omega⟩, ⟨pR_ dY.out⟩, ⟨bk_⟩, ⟨bk_⟩, ⟨si_⟩, ⟨by repeat ((with_reducible exact HK.out))⟩, ⟨bl_⟩⟩
  ·rw [if_neg c11] at H; obtain ⟨Gz, c11b1⟩ := bn_ c11; (skip); by_cases c30 : bf = 6
   ·rw [if_pos c30] at H; obtain ⟨DF, GA⟩ := bq_ c30; clear c30; replace H := Option.bind_eq_some_iff.mp H; obtain ⟨⟨t746, t747, t748⟩, A310, H⟩ := H; (try dsimp only at H); have A31 := aa.mk A310; clear A310; have H' := aa.mk H; clear H; go_wp2_with (((with_reducible refine ay (f := 20) rfl ?_); refine gl_ (some 40) Tryd.func20 #[.pointer (some ⟨g, 0, none⟩), .int .i64 (wrap64 (rJ + 1))] ?_; (with_reducible refine (bG.calls g bV fC gp (wrap64 (rJ + 1)) t746 t747 t748 w0 _ ?au ?av A31.out).mono ?_); (case au => exact si_); (case av => exact bl_); rintro e w36 ⟨rfl, hi, hb, hk⟩; refine ⟨_, rfl, ?_⟩; replace gI := aa.mk (aH.blk hk (g' := qC) (o := .cells (t5_ bf oW qG rJ A1_4 iO.length ze) 24 (0, 0)) bk_ OL.out (by simp)); replace jL := aa.mk (aH.blk hk (g' := il) (o := .cells (t2_ 0 none 0 0) 51 (0, 0)) bk_ qN.out (by simp)); replace fT := aa.mk (aH.blk hk (g' := gJ) (o := .cells (t2_ 0 none 0 0) 51 (0, 0)) bk_ qO.out (by simp)); replace HK := aa.mk (aH.trans (kp_ (w := w)) hk (.inl rfl)); replace HB := aa.mk (hb); replace HI0 := aa.mk (hi)))
    go_loopg [7] k (fun kq v7 w' => ∃ (dU : Int) (o9 : Int) (pg : Int) (lH : List (S51)) (ik : Value), v7 = .int .i64 dU ∧ aa (aK.l1 kq dU bV o9 pg bf oW qG rJ iO 0 lH = some (r1, r2, r3, r4)) ∧ aa (kq ≤ k) ∧ aa (Kd.R k51 51 w' w.heap.size (fun k_ => k_ ≠ il ∧ k_ ≠ gJ) ik lH) ∧ aa (w'.heap[qC]? = some (.cells #[.int .i64 bf, .int .i64 oW, .int .i64 qG, .int .i64 rJ, (.slice A1_4 iO.length ze)] 24 (0, 0))) ∧ aa (w'.heap[il]? = some (.cells #[.int .i64 0, (.slice none 0 0)] 51 (0, 0))) ∧ aa (w'.heap[gJ]? = some (.cells #[.int .i64 0, ik] 51 (0, 0))) ∧ aa (bC w0 w' g bV o9 pg) ∧ aa (aH w w' g none) ∧ aa (Below w0.heap.size w0 w'))
    case atStart => exact ⟨(t746), (t747), (t748), (([] : List (S51))), (.slice none 0 0), rs_, H', ⟨Nat.le_refl _⟩, ⟨by exact Kd.jy _ _ _ _ _⟩, ⟨bk_⟩, ⟨bk_⟩, ⟨bk_⟩, ⟨si_⟩, ⟨by repeat ((with_reducible exact HK.out))⟩, ⟨bl_⟩⟩
    case round =>
     clear H'; obtain ⟨dU, o9, pg, lH, ik, rfl, HA, HK1, dY, gI, jL, fT, HI0, HK, HB⟩ := hrel; cases gk with
     | zero => exact absurd HA.out (by simp [aK.l1])
     | succ k1 =>
      have H := HA.out; clear HA; simp only [aK.l1] at H; by_cases c37 : dU > 0
      ·rw [if_pos c37] at H; have c37b0 : decide (0 < dU) = true := decide_eq_true c37; clear c37; by_cases c38 : (iO.length : Int) > 0
       ·rw [if_pos c38] at H; have c38b1 : decide (0 < iO.length) = true := decide_eq_true (by omega); clear c38; by_cases c39 : 0 < (iO.length : Int)
        ·rw [if_pos c39] at H; have c39b0 := decide_eq_true c39; clear c39; replace H := Option.bind_eq_some_iff.mp H; obtain ⟨⟨t750, t751, t754, t755⟩, A400, H⟩ := H; (try dsimp only at H); have A40 := aa.mk A400; clear A400; by_cases c41 : lH.length < 4398046511104
         ·rw [if_pos c41] at H; have LMc41 := aa.mk c41; clear c41; generalize hy756 : (lH ++ [(⟨t750, t751⟩ : S51)]) = y756 at H; replace hy756 := hy756.symm; have Ny756 := aa.mk hy756; clear hy756; have H' := aa.mk H; clear H; obtain ⟨_, _, _, _, hcz45_4, _, _, _, _, _⟩ := bE gI.out; try go_wp2
          replace dY := aa.mk (Kd.oQ dY.out); replace gI := aa.mk (dz gI.out); replace jL := aa.mk (dz jL.out); replace fT := aa.mk (dz fT.out); replace HI0 := aa.mk (bC.drew HI0.out); replace HK := aa.mk (uU HK.out); replace HB := aa.mk (eX HB.out); have p749 : 0 ≤ (0 : Int) := (by omega); have q749 : 0 < (iO.length : Int) := dt_; obtain ⟨oL, A749_4, c749_4, e749, Jv, Jw, Jy, Jz, EC, Un, OP⟩ := gu (Kd.MI uP.out HK.out) 0 p749 q749; have hw749_4 := EC; (try simp only [z0_, Nat.zero_mul, Addr.add_zero'] at hw749_4); have hw749_3 := Jz; (try simp only [z0_, Nat.zero_mul, Addr.add_zero'] at hw749_3); have hw749_2 := Jy; (try simp only [z0_, Nat.zero_mul, Addr.add_zero'] at hw749_2); have hw749_1 := Jw; (try simp only [z0_, Nat.zero_mul, Addr.add_zero'] at hw749_1); have hw749_0 := Jv; (try simp only [z0_, Nat.zero_mul, Addr.add_zero'] at hw749_0); replace OP := Iz uP.out HK.out p749 q749 e749 EC; cases e749; have hne749_4 := (show (⟨oL.block, oL.off + 4, none⟩ : Addr).block ≠ g from by (dsimp only; exact Kd.rU uP.out (by omega) (by decide))); have hne749_3 := (show (⟨oL.block, oL.off + 3, none⟩ : Addr).block ≠ g from by (dsimp only; exact Kd.rU uP.out (by omega) (by decide))); have hne749_2 := (show (⟨oL.block, oL.off + 2, none⟩ : Addr).block ≠ g from by (dsimp only; exact Kd.rU uP.out (by omega) (by decide))); have hne749_1 := (show (⟨oL.block, oL.off + 1, none⟩ : Addr).block ≠ g from by (dsimp only; exact Kd.rU uP.out (by omega) (by decide))); have hne749_0 := (show (oL : Addr).block ≠ g from by exact Kd.rU uP.out (by omega) (by decide)); have qi749 : (0 < iO.length) = True := eq_true (by omega); (try simp only [z0_, Nat.zero_mul, Addr.add_zero'] at Jv Jw Jy Jz EC); have Uo := aa.mk OP; have HC749_4 := aa.mk Un; clear OP Un; refine kL (n := 12) (S := fun w' => w'.cell? ⟨gJ, 0, none⟩ = some (.int .i64 0) ∧ w'.cell? ⟨gJ, 1, none⟩ = some (ik) ∧ w'.cell? ⟨qC, 0, none⟩ = some (.int .i64 bf) ∧ w'.cell? ⟨qC, 1, none⟩ = some (.int .i64 oW) ∧ w'.cell? ⟨qC, 2, none⟩ = some (.int .i64 qG) ∧ w'.cell? ⟨qC, 3, none⟩ = some (.int .i64 rJ) ∧ w'.cell? ⟨qC, 4, none⟩ = some (.slice (some oL) iO.length ze) ∧ w'.cell? oL = some (.int .i64 ((ag iO 0).f0)) ∧ w'.cell? ⟨oL.block, oL.off + 1, none⟩ = some (.int .i64 ((ag iO 0).f1)) ∧ w'.cell? ⟨oL.block, oL.off + 2, none⟩ = some (.int .i64 ((ag iO 0).f2)) ∧ w'.cell? ⟨oL.block, oL.off + 3, none⟩ = some (.int .i64 ((ag iO 0).f3)) ∧ w'.cell? ⟨oL.block, oL.off + 4, none⟩ = some (.slice A749_4 ((ag iO 0).f4).length c749_4)) (ds := [9, 11]) #[false, false, false, false, false, false, false, false, false, false, false, false] (by kernel_rfl) rfl rfl ⟨ci_ fT, ci_ fT, ci_ gI, ci_ gI, ci_ gI, ci_ gI, ci_ gI, Jv, Jw, Jy, Jz, EC⟩ (fun hHeld => ?_); refine iG aK.tab13 aK.bits13 (fun HT_ HW_ => ?_)
          generalize wr.drew = w46 at dY gI jL fT HI0 HK HB Uo Jv Jw Jy Jz EC hHeld ⊢
          refine pu_ HT_ 0 51 (bm 12 1) ?_
          refine pu_ HT_ 2 53 (bm 12 5) ?_
          refine pu_ HT_ 3 54 (bm 12 13) ?_
          refine ta_ HT_ HW_ 1 52 (bm 12 15) hHeld ?_
          refine ta_ HT_ HW_ 4 55 (bm 12 31) hHeld ?_
          refine pu_ HT_ 5 56 (bm 12 63) ?_
          refine ta_ HT_ HW_ 6 57 (bm 12 127) hHeld ?_
          refine jW (i := 7) (N := some 58) #[true, true, true, true, true, true, true, true, false, false, false, false] rfl rfl (fB HT_.out (by kernel_rfl)) (by decide) (fun K hK => ?_)
          refine mf Tryd.func28 (by kernel_rfl) rfl #[.pointer (some ⟨g, 0, none⟩), .agg (t5_ ((ag iO 0).f0) ((ag iO 0).f1) ((ag iO 0).f2) ((ag iO 0).f3) A749_4 ((ag iO 0).f4).length c749_4)] (by rfl) rfl rfl mp_ ?_
          with_reducible refine (ih k1 (by have := HK1.out; omega) g bV o9 pg ((ag iO 0).f0) ((ag iO 0).f1) ((ag iO 0).f2) ((ag iO 0).f3) _ _ ((ag iO 0).f4) t750 t751 t754 t755 w0 _ ?au ?av ?bO ?bQ A40.out).mono ?_
          (case au => exact si_)
          (case av => exact bl_)
          (case bO => exact Kd.Lx Uo.out kp_)
          (case bQ => exact HC749_4.out)
          rintro e w47 ⟨v752, rfl, ho0, hi, hb, hk⟩
          have HS7_ := nk hk (hHeld.2.2.2.2.2.2.2.1) (by exact hne749_0); have HS8_ := nk hk (hHeld.2.2.2.2.2.2.2.2.1) (by exact hne749_1); have HS9_ := nk hk (hHeld.2.2.2.2.2.2.2.2.2.1) (by exact hne749_2); have HS10_ := nk hk (hHeld.2.2.2.2.2.2.2.2.2.2.1) (by exact hne749_3); have HS11_ := nk hk (hHeld.2.2.2.2.2.2.2.2.2.2.2) (by exact hne749_4); refine ⟨_, rfl, ?_⟩
          have HO753 := aa.mk (Kd.bN (Kd.iY (Kd.iY (Kd.eG ho0 (Kd.fK (pR_ dY.out))) (g := il) (o := .cells (t2_ 0 none 0 0) 51 (0, 0)) bk_) (g := gJ) (o := .cells #[.int .i64 0, ik] 51 (0, 0)) bk_) (dM (w := w) (g := g) (row := none) kp_)); replace dY := aa.mk (Kd.aX (Kd.lJ (Kd.R_oldK (bC.apart (show bC w0 _ g bV o9 pg from si_) (pR_ dY.out) (by decide)) hk) (Kd.dI ho0)) (fun _ h_ => h_.1)); replace gI := aa.mk (aH.blk hk (g' := qC) (o := .cells (t5_ bf oW qG rJ (some oL) iO.length ze) 24 (0, 0)) bk_ OL.out (by simp)); replace jL := aa.mk (aH.blk hk (g' := il) (o := .cells (t2_ 0 none 0 0) 51 (0, 0)) bk_ qN.out (by simp)); replace fT := aa.mk (aH.blk hk (g' := gJ) (o := .cells #[.int .i64 0, ik] 51 (0, 0)) bk_ qO.out (by simp)); replace HK := aa.mk (aH.trans (kp_ (w := w)) hk (.inl rfl)); replace HB := aa.mk (hb); replace HI0 := aa.mk (hi); obtain ⟨Ao49, co49, eo49⟩ := Kd.bF HO753.out; (subst eo49); refine hK.out _ _ ⟨ci_ fT, ci_ fT, ci_ gI, ci_ gI, ci_ gI, ci_ gI, ci_ gI, HS7_, HS8_, HS9_, HS10_, HS11_⟩ (fun hHeld => ?_)
          clear hK K; refine jd (a' := ?_) ?_ ?_
          rotate_left
          ·show Act.put _ (some 58) _ = _
           simp only [Act.put, List.setIfInBounds_toArray, List.set_cons_zero, List.set_cons_succ, gM, iE]; rfl
          refine jW (i := 8) (N := some 59) #[true, true, true, true, true, true, true, true, true, false, false, false] rfl rfl (fB HT_.out (by kernel_rfl)) (by decide) (fun K hK => ?_)
          refine wK (w1 := ?_) (v := ?_) (by rfl) rfl ?_ ?_
          rotate_left 2
          ·go_simp; constructor
           ·rfl
           ·rfl
          refine hK.out _ _ ⟨(bH (eU fT.out _) 0).trans rfl, (bH (eU fT.out _) 1).trans rfl, (bH (eU gI.out _) 0).trans rfl, (bH (eU gI.out _) 1).trans rfl, (bH (eU gI.out _) 2).trans rfl, (bH (eU gI.out _) 3).trans rfl, (bH (eU gI.out _) 4).trans rfl, (World.cell?_alloc_lt _ _ _ (World.block_lt_of_cell? _ _ (hHeld.2.2.2.2.2.2.2.1))).trans (hHeld.2.2.2.2.2.2.2.1), (World.cell?_alloc_lt _ _ _ (World.block_lt_of_cell? _ _ (hHeld.2.2.2.2.2.2.2.2.1))).trans (hHeld.2.2.2.2.2.2.2.2.1), (World.cell?_alloc_lt _ _ _ (World.block_lt_of_cell? _ _ (hHeld.2.2.2.2.2.2.2.2.2.1))).trans (hHeld.2.2.2.2.2.2.2.2.2.1), (World.cell?_alloc_lt _ _ _ (World.block_lt_of_cell? _ _ (hHeld.2.2.2.2.2.2.2.2.2.2.1))).trans (hHeld.2.2.2.2.2.2.2.2.2.2.1), (World.cell?_alloc_lt _ _ _ (World.block_lt_of_cell? _ _ (hHeld.2.2.2.2.2.2.2.2.2.2.2))).trans (hHeld.2.2.2.2.2.2.2.2.2.2.2)⟩ (fun hHeld => ?_)
          clear hK K; refine jd (a' := ?_) ?_ ?_
          rotate_left
          ·show Act.put _ (some 59) _ = _
           simp only [Act.put, List.setIfInBounds_toArray, List.set_cons_zero, List.set_cons_succ, gM, iE]; rfl
          refine tJ (i := 9) (N := some 60) #[true, true, true, true, true, true, true, true, true, true, false, false] rfl rfl (fB HT_.out (by kernel_rfl)) (by decide) (fun K hK => ?_)
          refine Kd.qM k51 w.heap.size (by rfl) (.tmp 52) (.tmp 59) 49 51 (.agg #[(.int .i64 0), (.slice none 0 0)]) 32 rfl Tryd.underlying49 yn rfl (by decide) (by omega) ik lH (⟨t750, t751⟩ : S51) [.int .i64 t750, .slice Ao49 t751.length co49] (fun k_ => k_ ≠ il ∧ k_ ≠ gJ) (fun k_ => ((fun k_ => k_ ≠ il ∧ k_ ≠ gJ)) k_ ∧ some k_ ≠ (ik : Value).ownBlock) rfl rfl ?aP (fun _ hk => hk) ?aF ?aO (Below.refl _ _) ?aS ?aL ?_
          (case aP => exact vL _ _ _ (⟨t750, t751⟩ : S51) (Kd.aX (HO753.out) (fun k_ hk => ⟨⟨hk.1.2, hk.2⟩, hk.1.1.2⟩)))
          (case aF => exact (fun k_ hk => ⟨Kd.fo (g := il) (o := .cells (t2_ 0 none 0 0) 51 (0, 0)) bk_ k_ hk, Kd.fo (g := gJ) (o := .cells #[.int .i64 0, ik] 51 (0, 0)) bk_ k_ hk⟩))
          (case aO => exact (by exact Kd.aX dY.out (fun _ hk => ⟨hk.1.1, hk.1.2⟩)))
          (case aS => exact (dM (w := w) (g := g) (row := none) kp_))
          (case aL => have := LMc41.out; omega)
          intro v757 w48 ho hb hg hat; rw [← Ny756.out] at ho; have HO758 := aa.mk (ho); replace gI := aa.mk (eF (g := qC) (o := .cells (t5_ bf oW qG rJ (some oL) iO.length ze) 24 (0, 0)) bk_ hg (Kd.nY dY.out gI.out (by decide))); replace jL := aa.mk (eF (g := il) (o := .cells (t2_ 0 none 0 0) 51 (0, 0)) bk_ hg (Kd.pQ dY.out (fun _ hk => hk.1.1))); replace fT := aa.mk (eF (g := gJ) (o := .cells #[.int .i64 0, ik] 51 (0, 0)) bk_ hg (Kd.pQ dY.out (fun _ hk => hk.1.2))); replace HI0 := aa.mk (bC.grown si_ hg (bC.own_ne HI0.out dY.out (by decide))); replace HB := aa.mk (rR bl_ HL.out hb); replace HK := aa.mk (aH.trans (kp_ (w := w)) (aH.tC hg g) (Kd.Jp dY.out)); clear dY HO753; clear ho hb hg hat; obtain ⟨Ao50, co50, eo50⟩ := Kd.bF HO758.out; (subst eo50); refine hK.out _ _ ?_
          clear hK K; refine jd (a' := ?_) ?_ ?_
          rotate_left
          ·show Act.put _ (some 60) _ = _
           simp only [Act.put, List.setIfInBounds_toArray, List.set_cons_zero, List.set_cons_succ, gM, iE]; rfl
          refine pu_ HT_ 10 61 (bm 12 2047) ?_
          refine tJ (i := 11) (N := none) #[true, true, true, true, true, true, true, true, true, true, true, true] rfl rfl (fB HT_.out (by kernel_rfl)) (by decide) (fun K hK => ?_)
          have hs51 : w48.cell? ⟨gJ, 1, none⟩ = some (ik) := ci_ fT; have hfs51 := fF fT.out 1; refine qB (w1 := ?_) (by rfl) rfl ?_ ?_
          rotate_left
          ·go_simp; rfl
          refine hK.out _ _ ?_
          clear hK K; refine mH (jT HT_.out (by kernel_rfl)) ?_
          try go_wp2
          go_roundg k1
          case measure => have := HK1.out; omega
          case rel => exact ⟨(wrap64 (dU - 1)), (t754), (t755), (y756), (.slice Ao50 y756.length co50), rs_, H', ⟨by have := HK1.out; omega⟩, ⟨by exact Kd.aX (Kd.bL (p := ⟨gJ, 1, none⟩) (Kd.aX HO758.out (fun k_ hk => (⟨hk, by exact hk.2⟩ : _ ∧ k_ ≠ gJ))) (fun _ hk => hk.2) (.slice Ao50 y756.length co50)) (fun _ hk => ⟨hk.1.1, hk.1.2⟩)⟩, ⟨by refine bP ?_ QT.out _; exact gI.out⟩, ⟨by refine bP ?_ uX.out _; exact jL.out⟩, ⟨by refine eP (cs := #[.int .i64 0, ik]) ?_ 1 _ rfl; exact fT.out⟩, ⟨si_⟩, ⟨by repeat (with_reducible first | exact HK.out | refine iD ?_ Gy.out _)⟩, ⟨bl_⟩⟩
         ·rw [if_neg c41] at H; exact absurd H (by simp)
        ·rw [if_neg c39] at H; exact absurd H (by simp)
       ·rw [if_neg c38] at H; have c38b1 : decide (0 < iO.length) = false := decide_eq_false (by omega); clear c38; have H' := aa.mk H; clear H; obtain ⟨_, _, _, _, hcz55_4, _, _, _, _, _⟩ := bE gI.out; go_wp2; go_meet
        case rel => exact ⟨_, (o9), (pg), (0), (lH), (ik), H', ⟨by have := HK1.out; omega⟩, ⟨pR_ dY.out⟩, ⟨bk_⟩, ⟨bk_⟩, ⟨si_⟩, ⟨by repeat ((with_reducible exact HK.out))⟩, ⟨bl_⟩⟩
      ·rw [if_neg c37] at H; have c37b0 : decide (0 < dU) = false := decide_eq_false c37; clear c37; have H' := aa.mk H; clear H; go_wp2; go_meet
       case rel => exact ⟨_, (o9), (pg), (0), (lH), (ik), H', ⟨by have := HK1.out; omega⟩, ⟨pR_ dY.out⟩, ⟨bk_⟩, ⟨bk_⟩, ⟨si_⟩, ⟨by repeat ((with_reducible exact HK.out))⟩, ⟨bl_⟩⟩
   ·rw [if_neg c30] at H; obtain ⟨DF, GA⟩ := bn_ c30; by_cases c56 : bf = 1
    ·rw [if_pos c56] at H; obtain ⟨c56b0, c56b1⟩ := bq_ c56; clear c56; replace H := Option.bind_eq_some_iff.mp H; obtain ⟨⟨t759, t760, t761⟩, A570, H⟩ := H; (try dsimp only at H); have A57 := aa.mk A570; clear A570; have H' := aa.mk H; clear H; go_wp2_with (((with_reducible refine ay (f := 20) rfl ?_); refine gl_ (some 65) Tryd.func20 #[.pointer (some ⟨g, 0, none⟩), .int .i64 2] ?_; (with_reducible refine (bG.calls g bV fC gp 2 t759 t760 t761 w0 _ ?au ?av A57.out).mono ?_); (case au => exact si_); (case av => exact bl_); rintro e w58 ⟨rfl, hi, hb, hk⟩; refine ⟨_, rfl, ?_⟩; replace jL := aa.mk (aH.blk hk (g' := il) (o := .cells (t2_ 0 none 0 0) 51 (0, 0)) bk_ qN.out (by simp)); replace fT := aa.mk (aH.blk hk (g' := gJ) (o := .cells (t2_ 0 none 0 0) 51 (0, 0)) bk_ qO.out (by simp)); replace HK := aa.mk (aH.trans (kp_ (w := w)) hk (.inl rfl)); replace HB := aa.mk (hb); replace HI0 := aa.mk (hi); obtain ⟨Uq, _, hfz62_0, _⟩ := dS fT.out))
     go_meet
     case rel => exact ⟨_, (t760), (t761), (t759), (([] : List (S51))), (.slice none 0 0), H', ⟨by omega⟩, ⟨by exact Kd.jy _ _ _ _ _⟩, ⟨by refine bP ?_ uX.out _; exact jL.out⟩, ⟨by refine eP (cs := (t2_ 0 none 0 0)) ?_ 0 _ rfl; exact fT.out⟩, ⟨si_⟩, ⟨by repeat (with_reducible first | exact HK.out | refine iD ?_ Gy.out _)⟩, ⟨bl_⟩⟩
    ·rw [if_neg c56] at H; obtain ⟨c56b0, c56b1⟩ := bn_ c56; by_cases c63 : bf = 2
     ·rw [if_pos c63] at H; obtain ⟨c63b0, c63b1⟩ := bq_ c63; clear c63; obtain ⟨ji64, hji64⟩ : ∃ j_ : Int, (mn qG (wrap64 (oW + 5))) = j_ := ⟨_, rfl⟩; replace H : ((dC.f bV fC gp oW (ji64)).bind fun Gx => (aK.j2 k bV Gx.2.1 Gx.2.2 Gx.1 ([] : List (S51)))) = some (r1, r2, r3, r4) := by (rw [hji64] at H; exact H)
      have hji64_ : (if (wrap64 (oW + 5)) < qG then (wrap64 (oW + 5)) else qG) = ji64 := hji64; replace H := Option.bind_eq_some_iff.mp H; obtain ⟨⟨t762, t763, t764⟩, A650, H⟩ := H; (try dsimp only at H); have A65 := aa.mk A650; clear A650; have H' := aa.mk H; clear H; go_wp2_with (((with_reducible refine ay (f := 17) rfl ?_); refine CE (some 78) rfl rfl Tryd.func17 (by kernel_rfl) rfl #[.pointer (some ⟨g, 0, none⟩), .int .i64 oW, .int .i64 ji64] rfl (by (try simp only [List.map_toArray, List.map_cons, List.map_nil]); rfl) ?_; (with_reducible refine (dC.calls g bV fC gp oW ji64 t762 t763 t764 w0 _ ?au ?av A65.out).mono ?_); (case au => exact si_); (case av => exact bl_); rintro e w70 ⟨rfl, hi, hb, hk⟩; refine ⟨_, rfl, ?_⟩; replace jL := aa.mk (aH.blk hk (g' := il) (o := .cells (t2_ 0 none 0 0) 51 (0, 0)) bk_ qN.out (by simp)); replace fT := aa.mk (aH.blk hk (g' := gJ) (o := .cells (t2_ 0 none 0 0) 51 (0, 0)) bk_ qO.out (by simp)); replace HK := aa.mk (aH.trans (kp_ (w := w)) hk (.inl rfl)); replace HB := aa.mk (hb); replace HI0 := aa.mk (hi); obtain ⟨hcz73_0, _, hfz73_0, _⟩ := dS fT.out))
      go_meet
      case rel => exact ⟨_, (t763), (t764), (t762), (([] : List (S51))), (.slice none 0 0), H', ⟨by omega⟩, ⟨by exact Kd.jy _ _ _ _ _⟩, ⟨by refine bP ?_ uX.out _; exact jL.out⟩, ⟨by refine eP (cs := (t2_ 0 none 0 0)) ?_ 0 _ rfl; exact fT.out⟩, ⟨si_⟩, ⟨by repeat (with_reducible first | exact HK.out | refine iD ?_ Gy.out _)⟩, ⟨bl_⟩⟩
     ·rw [if_neg c63] at H; obtain ⟨c63b0, c63b1⟩ := bn_ c63; replace H := Option.bind_eq_some_iff.mp H; obtain ⟨⟨t765, t766, t767⟩, A740, H⟩ := H; (try dsimp only at H); have A74 := aa.mk A740; clear A740; have H' := aa.mk H; clear H; go_wp2_with (((with_reducible refine ay (f := 20) rfl ?_); refine gl_ (some 11) Tryd.func20 #[.pointer (some ⟨g, 0, none⟩), .int .i64 4] ?_; (with_reducible refine (bG.calls g bV fC gp 4 t765 t766 t767 w0 _ ?au ?av A74.out).mono ?_); (case au => exact si_); (case av => exact bl_); rintro e w75 ⟨rfl, hi, hb, hk⟩; refine ⟨_, rfl, ?_⟩; replace jL := aa.mk (aH.blk hk (g' := il) (o := .cells (t2_ 0 none 0 0) 51 (0, 0)) bk_ qN.out (by simp)); replace fT := aa.mk (aH.blk hk (g' := gJ) (o := .cells (t2_ 0 none 0 0) 51 (0, 0)) bk_ qO.out (by simp)); replace HK := aa.mk (aH.trans (kp_ (w := w)) hk (.inl rfl)); replace HB := aa.mk (hb); replace HI0 := aa.mk (hi); obtain ⟨OQ, _, OT, _⟩ := dS fT.out))
      go_meet
      case rel => exact ⟨_, (t766), (t767), (t765), (([] : List (S51))), (.slice none 0 0), H', ⟨by omega⟩, ⟨by exact Kd.jy _ _ _ _ _⟩, ⟨by refine bP ?_ uX.out _; exact jL.out⟩, ⟨by refine eP (cs := (t2_ 0 none 0 0)) ?_ 0 _ rfl; exact fT.out⟩, ⟨si_⟩, ⟨by repeat (with_reducible first | exact HK.out | refine iD ?_ Gy.out _)⟩, ⟨bl_⟩⟩
 case rest =>
  clear HC3; obtain ⟨kq, vN, vO, jU, mI, ik, HA, HJ2, dY, jL, fT, HI0, HK, HB⟩ := hcut; cases kq with
  | zero => exact absurd HA.out (by simp [aK.j2])
  | succ kj2 =>
   have H := HA.out; clear HA; simp only [aK.j2] at H; replace H := Option.bind_eq_some_iff.mp H; obtain ⟨⟨t768, t769, t770⟩, A800, H⟩ := H; (try dsimp only at H); have A80 := aa.mk A800; clear A800; by_cases c81 : t768 = 0
   ·rw [if_pos c81] at H; obtain ⟨c81b0, c81b1⟩ := bq_ c81; clear c81; generalize hy771 : (([(-1), 1, 1000] : List Int)) = y771 at H; replace hy771 := hy771.symm; have Ny771 := aa.mk hy771; clear hy771; replace H := Option.bind_eq_some_iff.mp H; obtain ⟨⟨t774, t775, t776⟩, A820, H⟩ := H; (try dsimp only at H); have A82 := aa.mk A820; clear A820; simp only [Option.some.injEq, Prod.mk.injEq] at H; obtain ⟨rfl, rfl, rfl, rfl⟩ := H; try go_wp2_with (((with_reducible refine ay (f := 20) rfl ?_); refine gl_ (some 81) Tryd.func20 #[.pointer (some ⟨g, 0, none⟩), .int .i64 24] ?_; (with_reducible refine (bG.calls g bV vN vO 24 t768 t769 t770 w0 _ ?au ?av A80.out).mono ?_); (case au => exact si_); (case av => exact bl_); rintro e w83 ⟨rfl, hi, hb, hk⟩; refine ⟨_, rfl, ?_⟩; replace dY := aa.mk (Kd.aX (Kd.yh (bC.apart (show bC w0 _ g bV vN vO from si_) (pR_ dY.out) (by decide)) hk (fun _ h => h.2)) (fun _ h => h.1)); replace jL := aa.mk (aH.blk hk (g' := il) (o := .cells (t2_ 0 none 0 0) 51 (0, 0)) bk_ qN.out (by simp)); replace fT := aa.mk (aH.blk hk (g' := gJ) (o := .cells #[.int .i64 jU, ik] 51 (0, 0)) bk_ qO.out (by simp)); replace HK := aa.mk (aH.trans (kp_ (w := w)) hk (.inl rfl)); replace HB := aa.mk (hb); replace HI0 := aa.mk (hi)))
    replace dY := aa.mk (Kd.oQ dY.out); replace jL := aa.mk (dz jL.out); replace fT := aa.mk (dz fT.out); replace HI0 := aa.mk (bC.drew HI0.out); replace HK := aa.mk (uU HK.out); replace HB := aa.mk (eX HB.out); refine kL (n := 8) (S := fun w' => w'.cell? ⟨gJ, 0, none⟩ = some (.int .i64 jU) ∧ w'.cell? ⟨gJ, 1, none⟩ = some (ik)) (ds := [7]) #[false, false, false, false, false, false, false, false] (by kernel_rfl) rfl rfl ⟨ci_ fT, ci_ fT⟩ (fun hHeld => ?_); refine iG aK.tab20 aK.bits20 (fun HT_ HW_ => ?_)
    generalize w83.drew = w84 at dY jL fT HI0 HK HB hHeld ⊢
    refine pu_ HT_ 0 84 (bm 8 1) ?_
    refine pu_ HT_ 2 86 (bm 8 5) ?_
    refine ta_ HT_ HW_ 1 85 (bm 8 7) hHeld ?_
    refine jW (i := 3) (N := some 87) #[true, true, true, true, false, false, false, false] rfl rfl (fB HT_.out (by kernel_rfl)) (by decide) (fun K hK => ?_)
    refine Kd.X6 (Kd.int .i64) _ 3 ?hg (N := 87) ?hd (xs := ([(-1), 1, 1000] : List Int)) (inner := [.int .i64 (-1), .int .i64 1, .int .i64 1000]) (ok := fun _ => True) (okp := fun _ => True) ?hr ?hp (fun _ hk => hk) trivial (Below.refl _ _) (Nat.le_refl _) (by simp) ?_; (case hd => rfl); (case hg => rfl); (case hr => (go_simp; done)); (case hp => exact (dB.one (show Kd.M (Kd.int .i64) _ _ _ (-1) [.int .i64 (-1)] from rfl) (dB.one (show Kd.M (Kd.int .i64) _ _ _ 1 [.int .i64 1] from rfl) (dB.one (show Kd.M (Kd.int .i64) _ _ _ 1000 [.int .i64 1000] from rfl) (dB.none _ _)))))
    intro v772 w85 ho86 hb hg_ iy; clear hg_ iy; (rw [← Ny771.out] at ho86); have HO773 := aa.mk (Kd.bN ho86 (dM (w := w) (g := g) (row := none) kp_)); replace dY := aa.mk (Kd.dH (pR_ dY.out) hb); replace jL := kb_ jL hb; replace fT := kb_ fT hb; replace HI0 := aa.mk (bC.below si_ hb); replace HK := aa.mk (aH.trans (kp_ (w := w)) (aH.of_below hb g none) (.inl rfl)); replace HB := aa.mk (ax bl_ hb); clear hb ho86; obtain ⟨Ao87, co87, eo87⟩ := Kd.bF HO773.out; (subst eo87); refine hK.out _ _ ⟨ci_ fT, ci_ fT⟩ (fun hHeld => ?_)
    clear hK K; refine jd (a' := ?_) ?_ ?_
    rotate_left
    ·show Act.put _ (some 87) _ = _
     simp only [Act.put, List.setIfInBounds_toArray, List.set_cons_zero, List.set_cons_succ, gM, iE]; rfl
    refine jW (i := 4) (N := some 88) #[true, true, true, true, true, false, false, false] rfl rfl (fB HT_.out (by kernel_rfl)) (by decide) (fun K hK => ?_)
    refine mf Tryd.func54 (by kernel_rfl) rfl #[.pointer (some ⟨g, 0, none⟩), .slice Ao87 y771.length co87] (by rfl) rfl rfl mp_ ?_
    with_reducible refine (dN.calls g bV t769 t770 _ _ y771 t774 t775 t776 w0 _ ?au ?av ?bO ?bQ ?vP A82.out).mono ?_
    (case au => exact si_)
    (case av => exact bl_)
    (case bO => exact cb_ ((Kd.aZ HO773.out).2.2))
    (case bQ => exact (Kd.aZ HO773.out).2.1)
    (case vP => exact Ay (bC.own_ne HI0.out HO773.out (by decide)))
    rintro e w88 ⟨rfl, hi, hb, hk⟩
    refine ⟨_, rfl, ?_⟩
    replace dY := aa.mk (Kd.aX (Kd.yh (bC.apart (show bC w0 _ g bV t769 t770 from si_) (pR_ dY.out) (by decide)) hk (fun _ h => h.2)) (fun _ h => h.1)); replace jL := aa.mk (aH.blk hk (g' := il) (o := .cells (t2_ 0 none 0 0) 51 (0, 0)) bk_ qN.out (by simp)); replace fT := aa.mk (aH.blk hk (g' := gJ) (o := .cells #[.int .i64 jU, ik] 51 (0, 0)) bk_ qO.out (by simp)); replace HK := aa.mk (aH.trans (kp_ (w := w)) hk (.inl rfl)); replace HB := aa.mk (hb); replace HI0 := aa.mk (hi); refine hK.out _ _ ⟨ci_ fT, ci_ fT⟩ (fun hHeld => ?_)
    clear hK K; refine jd (a' := ?_) ?_ ?_
    rotate_left
    ·show Act.put _ (some 88) _ = _
     simp only [Act.put, List.setIfInBounds_toArray, List.set_cons_zero, List.set_cons_succ, gM, iE]; rfl
    refine pu_ HT_ 5 89 (bm 8 63) ?_
    refine pu_ HT_ 6 90 (bm 8 127) ?_
    refine tJ (i := 7) (N := none) #[true, true, true, true, true, true, true, true] rfl rfl (fB HT_.out (by kernel_rfl)) (by decide) (fun K hK => ?_)
    have hs89 : w88.cell? ⟨gJ, 0, none⟩ = some (.int .i64 jU) := ci_ fT; have hfs89 := fF fT.out 0; refine qB (w1 := ?_) (by rfl) rfl ?_ ?_
    rotate_left
    ·go_simp; rfl
    refine hK.out _ _ ?_
    clear hK K; refine mH (jT HT_.out (by kernel_rfl)) ?_
    have hnc90 := uX.out; have hnb91 := qO.out; have hnc91 := Ug.out; obtain ⟨_, hcz92_1, _, _⟩ := dS fT.out; have hnb93 := qN.out; have hnc93 := Uf.out; obtain ⟨hcz94_0, hcz94_1, hfz94_0, hfz94_1⟩ := dS jL.out; obtain ⟨Ao95, co95, eo95⟩ := Kd.bF dY.out; subst eo95; try go_wp2
    refine bodyPost_ret (results_cell_row rfl _ _ il 51 (t2_ (wrap64 (jU + t774)) Ao95 mI.length co95) (0, 0) _ rfl b5_ Tryd.underlying51 rfl (by kernel_rfl)) rfl ?_
    exact ⟨_, re_, by exact Kd.aX (Kd.bL (p := ⟨il, 1, none⟩) (Kd.bL (p := ⟨il, 0, none⟩) (Kd.bL (p := ⟨gJ, 0, none⟩) (Kd.aX (Kd.aX dY.out (fun k_ hk => (⟨hk, by exact hk.2⟩ : _ ∧ k_ ≠ gJ))) (fun k_ hk => (⟨hk, by exact hk.1.1⟩ : _ ∧ k_ ≠ il))) (fun _ hk => hk.1.2) (.int .i64 (wrap64 (jU + t774)))) (fun _ hk => hk.2) (.int .i64 (wrap64 (jU + t774)))) (fun _ hk => hk.2) (.slice Ao95 mI.length co95)) (fun _ hk => trivial), si_, bl_, by repeat (with_reducible first | exact HK.out | refine iD ?_ GW734.out _ | refine iD ?_ Gy.out _)⟩
   ·rw [if_neg c81] at H; obtain ⟨c81b0, c81b1⟩ := bn_ c81; by_cases c96 : t768 = 1
    ·rw [if_pos c96] at H; obtain ⟨c96b0, c96b1⟩ := bq_ c96; clear c96; by_cases c97 : ([] : List (S51)).length + mI.length < 4398046511104
     ·rw [if_pos c97] at H; have LMc97 := aa.mk c97; clear c97; obtain ⟨y777, hy777, H⟩ := ys_ H; have Ny777 := aa.mk hy777; clear hy777; by_cases c98 : y777.length < 4398046511104
      ·rw [if_pos c98] at H; have LMc98 := aa.mk c98; clear c98; generalize hy780 : (y777 ++ [(⟨0, ([] : List (S51))⟩ : S51)]) = y780 at H; replace hy780 := hy780.symm; have Ny780 := aa.mk hy780; clear hy780; simp only [Option.some.injEq, Prod.mk.injEq] at H; obtain ⟨rfl, rfl, rfl, rfl⟩ := H; go_wp2_with (first | ((with_reducible refine ay (f := 20) rfl ?_); refine gl_ (some 81) Tryd.func20 #[.pointer (some ⟨g, 0, none⟩), .int .i64 24] ?_; (with_reducible refine (bG.calls g bV vN vO 24 t768 t769 t770 w0 _ ?au ?av A80.out).mono ?_); (case au => exact si_); (case av => exact bl_); rintro e w99 ⟨rfl, hi, hb, hk⟩; refine ⟨_, rfl, ?_⟩; replace dY := aa.mk (Kd.aX (Kd.yh (bC.apart (show bC w0 _ g bV vN vO from si_) (pR_ dY.out) (by decide)) hk (fun _ h => h.2)) (fun _ h => h.1)); replace jL := aa.mk (aH.blk hk (g' := il) (o := .cells (t2_ 0 none 0 0) 51 (0, 0)) bk_ qN.out (by simp)); replace fT := aa.mk (aH.blk hk (g' := gJ) (o := .cells #[.int .i64 jU, ik] 51 (0, 0)) bk_ qO.out (by simp)); replace HK := aa.mk (aH.trans (kp_ (w := w)) hk (.inl rfl)); replace HB := aa.mk (hb); replace HI0 := aa.mk (hi); have hnc100 := uX.out; have hnb101 := qO.out; have hnc101 := Ug.out; obtain ⟨_, RN, _, _⟩ := dS fT.out; obtain ⟨MP, MQ, eo104⟩ := Kd.bF dY.out; subst eo104) | ((with_reducible refine lC (b := .append) (xs := #[.const (.slice none 0 0), .tmp 94]) rfl ?_); (try (refine gH (by rfl) ?_; dsimp only)); at_builtin; refine Kd.uo k51 w.heap.size rfl (.const (.slice none 0 0)) (.tmp 94) 49 51 (.agg #[(.int .i64 0), (.slice none 0 0)]) 32 rfl Tryd.underlying49 yn rfl (by decide) (by omega) (.slice none 0 0) ([] : List (S51)) mI _ _ _ (fun k_ => k_ ≠ il ∧ k_ ≠ gJ) (fun k_ => ((fun k_ => k_ ≠ il ∧ k_ ≠ gJ)) k_ ∧ some k_ ≠ (.slice MP mI.length MQ : Value).ownBlock) rfl rfl ?aO ?aR (fun _ _ h => h) (fun _ hk => ⟨hk.1, by simp [Value.ownBlock]⟩) ?aF (Below.refl _ _) ?aS ?aL ?_; (case aR => exact Kd.R_readsM (Kd.aX (dY.out) (fun k_ hk => ⟨hk.1, hk.2⟩))); (case aF => exact (fun k_ hk => ⟨Kd.fo (g := il) (o := .cells (t2_ 0 none 0 0) 51 (0, 0)) bk_ k_ hk, Kd.fo (g := gJ) (o := .cells (t2_ jU MP mI.length MQ) 51 (0, 0)) bk_ k_ hk⟩)); (case aO => exact ((Kd.jy _ _ _ _ (fun k_ => k_ ≠ il ∧ k_ ≠ gJ)))); (case aS => exact (dM (w := w) (g := g) (row := none) kp_)); (case aL => have := LMc97.out; omega); intro v778 w103 ho hb hg hat; rw [← Ny777.out] at ho; have JA := aa.mk (ho); replace jL := aa.mk (eF (g := il) (o := .cells (t2_ 0 none 0 0) 51 (0, 0)) bk_ hg (by simp [Value.ownBlock])); replace fT := aa.mk (eF (g := gJ) (o := .cells (t2_ jU MP mI.length MQ) 51 (0, 0)) bk_ hg (by simp [Value.ownBlock])); replace HI0 := aa.mk (bC.grown si_ hg (by simp [Value.ownBlock])); replace HB := aa.mk (rR bl_ HL.out hb); replace HK := aa.mk (aH.trans (kp_ (w := w)) (aH.tC hg g) (.inl (by simp [Value.ownBlock]))); clear dY; clear ho hb hg hat) | ((with_reducible refine lC (b := .append) (xs := #[.tmp 95, .tmp 97]) rfl ?_); (try (refine gH (by rfl) ?_; dsimp only)); at_builtin; refine Kd.xe k51 w.heap.size rfl (.tmp 95) (.tmp 97) 49 51 (.agg #[(.int .i64 0), (.slice none 0 0)]) 32 rfl Tryd.underlying49 yn rfl (by decide) (by omega) v778 y777 (⟨0, ([] : List (S51))⟩ : S51) [.int .i64 0, .slice none 0 0] (fun k_ => k_ ≠ il ∧ k_ ≠ gJ) (fun k_ => ((fun k_ => k_ ≠ il ∧ k_ ≠ gJ)) k_ ∧ some k_ ≠ (v778 : Value).ownBlock) rfl rfl ?aP (fun _ hk => hk) ?aF ?aO (Below.refl _ _) ?aS ?aL ?_; (case aP => exact vL _ _ _ (⟨0, ([] : List (S51))⟩ : S51) (Kd.jy _ _ _ _ _)); (case aF => exact (fun k_ hk => ⟨Kd.fo (g := il) (o := .cells (t2_ 0 none 0 0) 51 (0, 0)) bk_ k_ hk, Kd.fo (g := gJ) (o := .cells (t2_ jU MP mI.length MQ) 51 (0, 0)) bk_ k_ hk⟩)); (case aO => exact (pR_ JA.out)); (case aS => exact (dM (w := w) (g := g) (row := none) kp_)); (case aL => have := LMc98.out; omega); intro v781 w105 ho hb hg hat; rw [← Ny780.out] at ho; have HO782 := aa.mk (ho); replace jL := aa.mk (eF (g := il) (o := .cells (t2_ 0 none 0 0) 51 (0, 0)) bk_ hg (Kd.pQ JA.out (fun _ hk => hk.1))); replace fT := aa.mk (eF (g := gJ) (o := .cells (t2_ jU MP mI.length MQ) 51 (0, 0)) bk_ hg (Kd.pQ JA.out (fun _ hk => hk.2))); replace HI0 := aa.mk (bC.grown si_ hg (bC.own_ne HI0.out JA.out (by decide))); replace HB := aa.mk (rR bl_ HL.out hb); replace HK := aa.mk (aH.trans (kp_ (w := w)) (aH.tC hg g) (Kd.Jp JA.out)); clear JA; clear ho hb hg hat; obtain ⟨Ao106, co106, eo106⟩ := Kd.bF HO782.out; subst eo106; obtain ⟨LX, LY, _, hfz107_1⟩ := dS fT.out; have hnb108 := qN.out; have hnc108 := Uf.out; obtain ⟨hcz109_0, hcz109_1, hfz109_0, hfz109_1⟩ := dS jL.out))
       refine bodyPost_ret (results_cell_row rfl _ _ il 51 (t2_ jU Ao106 y780.length co106) (0, 0) _ rfl b5_ Tryd.underlying51 rfl (by kernel_rfl)) rfl ?_
       exact ⟨_, re_, by exact Kd.aX (Kd.bL (p := ⟨il, 1, none⟩) (Kd.bL (p := ⟨il, 0, none⟩) (Kd.bL (p := ⟨gJ, 1, none⟩) (Kd.aX (Kd.aX HO782.out (fun k_ hk => (⟨hk, by exact hk.2⟩ : _ ∧ k_ ≠ gJ))) (fun k_ hk => (⟨hk, by exact hk.1.1⟩ : _ ∧ k_ ≠ il))) (fun _ hk => hk.1.2) (.slice Ao106 y780.length co106)) (fun _ hk => hk.2) (.int .i64 jU)) (fun _ hk => hk.2) (.slice Ao106 y780.length co106)) (fun _ hk => trivial), si_, bl_, by repeat (with_reducible first | exact HK.out | refine iD ?_ GW734.out _ | refine iD ?_ Gy.out _)⟩
      ·rw [if_neg c98] at H; exact absurd H (by simp)
     ·rw [if_neg c97] at H; exact absurd H (by simp)
    ·rw [if_neg c96] at H; obtain ⟨c96b0, c96b1⟩ := bn_ c96; simp only [Option.some.injEq, Prod.mk.injEq] at H; obtain ⟨rfl, rfl, rfl, rfl⟩ := H; go_wp2_with (((with_reducible refine ay (f := 20) rfl ?_); refine gl_ (some 81) Tryd.func20 #[.pointer (some ⟨g, 0, none⟩), .int .i64 24] ?_; (with_reducible refine (bG.calls g bV vN vO 24 t768 t769 t770 w0 _ ?au ?av A80.out).mono ?_); (case au => exact si_); (case av => exact bl_); rintro e w110 ⟨rfl, hi, hb, hk⟩; refine ⟨_, rfl, ?_⟩; replace dY := aa.mk (Kd.aX (Kd.yh (bC.apart (show bC w0 _ g bV vN vO from si_) (pR_ dY.out) (by decide)) hk (fun _ h => h.2)) (fun _ h => h.1)); replace jL := aa.mk (aH.blk hk (g' := il) (o := .cells (t2_ 0 none 0 0) 51 (0, 0)) bk_ qN.out (by simp)); replace fT := aa.mk (aH.blk hk (g' := gJ) (o := .cells #[.int .i64 jU, ik] 51 (0, 0)) bk_ qO.out (by simp)); replace HK := aa.mk (aH.trans (kp_ (w := w)) hk (.inl rfl)); replace HB := aa.mk (hb); replace HI0 := aa.mk (hi); obtain ⟨hcz113_0, hcz113_1, _, _⟩ := dS fT.out; obtain ⟨hcz115_0, hcz115_1, hfz115_0, hfz115_1⟩ := dS jL.out; obtain ⟨Ao116, co116, eo116⟩ := Kd.bF dY.out; subst eo116))
     refine bodyPost_ret (results_cell_row rfl _ _ il 51 (t2_ jU Ao116 mI.length co116) (0, 0) _ rfl b5_ Tryd.underlying51 rfl (by kernel_rfl)) rfl ?_
     exact ⟨_, re_, by exact Kd.aX (Kd.bL (p := ⟨il, 1, none⟩) (Kd.bL (p := ⟨il, 0, none⟩) (Kd.aX dY.out (fun k_ hk => (⟨hk, by exact hk.1⟩ : _ ∧ k_ ≠ il))) (fun _ hk => hk.2) (.int .i64 jU)) (fun _ hk => hk.2) (.slice Ao116 mI.length co116)) (fun _ hk => trivial), si_, bl_, by repeat (with_reducible first | exact HK.out | refine iD ?_ GW734.out _)⟩

end Go.Proofs.YtggelekooacmnaaDoor.Q
-- IA fifth region: two values are made in a row, two boxes laid at any time between
namespace Go.Proofs.YtggelekooacmnaaDoor.Q
open Go.RowKit Go.Proofs.YtggelekooacmnaaDoorW.aJ Go.Proofs.YtggelekooacmnaaDoorW.bu Go.Proofs.YtggelekooacmnaaDoorW.bB
set_option linter.unusedVariables false
set_option linter.unusedSimpArgs false
theorem run_move {P : Program} {o : Oper} {x : Operand} (hop : o.op = .move x) (a : Act) (w : World) : (execOp a.eval o).run P w = .ok (.value (a.eval x)) w := by
  unfold execOp
  rw [hop]
  rfl
theorem run_load {o : Oper} (hop : o.op = .load 24 (.tmp 4)) (a : Act) (w : World) (gb : Nat) (t0 t1 t2 t3 : Int) (tS : Value) (h4 : a.tmps[4]? = some (.pointer (some ⟨gb, 0, none⟩))) (hb : w.heap[gb]? = some (.cells #[.int .i64 t0, .int .i64 t1, .int .i64 t2, .int .i64 t3, tS] 24 (0, 0))) :
    (execOp a.eval o).run Tryd.prog w = .ok (.value (.agg #[.int .i64 t0, .int .i64 t1, .int .i64 t2, .int .i64 t3, tS])) w := by
  have hu24 := Tryd.underlying24
  have c0 : w.cell? ⟨gb, 0, none⟩ = some (.int .i64 t0) := (bH hb 0).trans rfl
  have c1 : w.cell? ⟨gb, 1, none⟩ = some (.int .i64 t1) := (bH hb 1).trans rfl
  have c2 : w.cell? ⟨gb, 2, none⟩ = some (.int .i64 t2) := (bH hb 2).trans rfl
  have c3 : w.cell? ⟨gb, 3, none⟩ = some (.int .i64 t3) := (bH hb 3).trans rfl
  have c4 : w.cell? ⟨gb, 4, none⟩ = some tS := (bH hb 4).trans rfl
  unfold execOp
  rw [hop]
  dsimp only
  rw [EB h4]
  go_simp
theorem Yz {o : Oper} (hop : o.op = .alloc 51) (a : Act) (w : World) :
    (execOp a.eval o).run Tryd.prog w = .ok (.value (.pointer (some ⟨w.heap.size, 0, none⟩))) (w.alloc (.cells #[.int .i64 0, .slice none 0 0] 51 (0, 0))) := by
  have hu51 := Tryd.underlying51
  unfold execOp
  rw [hop]
  dsimp only
  go_simp
theorem run_store {o : Oper} {d x : Nat} (hop : o.op = .store 51 (.tmp d) (.tmp x)) (a : Act) (w : World) (b : Nat) (v0 : Int) (A : Option Addr) (n c : Nat) (u0 u1 : Value) (h1 : a.tmps[d]? = some (.pointer (some ⟨b, 0, none⟩))) (h2 : a.tmps[x]? = some (.agg #[.int .i64 v0, .slice A n c]))
    (hb : w.heap[b]? = some (.cells #[u0, u1] 51 (0, 0))) :
    (execOp a.eval o).run Tryd.prog w = .ok .skip ((w.setCell ⟨b, 0, none⟩ (.int .i64 v0)).setCell ⟨b, 1, none⟩ (.slice A n c)) := by
  have hu51 := Tryd.underlying51
  have c0 : w.cell? ⟨b, 0, none⟩ = some u0 := (bH hb 0).trans rfl
  have c1 : w.cell? ⟨b, 1, none⟩ = some u1 := (bH hb 1).trans rfl
  have f0 := fF hb 0
  have f1 := fF hb 1
  unfold execOp
  rw [hop]
  dsimp only
  rw [EB h1, EB h2]
  go_simp
/-- the slot that operation i fills -/
def dst (i : Nat) : Nat := if i < 6 then 18 + i else i - 1
theorem RO {i j : Nat} (hi : i < 8) (hj : j < 8) (h : i ≠ j) : dst i ≠ dst j := by unfold dst; split <;> split <;> omega
abbrev ptr (b : Nat) : Value := .pointer (some ⟨b, 0, none⟩)
def okr (g gb : Nat) (listed : Array Bool) (a : Act) (x : Nat) : Prop := x ≠ g ∧ x ≠ gb ∧ ∀ k, k < 2 → listed.getD (6 + k) false = true → a.tmps[5 + k]? ≠ some (ptr x)
theorem RP {g gb : Nat} {listed listed' : Array Bool} {a a' : Act} (h1 : ∀ k, k < 2 → listed'.getD (6 + k) false = listed.getD (6 + k) false) (h2 : ∀ k, k < 2 → a'.tmps[5 + k]? = a.tmps[5 + k]?) : okr g gb listed' a' = okr g gb listed a := by
  funext x
  refine propext ⟨fun h => ⟨h.1, h.2.1, fun k hk hl => ?_⟩, fun h => ⟨h.1, h.2.1, fun k hk hl => ?_⟩⟩
  · rw [← h2 k hk]; exact h.2.2 k hk (by rw [h1 k hk]; exact hl)
  · rw [h2 k hk]; exact h.2.2 k hk (by rw [← h1 k hk]; exact hl)
/-- what operation i has left -/
def Fact (B g gb : Nat) (v : Nat → S51) (tv : Value) (i : Nat) (x : Value) (ok : Nat → Prop) (w : World) : Prop :=
  if i < 6 then (if i % 3 = 0 then x = ptr g else if i % 3 = 1 then x = tv else ∃ A c, x = .agg #[.int .i64 (v (i / 3)).f0, .slice A (v (i / 3)).f1.length c] ∧ Kd.N k51 51 w B ok (.slice A (v (i / 3)).f1.length c) (v (i / 3)).f1)
  else ∃ b, x = ptr b ∧ w.heap[b]? = some (.cells #[.int .i64 0, .slice none 0 0] 51 (0, 0)) ∧ B ≤ b ∧ b ≠ g ∧ b ≠ gb
theorem Fact.mono {B g gb : Nat} {v : Nat → S51} {tv : Value} {i : Nat} {x : Value} {ok ok' : Nat → Prop} {w w' : World} (h : Fact B g gb v tv i x ok w)
    (hN : ∀ A c (l : List S51), Kd.N k51 51 w B ok (.slice A l.length c) l → Kd.N k51 51 w' B ok' (.slice A l.length c) l)
    (hb : ∀ b o, w.heap[b]? = some o → b ≠ g → w'.heap[b]? = some o) : Fact B g gb v tv i x ok' w' := by
  unfold Fact at h ⊢
  split
  · rename_i h9
    rw [if_pos h9] at h
    split
    · rename_i h0; rw [if_pos h0] at h; exact h
    · rename_i h0
      rw [if_neg h0] at h
      split
      · rename_i h1; rw [if_pos h1] at h; exact h
      · rename_i h1
        rw [if_neg h1] at h
        obtain ⟨A, c, e, hn⟩ := h
        exact ⟨A, c, e, hN _ _ _ hn⟩
  · rename_i h9
    rw [if_neg h9] at h
    obtain ⟨b, e, h1, h2, h3, h4⟩ := h
    exact ⟨b, e, hb b _ h1 h3, h2, h3, h4⟩
def cnt (listed : Array Bool) : Nat := if listed.getD 5 false then 2 else if listed.getD 2 false then 1 else 0
/-- what holds whatever has been listed -/
structure Jo (w0 : World) (g gb : Nat) (L : List Int) (s : Int) (p : Nat → Int) (v : Nat → S51) (tc : Array Value) (tS : Value) (tl : List S24) (a0 : Act) (listed : Array Bool) (a : Act) (w : World) : Prop where
  sz : listed.size = 10
  un : ∀ i, 8 ≤ i → listed.getD i false = false
  cl : ∀ k, k < 2 → listed.getD (3 * k + 2) false = true → listed.getD (3 * k) false = true ∧ listed.getD (3 * k + 1) false = true ∧ (0 < k → listed.getD (3 * k - 1) false = true)
  df : a.defers = a0.defers
  ts : a.tmps.size = 63
  fr : ∀ N : Nat, (N < 5 ∨ (6 < N ∧ N < 18) ∨ 23 < N) → a.tmps[N]? = a0.tmps[N]?
  fa : ∀ i, i < 8 → listed.getD i false = true → ∃ x, a.tmps[dst i]? = some x ∧ Fact w0.heap.size g gb v (.agg tc) i x (okr g gb listed a) w
  di : ∀ j k b, j < 2 → k < 2 → j ≠ k → listed.getD (6 + j) false = true → listed.getD (6 + k) false = true → a.tmps[5 + j]? = some (ptr b) → a.tmps[5 + k]? ≠ some (ptr b)
  sr : bC w0 w g L (p (cnt listed)) s
  bl : Below w0.heap.size w0 w
  bt : w.heap[gb]? = some (.cells tc 24 (0, 0))
  gg : gb ≠ g
  nt : Kd.N k24 24 w w0.heap.size (okr g gb listed a) tS tl
section
variable {w0 : World} {g gb : Nat} {L : List Int} {s : Int} {p : Nat → Int} {v : Nat → S51} {tc : Array Value} {tS : Value} {tl : List S24} {a0 : Act} {listed : Array Bool} {a : Act} {w : World}
theorem Jo.pure (h : Jo w0 g gb L s p v tc tS tl a0 listed a w) {i : Nat} (hi : i < 6) (h3 : i % 3 ≠ 2) {x : Value} (hx : if i % 3 = 0 then x = ptr g else x = .agg tc) :
    Jo w0 g gb L s p v tc tS tl a0 (listed.setIfInBounds i true) (a.put (some (18 + i)) x) w := by
  have hs : i < listed.size := by have := h.sz; omega
  have ht : 18 + i < a.tmps.size := by have := h.ts; omega
  have ok : okr g gb (listed.setIfInBounds i true) (a.put (some (18 + i)) x) = okr g gb listed a := RP (fun k hk => by rw [ld hs, if_neg (by omega)]) (fun k hk => by rw [pt ht, if_neg (by omega)])
  refine ⟨by simpa using h.sz, fun j hj => by rw [ld hs, if_neg (by omega)]; exact h.un j hj, fun k hk hl => ?_, MO.trans h.df, Ju.trans h.ts, fun N hN => by rw [pt ht, if_neg (by omega)]; exact h.fr N hN, fun j hj hl => ?_, fun j k b hj hk hjk h1 h2 h4 => ?_, ?_, h.bl, h.bt, h.gg, by rw [ok]; exact h.nt⟩
  · rw [ld hs, if_neg (by omega)] at hl
    obtain ⟨h1, h2, h4⟩ := h.cl k hk hl
    refine ⟨by rw [ld hs]; split <;> simp [h1], by rw [ld hs]; split <;> simp [h2], fun h0 => by rw [ld hs]; split <;> simp [h4 h0]⟩
  · rw [ok]
    by_cases e : i = j
    · subst e
      refine ⟨x, by rw [pt ht, dst, if_pos hi, if_pos rfl], ?_⟩
      unfold Fact
      rw [if_pos hi]
      by_cases h0 : i % 3 = 0
      · rw [if_pos h0] at hx ⊢; exact hx
      · rw [if_neg h0] at hx ⊢; rw [if_pos (by omega)]; exact hx
    · rw [ld hs, if_neg e] at hl
      obtain ⟨y, h1, h2⟩ := h.fa j hj hl
      refine ⟨y, ?_, h2⟩
      have := RO (show i < 8 by omega) hj e
      rw [show dst i = 18 + i from by rw [dst, if_pos hi]] at this
      rw [pt ht, if_neg this]; exact h1
  · rw [ld hs, if_neg (by omega)] at h1 h2
    rw [pt ht, if_neg (by omega)] at h4 ⊢
    exact h.di j k b hj hk hjk h1 h2 h4
  · have : cnt (listed.setIfInBounds i true) = cnt listed := by unfold cnt; rw [ld hs, ld hs, if_neg (show ¬ i = 5 by omega), if_neg (show ¬ i = 2 by omega)]
    rw [this]; exact h.sr
theorem Jo.call (h : Jo w0 g gb L s p v tc tS tl a0 listed a w) {k : Nat} (hk : k < 2) (hf : listed.getD (3 * k + 2) false = false) (h1 : listed.getD (3 * k) false = true) (h2 : listed.getD (3 * k + 1) false = true) (h4 : 0 < k → listed.getD (3 * k - 1) false = true)
    {sv : Value} {w' : World} (hR : Kd.R k51 51 w' w.heap.size (fun _ => True) sv (v k).f1) (hI : bC w0 w' g L (p (k + 1)) s) (hB : Below w0.heap.size w0 w') (hK : aH w w' g none) :
    Jo w0 g gb L s p v tc tS tl a0 (listed.setIfInBounds (3 * k + 2) true) (a.put (some (20 + 3 * k)) (.agg #[.int .i64 (v k).f0, sv])) w' := by
  have hs : 3 * k + 2 < listed.size := by have := h.sz; omega
  have ht : 20 + 3 * k < a.tmps.size := by have := h.ts; omega
  have ok : okr g gb (listed.setIfInBounds (3 * k + 2) true) (a.put (some (20 + 3 * k)) (.agg #[.int .i64 (v k).f0, sv])) = okr g gb listed a := RP (fun j hj => by rw [ld hs, if_neg (by omega)]) (fun j hj => by rw [pt ht, if_neg (by omega)])
  have hold : ∀ b o, w.heap[b]? = some o → b ≠ g → w'.heap[b]? = some o := fun b o hb hne => aH.blk hK hb hne (by simp)
  refine ⟨by simpa using h.sz, fun j hj => by rw [ld hs, if_neg (by omega)]; exact h.un j hj, fun j hj hl => ?_, MO.trans h.df, Ju.trans h.ts, fun N hN => by rw [pt ht, if_neg (by omega)]; exact h.fr N hN, fun j hj hl => ?_, fun i j b hi hj hij l1 l2 l4 => ?_, ?_, hB, hold _ _ h.bt h.gg, h.gg, by rw [ok]; exact Kd.uu h.nt hK (fun _ hk => hk.1)⟩
  · by_cases e : k = j
    · subst e
      exact ⟨by rw [ld hs, if_neg (by omega)]; exact h1, by rw [ld hs, if_neg (by omega)]; exact h2, fun h0 => by rw [ld hs, if_neg (by omega)]; exact h4 h0⟩
    · rw [ld hs, if_neg (by omega)] at hl
      obtain ⟨m1, m2, m4⟩ := h.cl j hj hl
      exact ⟨by rw [ld hs, if_neg (by omega)]; exact m1, by rw [ld hs, if_neg (by omega)]; exact m2, fun h0 => by rw [ld hs]; split <;> simp [m4 h0]⟩
  · rw [ok]
    by_cases e : 3 * k + 2 = j
    · subst e
      refine ⟨_, by rw [show dst (3 * k + 2) = 20 + 3 * k from by rw [dst, if_pos (by omega)]; omega, pt ht, if_pos rfl], ?_⟩
      unfold Fact
      obtain ⟨A, c, rfl⟩ := Kd.bF hR
      rw [if_pos (by omega), if_neg (by omega), if_neg (by omega), show (3 * k + 2) / 3 = k from by omega]
      refine ⟨A, c, rfl, Kd.rT (Kd.dG (Kd.R_N (Kd.qL hR)) fun y hy => ⟨?_, ?_, fun m hm hl e => ?_⟩) (aI h.bl)⟩
      · exact h.sr.fresh y hy.2.1
      · have := kE h.bt; have := hy.2.1; omega
      · obtain ⟨x, e1, e2⟩ := h.fa (6 + m) (by omega) hl
        rw [show dst (6 + m) = 5 + m from by unfold dst; rw [if_neg (by omega)]; omega, e] at e1
        obtain rfl := Option.some.inj e1
        unfold Fact at e2
        rw [if_neg (by omega)] at e2
        obtain ⟨b, e3, e4, _⟩ := e2
        have : y = b := by injection e3 with e3; injection e3 with e3; injection e3
        subst this
        have := kE e4; have := hy.2.1; omega
    · rw [ld hs, if_neg e] at hl
      obtain ⟨y, m1, m2⟩ := h.fa j hj hl
      refine ⟨y, ?_, m2.mono (fun A c l hn => Kd.uu hn hK (fun _ hk => hk.1)) hold⟩
      have := RO (show 3 * k + 2 < 8 by omega) hj e
      rw [show dst (3 * k + 2) = 20 + 3 * k from by rw [dst, if_pos (by omega)]; omega] at this
      rw [pt ht, if_neg this]; exact m1
  · rw [ld hs, if_neg (by omega)] at l1 l2
    rw [pt ht, if_neg (by omega)] at l4 ⊢
    exact h.di i j b hi hj hij l1 l2 l4
  · have : cnt (listed.setIfInBounds (3 * k + 2) true) = k + 1 := by
      unfold cnt
      rw [ld hs, ld hs]
      have q5 : listed.getD 5 false = true → listed.getD 2 false = true := fun h => (‹Jo w0 g gb L s p v tc tS tl a0 listed a w›.cl 1 (by omega) h).2.2 (by omega)
      have hk' : k = 0 ∨ k = 1 := by omega
      rcases hk' with rfl | rfl
      · have n5 : listed.getD 5 false = false := by cases hq : listed.getD 5 false with | false => rfl | true => rw [q5 hq] at hf; cases hf
        simp [n5]
      · simp
    rw [this]; exact hI
theorem Jo.box (h : Jo w0 g gb L s p v tc tS tl a0 listed a w) {k : Nat} (hk : k < 2) (hf : listed.getD (6 + k) false = false) :
    Jo w0 g gb L s p v tc tS tl a0 (listed.setIfInBounds (6 + k) true) (a.put (some (5 + k)) (ptr w.heap.size)) (w.alloc (.cells #[.int .i64 0, .slice none 0 0] 51 (0, 0))) := by
  have hs : 6 + k < listed.size := by have := h.sz; omega
  have ht : 5 + k < a.tmps.size := by have := h.ts; omega
  have hb := jY (Below.refl w.heap.size w) (.cells #[.int .i64 0, .slice none 0 0] 51 (0, 0))
  have hold : ∀ b o, w.heap[b]? = some o → b ≠ g → (w.alloc (.cells #[.int .i64 0, .slice none 0 0] 51 (0, 0))).heap[b]? = some o := fun b o h1 _ => (hb.block b (kE h1)).trans h1
  have okm : ∀ y, okr g gb listed a y → y < w.heap.size → okr g gb (listed.setIfInBounds (6 + k) true) (a.put (some (5 + k)) (ptr w.heap.size)) y := fun y hy hlt => ⟨hy.1, hy.2.1, fun m hm hl => by
    rw [pt ht]
    by_cases e : k = m
    · subst e
      rw [if_pos rfl]
      intro e
      injection e with e; injection e with e; injection e with e; injection e with e
      omega
    · rw [if_neg (by omega)]
      rw [ld hs, if_neg (by omega)] at hl
      exact hy.2.2 m hm hl⟩
  have hN : ∀ {α : Type} {d : Kd α} {e : Nat} {sv : Value} {l : List α}, Kd.N d e w w0.heap.size (okr g gb listed a) sv l → Kd.N d e (w.alloc (.cells #[.int .i64 0, .slice none 0 0] 51 (0, 0))) w0.heap.size (okr g gb (listed.setIfInBounds (6 + k) true) (a.put (some (5 + k)) (ptr w.heap.size))) sv l :=
    fun hn => Kd.dG (Kd.OD (Kd.BQ hn) _) fun y hy => okm y hy.1 hy.2
  refine ⟨by simpa using h.sz, fun j hj => by rw [ld hs, if_neg (by omega)]; exact h.un j hj, fun j hj hl => ?_, MO.trans h.df, Ju.trans h.ts, fun N hN => by rw [pt ht, if_neg (by omega)]; exact h.fr N hN, fun j hj hl => ?_, fun i j b hi hj hij l1 l2 l4 => ?_, ?_, jY h.bl _, hold _ _ h.bt h.gg, h.gg, hN h.nt⟩
  · rw [ld hs, if_neg (by omega)] at hl
    obtain ⟨m1, m2, m4⟩ := h.cl j hj hl
    exact ⟨by rw [ld hs, if_neg (by omega)]; exact m1, by rw [ld hs, if_neg (by omega)]; exact m2, fun h0 => by rw [ld hs, if_neg (by omega)]; exact m4 h0⟩
  · by_cases e : 6 + k = j
    · subst e
      refine ⟨_, by rw [show dst (6 + k) = 5 + k from by rw [dst, if_neg (by omega)]; omega, pt ht, if_pos rfl], ?_⟩
      unfold Fact
      rw [if_neg (by omega)]
      have := h.sr.lt
      have := kE h.bt
      exact ⟨w.heap.size, rfl, heap_alloc_new w _, aI h.bl, by omega, by omega⟩
    · rw [ld hs, if_neg e] at hl
      obtain ⟨y, m1, m2⟩ := h.fa j hj hl
      refine ⟨y, ?_, m2.mono (fun A c l hn => hN hn) hold⟩
      have := RO (show 6 + k < 8 by omega) hj e
      rw [show dst (6 + k) = 5 + k from by rw [dst, if_neg (by omega)]; omega] at this
      rw [pt ht, if_neg this]; exact m1
  · have lt : ∀ m b', m < 2 → listed.getD (6 + m) false = true → a.tmps[5 + m]? = some (ptr b') → b' < w.heap.size := fun m b' hm hl he => by
      obtain ⟨x, e1, e2⟩ := h.fa (6 + m) (by omega) hl
      rw [show dst (6 + m) = 5 + m from by unfold dst; rw [if_neg (by omega)]; omega, he] at e1
      obtain rfl := Option.some.inj e1
      unfold Fact at e2
      rw [if_neg (by omega)] at e2
      obtain ⟨b, e3, e4, _⟩ := e2
      have : b' = b := by injection e3 with e3; injection e3 with e3; injection e3
      rw [this]; exact kE e4
    rw [ld hs] at l1 l2
    rw [pt ht] at l4 ⊢
    by_cases ei : k = i
    · subst ei
      rw [if_pos rfl] at l4
      rw [if_neg (by omega)] at l2 ⊢
      intro e
      have := lt j b hj l2 e
      injection l4 with l4; injection l4 with l4; injection l4 with l4; injection l4 with l4
      omega
    · rw [if_neg (by omega)] at l1 l4
      by_cases ej : k = j
      · subst ej
        rw [if_pos rfl]
        intro e
        have := lt i b hi l1 l4
        injection e with e; injection e with e; injection e with e; injection e with e
        omega
      · rw [if_neg (by omega)] at l2 ⊢
        exact h.di i j b hi hj hij l1 l2 l4
  · have : cnt (listed.setIfInBounds (6 + k) true) = cnt listed := by unfold cnt; rw [ld hs, ld hs, if_neg (show ¬ 6 + k = 5 by omega), if_neg (show ¬ 6 + k = 2 by omega)]
    rw [this]; exact h.sr.alloc _
end
end Go.Proofs.YtggelekooacmnaaDoor.Q
-- IA fifth region, whole
namespace Go.Proofs.YtggelekooacmnaaDoor.Q
open Go.RowKit Go.Proofs.YtggelekooacmnaaDoorW.aJ Go.Proofs.YtggelekooacmnaaDoorW.bu Go.Proofs.YtggelekooacmnaaDoorW.bB
set_option linter.unusedVariables false
set_option linter.unusedSimpArgs false
def put2 (w : World) (b : Nat) (x y : Value) : World := (w.setCell ⟨b, 0, none⟩ x).setCell ⟨b, 1, none⟩ y
theorem RQ {w : World} {b : Nat} {u0 u1 x y : Value} {T : Nat} (h : w.heap[b]? = some (.cells #[u0, u1] T (0, 0))) : (put2 w b x y).heap[b]? = some (.cells #[x, y] T (0, 0)) := by
  refine eP (cs := #[x, u1]) ?_ 1 _ rfl
  exact eP (cs := #[u0, u1]) h 0 _ rfl
theorem CL {w : World} {b k : Nat} {x y : Value} (h : k ≠ b) : (put2 w b x y).heap[k]? = w.heap[k]? := (Below.heap_setCell _ ⟨b, 1, none⟩ _ _ h).trans (Below.heap_setCell _ ⟨b, 0, none⟩ _ _ h)
theorem put2_N {α : Type} {d : Kd α} {e base : Nat} {ok : Nat → Prop} {v : Value} {xs : List α} {w : World} {b : Nat} {x y : Value} (h : Kd.N d e w base ok v xs) (hok : ∀ k, ok k → k ≠ b) : Kd.N d e (put2 w b x y) base ok v xs :=
  Kd.fq (p := ⟨b, 1, none⟩) (Kd.fq (p := ⟨b, 0, none⟩) h hok _) hok _
theorem MR {w0 w : World} {b : Nat} {x y : Value} (h : Below w0.heap.size w0 w) (hb : w0.heap.size ≤ b) : Below w0.heap.size w0 (put2 w b x y) := jv (jv h hb) hb
theorem arr_eq {l m : Array Bool} (hs : l.size = m.size) (h : ∀ i, i < m.size → l.getD i false = m.getD i false) : l = m := by
  apply Array.ext hs
  intro i h1 h2
  have := h i h2
  simpa [Array.getD_eq_getD_getElem?, h1, h2] using this
theorem GD {ops : Array Oper} {listed : Array Bool} {i : Nat} {o : Oper} {l : List Nat} (h : i ∈ Region.ready .any ops listed) (ho : ops[i]? = some o) (hl : (o.after.toList.filter (Region.binds .any)).map (·.on) = l) : ∀ j ∈ l, listed.getD j false = true := by
  obtain ⟨_, o', ho', ha⟩ := Gu h
  rw [ho] at ho'
  obtain rfl := Option.some.inj ho'
  intro j hj
  rw [← hl] at hj
  simp only [List.mem_map, List.mem_filter, Array.mem_toList_iff] at hj
  obtain ⟨e, ⟨h1, h2⟩, rfl⟩ := hj
  exact ha e h1 h2
theorem uC {o : Oper} {ys : Nat → Option Bool} (h : o.guard = none) : Region.wanted o ys = true := by unfold Region.wanted; rw [h]
abbrev Op3 (i : Nat) (d : Option Nat) (q : Op) (l : List Nat) : Prop := ∃ o, (opsOf Tryd.f11 5)[i]? = some o ∧ o.dst = d ∧ o.op = q ∧ o.guard = none ∧ (o.after.toList.filter (Region.binds .any)).map (·.on) = l
theorem op3_0 : Op3 0 (some 18) (.move (.tmp 3)) [] := ⟨_, rfl, by kernel_rfl, by kernel_rfl, by kernel_rfl, by kernel_rfl⟩
theorem op3_1 : Op3 1 (some 19) (.load 24 (.tmp 4)) [] := ⟨_, rfl, by kernel_rfl, by kernel_rfl, by kernel_rfl, by kernel_rfl⟩
theorem op3_2 : Op3 2 (some 20) (.call { callee := .value (.func 28), args := #[.tmp 18, .tmp 19], argTypes := #[30, 24] }) [0, 1] := ⟨_, rfl, by kernel_rfl, by kernel_rfl, by kernel_rfl, by kernel_rfl⟩
theorem op3_3 : Op3 3 (some 21) (.move (.tmp 3)) [] := ⟨_, rfl, by kernel_rfl, by kernel_rfl, by kernel_rfl, by kernel_rfl⟩
theorem op3_4 : Op3 4 (some 22) (.load 24 (.tmp 4)) [] := ⟨_, rfl, by kernel_rfl, by kernel_rfl, by kernel_rfl, by kernel_rfl⟩
theorem op3_5 : Op3 5 (some 23) (.call { callee := .value (.func 28), args := #[.tmp 21, .tmp 22], argTypes := #[30, 24] }) [3, 4, 2] := ⟨_, rfl, by kernel_rfl, by kernel_rfl, by kernel_rfl, by kernel_rfl⟩
theorem op3_6 : Op3 6 (some 5) (.alloc 51) [] := ⟨_, rfl, by kernel_rfl, by kernel_rfl, by kernel_rfl, by kernel_rfl⟩
theorem op3_7 : Op3 7 (some 6) (.alloc 51) [] := ⟨_, rfl, by kernel_rfl, by kernel_rfl, by kernel_rfl, by kernel_rfl⟩
theorem op3_8 : Op3 8 none (.store 51 (.tmp 5) (.tmp 20)) [6, 2, 5, 0, 1, 2, 6, 7] := ⟨_, rfl, by kernel_rfl, by kernel_rfl, by kernel_rfl, by kernel_rfl⟩
theorem op3_9 : Op3 9 none (.store 51 (.tmp 6) (.tmp 23)) [7, 5, 8, 0, 1, 2, 3, 4, 5, 6, 7, 8] := ⟨_, rfl, by kernel_rfl, by kernel_rfl, by kernel_rfl, by kernel_rfl⟩
section
variable {w0 : World} {g gb : Nat} {L : List Int} {s : Int} {p : Nat → Int} {v : Nat → S51} {t0 t1 t2 t3 : Int} {A : Option Addr} {c : Nat} {tl : List S24} {a0 : Act} {listed : Array Bool} {a : Act} {w : World} {Q : Exit → Act → World → Prop}
abbrev tcs (t0 t1 t2 t3 : Int) (A : Option Addr) (n c : Nat) : Array Value := #[.int .i64 t0, .int .i64 t1, .int .i64 t2, .int .i64 t3, .slice A n c]
theorem Ur {i d : Nat} (h : Jo w0 g gb L s p v (tcs t0 t1 t2 t3 A tl.length c) (.slice A tl.length c) tl a0 listed a w) (hi : i < 6) (h3 : i % 3 = 0) (ho : Op3 i (some d) (.move (.tmp 3)) []) (hd : d = 18 + i) (hg : a0.tmps[3]? = some (ptr g)) :
    wpOp Tryd.prog (opsOf Tryd.f11 5) Q i (Jo w0 g gb L s p v (tcs t0 t1 t2 t3 A tl.length c) (.slice A tl.length c) tl a0 (listed.setIfInBounds i true)) a w := by
  obtain ⟨o, h1, h2, h4, h5, _⟩ := ho
  subst hd
  refine BR h1 ?_
  rw [h2]
  refine wK (uC h5) h2 (run_move h4 a w) ?_
  rw [EB ((h.fr 3 (by omega)).trans hg)]
  exact h.pure hi (by omega) (by rw [if_pos h3])
theorem Us {i d : Nat} (h : Jo w0 g gb L s p v (tcs t0 t1 t2 t3 A tl.length c) (.slice A tl.length c) tl a0 listed a w) (hi : i < 6) (h3 : i % 3 = 1) (ho : Op3 i (some d) (.load 24 (.tmp 4)) []) (hd : d = 18 + i) (hg : a0.tmps[4]? = some (ptr gb)) :
    wpOp Tryd.prog (opsOf Tryd.f11 5) Q i (Jo w0 g gb L s p v (tcs t0 t1 t2 t3 A tl.length c) (.slice A tl.length c) tl a0 (listed.setIfInBounds i true)) a w := by
  obtain ⟨o, h1, h2, h4, h5, _⟩ := ho
  subst hd
  refine BR h1 ?_
  rw [h2]
  refine wK (uC h5) h2 (run_load h4 a w gb t0 t1 t2 t3 _ ((h.fr 4 (by omega)).trans hg) h.bt) ?_
  exact h.pure hi (by omega) (by rw [if_neg (by omega)])
theorem do_box {k i d : Nat} (h : Jo w0 g gb L s p v (tcs t0 t1 t2 t3 A tl.length c) (.slice A tl.length c) tl a0 listed a w) (hk : k < 2) (hi : i = 6 + k) (hf : listed.getD i false = false) (ho : Op3 i (some d) (.alloc 51) []) (hd : d = 5 + k) :
    wpOp Tryd.prog (opsOf Tryd.f11 5) Q i (Jo w0 g gb L s p v (tcs t0 t1 t2 t3 A tl.length c) (.slice A tl.length c) tl a0 (listed.setIfInBounds i true)) a w := by
  obtain ⟨o, h1, h2, h4, h5, _⟩ := ho
  subst hd
  subst hi
  refine BR h1 ?_
  rw [h2]
  refine wK (uC h5) h2 (Yz h4 a w) ?_
  exact h.box hk hf
theorem Ut {K k i x y d : Nat} {l : List Nat} (h : Jo w0 g gb L s p v (tcs t0 t1 t2 t3 A tl.length c) (.slice A tl.length c) tl a0 listed a w) (hk : k < 2) (hi : i = 3 * k + 2) (hf : listed.getD i false = false)
    (ho : Op3 i (some d) (.call { callee := .value (.func 28), args := #[.tmp x, .tmp y], argTypes := #[30, 24] }) l) (hd : d = 20 + 3 * k) (hx : x = 18 + 3 * k) (hy : y = 19 + 3 * k) (h1 : listed.getD (3 * k) false = true) (h2 : listed.getD (3 * k + 1) false = true) (h4 : 0 < k → listed.getD (3 * k - 1) false = true)
    (hA : aK.f K L (p k) s t0 t1 t2 t3 tl = some ((v k).f0, (v k).f1, p (k + 1), s)) (hcn : cnt listed = k) (hc : tl.length ≤ c) :
    wpOp Tryd.prog (opsOf Tryd.f11 5) Q i (Jo w0 g gb L s p v (tcs t0 t1 t2 t3 A tl.length c) (.slice A tl.length c) tl a0 (listed.setIfInBounds i true)) a w := by
  obtain ⟨o, m1, m2, m4, m5, _⟩ := ho
  subst hd
  subst hx
  subst hy
  subst hi
  refine BR m1 ?_
  rw [m2]
  have e1 : a.tmps[18 + 3 * k]? = some (ptr g) := by
    obtain ⟨z, z1, z2⟩ := h.fa (3 * k) (by omega) h1
    unfold Fact at z2
    rw [if_pos (by omega), if_pos (by omega)] at z2
    rw [z2, dst, if_pos (by omega)] at z1; exact z1
  have e2 : a.tmps[19 + 3 * k]? = some (.agg (tcs t0 t1 t2 t3 A tl.length c)) := by
    obtain ⟨z, z1, z2⟩ := h.fa (3 * k + 1) (by omega) h2
    unfold Fact at z2
    rw [if_pos (by omega), if_neg (by omega), if_pos (by omega)] at z2
    rw [z2, dst, if_pos (by omega), show 18 + (3 * k + 1) = 19 + 3 * k from by omega] at z1; exact z1
  refine mf Tryd.func28 (by kernel_rfl) rfl #[ptr g, .agg (tcs t0 t1 t2 t3 A tl.length c)] (uC m5) m2 m4 (by simp [EB e1, EB e2]) ?_
  have hI := h.sr
  rw [hcn] at hI
  refine (aK.calls K g L (p k) s t0 t1 t2 t3 A c tl (v k).f0 (v k).f1 (p (k + 1)) s w0 w hI h.bl (Kd.Ty (base := 0) (Kd.N_V h.nt) (fun _ hk => hk.1)) hc hA).mono ?_
  rintro e w' ⟨sv, rfl, hR, hI', hB', hK'⟩
  exact ⟨_, rfl, h.call hk hf h1 h2 h4 hR hI' hB' hK'⟩
end
end Go.Proofs.YtggelekooacmnaaDoor.Q
-- IA fifth region: what it leaves
namespace Go.Proofs.YtggelekooacmnaaDoor.Q
open Go.RowKit Go.Proofs.YtggelekooacmnaaDoorW.aJ Go.Proofs.YtggelekooacmnaaDoorW.bu Go.Proofs.YtggelekooacmnaaDoorW.bB
set_option linter.unusedVariables false
set_option linter.unusedSimpArgs false
def acts (a0 : Act) (g : Nat) (tv x1 x2 : Value) (b1 b2 : Nat) : Act :=
  (((((((a0.put (some 18) (ptr g)).put (some 19) tv).put (some 20) x1).put (some 21) (ptr g)).put (some 22) tv).put (some 23) x2).put (some 5) (ptr b1)).put (some 6) (ptr b2)
theorem acts_eq {a a0 : Act} {g b1 b2 : Nat} {tv x1 x2 : Value} (hs : a0.tmps.size = 63) (df : a.defers = a0.defers) (fr : ∀ N : Nat, (N < 5 ∨ (6 < N ∧ N < 18) ∨ 23 < N) → a.tmps[N]? = a0.tmps[N]?)
    (h18 : a.tmps[18]? = some (ptr g)) (h19 : a.tmps[19]? = some tv) (h20 : a.tmps[20]? = some x1) (h21 : a.tmps[21]? = some (ptr g)) (h22 : a.tmps[22]? = some tv) (h23 : a.tmps[23]? = some x2)
    (h5 : a.tmps[5]? = some (ptr b1)) (h6 : a.tmps[6]? = some (ptr b2)) : a = acts a0 g tv x1 x2 b1 b2 := by
  have key : ∀ N : Nat, (acts a0 g tv x1 x2 b1 b2).tmps[N]? = if 6 = N then some (ptr b2) else if 5 = N then some (ptr b1) else if 23 = N then some x2 else if 22 = N then some tv else if 21 = N then some (ptr g) else if 20 = N then some x1 else if 19 = N then some tv else if 18 = N then some (ptr g) else a0.tmps[N]? := by
    intro N
    unfold acts
    rw [pt, pt, pt, pt, pt, pt, pt, pt]
    all_goals ((try simp only [Ju]); omega)
  have hd : (acts a0 g tv x1 x2 b1 b2).defers = a0.defers := by unfold acts; simp only [MO]
  refine act_ext (df.trans hd.symm) fun N => ?_
  rw [key]
  by_cases e6 : 6 = N
  · subst e6; rw [if_pos rfl]; exact h6
  by_cases e5 : 5 = N
  · subst e5; rw [if_neg (by omega), if_pos rfl]; exact h5
  rw [if_neg e6, if_neg e5]
  by_cases e : N < 18 ∨ 23 < N
  · rw [fr N (by omega)]
    repeat rw [if_neg (by omega)]
  · have : N = 18 ∨ N = 19 ∨ N = 20 ∨ N = 21 ∨ N = 22 ∨ N = 23 := by omega
    rcases this with rfl | rfl | rfl | rfl | rfl | rfl
    · rw [h18]; rfl
    · rw [h19]; rfl
    · rw [h20]; rfl
    · rw [h21]; rfl
    · rw [h22]; rfl
    · rw [h23]; rfl
section
variable {w0 : World} {g gb : Nat} {L : List Int} {s : Int} {p : Nat → Int} {v : Nat → S51} {t0 t1 t2 t3 : Int} {A : Option Addr} {c : Nat} {tl : List S24} {a0 : Act} {w : World} {Q : Exit → Act → World → Prop}
theorem IB {K : Nat} (hA : ∀ k, k < 2 → aK.f K L (p k) s t0 t1 t2 t3 tl = some ((v k).f0, (v k).f1, p (k + 1), s)) (hs : a0.tmps.size = 63) (hg3 : a0.tmps[3]? = some (ptr g)) (hg4 : a0.tmps[4]? = some (ptr gb))
    (hI : bC w0 w g L (p 0) s) (hB : Below w0.heap.size w0 w) (hbt : w.heap[gb]? = some (.cells (tcs t0 t1 t2 t3 A tl.length c) 24 (0, 0))) (hgb : w0.heap.size ≤ gb) (hne : gb ≠ g) (hN : Kd.N k24 24 w w0.heap.size (fun x => x ≠ g ∧ x ≠ gb) (.slice A tl.length c) tl) (hc : tl.length ≤ c)
    (hQ : ∀ A1 c1 A2 c2 b1 b2 w', w'.heap[gb]? = some (.cells (tcs t0 t1 t2 t3 A tl.length c) 24 (0, 0)) → Kd.N k24 24 w' w0.heap.size (fun x => x ≠ g) (.slice A tl.length c) tl → w'.heap[b1]? = some (.cells #[.int .i64 (v 0).f0, .slice A1 (v 0).f1.length c1] 51 (0, 0)) → w'.heap[b2]? = some (.cells #[.int .i64 (v 1).f0, .slice A2 (v 1).f1.length c2] 51 (0, 0)) →
      Kd.N k51 51 w' w0.heap.size (fun x => x ≠ g) (.slice A1 (v 0).f1.length c1) (v 0).f1 → Kd.N k51 51 w' w0.heap.size (fun x => x ≠ g) (.slice A2 (v 1).f1.length c2) (v 1).f1 → bC w0 w' g L (p 2) s → Below w0.heap.size w0 w' → w0.heap.size ≤ b1 → w0.heap.size ≤ b2 → b1 ≠ g → b2 ≠ g →
      Q .normal (acts a0 g (.agg (tcs t0 t1 t2 t3 A tl.length c)) (.agg #[.int .i64 (v 0).f0, .slice A1 (v 0).f1.length c1]) (.agg #[.int .i64 (v 1).f0, .slice A2 (v 1).f1.length c2]) b1 b2) w') :
    (Code.region 5 (opsOf Tryd.f11 5) true).wp Tryd.prog Q a0 w := by
  have hsz : (opsOf Tryd.f11 5).size = 10 := by kernel_rfl
  refine wp_region_any (by kernel_rfl) ?_
  rw [hsz]
  refine Yy (J := Jo w0 g gb L s p v (tcs t0 t1 t2 t3 A tl.length c) (.slice A tl.length c) tl a0) 8 2 (by kernel_rfl) (fun l a w h => by rw [hsz]; exact h.sz) ?_ ?_ 8 (Array.replicate 10 false) a0 _ (by rfl) ?_
  · intro listed a w h hu i hi
    obtain ⟨q1, q2⟩ := Uc (Gu hi).1
    have hi15 : i < 10 := by have := h.sz; omega
    by_cases h12 : i < 8
    · refine ⟨h12, ?_⟩
      have hl : ∀ j, listed.getD j false = false → listed.getD j false = true → False := fun j h1 h2 => by rw [h1] at h2; cases h2
      have c5 : listed.getD 5 false = true → listed.getD 2 false = true := fun hh => (h.cl 1 (by omega) hh).2.2 (by omega)
      have : i = 0 ∨ i = 1 ∨ i = 2 ∨ i = 3 ∨ i = 4 ∨ i = 5 ∨ i = 6 ∨ i = 7 := by omega
      rcases this with rfl | rfl | rfl | rfl | rfl | rfl | rfl | rfl
      · exact Ur h (by omega) rfl op3_0 rfl hg3
      · exact Us h (by omega) rfl op3_1 rfl hg4
      · obtain ⟨o, m1, _, _, _, m5⟩ := op3_2
        have hw := GD hi m1 m5
        refine Ut (k := 0) h (by omega) rfl q2 op3_2 rfl rfl rfl (hw 0 (by simp)) (hw 1 (by simp)) (fun h => absurd h (by omega)) (hA 0 (by omega)) ?_ hc
        unfold cnt
        rw [if_neg (fun e => hl 2 q2 (c5 e)), if_neg (fun e => hl 2 q2 e)]
      · exact Ur h (by omega) rfl op3_3 rfl hg3
      · exact Us h (by omega) rfl op3_4 rfl hg4
      · obtain ⟨o, m1, _, _, _, m5⟩ := op3_5
        have hw := GD hi m1 m5
        refine Ut (k := 1) h (by omega) rfl q2 op3_5 rfl rfl rfl (hw 3 (by simp)) (hw 4 (by simp)) (fun _ => hw 2 (by simp)) (hA 1 (by omega)) ?_ hc
        unfold cnt
        rw [if_neg (fun e => hl 5 q2 e), if_pos (hw 2 (by simp))]
      · exact do_box (k := 0) h (by omega) rfl q2 op3_6 rfl
      · exact do_box (k := 1) h (by omega) rfl q2 op3_7 rfl
    · exfalso
      have : i = 8 ∨ i = 9 := by omega
      rcases this with rfl | rfl
      · obtain ⟨o, m1, _, _, _, m5⟩ := op3_8
        have hw := GD hi m1 m5
        have h5 := h.cl 1 (by omega) (hw 5 (by simp))
        have e0 := hw 0 (by simp); have e1 := hw 1 (by simp); have e2 := hw 2 (by simp); have e6 := hw 6 (by simp); have e7 := hw 7 (by simp); have e5 := hw 5 (by simp)
        have e3 := h5.1; have e4 := h5.2.1
        simp only [Nat.mul_one, Nat.reduceMul, Nat.reduceAdd, Nat.reduceSub] at e3 e4
        simp [unl, e0, e1, e2, e3, e4, e5, e6, e7] at hu
      · obtain ⟨o, m1, _, _, _, m5⟩ := op3_9
        have := GD hi m1 m5 8 (by simp)
        rw [h.un 8 (by omega)] at this; cases this
  · intro listed a w h hall
    have el : listed = #[true, true, true, true, true, true, true, true, false, false] := by
      refine arr_eq h.sz fun i hi => ?_
      have hi : i < 10 := hi
      by_cases h12 : i < 8
      · rw [hall i h12]
        have : i = 0 ∨ i = 1 ∨ i = 2 ∨ i = 3 ∨ i = 4 ∨ i = 5 ∨ i = 6 ∨ i = 7 := by omega
        rcases this with rfl | rfl | rfl | rfl | rfl | rfl | rfl | rfl <;> rfl
      · rw [h.un i (by omega)]
        have : i = 8 ∨ i = 9 := by omega
        rcases this with rfl | rfl <;> rfl
    have pm : ∀ k, k < 2 → a.tmps[18 + 3 * k]? = some (ptr g) := fun k hk => by
      obtain ⟨z, z1, z2⟩ := h.fa (3 * k) (by omega) (hall _ (by omega))
      unfold Fact at z2
      rw [if_pos (by omega), if_pos (by omega)] at z2
      rw [z2, dst, if_pos (by omega)] at z1; exact z1
    have pl : ∀ k, k < 2 → a.tmps[19 + 3 * k]? = some (.agg (tcs t0 t1 t2 t3 A tl.length c)) := fun k hk => by
      obtain ⟨z, z1, z2⟩ := h.fa (3 * k + 1) (by omega) (hall _ (by omega))
      unfold Fact at z2
      rw [if_pos (by omega), if_neg (by omega), if_pos (by omega)] at z2
      rw [z2, dst, if_pos (by omega), show 18 + (3 * k + 1) = 19 + 3 * k from by omega] at z1; exact z1
    have pc : ∀ k, k < 2 → ∃ A c, a.tmps[20 + 3 * k]? = some (.agg #[.int .i64 (v k).f0, .slice A (v k).f1.length c]) ∧ Kd.N k51 51 w w0.heap.size (okr g gb listed a) (.slice A (v k).f1.length c) (v k).f1 := fun k hk => by
      obtain ⟨z, z1, z2⟩ := h.fa (3 * k + 2) (by omega) (hall _ (by omega))
      unfold Fact at z2
      rw [if_pos (by omega), if_neg (by omega), if_neg (by omega), show (3 * k + 2) / 3 = k from by omega] at z2
      obtain ⟨A, c, z3, z4⟩ := z2
      rw [z3, dst, if_pos (by omega), show 18 + (3 * k + 2) = 20 + 3 * k from by omega] at z1
      exact ⟨A, c, z1, z4⟩
    have pb : ∀ k, k < 2 → ∃ b, a.tmps[5 + k]? = some (ptr b) ∧ w.heap[b]? = some (.cells #[.int .i64 0, .slice none 0 0] 51 (0, 0)) ∧ w0.heap.size ≤ b ∧ b ≠ g ∧ b ≠ gb := fun k hk => by
      obtain ⟨z, z1, z2⟩ := h.fa (6 + k) (by omega) (hall _ (by omega))
      unfold Fact at z2
      rw [if_neg (by omega)] at z2
      obtain ⟨b, z3, z4⟩ := z2
      rw [z3, dst, if_neg (by omega), show 6 + k - 1 = 5 + k from by omega] at z1
      exact ⟨b, z1, z4⟩
    obtain ⟨A1, c1, m1, n1⟩ := pc 0 (by omega)
    obtain ⟨A2, c2, m2, n2⟩ := pc 1 (by omega)
    obtain ⟨b1, k1, q1, g1, r1, u1⟩ := pb 0 (by omega)
    obtain ⟨b2, k2, q2, g2, r2, u2⟩ := pb 1 (by omega)
    have d12 : b1 ≠ b2 := fun e => h.di 0 1 b1 (by omega) (by omega) (by omega) (hall _ (by omega)) (hall _ (by omega)) k1 (by rw [e]; exact k2)
    have ok1 : ∀ x, okr g gb listed a x → x ≠ b1 := fun x hx e => hx.2.2 0 (by omega) (hall _ (by omega)) (by rw [e]; exact k1)
    have ok2 : ∀ x, okr g gb listed a x → x ≠ b2 := fun x hx e => hx.2.2 1 (by omega) (hall _ (by omega)) (by rw [e]; exact k2)
    have ea := acts_eq hs h.df h.fr (pm 0 (by omega)) (pl 0 (by omega)) m1 (pm 1 (by omega)) (pl 1 (by omega)) m2 k1 k2
    have hN : ∀ {α : Type} {d : Kd α} {e : Nat} {sv : Value} {l : List α}, Kd.N d e w w0.heap.size (okr g gb listed a) sv l → Kd.N d e (put2 (put2 w b1 (.int .i64 (v 0).f0) (.slice A1 (v 0).f1.length c1)) b2 (.int .i64 (v 1).f0) (.slice A2 (v 1).f1.length c2)) w0.heap.size (fun x => x ≠ g) sv l :=
      fun hn => Kd.dG (put2_N (put2_N hn ok1) ok2) fun x hx => hx.1
    have f1 := RQ (x := .int .i64 (v 0).f0) (y := .slice A1 (v 0).f1.length c1) q1
    have f2 := RQ (x := .int .i64 (v 1).f0) (y := .slice A2 (v 1).f1.length c2) ((CL (w := w) (x := .int .i64 (v 0).f0) (y := .slice A1 (v 0).f1.length c1) d12.symm).trans q2)
    have hc2 : cnt listed = 2 := by unfold cnt; rw [if_pos (hall 5 (by omega))]
    have hS : bC w0 (put2 (put2 w b1 (.int .i64 (v 0).f0) (.slice A1 (v 0).f1.length c1)) b2 (.int .i64 (v 1).f0) (.slice A2 (v 1).f1.length c2)) g L (p 2) s := by
      have := h.sr
      rw [hc2] at this
      exact (((this.far (p := ⟨b1, 0, none⟩) (Ne.symm r1) _).far (p := ⟨b1, 1, none⟩) (Ne.symm r1) _).far (p := ⟨b2, 0, none⟩) (Ne.symm r2) _).far (p := ⟨b2, 1, none⟩) (Ne.symm r2) _
    have hR := hQ A1 c1 A2 c2 b1 b2 _ (((CL u2.symm).trans (CL u1.symm)).trans h.bt) (hN h.nt) ((CL d12).trans f1) f2 (hN n1) (hN n2) hS (MR (MR h.bl g1) g2) g1 g2 r1 r2
    rw [← ea] at hR
    rw [el]
    have y1 : Region.ready .any (opsOf Tryd.f11 5) #[true, true, true, true, true, true, true, true, false, false] = [8] := by kernel_rfl
    have y2 : Region.ready .any (opsOf Tryd.f11 5) #[true, true, true, true, true, true, true, true, true, false] = [9] := by kernel_rfl
    have y3 : Region.ready .any (opsOf Tryd.f11 5) #[true, true, true, true, true, true, true, true, true, true] = [] := by kernel_rfl
    refine ⟨fun e => (by rw [y1] at e; cases e), fun i hi => ?_⟩
    rw [y1] at hi
    obtain rfl : i = 8 := by simpa using hi
    obtain ⟨o, o1, o2, o3, o4, _⟩ := op3_8
    refine BR o1 ?_
    rw [o2]
    refine qB (uC o4) o2 (run_store o3 a w b1 _ A1 _ c1 _ _ k1 m1 q1) ?_
    refine ⟨fun e => (by rw [show (#[true, true, true, true, true, true, true, true, false, false] : Array Bool).setIfInBounds 8 true = #[true, true, true, true, true, true, true, true, true, false] from rfl, y2] at e; cases e), fun i hi => ?_⟩
    rw [show (#[true, true, true, true, true, true, true, true, false, false] : Array Bool).setIfInBounds 8 true = #[true, true, true, true, true, true, true, true, true, false] from rfl] at hi ⊢
    rw [y2] at hi
    obtain rfl : i = 9 := by simpa using hi
    obtain ⟨o, o1, o2, o3, o4, _⟩ := op3_9
    refine BR o1 ?_
    rw [o2]
    refine qB (uC o4) o2 (run_store o3 a (put2 w b1 (.int .i64 (v 0).f0) (.slice A1 (v 0).f1.length c1)) b2 _ A2 _ c2 _ _ k2 m2 ((CL d12.symm).trans q2)) ?_
    exact ⟨y3, hR⟩
  · have hdr : ∀ {α : Type} {d : Kd α} {e : Nat} {ok : Nat → Prop} {sv : Value} {l : List α}, Kd.N d e w w0.heap.size ok sv l → Kd.N d e w.drew w0.heap.size ok sv l := fun hn => Kd.Iy hn
    have hz : ∀ i, (Array.replicate 10 false).getD i false = false := fun i => by rw [Array.getD_eq_getD_getElem?, Array.getElem?_replicate]; split <;> rfl
    refine ⟨by simp, fun i _ => hz i, fun k _ h => (by rw [hz] at h; cases h), rfl, hs, fun N _ => rfl, fun i _ h => (by rw [hz] at h; cases h), fun j k b _ _ _ h => (by rw [hz] at h; cases h), ?_, yg hB, hbt, hne, hdr (Kd.dG hN fun x hx => ⟨hx.1, hx.2, fun k _ h => (by rw [hz] at h; cases h)⟩)⟩
    have : cnt (Array.replicate 10 false) = 0 := by unfold cnt; rw [hz, hz]; rfl
    rw [this]; exact hI.drew
end
end Go.Proofs.YtggelekooacmnaaDoor.Q
namespace Go.Proofs.YtggelekooacmnaaDoor.Q
open Go.RowKit Go.Proofs.YtggelekooacmnaaDoorW.aJ Go.Proofs.YtggelekooacmnaaDoorW.bu Go.Proofs.YtggelekooacmnaaDoorW.bB
attribute [local go_sem] cZ dh dO dP bX bY dm dn   -- for this text's walks alone
set_option linter.unusedVariables false
set_option linter.unusedSimpArgs false

/-! ### eu: function 38 -/
mutual
def eu.l0 : Nat → Int → List (S24) → Int → Int → Option (Int)
 | 0, _, _, _, _ => none
 | k + 1, x3, x7, x8, x9 => if x9 < x8 then (if 0 ≤ x9 then (if x9 < (x7.length : Int) then ((eu.f k ((ag x7 x9).f0) ((ag x7 x9).f1) ((ag x7 x9).f2) ((ag x7 x9).f3) ((ag x7 x9).f4)).bind fun t104 => (eu.l0 k (mx x3 t104) x7 x8 (wrap64 (x9 + 1)))) else (none)) else (none)) else (some (wrap64 (x3 + 1)))
def eu.f : Nat → Int → Int → Int → Int → List (S24) → Option (Int)
 | 0, _, _, _, _, _ => none
 | k + 1, ah, ak, aj, ai, af => eu.l0 k 0 af (af.length : Int) 0
end
theorem eu.iH : ∀ k, (∀ y0 y1 y2 y3 y4, LeO (eu.f k y0 y1 y2 y3 y4) (eu.f (k + 1) y0 y1 y2 y3 y4)) ∧ (∀ y0 y1 y2 y3, LeO (eu.l0 k y0 y1 y2 y3) (eu.l0 (k + 1) y0 y1 y2 y3))
 | 0 => ⟨fun _ _ _ _ _ r h => by simp [eu.f] at h, fun _ _ _ _ r h => by simp [eu.l0] at h⟩
 | k + 1 => by
  obtain ⟨ih0, ih1⟩ := eu.iH k; refine ⟨?_, ?_⟩
  ·intro y0 y1 y2 y3 y4; unfold eu.f; repeat' (with_reducible exact ih1 _ _ _ _)
  ·intro y0 y1 y2 y3; unfold eu.l0; exact mo_
theorem eu.mono : ∀ a0 a1 a2 a3 a4 k, LeO (eu.f k a0 a1 a2 a3 a4) (eu.f (k + 1) a0 a1 a2 a3 a4) := by
 intro a0 a1 a2 a3 a4 k; obtain ⟨ih0, ih1⟩ := eu.iH k; exact ih0 a0 a1 a2 a3 a4
set_option maxHeartbeats 8000000 in
set_option maxRecDepth 100000 in
theorem eu.calls (k : Nat) : ∀ (ah ak aj ai : Int) (aY : Option Addr) (aT : Nat) (af : List (S24)) (r : Int) (w : World) (dD : Kd.C k24 w aY af.length af) (dX : af.length ≤ aT) (h : eu.f k ah ak aj ai af = some r),
  Calls Tryd.prog 38 #[.agg #[.int .i64 ah, .int .i64 ak, .int .i64 aj, .int .i64 ai, .slice aY af.length aT]] w fun e w' => e = .returned (.int .i64 r) ∧ Below w.heap.size w w' := by
 induction k using Nat.strongRecOn with
 | _ k ih =>
 intro ah ak aj ai aY aT af r w dD dX h; cases k with
 | zero => exact absurd h (by simp [eu.f])
 | succ k =>
 simp only [eu.f] at h; have bT := aa.mk dD; clear dD dX; have HB := aa.mk (Below.refl w.heap.size w); have H := h; unfold eu.f at H; clear h; have H' := aa.mk H; clear H; go_enter Tryd.func38, Tryd.ntmps38; go_wp2_with (((with_reducible refine aM (N := 1) rfl ?_); refine bx_ ((t5_ ah ak aj ai aY af.length aT)) 24 ?_; intro gb101 hg w2 JB _ HB hb; clear hb hg; obtain ⟨_, _, _, _, hcz3_4, _, _, _, _, _⟩ := bE JB.out))
 go_loopg [3, 9] k (fun kq v3 v9 w' => ∃ (jS : Int) (lh : Int), v3 = .int .i64 jS ∧ v9 = .int .i64 lh ∧ aa (eu.l0 kq jS af (af.length : Int) lh = some r) ∧ aa (kq ≤ k) ∧ aa (w'.heap[gb101]? = some (.cells #[.int .i64 ah, .int .i64 ak, .int .i64 aj, .int .i64 ai, (.slice aY af.length aT)] 24 (0, 0))) ∧ aa (Below w.heap.size w w'))
 case atStart => exact ⟨(0), (0), rs_, rs_, H', ⟨Nat.le_refl _⟩, ⟨bk_⟩, ⟨bl_⟩⟩
 case round =>
  clear H'; obtain ⟨jS, lh, rfl, rfl, HA, HK1, JB, HB⟩ := hrel; cases gk with
  | zero => exact absurd HA.out (by simp [eu.l0])
  | succ k1 =>
   have H := HA.out; clear HA; simp only [eu.l0] at H; by_cases c4 : lh < (af.length : Int)
   ·rw [if_pos c4] at H; clear c4; by_cases c5 : 0 ≤ lh
    ·rw [if_pos c5] at H; have rH := decide_eq_true c5; clear c5; by_cases c6 : lh < (af.length : Int)
     ·rw [if_pos c6] at H; have rX := decide_eq_true c6; clear c6; replace H := Option.bind_eq_some_iff.mp H; obtain ⟨t104, A70, H⟩ := H; have A7 := aa.mk A70; clear A70; obtain ⟨ji8, hji8⟩ : ∃ j_ : Int, (mx jS t104) = j_ := ⟨_, rfl⟩; replace H : (eu.l0 k1 ji8 af (af.length : Int) (wrap64 (lh + 1))) = some r := by (rw [hji8] at H; exact H)
      have hji8_ : (if jS < t104 then t104 else jS) = ji8 := hji8; have H' := aa.mk H; clear H; have p102 : 0 ≤ (lh : Int) := dt_; have q102 : lh < (af.length : Int) := dt_; obtain ⟨ad102, A102_4, c102_4, e102, Uu, Uv, Uw, Ux, Uy, Uz, UA⟩ := gu bT.out lh p102 q102; cases e102; replace Uu := hc_ HB Uu; replace Uv := hc_ HB Uv; replace Uw := hc_ HB Uw; replace Ux := hc_ HB Ux; replace Uy := hc_ HB Uy; have HR102_4 := aa.mk UA; have HC102_4 := aa.mk Uz; clear UA Uz; replace p102 := eq_true p102; replace q102 := eq_true q102; go_wp2_with (first | ((with_reducible refine aM (N := 5) rfl ?_); refine bx_ ((t5_ 0 0 0 0 none 0 0)) 24 ?_; intro gb103 hg w9 BK103 GW103 HB hb; have GE103 := GW103; have NB101_103 := nl_ JB hg; replace JB := kb_ JB hb; clear hb hg; obtain ⟨xL, ED, EE, OU, JC, UB, UC, UD, hfz11_3, hfz11_4⟩ := bE BK103.out) | ((with_reducible refine ay (f := 38) rfl ?_); refine gl_ (some 15) Tryd.func38 #[.agg (t5_ ((ag af lh).f0) ((ag af lh).f1) ((ag af lh).f2) ((ag af lh).f3) A102_4 ((ag af lh).f4).length c102_4)] ?_; (with_reducible refine (ih k1 (by have := HK1.out; omega) ((ag af lh).f0) ((ag af lh).f1) ((ag af lh).f2) ((ag af lh).f3) _ _ ((ag af lh).f4) t104 _ ?au ?av A7.out).mono ?_); (case au => exact Kd.aV HR102_4.out bl_); (case av => exact HC102_4.out); rintro e w12 ⟨rfl, hb⟩; refine ⟨_, rfl, ?_⟩; replace JB := aa.mk (gW (g := gb101) (o := .cells (t5_ ah ak aj ai (some ad102) af.length aT) 24 (0, 0)) b5_ hb); replace HB := aa.mk (ax bl_ hb)))
      go_roundg k1
      case measure => have := HK1.out; omega
      case rel => exact ⟨(ji8), (wrap64 (lh + 1)), (by rfl), rs_, H', ⟨by have := HK1.out; omega⟩, ⟨bk_⟩, ⟨bl_⟩⟩
     ·rw [if_neg c6] at H; exact absurd H (by simp)
    ·rw [if_neg c5] at H; exact absurd H (by simp)
   ·rw [if_neg c4] at H; have kN := decide_eq_false c4; clear c4; obtain rfl := Option.some.inj H; go_wp2; go_ret; exact ⟨re_, bl_⟩


/-! ### kP: function 69 -/
def kP.f (ah ak aj ai : Int) (af : List (S24)) : Option (Bool) := if ah = 2 then (if ai = 0 then (some ((af.length : Int) != 0)) else (some true)) else (if ah = 6 then (if ak = 0 then (some (aj != 0)) else (some true)) else (if ah = 5 then (if ak = 0 then (if aj = 0 then (some (ai != 0)) else (some true)) else (some true)) else (if ak = 0 then (if aj = 0 then (if ai = 0 then (some ((af.length : Int) != 0)) else (some true)) else (some true)) else (some true))))
set_option maxHeartbeats 8000000 in
set_option maxRecDepth 100000 in
theorem kP.calls (ah ak aj ai : Int) (aY : Option Addr) (aT : Nat) (af : List (S24)) (r : Bool) (w : World) (dD : Kd.C k24 w aY af.length af) (dX : af.length ≤ aT) (h : kP.f ah ak aj ai af = some r) :
  Calls Tryd.prog 69 #[.agg #[.int .i64 ah, .int .i64 ak, .int .i64 aj, .int .i64 ai, .slice aY af.length aT]] w fun e w' => e = .returned (.bool r) ∧ Below w.heap.size w w' := by
 clear dD dX; have HB := aa.mk (Below.refl w.heap.size w); have H : (if ah = 2 then (if ai = 0 then (some ((af.length : Int) != 0)) else (some true)) else (if ah = 6 then (if ak = 0 then (some (aj != 0)) else (some true)) else (if ah = 5 then (if ak = 0 then (if aj = 0 then (some (ai != 0)) else (some true)) else (some true)) else (if ak = 0 then (if aj = 0 then (if ai = 0 then (some ((af.length : Int) != 0)) else (some true)) else (some true)) else (some true))))) = some r := h; clear h; by_cases c2 : ah = 2
 ·rw [if_pos c2] at H; obtain ⟨uW, c2b1⟩ := bq_ c2; clear c2; by_cases c3 : ai = 0
  focus
   rw [if_pos c3] at H; obtain ⟨kM, mF⟩ := bq_ c3; clear c3
  rotate_left
  focus
   rw [if_neg c3] at H; obtain ⟨kM, mF⟩ := bn_ c3
  rotate_left
  all_goals
   obtain rfl := Option.some.inj H; go_enter Tryd.func69, Tryd.ntmps69; go_wp2_with (((with_reducible refine aM (N := 1) rfl ?_); (try (refine gH (by rfl) ?_; dsimp only)); refine bx_ ((t5_ ah ak aj ai aY af.length aT)) 24 ?_; intro gb105 hg w4 GG _ HB hb; clear hb hg; obtain ⟨CO, _, _, hcz5_3, hcz5_4, _, _, _, _, _⟩ := bE GG.out))
   go_ret; exact ⟨re_, bl_⟩
 ·rw [if_neg c2] at H; obtain ⟨uW, c2b1⟩ := bn_ c2; by_cases c8 : ah = 6
  ·rw [if_pos c8] at H; obtain ⟨wE, AV⟩ := bq_ c8; clear c8; by_cases c9 : ak = 0
   focus
    rw [if_pos c9] at H; obtain ⟨qH, CP⟩ := bq_ c9; clear c9
   rotate_left
   focus
    rw [if_neg c9] at H; obtain ⟨qH, CP⟩ := bn_ c9
   rotate_left
   all_goals
    obtain rfl := Option.some.inj H; go_enter Tryd.func69, Tryd.ntmps69; go_wp2_with (((with_reducible refine aM (N := 1) rfl ?_); (try (refine gH (by rfl) ?_; dsimp only)); refine bx_ ((t5_ ah ak aj ai aY af.length aT)) 24 ?_; intro gb105 hg w10 GG _ HB hb; clear hb hg; obtain ⟨xL, ED, EE, _, _, _, _, _, _, _⟩ := bE GG.out))
    go_ret; exact ⟨re_, bl_⟩
  ·rw [if_neg c8] at H; obtain ⟨wE, AV⟩ := bn_ c8; by_cases c14 : ah = 5
   ·rw [if_pos c14] at H; obtain ⟨vQ, JD⟩ := bq_ c14; clear c14; by_cases c15 : ak = 0
    focus
     rw [if_pos c15] at H; obtain ⟨Ag, MS⟩ := bq_ c15; clear c15; by_cases c16 : aj = 0
     focus
      rw [if_pos c16] at H; obtain ⟨MU, c16b1⟩ := bq_ c16; clear c16
     rotate_left
     focus
      rw [if_neg c16] at H; obtain ⟨MU, c16b1⟩ := bn_ c16
     rotate_left
    rotate_left 2
    focus
     rw [if_neg c15] at H; obtain ⟨Ag, MS⟩ := bn_ c15
    rotate_left
    all_goals
     obtain rfl := Option.some.inj H; go_enter Tryd.func69, Tryd.ntmps69; go_wp2_with (((with_reducible refine aM (N := 1) rfl ?_); (try (refine gH (by rfl) ?_; dsimp only)); refine bx_ ((t5_ ah ak aj ai aY af.length aT)) 24 ?_; intro gb105 hg w17 GG _ HB hb; clear hb hg; obtain ⟨vR, uD, xM, zf, _, _, _, _, _, _⟩ := bE GG.out))
     go_ret; exact ⟨re_, bl_⟩
   ·rw [if_neg c14] at H; obtain ⟨vQ, JD⟩ := bn_ c14; by_cases c23 : ak = 0
    focus
     rw [if_pos c23] at H; obtain ⟨Bq, MV⟩ := bq_ c23; clear c23; by_cases c24 : aj = 0
     focus
      rw [if_pos c24] at H; obtain ⟨Ah, MW⟩ := bq_ c24; clear c24; by_cases c25 : ai = 0
      focus
       rw [if_pos c25] at H; obtain ⟨MX, c25b1⟩ := bq_ c25; clear c25
      rotate_left
      focus
       rw [if_neg c25] at H; obtain ⟨MX, c25b1⟩ := bn_ c25
      rotate_left
     rotate_left 2
     focus
      rw [if_neg c24] at H; obtain ⟨Ah, MW⟩ := bn_ c24
     rotate_left
    rotate_left 3
    focus
     rw [if_neg c23] at H; obtain ⟨Bq, MV⟩ := bn_ c23
    rotate_left
    all_goals
     obtain rfl := Option.some.inj H; go_enter Tryd.func69, Tryd.ntmps69; go_wp2_with (((with_reducible refine aM (N := 1) rfl ?_); (try (refine gH (by rfl) ?_; dsimp only)); refine bx_ ((t5_ ah ak aj ai aY af.length aT)) 24 ?_; intro gb105 hg w26 GG _ HB hb; clear hb hg; obtain ⟨OV, JE, JF, JG, JH, _, _, _, _, _⟩ := bE GG.out))
     go_ret; exact ⟨re_, bl_⟩


/-! ### bg: function 39 -/
mutual
def bg.j0 : Nat → Bool → Int → Int → Int → Int → List (S24) → Option (Int)
 | 0, _, _, _, _, _, _ => none
 | k + 1, x15, uE, vS, vT, vU, lQ => if x15 = true then (some 14) else ((kP.f uE vS vT vU lQ).bind fun t107 => (if t107 = true then (some 2) else (if uE = 2 then (if vS < (-1000) then (some 1) else (if vS > vT then (some 1) else (if vT > 1000 then (some 1) else (some 0)))) else (if uE = 5 then (if (lQ.length : Int) < 2 then (bg.j1 k true uE vS vT vU lQ) else (bg.j1 k (decide ((lQ.length : Int) > 4)) uE vS vT vU lQ)) else (if uE = 6 then (if vU < 1 then (bg.j3 k true uE vS vT vU lQ) else (bg.j3 k (decide (vU > 4)) uE vS vT vU lQ)) else (some 0))))))
def bg.j1 : Nat → Bool → Int → Int → Int → Int → List (S24) → Option (Int)
 | 0, _, _, _, _, _, _ => none
 | k + 1, x48, uE, vS, vT, vU, lQ => if x48 = true then (some 1) else (bg.l0 k lQ (lQ.length : Int) 0)
def bg.l0 : Nat → List (S24) → Int → Int → Option (Int)
 | 0, _, _, _ => none
 | k + 1, x50, x51, x52 => if x52 < x51 then (if 0 ≤ x52 then (if x52 < (x50.length : Int) then ((bg.f k ((ag x50 x52).f0) ((ag x50 x52).f1) ((ag x50 x52).f2) ((ag x50 x52).f3) ((ag x50 x52).f4)).bind fun t110 => (if t110 = 0 then (if ((ag x50 x52).f0) = 3 then (some 8) else (if ((ag x50 x52).f0) = 4 then (some 8) else (bg.l0 k x50 x51 (wrap64 (x52 + 1))))) else (some t110))) else (none)) else (none)) else (some 0)
def bg.j3 : Nat → Bool → Int → Int → Int → Int → List (S24) → Option (Int)
 | 0, _, _, _, _, _, _ => none
 | k + 1, x79, uE, vS, vT, vU, lQ => if x79 = true then (some 1) else (if (lQ.length : Int) = 1 then (if 0 < (lQ.length : Int) then ((bg.f k ((ag lQ 0).f0) ((ag lQ 0).f1) ((ag lQ 0).f2) ((ag lQ 0).f3) ((ag lQ 0).f4)).bind fun t112 => (if t112 = 0 then (if ((ag lQ 0).f0) = 1 then (some 0) else (if ((ag lQ 0).f0) = 2 then (some 0) else (some 8))) else (some t112))) else (none)) else (some 2))
def bg.f : Nat → Int → Int → Int → Int → List (S24) → Option (Int)
 | 0, _, _, _, _, _ => none
 | k + 1, ah, ak, aj, ai, af => if ah < 1 then (bg.j0 k true ah ak aj ai af) else (bg.j0 k (decide (ah > 6)) ah ak aj ai af)
end
theorem bg.iH : ∀ k, (∀ y0 y1 y2 y3 y4, LeO (bg.f k y0 y1 y2 y3 y4) (bg.f (k + 1) y0 y1 y2 y3 y4)) ∧ (∀ y0 y1 y2 y3 y4 y5, LeO (bg.j0 k y0 y1 y2 y3 y4 y5) (bg.j0 (k + 1) y0 y1 y2 y3 y4 y5)) ∧ (∀ y0 y1 y2 y3 y4 y5, LeO (bg.j1 k y0 y1 y2 y3 y4 y5) (bg.j1 (k + 1) y0 y1 y2 y3 y4 y5)) ∧ (∀ y0 y1 y2, LeO (bg.l0 k y0 y1 y2) (bg.l0 (k + 1) y0 y1 y2)) ∧ (∀ y0 y1 y2 y3 y4 y5, LeO (bg.j3 k y0 y1 y2 y3 y4 y5) (bg.j3 (k + 1) y0 y1 y2 y3 y4 y5))
 | 0 => ⟨fun _ _ _ _ _ r h => by simp [bg.f] at h, fun _ _ _ _ _ _ r h => by simp [bg.j0] at h, fun _ _ _ _ _ _ r h => by simp [bg.j1] at h, fun _ _ _ r h => by simp [bg.l0] at h, fun _ _ _ _ _ _ r h => by simp [bg.j3] at h⟩
 | k + 1 => by
  obtain ⟨ih0, ih1, ih2, ih3, ih4⟩ := bg.iH k; refine ⟨?_, ?_, ?_, ?_, ?_⟩
  ·intro y0 y1 y2 y3 y4; unfold bg.f; exact mo_
  ·intro y0 y1 y2 y3 y4 y5; unfold bg.j0; exact mo_
  ·intro y0 y1 y2 y3 y4 y5; unfold bg.j1; exact mo_
  ·intro y0 y1 y2; unfold bg.l0; exact mo_
  ·intro y0 y1 y2 y3 y4 y5; unfold bg.j3; exact mo_
theorem bg.mono : ∀ a0 a1 a2 a3 a4 k, LeO (bg.f k a0 a1 a2 a3 a4) (bg.f (k + 1) a0 a1 a2 a3 a4) := by
 intro a0 a1 a2 a3 a4 k; obtain ⟨ih0, ih1, ih2, ih3, ih4⟩ := bg.iH k; exact ih0 a0 a1 a2 a3 a4
set_option maxHeartbeats 8000000 in
set_option maxRecDepth 100000 in
theorem bg.calls (k : Nat) : ∀ (ah ak aj ai : Int) (aY : Option Addr) (aT : Nat) (af : List (S24)) (r : Int) (w : World) (dD : Kd.C k24 w aY af.length af) (dX : af.length ≤ aT) (h : bg.f k ah ak aj ai af = some r),
  Calls Tryd.prog 39 #[.agg #[.int .i64 ah, .int .i64 ak, .int .i64 aj, .int .i64 ai, .slice aY af.length aT]] w fun e w' => e = .returned (.int .i64 r) ∧ Below w.heap.size w w' := by
 induction k using Nat.strongRecOn with
 | _ k ih =>
 intro ah ak aj ai aY aT af r w dD dX h; cases k with
 | zero => exact absurd h (by simp [bg.f])
 | succ k =>
 simp only [bg.f] at h; have bT := aa.mk dD; have ed := aa.mk dX; clear dD dX; have HB := aa.mk (Below.refl w.heap.size w); have H : (if ah < 1 then (bg.j0 k true ah ak aj ai af) else (bg.j0 k (decide (ah > 6)) ah ak aj ai af)) = some r := h; clear h; have HC2 := aa.mk H; clear H; go_enter Tryd.func39, Tryd.ntmps39; go_upto_region 1 with (((with_reducible refine aM (N := 1) rfl ?_); (try (refine gH (by rfl) ?_; dsimp only)); refine bx_ ((t5_ ah ak aj ai aY af.length aT)) 24 ?_; intro MZ hg w3 jA _ HB hb; clear hb hg))
 go_cut [15] (fun v15 wc => ∃ (kq : Nat) (x15_1 : Bool), v15 = .bool x15_1 ∧ aa (bg.j0 kq x15_1 ah ak aj ai af = some r) ∧ aa (kq ≤ k) ∧ aa (wc.heap[MZ]? = some (.cells #[.int .i64 ah, .int .i64 ak, .int .i64 aj, .int .i64 ai, (.slice aY af.length aT)] 24 (0, 0))) ∧ aa (Below w.heap.size w wc))
 case first =>
  have H := HC2.out; clear HC2; by_cases c4 : ah < 1
  ·rw [if_pos c4] at H; have kN := decide_eq_true c4; clear c4; (skip)
   have H' := aa.mk H; clear H; obtain ⟨CO, _, _, _, _, _, _, _, _, _⟩ := bE jA.out; go_wp2; go_meet
   case rel => exact ⟨_, (true), rs_, H', ⟨by omega⟩, ⟨bk_⟩, ⟨bl_⟩⟩
  ·rw [if_neg c4] at H; have kN := decide_eq_false c4; clear c4; (skip)
   have H' := aa.mk H; clear H; obtain ⟨EF, _, _, _, _, _, _, _, _, _⟩ := bE jA.out; go_wp2; go_meet
   case rel => exact ⟨_, (decide (ah > 6)), rs_, H', ⟨by omega⟩, ⟨bk_⟩, ⟨bl_⟩⟩
 case rest =>
  clear HC2; (try clear p2); (try clear c3); (try clear c4); (try clear kN); (try clear CO); (try clear EF); obtain ⟨kq, x15_1, rfl, HA, HJ1, jA, HB⟩ := hcut; cases kq with
  | zero => exact absurd HA.out (by simp [bg.j0])
  | succ kj1 =>
   have H := HA.out; clear HA; simp only [bg.j0] at H; by_cases c7 : x15_1 = true
   ·subst c7; have H1 : (some 14) = some r := by rw [if_pos rfl] at H; exact H
    clear H; have H := H1; clear H1; obtain rfl := Option.some.inj H; go_wp2; go_ret; exact ⟨re_, bl_⟩
   ·replace c7 := Bool.eq_false_iff.mpr c7; subst c7; have H1 : ((kP.f ah ak aj ai af).bind fun t107 => (if t107 = true then (some 2) else (if ah = 2 then (if ak < (-1000) then (some 1) else (if ak > aj then (some 1) else (if aj > 1000 then (some 1) else (some 0)))) else (if ah = 5 then (if (af.length : Int) < 2 then (bg.j1 kj1 true ah ak aj ai af) else (bg.j1 kj1 (decide ((af.length : Int) > 4)) ah ak aj ai af)) else (if ah = 6 then (if ai < 1 then (bg.j3 kj1 true ah ak aj ai af) else (bg.j3 kj1 (decide (ai > 4)) ah ak aj ai af)) else (some 0)))))) = some r := by rw [if_neg (show ¬ (false = true) by decide)] at H; exact H
    clear H; have H := H1; clear H1; replace H := Option.bind_eq_some_iff.mp H; obtain ⟨t107, A80, H⟩ := H; have A8 := aa.mk A80; clear A80; by_cases c9 : t107 = true
    ·subst c9; have H1 : (some 2) = some r := by rw [if_pos rfl] at H; exact H
     clear H; have H := H1; clear H1; obtain rfl := Option.some.inj H; obtain ⟨o8, ql, vM, xK, zg, _, _, _, _, _⟩ := bE jA.out; go_wp2_with (((with_reducible refine ay (f := 69) rfl ?_); refine gl_ (some 17) Tryd.func69 #[.agg (t5_ ah ak aj ai aY af.length aT)] ?_; (with_reducible refine (kP.calls ah ak aj ai _ _ af true _ ?au ?av A8.out).mono ?_); (case au => exact cb_ (Kd.aV bT.out HB.out)); (case av => exact ed.out); rintro e w11 ⟨rfl, hb⟩; refine ⟨_, rfl, ?_⟩; replace HB := aa.mk (ax bl_ hb)))
     go_ret; exact ⟨re_, bl_⟩
    ·replace c9 := Bool.eq_false_iff.mpr c9; subst c9; have H1 : (if ah = 2 then (if ak < (-1000) then (some 1) else (if ak > aj then (some 1) else (if aj > 1000 then (some 1) else (some 0)))) else (if ah = 5 then (if (af.length : Int) < 2 then (bg.j1 kj1 true ah ak aj ai af) else (bg.j1 kj1 (decide ((af.length : Int) > 4)) ah ak aj ai af)) else (if ah = 6 then (if ai < 1 then (bg.j3 kj1 true ah ak aj ai af) else (bg.j3 kj1 (decide (ai > 4)) ah ak aj ai af)) else (some 0)))) = some r := by rw [if_neg (show ¬ (false = true) by decide)] at H; exact H
     clear H; have H := H1; clear H1; by_cases c12 : ah = 2
     ·rw [if_pos c12] at H; obtain ⟨wP, Br⟩ := bq_ c12; clear c12; by_cases c13 : ak < (-1000)
      focus
       rw [if_pos c13] at H; have Af := decide_eq_true c13; clear c13
      rotate_left
      focus
       rw [if_neg c13] at H; have Af := decide_eq_false c13; clear c13; by_cases c17 : ak > aj
       rotate_left
       ·rw [if_neg c17] at H; have Aj : decide (aj < ak) = false := decide_eq_false c17; clear c17; by_cases c21 : aj > 1000
        focus
         rw [if_pos c21] at H; have uQ : decide (1000 < aj) = true := decide_eq_true c21
        rotate_left
        focus
         rw [if_neg c21] at H; have uQ : decide (1000 < aj) = false := decide_eq_false c21
        rotate_left
        all_goals
         clear c21; obtain rfl := Option.some.inj H; obtain ⟨JI, EG, JJ, OW, OX, _, _, _, _, _⟩ := bE jA.out; go_wp2_with (((with_reducible refine ay (f := 69) rfl ?_); refine gl_ (some 17) Tryd.func69 #[.agg (t5_ ah ak aj ai aY af.length aT)] ?_; (with_reducible refine (kP.calls ah ak aj ai _ _ af false _ ?au ?av A8.out).mono ?_); (case au => exact cb_ (Kd.aV bT.out HB.out)); (case av => exact ed.out); rintro e w23 ⟨rfl, hb⟩; refine ⟨_, rfl, ?_⟩; replace jA := kb_ jA hb; replace HB := aa.mk (ax bl_ hb); obtain ⟨BU, BV, JK, _, _, _, _, _, _, _⟩ := bE jA.out))
         go_ret; exact ⟨re_, bl_⟩
       rw [if_pos c17] at H; have Aj : decide (aj < ak) = true := decide_eq_true c17; clear c17
      rotate_left
      all_goals
       obtain rfl := Option.some.inj H; obtain ⟨uF, vV, BX, xN, xO, _, _, _, _, _⟩ := bE jA.out; go_wp2_with (((with_reducible refine ay (f := 69) rfl ?_); refine gl_ (some 17) Tryd.func69 #[.agg (t5_ ah ak aj ai aY af.length aT)] ?_; (with_reducible refine (kP.calls ah ak aj ai _ _ af false _ ?au ?av A8.out).mono ?_); (case au => exact cb_ (Kd.aV bT.out HB.out)); (case av => exact ed.out); rintro e w15 ⟨rfl, hb⟩; refine ⟨_, rfl, ?_⟩; replace jA := kb_ jA hb; replace HB := aa.mk (ax bl_ hb); obtain ⟨qP, rY, uG, _, _, _, _, _, _, _⟩ := bE jA.out))
       go_ret; exact ⟨re_, bl_⟩
     ·rw [if_neg c12] at H; obtain ⟨wP, Br⟩ := bn_ c12; by_cases c28 : ah = 5
      ·rw [if_pos c28] at H; obtain ⟨c28b0, c28b1⟩ := bq_ c28; clear c28; have HC29 := aa.mk H; clear H; obtain ⟨zh, zi, BZ, Ca, Cb, _, _, _, _, _⟩ := bE jA.out; go_upto_region 10 with (((with_reducible refine ay (f := 69) rfl ?_); refine gl_ (some 17) Tryd.func69 #[.agg (t5_ ah ak aj ai aY af.length aT)] ?_; (with_reducible refine (kP.calls ah ak aj ai _ _ af false _ ?au ?av A8.out).mono ?_); (case au => exact cb_ (Kd.aV bT.out HB.out)); (case av => exact ed.out); rintro e w31 ⟨rfl, hb⟩; refine ⟨_, rfl, ?_⟩; replace jA := kb_ jA hb; replace HB := aa.mk (ax bl_ hb); obtain ⟨JL, _, _, _, OY, _, _, _, _, _⟩ := bE jA.out))
       go_cut [48] (fun v48 wc => ∃ (kq : Nat) (M0 : Bool), v48 = .bool M0 ∧ aa (bg.j1 kq M0 ah ak aj ai af = some r) ∧ aa (kq ≤ kj1) ∧ aa (wc.heap[MZ]? = some (.cells #[.int .i64 ah, .int .i64 ak, .int .i64 aj, .int .i64 ai, (.slice aY af.length aT)] 24 (0, 0))) ∧ aa (Below w.heap.size w wc))
       case first =>
        have H := HC29.out; clear HC29; by_cases c33 : (af.length : Int) < 2
        ·rw [if_pos c33] at H; have DI := decide_eq_true c33; clear c33; (skip)
         have H' := aa.mk H; clear H; obtain ⟨_, _, _, _, _, _, _, _, _, _⟩ := bE jA.out; go_wp2; go_meet
         case rel => exact ⟨_, (true), rs_, H', ⟨by have := HJ1.out; omega⟩, ⟨bk_⟩, ⟨bl_⟩⟩
        ·rw [if_neg c33] at H; have DI := decide_eq_false c33; clear c33; (skip)
         have H' := aa.mk H; clear H; obtain ⟨_, _, _, _, _, _, _, _, _, _⟩ := bE jA.out; go_wp2; go_meet
         case rel => exact ⟨_, (decide ((af.length : Int) > 4)), rs_, H', ⟨by have := HJ1.out; omega⟩, ⟨bk_⟩, ⟨bl_⟩⟩
       case rest =>
        clear HC29; (try clear c1); (try clear c2); (try clear p2); (try clear c3); (try clear c4); (try clear kN); (try clear c6); (try clear c7); (try clear c9); (try clear c12); (try clear wP); (try clear Br); (try clear c13); (try clear Af); (try clear c17); (try clear Aj); (try clear c21); (try clear uQ); (try clear c28); (try clear c28b0); (try clear c28b1); (try clear c33); (try clear DI); try skip
        (try clear o8 ql vM xK zg); (try clear uF vV BX xN xO); (try clear qP rY uG); (try clear vR uD xM zf zk JM JN OZ O0 O1); (try clear Cc zl EH O3 EI UE UF UG UH UI); (try clear JI EG JJ OW OX); (try clear BU BV JK); (try clear O4 O5 O6 O7 O8 UJ UK UL UM UN); (try clear OV JE JF JG JH UO UQ UR UT UU); (try clear zh zi BZ Ca Cb); (try clear JL OY); try skip
        try skip
        (try clear CO); (try clear EF); (try clear p2); obtain ⟨kq, M0, rfl, HA, HJ28, jA, HB⟩ := hcut; cases kq with
        | zero => exact absurd HA.out (by simp [bg.j1])
        | succ kj28 =>
         have H := HA.out; clear HA; simp only [bg.j1] at H; by_cases c36 : M0 = true
         ·subst c36; have H1 : (some 1) = some r := by rw [if_pos rfl] at H; exact H
          clear H; have H := H1; clear H1; obtain rfl := Option.some.inj H; go_wp2; go_ret; exact ⟨re_, bl_⟩
         ·replace c36 := Bool.eq_false_iff.mpr c36; subst c36; have H1 : (bg.l0 kj28 af (af.length : Int) 0) = some r := by rw [if_neg (show ¬ (false = true) by decide)] at H; exact H
          clear H; have H := H1; clear H1; have H' := aa.mk H; clear H; obtain ⟨_, _, _, _, JO, _, _, _, _, _⟩ := bE jA.out; go_wp2; go_loopg [52] kj28 (fun kq v52 w' => ∃ (mg : Int), v52 = .int .i64 mg ∧ aa (bg.l0 kq af (af.length : Int) mg = some r) ∧ aa (kq ≤ kj28) ∧ aa (w'.heap[MZ]? = some (.cells #[.int .i64 ah, .int .i64 ak, .int .i64 aj, .int .i64 ai, (.slice aY af.length aT)] 24 (0, 0))) ∧ aa (Below w.heap.size w w'))
          case atStart => exact ⟨(0), rs_, H', ⟨Nat.le_refl _⟩, ⟨bk_⟩, ⟨bl_⟩⟩
          case round =>
           clear H'; (try clear c1); (try clear c2); (try clear p2); (try clear c3); (try clear c4); (try clear kN); (try clear c6); (try clear c7); (try clear c9); (try clear c12); (try clear wP); (try clear Br); (try clear c13); (try clear Af); (try clear c17); (try clear Aj); (try clear c21); (try clear uQ); (try clear c28); (try clear c28b0); (try clear c28b1); (try clear c33); (try clear DI); try skip
           (try clear c36); (try clear o8 ql vM xK zg); (try clear uF vV BX xN xO); (try clear qP rY uG); (try clear vR uD xM zf zk JM JN OZ O0 O1); (try clear Cc zl EH O3 EI UE UF UG UH UI); (try clear JI EG JJ OW OX); (try clear BU BV JK); (try clear O4 O5 O6 O7 O8 UJ UK UL UM UN); (try clear OV JE JF JG JH UO UQ UR UT UU); (try clear zh zi BZ Ca Cb); (try clear JL OY); try skip
           try skip
           (try clear JO); (try clear CO); (try clear EF); (try clear p2); obtain ⟨mg, rfl, HA, HK3, jA, HB⟩ := hrel; cases gk with
           | zero => exact absurd HA.out (by simp [bg.l0])
           | succ k3 =>
            have H := HA.out; clear HA; simp only [bg.l0] at H; by_cases c38 : mg < (af.length : Int)
            ·rw [if_pos c38] at H; clear c38; by_cases c39 : 0 ≤ mg
             ·rw [if_pos c39] at H; have c39b0 := decide_eq_true c39; clear c39; by_cases c40 : mg < (af.length : Int)
              ·rw [if_pos c40] at H; have c40b0 := decide_eq_true c40; clear c40; replace H := Option.bind_eq_some_iff.mp H; obtain ⟨t110, A410, H⟩ := H; have A41 := aa.mk A410; clear A410; by_cases c42 : t110 = 0
               focus
                rw [if_pos c42] at H; obtain ⟨c42b0, c42b1⟩ := bq_ c42; clear c42; by_cases c43 : ((ag af mg).f0) = 3
                focus
                 rw [if_pos c43] at H; obtain ⟨c43b0, c43b1⟩ := bq_ c43; clear c43; obtain rfl := Option.some.inj H
                rotate_left
                focus
                 rw [if_neg c43] at H; obtain ⟨c43b0, c43b1⟩ := bn_ c43; by_cases c49 : ((ag af mg).f0) = 4
                 focus
                  rw [if_pos c49] at H; obtain ⟨JP, c49b1⟩ := bq_ c49; clear c49; obtain rfl := Option.some.inj H
                 rotate_left
                 focus
                  rw [if_neg c49] at H; obtain ⟨JP, c49b1⟩ := bn_ c49; have H' := aa.mk H; clear H
                 rotate_left
                rotate_left 2
               rotate_left 3
               focus
                rw [if_neg c42] at H; obtain ⟨c42b0, c42b1⟩ := bn_ c42; obtain rfl := Option.some.inj H
               rotate_left
               all_goals
                have p108 : 0 ≤ (mg : Int) := dt_; have q108 : mg < (af.length : Int) := dt_; obtain ⟨ad108, A108_4, c108_4, e108, O9, Pb, Pd, Pe, Pf, UW, UX⟩ := gu bT.out mg p108 q108; cases e108; replace O9 := hc_ HB O9; replace Pb := hc_ HB Pb; replace Pd := hc_ HB Pd; replace Pe := hc_ HB Pe; replace Pf := hc_ HB Pf; have HR108_4 := aa.mk UX; have HC108_4 := aa.mk UW; clear UX UW; replace p108 := eq_true p108; replace q108 := eq_true q108; go_wp2_with (first | ((with_reducible refine aM (N := 4) rfl ?_); (try (refine gH (by rfl) ?_; dsimp only)); refine bx_ ((t5_ 0 0 0 0 none 0 0)) 24 ?_; intro gb109 hg w50 BK109 GW109 HB hb; have GE109 := GW109; have NB106_109 := nl_ jA hg; replace jA := kb_ jA hb; clear hb hg; obtain ⟨JQ, JR, UY, UZ, Pg, JS, JU, U0, U1, U2⟩ := bE BK109.out) | ((with_reducible refine ay (f := 39) rfl ?_); refine gl_ (some 57) Tryd.func39 #[.agg (t5_ ((ag af mg).f0) ((ag af mg).f1) ((ag af mg).f2) ((ag af mg).f3) A108_4 ((ag af mg).f4).length c108_4)] ?_; (with_reducible refine (ih k3 (by have := HJ1.out; have := HJ28.out; have := HK3.out; omega) ((ag af mg).f0) ((ag af mg).f1) ((ag af mg).f2) ((ag af mg).f3) _ _ ((ag af mg).f4) t110 _ ?au ?av A41.out).mono ?_); (case au => exact Kd.aV HR108_4.out bl_); (case av => exact HC108_4.out); rintro e w53 ⟨rfl, hb⟩; refine ⟨_, rfl, ?_⟩; replace jA := aa.mk (gW (g := MZ) (o := .cells (t5_ ah ak aj ai (some ad108) af.length aT) 24 (0, 0)) b5_ hb); replace BK109 := aa.mk (gW (g := gb109) (o := .cells (t5_ ((ag af mg).f0) ((ag af mg).f1) ((ag af mg).f2) ((ag af mg).f3) A108_4 ((ag af mg).f4).length c108_4) 24 (0, 0)) b5_ hb); replace HB := aa.mk (ax bl_ hb); (try (obtain ⟨U3, _, _, _, _, _, _, _, _, _⟩ := bE BK109.out))))
               rotate_left 3
               ·go_ret; exact ⟨re_, bl_⟩
               ·go_ret; exact ⟨re_, bl_⟩
               ·go_ret; exact ⟨re_, bl_⟩
               ·go_roundg k3
                case measure => have := HJ1.out; have := HJ28.out; have := HK3.out; omega
                case rel => exact ⟨(wrap64 (mg + 1)), rs_, H', ⟨by have := HJ1.out; have := HJ28.out; have := HK3.out; omega⟩, ⟨bk_⟩, ⟨bl_⟩⟩
              ·rw [if_neg c40] at H; exact absurd H (by simp)
             ·rw [if_neg c39] at H; exact absurd H (by simp)
            ·rw [if_neg c38] at H; have c38b0 := decide_eq_false c38; clear c38; obtain rfl := Option.some.inj H; go_wp2; go_ret; exact ⟨re_, bl_⟩
      ·rw [if_neg c28] at H; obtain ⟨c28b0, c28b1⟩ := bn_ c28; by_cases c64 : ah = 6
       ·rw [if_pos c64] at H; obtain ⟨c64b0, c64b1⟩ := bq_ c64; clear c64; have HC65 := aa.mk H; clear H; obtain ⟨JV, JW, Ph, JX, Pj, _, _, _, _, _⟩ := bE jA.out; go_upto_region 22 with (((with_reducible refine ay (f := 69) rfl ?_); refine gl_ (some 17) Tryd.func69 #[.agg (t5_ ah ak aj ai aY af.length aT)] ?_; (with_reducible refine (kP.calls ah ak aj ai _ _ af false _ ?au ?av A8.out).mono ?_); (case au => exact cb_ (Kd.aV bT.out HB.out)); (case av => exact ed.out); rintro e w67 ⟨rfl, hb⟩; refine ⟨_, rfl, ?_⟩; replace jA := kb_ jA hb; replace HB := aa.mk (ax bl_ hb); obtain ⟨hcz68_0, _, _, hcz68_3, _, _, _, _, _, _⟩ := bE jA.out))
        go_cut [79] (fun v79 wc => ∃ (kq : Nat) (M3 : Bool), v79 = .bool M3 ∧ aa (bg.j3 kq M3 ah ak aj ai af = some r) ∧ aa (kq ≤ kj1) ∧ aa (wc.heap[MZ]? = some (.cells #[.int .i64 ah, .int .i64 ak, .int .i64 aj, .int .i64 ai, (.slice aY af.length aT)] 24 (0, 0))) ∧ aa (Below w.heap.size w wc))
        case first =>
         have H := HC65.out; clear HC65; by_cases c69 : ai < 1
         ·rw [if_pos c69] at H; have c69b0 := decide_eq_true c69; clear c69; (skip)
          have H' := aa.mk H; clear H; obtain ⟨_, _, _, _, _, _, _, _, _, _⟩ := bE jA.out; go_wp2; go_meet
          case rel => exact ⟨_, (true), rs_, H', ⟨by have := HJ1.out; omega⟩, ⟨bk_⟩, ⟨bl_⟩⟩
         ·rw [if_neg c69] at H; have c69b0 := decide_eq_false c69; clear c69; (skip)
          have H' := aa.mk H; clear H; obtain ⟨_, _, _, _, _, _, _, _, _, _⟩ := bE jA.out; go_wp2; go_meet
          case rel => exact ⟨_, (decide (ai > 4)), rs_, H', ⟨by have := HJ1.out; omega⟩, ⟨bk_⟩, ⟨bl_⟩⟩
        case rest =>
         clear HC65; (try clear c1); (try clear p1); (try clear q1); (try clear hx1); (try clear c2); (try clear p2); (try clear c3); (try clear c4); (try clear kN); (try clear c5); (try clear c6); (try clear p6); (try clear c7); (try clear c9); (try clear c10); (try clear p10); (try clear q10); (try clear hx10); (try clear c12); (try clear wP); (try clear Br); (try clear c13); (try clear Af); (try clear c17); (try clear Aj); (try clear c21); (try clear uQ); (try clear c28); (try clear c28b0); (try clear c28b1); (try clear c33); (try clear DI); try skip
         (try clear c36); (try clear c38); (try clear c38b0); (try clear c39); (try clear c39b0); (try clear c40); (try clear c40b0); (try clear c42); (try clear c42b0); (try clear c42b1); (try clear c43); (try clear c43b0); (try clear c43b1); (try clear c45); (try clear c49); (try clear JP); (try clear c49b1); (try clear c51); (try clear c56); (try clear c61); (try clear c64); (try clear c64b0); (try clear c64b1); (try clear p64); (try clear c69); (try clear c69b0); (try clear o8 ql vM xK zg); (try clear uF vV BX xN xO); (try clear qP rY uG); (try clear vR uD xM zf zk JM JN OZ O0 O1); (try clear Cc zl EH O3 EI UE UF UG UH UI); (try clear JI EG JJ OW OX); (try clear BU BV JK); (try clear O4 O5 O6 O7 O8 UJ UK UL UM UN); (try clear OV JE JF JG JH UO UQ UR UT UU); (try clear zh zi BZ Ca Cb); (try clear JL OY); try skip
         try skip
         (try clear JO); (try clear U4 hcz46_1 hcz46_2 hcz46_3 hcz46_4 hfz46_0 hfz46_1 hfz46_2 hfz46_3 hfz46_4); (try clear hcz48_0 hcz48_1 hcz48_2 hcz48_3 hcz48_4 hfz48_0 hfz48_1 hfz48_2 hfz48_3 hfz48_4); (try clear JQ JR UY UZ Pg JS JU U0 U1 U2); (try clear U3); (try clear Ce Cf hcz57_2 U5 U6 hfz57_0 hfz57_1 hfz57_2 hfz57_3 hfz57_4); (try clear Cg EJ EK EL Ch hfz59_0 hfz59_1 hfz59_2 hfz59_3 hfz59_4); (try clear CO); (try clear Uq hcz62_1 hcz62_2 hcz62_3 U7 hfz62_0 hfz62_1 hfz62_2 hfz62_3 hfz62_4); (try clear JV JW Ph JX Pj); (try clear hcz68_0 hcz68_3); (try clear EF); try skip
         try skip
         (try clear O9); (try clear Pb); (try clear Pd); (try clear Pe); (try clear Pf); (try clear p108); (try clear p2); (try clear q108); obtain ⟨kq, M3, rfl, HA, HJ64, jA, HB⟩ := hcut; cases kq with
         | zero => exact absurd HA.out (by simp [bg.j3])
         | succ kj64 =>
          have H := HA.out; clear HA; simp only [bg.j3] at H; by_cases c72 : M3 = true
          ·subst c72; have H1 : (some 1) = some r := by rw [if_pos rfl] at H; exact H
           clear H; have H := H1; clear H1; obtain rfl := Option.some.inj H; go_wp2; go_ret; exact ⟨re_, bl_⟩
          ·replace c72 := Bool.eq_false_iff.mpr c72; subst c72; have H1 : (if (af.length : Int) = 1 then (if 0 < (af.length : Int) then ((bg.f kj64 ((ag af 0).f0) ((ag af 0).f1) ((ag af 0).f2) ((ag af 0).f3) ((ag af 0).f4)).bind fun t112 => (if t112 = 0 then (if ((ag af 0).f0) = 1 then (some 0) else (if ((ag af 0).f0) = 2 then (some 0) else (some 8))) else (some t112))) else (none)) else (some 2)) = some r := by rw [if_neg (show ¬ (false = true) by decide)] at H; exact H
           clear H; have H := H1; clear H1; by_cases c73 : (af.length : Int) = 1
           ·rw [if_pos c73] at H; obtain ⟨c73b0, c73b1⟩ := bq_ c73; clear c73; by_cases c74 : 0 < (af.length : Int)
            ·rw [if_pos c74] at H; have c74b0 := decide_eq_true c74; clear c74; replace H := Option.bind_eq_some_iff.mp H; obtain ⟨t112, A750, H⟩ := H; have A75 := aa.mk A750; clear A750; by_cases c76 : t112 = 0
             focus
              rw [if_pos c76] at H; obtain ⟨c76b0, c76b1⟩ := bq_ c76; clear c76; by_cases c77 : ((ag af 0).f0) = 1
              focus
               rw [if_pos c77] at H; obtain ⟨c77b0, c77b1⟩ := bq_ c77; clear c77
              rotate_left
              focus
               rw [if_neg c77] at H; obtain ⟨c77b0, c77b1⟩ := bn_ c77; by_cases c81 : ((ag af 0).f0) = 2
               focus
                rw [if_pos c81] at H; obtain ⟨c81b0, c81b1⟩ := bq_ c81; clear c81
               rotate_left
               focus
                rw [if_neg c81] at H; obtain ⟨c81b0, c81b1⟩ := bn_ c81
               rotate_left
              rotate_left 2
             rotate_left 3
             focus
              rw [if_neg c76] at H; obtain ⟨c76b0, c76b1⟩ := bn_ c76
             rotate_left
             all_goals
              obtain rfl := Option.some.inj H; obtain ⟨_, _, _, _, hcz82_4, _, _, _, _, _⟩ := bE jA.out; have p111 : 0 ≤ (0 : Int) := (by omega); have q111 : 0 < (af.length : Int) := dt_; obtain ⟨ad111, A111_4, c111_4, e111, Pk, Pm, Pn, Po, Pp, U8, U9⟩ := gu bT.out 0 p111 q111; cases e111; have qi111 : (0 < af.length) = True := eq_true (by omega); (try simp only [z0_, Nat.zero_mul, Addr.add_zero'] at Pk Pm Pn Po Pp)
              replace Pk := hc_ HB Pk; replace Pm := hc_ HB Pm; replace Pn := hc_ HB Pn; replace Po := hc_ HB Po; replace Pp := hc_ HB Pp; have HR111_4 := aa.mk U9; have HC111_4 := aa.mk U8; clear U9 U8; go_wp2_with (((with_reducible refine ay (f := 39) rfl ?_); refine gl_ (some 88) Tryd.func39 #[.agg (t5_ ((ag af 0).f0) ((ag af 0).f1) ((ag af 0).f2) ((ag af 0).f3) A111_4 ((ag af 0).f4).length c111_4)] ?_; (with_reducible refine (ih kj64 (by have := HJ1.out; have := HJ64.out; omega) ((ag af 0).f0) ((ag af 0).f1) ((ag af 0).f2) ((ag af 0).f3) _ _ ((ag af 0).f4) t112 _ ?au ?av A75.out).mono ?_); (case au => exact cb_ (Kd.aV HR111_4.out HB.out)); (case av => exact HC111_4.out); rintro e w83 ⟨rfl, hb⟩; refine ⟨_, rfl, ?_⟩; replace jA := kb_ jA hb; replace HB := aa.mk (ax bl_ hb); obtain ⟨_, _, _, _, hcz84_4, _, _, _, _, _⟩ := bE jA.out; have p113 : 0 ≤ (0 : Int) := (by omega); have q113 : 0 < (af.length : Int) := dt_; obtain ⟨ad113, A113_4, c113_4, e113, Pq, Ps, Pt, Pv, Pw, _, _⟩ := gu bT.out 0 p113 q113; obtain rfl : ad111 = ad113 := (by injection e113); (try simp only [z0_, Nat.zero_mul, Addr.add_zero'] at Pq); (try simp only [z0_, Nat.zero_mul, Addr.add_zero'] at Ps); (try simp only [z0_, Nat.zero_mul, Addr.add_zero'] at Pt); (try simp only [z0_, Nat.zero_mul, Addr.add_zero'] at Pv); (try simp only [z0_, Nat.zero_mul, Addr.add_zero'] at Pw); replace Pq := hc_ HB Pq; replace Ps := hc_ HB Ps; replace Pt := hc_ HB Pt; replace Pv := hc_ HB Pv; replace Pw := hc_ HB Pw))
              go_ret; exact ⟨re_, bl_⟩
            ·rw [if_neg c74] at H; exact absurd H (by simp)
           ·rw [if_neg c73] at H; obtain ⟨c73b0, c73b1⟩ := bn_ c73; obtain rfl := Option.some.inj H; obtain ⟨_, _, _, _, hcz90_4, _, _, _, _, _⟩ := bE jA.out; go_wp2; go_ret; exact ⟨re_, bl_⟩
       ·rw [if_neg c64] at H; obtain ⟨c64b0, c64b1⟩ := bn_ c64; obtain rfl := Option.some.inj H; obtain ⟨hcz91_0, hcz91_1, hcz91_2, hcz91_3, hcz91_4, _, _, _, _, _⟩ := bE jA.out; go_wp2_with (((with_reducible refine ay (f := 69) rfl ?_); refine gl_ (some 17) Tryd.func69 #[.agg (t5_ ah ak aj ai aY af.length aT)] ?_; (with_reducible refine (kP.calls ah ak aj ai _ _ af false _ ?au ?av A8.out).mono ?_); (case au => exact cb_ (Kd.aV bT.out HB.out)); (case av => exact ed.out); rintro e w92 ⟨rfl, hb⟩; refine ⟨_, rfl, ?_⟩; replace jA := kb_ jA hb; replace HB := aa.mk (ax bl_ hb); obtain ⟨Px, _, _, _, _, _, _, _, _, _⟩ := bE jA.out))
        go_ret; exact ⟨re_, bl_⟩


/-! ### cO: function 40 -/
mutual
def cO.l0 : Nat → Int → List (S24) → Int → Int → Option (Int)
 | 0, _, _, _, _ => none
 | k + 1, x3, x11, x12, x13 => if x13 < x12 then (if 0 ≤ x13 then (if x13 < (x11.length : Int) then ((cO.f k ((ag x11 x13).f0) ((ag x11 x13).f1) ((ag x11 x13).f2) ((ag x11 x13).f3) ((ag x11 x13).f4)).bind fun t117 => (cO.l0 k (wrap64 (x3 + t117)) x11 x12 (wrap64 (x13 + 1)))) else (none)) else (none)) else (some x3)
def cO.f : Nat → Int → Int → Int → Int → List (S24) → Option (Int)
 | 0, _, _, _, _, _ => none
 | k + 1, ah, ak, aj, ai, af => if ah = 5 then (cO.l0 k 0 af (af.length : Int) 0) else (if ah = 6 then (if 0 < (af.length : Int) then ((cO.f k ((ag af 0).f0) ((ag af 0).f1) ((ag af 0).f2) ((ag af 0).f3) ((ag af 0).f4)).bind fun t119 => (some (wrap64 (1 + (wrap64 (ai * t119)))))) else (none)) else (some 1))
end
theorem cO.iH : ∀ k, (∀ y0 y1 y2 y3 y4, LeO (cO.f k y0 y1 y2 y3 y4) (cO.f (k + 1) y0 y1 y2 y3 y4)) ∧ (∀ y0 y1 y2 y3, LeO (cO.l0 k y0 y1 y2 y3) (cO.l0 (k + 1) y0 y1 y2 y3))
 | 0 => ⟨fun _ _ _ _ _ r h => by simp [cO.f] at h, fun _ _ _ _ r h => by simp [cO.l0] at h⟩
 | k + 1 => by
  obtain ⟨ih0, ih1⟩ := cO.iH k; refine ⟨?_, ?_⟩
  ·intro y0 y1 y2 y3 y4; unfold cO.f; exact mo_
  ·intro y0 y1 y2 y3; unfold cO.l0; exact mo_
theorem cO.mono : ∀ a0 a1 a2 a3 a4 k, LeO (cO.f k a0 a1 a2 a3 a4) (cO.f (k + 1) a0 a1 a2 a3 a4) := by
 intro a0 a1 a2 a3 a4 k; obtain ⟨ih0, ih1⟩ := cO.iH k; exact ih0 a0 a1 a2 a3 a4
def cO.T11 : Bool × List (List Nat × List Nat) := (true, [([], []), ([0], [0]), ([], []), ([2], [2]), ([3], [3]), ([4], [4]), ([5], [5]), ([1, 6], [1, 6]), ([7], [7]), ([8, 6, 0, 1, 2, 3, 4, 5, 6, 7, 8], [8])])
def cO.B11 : List Nat := [0, 1, 0, 4, 12, 28, 60, 127, 255, 511]
theorem cO.tab11 : jX .any (opsOf Tryd.f40 11) = cO.T11 := by kernel_rfl
theorem cO.bits11 : jK cO.T11.2 cO.B11 = true := by kernel_rfl
set_option maxHeartbeats 8000000 in
set_option maxRecDepth 100000 in
theorem cO.calls (k : Nat) : ∀ (ah ak aj ai : Int) (aY : Option Addr) (aT : Nat) (af : List (S24)) (r : Int) (w : World) (dD : Kd.C k24 w aY af.length af) (dX : af.length ≤ aT) (h : cO.f k ah ak aj ai af = some r),
  Calls Tryd.prog 40 #[.agg #[.int .i64 ah, .int .i64 ak, .int .i64 aj, .int .i64 ai, .slice aY af.length aT]] w fun e w' => e = .returned (.int .i64 r) ∧ Below w.heap.size w w' := by
 induction k using Nat.strongRecOn with
 | _ k ih =>
 intro ah ak aj ai aY aT af r w dD dX h; cases k with
 | zero => exact absurd h (by simp [cO.f])
 | succ k =>
 simp only [cO.f] at h; have bT := aa.mk dD; clear dD dX; have HB := aa.mk (Below.refl w.heap.size w); have H : (if ah = 5 then (cO.l0 k 0 af (af.length : Int) 0) else (if ah = 6 then (if 0 < (af.length : Int) then ((cO.f k ((ag af 0).f0) ((ag af 0).f1) ((ag af 0).f2) ((ag af 0).f3) ((ag af 0).f4)).bind fun t119 => (some (wrap64 (1 + (wrap64 (ai * t119)))))) else (none)) else (some 1))) = some r := h; clear h; by_cases c2 : ah = 5
 ·rw [if_pos c2] at H; obtain ⟨uW, c2b1⟩ := bq_ c2; clear c2; have H' := aa.mk H; clear H; go_enter Tryd.func40, Tryd.ntmps40; go_wp2_with (((with_reducible refine aM (N := 1) rfl ?_); refine bx_ ((t5_ ah ak aj ai aY af.length aT)) 24 ?_; intro Bt hg w3 mR _ HB hb; clear hb hg; obtain ⟨hcz4_0, _, _, _, hcz4_4, _, _, _, _, _⟩ := bE mR.out))
  go_loopg [3, 13] k (fun kq v3 v13 w' => ∃ (jS : Int) (jl : Int), v3 = .int .i64 jS ∧ v13 = .int .i64 jl ∧ aa (cO.l0 kq jS af (af.length : Int) jl = some r) ∧ aa (kq ≤ k) ∧ aa (w'.heap[Bt]? = some (.cells #[.int .i64 ah, .int .i64 ak, .int .i64 aj, .int .i64 ai, (.slice aY af.length aT)] 24 (0, 0))) ∧ aa (Below w.heap.size w w'))
  case atStart => exact ⟨(0), (0), rs_, rs_, H', ⟨Nat.le_refl _⟩, ⟨bk_⟩, ⟨bl_⟩⟩
  case round =>
   clear H'; obtain ⟨jS, jl, rfl, rfl, HA, HK1, mR, HB⟩ := hrel; cases gk with
   | zero => exact absurd HA.out (by simp [cO.l0])
   | succ k1 =>
    have H := HA.out; clear HA; simp only [cO.l0] at H; by_cases c5 : jl < (af.length : Int)
    ·rw [if_pos c5] at H; clear c5; by_cases c6 : 0 ≤ jl
     ·rw [if_pos c6] at H; have rX := decide_eq_true c6; clear c6; by_cases c7 : jl < (af.length : Int)
      ·rw [if_pos c7] at H; have tO := decide_eq_true c7; clear c7; replace H := Option.bind_eq_some_iff.mp H; obtain ⟨t117, A80, H⟩ := H; have A8 := aa.mk A80; clear A80; have H' := aa.mk H; clear H; have p115 : 0 ≤ (jl : Int) := dt_; have q115 : jl < (af.length : Int) := dt_; obtain ⟨ad115, A115_4, c115_4, e115, Va, Vb, Vd, Ve, Vf, Vg, Vh⟩ := gu bT.out jl p115 q115; cases e115; replace Va := hc_ HB Va; replace Vb := hc_ HB Vb; replace Vd := hc_ HB Vd; replace Ve := hc_ HB Ve; replace Vf := hc_ HB Vf; have HR115_4 := aa.mk Vh; have HC115_4 := aa.mk Vg; clear Vh Vg; replace p115 := eq_true p115; replace q115 := eq_true q115; go_wp2_with (first | ((with_reducible refine aM (N := 5) rfl ?_); refine bx_ ((t5_ 0 0 0 0 none 0 0)) 24 ?_; intro gb116 hg w9 BK116 GW116 HB hb; have GE116 := GW116; have NB114_116 := nl_ mR hg; replace mR := kb_ mR hb; clear hb hg; obtain ⟨xL, ED, EE, OU, JC, UB, UC, UD, hfz11_3, hfz11_4⟩ := bE BK116.out) | ((with_reducible refine ay (f := 40) rfl ?_); refine gl_ (some 19) Tryd.func40 #[.agg (t5_ ((ag af jl).f0) ((ag af jl).f1) ((ag af jl).f2) ((ag af jl).f3) A115_4 ((ag af jl).f4).length c115_4)] ?_; (with_reducible refine (ih k1 (by have := HK1.out; omega) ((ag af jl).f0) ((ag af jl).f1) ((ag af jl).f2) ((ag af jl).f3) _ _ ((ag af jl).f4) t117 _ ?au ?av A8.out).mono ?_); (case au => exact Kd.aV HR115_4.out bl_); (case av => exact HC115_4.out); rintro e w12 ⟨rfl, hb⟩; refine ⟨_, rfl, ?_⟩; replace mR := aa.mk (gW (g := Bt) (o := .cells (t5_ ah ak aj ai (some ad115) af.length aT) 24 (0, 0)) b5_ hb); replace HB := aa.mk (ax bl_ hb)))
       go_roundg k1
       case measure => have := HK1.out; omega
       case rel => exact ⟨(wrap64 (jS + t117)), (wrap64 (jl + 1)), rs_, rs_, H', ⟨by have := HK1.out; omega⟩, ⟨bk_⟩, ⟨bl_⟩⟩
      ·rw [if_neg c7] at H; exact absurd H (by simp)
     ·rw [if_neg c6] at H; exact absurd H (by simp)
    ·rw [if_neg c5] at H; have rH := decide_eq_false c5; clear c5; obtain rfl := Option.some.inj H; go_wp2; go_ret; exact ⟨re_, bl_⟩
 ·rw [if_neg c2] at H; obtain ⟨uW, c2b1⟩ := bn_ c2; by_cases c13 : ah = 6
  ·rw [if_pos c13] at H; obtain ⟨Af, c13b1⟩ := bq_ c13; clear c13; by_cases c14 : 0 < (af.length : Int)
   ·rw [if_pos c14] at H; have vQ := decide_eq_true c14; clear c14; replace H := Option.bind_eq_some_iff.mp H; obtain ⟨t119, A150, H⟩ := H; have A15 := aa.mk A150; clear A150; obtain rfl := Option.some.inj H; go_enter Tryd.func40, Tryd.ntmps40; try go_wp2_with (((with_reducible refine aM (N := 1) rfl ?_); refine bx_ ((t5_ ah ak aj ai aY af.length aT)) 24 ?_; intro Bt hg w16 mR _ HB hb; clear hb hg; obtain ⟨hcz17_0, _, _, _, hcz17_4, _, _, _, _, _⟩ := bE mR.out))
    replace mR := aa.mk (dz mR.out); replace HB := aa.mk (eX HB.out); have p118 : 0 ≤ (0 : Int) := (by omega); have q118 : 0 < (af.length : Int) := dt_; obtain ⟨Ak, A118_4, c118_4, e118, EM, EN, EO, EP, ER, Vi, Vj⟩ := gu bT.out 0 p118 q118; have Py := ER; (try simp only [z0_, Nat.zero_mul, Addr.add_zero'] at Py); have Pz := EP; (try simp only [z0_, Nat.zero_mul, Addr.add_zero'] at Pz); have PD := EO; (try simp only [z0_, Nat.zero_mul, Addr.add_zero'] at PD); have PE := EN; (try simp only [z0_, Nat.zero_mul, Addr.add_zero'] at PE); have PG := EM; (try simp only [z0_, Nat.zero_mul, Addr.add_zero'] at PG); cases e118; have qi118 : (0 < af.length) = True := eq_true (by omega); (try simp only [z0_, Nat.zero_mul, Addr.add_zero'] at EM EN EO EP ER); replace EM := hc_ HB EM; replace EN := hc_ HB EN; replace EO := hc_ HB EO; replace EP := hc_ HB EP; replace ER := hc_ HB ER; have Vk := aa.mk Vj; have HC118_4 := aa.mk Vi; clear Vj Vi; refine kL (n := 10) (S := fun w' => w'.cell? ⟨Bt, 0, none⟩ = some (.int .i64 ah) ∧ w'.cell? ⟨Bt, 1, none⟩ = some (.int .i64 ak) ∧ w'.cell? ⟨Bt, 2, none⟩ = some (.int .i64 aj) ∧ w'.cell? ⟨Bt, 3, none⟩ = some (.int .i64 ai) ∧ w'.cell? ⟨Bt, 4, none⟩ = some (.slice (some Ak) af.length aT) ∧ w'.cell? Ak = some (.int .i64 ((ag af 0).f0)) ∧ w'.cell? ⟨Ak.block, Ak.off + 1, none⟩ = some (.int .i64 ((ag af 0).f1)) ∧ w'.cell? ⟨Ak.block, Ak.off + 2, none⟩ = some (.int .i64 ((ag af 0).f2)) ∧ w'.cell? ⟨Ak.block, Ak.off + 3, none⟩ = some (.int .i64 ((ag af 0).f3)) ∧ w'.cell? ⟨Ak.block, Ak.off + 4, none⟩ = some (.slice A118_4 ((ag af 0).f4).length c118_4)) (ds := []) #[false, false, false, false, false, false, false, false, false, false] (by kernel_rfl) rfl rfl ⟨ci_ mR, ci_ mR, ci_ mR, ci_ mR, ci_ mR, (hc_ HB PG), (hc_ HB PE), (hc_ HB PD), (hc_ HB Pz), (hc_ HB Py)⟩ (fun hHeld => ?_); refine iG cO.tab11 cO.bits11 (fun HT_ HW_ => ?_)
    generalize w16.drew = w18 at mR HB Vk EM EN EO EP ER hHeld ⊢
    refine pu_ HT_ 0 25 (bm 10 1) ?_
    refine pu_ HT_ 2 27 (bm 10 5) ?_
    refine ta_ HT_ HW_ 1 26 (bm 10 7) hHeld ?_
    refine ta_ HT_ HW_ 3 28 (bm 10 15) hHeld ?_
    refine pu_ HT_ 4 29 (bm 10 31) ?_
    refine ta_ HT_ HW_ 5 30 (bm 10 63) hHeld ?_
    refine jW (i := 6) (N := some 31) #[true, true, true, true, true, true, true, false, false, false] rfl rfl (fB HT_.out (by kernel_rfl)) (by decide) (fun K hK => ?_)
    refine mf Tryd.func40 (by kernel_rfl) rfl #[.agg (t5_ ((ag af 0).f0) ((ag af 0).f1) ((ag af 0).f2) ((ag af 0).f3) A118_4 ((ag af 0).f4).length c118_4)] (by rfl) rfl rfl mp_ ?_
    with_reducible refine (ih k (by omega) ((ag af 0).f0) ((ag af 0).f1) ((ag af 0).f2) ((ag af 0).f3) _ _ ((ag af 0).f4) t119 _ ?au ?av A15.out).mono ?_
    (case au => exact cb_ (Kd.aV Vk.out HB.out))
    (case av => exact HC118_4.out)
    rintro e w19 ⟨rfl, hb⟩
    refine ⟨_, rfl, ?_⟩
    replace mR := kb_ mR hb; replace HB := aa.mk (ax bl_ hb); refine hK.out _ _ ⟨ci_ mR, ci_ mR, ci_ mR, ci_ mR, ci_ mR, (hc_ HB PG), (hc_ HB PE), (hc_ HB PD), (hc_ HB Pz), (hc_ HB Py)⟩ (fun hHeld => ?_)
    clear hK K; refine jd (a' := ?_) ?_ ?_
    rotate_left
    ·show Act.put _ (some 31) _ = _
     simp only [Act.put, List.setIfInBounds_toArray, List.set_cons_zero, List.set_cons_succ, gM, iE]; rfl
    refine pu_ HT_ 7 32 (bm 10 255) ?_
    refine pu_ HT_ 8 33 (bm 10 511) ?_
    refine pu_ HT_ 9 2 #[true, true, true, true, true, true, true, true, true, true] ?_
    refine mH (jT HT_.out (by kernel_rfl)) ?_
    try go_wp2
    go_ret; exact ⟨re_, bl_⟩
   ·rw [if_neg c14] at H; exact absurd H (by simp)
  ·rw [if_neg c13] at H; obtain ⟨Af, c13b1⟩ := bn_ c13; obtain rfl := Option.some.inj H; go_enter Tryd.func40, Tryd.ntmps40; go_wp2_with (((with_reducible refine aM (N := 1) rfl ?_); refine bx_ ((t5_ ah ak aj ai aY af.length aT)) 24 ?_; intro Bt hg w20 mR _ HB hb; clear hb hg; obtain ⟨ES, _, _, _, _, _, _, _, _, _⟩ := bE mR.out))
   go_ret; exact ⟨re_, bl_⟩


/-! ### iI: function 12 -/
def iI.f (k : Nat) (ah ak aj ai : Int) (af : List (S24)) : Option (Int) := (eu.f k ah ak aj ai af).bind fun t121 => (if t121 > 10 then (some 9) else ((bg.f k ah ak aj ai af).bind fun t122 => (if t122 = 0 then ((cO.f k ah ak aj ai af).bind fun t123 => (if t123 > 24 then (some 9) else (some 0))) else (some t122))))
theorem iI.mono : ∀ a0 a1 a2 a3 a4 k, LeO (iI.f k a0 a1 a2 a3 a4) (iI.f (k + 1) a0 a1 a2 a3 a4) := by
 intro a0 a1 a2 a3 a4 k; unfold iI.f; have m0 := @eu.mono; have m1 := @bg.mono; have m2 := @cO.mono; exact mo_
set_option maxHeartbeats 8000000 in
set_option maxRecDepth 100000 in
theorem iI.calls (k : Nat) (ah ak aj ai : Int) (aY : Option Addr) (aT : Nat) (af : List (S24)) (r : Int) (w : World) (dD : Kd.C k24 w aY af.length af) (dX : af.length ≤ aT) (h : iI.f k ah ak aj ai af = some r) :
  Calls Tryd.prog 12 #[.agg #[.int .i64 ah, .int .i64 ak, .int .i64 aj, .int .i64 ai, .slice aY af.length aT]] w fun e w' => e = .returned (.int .i64 r) ∧ Below w.heap.size w w' := by
 have bT := aa.mk dD; have ed := aa.mk dX; clear dD dX; have HB := aa.mk (Below.refl w.heap.size w); have H : ((eu.f k ah ak aj ai af).bind fun t121 => (if t121 > 10 then (some 9) else ((bg.f k ah ak aj ai af).bind fun t122 => (if t122 = 0 then ((cO.f k ah ak aj ai af).bind fun t123 => (if t123 > 24 then (some 9) else (some 0))) else (some t122))))) = some r := h; clear h; replace H := Option.bind_eq_some_iff.mp H; obtain ⟨t121, A20, H⟩ := H; have A2 := aa.mk A20; clear A20; by_cases c3 : t121 > 10
 focus
  rw [if_pos c3] at H; have kM : decide (10 < t121) = true := decide_eq_true c3; clear c3
 rotate_left
 focus
  rw [if_neg c3] at H; have kM : decide (10 < t121) = false := decide_eq_false c3; clear c3; replace H := Option.bind_eq_some_iff.mp H; obtain ⟨t122, A70, H⟩ := H; have A7 := aa.mk A70; clear A70; by_cases c8 : t122 = 0
  ·rw [if_pos c8] at H; obtain ⟨wE, AV⟩ := bq_ c8; clear c8; replace H := Option.bind_eq_some_iff.mp H; obtain ⟨t123, A90, H⟩ := H; have A9 := aa.mk A90; clear A90; by_cases c10 : t123 > 24
   focus
    rw [if_pos c10] at H; have pR : decide (24 < t123) = true := decide_eq_true c10
   rotate_left
   focus
    rw [if_neg c10] at H; have pR : decide (24 < t123) = false := decide_eq_false c10
   rotate_left
   all_goals
    clear c10; obtain rfl := Option.some.inj H; go_enter Tryd.func12, Tryd.ntmps12; go_wp2_with (first | ((with_reducible refine aM (N := 1) rfl ?_); refine bx_ ((t5_ ah ak aj ai aY af.length aT)) 24 ?_; intro gb120 hg w11 wQ _ HB hb; clear hb hg; obtain ⟨pq, rZ, Ci, Cj, zm, _, _, _, _, _⟩ := bE wQ.out) | ((with_reducible refine ay (f := 38) rfl ?_); refine gl_ (some 5) Tryd.func38 #[.agg (t5_ ah ak aj ai aY af.length aT)] ?_; (with_reducible refine (eu.calls k ah ak aj ai _ _ af t121 _ ?au ?av A2.out).mono ?_); (case au => exact cb_ (Kd.aV bT.out HB.out)); (case av => exact ed.out); rintro e w13 ⟨rfl, hb⟩; refine ⟨_, rfl, ?_⟩; replace wQ := kb_ wQ hb; replace HB := aa.mk (ax bl_ hb); obtain ⟨uF, vV, BX, xN, xO, _, _, _, _, _⟩ := bE wQ.out) | ((with_reducible refine ay (f := 39) rfl ?_); refine gl_ (some 8) Tryd.func39 #[.agg (t5_ ah ak aj ai aY af.length aT)] ?_; (with_reducible refine (bg.calls k ah ak aj ai _ _ af t122 _ ?au ?av A7.out).mono ?_); (case au => exact cb_ (Kd.aV bT.out HB.out)); (case av => exact ed.out); rintro e w15 ⟨rfl, hb⟩; refine ⟨_, rfl, ?_⟩; replace wQ := kb_ wQ hb; replace HB := aa.mk (ax bl_ hb); obtain ⟨qP, rY, uG, zn, zo, _, _, _, _, _⟩ := bE wQ.out) | ((with_reducible refine ay (f := 40) rfl ?_); refine gl_ (some 13) Tryd.func40 #[.agg (t5_ ah ak aj ai aY af.length aT)] ?_; (with_reducible refine (cO.calls k ah ak aj ai _ _ af t123 _ ?au ?av A9.out).mono ?_); (case au => exact cb_ (Kd.aV bT.out HB.out)); (case av => exact ed.out); rintro e w17 ⟨rfl, hb⟩; refine ⟨_, rfl, ?_⟩; replace HB := aa.mk (ax bl_ hb)))
    go_ret; exact ⟨re_, bl_⟩
  rw [if_neg c8] at H; obtain ⟨wE, AV⟩ := bn_ c8
 rotate_left
 all_goals
  obtain rfl := Option.some.inj H; go_enter Tryd.func12, Tryd.ntmps12; go_wp2_with (first | ((with_reducible refine aM (N := 1) rfl ?_); refine bx_ ((t5_ ah ak aj ai aY af.length aT)) 24 ?_; intro gb120 hg w4 wQ _ HB hb; clear hb hg; obtain ⟨CO, hcz5_1, hcz5_2, hcz5_3, hcz5_4, _, _, _, _, _⟩ := bE wQ.out) | ((with_reducible refine ay (f := 38) rfl ?_); refine gl_ (some 5) Tryd.func38 #[.agg (t5_ ah ak aj ai aY af.length aT)] ?_; (with_reducible refine (eu.calls k ah ak aj ai _ _ af t121 _ ?au ?av A2.out).mono ?_); (case au => exact cb_ (Kd.aV bT.out HB.out)); (case av => exact ed.out); rintro e w6 ⟨rfl, hb⟩; refine ⟨_, rfl, ?_⟩; replace wQ := kb_ wQ hb; replace HB := aa.mk (ax bl_ hb); (try (obtain ⟨JY, Ck, PH, PI, PK, _, _, _, _, _⟩ := bE wQ.out))) | ((with_reducible refine ay (f := 39) rfl ?_); refine gl_ (some 8) Tryd.func39 #[.agg (t5_ ah ak aj ai aY af.length aT)] ?_; (with_reducible refine (bg.calls k ah ak aj ai _ _ af t122 _ ?au ?av A7.out).mono ?_); (case au => exact cb_ (Kd.aV bT.out HB.out)); (case av => exact ed.out); rintro e w29 ⟨rfl, hb⟩; refine ⟨_, rfl, ?_⟩; replace HB := aa.mk (ax bl_ hb)))
  go_ret; exact ⟨re_, bl_⟩


/-! ### dQ: function 45 -/
mutual
def dQ.l0 : Nat → Int → Int → Int → Int → Int → Int → Int → List (S24) → Option (Int)
 | 0, _, _, _, _, _, _, _, _ => none
 | k + 1, x1, x5, x6, x279000, x279001, x279002, x279003, zq => if x6 < (zq.length : Int) then (if 0 ≤ x6 then ((dQ.f k ((ag zq x6).f0) ((ag zq x6).f1) ((ag zq x6).f2) ((ag zq x6).f3) ((ag zq x6).f4) (wrap64 (x1 - 1))).bind fun t280 => (dQ.l0 k x1 (mx x5 t280) (wrap64 (x6 + 1)) x279000 x279001 x279002 x279003 zq)) else (none)) else (some (mn (wrap64 (x5 + 1)) x1))
def dQ.f : Nat → Int → Int → Int → Int → List (S24) → Int → Option (Int)
 | 0, _, _, _, _, _, _ => none
 | k + 1, ah, ak, aj, ai, af, a1 => if a1 > 1 then (dQ.l0 k a1 0 0 ah ak aj ai af) else (if (af.length : Int) > 0 then (some a1) else (some (mn (0 + 1) a1)))
end
set_option maxHeartbeats 8000000 in
set_option maxRecDepth 100000 in
theorem dQ.calls (k : Nat) : ∀ (ah ak aj ai : Int) (aY : Option Addr) (aT : Nat) (af : List (S24)) (a1 r : Int) (w : World) (dD : Kd.C k24 w aY af.length af) (dX : af.length ≤ aT) (h : dQ.f k ah ak aj ai af a1 = some r),
  Calls Tryd.prog 45 #[.agg #[.int .i64 ah, .int .i64 ak, .int .i64 aj, .int .i64 ai, .slice aY af.length aT], .int .i64 a1] w fun e w' => e = .returned (.int .i64 r) ∧ Below w.heap.size w w' := by
 induction k using Nat.strongRecOn with
 | _ k ih =>
 intro ah ak aj ai aY aT af a1 r w dD dX h; cases k with
 | zero => exact absurd h (by simp [dQ.f])
 | succ k =>
 simp only [dQ.f] at h; have bT := aa.mk dD; clear dD dX; have HB := aa.mk (Below.refl w.heap.size w); have H := h; unfold dQ.f at H; clear h; by_cases c3 : a1 > 1
 ·rw [if_pos c3] at H; have kM : decide (1 < a1) = true := decide_eq_true c3; clear c3; have H' := aa.mk H; clear H; go_enter Tryd.func45, Tryd.ntmps45; go_wp2_with (((with_reducible refine aM (N := 2) rfl ?_); refine bx_ ((t5_ ah ak aj ai aY af.length aT)) 24 ?_; intro gb278 hg w4 Bu _ HB hb; clear hb hg))
  go_loopg [5, 6] k (fun kq v5 v6 w' => ∃ (cz : Int) (cK : Int), v5 = .int .i64 cz ∧ v6 = .int .i64 cK ∧ aa (dQ.l0 kq a1 cz cK ah ak aj ai af = some r) ∧ aa (kq ≤ k) ∧ aa (w'.heap[gb278]? = some (.cells #[.int .i64 ah, .int .i64 ak, .int .i64 aj, .int .i64 ai, (.slice aY af.length aT)] 24 (0, 0))) ∧ aa (Below w.heap.size w w'))
  case atStart => exact ⟨(0), (0), rs_, rs_, H', ⟨Nat.le_refl _⟩, ⟨bk_⟩, ⟨bl_⟩⟩
  case round =>
   clear H'; obtain ⟨cz, cK, rfl, rfl, HA, HK1, Bu, HB⟩ := hrel; cases gk with
   | zero => exact absurd HA.out (by simp [dQ.l0])
   | succ k1 =>
    have H := HA.out; clear HA; simp only [dQ.l0] at H; by_cases c5 : cK < (af.length : Int)
    ·rw [if_pos c5] at H; have rH := decide_eq_true c5; clear c5; by_cases c6 : 0 ≤ cK
     ·rw [if_pos c6] at H; have rX := decide_eq_true c6; clear c6; replace H := Option.bind_eq_some_iff.mp H; obtain ⟨t280, A70, H⟩ := H; have A7 := aa.mk A70; clear A70; obtain ⟨ji8, hji8⟩ : ∃ j_ : Int, (mx cz t280) = j_ := ⟨_, rfl⟩; replace H : (dQ.l0 k1 a1 ji8 (wrap64 (cK + 1)) ah ak aj ai af) = some r := by (rw [hji8] at H; exact H)
      have hji8_ : (if cz < t280 then t280 else cz) = ji8 := hji8; have H' := aa.mk H; clear H; obtain ⟨_, _, _, _, CQ, _, _, _, _, _⟩ := bE Bu.out; have p279 : 0 ≤ (cK : Int) := dt_; have q279 : cK < (af.length : Int) := dt_; obtain ⟨ad279, A279_4, c279_4, e279, Vl, Vm, Vn, Vo, Vp, Vq, Vr⟩ := gu bT.out cK p279 q279; cases e279; replace Vl := hc_ HB Vl; replace Vm := hc_ HB Vm; replace Vn := hc_ HB Vn; replace Vo := hc_ HB Vo; replace Vp := hc_ HB Vp; have HR279_4 := aa.mk Vr; have HC279_4 := aa.mk Vq; clear Vr Vq; replace p279 := eq_true p279; replace q279 := eq_true q279; go_wp2_with (((with_reducible refine ay (f := 45) rfl ?_); refine gl_ (some 24) Tryd.func45 #[.agg (t5_ ((ag af cK).f0) ((ag af cK).f1) ((ag af cK).f2) ((ag af cK).f3) A279_4 ((ag af cK).f4).length c279_4), .int .i64 (wrap64 (a1 - 1))] ?_; (with_reducible refine (ih k1 (by have := HK1.out; omega) ((ag af cK).f0) ((ag af cK).f1) ((ag af cK).f2) ((ag af cK).f3) _ _ ((ag af cK).f4) (wrap64 (a1 - 1)) t280 _ ?au ?av A7.out).mono ?_); (case au => exact cb_ (Kd.aV HR279_4.out HB.out)); (case av => exact HC279_4.out); rintro e w10 ⟨rfl, hb⟩; refine ⟨_, rfl, ?_⟩; replace Bu := kb_ Bu hb; replace HB := aa.mk (ax bl_ hb)))
      go_roundg k1
      case measure => have := HK1.out; omega
      case rel => exact ⟨(ji8), (wrap64 (cK + 1)), (by rfl), rs_, H', ⟨by have := HK1.out; omega⟩, ⟨bk_⟩, ⟨bl_⟩⟩
     ·rw [if_neg c6] at H; exact absurd H (by simp)
    ·rw [if_neg c5] at H; have rH := decide_eq_false c5; clear c5; obtain ⟨ji11, hji11⟩ : ∃ j_ : Int, (mn (wrap64 (cz + 1)) a1) = j_ := ⟨_, rfl⟩; replace H : (some ji11) = some r := by (rw [hji11] at H; exact H)
     have hji11_ : (if a1 < (wrap64 (cz + 1)) then a1 else (wrap64 (cz + 1))) = ji11 := hji11; obtain rfl := Option.some.inj H; obtain ⟨_, _, _, _, zm, _, _, _, _, _⟩ := bE Bu.out; go_wp2; all_goals go_ret
     all_goals exact ⟨by rfl, bl_⟩
 ·rw [if_neg c3] at H; have kM : decide (1 < a1) = false := decide_eq_false c3; clear c3; by_cases c13 : (af.length : Int) > 0
  ·rw [if_pos c13] at H; have c13b1 : decide (0 < af.length) = true := decide_eq_true (by omega); clear c13; obtain rfl := Option.some.inj H; go_enter Tryd.func45, Tryd.ntmps45; go_wp2_with (((with_reducible refine aM (N := 2) rfl ?_); refine bx_ ((t5_ ah ak aj ai aY af.length aT)) 24 ?_; intro gb278 hg w14 Bu _ HB hb; clear hb hg; obtain ⟨_, _, _, _, Vs, _, _, _, _, _⟩ := bE Bu.out))
   go_ret; exact ⟨re_, bl_⟩
  ·rw [if_neg c13] at H; have c13b1 : decide (0 < af.length) = false := decide_eq_false (by omega); clear c13; obtain ⟨ji16, hji16⟩ : ∃ j_ : Int, (mn (0 + 1) a1) = j_ := ⟨_, rfl⟩; replace H : (some ji16) = some r := by (rw [hji16] at H; exact H)
   (try (skip))
   (try (skip))
   obtain rfl := Option.some.inj H; go_enter Tryd.func45, Tryd.ntmps45; go_wp2_with (((with_reducible refine aM (N := 2) rfl ?_); refine bx_ ((t5_ ah ak aj ai aY af.length aT)) 24 ?_; intro gb278 hg w17 Bu _ HB hb; clear hb hg; obtain ⟨_, _, _, _, zk, _, _, _, _, _⟩ := bE Bu.out))
   all_goals go_ret
   all_goals exact ⟨by (simp; rw [← hji16]; (unfold mn); split <;> omega), bl_⟩


/-! ### aG: function 46 -/
mutual
def aG.j0 : Nat → Int → Bool → Int → Int → Int → Int → List (S24) → Option (Int)
 | 0, _, _, _, _, _, _, _ => none
 | k + 1, x3, x14, kY, kr, ku, jV, fU => if x14 = true then (some 14) else (if x3 = 2 then (if x3 = 6 then (if x3 < 5 then (aG.j1 k x3 (decide ((fU.length : Int) > 0)) kY kr ku jV fU) else (aG.j1 k x3 false kY kr ku jV fU)) else (if jV = 0 then (if x3 < 5 then (aG.j1 k x3 (decide ((fU.length : Int) > 0)) kY kr ku jV fU) else (aG.j1 k x3 false kY kr ku jV fU)) else (aG.j1 k x3 true kY kr ku jV fU))) else (if kr = 0 then (if ku = 0 then (if x3 = 6 then (if x3 < 5 then (aG.j1 k x3 (decide ((fU.length : Int) > 0)) kY kr ku jV fU) else (aG.j1 k x3 false kY kr ku jV fU)) else (if jV = 0 then (if x3 < 5 then (aG.j1 k x3 (decide ((fU.length : Int) > 0)) kY kr ku jV fU) else (aG.j1 k x3 false kY kr ku jV fU)) else (aG.j1 k x3 true kY kr ku jV fU))) else (aG.j1 k x3 true kY kr ku jV fU)) else (aG.j1 k x3 true kY kr ku jV fU)))
def aG.j1 : Nat → Int → Bool → Int → Int → Int → Int → List (S24) → Option (Int)
 | 0, _, _, _, _, _, _, _ => none
 | k + 1, x3, x45, kY, kr, ku, jV, fU => if x45 = true then (some 2) else (if x3 = 2 then (if kr < (-1000) then (some 1) else (if kr > ku then (some 1) else (if ku > 1000 then (some 1) else (some 0)))) else (if x3 = 5 then (if (fU.length : Int) < 2 then (aG.j2 k true kY kr ku jV fU) else (aG.j2 k (decide ((fU.length : Int) > 4)) kY kr ku jV fU)) else (if x3 = 6 then (if jV < 1 then (aG.j4 k true kY kr ku jV fU) else (aG.j4 k (decide (jV > 4)) kY kr ku jV fU)) else (some 0))))
def aG.j2 : Nat → Bool → Int → Int → Int → Int → List (S24) → Option (Int)
 | 0, _, _, _, _, _, _ => none
 | k + 1, x75, kY, kr, ku, jV, fU => if x75 = true then (some 1) else (aG.l0 k 0 kY kr ku jV fU)
def aG.l0 : Nat → Int → Int → Int → Int → Int → List (S24) → Option (Int)
 | 0, _, _, _, _, _, _ => none
 | k + 1, x4, kY, kr, ku, jV, fU => if x4 < (fU.length : Int) then (if 0 ≤ x4 then ((aG.f k ((ag fU x4).f0) ((ag fU x4).f1) ((ag fU x4).f2) ((ag fU x4).f3) ((ag fU x4).f4)).bind fun t283 => (if t283 = 0 then (if ((ag fU x4).f0) = 3 then (some 8) else (if ((ag fU x4).f0) = 4 then (some 8) else (aG.l0 k (wrap64 (x4 + 1)) kY kr ku jV fU))) else (some t283))) else (none)) else (some 0)
def aG.j4 : Nat → Bool → Int → Int → Int → Int → List (S24) → Option (Int)
 | 0, _, _, _, _, _, _ => none
 | k + 1, x117, kY, kr, ku, jV, fU => if x117 = true then (some 1) else (if (fU.length : Int) = 1 then (if 0 < (fU.length : Int) then ((aG.f k ((ag fU 0).f0) ((ag fU 0).f1) ((ag fU 0).f2) ((ag fU 0).f3) ((ag fU 0).f4)).bind fun t287 => (if t287 = 0 then (if ((ag fU 0).f0) = 1 then (some 0) else (if ((ag fU 0).f0) = 2 then (some 0) else (some 8))) else (some t287))) else (none)) else (some 2))
def aG.f : Nat → Int → Int → Int → Int → List (S24) → Option (Int)
 | 0, _, _, _, _, _ => none
 | k + 1, ah, ak, aj, ai, af => if ah < 1 then (aG.j0 k ah true ah ak aj ai af) else (aG.j0 k ah (decide (ah > 6)) ah ak aj ai af)
end
set_option maxHeartbeats 8000000 in
set_option maxRecDepth 100000 in
theorem aG.calls (k : Nat) : ∀ (ah ak aj ai : Int) (aY : Option Addr) (aT : Nat) (af : List (S24)) (r : Int) (w : World) (dD : Kd.C k24 w aY af.length af) (dX : af.length ≤ aT) (h : aG.f k ah ak aj ai af = some r),
  Calls Tryd.prog 46 #[.agg #[.int .i64 ah, .int .i64 ak, .int .i64 aj, .int .i64 ai, .slice aY af.length aT]] w fun e w' => e = .returned (.int .i64 r) ∧ Below w.heap.size w w' := by
 induction k using Nat.strongRecOn with
 | _ k ih =>
 intro ah ak aj ai aY aT af r w dD dX h; cases k with
 | zero => exact absurd h (by simp [aG.f])
 | succ k =>
 simp only [aG.f] at h; have bT := aa.mk dD; clear dD dX; have HB := aa.mk (Below.refl w.heap.size w); have H := h; unfold aG.f at H; clear h; have HC2 := aa.mk H; clear H; go_enter Tryd.func46, Tryd.ntmps46; go_upto_region 2 with (((with_reducible refine aM (N := 1) rfl ?_); (try (refine gH (by rfl) ?_; dsimp only)); refine bx_ ((t5_ ah ak aj ai aY af.length aT)) 24 ?_; intro M6 hg w3 gZ _ HB hb; clear hb hg; obtain ⟨hcz4_0, _, _, _, _, _, _, _, _, _⟩ := bE gZ.out))
 go_cut [14] (fun v14 wc => ∃ (kq : Nat) (x14_1 : Bool), v14 = .bool x14_1 ∧ aa (aG.j0 kq ah x14_1 ah ak aj ai af = some r) ∧ aa (kq ≤ k) ∧ aa (wc.heap[M6]? = some (.cells #[.int .i64 ah, .int .i64 ak, .int .i64 aj, .int .i64 ai, (.slice aY af.length aT)] 24 (0, 0))) ∧ aa (Below w.heap.size w wc))
 case first =>
  have H := HC2.out; clear HC2; by_cases c5 : ah < 1
  ·rw [if_pos c5] at H; have rH := decide_eq_true c5; clear c5; (skip); have H' := aa.mk H; clear H; go_wp2; go_meet
   case rel => exact ⟨_, (true), rs_, H', ⟨by omega⟩, ⟨bk_⟩, ⟨bl_⟩⟩
  ·rw [if_neg c5] at H; have rH := decide_eq_false c5; clear c5; (skip); have H' := aa.mk H; clear H; go_wp2; go_meet
   case rel => exact ⟨_, (decide (ah > 6)), rs_, H', ⟨by omega⟩, ⟨bk_⟩, ⟨bl_⟩⟩
 case rest =>
  clear HC2; obtain ⟨kq, x14_1, rfl, HA, HJ1, gZ, HB⟩ := hcut; cases kq with
  | zero => exact absurd HA.out (by simp [aG.j0])
  | succ kj1 =>
   have H := HA.out; clear HA; simp only [aG.j0] at H; by_cases c6 : x14_1 = true
   ·subst c6; rw [if_pos rfl] at H; obtain rfl := Option.some.inj H; go_wp2; go_ret; exact ⟨re_, bl_⟩
   ·replace c6 := Bool.eq_false_iff.mpr c6; subst c6; rw [if_neg (show ¬ (false = true) by decide)] at H; have HC7 := aa.mk H; clear H; go_upto_region 4 with (fail)
    go_cut [45] (fun v45 wc => ∃ (kq : Nat) (x45_6 : Bool), v45 = .bool x45_6 ∧ aa (aG.j1 kq ah x45_6 ah ak aj ai af = some r) ∧ aa (kq ≤ kj1) ∧ aa (wc.heap[M6]? = some (.cells #[.int .i64 ah, .int .i64 ak, .int .i64 aj, .int .i64 ai, (.slice aY af.length aT)] 24 (0, 0))) ∧ aa (Below w.heap.size w wc))
    case first =>
     have H := HC7.out; clear HC7; by_cases c8 : ah = 2
     ·rw [if_pos c8] at H; obtain ⟨wE, AV⟩ := bq_ c8; clear c8; (skip); by_cases c9 : ah = 6
      ·rw [if_pos c9] at H; obtain ⟨qH, CP⟩ := bq_ c9; clear c9; by_cases c10 : ah < 5
       ·rw [if_pos c10] at H; have pR := decide_eq_true c10; clear c10; have H' := aa.mk H; clear H; obtain ⟨_, _, _, _, JC, _, _, _, _, _⟩ := bE gZ.out; go_wp2; go_meet
        case rel => exact ⟨_, (decide ((af.length : Int) > 0)), rs_, H', ⟨by have := HJ1.out; omega⟩, ⟨bk_⟩, ⟨bl_⟩⟩
       ·rw [if_neg c10] at H; have pR := decide_eq_false c10; clear c10; have H' := aa.mk H; clear H; go_wp2; go_meet
        case rel => exact ⟨_, (false), rs_, H', ⟨by have := HJ1.out; omega⟩, ⟨bk_⟩, ⟨bl_⟩⟩
      ·rw [if_neg c9] at H; obtain ⟨qH, CP⟩ := bn_ c9; by_cases c12 : ai = 0
       ·rw [if_pos c12] at H; obtain ⟨wP, Br⟩ := bq_ c12; clear c12; by_cases c13 : ah < 5
        ·rw [if_pos c13] at H; have Af := decide_eq_true c13; clear c13; have H' := aa.mk H; clear H; obtain ⟨_, _, _, xN, xO, _, _, _, _, _⟩ := bE gZ.out; go_wp2; go_meet
         case rel => exact ⟨_, (decide ((af.length : Int) > 0)), rs_, H', ⟨by have := HJ1.out; omega⟩, ⟨bk_⟩, ⟨bl_⟩⟩
        ·rw [if_neg c13] at H; have Af := decide_eq_false c13; clear c13; have H' := aa.mk H; clear H; obtain ⟨_, _, _, hcz15_3, _, _, _, _, _, _⟩ := bE gZ.out; go_wp2; go_meet
         case rel => exact ⟨_, (false), rs_, H', ⟨by have := HJ1.out; omega⟩, ⟨bk_⟩, ⟨bl_⟩⟩
       ·rw [if_neg c12] at H; obtain ⟨wP, Br⟩ := bn_ c12; have H' := aa.mk H; clear H; obtain ⟨_, _, _, zn, _, _, _, _, _, _⟩ := bE gZ.out; go_wp2; go_meet
        case rel => exact ⟨_, (true), rs_, H', ⟨by have := HJ1.out; omega⟩, ⟨bk_⟩, ⟨bl_⟩⟩
     ·rw [if_neg c8] at H; obtain ⟨wE, AV⟩ := bn_ c8; (skip); by_cases c17 : ak = 0
      ·rw [if_pos c17] at H; obtain ⟨Aj, c17b1⟩ := bq_ c17; clear c17; by_cases c18 : aj = 0
       ·rw [if_pos c18] at H; obtain ⟨c18b0, c18b1⟩ := bq_ c18; clear c18; by_cases c19 : ah = 6
        ·rw [if_pos c19] at H; obtain ⟨GH, M7⟩ := bq_ c19; clear c19; by_cases c20 : ah < 5
         ·rw [if_pos c20] at H; have wR := decide_eq_true c20; clear c20; have H' := aa.mk H; clear H; obtain ⟨_, ET, JZ, _, PL, _, _, _, _, _⟩ := bE gZ.out; go_wp2; go_meet
          case rel => exact ⟨_, (decide ((af.length : Int) > 0)), rs_, H', ⟨by have := HJ1.out; omega⟩, ⟨bk_⟩, ⟨bl_⟩⟩
         ·rw [if_neg c20] at H; have wR := decide_eq_false c20; clear c20; have H' := aa.mk H; clear H; obtain ⟨_, EG, JJ, _, _, _, _, _, _, _⟩ := bE gZ.out; go_wp2; go_meet
          case rel => exact ⟨_, (false), rs_, H', ⟨by have := HJ1.out; omega⟩, ⟨bk_⟩, ⟨bl_⟩⟩
        ·rw [if_neg c19] at H; obtain ⟨GH, M7⟩ := bn_ c19; by_cases c23 : ai = 0
         ·rw [if_pos c23] at H; obtain ⟨Bq, MV⟩ := bq_ c23; clear c23; by_cases c24 : ah < 5
          ·rw [if_pos c24] at H; have Ah := decide_eq_true c24; clear c24; have H' := aa.mk H; clear H; obtain ⟨_, O5, O6, O7, O8, _, _, _, _, _⟩ := bE gZ.out; go_wp2; go_meet
           case rel => exact ⟨_, (decide ((af.length : Int) > 0)), rs_, H', ⟨by have := HJ1.out; omega⟩, ⟨bk_⟩, ⟨bl_⟩⟩
          ·rw [if_neg c24] at H; have Ah := decide_eq_false c24; clear c24; have H' := aa.mk H; clear H; obtain ⟨_, PM, hcz26_2, hcz26_3, _, _, _, _, _, _⟩ := bE gZ.out; go_wp2; go_meet
           case rel => exact ⟨_, (false), rs_, H', ⟨by have := HJ1.out; omega⟩, ⟨bk_⟩, ⟨bl_⟩⟩
         ·rw [if_neg c23] at H; obtain ⟨Bq, MV⟩ := bn_ c23; have H' := aa.mk H; clear H; obtain ⟨_, JE, JF, JG, _, _, _, _, _, _⟩ := bE gZ.out; go_wp2; go_meet
          case rel => exact ⟨_, (true), rs_, H', ⟨by have := HJ1.out; omega⟩, ⟨bk_⟩, ⟨bl_⟩⟩
       ·rw [if_neg c18] at H; obtain ⟨c18b0, c18b1⟩ := bn_ c18; have H' := aa.mk H; clear H; obtain ⟨_, Ck, PH, _, _, _, _, _, _, _⟩ := bE gZ.out; go_wp2; go_meet
        case rel => exact ⟨_, (true), rs_, H', ⟨by have := HJ1.out; omega⟩, ⟨bk_⟩, ⟨bl_⟩⟩
      ·rw [if_neg c17] at H; obtain ⟨Aj, c17b1⟩ := bn_ c17; have H' := aa.mk H; clear H; obtain ⟨_, EU, _, _, _, _, _, _, _, _⟩ := bE gZ.out; go_wp2; go_meet
       case rel => exact ⟨_, (true), rs_, H', ⟨by have := HJ1.out; omega⟩, ⟨bk_⟩, ⟨bl_⟩⟩
    case rest =>
     clear HC7; obtain ⟨kq, x45_6, rfl, HA, HJ6, gZ, HB⟩ := hcut; cases kq with
     | zero => exact absurd HA.out (by simp [aG.j1])
     | succ kj6 =>
      have H := HA.out; clear HA; simp only [aG.j1] at H; by_cases c30 : x45_6 = true
      ·subst c30; rw [if_pos rfl] at H; obtain rfl := Option.some.inj H; go_wp2; go_ret; exact ⟨re_, bl_⟩
      ·replace c30 := Bool.eq_false_iff.mpr c30; subst c30; rw [if_neg (show ¬ (false = true) by decide)] at H; by_cases c31 : ah = 2
       ·rw [if_pos c31] at H; obtain ⟨c31b0, c31b1⟩ := bq_ c31; clear c31; by_cases c32 : ak < (-1000)
        ·rw [if_pos c32] at H; have c32b0 := decide_eq_true c32; clear c32; obtain rfl := Option.some.inj H; obtain ⟨_, PN, _, _, _, _, _, _, _, _⟩ := bE gZ.out; go_wp2; go_ret; exact ⟨re_, bl_⟩
        ·rw [if_neg c32] at H; have c32b0 := decide_eq_false c32; clear c32; by_cases c34 : ak > aj
         ·rw [if_pos c34] at H; have c34b0 : decide (aj < ak) = true := decide_eq_true c34; clear c34; obtain rfl := Option.some.inj H; obtain ⟨_, Vu, hcz35_2, _, _, _, _, _, _, _⟩ := bE gZ.out; go_wp2; go_ret; exact ⟨re_, bl_⟩
         ·rw [if_neg c34] at H; have c34b0 : decide (aj < ak) = false := decide_eq_false c34; clear c34; by_cases c36 : aj > 1000
          ·rw [if_pos c36] at H; have GI : decide (1000 < aj) = true := decide_eq_true c36; clear c36; obtain rfl := Option.some.inj H; obtain ⟨_, Vw, Vx, _, _, _, _, _, _, _⟩ := bE gZ.out; go_wp2; go_ret; exact ⟨re_, bl_⟩
          ·rw [if_neg c36] at H; have GI : decide (1000 < aj) = false := decide_eq_false c36; clear c36; obtain rfl := Option.some.inj H; obtain ⟨_, Vy, hcz38_2, _, _, _, _, _, _, _⟩ := bE gZ.out; go_wp2; go_ret; exact ⟨re_, bl_⟩
       ·rw [if_neg c31] at H; obtain ⟨c31b0, c31b1⟩ := bn_ c31; by_cases c39 : ah = 5
        ·rw [if_pos c39] at H; obtain ⟨c39b0, c39b1⟩ := bq_ c39; clear c39; have HC40 := aa.mk H; clear H; go_upto_region 11 with (fail)
         go_cut [75] (fun v75 wc => ∃ (kq : Nat) (M8 : Bool), v75 = .bool M8 ∧ aa (aG.j2 kq M8 ah ak aj ai af = some r) ∧ aa (kq ≤ kj6) ∧ aa (wc.heap[M6]? = some (.cells #[.int .i64 ah, .int .i64 ak, .int .i64 aj, .int .i64 ai, (.slice aY af.length aT)] 24 (0, 0))) ∧ aa (Below w.heap.size w wc))
         case first =>
          have H := HC40.out; clear HC40; by_cases c41 : (af.length : Int) < 2
          ·rw [if_pos c41] at H; have c41b0 := decide_eq_true c41; clear c41; (skip); have H' := aa.mk H; clear H; obtain ⟨_, _, _, _, hcz42_4, _, _, _, _, _⟩ := bE gZ.out; go_wp2; go_meet
           case rel => exact ⟨_, (true), rs_, H', ⟨by have := HJ1.out; have := HJ6.out; omega⟩, ⟨bk_⟩, ⟨bl_⟩⟩
          ·rw [if_neg c41] at H; have c41b0 := decide_eq_false c41; clear c41; (skip); have H' := aa.mk H; clear H; obtain ⟨_, _, _, _, hcz43_4, _, _, _, _, _⟩ := bE gZ.out; go_wp2; go_meet
           case rel => exact ⟨_, (decide ((af.length : Int) > 4)), rs_, H', ⟨by have := HJ1.out; have := HJ6.out; omega⟩, ⟨bk_⟩, ⟨bl_⟩⟩
         case rest =>
          clear HC40; obtain ⟨kq, M8, rfl, HA, HJ39, gZ, HB⟩ := hcut; cases kq with
          | zero => exact absurd HA.out (by simp [aG.j2])
          | succ kj39 =>
           have H := HA.out; clear HA; simp only [aG.j2] at H; by_cases c44 : M8 = true
           ·subst c44; rw [if_pos rfl] at H; obtain rfl := Option.some.inj H; go_wp2; go_ret; exact ⟨re_, bl_⟩
           ·replace c44 := Bool.eq_false_iff.mpr c44; subst c44; rw [if_neg (show ¬ (false = true) by decide)] at H; have H' := aa.mk H; clear H; go_wp2; go_loopg [4] kj39 (fun kq v4 w' => ∃ (gy : Int), v4 = .int .i64 gy ∧ aa (aG.l0 kq gy ah ak aj ai af = some r) ∧ aa (kq ≤ kj39) ∧ aa (w'.heap[M6]? = some (.cells #[.int .i64 ah, .int .i64 ak, .int .i64 aj, .int .i64 ai, (.slice aY af.length aT)] 24 (0, 0))) ∧ aa (Below w.heap.size w w'))
            case atStart => exact ⟨(0), rs_, H', ⟨Nat.le_refl _⟩, ⟨bk_⟩, ⟨bl_⟩⟩
            case round =>
             clear H'; obtain ⟨gy, rfl, HA, HK4, gZ, HB⟩ := hrel; cases gk with
             | zero => exact absurd HA.out (by simp [aG.l0])
             | succ k4 =>
              have H := HA.out; clear HA; simp only [aG.l0] at H; by_cases c45 : gy < (af.length : Int)
              ·rw [if_pos c45] at H; have c45b0 := decide_eq_true c45; clear c45; by_cases c46 : 0 ≤ gy
               ·rw [if_pos c46] at H; have c46b0 := decide_eq_true c46; clear c46; replace H := Option.bind_eq_some_iff.mp H; obtain ⟨t283, A470, H⟩ := H; have A47 := aa.mk A470; clear A470; by_cases c48 : t283 = 0
                ·rw [if_pos c48] at H; obtain ⟨c48b0, c48b1⟩ := bq_ c48; clear c48; by_cases c49 : ((ag af gy).f0) = 3
                 ·rw [if_pos c49] at H; obtain ⟨JP, c49b1⟩ := bq_ c49; clear c49; obtain rfl := Option.some.inj H; obtain ⟨_, _, _, _, hcz50_4, _, _, _, _, _⟩ := bE gZ.out; have xk : 0 ≤ (gy : Int) := dt_; have xm : gy < (af.length : Int) := dt_; obtain ⟨DJ, CR, CS, e282, r9, si, sj, sD, sF, sG, sH⟩ := gu bT.out gy xk xm; cases e282; replace r9 := hc_ HB r9; replace si := hc_ HB si; replace sj := hc_ HB sj; replace sD := hc_ HB sD; replace sF := hc_ HB sF; have zt := aa.mk sH; have zu := aa.mk sG; clear sH sG; replace xk := eq_true xk; replace xm := eq_true xm; go_wp2_with (((with_reducible refine ay (f := 46) rfl ?_); refine gl_ (some 88) Tryd.func46 #[.agg (t5_ ((ag af gy).f0) ((ag af gy).f1) ((ag af gy).f2) ((ag af gy).f3) CR ((ag af gy).f4).length CS)] ?_; (with_reducible refine (ih k4 (by have := HJ1.out; have := HJ6.out; have := HJ39.out; have := HK4.out; omega) ((ag af gy).f0) ((ag af gy).f1) ((ag af gy).f2) ((ag af gy).f3) _ _ ((ag af gy).f4) t283 _ ?au ?av A47.out).mono ?_); (case au => exact cb_ (Kd.aV zt.out HB.out)); (case av => exact zu.out); rintro e w51 ⟨rfl, hb⟩; refine ⟨_, rfl, ?_⟩; replace gZ := kb_ gZ hb; replace HB := aa.mk (ax bl_ hb); obtain ⟨_, _, _, _, Pg, _, _, _, _, _⟩ := bE gZ.out; have p284 : 0 ≤ (gy : Int) := dt_; have q284 : gy < (af.length : Int) := dt_; obtain ⟨M9, A284_4, c284_4, e284, xP, xQ, xR, xS, xU, EW, EX⟩ := gu bT.out gy p284 q284; obtain rfl : DJ = M9 := (by injection e284); replace xP := hc_ HB xP; replace xQ := hc_ HB xQ; replace xR := hc_ HB xR; replace xS := hc_ HB xS; clear EX EW))
                  go_ret; exact ⟨re_, bl_⟩
                 ·rw [if_neg c49] at H; obtain ⟨JP, c49b1⟩ := bn_ c49; by_cases c53 : ((ag af gy).f0) = 4
                  ·rw [if_pos c53] at H; obtain ⟨c53b0, c53b1⟩ := bq_ c53; clear c53; obtain rfl := Option.some.inj H; obtain ⟨_, _, _, _, hcz54_4, _, _, _, _, _⟩ := bE gZ.out; have xk : 0 ≤ (gy : Int) := dt_; have xm : gy < (af.length : Int) := dt_; obtain ⟨DJ, CR, CS, e282, r9, si, sj, sD, sF, sG, sH⟩ := gu bT.out gy xk xm; cases e282; replace r9 := hc_ HB r9; replace si := hc_ HB si; replace sj := hc_ HB sj; replace sD := hc_ HB sD; replace sF := hc_ HB sF; have zt := aa.mk sH; have zu := aa.mk sG; clear sH sG; replace xk := eq_true xk; replace xm := eq_true xm; go_wp2_with (((with_reducible refine ay (f := 46) rfl ?_); refine gl_ (some 88) Tryd.func46 #[.agg (t5_ ((ag af gy).f0) ((ag af gy).f1) ((ag af gy).f2) ((ag af gy).f3) CR ((ag af gy).f4).length CS)] ?_; (with_reducible refine (ih k4 (by have := HJ1.out; have := HJ6.out; have := HJ39.out; have := HK4.out; omega) ((ag af gy).f0) ((ag af gy).f1) ((ag af gy).f2) ((ag af gy).f3) _ _ ((ag af gy).f4) t283 _ ?au ?av A47.out).mono ?_); (case au => exact cb_ (Kd.aV zt.out HB.out)); (case av => exact zu.out); rintro e w55 ⟨rfl, hb⟩; refine ⟨_, rfl, ?_⟩; replace gZ := kb_ gZ hb; replace HB := aa.mk (ax bl_ hb); obtain ⟨_, _, _, _, hcz56_4, _, _, _, _, _⟩ := bE gZ.out; have p284 : 0 ≤ (gy : Int) := dt_; have q284 : gy < (af.length : Int) := dt_; obtain ⟨M9, A284_4, c284_4, e284, xP, xQ, xR, xS, xU, EW, EX⟩ := gu bT.out gy p284 q284; obtain rfl : DJ = M9 := (by injection e284); replace xP := hc_ HB xP; replace xQ := hc_ HB xQ; replace xR := hc_ HB xR; replace xS := hc_ HB xS; replace xU := hc_ HB xU; clear EX EW; have p285 : 0 ≤ (gy : Int) := dt_; have q285 : gy < (af.length : Int) := dt_; obtain ⟨ad285, A285_4, c285_4, e285, EY, EZ, E5, E8, zw, E9, Fa⟩ := gu bT.out gy p285 q285; obtain rfl : DJ = ad285 := (by injection e285); replace EY := hc_ HB EY; replace EZ := hc_ HB EZ; replace E5 := hc_ HB E5; replace E8 := hc_ HB E8; replace zw := hc_ HB zw; have HR285_4 := aa.mk Fa; have HC285_4 := aa.mk E9; clear Fa E9; have ea_ := Option.some.inj (xU.symm.trans zw); injection ea_ with ea_ en_ ec_; subst ea_; subst ec_; clear en_))
                   go_ret; exact ⟨re_, bl_⟩
                  ·rw [if_neg c53] at H; obtain ⟨c53b0, c53b1⟩ := bn_ c53; have H' := aa.mk H; clear H; obtain ⟨_, _, _, _, U6, _, _, _, _, _⟩ := bE gZ.out; have xk : 0 ≤ (gy : Int) := dt_; have xm : gy < (af.length : Int) := dt_; obtain ⟨DJ, CR, CS, e282, r9, si, sj, sD, sF, sG, sH⟩ := gu bT.out gy xk xm; cases e282; replace r9 := hc_ HB r9; replace si := hc_ HB si; replace sj := hc_ HB sj; replace sD := hc_ HB sD; replace sF := hc_ HB sF; have zt := aa.mk sH; have zu := aa.mk sG; clear sH sG; replace xk := eq_true xk; replace xm := eq_true xm; go_wp2_with (((with_reducible refine ay (f := 46) rfl ?_); refine gl_ (some 88) Tryd.func46 #[.agg (t5_ ((ag af gy).f0) ((ag af gy).f1) ((ag af gy).f2) ((ag af gy).f3) CR ((ag af gy).f4).length CS)] ?_; (with_reducible refine (ih k4 (by have := HJ1.out; have := HJ6.out; have := HJ39.out; have := HK4.out; omega) ((ag af gy).f0) ((ag af gy).f1) ((ag af gy).f2) ((ag af gy).f3) _ _ ((ag af gy).f4) t283 _ ?au ?av A47.out).mono ?_); (case au => exact cb_ (Kd.aV zt.out HB.out)); (case av => exact zu.out); rintro e w58 ⟨rfl, hb⟩; refine ⟨_, rfl, ?_⟩; replace gZ := kb_ gZ hb; replace HB := aa.mk (ax bl_ hb); obtain ⟨_, _, _, _, Ch, _, _, _, _, _⟩ := bE gZ.out; have p284 : 0 ≤ (gy : Int) := dt_; have q284 : gy < (af.length : Int) := dt_; obtain ⟨M9, A284_4, c284_4, e284, xP, xQ, xR, xS, xU, EW, EX⟩ := gu bT.out gy p284 q284; obtain rfl : DJ = M9 := (by injection e284); replace xP := hc_ HB xP; replace xQ := hc_ HB xQ; replace xR := hc_ HB xR; replace xS := hc_ HB xS; replace xU := hc_ HB xU; clear EX EW; have p285 : 0 ≤ (gy : Int) := dt_; have q285 : gy < (af.length : Int) := dt_; obtain ⟨ad285, A285_4, c285_4, e285, EY, EZ, E5, E8, zw, E9, Fa⟩ := gu bT.out gy p285 q285; obtain rfl : DJ = ad285 := (by injection e285); replace EY := hc_ HB EY; replace EZ := hc_ HB EZ; replace E5 := hc_ HB E5; replace E8 := hc_ HB E8; replace zw := hc_ HB zw; have HR285_4 := aa.mk Fa; have HC285_4 := aa.mk E9; clear Fa E9; have ea_ := Option.some.inj (xU.symm.trans zw); injection ea_ with ea_ en_ ec_; subst ea_; subst ec_; clear en_))
                   go_roundg k4
                   case measure => have := HJ1.out; have := HJ6.out; have := HJ39.out; have := HK4.out; omega
                   case rel => exact ⟨(wrap64 (gy + 1)), rs_, H', ⟨by have := HJ1.out; have := HJ6.out; have := HJ39.out; have := HK4.out; omega⟩, ⟨bk_⟩, ⟨bl_⟩⟩
                ·rw [if_neg c48] at H; obtain ⟨c48b0, c48b1⟩ := bn_ c48; obtain rfl := Option.some.inj H; obtain ⟨_, _, _, _, hcz60_4, _, _, _, _, _⟩ := bE gZ.out; have xk : 0 ≤ (gy : Int) := dt_; have xm : gy < (af.length : Int) := dt_; obtain ⟨DJ, CR, CS, e282, r9, si, sj, sD, sF, sG, sH⟩ := gu bT.out gy xk xm; cases e282; replace r9 := hc_ HB r9; replace si := hc_ HB si; replace sj := hc_ HB sj; replace sD := hc_ HB sD; replace sF := hc_ HB sF; have zt := aa.mk sH; have zu := aa.mk sG; clear sH sG; replace xk := eq_true xk; replace xm := eq_true xm; go_wp2_with (((with_reducible refine ay (f := 46) rfl ?_); refine gl_ (some 88) Tryd.func46 #[.agg (t5_ ((ag af gy).f0) ((ag af gy).f1) ((ag af gy).f2) ((ag af gy).f3) CR ((ag af gy).f4).length CS)] ?_; (with_reducible refine (ih k4 (by have := HJ1.out; have := HJ6.out; have := HJ39.out; have := HK4.out; omega) ((ag af gy).f0) ((ag af gy).f1) ((ag af gy).f2) ((ag af gy).f3) _ _ ((ag af gy).f4) t283 _ ?au ?av A47.out).mono ?_); (case au => exact cb_ (Kd.aV zt.out HB.out)); (case av => exact zu.out); rintro e w61 ⟨rfl, hb⟩; refine ⟨_, rfl, ?_⟩; replace HB := aa.mk (ax bl_ hb)))
                 go_ret; exact ⟨re_, bl_⟩
               ·rw [if_neg c46] at H; exact absurd H (by simp)
              ·rw [if_neg c45] at H; have c45b0 := decide_eq_false c45; clear c45; obtain rfl := Option.some.inj H; obtain ⟨_, _, _, _, U7, _, _, _, _, _⟩ := bE gZ.out; go_wp2; go_ret; exact ⟨re_, bl_⟩
        ·rw [if_neg c39] at H; obtain ⟨c39b0, c39b1⟩ := bn_ c39; by_cases c63 : ah = 6
         ·rw [if_pos c63] at H; obtain ⟨c63b0, c63b1⟩ := bq_ c63; clear c63; have HC64 := aa.mk H; clear H; go_upto_region 22 with (fail)
          go_cut [117] (fun v117 wc => ∃ (kq : Nat) (J2 : Bool), v117 = .bool J2 ∧ aa (aG.j4 kq J2 ah ak aj ai af = some r) ∧ aa (kq ≤ kj6) ∧ aa (wc.heap[M6]? = some (.cells #[.int .i64 ah, .int .i64 ak, .int .i64 aj, .int .i64 ai, (.slice aY af.length aT)] 24 (0, 0))) ∧ aa (Below w.heap.size w wc))
          case first =>
           have H := HC64.out; clear HC64; by_cases c65 : ai < 1
           ·rw [if_pos c65] at H; have c65b0 := decide_eq_true c65; clear c65; (skip); have H' := aa.mk H; clear H; obtain ⟨_, _, _, JX, _, _, _, _, _, _⟩ := bE gZ.out; go_wp2; go_meet
            case rel => exact ⟨_, (true), rs_, H', ⟨by have := HJ1.out; have := HJ6.out; omega⟩, ⟨bk_⟩, ⟨bl_⟩⟩
           ·rw [if_neg c65] at H; have c65b0 := decide_eq_false c65; clear c65; (skip); have H' := aa.mk H; clear H; obtain ⟨_, _, _, Vz, _, _, _, _, _, _⟩ := bE gZ.out; go_wp2; go_meet
            case rel => exact ⟨_, (decide (ai > 4)), rs_, H', ⟨by have := HJ1.out; have := HJ6.out; omega⟩, ⟨bk_⟩, ⟨bl_⟩⟩
          case rest =>
           clear HC64; obtain ⟨kq, J2, rfl, HA, HJ63, gZ, HB⟩ := hcut; cases kq with
           | zero => exact absurd HA.out (by simp [aG.j4])
           | succ kj63 =>
            have H := HA.out; clear HA; simp only [aG.j4] at H; by_cases c68 : J2 = true
            ·subst c68; rw [if_pos rfl] at H; obtain rfl := Option.some.inj H; go_wp2; go_ret; exact ⟨re_, bl_⟩
            ·replace c68 := Bool.eq_false_iff.mpr c68; subst c68; rw [if_neg (show ¬ (false = true) by decide)] at H; by_cases c69 : (af.length : Int) = 1
             ·rw [if_pos c69] at H; obtain ⟨c69b0, c69b1⟩ := bq_ c69; clear c69; by_cases c70 : 0 < (af.length : Int)
              ·rw [if_pos c70] at H; have c70b0 := decide_eq_true c70; clear c70; replace H := Option.bind_eq_some_iff.mp H; obtain ⟨t287, A710, H⟩ := H; have A71 := aa.mk A710; clear A710; by_cases c72 : t287 = 0
               ·rw [if_pos c72] at H; obtain ⟨c72b0, c72b1⟩ := bq_ c72; clear c72; by_cases c73 : ((ag af 0).f0) = 1
                ·rw [if_pos c73] at H; obtain ⟨c73b0, c73b1⟩ := bq_ c73; clear c73; obtain rfl := Option.some.inj H; obtain ⟨_, _, _, _, PO, _, _, _, _, _⟩ := bE gZ.out; have p286 : 0 ≤ (0 : Int) := (by omega); have q286 : 0 < (af.length : Int) := dt_; obtain ⟨DK, CU, CV, e286, oD, oF, oG, oH, oI, sI, sJ⟩ := gu bT.out 0 p286 q286; cases e286; have qi286 : (0 < af.length) = True := eq_true (by omega); (try simp only [z0_, Nat.zero_mul, Addr.add_zero'] at oD oF oG oH oI); replace oD := hc_ HB oD; replace oF := hc_ HB oF; replace oG := hc_ HB oG; replace oH := hc_ HB oH; replace oI := hc_ HB oI; have zx := aa.mk sJ; have zy := aa.mk sI; clear sJ sI; go_wp2_with (((with_reducible refine ay (f := 46) rfl ?_); refine gl_ (some 126) Tryd.func46 #[.agg (t5_ ((ag af 0).f0) ((ag af 0).f1) ((ag af 0).f2) ((ag af 0).f3) CU ((ag af 0).f4).length CV)] ?_; (with_reducible refine (ih kj63 (by have := HJ1.out; have := HJ6.out; have := HJ63.out; omega) ((ag af 0).f0) ((ag af 0).f1) ((ag af 0).f2) ((ag af 0).f3) _ _ ((ag af 0).f4) t287 _ ?au ?av A71.out).mono ?_); (case au => exact cb_ (Kd.aV zx.out HB.out)); (case av => exact zy.out); rintro e w75 ⟨rfl, hb⟩; refine ⟨_, rfl, ?_⟩; replace gZ := kb_ gZ hb; replace HB := aa.mk (ax bl_ hb); obtain ⟨_, _, _, _, hcz76_4, _, _, _, _, _⟩ := bE gZ.out; have p288 : 0 ≤ (0 : Int) := (by omega); have q288 : 0 < (af.length : Int) := dt_; obtain ⟨Na, A288_4, c288_4, e288, sK, sM, sN, sO, sP, Fb, Fe⟩ := gu bT.out 0 p288 q288; obtain rfl : DK = Na := (by injection e288); (try simp only [z0_, Nat.zero_mul, Addr.add_zero'] at sK); (try simp only [z0_, Nat.zero_mul, Addr.add_zero'] at sM); (try simp only [z0_, Nat.zero_mul, Addr.add_zero'] at sN); (try simp only [z0_, Nat.zero_mul, Addr.add_zero'] at sO); (try simp only [z0_, Nat.zero_mul, Addr.add_zero'] at sP); replace sK := hc_ HB sK; replace sM := hc_ HB sM; replace sN := hc_ HB sN; replace sO := hc_ HB sO; clear Fe Fb))
                 go_ret; exact ⟨re_, bl_⟩
                ·rw [if_neg c73] at H; obtain ⟨c73b0, c73b1⟩ := bn_ c73; by_cases c77 : ((ag af 0).f0) = 2
                 ·rw [if_pos c77] at H; obtain ⟨c77b0, c77b1⟩ := bq_ c77; clear c77; obtain rfl := Option.some.inj H; obtain ⟨_, _, _, _, hcz78_4, _, _, _, _, _⟩ := bE gZ.out; have p286 : 0 ≤ (0 : Int) := (by omega); have q286 : 0 < (af.length : Int) := dt_; obtain ⟨DK, CU, CV, e286, oD, oF, oG, oH, oI, sI, sJ⟩ := gu bT.out 0 p286 q286; cases e286; have qi286 : (0 < af.length) = True := eq_true (by omega); (try simp only [z0_, Nat.zero_mul, Addr.add_zero'] at oD oF oG oH oI); replace oD := hc_ HB oD; replace oF := hc_ HB oF; replace oG := hc_ HB oG; replace oH := hc_ HB oH; replace oI := hc_ HB oI; have zx := aa.mk sJ; have zy := aa.mk sI; clear sJ sI; go_wp2_with (((with_reducible refine ay (f := 46) rfl ?_); refine gl_ (some 126) Tryd.func46 #[.agg (t5_ ((ag af 0).f0) ((ag af 0).f1) ((ag af 0).f2) ((ag af 0).f3) CU ((ag af 0).f4).length CV)] ?_; (with_reducible refine (ih kj63 (by have := HJ1.out; have := HJ6.out; have := HJ63.out; omega) ((ag af 0).f0) ((ag af 0).f1) ((ag af 0).f2) ((ag af 0).f3) _ _ ((ag af 0).f4) t287 _ ?au ?av A71.out).mono ?_); (case au => exact cb_ (Kd.aV zx.out HB.out)); (case av => exact zy.out); rintro e w79 ⟨rfl, hb⟩; refine ⟨_, rfl, ?_⟩; replace gZ := kb_ gZ hb; replace HB := aa.mk (ax bl_ hb); obtain ⟨_, _, _, _, hcz80_4, _, _, _, _, _⟩ := bE gZ.out; have p288 : 0 ≤ (0 : Int) := (by omega); have q288 : 0 < (af.length : Int) := dt_; obtain ⟨Na, A288_4, c288_4, e288, sK, sM, sN, sO, sP, Fb, Fe⟩ := gu bT.out 0 p288 q288; obtain rfl : DK = Na := (by injection e288); (try simp only [z0_, Nat.zero_mul, Addr.add_zero'] at sK); (try simp only [z0_, Nat.zero_mul, Addr.add_zero'] at sM); (try simp only [z0_, Nat.zero_mul, Addr.add_zero'] at sN); (try simp only [z0_, Nat.zero_mul, Addr.add_zero'] at sO); (try simp only [z0_, Nat.zero_mul, Addr.add_zero'] at sP); replace sK := hc_ HB sK; replace sM := hc_ HB sM; replace sN := hc_ HB sN; replace sO := hc_ HB sO; replace sP := hc_ HB sP; clear Fe Fb; have p289 : 0 ≤ (0 : Int) := (by omega); have q289 : 0 < (af.length : Int) := dt_; obtain ⟨ad289, A289_4, c289_4, e289, zz, zA, zB, zC, vW, Ff, Fg⟩ := gu bT.out 0 p289 q289; obtain rfl : DK = ad289 := (by injection e289); (try simp only [z0_, Nat.zero_mul, Addr.add_zero'] at zz); (try simp only [z0_, Nat.zero_mul, Addr.add_zero'] at zA); (try simp only [z0_, Nat.zero_mul, Addr.add_zero'] at zB); (try simp only [z0_, Nat.zero_mul, Addr.add_zero'] at zC); (try simp only [z0_, Nat.zero_mul, Addr.add_zero'] at vW); replace zz := hc_ HB zz; replace zA := hc_ HB zA; replace zB := hc_ HB zB; replace zC := hc_ HB zC; replace vW := hc_ HB vW; have HR289_4 := aa.mk Fg; have HC289_4 := aa.mk Ff; clear Fg Ff; have ea_ := Option.some.inj (sP.symm.trans vW); injection ea_ with ea_ en_ ec_; subst ea_; subst ec_; clear en_))
                  go_ret; exact ⟨re_, bl_⟩
                 ·rw [if_neg c77] at H; obtain ⟨c77b0, c77b1⟩ := bn_ c77; obtain rfl := Option.some.inj H; obtain ⟨_, _, _, _, PQ, _, _, _, _, _⟩ := bE gZ.out; have p286 : 0 ≤ (0 : Int) := (by omega); have q286 : 0 < (af.length : Int) := dt_; obtain ⟨DK, CU, CV, e286, oD, oF, oG, oH, oI, sI, sJ⟩ := gu bT.out 0 p286 q286; cases e286; have qi286 : (0 < af.length) = True := eq_true (by omega); (try simp only [z0_, Nat.zero_mul, Addr.add_zero'] at oD oF oG oH oI); replace oD := hc_ HB oD; replace oF := hc_ HB oF; replace oG := hc_ HB oG; replace oH := hc_ HB oH; replace oI := hc_ HB oI; have zx := aa.mk sJ; have zy := aa.mk sI; clear sJ sI; go_wp2_with (((with_reducible refine ay (f := 46) rfl ?_); refine gl_ (some 126) Tryd.func46 #[.agg (t5_ ((ag af 0).f0) ((ag af 0).f1) ((ag af 0).f2) ((ag af 0).f3) CU ((ag af 0).f4).length CV)] ?_; (with_reducible refine (ih kj63 (by have := HJ1.out; have := HJ6.out; have := HJ63.out; omega) ((ag af 0).f0) ((ag af 0).f1) ((ag af 0).f2) ((ag af 0).f3) _ _ ((ag af 0).f4) t287 _ ?au ?av A71.out).mono ?_); (case au => exact cb_ (Kd.aV zx.out HB.out)); (case av => exact zy.out); rintro e w82 ⟨rfl, hb⟩; refine ⟨_, rfl, ?_⟩; replace gZ := kb_ gZ hb; replace HB := aa.mk (ax bl_ hb); obtain ⟨_, _, _, _, hcz83_4, _, _, _, _, _⟩ := bE gZ.out; have p288 : 0 ≤ (0 : Int) := (by omega); have q288 : 0 < (af.length : Int) := dt_; obtain ⟨Na, A288_4, c288_4, e288, sK, sM, sN, sO, sP, Fb, Fe⟩ := gu bT.out 0 p288 q288; obtain rfl : DK = Na := (by injection e288); (try simp only [z0_, Nat.zero_mul, Addr.add_zero'] at sK); (try simp only [z0_, Nat.zero_mul, Addr.add_zero'] at sM); (try simp only [z0_, Nat.zero_mul, Addr.add_zero'] at sN); (try simp only [z0_, Nat.zero_mul, Addr.add_zero'] at sO); (try simp only [z0_, Nat.zero_mul, Addr.add_zero'] at sP); replace sK := hc_ HB sK; replace sM := hc_ HB sM; replace sN := hc_ HB sN; replace sO := hc_ HB sO; replace sP := hc_ HB sP; clear Fe Fb; have p289 : 0 ≤ (0 : Int) := (by omega); have q289 : 0 < (af.length : Int) := dt_; obtain ⟨ad289, A289_4, c289_4, e289, zz, zA, zB, zC, vW, Ff, Fg⟩ := gu bT.out 0 p289 q289; obtain rfl : DK = ad289 := (by injection e289); (try simp only [z0_, Nat.zero_mul, Addr.add_zero'] at zz); (try simp only [z0_, Nat.zero_mul, Addr.add_zero'] at zA); (try simp only [z0_, Nat.zero_mul, Addr.add_zero'] at zB); (try simp only [z0_, Nat.zero_mul, Addr.add_zero'] at zC); (try simp only [z0_, Nat.zero_mul, Addr.add_zero'] at vW); replace zz := hc_ HB zz; replace zA := hc_ HB zA; replace zB := hc_ HB zB; replace zC := hc_ HB zC; replace vW := hc_ HB vW; have HR289_4 := aa.mk Fg; have HC289_4 := aa.mk Ff; clear Fg Ff; have ea_ := Option.some.inj (sP.symm.trans vW); injection ea_ with ea_ en_ ec_; subst ea_; subst ec_; clear en_))
                  go_ret; exact ⟨re_, bl_⟩
               ·rw [if_neg c72] at H; obtain ⟨c72b0, c72b1⟩ := bn_ c72; obtain rfl := Option.some.inj H; obtain ⟨_, _, _, _, hcz84_4, _, _, _, _, _⟩ := bE gZ.out; have p286 : 0 ≤ (0 : Int) := (by omega); have q286 : 0 < (af.length : Int) := dt_; obtain ⟨DK, CU, CV, e286, oD, oF, oG, oH, oI, sI, sJ⟩ := gu bT.out 0 p286 q286; cases e286; have qi286 : (0 < af.length) = True := eq_true (by omega); (try simp only [z0_, Nat.zero_mul, Addr.add_zero'] at oD oF oG oH oI); replace oD := hc_ HB oD; replace oF := hc_ HB oF; replace oG := hc_ HB oG; replace oH := hc_ HB oH; replace oI := hc_ HB oI; have zx := aa.mk sJ; have zy := aa.mk sI; clear sJ sI; go_wp2_with (((with_reducible refine ay (f := 46) rfl ?_); refine gl_ (some 126) Tryd.func46 #[.agg (t5_ ((ag af 0).f0) ((ag af 0).f1) ((ag af 0).f2) ((ag af 0).f3) CU ((ag af 0).f4).length CV)] ?_; (with_reducible refine (ih kj63 (by have := HJ1.out; have := HJ6.out; have := HJ63.out; omega) ((ag af 0).f0) ((ag af 0).f1) ((ag af 0).f2) ((ag af 0).f3) _ _ ((ag af 0).f4) t287 _ ?au ?av A71.out).mono ?_); (case au => exact cb_ (Kd.aV zx.out HB.out)); (case av => exact zy.out); rintro e w85 ⟨rfl, hb⟩; refine ⟨_, rfl, ?_⟩; replace HB := aa.mk (ax bl_ hb)))
                go_ret; exact ⟨re_, bl_⟩
              ·rw [if_neg c70] at H; exact absurd H (by simp)
             ·rw [if_neg c69] at H; obtain ⟨c69b0, c69b1⟩ := bn_ c69; obtain rfl := Option.some.inj H; obtain ⟨_, _, _, _, hcz86_4, _, _, _, _, _⟩ := bE gZ.out; go_wp2; go_ret; exact ⟨re_, bl_⟩
         ·rw [if_neg c63] at H; obtain ⟨c63b0, c63b1⟩ := bn_ c63; obtain rfl := Option.some.inj H; go_wp2; go_ret; exact ⟨re_, bl_⟩

end Go.Proofs.YtggelekooacmnaaDoor.Q
