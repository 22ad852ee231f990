/- Lemmas for: rf -/
import Derived.Shelf.Strings.Builder1
import Derived.Shelf.Strings.Builder2
import Derived.Shelf.Strings.OnBuilder
import Derived.Shelf.Small.Wraps
import Derived.Shelf.Strconv.Itoa0
import Derived.Shelf.Strconv.Itoa1
import Derived.Shelf.LaysM
import Derived.Shelf.Strconv.Itoa2
import Derived.Shelf.Strconv.Itoa3
import Derived.Shelf.Slices.Equal
import Derived.Test.YtggelekooacmnaaDoorProg
import Derived.Lib.AppendIntMem
import Derived.Below
import Derived.Deep.Draws
import Derived.Deep.AppendLies
import Derived.Maps.AppendAt
import Derived.OwnWalk
import Derived.Laws.BytesArg
import Derived.Laws.MakeOwn
import Derived.Laws.OwnMore
import Derived.Deep.OwnRows
import Derived.Tactics
import Derived.Lib.ConvBytes
import Derived.Laws.Slices
import Derived.WalkKit
import Derived.KernelRfl
import Derived.RowKit3
import Derived.Deep.LoopGhost
import Derived.Deep.QuietTactic
import Derived.BigQuiet
import Derived.WideLaws
import Derived.Deep.DeepCutAuto
import Derived.Deep.CutBlock
import Derived.Deep.RegionHeld3
import Derived.Laws.Rows
import Derived.Lib.AppendStr
import Derived.ArgAppend
import Derived.Laws.IdiomCopy
import Derived.OrdersHeld
import Derived.Laws.BitsLemmas
import Derived.RowKit
import Derived.StillTailTactics
import Derived.Lib.QuietBelow
import Derived.Lib.Hide
import Derived.Test.YtggelekooacmnaaDoorVr1
/-
  DERIVED: THE SHELF's CONTRACTS AT THIS DUMP, IN PLAIN WORDS (tools/lay-plain.mjs out of 'TrydShelf.lean', which tools/lay-shelf.mjs wrote): THE SAME DECLARATIONS UNDER THE SAME NAMES: 'import', 'namespace', 'open', 'def', 'theorem' AND NOTHING ELSE: no command of the shelf's: FOR A HAND-IN. Each laying: the table of numbers ('.._ren') and one theorem, a field a fact of the dump's own or the kernel's comparison; each contract: ONE APPLICATION.
-/
namespace Go.Proofs
open Go.Shelf
def Tryd.Ki : Go.Shelf.Ren := ⟨fun | 156 => 72 | 165 => 89 | 166 => 90 | 169 => 91 | 240 => 97 | 241 => 98 | 276 => 105 | 277 => 106 | n => n, fun | 31 => 79 | 9 => 9 | 3 => 3 | 4 => 4 | 0 => 0 | 20 => 20 | 72 => 91 | 76 => 95 | 70 => 88 | 37 => 89 | 75 => 94 | 127 => 100 | 164 => 112 | 5 => 5 | 80 => 97 | n => n, fun | n => n⟩
theorem Tryd.Ru : Go.Proofs.Lays.n156 Tryd.prog Tryd.Ki := {
  mixed := by kernel_rfl
  f156 := Tryd.func72.trans (congrArg some (by kernel_rfl))
  f165 := Tryd.func89.trans (congrArg some (by kernel_rfl))
  f166 := Tryd.func90.trans (congrArg some (by kernel_rfl))
  f169 := Tryd.func91.trans (congrArg some (by kernel_rfl))
  f240 := Tryd.func97.trans (congrArg some (by kernel_rfl))
  f241 := Tryd.func98.trans (congrArg some (by kernel_rfl))
  f276 := Tryd.func105.trans (congrArg some (by kernel_rfl))
  f277 := Tryd.func106.trans (congrArg some (by kernel_rfl))
  t0 := Tryd.underlying0
  a0 := Tryd.isAgg0
  z0 := Tryd.sizeOf0
  v0 := Tryd.zeroValue0
  t3 := Tryd.underlying3
  a3 := Tryd.isAgg3
  z3 := Tryd.sizeOf3
  v3 := Tryd.zeroValue3
  t4 := Tryd.underlying4
  a4 := Tryd.isAgg4
  z4 := Tryd.sizeOf4
  v4 := Tryd.zeroValue4
  t9 := Tryd.underlying9
  a9 := Tryd.isAgg9
  z9 := Tryd.sizeOf9
  v9 := Tryd.zeroValue9
  t20 := Tryd.underlying20
  a20 := Tryd.isAgg20
  z20 := Tryd.sizeOf20
  v20 := Tryd.zeroValue20
  t31 := Tryd.underlying79
  a31 := Tryd.isAgg79
  z31 := Tryd.sizeOf79
  v31 := Tryd.zeroValue79
  t37 := Tryd.underlying89
  a37 := Tryd.isAgg89
  z37 := Tryd.sizeOf89
  v37 := Tryd.zeroValue89
  t70 := Tryd.underlying88
  a70 := Tryd.isAgg88
  z70 := Tryd.sizeOf88
  v70 := Tryd.zeroValue88
  t72 := Tryd.underlying91
  a72 := Tryd.isAgg91
  z72 := Tryd.sizeOf91
  v72 := Tryd.zeroValue91
  t75 := Tryd.underlying94
  a75 := Tryd.isAgg94
  z75 := Tryd.sizeOf94
  v75 := Tryd.zeroValue94
  t76 := Tryd.underlying95
  a76 := Tryd.isAgg95
  z76 := Tryd.sizeOf95
  v76 := Tryd.zeroValue95
  t127 := Tryd.underlying100
  a127 := Tryd.isAgg100
  z127 := Tryd.sizeOf100
  v127 := Tryd.zeroValue100
  t164 := Tryd.underlying112
  a164 := Tryd.isAgg112
  z164 := Tryd.sizeOf112
  v164 := Tryd.zeroValue112 }
theorem Tryd.Bp : Builder.Extra Tryd.prog Tryd.Ki := {
  sizeBuilder := by kernel_rfl
  liesBuilder := by kernel_rfl
  t5 := Tryd.underlying5
  a5 := Tryd.isAgg5
  z5 := Tryd.sizeOf5
  v5 := Tryd.zeroValue5
  infoByte := by kernel_rfl
  cellsByte := by kernel_rfl
  sizeByte := by kernel_rfl
  neB5 := by decide }
open Go.RowKit in
/-- No element: the empty string; the world is as it was. (Whatever the slice's address and capacity: a nil slice too.) (LAID: no walk: one application.) -/
theorem Tryd.strings_Join_none (a : Option Addr) (c : Nat) (sep : ByteArray) (w : World) :
    Calls Tryd.prog 72 #[.slice a 0 c, .string sep] w fun e w' => e = .returned (.string ⟨#[]⟩) ∧ w' = w := Any.strings_Join_none Tryd.Ru Tryd.Bp a c sep w
open Go.RowKit in
/-- strings.Join: "Join concatenates the elements of its first argument to create a single string. The separator string sep is placed between elements in the resulting string.": HOWEVER MANY ELEMENTS. Below the heap's end the world is as it was. (LAID: no walk: one application.) -/
theorem Tryd.strings_Join (bk o c : Nat) (xs : List ByteArray) (sep : ByteArray) (w : World) (hcells : ∀ (j : Nat) x, xs[j]? = some x → w.cell? ⟨bk, o + j, none⟩ = some (.string x)) (hbk : bk < w.heap.size) (hN : xs.length ≤ 140737488355328) (hcap : xs.length ≤ c) (hlen : (Lib.join (xs.map (·.data.toList)) sep.data.toList).length ≤ 140737488355328) :
    Calls Tryd.prog 72 #[.slice (some ⟨bk, o, none⟩) xs.length c, .string sep] w fun e w' => e = .returned (.string ⟨(Lib.join (xs.map (·.data.toList)) sep.data.toList).toArray⟩) ∧ Below w.heap.size w w' := Any.strings_Join Tryd.Ru Tryd.Bp bk o c xs sep w hcells hbk hN hcap hlen
def Tryd.PK : Go.Shelf.Ren := ⟨fun | 171 => 71 | 243 => 88 | 246 => 96 | 283 => 101 | 284 => 102 | 285 => 103 | 286 => 104 | 129 => 112 | 317 => 111 | 318 => 113 | 319 => 114 | 320 => 115 | 337 => 119 | 338 => 120 | n => n, fun | 3 => 3 | 9 => 9 | 2 => 2 | 4 => 4 | 171 => 106 | 0 => 0 | 53 => 107 | 37 => 89 | 5 => 5 | 173 => 110 | 212 => 122 | 51 => 119 | 20 => 20 | 213 => 123 | 46 => 124 | 232 => 133 | 233 => 134 | n => n, fun | 17 => 0 | 18 => 2 | 19 => 3 | n => n⟩
theorem Tryd.laysM171 : Go.Proofs.LaysM.n171 Tryd.prog Tryd.PK := {
  mixed := by kernel_rfl
  f129 := Tryd.func112.trans (congrArg some (by kernel_rfl))
  f171 := Tryd.func71.trans (congrArg some (by kernel_rfl))
  f243 := Tryd.func88.trans (congrArg some (by kernel_rfl))
  f246 := Tryd.func96.trans (congrArg some (by kernel_rfl))
  f283 := Tryd.func101.trans (congrArg some (by kernel_rfl))
  f284 := Tryd.func102.trans (congrArg some (by kernel_rfl))
  f285 := Tryd.func103.trans (congrArg some (by kernel_rfl))
  f286 := Tryd.func104.trans (congrArg some (by kernel_rfl))
  f317 := Tryd.func111.trans (congrArg some (by kernel_rfl))
  f318 := Tryd.func113.trans (congrArg some (by kernel_rfl))
  f319 := Tryd.func114.trans (congrArg some (by kernel_rfl))
  f320 := Tryd.func115.trans (congrArg some (by kernel_rfl))
  f337 := Tryd.func119.trans (congrArg some (by kernel_rfl))
  f338 := Tryd.func120.trans (congrArg some (by kernel_rfl))
  t0 := Tryd.underlying0
  a0 := Tryd.isAgg0
  z0 := Tryd.sizeOf0
  v0 := Tryd.zeroValue0
  t2 := Tryd.underlying2
  a2 := Tryd.isAgg2
  z2 := Tryd.sizeOf2
  v2 := Tryd.zeroValue2
  t3 := Tryd.underlying3
  a3 := Tryd.isAgg3
  z3 := Tryd.sizeOf3
  v3 := Tryd.zeroValue3
  t4 := Tryd.underlying4
  a4 := Tryd.isAgg4
  z4 := Tryd.sizeOf4
  v4 := Tryd.zeroValue4
  t5 := Tryd.underlying5
  a5 := Tryd.isAgg5
  z5 := Tryd.sizeOf5
  v5 := Tryd.zeroValue5
  t9 := Tryd.underlying9
  a9 := Tryd.isAgg9
  z9 := Tryd.sizeOf9
  v9 := Tryd.zeroValue9
  t20 := Tryd.underlying20
  a20 := Tryd.isAgg20
  z20 := Tryd.sizeOf20
  v20 := Tryd.zeroValue20
  t37 := Tryd.underlying89
  a37 := Tryd.isAgg89
  z37 := Tryd.sizeOf89
  v37 := Tryd.zeroValue89
  t46 := Tryd.underlying124
  a46 := Tryd.isAgg124
  z46 := Tryd.sizeOf124
  v46 := Tryd.zeroValue124
  t51 := Tryd.underlying119
  a51 := Tryd.isAgg119
  z51 := Tryd.sizeOf119
  v51 := Tryd.zeroValue119
  t53 := Tryd.underlying107
  a53 := Tryd.isAgg107
  z53 := Tryd.sizeOf107
  v53 := Tryd.zeroValue107
  t171 := Tryd.underlying106
  a171 := Tryd.isAgg106
  z171 := Tryd.sizeOf106
  v171 := Tryd.zeroValue106
  t173 := Tryd.underlying110
  a173 := Tryd.isAgg110
  z173 := Tryd.sizeOf110
  v173 := Tryd.zeroValue110
  t212 := Tryd.underlying122
  a212 := Tryd.isAgg122
  z212 := Tryd.sizeOf122
  v212 := Tryd.zeroValue122
  t213 := Tryd.underlying123
  a213 := Tryd.isAgg123
  z213 := Tryd.sizeOf123
  t232 := Tryd.underlying133
  a232 := Tryd.isAgg133
  z232 := Tryd.sizeOf133
  v232 := Tryd.zeroValue133
  t233 := Tryd.underlying134
  a233 := Tryd.isAgg134
  z233 := Tryd.sizeOf134
  v233 := Tryd.zeroValue134
  g17 := by kernel_rfl
  g18 := by kernel_rfl
  g19 := by kernel_rfl
  i0 := by kernel_rfl
  i2 := by kernel_rfl
  i3 := by kernel_rfl
  i4 := by kernel_rfl
  i5 := by kernel_rfl
  i9 := by kernel_rfl
  i20 := by kernel_rfl
  i37 := by kernel_rfl
  i46 := by kernel_rfl
  i51 := by kernel_rfl
  i53 := by kernel_rfl
  i171 := by kernel_rfl
  i173 := by kernel_rfl
  i212 := by kernel_rfl
  i232 := by kernel_rfl
  i233 := by kernel_rfl
  m17 := by kernel_rfl
  m18 := by kernel_rfl
  m19 := by kernel_rfl }
open Go.RowKit Go.Sort Go.Lib in
/-- strconv.Itoa: "Itoa is equivalent to FormatInt(int64(i), 10).": i's DECIMAL NUMERAL ('Lib.itoa': a '-' where i is negative, then the digits), FOR EVERY int. The world behind the call: the world before it, new blocks behind the heap (the library's 'var a [24]byte'), draws. (LAID: no walk: one application.) -/
theorem Tryd.strconv_Itoa (n : Int) (h0 : -9223372036854775808 ≤ n) (h1 : n ≤ 9223372036854775807) (w : World) (htab : Lib.TabIs Tryd.prog w "internal/strconv.uint64pow10" .u64 Lib.pow10Tab) :
    Calls Tryd.prog 71 #[.int .i64 n] w fun e w' => e = .returned (.string ⟨(Lib.itoa n).toArray⟩) ∧ ∃ k os, w' = grow (w.drewN k) os := Any.strconv_Itoa Tryd.laysM171 n h0 h1 w htab
end Go.Proofs
-- the table of powers as a premise; strings.Join of a row that is read
namespace Go.Proofs.YtggelekooacmnaaDoor.Q
open Go.RowKit Go.Proofs.YtggelekooacmnaaDoorW.aQ Go.Proofs.YtggelekooacmnaaDoorW.bH Go.Proofs.YtggelekooacmnaaDoorW.bL
set_option linter.unusedVariables false
set_option linter.unusedSimpArgs false
abbrev uq (B : Nat) (w : World) : Prop := Lib.TabBelow Tryd.prog B w "internal/strconv.uint64pow10" .u64 Lib.pow10Tab
theorem uq.up {B B' : Nat} {w : World} (h : uq B w) (hB : B ≤ B') : uq B' w := fun w' hb => h w' (hb.mono hB)
theorem ptab {w W : World} (h : uq w.heap.size w) (hb : Below w.heap.size w W) : uq W.heap.size W := uq.up (h.on hb) hb.size
theorem Q3 (w : World) (k : Nat) (os : Array Obj) : Below w.heap.size w (Go.Sort.grow (w.drewN k) os) := Lib.below_grow _ w (Nat.le_refl _) k os
theorem yY : ∀ (a : Array UInt8), (⟨a⟩ : ByteArray).size = a.size := fun _ => rfl
theorem U1 {w : World} {a : Addr} {v : Value} (h : w.cell? a = some v) : a = ⟨a.block, a.off, none⟩ ∧ a.block < w.heap.size := by
  obtain ⟨b, o, s⟩ := a
  unfold World.cell? at h
  dsimp only at h
  constructor
  · cases s with
    | none => rfl
    | some s => split at h <;> simp at h
  · have : w.heap[b]? ≠ none := by intro e; rw [e] at h; simp at h
    exact Nat.lt_of_not_ge fun hn => this (Array.getElem?_eq_none hn)
theorem Q4 (A0 : Option Addr) (c0 : Nat) (l0 : List ByteArray) (a1 : ByteArray) (w : World) (hr0 : Kd.C Kd.string w A0 l0.length l0) (hc0 : l0.length ≤ c0)
    (h1 : l0.length ≤ 140737488355328) (h2 : (Lib.join (l0.map (·.data.toList)) a1.data.toList).length ≤ 140737488355328) :
    Calls Tryd.prog 72 #[.slice A0 l0.length c0, .string a1] w fun e w' => e = .returned (.string ⟨(Lib.join (l0.map (·.data.toList)) a1.data.toList).toArray⟩) ∧ Below w.heap.size w w' := by
  cases l0 with
  | nil =>
    refine (Tryd.strings_Join_none A0 c0 a1 w).mono ?_
    rintro e w' ⟨rfl, rfl⟩
    exact ⟨rfl, Below.refl _ _⟩
  | cons x xs =>
    obtain ⟨ad, rfl, hc⟩ := Kd.OM hr0 0 (by omega) (by simp)
    obtain ⟨he, hb⟩ := U1 hc
    have hs : ad = ⟨ad.block, ad.off, none⟩ := by simpa [Addr.add] using he
    have hb' : ad.block < w.heap.size := by simpa [Addr.add] using hb
    obtain ⟨b, o, sp⟩ := ad
    obtain rfl : sp = none := by simpa using hs
    refine Tryd.strings_Join b o c0 (x :: xs) a1 w ?_ hb' h1 hc0 h2
    intro j y hj
    obtain ⟨ad', e', hj'⟩ := Kd.OM hr0 j (by omega) (by have := (List.getElem?_eq_some_iff.1 hj).1; omega)
    obtain rfl := Option.some.inj e'
    have hz : rdOf ByteArray.empty (x :: xs) (j : Int) = y := by unfold rdOf; simp [List.getD_eq_getElem?_getD, hj]
    rw [hz] at hj'
    have : (Addr.add ⟨b, o, none⟩ ((j : Int)).toNat) = ⟨b, o + j, none⟩ := by
      unfold Addr.add; split
      · rename_i h0; simp at h0; simp [h0]
      · simp
    rwa [this] at hj'
end Go.Proofs.YtggelekooacmnaaDoor.Q
namespace Go.Proofs.YtggelekooacmnaaDoor.Q
open Go.RowKit Go.Proofs.YtggelekooacmnaaDoorW.aQ Go.Proofs.YtggelekooacmnaaDoorW.bH Go.Proofs.YtggelekooacmnaaDoorW.bL
attribute [local go_sem] dD dE dS dU di dm dF dG   -- for this text's walks alone
set_option linter.unusedVariables false
set_option linter.unusedSimpArgs false



def errW : Option Int → Value
  | none => .nilIface
  | some c => .iface 0 (.int .i64 c)
theorem AQ : errW none = .nilIface := rfl
theorem AR (c : Int) : errW (some c) = .iface 0 (.int .i64 c) := rfl

theorem info3 : (Tryd.prog.info? 3).map (fun i => (i.zero, i.size, i.bytes)) = some (some (.int .i64 0), 1, 8) := by kernel_rfl
theorem info5 : (Tryd.prog.info? 5).map (fun i => (i.zero, i.size, i.bytes)) = some (some (.int .u8 0), 1, 1) := by kernel_rfl
theorem info9 : (Tryd.prog.info? 9).map (fun i => (i.zero, i.size, i.bytes)) = some (some (.string ⟨#[]⟩), 1, 16) := by kernel_rfl
theorem info41 : (Tryd.prog.info? 41).map (fun i => (i.zero, i.size, i.bytes)) = some (some (.agg #[(.int .i64 0), (.int .i64 0), (.int .i64 0)]), 3, 24) := by kernel_rfl
theorem Ih : (Tryd.prog.info? 51).map (fun i => (i.zero, i.size, i.bytes)) = some (some (.agg #[(.int .i64 0), (.slice none 0 0)]), 2, 32) := by kernel_rfl
theorem yZ : (Tryd.prog.info? 119).map (fun i => (i.zero, i.size, i.bytes)) = some (some (.int .u32 0), 1, 4) := by kernel_rfl
-- the values' own types
/-! #### struct type 24, nested in itself -/
structure S24 where
  f0 : Int
  f1 : Int
  f2 : Int
  f3 : Int
  f4 : (List S24)
def z24 : S24 := ⟨(0 : Int), (0 : Int), (0 : Int), (0 : Int), ([] : List S24)⟩
def F24 (d : Kd S24) : Kd S24 := Kd.iso (Kd.pair (Kd.int .i64) (Kd.pair (Kd.int .i64) (Kd.pair (Kd.int .i64) (Kd.pair (Kd.int .i64) (Kd.slice 24 d))))) (fun x : S24 => (x.f0, x.f1, x.f2, x.f3, x.f4))
theorem Lp : Kd.tJ F24 := Kd.Pw _ (Kd.AO (Kd.yo _) (Kd.AO (Kd.yo _) (Kd.AO (Kd.yo _) (Kd.AO (Kd.yo _) (Kd.Lc 24 Kd.Ri)))))
theorem sub24 : Kd.Sub F24 [24] := Kd.Rj _ (Kd.Cr (Kd.sub_const _ (by decide)) (Kd.Cr (Kd.sub_const _ (by decide)) (Kd.Cr (Kd.sub_const _ (by decide)) (Kd.Cr (Kd.sub_const _ (by decide)) (Kd.OG 24 (by decide) Kd.sub_id)))))
theorem sz24 : ∀ n, (Kd.upto F24 5 [24] n).sz = 5 := Kd.Rk (fun _ => rfl)
def k24 : Kd S24 := Kd.fix F24 5 [24] sz24 (Kd.Px sub24)
theorem za : Kd.Heap k24 := Kd.heap_fix (fun _ h_ => Kd.heap_iso _ (Kd.DF (Kd.o7 .i64) (Kd.DF (Kd.o7 .i64) (Kd.DF (Kd.o7 .i64) (Kd.DF (Kd.o7 .i64) (Kd.UY 24 h_))))))
theorem Ku {w : World} {x : S24} {cs : List Value} (h : k24.K w x cs) : ∃ A4 c4, cs = [.int .i64 x.f0, .int .i64 x.f1, .int .i64 x.f2, .int .i64 x.f3, .slice A4 x.f4.length c4] ∧ x.f4.length ≤ c4 ∧ k24.C w A4 x.f4.length x.f4 := by
  obtain ⟨n, h⟩ := h
  cases n with
  | zero => exact h.elim
  | succ n =>
    obtain ⟨_, _, rfl, rfl, ⟨_, _, rfl, rfl, ⟨_, _, rfl, rfl, ⟨_, _, rfl, rfl, ⟨A4, c4, rfl, l4, g4⟩⟩⟩⟩⟩ := h
    exact ⟨A4, c4, rfl, l4, Kd.fix_C g4⟩
theorem k24_mk (w : World) (x : S24) {A4 : Option Addr} {c4 : Nat} (l4 : x.f4.length ≤ c4) (g4 : k24.C w A4 x.f4.length x.f4) : k24.K w x [.int .i64 x.f0, .int .i64 x.f1, .int .i64 x.f2, .int .i64 x.f3, .slice A4 x.f4.length c4] := by
  obtain ⟨n4, q4⟩ := Kd.Le Lp g4
  have r4 := Kd.OL Lp sz24 (show n4 ≤ n4 by omega) q4
  exact ⟨n4 + 1, ⟨[.int .i64 x.f0], [.int .i64 x.f1, .int .i64 x.f2, .int .i64 x.f3, .slice A4 x.f4.length c4], rfl, rfl, ⟨[.int .i64 x.f1], [.int .i64 x.f2, .int .i64 x.f3, .slice A4 x.f4.length c4], rfl, rfl, ⟨[.int .i64 x.f2], [.int .i64 x.f3, .slice A4 x.f4.length c4], rfl, rfl, ⟨[.int .i64 x.f3], [.slice A4 x.f4.length c4], rfl, rfl, ⟨A4, c4, rfl, l4, r4⟩⟩⟩⟩⟩⟩
theorem Nk (w : World) (base : Nat) (ok : Nat → Prop) (x : S24) {v4 : Value} (g4 : k24.R 24 w base ok v4 x.f4) : k24.M w base ok x [.int .i64 x.f0, .int .i64 x.f1, .int .i64 x.f2, .int .i64 x.f3, v4] := by
  obtain ⟨n4, q4⟩ := Kd.Ld Lp g4
  have r4 := Kd.OJ Lp sz24 (show n4 ≤ n4 by omega) q4
  exact ⟨n4 + 1, ⟨[.int .i64 x.f0], [.int .i64 x.f1, .int .i64 x.f2, .int .i64 x.f3, v4], rfl, rfl, ⟨[.int .i64 x.f1], [.int .i64 x.f2, .int .i64 x.f3, v4], rfl, rfl, ⟨[.int .i64 x.f2], [.int .i64 x.f3, v4], rfl, rfl, ⟨[.int .i64 x.f3], [v4], rfl, rfl, ⟨v4, rfl, r4⟩⟩⟩⟩⟩⟩
theorem OU {W : World} {ok : Nat → Prop} {x : S24} {cs : List Value} (h : Kd.FK k24 W ok x cs) : ∃ A4 c4, cs = [.int .i64 x.f0, .int .i64 x.f1, .int .i64 x.f2, .int .i64 x.f3, .slice A4 x.f4.length c4] ∧ x.f4.length ≤ c4 ∧ Kd.F k24 W ok A4 x.f4.length x.f4 := by
  obtain ⟨A4, c4, rfl, l4, _⟩ := Ku (Kd.FK_now h)
  exact ⟨A4, c4, rfl, l4, (fun W' hW => by obtain ⟨A4_, c4_, he, l4_, g4_⟩ := Ku (h W' hW); injection (Option.some.inj (show some (Value.slice A4 x.f4.length c4) = some (Value.slice A4_ x.f4.length c4_) from congrArg (fun l => l[4]?) he)) with ha_ _ _; rw [ha_]; exact g4_)⟩
def ag (xs : List S24) (i : Int) : S24 := xs.getD i.toNat z24
theorem fC {w : World} {A : Option Addr} {n : Nat} {xs : List S24} (h : Kd.C k24 w A n xs) (i : Int) (h0 : 0 ≤ i) (h1 : i < n) : ∃ ad A4 c4, A = some ad ∧ w.cell? (ad.add (i.toNat * 5)) = some (.int .i64 (ag xs i).f0) ∧ w.cell? ⟨(ad.add (i.toNat * 5)).block, (ad.add (i.toNat * 5)).off + 1, none⟩ = some (.int .i64 (ag xs i).f1) ∧ w.cell? ⟨(ad.add (i.toNat * 5)).block, (ad.add (i.toNat * 5)).off + 2, none⟩ = some (.int .i64 (ag xs i).f2) ∧ w.cell? ⟨(ad.add (i.toNat * 5)).block, (ad.add (i.toNat * 5)).off + 3, none⟩ = some (.int .i64 (ag xs i).f3) ∧ w.cell? ⟨(ad.add (i.toNat * 5)).block, (ad.add (i.toNat * 5)).off + 4, none⟩ = some (.slice A4 (ag xs i).f4.length c4) ∧ (ag xs i).f4.length ≤ c4 ∧ k24.C w A4 (ag xs i).f4.length (ag xs i).f4 := by
  obtain ⟨ad, c, e, _, hK, hc0⟩ := Kd.La h z24 i h0 h1
  have hc : ∀ j u, c[j]? = some u → w.cell? (ad.add (i.toNat * 5 + j)) = some u := hc0
  obtain ⟨A4, c4, rfl, l4, g4⟩ := Ku hK
  exact ⟨ad, A4, c4, e, hc 0 _ rfl, by rw [← uS _ _ 1 (by omega)]; exact hc 1 _ rfl, by rw [← uS _ _ 2 (by omega)]; exact hc 2 _ rfl, by rw [← uS _ _ 3 (by omega)]; exact hc 3 _ rfl, by rw [← uS _ _ 4 (by omega)]; exact hc 4 _ rfl, l4, g4⟩

/-! #### struct type 41 -/
structure S41 where
  f0 : Int
  f1 : Int
  f2 : Int
def k41 : Kd S41 := Kd.iso (Kd.pair (Kd.int .i64) (Kd.pair (Kd.int .i64) (Kd.int .i64))) (fun x : S41 => (x.f0, x.f1, x.f2))
theorem IY (w : World) (base : Nat) (ok : Nat → Prop) (x : S41)  : k41.M w base ok x [.int .i64 x.f0, .int .i64 x.f1, .int .i64 x.f2] := ⟨[.int .i64 x.f0], [.int .i64 x.f1, .int .i64 x.f2], rfl, rfl, ⟨[.int .i64 x.f1], [.int .i64 x.f2], rfl, rfl, rfl⟩⟩
/-! #### struct type 51, nested in itself -/
structure S51 where
  f0 : Int
  f1 : (List S51)
def z51 : S51 := ⟨(0 : Int), ([] : List S51)⟩
def F51 (d : Kd S51) : Kd S51 := Kd.iso (Kd.pair (Kd.int .i64) (Kd.slice 51 d)) (fun x : S51 => (x.f0, x.f1))
theorem Lr : Kd.tJ F51 := Kd.Pw _ (Kd.AO (Kd.yo _) (Kd.Lc 51 Kd.Ri))
theorem sub51 : Kd.Sub F51 [51] := Kd.Rj _ (Kd.Cr (Kd.sub_const _ (by decide)) (Kd.OG 51 (by decide) Kd.sub_id))
theorem sz51 : ∀ n, (Kd.upto F51 2 [51] n).sz = 2 := Kd.Rk (fun _ => rfl)
def k51 : Kd S51 := Kd.fix F51 2 [51] sz51 (Kd.Px sub51)
theorem k51_open {w : World} {x : S51} {cs : List Value} (h : k51.K w x cs) : ∃ A1 c1, cs = [.int .i64 x.f0, .slice A1 x.f1.length c1] ∧ x.f1.length ≤ c1 ∧ k51.C w A1 x.f1.length x.f1 := by
  obtain ⟨n, h⟩ := h
  cases n with
  | zero => exact h.elim
  | succ n =>
    obtain ⟨_, _, rfl, rfl, ⟨A1, c1, rfl, l1, g1⟩⟩ := h
    exact ⟨A1, c1, rfl, l1, Kd.fix_C g1⟩
theorem k51_mk (w : World) (x : S51) {A1 : Option Addr} {c1 : Nat} (l1 : x.f1.length ≤ c1) (g1 : k51.C w A1 x.f1.length x.f1) : k51.K w x [.int .i64 x.f0, .slice A1 x.f1.length c1] := by
  obtain ⟨n1, q1⟩ := Kd.Le Lr g1
  have r1 := Kd.OL Lr sz51 (show n1 ≤ n1 by omega) q1
  exact ⟨n1 + 1, ⟨[.int .i64 x.f0], [.slice A1 x.f1.length c1], rfl, rfl, ⟨A1, c1, rfl, l1, r1⟩⟩⟩
theorem xL (w : World) (base : Nat) (ok : Nat → Prop) (x : S51) {v1 : Value} (g1 : k51.R 51 w base ok v1 x.f1) : k51.M w base ok x [.int .i64 x.f0, v1] := by
  obtain ⟨n1, q1⟩ := Kd.Ld Lr g1
  have r1 := Kd.OJ Lr sz51 (show n1 ≤ n1 by omega) q1
  exact ⟨n1 + 1, ⟨[.int .i64 x.f0], [v1], rfl, rfl, ⟨v1, rfl, r1⟩⟩⟩
def aX (xs : List S51) (i : Int) : S51 := xs.getD i.toNat z51
theorem nA {w : World} {A : Option Addr} {n : Nat} {xs : List S51} (h : Kd.C k51 w A n xs) (i : Int) (h0 : 0 ≤ i) (h1 : i < n) : ∃ ad A1 c1, A = some ad ∧ w.cell? (ad.add (i.toNat * 2)) = some (.int .i64 (aX xs i).f0) ∧ w.cell? ⟨(ad.add (i.toNat * 2)).block, (ad.add (i.toNat * 2)).off + 1, none⟩ = some (.slice A1 (aX xs i).f1.length c1) ∧ (aX xs i).f1.length ≤ c1 ∧ k51.C w A1 (aX xs i).f1.length (aX xs i).f1 := by
  obtain ⟨ad, c, e, _, hK, hc0⟩ := Kd.La h z51 i h0 h1
  have hc : ∀ j u, c[j]? = some u → w.cell? (ad.add (i.toNat * 2 + j)) = some u := hc0
  obtain ⟨A1, c1, rfl, l1, g1⟩ := k51_open hK
  exact ⟨ad, A1, c1, e, hc 0 _ rfl, by rw [← uS _ _ 1 (by omega)]; exact hc 1 _ rfl, l1, g1⟩

theorem Kd.Ls {α : Type} {d : Kd α} {e : Nat} {W : World} {base g : Nat} {ok : Nat → Prop} {v : Value} {xs : List α} (h : Kd.V d e W base ok v xs) (hok : ∀ k, ok k → k ≠ g) (hn : 0 < xs.length := by first | omega | (simp_all; omega)) (hs : 0 < d.sz := by decide) : some g ≠ v.ownBlock := by
  obtain ⟨A, c, rfl, _, hF⟩ := h
  rcases A with _ | ad
  · simp [Value.ownBlock]
  · intro he
    have h1 := Kd.F_in hF rfl hn hs
    simp only [Value.ownBlock, Option.some.injEq] at he
    exact hok _ h1 he.symm

theorem bl_ {p : Prop} (h : p := by repeat (first | (with_reducible first | exact HB.out | apply oI | apply jh | apply eP | refine pX ?_ (aa.out (by assumption)) | refine pX ?_ (IsS63.ge (aa.out (by assumption)))) | exact HB.out)) : p := h
theorem bk_ {p : Prop} (h : p := by (with_reducible repeat (first | refine AL ?_ _ | refine dn ?_ | refine jF ?_ _)); exact (aa.out (by assumption))) : p := h
theorem pR_ {p q : Prop} (h : p) (k : p → q := by intro h_; (with_reducible repeat (first | apply Kd.R_alloc | apply Kd.Nf | apply Kd.nV)); exact h_) : q := k h
theorem pV_ {p q : Prop} (h : p) (k : p → q := by intro h_; (with_reducible repeat (first | apply Kd.V_alloc | apply Kd.V_drewN | apply Kd.Ef)); exact h_) : q := k h
theorem re_ {p : Prop} (h : p := by first | rfl | (simp [AQ, AR] <;> rfl) | (simp [*, AQ, AR] <;> rfl)) : p := h
theorem rs_ {p : Prop} (h : p := by first | rfl | (simp; done) | (simp [*]; done)) : p := h
theorem dt_ {p : Prop} [Decidable p] (h : decide p = true := by first | (with_reducible assumption) | assumption) : p := of_decide_eq_true h
theorem cZ {W : World} {g : Nat} {a_ b_ : Value} {t : TypeId} (h : W.heap[g]? = some (.cells #[a_, b_] t (0, 0))) : W.cell? ⟨g, 0, none⟩ = some a_ ∧ W.cell? ⟨g, 1, none⟩ = some b_ ∧ W.frozen? ⟨g, 0, none⟩ = false ∧ W.frozen? ⟨g, 1, none⟩ = false :=
  ⟨(ai h 0).trans rfl, (ai h 1).trans rfl, ja h 0, ja h 1⟩
theorem rq {W : World} {g : Nat} {a_ b_ c_ : Value} {t : TypeId} (h : W.heap[g]? = some (.cells #[a_, b_, c_] t (0, 0))) : W.cell? ⟨g, 0, none⟩ = some a_ ∧ W.cell? ⟨g, 1, none⟩ = some b_ ∧ W.cell? ⟨g, 2, none⟩ = some c_ ∧ W.frozen? ⟨g, 0, none⟩ = false ∧ W.frozen? ⟨g, 1, none⟩ = false ∧ W.frozen? ⟨g, 2, none⟩ = false :=
  ⟨(ai h 0).trans rfl, (ai h 1).trans rfl, (ai h 2).trans rfl, ja h 0, ja h 1, ja h 2⟩
theorem bf {W : World} {g : Nat} {a_ b_ c_ d_ e_ : Value} {t : TypeId} (h : W.heap[g]? = some (.cells #[a_, b_, c_, d_, e_] t (0, 0))) : W.cell? ⟨g, 0, none⟩ = some a_ ∧ W.cell? ⟨g, 1, none⟩ = some b_ ∧ W.cell? ⟨g, 2, none⟩ = some c_ ∧ W.cell? ⟨g, 3, none⟩ = some d_ ∧ W.cell? ⟨g, 4, none⟩ = some e_ ∧ W.frozen? ⟨g, 0, none⟩ = false ∧ W.frozen? ⟨g, 1, none⟩ = false ∧ W.frozen? ⟨g, 2, none⟩ = false ∧ W.frozen? ⟨g, 3, none⟩ = false ∧ W.frozen? ⟨g, 4, none⟩ = false :=
  ⟨(ai h 0).trans rfl, (ai h 1).trans rfl, (ai h 2).trans rfl, (ai h 3).trans rfl, (ai h 4).trans rfl, ja h 0, ja h 1, ja h 2, ja h 3, ja h 4⟩
def bm (n b : Nat) : Array Bool := ((List.range n).map fun i => b.testBit i).toArray
theorem pu_ {P : Program} {ops : Array Oper} {Q : Exit → Act → World → Prop} {md : Region.Mode} {S : World → Prop} {ds : List Nat} {T : Bool × List (List Nat × List Nat)} {oi : Oper} {v : Value} {fuel : Nat} {l : Array Bool} {a a' : Act} {w : World} (hT : aa (kK md ops = T)) (i n : Nat) (l' : Array Bool) (h : fM P md ops Q S ds fuel l' a' w)
    (hi : ops[i]? = some oi := by exact rfl) (hN : oi.dst = some n := by exact rfl) (hc : anyT T l.toList l'.toList i = true := by kernel_rfl) (hQ : ∀ c a w, Q (.panic c) (a.put oi.dst v) w → Q (.panic c) a w := by exact fun _ _ _ h => h) (hw : Region.wanted oi (yielded ops a.tmps) = true := by exact rfl)
    (hy : ∀ w, (execOp a.eval oi).run P w = .ok (.value v) w := by intro w'; go_simp; with_reducible rfl) (ha : a.put (some n) v = a' := by simp only [Act.put, List.setIfInBounds_toArray, List.set_cons_zero, List.set_cons_succ, iQ, jJ]; rfl) : fM P md ops Q S ds (fuel + 1) l a w := pure_ l' hi hN (any_of hT.out hc) hQ (Or.inl ⟨hw, hy⟩) ha h
theorem pf_ {P : Program} {ops : Array Oper} {Q : Exit → Act → World → Prop} {md : Region.Mode} {S : World → Prop} {ds : List Nat} {T : Bool × List (List Nat × List Nat)} {oi : Oper} {fuel : Nat} {l : Array Bool} {a a' : Act} {w : World} (hT : aa (kK md ops = T)) (i n : Nat) (l' : Array Bool) (h : fM P md ops Q S ds fuel l' a' w)
    (hi : ops[i]? = some oi := by exact rfl) (hN : oi.dst = some n := by exact rfl) (hc : anyT T l.toList l'.toList i = true := by kernel_rfl) (hQ : ∀ c a w, Q (.panic c) (a.put oi.dst undef) w → Q (.panic c) a w := by exact fun _ _ _ h => h) (hw : Region.wanted oi (yielded ops a.tmps) = false := by exact rfl)
    (ha : a.put (some n) undef = a' := by simp only [Act.put, List.setIfInBounds_toArray, List.set_cons_zero, List.set_cons_succ, iQ, jJ]; rfl) : fM P md ops Q S ds (fuel + 1) l a w := pure_ l' hi hN (any_of hT.out hc) hQ (Or.inr ⟨hw, rfl⟩) ha h
theorem ta_ {P : Program} {ops : Array Oper} {Q : Exit → Act → World → Prop} {md : Region.Mode} {S : World → Prop} {ds B : List Nat} {T : Bool × List (List Nat × List Nat)} {oi : Oper} {v : Value} {fuel : Nat} {l : Array Bool} {a a' : Act} {w : World} (hT : aa (kK md ops = T)) (hB : aa (kQ T.2 B = true)) (i n : Nat) (l' : Array Bool) (hS : S w)
    (h : fM P md ops Q S ds fuel l' a' w)
    (hi : ops[i]? = some oi := by exact rfl) (hN : oi.dst = some n := by exact rfl) (hc : takeW T B ds l.toList l'.toList i = true := by kernel_rfl) (hQ : ∀ c a w, Q (.panic c) (a.put oi.dst v) w → Q (.panic c) a w := by exact fun _ _ _ h => h) (hw : Region.wanted oi (yielded ops a.tmps) = true := by exact rfl)
    (hy : ∀ w, S w → (execOp a.eval oi).run P w = .ok (.value v) w := by intro w' hs_; (repeat (obtain ⟨_, hs_⟩ := hs_)); go_simp; with_reducible rfl)
    (ha : a.put (some n) v = a' := by simp only [Act.put, List.setIfInBounds_toArray, List.set_cons_zero, List.set_cons_succ, iQ, jJ]; rfl) : fM P md ops Q S ds (fuel + 1) l a w := IV l' hi hN (Kt hT.out hB.out hc) hQ (Or.inl ⟨hw, hy⟩) hS ha h
theorem kb_ {w W w1 : World} {g : Nat} {o : Obj} (h : aa (w.heap[g]? = some o)) (hb : Below W.heap.size W w1) (k : w.heap[g]? = some o → W.heap[g]? = some o := by intro h_; (with_reducible repeat (first | refine AL ?_ _ | refine dn ?_ | refine jF ?_ _)); exact h_) : aa (w1.heap[g]? = some o) := ⟨eX (k h.out) hb⟩
theorem nl_ {w W : World} {g g2 : Nat} {o : Obj} (h : aa (w.heap[g]? = some o)) (hg : g2 = W.heap.size) (k : w.heap[g]? = some o → W.heap[g]? = some o := by intro h_; (with_reducible repeat (first | refine AL ?_ _ | refine dn ?_ | refine jF ?_ _)); exact h_) : aa (g ≠ g2) := ⟨by rw [hg]; exact Nat.ne_of_lt (mO (k h.out))⟩
theorem ng_ {w W : World} {g g2 : Nat} {o : Obj} (h : aa (w.heap[g]? = some o)) (hg : g2 = W.heap.size) (k : w.heap[g]? = some o → W.heap[g]? = some o := by intro h_; (with_reducible repeat (first | refine AL ?_ _ | refine dn ?_ | refine jF ?_ _)); exact h_) : aa (g2 ≠ g) := ⟨by rw [hg]; exact Nat.ne_of_gt (mO (k h.out))⟩
theorem hc_ {w W : World} {a : Addr} {v : Value} (hb : aa (Below w.heap.size w W)) (h : w.cell? a = some v) : W.cell? a = some v := (hb.out.cell (World.block_lt_of_cell? w _ h)).trans h
theorem cb_ {p q : Prop} (h : p) (k : p → q := by intro h_; repeat (first | exact h_ | (with_reducible refine Kd.C_alloc ?_ _) | (with_reducible refine Kd.C_drewN ?_ _) | (with_reducible refine Kd.C_drew ?_))) : q := k h
theorem mp_ {p : Prop} (h : p := by (try simp only [List.map_toArray, List.map_cons, List.map_nil]); first | done | rfl | (simp only [List.length_drop, List.length_take]; rfl)) : p := h
theorem z0_ : ((0 : Int)).toNat = 0 := rfl
theorem p5_ {w : World} {g : Nat} {t : TypeId} {a b c d e v0 v1 v2 v3 v4 : Value} (h : w.heap[g]? = some (.cells #[a, b, c, d, e] t (0, 0))) : (((((w.setCell ⟨g, 0, none⟩ v0).setCell ⟨g, 1, none⟩ v1).setCell ⟨g, 2, none⟩ v2).setCell ⟨g, 3, none⟩ v3).setCell ⟨g, 4, none⟩ v4).heap[g]? = some (.cells #[v0, v1, v2, v3, v4] t (0, 0)) :=
  dR (dR (dR (dR (dR h 0 v0 rfl) 1 v1 rfl) 2 v2 rfl) 3 v3 rfl) 4 v4 rfl
theorem p3_ {w : World} {g : Nat} {t : TypeId} {a b c v0 v1 v2 : Value} (h : w.heap[g]? = some (.cells #[a, b, c] t (0, 0))) : (((w.setCell ⟨g, 0, none⟩ v0).setCell ⟨g, 1, none⟩ v1).setCell ⟨g, 2, none⟩ v2).heap[g]? = some (.cells #[v0, v1, v2] t (0, 0)) :=
  dR (dR (dR h 0 v0 rfl) 1 v1 rfl) 2 v2 rfl
theorem p2_ {w : World} {g : Nat} {t : TypeId} {a b v0 v1 : Value} (h : w.heap[g]? = some (.cells #[a, b] t (0, 0))) : ((w.setCell ⟨g, 0, none⟩ v0).setCell ⟨g, 1, none⟩ v1).heap[g]? = some (.cells #[v0, v1] t (0, 0)) :=
  dR (dR h 0 v0 rfl) 1 v1 rfl
theorem b5_ {p : Prop} (h : p := by (with_reducible repeat (first | refine AL ?_ _ | refine dn ?_ | refine jF ?_ _ | apply p5_ | apply p3_ | apply p2_ | refine bG ?_ (aa.out (by assumption)) _)); exact (aa.out (by assumption))) : p := h
theorem bq_ {α : Type} [BEq α] [LawfulBEq α] {a b : α} (h : a = b) : (a == b) = true ∧ (a != b) = false := ⟨beq_iff_eq.mpr h, bne_eq_false_iff_eq.mpr h⟩
theorem bn_ {α : Type} [BEq α] [LawfulBEq α] {a b : α} (h : ¬ a = b) : (a == b) = false ∧ (a != b) = true := ⟨beq_eq_false_iff_ne.mpr h, bne_iff_ne.mpr h⟩
theorem mo_ {p : Prop} (h : p := by repeat' first | (with_reducible exact LeO.refl _) | (with_reducible exact LeO.none _) | (with_reducible apply m0) | (with_reducible apply m1) | (with_reducible apply m2) | (with_reducible apply m3) | (with_reducible apply m4) | (with_reducible apply m5) | (with_reducible apply m6) | (with_reducible apply m7) | (with_reducible apply m8) | (with_reducible apply m9) | (with_reducible apply ih0) | (with_reducible apply ih1) | (with_reducible apply ih2) | (with_reducible apply ih3) | (with_reducible apply ih4) | (with_reducible apply ih5) | (with_reducible apply ih6) | (with_reducible refine LeO.ite ?_ ?_) | (with_reducible refine LeO.bind ?_ (fun _ => ?_)) | exact LeO.none _ | apply m0 | apply ih0 | apply ih1 | apply ih2 | apply ih3 | apply ih4 | refine LeO.ite ?_ ?_ | refine LeO.bind ?_ (fun _ => ?_)) : p := h
theorem ys_ {α β : Type} {e : α} {f : α → Option β} {r : β} (h : (some e).bind f = some r) : ∃ y, y = e ∧ f y = some r := ⟨e, rfl, h⟩
theorem bx_ {P : Program} {ops : Array Oper} {o : Oper} {rest : List Oper} {a : Act} {Q : Exit → Act → World → Prop} {W w : World} {N : Tmp} (cs : Array Value) (t : TypeId)
    (h : ∀ g, g = W.heap.size → ∀ w1, aa (w1.heap[g]? = some (.cells cs t (0, 0))) → aa (w.heap.size ≤ g) → aa (Below w.heap.size w w1) → Below W.heap.size W w1 → wpList P ops Q rest (a.put o.dst (.pointer (some ⟨g, 0, none⟩))) w1)
    (hB : Below w.heap.size w W := by repeat (first | (with_reducible first | exact HB.out | apply oI | apply jh | apply eP | refine pX ?_ (aa.out (by assumption)) | refine pX ?_ (IsS63.ge (aa.out (by assumption)))) | exact HB.out))
    (hgd : o.guard = none := by rfl) (hd : o.dst = some N := by rfl)
    (hrun : (execOp a.eval o).run P W = .ok (.value (.pointer (some ⟨W.heap.size, 0, none⟩))) (W.alloc (.cells cs t (0, 0))) := by first | (go_simp; done) | (go_simp; rfl)) : wpList P ops Q (o :: rest) a W :=
  Ve hgd hd hrun fun g hg w1 hb hw => h g hg w1 ⟨hb⟩ ⟨by rw [hg]; exact aH hB⟩ ⟨av hB hw⟩ hw

/-! ### dX: function 38 -/
mutual
def dX.l0 : Nat → Int → List (S24) → Int → Int → Option (Int)
 | 0, _, _, _, _ => none
 | k + 1, x3, x7, x8, x9 => if x9 < x8 then (if 0 ≤ x9 then (if x9 < (x7.length : Int) then ((dX.f k ((ag x7 x9).f0) ((ag x7 x9).f1) ((ag x7 x9).f2) ((ag x7 x9).f3) ((ag x7 x9).f4)).bind fun t104 => (dX.l0 k (mx x3 t104) x7 x8 (wrap64 (x9 + 1)))) else (none)) else (none)) else (some (wrap64 (x3 + 1)))
def dX.f : Nat → Int → Int → Int → Int → List (S24) → Option (Int)
 | 0, _, _, _, _, _ => none
 | k + 1, ah, au, ak, aj, af => dX.l0 k 0 af (af.length : Int) 0
end
theorem dX.gY : ∀ k, (∀ y0 y1 y2 y3 y4, LeO (dX.f k y0 y1 y2 y3 y4) (dX.f (k + 1) y0 y1 y2 y3 y4)) ∧ (∀ y0 y1 y2 y3, LeO (dX.l0 k y0 y1 y2 y3) (dX.l0 (k + 1) y0 y1 y2 y3))
 | 0 => ⟨fun _ _ _ _ _ r h => by simp [dX.f] at h, fun _ _ _ _ r h => by simp [dX.l0] at h⟩
 | k + 1 => by
  obtain ⟨ih0, ih1⟩ := dX.gY k; refine ⟨?_, ?_⟩
  ·intro y0 y1 y2 y3 y4; unfold dX.f; repeat' (with_reducible exact ih1 _ _ _ _)
  ·intro y0 y1 y2 y3; unfold dX.l0; exact mo_
theorem dX.mono : ∀ a0 a1 a2 a3 a4 k, LeO (dX.f k a0 a1 a2 a3 a4) (dX.f (k + 1) a0 a1 a2 a3 a4) := by
 intro a0 a1 a2 a3 a4 k; obtain ⟨ih0, ih1⟩ := dX.gY k; exact ih0 a0 a1 a2 a3 a4
set_option maxHeartbeats 8000000 in
set_option maxRecDepth 100000 in
theorem dX.calls (k : Nat) : ∀ (ah : Int) (au : Int) (ak : Int) (aj : Int) (aJ : Option Addr) (aI : Nat) (af : List (S24)) (r : Int) (w : World) (dz : Kd.C k24 w aJ af.length af) (dL : af.length ≤ aI) (h : dX.f k ah au ak aj af = some r),
  Calls Tryd.prog 38 #[.agg #[.int .i64 ah, .int .i64 au, .int .i64 ak, .int .i64 aj, .slice aJ af.length aI]] w fun e w' => e = .returned (.int .i64 r) ∧ Below w.heap.size w w' := by
 induction k using Nat.strongRecOn with
 | _ k ih =>
 intro ah au ak aj aJ aI af r w dz dL h; cases k with
 | zero => exact absurd h (by simp [dX.f])
 | succ k =>
 simp only [dX.f] at h; have bu := aa.mk dz; clear dz dL; have HB := aa.mk (Below.refl w.heap.size w); have H := h; unfold dX.f at H; clear h; have H' := aa.mk H; clear H; go_enter Tryd.func38, Tryd.ntmps38; go_wp2_with (((with_reducible refine aD (N := 1) rfl ?_); refine bx_ (#[.int .i64 ah, .int .i64 au, .int .i64 ak, .int .i64 aj, .slice aJ af.length aI]) 24 ?_; intro gb101 hg w2 IZ _ HB hb; clear hb hg; obtain ⟨_, _, _, _, hcz3_4, _, _, _, _, _⟩ := bf IZ.out))
 go_loopg [3, 9] k (fun kq v3 v9 w' => ∃ (iK : Int) (gX : Int), v3 = .int .i64 iK ∧ v9 = .int .i64 gX ∧ aa (dX.l0 kq iK af (af.length : Int) gX = some r) ∧ aa (kq ≤ k) ∧ aa (w'.heap[gb101]? = some (.cells #[.int .i64 ah, .int .i64 au, .int .i64 ak, .int .i64 aj, (.slice aJ af.length aI)] 24 (0, 0))) ∧ aa (Below w.heap.size w w'))
 case atStart => exact ⟨(0), (0), rs_, rs_, H', ⟨Nat.le_refl _⟩, ⟨bk_⟩, ⟨bl_⟩⟩
 case round =>
  clear H'; obtain ⟨iK, gX, rfl, rfl, HA, HK1, IZ, HB⟩ := hrel; cases gk with
  | zero => exact absurd HA.out (by simp [dX.l0])
  | succ k1 =>
   have H := HA.out; clear HA; simp only [dX.l0] at H; by_cases c4 : gX < (af.length : Int)
   ·rw [if_pos c4] at H; clear c4; by_cases c5 : 0 ≤ gX
    ·rw [if_pos c5] at H; have oV := decide_eq_true c5; clear c5; by_cases c6 : gX < (af.length : Int)
     ·rw [if_pos c6] at H; have wI := decide_eq_true c6; clear c6; replace H := Option.bind_eq_some_iff.mp H; obtain ⟨t104, A70, H⟩ := H; have A7 := aa.mk A70; clear A70; obtain ⟨ji8, hji8⟩ : ∃ j_ : Int, (mx iK t104) = j_ := ⟨_, rfl⟩; replace H : (dX.l0 k1 ji8 af (af.length : Int) (wrap64 (gX + 1))) = some r := by (rw [hji8] at H; exact H)
      have hji8_ : (if iK < t104 then t104 else iK) = ji8 := hji8; have H' := aa.mk H; clear H; have p102 : 0 ≤ (gX : Int) := dt_; have q102 : gX < (af.length : Int) := dt_; obtain ⟨ad102, A102_4, c102_4, e102, Rv, Rw, Rx, Ry, Rz, RA, RB⟩ := fC bu.out gX p102 q102; cases e102; replace Rv := hc_ HB Rv; replace Rw := hc_ HB Rw; replace Rx := hc_ HB Rx; replace Ry := hc_ HB Ry; replace Rz := hc_ HB Rz; have HR102_4 := aa.mk RB; have HC102_4 := aa.mk RA; clear RB RA; replace p102 := eq_true p102; replace q102 := eq_true q102; go_wp2_with (first | ((with_reducible refine aD (N := 5) rfl ?_); refine bx_ (#[.int .i64 0, .int .i64 0, .int .i64 0, .int .i64 0, .slice none 0 0]) 24 ?_; intro gb103 hg w9 BK103 GW103 HB hb; have GE103 := GW103; have NB101_103 := nl_ IZ hg; replace IZ := kb_ IZ hb; clear hb hg; obtain ⟨BO, Eg, Eh, Nl, I1, RD, RF, RG, hfz11_3, hfz11_4⟩ := bf BK103.out) | ((with_reducible refine az (f := 38) rfl ?_); refine aT (some 15) rfl rfl Tryd.func38 (by kernel_rfl) rfl #[.agg #[.int .i64 ((ag af gX).f0), .int .i64 ((ag af gX).f1), .int .i64 ((ag af gX).f2), .int .i64 ((ag af gX).f3), .slice A102_4 ((ag af gX).f4).length c102_4]] rfl mp_ ?_; (with_reducible refine (ih k1 (by have := HK1.out; omega) ((ag af gX).f0) ((ag af gX).f1) ((ag af gX).f2) ((ag af gX).f3) _ _ ((ag af gX).f4) t104 _ ?ax ?ay A7.out).mono ?_); (case ax => exact Kd.aC HR102_4.out bl_); (case ay => exact HC102_4.out); rintro e w12 ⟨rfl, hb⟩; refine ⟨_, rfl, ?_⟩; replace IZ := aa.mk (eX (g := gb101) (o := .cells #[.int .i64 ah, .int .i64 au, .int .i64 ak, .int .i64 aj, .slice (some ad102) af.length aI] 24 (0, 0)) b5_ hb); replace HB := aa.mk (av bl_ hb)))
      go_roundg k1
      case measure => have := HK1.out; omega
      case rel => exact ⟨(ji8), (wrap64 (gX + 1)), (by rfl), rs_, H', ⟨by have := HK1.out; omega⟩, ⟨bk_⟩, ⟨bl_⟩⟩
     ·rw [if_neg c6] at H; exact absurd H (by simp)
    ·rw [if_neg c5] at H; exact absurd H (by simp)
   ·rw [if_neg c4] at H; have lu := decide_eq_false c4; clear c4; obtain rfl := Option.some.inj H; go_wp2; go_ret; exact ⟨re_, bl_⟩


/-! ### jO: function 69 -/
def jO.f (ah : Int) (au : Int) (ak : Int) (aj : Int) (af : List (S24)) : Option (Bool) := if ah = 2 then (if aj = 0 then (some ((af.length : Int) != 0)) else (some true)) else (if ah = 6 then (if au = 0 then (some (ak != 0)) else (some true)) else (if ah = 5 then (if au = 0 then (if ak = 0 then (some (aj != 0)) else (some true)) else (some true)) else (if au = 0 then (if ak = 0 then (if aj = 0 then (some ((af.length : Int) != 0)) else (some true)) else (some true)) else (some true))))
set_option maxHeartbeats 8000000 in
set_option maxRecDepth 100000 in
theorem jO.calls (ah : Int) (au : Int) (ak : Int) (aj : Int) (aJ : Option Addr) (aI : Nat) (af : List (S24)) (r : Bool) (w : World) (dz : Kd.C k24 w aJ af.length af) (dL : af.length ≤ aI) (h : jO.f ah au ak aj af = some r) :
  Calls Tryd.prog 69 #[.agg #[.int .i64 ah, .int .i64 au, .int .i64 ak, .int .i64 aj, .slice aJ af.length aI]] w fun e w' => e = .returned (.bool r) ∧ Below w.heap.size w w' := by
 clear dz dL; have HB := aa.mk (Below.refl w.heap.size w); have H := h; unfold jO.f at H; clear h; by_cases c2 : ah = 2
 ·rw [if_pos c2] at H; obtain ⟨zb, c2b1⟩ := bq_ c2; clear c2; by_cases c3 : aj = 0
  ·rw [if_pos c3] at H; obtain ⟨kS, mh⟩ := bq_ c3; clear c3; obtain rfl := Option.some.inj H; go_enter Tryd.func69, Tryd.ntmps69; go_wp2_with (((with_reducible refine aD (N := 1) rfl ?_); (try (refine dh (by rfl) ?_; dsimp only)); refine bx_ (#[.int .i64 ah, .int .i64 au, .int .i64 ak, .int .i64 aj, .slice aJ af.length aI]) 24 ?_; intro Aj hg w4 oJ _ HB hb; clear hb hg; obtain ⟨PL, _, _, hcz5_3, hcz5_4, _, _, _, _, _⟩ := bf oJ.out))
   go_ret; exact ⟨re_, bl_⟩
  ·rw [if_neg c3] at H; obtain ⟨kS, mh⟩ := bn_ c3; obtain rfl := Option.some.inj H; go_enter Tryd.func69, Tryd.ntmps69; go_wp2_with (((with_reducible refine aD (N := 1) rfl ?_); (try (refine dh (by rfl) ?_; dsimp only)); refine bx_ (#[.int .i64 ah, .int .i64 au, .int .i64 ak, .int .i64 aj, .slice aJ af.length aI]) 24 ?_; intro Aj hg w6 oJ _ HB hb; clear hb hg; obtain ⟨PM, _, _, hcz7_3, _, _, _, _, _, _⟩ := bf oJ.out))
   go_ret; exact ⟨re_, bl_⟩
 ·rw [if_neg c2] at H; obtain ⟨zb, c2b1⟩ := bn_ c2; by_cases c8 : ah = 6
  ·rw [if_pos c8] at H; obtain ⟨rJ, Bi⟩ := bq_ c8; clear c8; by_cases c9 : au = 0
   ·rw [if_pos c9] at H; obtain ⟨pF, Cs⟩ := bq_ c9; clear c9; obtain rfl := Option.some.inj H; go_enter Tryd.func69, Tryd.ntmps69; go_wp2_with (((with_reducible refine aD (N := 1) rfl ?_); (try (refine dh (by rfl) ?_; dsimp only)); refine bx_ (#[.int .i64 ah, .int .i64 au, .int .i64 ak, .int .i64 aj, .slice aJ af.length aI]) 24 ?_; intro Aj hg w10 oJ _ HB hb; clear hb hg; obtain ⟨BO, Eg, Eh, _, _, _, _, _, _, _⟩ := bf oJ.out))
    go_ret; exact ⟨re_, bl_⟩
   ·rw [if_neg c9] at H; obtain ⟨pF, Cs⟩ := bn_ c9; obtain rfl := Option.some.inj H; go_enter Tryd.func69, Tryd.ntmps69; go_wp2_with (((with_reducible refine aD (N := 1) rfl ?_); (try (refine dh (by rfl) ?_; dsimp only)); refine bx_ (#[.int .i64 ah, .int .i64 au, .int .i64 ak, .int .i64 aj, .slice aJ af.length aI]) 24 ?_; intro Aj hg w12 oJ _ HB hb; clear hb hg; obtain ⟨xM, ze, _, _, _, _, _, _, _, _⟩ := bf oJ.out))
    go_ret; exact ⟨re_, bl_⟩
  ·rw [if_neg c8] at H; obtain ⟨rJ, Bi⟩ := bn_ c8; by_cases c14 : ah = 5
   ·rw [if_pos c14] at H; obtain ⟨DI, c14b1⟩ := bq_ c14; clear c14; by_cases c15 : au = 0
    ·rw [if_pos c15] at H; obtain ⟨Ak, Lt⟩ := bq_ c15; clear c15; by_cases c16 : ak = 0
     ·rw [if_pos c16] at H; obtain ⟨DJ, Lu⟩ := bq_ c16; clear c16; obtain rfl := Option.some.inj H; go_enter Tryd.func69, Tryd.ntmps69; go_wp2_with (((with_reducible refine aD (N := 1) rfl ?_); (try (refine dh (by rfl) ?_; dsimp only)); refine bx_ (#[.int .i64 ah, .int .i64 au, .int .i64 ak, .int .i64 aj, .slice aJ af.length aI]) 24 ?_; intro Aj hg w17 oJ _ HB hb; clear hb hg; obtain ⟨uB, rM, vF, xN, _, _, _, _, _, _⟩ := bf oJ.out))
      go_ret; exact ⟨re_, bl_⟩
     ·rw [if_neg c16] at H; obtain ⟨DJ, Lu⟩ := bn_ c16; obtain rfl := Option.some.inj H; go_enter Tryd.func69, Tryd.ntmps69; go_wp2_with (((with_reducible refine aD (N := 1) rfl ?_); (try (refine dh (by rfl) ?_; dsimp only)); refine bx_ (#[.int .i64 ah, .int .i64 au, .int .i64 ak, .int .i64 aj, .slice aJ af.length aI]) 24 ?_; intro Aj hg w19 oJ _ HB hb; clear hb hg; obtain ⟨xO, xP, I4, _, _, _, _, _, _, _⟩ := bf oJ.out))
      go_ret; exact ⟨re_, bl_⟩
    ·rw [if_neg c15] at H; obtain ⟨Ak, Lt⟩ := bn_ c15; obtain rfl := Option.some.inj H; go_enter Tryd.func69, Tryd.ntmps69; go_wp2_with (((with_reducible refine aD (N := 1) rfl ?_); (try (refine dh (by rfl) ?_; dsimp only)); refine bx_ (#[.int .i64 ah, .int .i64 au, .int .i64 ak, .int .i64 aj, .slice aJ af.length aI]) 24 ?_; intro Aj hg w21 oJ _ HB hb; clear hb hg; obtain ⟨BP, zf, _, _, _, _, _, _, _, _⟩ := bf oJ.out))
     go_ret; exact ⟨re_, bl_⟩
   ·rw [if_neg c14] at H; obtain ⟨DI, c14b1⟩ := bn_ c14; by_cases c23 : au = 0
    ·rw [if_pos c23] at H; obtain ⟨Lv, c23b1⟩ := bq_ c23; clear c23; by_cases c24 : ak = 0
     ·rw [if_pos c24] at H; obtain ⟨Al, Lx⟩ := bq_ c24; clear c24; by_cases c25 : aj = 0
      ·rw [if_pos c25] at H; obtain ⟨LA, c25b1⟩ := bq_ c25; clear c25; obtain rfl := Option.some.inj H; go_enter Tryd.func69, Tryd.ntmps69; go_wp2_with (((with_reducible refine aD (N := 1) rfl ?_); (try (refine dh (by rfl) ?_; dsimp only)); refine bx_ (#[.int .i64 ah, .int .i64 au, .int .i64 ak, .int .i64 aj, .slice aJ af.length aI]) 24 ?_; intro Aj hg w26 oJ _ HB hb; clear hb hg; obtain ⟨hcz27_0, RH, RI, hcz27_3, hcz27_4, _, _, _, _, _⟩ := bf oJ.out))
       go_ret; exact ⟨re_, bl_⟩
      ·rw [if_neg c25] at H; obtain ⟨LA, c25b1⟩ := bn_ c25; obtain rfl := Option.some.inj H; go_enter Tryd.func69, Tryd.ntmps69; go_wp2_with (((with_reducible refine aD (N := 1) rfl ?_); (try (refine dh (by rfl) ?_; dsimp only)); refine bx_ (#[.int .i64 ah, .int .i64 au, .int .i64 ak, .int .i64 aj, .slice aJ af.length aI]) 24 ?_; intro Aj hg w28 oJ _ HB hb; clear hb hg; obtain ⟨Ei, zg, hcz29_2, hcz29_3, _, _, _, _, _, _⟩ := bf oJ.out))
       go_ret; exact ⟨re_, bl_⟩
     ·rw [if_neg c24] at H; obtain ⟨Al, Lx⟩ := bn_ c24; obtain rfl := Option.some.inj H; go_enter Tryd.func69, Tryd.ntmps69; go_wp2_with (((with_reducible refine aD (N := 1) rfl ?_); (try (refine dh (by rfl) ?_; dsimp only)); refine bx_ (#[.int .i64 ah, .int .i64 au, .int .i64 ak, .int .i64 aj, .slice aJ af.length aI]) 24 ?_; intro Aj hg w30 oJ _ HB hb; clear hb hg; obtain ⟨I5, I6, hcz31_2, _, _, _, _, _, _, _⟩ := bf oJ.out))
      go_ret; exact ⟨re_, bl_⟩
    ·rw [if_neg c23] at H; obtain ⟨Lv, c23b1⟩ := bn_ c23; obtain rfl := Option.some.inj H; go_enter Tryd.func69, Tryd.ntmps69; go_wp2_with (((with_reducible refine aD (N := 1) rfl ?_); (try (refine dh (by rfl) ?_; dsimp only)); refine bx_ (#[.int .i64 ah, .int .i64 au, .int .i64 ak, .int .i64 aj, .slice aJ af.length aI]) 24 ?_; intro Aj hg w32 oJ _ HB hb; clear hb hg; obtain ⟨I7, Ej, _, _, _, _, _, _, _, _⟩ := bf oJ.out))
     go_ret; exact ⟨re_, bl_⟩


/-! ### bC: function 39 -/
mutual
def bC.j0 : Nat → Bool → Int → Int → Int → Int → List (S24) → Option (Int)
 | 0, _, _, _, _, _, _ => none
 | k + 1, x15, uC, vG, vH, vI, lC => if x15 = true then (some 14) else ((jO.f uC vG vH vI lC).bind fun t107 => (if t107 = true then (some 2) else (if uC = 2 then (if vG < (-1000) then (some 1) else (if vG > vH then (some 1) else (if vH > 1000 then (some 1) else (some 0)))) else (if uC = 5 then (if (lC.length : Int) < 2 then (bC.j1 k true uC vG vH vI lC) else (bC.j1 k (decide ((lC.length : Int) > 4)) uC vG vH vI lC)) else (if uC = 6 then (if vI < 1 then (bC.j3 k true uC vG vH vI lC) else (bC.j3 k (decide (vI > 4)) uC vG vH vI lC)) else (some 0))))))
def bC.j1 : Nat → Bool → Int → Int → Int → Int → List (S24) → Option (Int)
 | 0, _, _, _, _, _, _ => none
 | k + 1, x48, uC, vG, vH, vI, lC => if x48 = true then (some 1) else (bC.l0 k lC (lC.length : Int) 0)
def bC.l0 : Nat → List (S24) → Int → Int → Option (Int)
 | 0, _, _, _ => none
 | k + 1, x50, x51, x52 => if x52 < x51 then (if 0 ≤ x52 then (if x52 < (x50.length : Int) then ((bC.f k ((ag x50 x52).f0) ((ag x50 x52).f1) ((ag x50 x52).f2) ((ag x50 x52).f3) ((ag x50 x52).f4)).bind fun t110 => (if t110 = 0 then (if ((ag x50 x52).f0) = 3 then (some 8) else (if ((ag x50 x52).f0) = 4 then (some 8) else (bC.l0 k x50 x51 (wrap64 (x52 + 1))))) else (some t110))) else (none)) else (none)) else (some 0)
def bC.j3 : Nat → Bool → Int → Int → Int → Int → List (S24) → Option (Int)
 | 0, _, _, _, _, _, _ => none
 | k + 1, x79, uC, vG, vH, vI, lC => if x79 = true then (some 1) else (if (lC.length : Int) = 1 then (if 0 < (lC.length : Int) then ((bC.f k ((ag lC 0).f0) ((ag lC 0).f1) ((ag lC 0).f2) ((ag lC 0).f3) ((ag lC 0).f4)).bind fun t112 => (if t112 = 0 then (if ((ag lC 0).f0) = 1 then (some 0) else (if ((ag lC 0).f0) = 2 then (some 0) else (some 8))) else (some t112))) else (none)) else (some 2))
def bC.f : Nat → Int → Int → Int → Int → List (S24) → Option (Int)
 | 0, _, _, _, _, _ => none
 | k + 1, ah, au, ak, aj, af => if ah < 1 then (bC.j0 k true ah au ak aj af) else (bC.j0 k (decide (ah > 6)) ah au ak aj af)
end
theorem bC.gY : ∀ k, (∀ y0 y1 y2 y3 y4, LeO (bC.f k y0 y1 y2 y3 y4) (bC.f (k + 1) y0 y1 y2 y3 y4)) ∧ (∀ y0 y1 y2 y3 y4 y5, LeO (bC.j0 k y0 y1 y2 y3 y4 y5) (bC.j0 (k + 1) y0 y1 y2 y3 y4 y5)) ∧ (∀ y0 y1 y2 y3 y4 y5, LeO (bC.j1 k y0 y1 y2 y3 y4 y5) (bC.j1 (k + 1) y0 y1 y2 y3 y4 y5)) ∧ (∀ y0 y1 y2, LeO (bC.l0 k y0 y1 y2) (bC.l0 (k + 1) y0 y1 y2)) ∧ (∀ y0 y1 y2 y3 y4 y5, LeO (bC.j3 k y0 y1 y2 y3 y4 y5) (bC.j3 (k + 1) y0 y1 y2 y3 y4 y5))
 | 0 => ⟨fun _ _ _ _ _ r h => by simp [bC.f] at h, fun _ _ _ _ _ _ r h => by simp [bC.j0] at h, fun _ _ _ _ _ _ r h => by simp [bC.j1] at h, fun _ _ _ r h => by simp [bC.l0] at h, fun _ _ _ _ _ _ r h => by simp [bC.j3] at h⟩
 | k + 1 => by
  obtain ⟨ih0, ih1, ih2, ih3, ih4⟩ := bC.gY k; refine ⟨?_, ?_, ?_, ?_, ?_⟩
  ·intro y0 y1 y2 y3 y4; unfold bC.f; exact mo_
  ·intro y0 y1 y2 y3 y4 y5; unfold bC.j0; exact mo_
  ·intro y0 y1 y2 y3 y4 y5; unfold bC.j1; exact mo_
  ·intro y0 y1 y2; unfold bC.l0; exact mo_
  ·intro y0 y1 y2 y3 y4 y5; unfold bC.j3; exact mo_
theorem bC.mono : ∀ a0 a1 a2 a3 a4 k, LeO (bC.f k a0 a1 a2 a3 a4) (bC.f (k + 1) a0 a1 a2 a3 a4) := by
 intro a0 a1 a2 a3 a4 k; obtain ⟨ih0, ih1, ih2, ih3, ih4⟩ := bC.gY k; exact ih0 a0 a1 a2 a3 a4
set_option maxHeartbeats 8000000 in
set_option maxRecDepth 100000 in
theorem bC.calls (k : Nat) : ∀ (ah : Int) (au : Int) (ak : Int) (aj : Int) (aJ : Option Addr) (aI : Nat) (af : List (S24)) (r : Int) (w : World) (dz : Kd.C k24 w aJ af.length af) (dL : af.length ≤ aI) (h : bC.f k ah au ak aj af = some r),
  Calls Tryd.prog 39 #[.agg #[.int .i64 ah, .int .i64 au, .int .i64 ak, .int .i64 aj, .slice aJ af.length aI]] w fun e w' => e = .returned (.int .i64 r) ∧ Below w.heap.size w w' := by
 induction k using Nat.strongRecOn with
 | _ k ih =>
 intro ah au ak aj aJ aI af r w dz dL h; cases k with
 | zero => exact absurd h (by simp [bC.f])
 | succ k =>
 simp only [bC.f] at h; have bu := aa.mk dz; have bT := aa.mk dL; clear dz dL; have HB := aa.mk (Below.refl w.heap.size w); have H := h; unfold bC.f at H; clear h; have HC2 := aa.mk H; clear H; go_enter Tryd.func39, Tryd.ntmps39; go_upto_region 1 with (((with_reducible refine aD (N := 1) rfl ?_); (try (refine dh (by rfl) ?_; dsimp only)); refine bx_ (#[.int .i64 ah, .int .i64 au, .int .i64 ak, .int .i64 aj, .slice aJ af.length aI]) 24 ?_; intro LB hg w3 gU _ HB hb; clear hb hg))
 go_cut [15] (fun v15 wc => ∃ (kq : Nat) (x15_1 : Bool), v15 = .bool x15_1 ∧ aa (bC.j0 kq x15_1 ah au ak aj af = some r) ∧ aa (kq ≤ k) ∧ aa (wc.heap[LB]? = some (.cells #[.int .i64 ah, .int .i64 au, .int .i64 ak, .int .i64 aj, (.slice aJ af.length aI)] 24 (0, 0))) ∧ aa (Below w.heap.size w wc))
 case first =>
  have H := HC2.out; clear HC2; by_cases c4 : ah < 1
  ·rw [if_pos c4] at H; have lu := decide_eq_true c4; clear c4; (skip); have H' := aa.mk H; clear H; obtain ⟨PL, _, _, _, _, _, _, _, _, _⟩ := bf gU.out; go_wp2; go_meet
   case rel => exact ⟨_, (true), rs_, H', ⟨by omega⟩, ⟨bk_⟩, ⟨bl_⟩⟩
  ·rw [if_neg c4] at H; have lu := decide_eq_false c4; clear c4; (skip); have H' := aa.mk H; clear H; obtain ⟨hcz6_0, _, _, _, _, _, _, _, _, _⟩ := bf gU.out; go_wp2; go_meet
   case rel => exact ⟨_, (decide (ah > 6)), rs_, H', ⟨by omega⟩, ⟨bk_⟩, ⟨bl_⟩⟩
 case rest =>
  clear HC2; obtain ⟨kq, x15_1, rfl, HA, HJ1, gU, HB⟩ := hcut; cases kq with
  | zero => exact absurd HA.out (by simp [bC.j0])
  | succ kj1 =>
   have H := HA.out; clear HA; simp only [bC.j0] at H; by_cases c7 : x15_1 = true
   ·subst c7; rw [if_pos rfl] at H; obtain rfl := Option.some.inj H; go_wp2; go_ret; exact ⟨re_, bl_⟩
   ·replace c7 := Bool.eq_false_iff.mpr c7; subst c7; rw [if_neg (show ¬ (false = true) by decide)] at H; replace H := Option.bind_eq_some_iff.mp H; obtain ⟨t107, A80, H⟩ := H; have A8 := aa.mk A80; clear A80; by_cases c9 : t107 = true
    ·subst c9; rw [if_pos rfl] at H; obtain rfl := Option.some.inj H; obtain ⟨qH, rO, zh, El, Em, _, _, _, _, _⟩ := bf gU.out; go_wp2_with (((with_reducible refine az (f := 69) rfl ?_); refine aT (some 17) rfl rfl Tryd.func69 (by kernel_rfl) rfl #[.agg #[.int .i64 ah, .int .i64 au, .int .i64 ak, .int .i64 aj, .slice aJ af.length aI]] rfl mp_ ?_; (with_reducible refine (jO.calls ah au ak aj _ _ af true _ ?ax ?ay A8.out).mono ?_); (case ax => exact cb_ (Kd.aC bu.out HB.out)); (case ay => exact bT.out); rintro e w11 ⟨rfl, hb⟩; refine ⟨_, rfl, ?_⟩; replace HB := aa.mk (av bl_ hb)))
     go_ret; exact ⟨re_, bl_⟩
    ·replace c9 := Bool.eq_false_iff.mpr c9; subst c9; rw [if_neg (show ¬ (false = true) by decide)] at H; by_cases c12 : ah = 2
     ·rw [if_pos c12] at H; obtain ⟨DK, Gf⟩ := bq_ c12; clear c12; by_cases c13 : au < (-1000)
      ·rw [if_pos c13] at H; have Gg := decide_eq_true c13; clear c13; obtain rfl := Option.some.inj H; obtain ⟨xQ, zi, En, zk, xR, _, _, _, _, _⟩ := bf gU.out; go_wp2_with (((with_reducible refine az (f := 69) rfl ?_); refine aT (some 17) rfl rfl Tryd.func69 (by kernel_rfl) rfl #[.agg #[.int .i64 ah, .int .i64 au, .int .i64 ak, .int .i64 aj, .slice aJ af.length aI]] rfl mp_ ?_; (with_reducible refine (jO.calls ah au ak aj _ _ af false _ ?ax ?ay A8.out).mono ?_); (case ax => exact cb_ (Kd.aC bu.out HB.out)); (case ay => exact bT.out); rintro e w15 ⟨rfl, hb⟩; refine ⟨_, rfl, ?_⟩; replace gU := kb_ gU hb; replace HB := aa.mk (av bl_ hb); obtain ⟨xS, xU, _, _, _, _, _, _, _, _⟩ := bf gU.out))
       go_ret; exact ⟨re_, bl_⟩
      ·rw [if_neg c13] at H; have Gg := decide_eq_false c13; clear c13; by_cases c17 : au > ak
       ·rw [if_pos c17] at H; have Gh : decide (ak < au) = true := decide_eq_true c17; clear c17; obtain rfl := Option.some.inj H; obtain ⟨uB, rM, vF, xN, xV, _, _, _, _, _⟩ := bf gU.out; go_wp2_with (((with_reducible refine az (f := 69) rfl ?_); refine aT (some 17) rfl rfl Tryd.func69 (by kernel_rfl) rfl #[.agg #[.int .i64 ah, .int .i64 au, .int .i64 ak, .int .i64 aj, .slice aJ af.length aI]] rfl mp_ ?_; (with_reducible refine (jO.calls ah au ak aj _ _ af false _ ?ax ?ay A8.out).mono ?_); (case ax => exact cb_ (Kd.aC bu.out HB.out)); (case ay => exact bT.out); rintro e w19 ⟨rfl, hb⟩; refine ⟨_, rfl, ?_⟩; replace gU := kb_ gU hb; replace HB := aa.mk (av bl_ hb); obtain ⟨xO, xP, I4, _, _, _, _, _, _, _⟩ := bf gU.out))
        go_ret; exact ⟨re_, bl_⟩
       ·rw [if_neg c17] at H; have Gh : decide (ak < au) = false := decide_eq_false c17; clear c17; by_cases c21 : ak > 1000
        ·rw [if_pos c21] at H; have yu : decide (1000 < ak) = true := decide_eq_true c21; clear c21; obtain rfl := Option.some.inj H; obtain ⟨BP, zf, Nn, hcz22_3, hcz22_4, _, _, _, _, _⟩ := bf gU.out; go_wp2_with (((with_reducible refine az (f := 69) rfl ?_); refine aT (some 17) rfl rfl Tryd.func69 (by kernel_rfl) rfl #[.agg #[.int .i64 ah, .int .i64 au, .int .i64 ak, .int .i64 aj, .slice aJ af.length aI]] rfl mp_ ?_; (with_reducible refine (jO.calls ah au ak aj _ _ af false _ ?ax ?ay A8.out).mono ?_); (case ax => exact cb_ (Kd.aC bu.out HB.out)); (case ay => exact bT.out); rintro e w23 ⟨rfl, hb⟩; refine ⟨_, rfl, ?_⟩; replace gU := kb_ gU hb; replace HB := aa.mk (av bl_ hb); obtain ⟨I8, Eo, RJ, _, _, _, _, _, _, _⟩ := bf gU.out))
         go_ret; exact ⟨re_, bl_⟩
        ·rw [if_neg c21] at H; have yu : decide (1000 < ak) = false := decide_eq_false c21; clear c21; obtain rfl := Option.some.inj H; obtain ⟨hcz25_0, hcz25_1, hcz25_2, hcz25_3, hcz25_4, _, _, _, _, _⟩ := bf gU.out; go_wp2_with (((with_reducible refine az (f := 69) rfl ?_); refine aT (some 17) rfl rfl Tryd.func69 (by kernel_rfl) rfl #[.agg #[.int .i64 ah, .int .i64 au, .int .i64 ak, .int .i64 aj, .slice aJ af.length aI]] rfl mp_ ?_; (with_reducible refine (jO.calls ah au ak aj _ _ af false _ ?ax ?ay A8.out).mono ?_); (case ax => exact cb_ (Kd.aC bu.out HB.out)); (case ay => exact bT.out); rintro e w26 ⟨rfl, hb⟩; refine ⟨_, rfl, ?_⟩; replace gU := kb_ gU hb; replace HB := aa.mk (av bl_ hb); obtain ⟨hcz27_0, RH, RI, _, _, _, _, _, _, _⟩ := bf gU.out))
         go_ret; exact ⟨re_, bl_⟩
     ·rw [if_neg c12] at H; obtain ⟨DK, Gf⟩ := bn_ c12; by_cases c28 : ah = 5
      ·rw [if_pos c28] at H; obtain ⟨c28b0, c28b1⟩ := bq_ c28; clear c28; have HC29 := aa.mk H; clear H; obtain ⟨Ep, Er, Np, Nq, Nr, _, _, _, _, _⟩ := bf gU.out; go_upto_region 10 with (((with_reducible refine az (f := 69) rfl ?_); refine aT (some 17) rfl rfl Tryd.func69 (by kernel_rfl) rfl #[.agg #[.int .i64 ah, .int .i64 au, .int .i64 ak, .int .i64 aj, .slice aJ af.length aI]] rfl mp_ ?_; (with_reducible refine (jO.calls ah au ak aj _ _ af false _ ?ax ?ay A8.out).mono ?_); (case ax => exact cb_ (Kd.aC bu.out HB.out)); (case ay => exact bT.out); rintro e w31 ⟨rfl, hb⟩; refine ⟨_, rfl, ?_⟩; replace gU := kb_ gU hb; replace HB := aa.mk (av bl_ hb); obtain ⟨Ns, _, _, _, RL, _, _, _, _, _⟩ := bf gU.out))
       go_cut [48] (fun v48 wc => ∃ (kq : Nat) (LC : Bool), v48 = .bool LC ∧ aa (bC.j1 kq LC ah au ak aj af = some r) ∧ aa (kq ≤ kj1) ∧ aa (wc.heap[LB]? = some (.cells #[.int .i64 ah, .int .i64 au, .int .i64 ak, .int .i64 aj, (.slice aJ af.length aI)] 24 (0, 0))) ∧ aa (Below w.heap.size w wc))
       case first =>
        have H := HC29.out; clear HC29; by_cases c33 : (af.length : Int) < 2
        ·rw [if_pos c33] at H; have LD := decide_eq_true c33; clear c33; (skip); have H' := aa.mk H; clear H; go_wp2; go_meet
         case rel => exact ⟨_, (true), rs_, H', ⟨by have := HJ1.out; omega⟩, ⟨bk_⟩, ⟨bl_⟩⟩
        ·rw [if_neg c33] at H; have LD := decide_eq_false c33; clear c33; (skip); have H' := aa.mk H; clear H; go_wp2; go_meet
         case rel => exact ⟨_, (decide ((af.length : Int) > 4)), rs_, H', ⟨by have := HJ1.out; omega⟩, ⟨bk_⟩, ⟨bl_⟩⟩
       case rest =>
        clear HC29; obtain ⟨kq, LC, rfl, HA, HJ28, gU, HB⟩ := hcut; cases kq with
        | zero => exact absurd HA.out (by simp [bC.j1])
        | succ kj28 =>
         have H := HA.out; clear HA; simp only [bC.j1] at H; by_cases c36 : LC = true
         ·subst c36; rw [if_pos rfl] at H; obtain rfl := Option.some.inj H; go_wp2; go_ret; exact ⟨re_, bl_⟩
         ·replace c36 := Bool.eq_false_iff.mpr c36; subst c36; rw [if_neg (show ¬ (false = true) by decide)] at H; have H' := aa.mk H; clear H; obtain ⟨_, _, _, _, Es, _, _, _, _, _⟩ := bf gU.out; go_wp2; go_loopg [52] kj28 (fun kq v52 w' => ∃ (eY : Int), v52 = .int .i64 eY ∧ aa (bC.l0 kq af (af.length : Int) eY = some r) ∧ aa (kq ≤ kj28) ∧ aa (w'.heap[LB]? = some (.cells #[.int .i64 ah, .int .i64 au, .int .i64 ak, .int .i64 aj, (.slice aJ af.length aI)] 24 (0, 0))) ∧ aa (Below w.heap.size w w'))
          case atStart => exact ⟨(0), rs_, H', ⟨Nat.le_refl _⟩, ⟨bk_⟩, ⟨bl_⟩⟩
          case round =>
           clear H'; obtain ⟨eY, rfl, HA, HK3, gU, HB⟩ := hrel; cases gk with
           | zero => exact absurd HA.out (by simp [bC.l0])
           | succ k3 =>
            have H := HA.out; clear HA; simp only [bC.l0] at H; by_cases c38 : eY < (af.length : Int)
            ·rw [if_pos c38] at H; clear c38; by_cases c39 : 0 ≤ eY
             ·rw [if_pos c39] at H; have c39b0 := decide_eq_true c39; clear c39; by_cases c40 : eY < (af.length : Int)
              ·rw [if_pos c40] at H; have c40b0 := decide_eq_true c40; clear c40; replace H := Option.bind_eq_some_iff.mp H; obtain ⟨t110, A410, H⟩ := H; have A41 := aa.mk A410; clear A410; by_cases c42 : t110 = 0
               ·rw [if_pos c42] at H; obtain ⟨c42b0, c42b1⟩ := bq_ c42; clear c42; by_cases c43 : ((ag af eY).f0) = 3
                ·rw [if_pos c43] at H; obtain ⟨c43b0, c43b1⟩ := bq_ c43; clear c43; obtain rfl := Option.some.inj H; have xu : 0 ≤ (eY : Int) := dt_; have xw : eY < (af.length : Int) := dt_; obtain ⟨ad108, wP, wQ, e108, rP, rQ, rR, rT, rU, rV, rW⟩ := fC bu.out eY xu xw; cases e108; replace rP := hc_ HB rP; replace rQ := hc_ HB rQ; replace rR := hc_ HB rR; replace rT := hc_ HB rT; replace rU := hc_ HB rU; have zl := aa.mk rW; have zm := aa.mk rV; clear rW rV; replace xu := eq_true xu; replace xw := eq_true xw; go_wp2_with (first | ((with_reducible refine aD (N := 4) rfl ?_); (try (refine dh (by rfl) ?_; dsimp only)); refine bx_ (#[.int .i64 0, .int .i64 0, .int .i64 0, .int .i64 0, .slice none 0 0]) 24 ?_; intro I9 hg w44 vJ Gi HB hb; have GE109 := Gi; clear hb hg; obtain ⟨RN, hcz46_1, hcz46_2, hcz46_3, hcz46_4, hfz46_0, hfz46_1, hfz46_2, hfz46_3, hfz46_4⟩ := bf vJ.out) | ((with_reducible refine az (f := 39) rfl ?_); refine aT (some 57) rfl rfl Tryd.func39 (by kernel_rfl) rfl #[.agg #[.int .i64 ((ag af eY).f0), .int .i64 ((ag af eY).f1), .int .i64 ((ag af eY).f2), .int .i64 ((ag af eY).f3), .slice wP ((ag af eY).f4).length wQ]] rfl mp_ ?_; (with_reducible refine (ih k3 (by have := HJ1.out; have := HJ28.out; have := HK3.out; omega) ((ag af eY).f0) ((ag af eY).f1) ((ag af eY).f2) ((ag af eY).f3) _ _ ((ag af eY).f4) t110 _ ?ax ?ay A41.out).mono ?_); (case ax => exact Kd.aC zl.out bl_); (case ay => exact zm.out); rintro e w47 ⟨rfl, hb⟩; refine ⟨_, rfl, ?_⟩; replace vJ := aa.mk (eX (g := I9) (o := .cells #[.int .i64 ((ag af eY).f0), .int .i64 ((ag af eY).f1), .int .i64 ((ag af eY).f2), .int .i64 ((ag af eY).f3), .slice wP ((ag af eY).f4).length wQ] 24 (0, 0)) b5_ hb); replace HB := aa.mk (av bl_ hb); obtain ⟨RO, _, _, _, _, _, _, _, _, _⟩ := bf vJ.out))
                 go_ret; exact ⟨re_, bl_⟩
                ·rw [if_neg c43] at H; obtain ⟨c43b0, c43b1⟩ := bn_ c43; by_cases c49 : ((ag af eY).f0) = 4
                 ·rw [if_pos c49] at H; obtain ⟨LF, c49b1⟩ := bq_ c49; clear c49; obtain rfl := Option.some.inj H; have xu : 0 ≤ (eY : Int) := dt_; have xw : eY < (af.length : Int) := dt_; obtain ⟨ad108, wP, wQ, e108, rP, rQ, rR, rT, rU, rV, rW⟩ := fC bu.out eY xu xw; cases e108; replace rP := hc_ HB rP; replace rQ := hc_ HB rQ; replace rR := hc_ HB rR; replace rT := hc_ HB rT; replace rU := hc_ HB rU; have zl := aa.mk rW; have zm := aa.mk rV; clear rW rV; replace xu := eq_true xu; replace xw := eq_true xw; go_wp2_with (first | ((with_reducible refine aD (N := 4) rfl ?_); (try (refine dh (by rfl) ?_; dsimp only)); refine bx_ (#[.int .i64 0, .int .i64 0, .int .i64 0, .int .i64 0, .slice none 0 0]) 24 ?_; intro I9 hg w50 vJ Gi HB hb; have GE109 := Gi; clear hb hg; obtain ⟨Nt, Nu, hcz52_2, hcz52_3, RP, RQ, RS, hfz52_2, hfz52_3, hfz52_4⟩ := bf vJ.out) | ((with_reducible refine az (f := 39) rfl ?_); refine aT (some 57) rfl rfl Tryd.func39 (by kernel_rfl) rfl #[.agg #[.int .i64 ((ag af eY).f0), .int .i64 ((ag af eY).f1), .int .i64 ((ag af eY).f2), .int .i64 ((ag af eY).f3), .slice wP ((ag af eY).f4).length wQ]] rfl mp_ ?_; (with_reducible refine (ih k3 (by have := HJ1.out; have := HJ28.out; have := HK3.out; omega) ((ag af eY).f0) ((ag af eY).f1) ((ag af eY).f2) ((ag af eY).f3) _ _ ((ag af eY).f4) t110 _ ?ax ?ay A41.out).mono ?_); (case ax => exact Kd.aC zl.out bl_); (case ay => exact zm.out); rintro e w53 ⟨rfl, hb⟩; refine ⟨_, rfl, ?_⟩; replace vJ := aa.mk (eX (g := I9) (o := .cells #[.int .i64 ((ag af eY).f0), .int .i64 ((ag af eY).f1), .int .i64 ((ag af eY).f2), .int .i64 ((ag af eY).f3), .slice wP ((ag af eY).f4).length wQ] 24 (0, 0)) b5_ hb); replace HB := aa.mk (av bl_ hb); obtain ⟨Nv, _, _, _, _, _, _, _, _, _⟩ := bf vJ.out))
                  go_ret; exact ⟨re_, bl_⟩
                 ·rw [if_neg c49] at H; obtain ⟨LF, c49b1⟩ := bn_ c49; have H' := aa.mk H; clear H; have xu : 0 ≤ (eY : Int) := dt_; have xw : eY < (af.length : Int) := dt_; obtain ⟨ad108, wP, wQ, e108, rP, rQ, rR, rT, rU, rV, rW⟩ := fC bu.out eY xu xw; cases e108; replace rP := hc_ HB rP; replace rQ := hc_ HB rQ; replace rR := hc_ HB rR; replace rT := hc_ HB rT; replace rU := hc_ HB rU; have zl := aa.mk rW; have zm := aa.mk rV; clear rW rV; replace xu := eq_true xu; replace xw := eq_true xw; go_wp2_with (first | ((with_reducible refine aD (N := 4) rfl ?_); (try (refine dh (by rfl) ?_; dsimp only)); refine bx_ (#[.int .i64 0, .int .i64 0, .int .i64 0, .int .i64 0, .slice none 0 0]) 24 ?_; intro I9 hg w55 vJ Gi HB hb; have GE109 := Gi; have NB106_109 := nl_ gU hg; replace gU := kb_ gU hb; clear hb hg; obtain ⟨Nw, Ny, hcz57_2, RU, RV, hfz57_0, hfz57_1, hfz57_2, hfz57_3, hfz57_4⟩ := bf vJ.out) | ((with_reducible refine az (f := 39) rfl ?_); refine aT (some 57) rfl rfl Tryd.func39 (by kernel_rfl) rfl #[.agg #[.int .i64 ((ag af eY).f0), .int .i64 ((ag af eY).f1), .int .i64 ((ag af eY).f2), .int .i64 ((ag af eY).f3), .slice wP ((ag af eY).f4).length wQ]] rfl mp_ ?_; (with_reducible refine (ih k3 (by have := HJ1.out; have := HJ28.out; have := HK3.out; omega) ((ag af eY).f0) ((ag af eY).f1) ((ag af eY).f2) ((ag af eY).f3) _ _ ((ag af eY).f4) t110 _ ?ax ?ay A41.out).mono ?_); (case ax => exact Kd.aC zl.out bl_); (case ay => exact zm.out); rintro e w58 ⟨rfl, hb⟩; refine ⟨_, rfl, ?_⟩; replace gU := aa.mk (eX (g := LB) (o := .cells #[.int .i64 ah, .int .i64 au, .int .i64 ak, .int .i64 aj, .slice (some ad108) af.length aI] 24 (0, 0)) b5_ hb); replace vJ := aa.mk (eX (g := I9) (o := .cells #[.int .i64 ((ag af eY).f0), .int .i64 ((ag af eY).f1), .int .i64 ((ag af eY).f2), .int .i64 ((ag af eY).f3), .slice wP ((ag af eY).f4).length wQ] 24 (0, 0)) b5_ hb); replace HB := aa.mk (av bl_ hb); obtain ⟨Nz, _, _, _, _, _, _, _, _, _⟩ := bf vJ.out))
                  go_roundg k3
                  case measure => have := HJ1.out; have := HJ28.out; have := HK3.out; omega
                  case rel => exact ⟨(wrap64 (eY + 1)), rs_, H', ⟨by have := HJ1.out; have := HJ28.out; have := HK3.out; omega⟩, ⟨bk_⟩, ⟨bl_⟩⟩
               ·rw [if_neg c42] at H; obtain ⟨c42b0, c42b1⟩ := bn_ c42; obtain rfl := Option.some.inj H; have xu : 0 ≤ (eY : Int) := dt_; have xw : eY < (af.length : Int) := dt_; obtain ⟨ad108, wP, wQ, e108, rP, rQ, rR, rT, rU, rV, rW⟩ := fC bu.out eY xu xw; cases e108; replace rP := hc_ HB rP; replace rQ := hc_ HB rQ; replace rR := hc_ HB rR; replace rT := hc_ HB rT; replace rU := hc_ HB rU; have zl := aa.mk rW; have zm := aa.mk rV; clear rW rV; replace xu := eq_true xu; replace xw := eq_true xw; go_wp2_with (first | ((with_reducible refine aD (N := 4) rfl ?_); (try (refine dh (by rfl) ?_; dsimp only)); refine bx_ (#[.int .i64 0, .int .i64 0, .int .i64 0, .int .i64 0, .slice none 0 0]) 24 ?_; intro I9 hg w60 vJ Gi HB hb; have GE109 := Gi; clear hb hg; obtain ⟨NA, NB, hcz62_2, hcz62_3, RX, hfz62_0, hfz62_1, hfz62_2, hfz62_3, hfz62_4⟩ := bf vJ.out) | ((with_reducible refine az (f := 39) rfl ?_); refine aT (some 57) rfl rfl Tryd.func39 (by kernel_rfl) rfl #[.agg #[.int .i64 ((ag af eY).f0), .int .i64 ((ag af eY).f1), .int .i64 ((ag af eY).f2), .int .i64 ((ag af eY).f3), .slice wP ((ag af eY).f4).length wQ]] rfl mp_ ?_; (with_reducible refine (ih k3 (by have := HJ1.out; have := HJ28.out; have := HK3.out; omega) ((ag af eY).f0) ((ag af eY).f1) ((ag af eY).f2) ((ag af eY).f3) _ _ ((ag af eY).f4) t110 _ ?ax ?ay A41.out).mono ?_); (case ax => exact Kd.aC zl.out bl_); (case ay => exact zm.out); rintro e w63 ⟨rfl, hb⟩; refine ⟨_, rfl, ?_⟩; replace HB := aa.mk (av bl_ hb)))
                go_ret; exact ⟨re_, bl_⟩
              ·rw [if_neg c40] at H; exact absurd H (by simp)
             ·rw [if_neg c39] at H; exact absurd H (by simp)
            ·rw [if_neg c38] at H; have c38b0 := decide_eq_false c38; clear c38; obtain rfl := Option.some.inj H; go_wp2; go_ret; exact ⟨re_, bl_⟩
      ·rw [if_neg c28] at H; obtain ⟨c28b0, c28b1⟩ := bn_ c28; by_cases c64 : ah = 6
       ·rw [if_pos c64] at H; obtain ⟨c64b0, c64b1⟩ := bq_ c64; clear c64; have HC65 := aa.mk H; clear H; obtain ⟨NC, ND, RY, NF, RZ, _, _, _, _, _⟩ := bf gU.out; go_upto_region 22 with (((with_reducible refine az (f := 69) rfl ?_); refine aT (some 17) rfl rfl Tryd.func69 (by kernel_rfl) rfl #[.agg #[.int .i64 ah, .int .i64 au, .int .i64 ak, .int .i64 aj, .slice aJ af.length aI]] rfl mp_ ?_; (with_reducible refine (jO.calls ah au ak aj _ _ af false _ ?ax ?ay A8.out).mono ?_); (case ax => exact cb_ (Kd.aC bu.out HB.out)); (case ay => exact bT.out); rintro e w67 ⟨rfl, hb⟩; refine ⟨_, rfl, ?_⟩; replace gU := kb_ gU hb; replace HB := aa.mk (av bl_ hb); obtain ⟨hcz68_0, _, _, hcz68_3, _, _, _, _, _, _⟩ := bf gU.out))
        go_cut [79] (fun v79 wc => ∃ (kq : Nat) (LG : Bool), v79 = .bool LG ∧ aa (bC.j3 kq LG ah au ak aj af = some r) ∧ aa (kq ≤ kj1) ∧ aa (wc.heap[LB]? = some (.cells #[.int .i64 ah, .int .i64 au, .int .i64 ak, .int .i64 aj, (.slice aJ af.length aI)] 24 (0, 0))) ∧ aa (Below w.heap.size w wc))
        case first =>
         have H := HC65.out; clear HC65; by_cases c69 : aj < 1
         ·rw [if_pos c69] at H; have c69b0 := decide_eq_true c69; clear c69; (skip); have H' := aa.mk H; clear H; go_wp2; go_meet
          case rel => exact ⟨_, (true), rs_, H', ⟨by have := HJ1.out; omega⟩, ⟨bk_⟩, ⟨bl_⟩⟩
         ·rw [if_neg c69] at H; have c69b0 := decide_eq_false c69; clear c69; (skip); have H' := aa.mk H; clear H; go_wp2; go_meet
          case rel => exact ⟨_, (decide (aj > 4)), rs_, H', ⟨by have := HJ1.out; omega⟩, ⟨bk_⟩, ⟨bl_⟩⟩
        case rest =>
         clear HC65; obtain ⟨kq, LG, rfl, HA, HJ64, gU, HB⟩ := hcut; cases kq with
         | zero => exact absurd HA.out (by simp [bC.j3])
         | succ kj64 =>
          have H := HA.out; clear HA; simp only [bC.j3] at H; by_cases c72 : LG = true
          ·subst c72; rw [if_pos rfl] at H; obtain rfl := Option.some.inj H; go_wp2; go_ret; exact ⟨re_, bl_⟩
          ·replace c72 := Bool.eq_false_iff.mpr c72; subst c72; rw [if_neg (show ¬ (false = true) by decide)] at H; by_cases c73 : (af.length : Int) = 1
           ·rw [if_pos c73] at H; obtain ⟨c73b0, c73b1⟩ := bq_ c73; clear c73; by_cases c74 : 0 < (af.length : Int)
            ·rw [if_pos c74] at H; have c74b0 := decide_eq_true c74; clear c74; replace H := Option.bind_eq_some_iff.mp H; obtain ⟨t112, A750, H⟩ := H; have A75 := aa.mk A750; clear A750; by_cases c76 : t112 = 0
             ·rw [if_pos c76] at H; obtain ⟨c76b0, c76b1⟩ := bq_ c76; clear c76; by_cases c77 : ((ag af 0).f0) = 1
              ·rw [if_pos c77] at H; obtain ⟨c77b0, c77b1⟩ := bq_ c77; clear c77; obtain rfl := Option.some.inj H; obtain ⟨_, _, _, _, hcz78_4, _, _, _, _, _⟩ := bf gU.out; have p111 : 0 ≤ (0 : Int) := (by omega); have q111 : 0 < (af.length : Int) := dt_; obtain ⟨Ja, Ct, Cu, e111, nW, nX, nY, nZ, og, rX, rY⟩ := fC bu.out 0 p111 q111; cases e111; have qi111 : (0 < af.length) = True := eq_true (by omega); (try simp only [z0_, Nat.zero_mul, Addr.add_zero'] at nW nX nY nZ og); replace nW := hc_ HB nW; replace nX := hc_ HB nX; replace nY := hc_ HB nY; replace nZ := hc_ HB nZ; replace og := hc_ HB og; have zn := aa.mk rY; have zo := aa.mk rX; clear rY rX; go_wp2_with (((with_reducible refine az (f := 39) rfl ?_); refine aT (some 88) rfl rfl Tryd.func39 (by kernel_rfl) rfl #[.agg #[.int .i64 ((ag af 0).f0), .int .i64 ((ag af 0).f1), .int .i64 ((ag af 0).f2), .int .i64 ((ag af 0).f3), .slice Ct ((ag af 0).f4).length Cu]] rfl mp_ ?_; (with_reducible refine (ih kj64 (by have := HJ1.out; have := HJ64.out; omega) ((ag af 0).f0) ((ag af 0).f1) ((ag af 0).f2) ((ag af 0).f3) _ _ ((ag af 0).f4) t112 _ ?ax ?ay A75.out).mono ?_); (case ax => exact cb_ (Kd.aC zn.out HB.out)); (case ay => exact zo.out); rintro e w79 ⟨rfl, hb⟩; refine ⟨_, rfl, ?_⟩; replace gU := kb_ gU hb; replace HB := aa.mk (av bl_ hb); obtain ⟨_, _, _, _, R3, _, _, _, _, _⟩ := bf gU.out; have p113 : 0 ≤ (0 : Int) := (by omega); have q113 : 0 < (af.length : Int) := dt_; obtain ⟨LH, A113_4, c113_4, e113, rZ, r9, si, sj, su, Et, Eu⟩ := fC bu.out 0 p113 q113; obtain rfl : Ja = LH := (by injection e113); (try simp only [z0_, Nat.zero_mul, Addr.add_zero'] at rZ); (try simp only [z0_, Nat.zero_mul, Addr.add_zero'] at r9); (try simp only [z0_, Nat.zero_mul, Addr.add_zero'] at si); (try simp only [z0_, Nat.zero_mul, Addr.add_zero'] at sj); (try simp only [z0_, Nat.zero_mul, Addr.add_zero'] at su); replace rZ := hc_ HB rZ; replace r9 := hc_ HB r9; replace si := hc_ HB si; replace sj := hc_ HB sj; replace su := hc_ HB su; clear Eu Et))
               go_ret; exact ⟨re_, bl_⟩
              ·rw [if_neg c77] at H; obtain ⟨c77b0, c77b1⟩ := bn_ c77; by_cases c81 : ((ag af 0).f0) = 2
               ·rw [if_pos c81] at H; obtain ⟨c81b0, c81b1⟩ := bq_ c81; clear c81; obtain rfl := Option.some.inj H; obtain ⟨_, _, _, _, hcz82_4, _, _, _, _, _⟩ := bf gU.out; have p111 : 0 ≤ (0 : Int) := (by omega); have q111 : 0 < (af.length : Int) := dt_; obtain ⟨Ja, Ct, Cu, e111, nW, nX, nY, nZ, og, rX, rY⟩ := fC bu.out 0 p111 q111; cases e111; have qi111 : (0 < af.length) = True := eq_true (by omega); (try simp only [z0_, Nat.zero_mul, Addr.add_zero'] at nW nX nY nZ og); replace nW := hc_ HB nW; replace nX := hc_ HB nX; replace nY := hc_ HB nY; replace nZ := hc_ HB nZ; replace og := hc_ HB og; have zn := aa.mk rY; have zo := aa.mk rX; clear rY rX; go_wp2_with (((with_reducible refine az (f := 39) rfl ?_); refine aT (some 88) rfl rfl Tryd.func39 (by kernel_rfl) rfl #[.agg #[.int .i64 ((ag af 0).f0), .int .i64 ((ag af 0).f1), .int .i64 ((ag af 0).f2), .int .i64 ((ag af 0).f3), .slice Ct ((ag af 0).f4).length Cu]] rfl mp_ ?_; (with_reducible refine (ih kj64 (by have := HJ1.out; have := HJ64.out; omega) ((ag af 0).f0) ((ag af 0).f1) ((ag af 0).f2) ((ag af 0).f3) _ _ ((ag af 0).f4) t112 _ ?ax ?ay A75.out).mono ?_); (case ax => exact cb_ (Kd.aC zn.out HB.out)); (case ay => exact zo.out); rintro e w83 ⟨rfl, hb⟩; refine ⟨_, rfl, ?_⟩; replace gU := kb_ gU hb; replace HB := aa.mk (av bl_ hb); obtain ⟨_, _, _, _, hcz84_4, _, _, _, _, _⟩ := bf gU.out; have p113 : 0 ≤ (0 : Int) := (by omega); have q113 : 0 < (af.length : Int) := dt_; obtain ⟨LH, A113_4, c113_4, e113, rZ, r9, si, sj, su, Et, Eu⟩ := fC bu.out 0 p113 q113; obtain rfl : Ja = LH := (by injection e113); (try simp only [z0_, Nat.zero_mul, Addr.add_zero'] at rZ); (try simp only [z0_, Nat.zero_mul, Addr.add_zero'] at r9); (try simp only [z0_, Nat.zero_mul, Addr.add_zero'] at si); (try simp only [z0_, Nat.zero_mul, Addr.add_zero'] at sj); (try simp only [z0_, Nat.zero_mul, Addr.add_zero'] at su); replace rZ := hc_ HB rZ; replace r9 := hc_ HB r9; replace si := hc_ HB si; replace sj := hc_ HB sj; replace su := hc_ HB su; clear Eu Et))
                go_ret; exact ⟨re_, bl_⟩
               ·rw [if_neg c81] at H; obtain ⟨c81b0, c81b1⟩ := bn_ c81; obtain rfl := Option.some.inj H; obtain ⟨_, _, _, _, hcz85_4, _, _, _, _, _⟩ := bf gU.out; have p111 : 0 ≤ (0 : Int) := (by omega); have q111 : 0 < (af.length : Int) := dt_; obtain ⟨Ja, Ct, Cu, e111, nW, nX, nY, nZ, og, rX, rY⟩ := fC bu.out 0 p111 q111; cases e111; have qi111 : (0 < af.length) = True := eq_true (by omega); (try simp only [z0_, Nat.zero_mul, Addr.add_zero'] at nW nX nY nZ og); replace nW := hc_ HB nW; replace nX := hc_ HB nX; replace nY := hc_ HB nY; replace nZ := hc_ HB nZ; replace og := hc_ HB og; have zn := aa.mk rY; have zo := aa.mk rX; clear rY rX; go_wp2_with (((with_reducible refine az (f := 39) rfl ?_); refine aT (some 88) rfl rfl Tryd.func39 (by kernel_rfl) rfl #[.agg #[.int .i64 ((ag af 0).f0), .int .i64 ((ag af 0).f1), .int .i64 ((ag af 0).f2), .int .i64 ((ag af 0).f3), .slice Ct ((ag af 0).f4).length Cu]] rfl mp_ ?_; (with_reducible refine (ih kj64 (by have := HJ1.out; have := HJ64.out; omega) ((ag af 0).f0) ((ag af 0).f1) ((ag af 0).f2) ((ag af 0).f3) _ _ ((ag af 0).f4) t112 _ ?ax ?ay A75.out).mono ?_); (case ax => exact cb_ (Kd.aC zn.out HB.out)); (case ay => exact zo.out); rintro e w86 ⟨rfl, hb⟩; refine ⟨_, rfl, ?_⟩; replace gU := kb_ gU hb; replace HB := aa.mk (av bl_ hb); obtain ⟨_, _, _, _, hcz87_4, _, _, _, _, _⟩ := bf gU.out; have p113 : 0 ≤ (0 : Int) := (by omega); have q113 : 0 < (af.length : Int) := dt_; obtain ⟨LH, A113_4, c113_4, e113, rZ, r9, si, sj, su, Et, Eu⟩ := fC bu.out 0 p113 q113; obtain rfl : Ja = LH := (by injection e113); (try simp only [z0_, Nat.zero_mul, Addr.add_zero'] at rZ); (try simp only [z0_, Nat.zero_mul, Addr.add_zero'] at r9); (try simp only [z0_, Nat.zero_mul, Addr.add_zero'] at si); (try simp only [z0_, Nat.zero_mul, Addr.add_zero'] at sj); (try simp only [z0_, Nat.zero_mul, Addr.add_zero'] at su); replace rZ := hc_ HB rZ; replace r9 := hc_ HB r9; replace si := hc_ HB si; replace sj := hc_ HB sj; replace su := hc_ HB su; clear Eu Et))
                go_ret; exact ⟨re_, bl_⟩
             ·rw [if_neg c76] at H; obtain ⟨c76b0, c76b1⟩ := bn_ c76; obtain rfl := Option.some.inj H; obtain ⟨_, _, _, _, hcz88_4, _, _, _, _, _⟩ := bf gU.out; have p111 : 0 ≤ (0 : Int) := (by omega); have q111 : 0 < (af.length : Int) := dt_; obtain ⟨Ja, Ct, Cu, e111, nW, nX, nY, nZ, og, rX, rY⟩ := fC bu.out 0 p111 q111; cases e111; have qi111 : (0 < af.length) = True := eq_true (by omega); (try simp only [z0_, Nat.zero_mul, Addr.add_zero'] at nW nX nY nZ og); replace nW := hc_ HB nW; replace nX := hc_ HB nX; replace nY := hc_ HB nY; replace nZ := hc_ HB nZ; replace og := hc_ HB og; have zn := aa.mk rY; have zo := aa.mk rX; clear rY rX; go_wp2_with (((with_reducible refine az (f := 39) rfl ?_); refine aT (some 88) rfl rfl Tryd.func39 (by kernel_rfl) rfl #[.agg #[.int .i64 ((ag af 0).f0), .int .i64 ((ag af 0).f1), .int .i64 ((ag af 0).f2), .int .i64 ((ag af 0).f3), .slice Ct ((ag af 0).f4).length Cu]] rfl mp_ ?_; (with_reducible refine (ih kj64 (by have := HJ1.out; have := HJ64.out; omega) ((ag af 0).f0) ((ag af 0).f1) ((ag af 0).f2) ((ag af 0).f3) _ _ ((ag af 0).f4) t112 _ ?ax ?ay A75.out).mono ?_); (case ax => exact cb_ (Kd.aC zn.out HB.out)); (case ay => exact zo.out); rintro e w89 ⟨rfl, hb⟩; refine ⟨_, rfl, ?_⟩; replace HB := aa.mk (av bl_ hb)))
              go_ret; exact ⟨re_, bl_⟩
            ·rw [if_neg c74] at H; exact absurd H (by simp)
           ·rw [if_neg c73] at H; obtain ⟨c73b0, c73b1⟩ := bn_ c73; obtain rfl := Option.some.inj H; obtain ⟨_, _, _, _, hcz90_4, _, _, _, _, _⟩ := bf gU.out; go_wp2; go_ret; exact ⟨re_, bl_⟩
       ·rw [if_neg c64] at H; obtain ⟨c64b0, c64b1⟩ := bn_ c64; obtain rfl := Option.some.inj H; obtain ⟨hcz91_0, hcz91_1, hcz91_2, hcz91_3, hcz91_4, _, _, _, _, _⟩ := bf gU.out; go_wp2_with (((with_reducible refine az (f := 69) rfl ?_); refine aT (some 17) rfl rfl Tryd.func69 (by kernel_rfl) rfl #[.agg #[.int .i64 ah, .int .i64 au, .int .i64 ak, .int .i64 aj, .slice aJ af.length aI]] rfl mp_ ?_; (with_reducible refine (jO.calls ah au ak aj _ _ af false _ ?ax ?ay A8.out).mono ?_); (case ax => exact cb_ (Kd.aC bu.out HB.out)); (case ay => exact bT.out); rintro e w92 ⟨rfl, hb⟩; refine ⟨_, rfl, ?_⟩; replace gU := kb_ gU hb; replace HB := aa.mk (av bl_ hb); obtain ⟨hcz93_0, _, _, _, _, _, _, _, _, _⟩ := bf gU.out))
        go_ret; exact ⟨re_, bl_⟩


/-! ### dx: function 40 -/
mutual
def dx.l0 : Nat → Int → List (S24) → Int → Int → Option (Int)
 | 0, _, _, _, _ => none
 | k + 1, x3, x11, x12, x13 => if x13 < x12 then (if 0 ≤ x13 then (if x13 < (x11.length : Int) then ((dx.f k ((ag x11 x13).f0) ((ag x11 x13).f1) ((ag x11 x13).f2) ((ag x11 x13).f3) ((ag x11 x13).f4)).bind fun t117 => (dx.l0 k (wrap64 (x3 + t117)) x11 x12 (wrap64 (x13 + 1)))) else (none)) else (none)) else (some x3)
def dx.f : Nat → Int → Int → Int → Int → List (S24) → Option (Int)
 | 0, _, _, _, _, _ => none
 | k + 1, ah, au, ak, aj, af => if ah = 5 then (dx.l0 k 0 af (af.length : Int) 0) else (if ah = 6 then (if 0 < (af.length : Int) then ((dx.f k ((ag af 0).f0) ((ag af 0).f1) ((ag af 0).f2) ((ag af 0).f3) ((ag af 0).f4)).bind fun t119 => (some (wrap64 (1 + (wrap64 (aj * t119)))))) else (none)) else (some 1))
end
theorem dx.gY : ∀ k, (∀ y0 y1 y2 y3 y4, LeO (dx.f k y0 y1 y2 y3 y4) (dx.f (k + 1) y0 y1 y2 y3 y4)) ∧ (∀ y0 y1 y2 y3, LeO (dx.l0 k y0 y1 y2 y3) (dx.l0 (k + 1) y0 y1 y2 y3))
 | 0 => ⟨fun _ _ _ _ _ r h => by simp [dx.f] at h, fun _ _ _ _ r h => by simp [dx.l0] at h⟩
 | k + 1 => by
  obtain ⟨ih0, ih1⟩ := dx.gY k; refine ⟨?_, ?_⟩
  ·intro y0 y1 y2 y3 y4; unfold dx.f; exact mo_
  ·intro y0 y1 y2 y3; unfold dx.l0; exact mo_
theorem dx.mono : ∀ a0 a1 a2 a3 a4 k, LeO (dx.f k a0 a1 a2 a3 a4) (dx.f (k + 1) a0 a1 a2 a3 a4) := by
 intro a0 a1 a2 a3 a4 k; obtain ⟨ih0, ih1⟩ := dx.gY k; exact ih0 a0 a1 a2 a3 a4
def dx.T11 : Bool × List (List Nat × List Nat) := (true, [([], []), ([0], [0]), ([], []), ([2], [2]), ([3], [3]), ([4], [4]), ([5], [5]), ([1, 6], [1, 6]), ([7], [7]), ([8, 6, 0, 1, 2, 3, 4, 5, 6, 7, 8], [8])])
def dx.B11 : List Nat := [0, 1, 0, 4, 12, 28, 60, 127, 255, 511]
theorem dx.tab11 : kK .any (opsOf Tryd.f40 11) = dx.T11 := by kernel_rfl
theorem dx.bits11 : kQ dx.T11.2 dx.B11 = true := by kernel_rfl
set_option maxHeartbeats 8000000 in
set_option maxRecDepth 100000 in
theorem dx.calls (k : Nat) : ∀ (ah : Int) (au : Int) (ak : Int) (aj : Int) (aJ : Option Addr) (aI : Nat) (af : List (S24)) (r : Int) (w : World) (dz : Kd.C k24 w aJ af.length af) (dL : af.length ≤ aI) (h : dx.f k ah au ak aj af = some r),
  Calls Tryd.prog 40 #[.agg #[.int .i64 ah, .int .i64 au, .int .i64 ak, .int .i64 aj, .slice aJ af.length aI]] w fun e w' => e = .returned (.int .i64 r) ∧ Below w.heap.size w w' := by
 induction k using Nat.strongRecOn with
 | _ k ih =>
 intro ah au ak aj aJ aI af r w dz dL h; cases k with
 | zero => exact absurd h (by simp [dx.f])
 | succ k =>
 simp only [dx.f] at h; have bu := aa.mk dz; clear dz dL; have HB := aa.mk (Below.refl w.heap.size w); have H : (if ah = 5 then (dx.l0 k 0 af (af.length : Int) 0) else (if ah = 6 then (if 0 < (af.length : Int) then ((dx.f k ((ag af 0).f0) ((ag af 0).f1) ((ag af 0).f2) ((ag af 0).f3) ((ag af 0).f4)).bind fun t119 => (some (wrap64 (1 + (wrap64 (aj * t119)))))) else (none)) else (some 1))) = some r := h; clear h; by_cases c2 : ah = 5
 ·rw [if_pos c2] at H; obtain ⟨zb, c2b1⟩ := bq_ c2; clear c2; have H' := aa.mk H; clear H; go_enter Tryd.func40, Tryd.ntmps40; go_wp2_with (((with_reducible refine aD (N := 1) rfl ?_); refine bx_ (#[.int .i64 ah, .int .i64 au, .int .i64 ak, .int .i64 aj, .slice aJ af.length aI]) 24 ?_; intro Bu hg w3 mr _ HB hb; clear hb hg; obtain ⟨hcz4_0, _, _, _, hcz4_4, _, _, _, _, _⟩ := bf mr.out))
  go_loopg [3, 13] k (fun kq v3 v13 w' => ∃ (iK : Int) (jb : Int), v3 = .int .i64 iK ∧ v13 = .int .i64 jb ∧ aa (dx.l0 kq iK af (af.length : Int) jb = some r) ∧ aa (kq ≤ k) ∧ aa (w'.heap[Bu]? = some (.cells #[.int .i64 ah, .int .i64 au, .int .i64 ak, .int .i64 aj, (.slice aJ af.length aI)] 24 (0, 0))) ∧ aa (Below w.heap.size w w'))
  case atStart => exact ⟨(0), (0), rs_, rs_, H', ⟨Nat.le_refl _⟩, ⟨bk_⟩, ⟨bl_⟩⟩
  case round =>
   clear H'; obtain ⟨iK, jb, rfl, rfl, HA, HK1, mr, HB⟩ := hrel; cases gk with
   | zero => exact absurd HA.out (by simp [dx.l0])
   | succ k1 =>
    have H := HA.out; clear HA; simp only [dx.l0] at H; by_cases c5 : jb < (af.length : Int)
    ·rw [if_pos c5] at H; clear c5; by_cases c6 : 0 ≤ jb
     ·rw [if_pos c6] at H; have wI := decide_eq_true c6; clear c6; by_cases c7 : jb < (af.length : Int)
      ·rw [if_pos c7] at H; have sw := decide_eq_true c7; clear c7; replace H := Option.bind_eq_some_iff.mp H; obtain ⟨t117, A80, H⟩ := H; have A8 := aa.mk A80; clear A80; have H' := aa.mk H; clear H; have p115 : 0 ≤ (jb : Int) := dt_; have q115 : jb < (af.length : Int) := dt_; obtain ⟨ad115, A115_4, c115_4, e115, R4, R5, R6, R7, R8, R9, Sa⟩ := fC bu.out jb p115 q115; cases e115; replace R4 := hc_ HB R4; replace R5 := hc_ HB R5; replace R6 := hc_ HB R6; replace R7 := hc_ HB R7; replace R8 := hc_ HB R8; have HR115_4 := aa.mk Sa; have HC115_4 := aa.mk R9; clear Sa R9; replace p115 := eq_true p115; replace q115 := eq_true q115; go_wp2_with (first | ((with_reducible refine aD (N := 5) rfl ?_); refine bx_ (#[.int .i64 0, .int .i64 0, .int .i64 0, .int .i64 0, .slice none 0 0]) 24 ?_; intro gb116 hg w9 BK116 GW116 HB hb; have GE116 := GW116; have NB114_116 := nl_ mr hg; replace mr := kb_ mr hb; clear hb hg; obtain ⟨BO, Eg, Eh, Nl, I1, RD, RF, RG, hfz11_3, hfz11_4⟩ := bf BK116.out) | ((with_reducible refine az (f := 40) rfl ?_); refine aT (some 19) rfl rfl Tryd.func40 (by kernel_rfl) rfl #[.agg #[.int .i64 ((ag af jb).f0), .int .i64 ((ag af jb).f1), .int .i64 ((ag af jb).f2), .int .i64 ((ag af jb).f3), .slice A115_4 ((ag af jb).f4).length c115_4]] rfl mp_ ?_; (with_reducible refine (ih k1 (by have := HK1.out; omega) ((ag af jb).f0) ((ag af jb).f1) ((ag af jb).f2) ((ag af jb).f3) _ _ ((ag af jb).f4) t117 _ ?ax ?ay A8.out).mono ?_); (case ax => exact Kd.aC HR115_4.out bl_); (case ay => exact HC115_4.out); rintro e w12 ⟨rfl, hb⟩; refine ⟨_, rfl, ?_⟩; replace mr := aa.mk (eX (g := Bu) (o := .cells #[.int .i64 ah, .int .i64 au, .int .i64 ak, .int .i64 aj, .slice (some ad115) af.length aI] 24 (0, 0)) b5_ hb); replace HB := aa.mk (av bl_ hb)))
       go_roundg k1
       case measure => have := HK1.out; omega
       case rel => exact ⟨(wrap64 (iK + t117)), (wrap64 (jb + 1)), rs_, rs_, H', ⟨by have := HK1.out; omega⟩, ⟨bk_⟩, ⟨bl_⟩⟩
      ·rw [if_neg c7] at H; exact absurd H (by simp)
     ·rw [if_neg c6] at H; exact absurd H (by simp)
    ·rw [if_neg c5] at H; have oV := decide_eq_false c5; clear c5; obtain rfl := Option.some.inj H; go_wp2; go_ret; exact ⟨re_, bl_⟩
 ·rw [if_neg c2] at H; obtain ⟨zb, c2b1⟩ := bn_ c2; by_cases c13 : ah = 6
  ·rw [if_pos c13] at H; obtain ⟨Gg, LJ⟩ := bq_ c13; clear c13; by_cases c14 : 0 < (af.length : Int)
   ·rw [if_pos c14] at H; have DI := decide_eq_true c14; clear c14; replace H := Option.bind_eq_some_iff.mp H; obtain ⟨t119, A150, H⟩ := H; have A15 := aa.mk A150; clear A150; obtain rfl := Option.some.inj H; go_enter Tryd.func40, Tryd.ntmps40; try go_wp2_with (((with_reducible refine aD (N := 1) rfl ?_); refine bx_ (#[.int .i64 ah, .int .i64 au, .int .i64 ak, .int .i64 aj, .slice aJ af.length aI]) 24 ?_; intro Bu hg w16 mr _ HB hb; clear hb hg; obtain ⟨zq, _, _, _, BQ, _, _, _, _, _⟩ := bf mr.out))
    replace mr := aa.mk (dn mr.out); replace HB := aa.mk (eP HB.out); have p118 : 0 ≤ (0 : Int) := (by omega); have q118 : 0 < (af.length : Int) := dt_; obtain ⟨Am, A118_4, c118_4, e118, Ew, Ex, Ey, Ez, EA, Sb, Sc⟩ := fC bu.out 0 p118 q118; have EB := EA; (try simp only [z0_, Nat.zero_mul, Addr.add_zero'] at EB); have EC := Ez; (try simp only [z0_, Nat.zero_mul, Addr.add_zero'] at EC); have ED := Ey; (try simp only [z0_, Nat.zero_mul, Addr.add_zero'] at ED); have EE := Ex; (try simp only [z0_, Nat.zero_mul, Addr.add_zero'] at EE); have EF := Ew; (try simp only [z0_, Nat.zero_mul, Addr.add_zero'] at EF); cases e118; have qi118 : (0 < af.length) = True := eq_true (by omega); (try simp only [z0_, Nat.zero_mul, Addr.add_zero'] at Ew Ex Ey Ez EA); replace Ew := hc_ HB Ew; replace Ex := hc_ HB Ex; replace Ey := hc_ HB Ey; replace Ez := hc_ HB Ez; replace EA := hc_ HB EA; have Sd := aa.mk Sc; have HC118_4 := aa.mk Sb; clear Sc Sb; refine lg (n := 10) (S := fun w' => w'.cell? ⟨Bu, 0, none⟩ = some (.int .i64 ah) ∧ w'.cell? ⟨Bu, 1, none⟩ = some (.int .i64 au) ∧ w'.cell? ⟨Bu, 2, none⟩ = some (.int .i64 ak) ∧ w'.cell? ⟨Bu, 3, none⟩ = some (.int .i64 aj) ∧ w'.cell? ⟨Bu, 4, none⟩ = some (.slice (some Am) af.length aI) ∧ w'.cell? Am = some (.int .i64 ((ag af 0).f0)) ∧ w'.cell? ⟨Am.block, Am.off + 1, none⟩ = some (.int .i64 ((ag af 0).f1)) ∧ w'.cell? ⟨Am.block, Am.off + 2, none⟩ = some (.int .i64 ((ag af 0).f2)) ∧ w'.cell? ⟨Am.block, Am.off + 3, none⟩ = some (.int .i64 ((ag af 0).f3)) ∧ w'.cell? ⟨Am.block, Am.off + 4, none⟩ = some (.slice A118_4 ((ag af 0).f4).length c118_4)) (ds := []) #[false, false, false, false, false, false, false, false, false, false] (by kernel_rfl) rfl rfl ⟨(ai mr.out 0).trans rfl, (ai mr.out 1).trans rfl, (ai mr.out 2).trans rfl, (ai mr.out 3).trans rfl, (ai mr.out 4).trans rfl, ((HB.out.cell (World.block_lt_of_cell? w _ EF)).trans EF), ((HB.out.cell (World.block_lt_of_cell? w _ EE)).trans EE), ((HB.out.cell (World.block_lt_of_cell? w _ ED)).trans ED), ((HB.out.cell (World.block_lt_of_cell? w _ EC)).trans EC), ((HB.out.cell (World.block_lt_of_cell? w _ EB)).trans EB)⟩ (fun hHeld => ?_); refine iW dx.tab11 dx.bits11 (fun HT_ HW_ => ?_)
    generalize w16.drew = w18 at mr HB Sd Ew Ex Ey Ez EA hHeld ⊢
    refine pu_ HT_ 0 25 (bm 10 1) ?_
    refine pu_ HT_ 2 27 (bm 10 5) ?_
    refine ta_ HT_ HW_ 1 26 (bm 10 7) hHeld ?_
    refine ta_ HT_ HW_ 3 28 (bm 10 15) hHeld ?_
    refine pu_ HT_ 4 29 (bm 10 31) ?_
    refine ta_ HT_ HW_ 5 30 (bm 10 63) hHeld ?_
    refine lq (i := 6) (N := some 31) #[true, true, true, true, true, true, true, false, false, false] rfl rfl (ig HT_.out (by kernel_rfl)) (by decide) (fun K hK => ?_)
    refine ny Tryd.func40 (by kernel_rfl) rfl #[.agg #[.int .i64 ((ag af 0).f0), .int .i64 ((ag af 0).f1), .int .i64 ((ag af 0).f2), .int .i64 ((ag af 0).f3), .slice A118_4 ((ag af 0).f4).length c118_4]] (by rfl) rfl rfl mp_ ?_
    with_reducible refine (ih k (by omega) ((ag af 0).f0) ((ag af 0).f1) ((ag af 0).f2) ((ag af 0).f3) _ _ ((ag af 0).f4) t119 _ ?ax ?ay A15.out).mono ?_
    (case ax => exact cb_ (Kd.aC Sd.out HB.out))
    (case ay => exact HC118_4.out)
    rintro e w19 ⟨rfl, hb⟩
    refine ⟨_, rfl, ?_⟩
    replace mr := kb_ mr hb; replace HB := aa.mk (av bl_ hb); refine hK.out _ _ ⟨(ai mr.out 0).trans rfl, (ai mr.out 1).trans rfl, (ai mr.out 2).trans rfl, (ai mr.out 3).trans rfl, (ai mr.out 4).trans rfl, ((HB.out.cell (World.block_lt_of_cell? w _ EF)).trans EF), ((HB.out.cell (World.block_lt_of_cell? w _ EE)).trans EE), ((HB.out.cell (World.block_lt_of_cell? w _ ED)).trans ED), ((HB.out.cell (World.block_lt_of_cell? w _ EC)).trans EC), ((HB.out.cell (World.block_lt_of_cell? w _ EB)).trans EB)⟩ (fun hHeld => ?_)
    clear hK K; refine kD (a' := ?_) ?_ ?_
    rotate_left
    ·show Act.put _ (some 31) _ = _
     simp only [Act.put, List.setIfInBounds_toArray, List.set_cons_zero, List.set_cons_succ, iQ, jJ]; rfl
    refine pu_ HT_ 7 32 (bm 10 255) ?_
    refine pu_ HT_ 8 33 (bm 10 511) ?_
    refine pu_ HT_ 9 2 #[true, true, true, true, true, true, true, true, true, true] ?_
    refine mX (kr HT_.out (by kernel_rfl)) ?_
    try go_wp2
    go_ret; exact ⟨re_, bl_⟩
   ·rw [if_neg c14] at H; exact absurd H (by simp)
  ·rw [if_neg c13] at H; obtain ⟨Gg, LJ⟩ := bn_ c13; obtain rfl := Option.some.inj H; go_enter Tryd.func40, Tryd.ntmps40; go_wp2_with (((with_reducible refine aD (N := 1) rfl ?_); refine bx_ (#[.int .i64 ah, .int .i64 au, .int .i64 ak, .int .i64 aj, .slice aJ af.length aI]) 24 ?_; intro Bu hg w20 mr _ HB hb; clear hb hg; obtain ⟨EG, _, _, _, _, _, _, _, _, _⟩ := bf mr.out))
   go_ret; exact ⟨re_, bl_⟩


/-! ### gP: function 12 -/
def gP.f (k : Nat) (ah : Int) (au : Int) (ak : Int) (aj : Int) (af : List (S24)) : Option (Int) := (dX.f k ah au ak aj af).bind fun t121 => (if t121 > 10 then (some 9) else ((bC.f k ah au ak aj af).bind fun t122 => (if t122 = 0 then ((dx.f k ah au ak aj af).bind fun t123 => (if t123 > 24 then (some 9) else (some 0))) else (some t122))))
theorem gP.mono : ∀ a0 a1 a2 a3 a4 k, LeO (gP.f k a0 a1 a2 a3 a4) (gP.f (k + 1) a0 a1 a2 a3 a4) := by
 intro a0 a1 a2 a3 a4 k; unfold gP.f; have m0 := @dX.mono; have m1 := @bC.mono; have m2 := @dx.mono; exact mo_
set_option maxHeartbeats 8000000 in
set_option maxRecDepth 100000 in
theorem gP.calls (k : Nat) (ah : Int) (au : Int) (ak : Int) (aj : Int) (aJ : Option Addr) (aI : Nat) (af : List (S24)) (r : Int) (w : World) (dz : Kd.C k24 w aJ af.length af) (dL : af.length ≤ aI) (h : gP.f k ah au ak aj af = some r) :
  Calls Tryd.prog 12 #[.agg #[.int .i64 ah, .int .i64 au, .int .i64 ak, .int .i64 aj, .slice aJ af.length aI]] w fun e w' => e = .returned (.int .i64 r) ∧ Below w.heap.size w w' := by
 have bu := aa.mk dz; have bT := aa.mk dL; clear dz dL; have HB := aa.mk (Below.refl w.heap.size w); have H := h; unfold gP.f at H; clear h; replace H := Option.bind_eq_some_iff.mp H; obtain ⟨t121, A20, H⟩ := H; have A2 := aa.mk A20; clear A20; by_cases c3 : t121 > 10
 ·rw [if_pos c3] at H; have kS : decide (10 < t121) = true := decide_eq_true c3; clear c3; obtain rfl := Option.some.inj H; go_enter Tryd.func12, Tryd.ntmps12; go_wp2_with (first | ((with_reducible refine aD (N := 1) rfl ?_); refine bx_ (#[.int .i64 ah, .int .i64 au, .int .i64 ak, .int .i64 aj, .slice aJ af.length aI]) 24 ?_; intro gb120 hg w4 nQ _ HB hb; clear hb hg; obtain ⟨PL, hcz5_1, hcz5_2, hcz5_3, hcz5_4, _, _, _, _, _⟩ := bf nQ.out) | ((with_reducible refine az (f := 38) rfl ?_); refine aT (some 5) rfl rfl Tryd.func38 (by kernel_rfl) rfl #[.agg #[.int .i64 ah, .int .i64 au, .int .i64 ak, .int .i64 aj, .slice aJ af.length aI]] rfl mp_ ?_; (with_reducible refine (dX.calls k ah au ak aj _ _ af t121 _ ?ax ?ay A2.out).mono ?_); (case ax => exact cb_ (Kd.aC bu.out HB.out)); (case ay => exact bT.out); rintro e w6 ⟨rfl, hb⟩; refine ⟨_, rfl, ?_⟩; replace HB := aa.mk (av bl_ hb)))
  go_ret; exact ⟨re_, bl_⟩
 ·rw [if_neg c3] at H; have kS : decide (10 < t121) = false := decide_eq_false c3; clear c3; replace H := Option.bind_eq_some_iff.mp H; obtain ⟨t122, A70, H⟩ := H; have A7 := aa.mk A70; clear A70; by_cases c8 : t122 = 0
  ·rw [if_pos c8] at H; obtain ⟨rJ, Bi⟩ := bq_ c8; clear c8; replace H := Option.bind_eq_some_iff.mp H; obtain ⟨t123, A90, H⟩ := H; have A9 := aa.mk A90; clear A90; by_cases c10 : t123 > 24
   ·rw [if_pos c10] at H; have pG : decide (24 < t123) = true := decide_eq_true c10; clear c10; obtain rfl := Option.some.inj H; go_enter Tryd.func12, Tryd.ntmps12; go_wp2_with (first | ((with_reducible refine aD (N := 1) rfl ?_); refine bx_ (#[.int .i64 ah, .int .i64 au, .int .i64 ak, .int .i64 aj, .slice aJ af.length aI]) 24 ?_; intro gb120 hg w11 nQ _ HB hb; clear hb hg; obtain ⟨p9, sD, EH, EI, zt, _, _, _, _, _⟩ := bf nQ.out) | ((with_reducible refine az (f := 38) rfl ?_); refine aT (some 5) rfl rfl Tryd.func38 (by kernel_rfl) rfl #[.agg #[.int .i64 ah, .int .i64 au, .int .i64 ak, .int .i64 aj, .slice aJ af.length aI]] rfl mp_ ?_; (with_reducible refine (dX.calls k ah au ak aj _ _ af t121 _ ?ax ?ay A2.out).mono ?_); (case ax => exact cb_ (Kd.aC bu.out HB.out)); (case ay => exact bT.out); rintro e w13 ⟨rfl, hb⟩; refine ⟨_, rfl, ?_⟩; replace nQ := kb_ nQ hb; replace HB := aa.mk (av bl_ hb); obtain ⟨xQ, zi, En, zk, xR, _, _, _, _, _⟩ := bf nQ.out) | ((with_reducible refine az (f := 39) rfl ?_); refine aT (some 8) rfl rfl Tryd.func39 (by kernel_rfl) rfl #[.agg #[.int .i64 ah, .int .i64 au, .int .i64 ak, .int .i64 aj, .slice aJ af.length aI]] rfl mp_ ?_; (with_reducible refine (bC.calls k ah au ak aj _ _ af t122 _ ?ax ?ay A7.out).mono ?_); (case ax => exact cb_ (Kd.aC bu.out HB.out)); (case ay => exact bT.out); rintro e w15 ⟨rfl, hb⟩; refine ⟨_, rfl, ?_⟩; replace nQ := kb_ nQ hb; replace HB := aa.mk (av bl_ hb); obtain ⟨xS, xU, EJ, BR, zu, _, _, _, _, _⟩ := bf nQ.out) | ((with_reducible refine az (f := 40) rfl ?_); refine aT (some 13) rfl rfl Tryd.func40 (by kernel_rfl) rfl #[.agg #[.int .i64 ah, .int .i64 au, .int .i64 ak, .int .i64 aj, .slice aJ af.length aI]] rfl mp_ ?_; (with_reducible refine (dx.calls k ah au ak aj _ _ af t123 _ ?ax ?ay A9.out).mono ?_); (case ax => exact cb_ (Kd.aC bu.out HB.out)); (case ay => exact bT.out); rintro e w17 ⟨rfl, hb⟩; refine ⟨_, rfl, ?_⟩; replace HB := aa.mk (av bl_ hb)))
    go_ret; exact ⟨re_, bl_⟩
   ·rw [if_neg c10] at H; have pG : decide (24 < t123) = false := decide_eq_false c10; clear c10; obtain rfl := Option.some.inj H; go_enter Tryd.func12, Tryd.ntmps12; go_wp2_with (first | ((with_reducible refine aD (N := 1) rfl ?_); refine bx_ (#[.int .i64 ah, .int .i64 au, .int .i64 ak, .int .i64 aj, .slice aJ af.length aI]) 24 ?_; intro gb120 hg w18 nQ _ HB hb; clear hb hg; obtain ⟨vK, xW, hcz19_2, hcz19_3, hcz19_4, _, _, _, _, _⟩ := bf nQ.out) | ((with_reducible refine az (f := 38) rfl ?_); refine aT (some 5) rfl rfl Tryd.func38 (by kernel_rfl) rfl #[.agg #[.int .i64 ah, .int .i64 au, .int .i64 ak, .int .i64 aj, .slice aJ af.length aI]] rfl mp_ ?_; (with_reducible refine (dX.calls k ah au ak aj _ _ af t121 _ ?ax ?ay A2.out).mono ?_); (case ax => exact cb_ (Kd.aC bu.out HB.out)); (case ay => exact bT.out); rintro e w20 ⟨rfl, hb⟩; refine ⟨_, rfl, ?_⟩; replace nQ := kb_ nQ hb; replace HB := aa.mk (av bl_ hb); obtain ⟨EG, EK, Jb, NG, NH, _, _, _, _, _⟩ := bf nQ.out) | ((with_reducible refine az (f := 39) rfl ?_); refine aT (some 8) rfl rfl Tryd.func39 (by kernel_rfl) rfl #[.agg #[.int .i64 ah, .int .i64 au, .int .i64 ak, .int .i64 aj, .slice aJ af.length aI]] rfl mp_ ?_; (with_reducible refine (bC.calls k ah au ak aj _ _ af t122 _ ?ax ?ay A7.out).mono ?_); (case ax => exact cb_ (Kd.aC bu.out HB.out)); (case ay => exact bT.out); rintro e w22 ⟨rfl, hb⟩; refine ⟨_, rfl, ?_⟩; replace nQ := kb_ nQ hb; replace HB := aa.mk (av bl_ hb); obtain ⟨NI, NJ, Sg, hcz23_3, hcz23_4, _, _, _, _, _⟩ := bf nQ.out) | ((with_reducible refine az (f := 40) rfl ?_); refine aT (some 13) rfl rfl Tryd.func40 (by kernel_rfl) rfl #[.agg #[.int .i64 ah, .int .i64 au, .int .i64 ak, .int .i64 aj, .slice aJ af.length aI]] rfl mp_ ?_; (with_reducible refine (dx.calls k ah au ak aj _ _ af t123 _ ?ax ?ay A9.out).mono ?_); (case ax => exact cb_ (Kd.aC bu.out HB.out)); (case ay => exact bT.out); rintro e w24 ⟨rfl, hb⟩; refine ⟨_, rfl, ?_⟩; replace HB := aa.mk (av bl_ hb)))
    go_ret; exact ⟨re_, bl_⟩
  ·rw [if_neg c8] at H; obtain ⟨rJ, Bi⟩ := bn_ c8; obtain rfl := Option.some.inj H; go_enter Tryd.func12, Tryd.ntmps12; go_wp2_with (first | ((with_reducible refine aD (N := 1) rfl ?_); refine bx_ (#[.int .i64 ah, .int .i64 au, .int .i64 ak, .int .i64 aj, .slice aJ af.length aI]) 24 ?_; intro gb120 hg w25 nQ _ HB hb; clear hb hg; obtain ⟨EL, BS, EM, Jc, NK, _, _, _, _, _⟩ := bf nQ.out) | ((with_reducible refine az (f := 38) rfl ?_); refine aT (some 5) rfl rfl Tryd.func38 (by kernel_rfl) rfl #[.agg #[.int .i64 ah, .int .i64 au, .int .i64 ak, .int .i64 aj, .slice aJ af.length aI]] rfl mp_ ?_; (with_reducible refine (dX.calls k ah au ak aj _ _ af t121 _ ?ax ?ay A2.out).mono ?_); (case ax => exact cb_ (Kd.aC bu.out HB.out)); (case ay => exact bT.out); rintro e w27 ⟨rfl, hb⟩; refine ⟨_, rfl, ?_⟩; replace nQ := kb_ nQ hb; replace HB := aa.mk (av bl_ hb); obtain ⟨BU, xX, EN, EO, EP, _, _, _, _, _⟩ := bf nQ.out) | ((with_reducible refine az (f := 39) rfl ?_); refine aT (some 8) rfl rfl Tryd.func39 (by kernel_rfl) rfl #[.agg #[.int .i64 ah, .int .i64 au, .int .i64 ak, .int .i64 aj, .slice aJ af.length aI]] rfl mp_ ?_; (with_reducible refine (bC.calls k ah au ak aj _ _ af t122 _ ?ax ?ay A7.out).mono ?_); (case ax => exact cb_ (Kd.aC bu.out HB.out)); (case ay => exact bT.out); rintro e w29 ⟨rfl, hb⟩; refine ⟨_, rfl, ?_⟩; replace HB := aa.mk (av bl_ hb)))
   go_ret; exact ⟨re_, bl_⟩


/-! ### eU: function 76 -/
def eU.f (k : Nat) (ah : Int) (au : Int) (ak : Int) (aj : Int) (af : List (S24)) : Option (Int) := (gP.f k ah au ak aj af).bind fun t784 => (if t784 = 0 then (if ah = 4 then (some 8) else (some 0)) else (some t784))
theorem eU.mono : ∀ a0 a1 a2 a3 a4 k, LeO (eU.f k a0 a1 a2 a3 a4) (eU.f (k + 1) a0 a1 a2 a3 a4) := by
 intro a0 a1 a2 a3 a4 k; unfold eU.f; have m0 := @gP.mono; exact mo_
set_option maxHeartbeats 8000000 in
set_option maxRecDepth 100000 in
theorem eU.calls (k : Nat) (ah : Int) (au : Int) (ak : Int) (aj : Int) (aJ : Option Addr) (aI : Nat) (af : List (S24)) (r : Int) (w : World) (dz : Kd.C k24 w aJ af.length af) (dL : af.length ≤ aI) (h : eU.f k ah au ak aj af = some r) :
  Calls Tryd.prog 76 #[.agg #[.int .i64 ah, .int .i64 au, .int .i64 ak, .int .i64 aj, .slice aJ af.length aI]] w fun e w' => e = .returned (.int .i64 r) ∧ Below w.heap.size w w' := by
 have bu := aa.mk dz; have bT := aa.mk dL; clear dz dL; have HB := aa.mk (Below.refl w.heap.size w); have H := h; unfold eU.f at H; clear h; replace H := Option.bind_eq_some_iff.mp H; obtain ⟨t784, A20, H⟩ := H; have A2 := aa.mk A20; clear A20; by_cases c3 : t784 = 0
 ·rw [if_pos c3] at H; obtain ⟨kS, mh⟩ := bq_ c3; clear c3; by_cases c4 : ah = 4
  ·rw [if_pos c4] at H; obtain ⟨lu, pI⟩ := bq_ c4; clear c4; obtain rfl := Option.some.inj H; go_enter Tryd.func76, Tryd.ntmps76; go_wp2_with (first | ((with_reducible refine aD (N := 1) rfl ?_); refine bx_ (#[.int .i64 ah, .int .i64 au, .int .i64 ak, .int .i64 aj, .slice aJ af.length aI]) 24 ?_; intro gb783 hg w5 yw _ HB hb; clear hb hg; obtain ⟨hcz6_0, LK, hcz6_2, hcz6_3, LM, _, _, _, _, _⟩ := bf yw.out) | ((with_reducible refine az (f := 12) rfl ?_); refine aT (some 5) rfl rfl Tryd.func12 (by kernel_rfl) rfl #[.agg #[.int .i64 ah, .int .i64 au, .int .i64 ak, .int .i64 aj, .slice aJ af.length aI]] rfl mp_ ?_; (with_reducible refine (gP.calls k ah au ak aj _ _ af t784 _ ?ax ?ay A2.out).mono ?_); (case ax => exact cb_ (Kd.aC bu.out HB.out)); (case ay => exact bT.out); rintro e w7 ⟨rfl, hb⟩; refine ⟨_, rfl, ?_⟩; replace yw := kb_ yw hb; replace HB := aa.mk (av bl_ hb); obtain ⟨AU, _, _, _, _, _, _, _, _, _⟩ := bf yw.out))
   go_ret; exact ⟨re_, bl_⟩
  ·rw [if_neg c4] at H; obtain ⟨lu, pI⟩ := bn_ c4; obtain rfl := Option.some.inj H; go_enter Tryd.func76, Tryd.ntmps76; go_wp2_with (first | ((with_reducible refine aD (N := 1) rfl ?_); refine bx_ (#[.int .i64 ah, .int .i64 au, .int .i64 ak, .int .i64 aj, .slice aJ af.length aI]) 24 ?_; intro gb783 hg w9 yw _ HB hb; clear hb hg; obtain ⟨qH, rO, zh, El, Em, _, _, _, _, _⟩ := bf yw.out) | ((with_reducible refine az (f := 12) rfl ?_); refine aT (some 5) rfl rfl Tryd.func12 (by kernel_rfl) rfl #[.agg #[.int .i64 ah, .int .i64 au, .int .i64 ak, .int .i64 aj, .slice aJ af.length aI]] rfl mp_ ?_; (with_reducible refine (gP.calls k ah au ak aj _ _ af t784 _ ?ax ?ay A2.out).mono ?_); (case ax => exact cb_ (Kd.aC bu.out HB.out)); (case ay => exact bT.out); rintro e w11 ⟨rfl, hb⟩; refine ⟨_, rfl, ?_⟩; replace yw := kb_ yw hb; replace HB := aa.mk (av bl_ hb); obtain ⟨p9, _, _, _, _, _, _, _, _, _⟩ := bf yw.out))
   go_ret; exact ⟨re_, bl_⟩
 ·rw [if_neg c3] at H; obtain ⟨kS, mh⟩ := bn_ c3; obtain rfl := Option.some.inj H; go_enter Tryd.func76, Tryd.ntmps76; go_wp2_with (first | ((with_reducible refine aD (N := 1) rfl ?_); refine bx_ (#[.int .i64 ah, .int .i64 au, .int .i64 ak, .int .i64 aj, .slice aJ af.length aI]) 24 ?_; intro gb783 hg w13 yw _ HB hb; clear hb hg; obtain ⟨xQ, zi, En, zk, xR, _, _, _, _, _⟩ := bf yw.out) | ((with_reducible refine az (f := 12) rfl ?_); refine aT (some 5) rfl rfl Tryd.func12 (by kernel_rfl) rfl #[.agg #[.int .i64 ah, .int .i64 au, .int .i64 ak, .int .i64 aj, .slice aJ af.length aI]] rfl mp_ ?_; (with_reducible refine (gP.calls k ah au ak aj _ _ af t784 _ ?ax ?ay A2.out).mono ?_); (case ax => exact cb_ (Kd.aC bu.out HB.out)); (case ay => exact bT.out); rintro e w15 ⟨rfl, hb⟩; refine ⟨_, rfl, ?_⟩; replace HB := aa.mk (av bl_ hb)))
  go_ret; exact ⟨re_, bl_⟩


/-! ### dH: function 45 -/
mutual
def dH.l0 : Nat → Int → Int → Int → Int → Int → Int → Int → List (S24) → Option (Int)
 | 0, _, _, _, _, _, _, _, _ => none
 | k + 1, x1, x5, x6, x279000, x279001, x279002, x279003, zw => if x6 < (zw.length : Int) then (if 0 ≤ x6 then ((dH.f k ((ag zw x6).f0) ((ag zw x6).f1) ((ag zw x6).f2) ((ag zw x6).f3) ((ag zw x6).f4) (wrap64 (x1 - 1))).bind fun t280 => (dH.l0 k x1 (mx x5 t280) (wrap64 (x6 + 1)) x279000 x279001 x279002 x279003 zw)) else (none)) else (some (mn (wrap64 (x5 + 1)) x1))
def dH.f : Nat → Int → Int → Int → Int → List (S24) → Int → Option (Int)
 | 0, _, _, _, _, _, _ => none
 | k + 1, ah, au, ak, aj, af, a1 => if a1 > 1 then (dH.l0 k a1 0 0 ah au ak aj af) else (if (af.length : Int) > 0 then (some a1) else (some (mn (0 + 1) a1)))
end
set_option maxHeartbeats 8000000 in
set_option maxRecDepth 100000 in
theorem dH.calls (k : Nat) : ∀ (ah : Int) (au : Int) (ak : Int) (aj : Int) (aJ : Option Addr) (aI : Nat) (af : List (S24)) (a1 : Int) (r : Int) (w : World) (dz : Kd.C k24 w aJ af.length af) (dL : af.length ≤ aI) (h : dH.f k ah au ak aj af a1 = some r),
  Calls Tryd.prog 45 #[.agg #[.int .i64 ah, .int .i64 au, .int .i64 ak, .int .i64 aj, .slice aJ af.length aI], .int .i64 a1] w fun e w' => e = .returned (.int .i64 r) ∧ Below w.heap.size w w' := by
 induction k using Nat.strongRecOn with
 | _ k ih =>
 intro ah au ak aj aJ aI af a1 r w dz dL h; cases k with
 | zero => exact absurd h (by simp [dH.f])
 | succ k =>
 simp only [dH.f] at h; have bu := aa.mk dz; clear dz dL; have HB := aa.mk (Below.refl w.heap.size w); have H := h; unfold dH.f at H; clear h; by_cases c3 : a1 > 1
 ·rw [if_pos c3] at H; have kS : decide (1 < a1) = true := decide_eq_true c3; clear c3; have H' := aa.mk H; clear H; go_enter Tryd.func45, Tryd.ntmps45; go_wp2_with (((with_reducible refine aD (N := 2) rfl ?_); refine bx_ (#[.int .i64 ah, .int .i64 au, .int .i64 ak, .int .i64 aj, .slice aJ af.length aI]) 24 ?_; intro gb278 hg w4 Bw _ HB hb; clear hb hg))
  go_loopg [5, 6] k (fun kq v5 v6 w' => ∃ (bZ : Int) (eG : Int), v5 = .int .i64 bZ ∧ v6 = .int .i64 eG ∧ aa (dH.l0 kq a1 bZ eG ah au ak aj af = some r) ∧ aa (kq ≤ k) ∧ aa (w'.heap[gb278]? = some (.cells #[.int .i64 ah, .int .i64 au, .int .i64 ak, .int .i64 aj, (.slice aJ af.length aI)] 24 (0, 0))) ∧ aa (Below w.heap.size w w'))
  case atStart => exact ⟨(0), (0), rs_, rs_, H', ⟨Nat.le_refl _⟩, ⟨bk_⟩, ⟨bl_⟩⟩
  case round =>
   clear H'; obtain ⟨bZ, eG, rfl, rfl, HA, HK1, Bw, HB⟩ := hrel; cases gk with
   | zero => exact absurd HA.out (by simp [dH.l0])
   | succ k1 =>
    have H := HA.out; clear HA; simp only [dH.l0] at H; by_cases c5 : eG < (af.length : Int)
    ·rw [if_pos c5] at H; have oV := decide_eq_true c5; clear c5; by_cases c6 : 0 ≤ eG
     ·rw [if_pos c6] at H; have wI := decide_eq_true c6; clear c6; replace H := Option.bind_eq_some_iff.mp H; obtain ⟨t280, A70, H⟩ := H; have A7 := aa.mk A70; clear A70; obtain ⟨ji8, hji8⟩ : ∃ j_ : Int, (mx bZ t280) = j_ := ⟨_, rfl⟩; replace H : (dH.l0 k1 a1 ji8 (wrap64 (eG + 1)) ah au ak aj af) = some r := by (rw [hji8] at H; exact H)
      have hji8_ : (if bZ < t280 then t280 else bZ) = ji8 := hji8; have H' := aa.mk H; clear H; obtain ⟨_, _, _, _, Cv, _, _, _, _, _⟩ := bf Bw.out; have p279 : 0 ≤ (eG : Int) := dt_; have q279 : eG < (af.length : Int) := dt_; obtain ⟨ad279, A279_4, c279_4, e279, Si, Sj, Sk, Sl, Sm, Sn, Sq⟩ := fC bu.out eG p279 q279; cases e279; replace Si := hc_ HB Si; replace Sj := hc_ HB Sj; replace Sk := hc_ HB Sk; replace Sl := hc_ HB Sl; replace Sm := hc_ HB Sm; have HR279_4 := aa.mk Sq; have HC279_4 := aa.mk Sn; clear Sq Sn; replace p279 := eq_true p279; replace q279 := eq_true q279; go_wp2_with (((with_reducible refine az (f := 45) rfl ?_); refine aT (some 24) rfl rfl Tryd.func45 (by kernel_rfl) rfl #[.agg #[.int .i64 ((ag af eG).f0), .int .i64 ((ag af eG).f1), .int .i64 ((ag af eG).f2), .int .i64 ((ag af eG).f3), .slice A279_4 ((ag af eG).f4).length c279_4], .int .i64 (wrap64 (a1 - 1))] rfl mp_ ?_; (with_reducible refine (ih k1 (by have := HK1.out; omega) ((ag af eG).f0) ((ag af eG).f1) ((ag af eG).f2) ((ag af eG).f3) _ _ ((ag af eG).f4) (wrap64 (a1 - 1)) t280 _ ?ax ?ay A7.out).mono ?_); (case ax => exact cb_ (Kd.aC HR279_4.out HB.out)); (case ay => exact HC279_4.out); rintro e w10 ⟨rfl, hb⟩; refine ⟨_, rfl, ?_⟩; replace Bw := kb_ Bw hb; replace HB := aa.mk (av bl_ hb)))
      go_roundg k1
      case measure => have := HK1.out; omega
      case rel => exact ⟨(ji8), (wrap64 (eG + 1)), (by rfl), rs_, H', ⟨by have := HK1.out; omega⟩, ⟨bk_⟩, ⟨bl_⟩⟩
     ·rw [if_neg c6] at H; exact absurd H (by simp)
    ·rw [if_neg c5] at H; have oV := decide_eq_false c5; clear c5; obtain ⟨ji11, hji11⟩ : ∃ j_ : Int, (mn (wrap64 (bZ + 1)) a1) = j_ := ⟨_, rfl⟩; replace H : (some ji11) = some r := by (rw [hji11] at H; exact H)
     have hji11_ : (if a1 < (wrap64 (bZ + 1)) then a1 else (wrap64 (bZ + 1))) = ji11 := hji11; obtain rfl := Option.some.inj H; obtain ⟨_, _, _, _, zt, _, _, _, _, _⟩ := bf Bw.out; go_wp2; all_goals go_ret
     all_goals exact ⟨by rfl, bl_⟩
 ·rw [if_neg c3] at H; have kS : decide (1 < a1) = false := decide_eq_false c3; clear c3; by_cases c13 : (af.length : Int) > 0
  ·rw [if_pos c13] at H; have LJ : decide (0 < af.length) = true := decide_eq_true (by omega); clear c13; obtain rfl := Option.some.inj H; go_enter Tryd.func45, Tryd.ntmps45; go_wp2_with (((with_reducible refine aD (N := 2) rfl ?_); refine bx_ (#[.int .i64 ah, .int .i64 au, .int .i64 ak, .int .i64 aj, .slice aJ af.length aI]) 24 ?_; intro gb278 hg w14 Bw _ HB hb; clear hb hg; obtain ⟨_, _, _, _, Sr, _, _, _, _, _⟩ := bf Bw.out))
   go_ret; exact ⟨re_, bl_⟩
  ·rw [if_neg c13] at H; have LJ : decide (0 < af.length) = false := decide_eq_false (by omega); clear c13; obtain ⟨ji16, hji16⟩ : ∃ j_ : Int, (mn (0 + 1) a1) = j_ := ⟨_, rfl⟩; replace H : (some ji16) = some r := by (rw [hji16] at H; exact H)
   (try (skip))
   (try (skip))
   obtain rfl := Option.some.inj H; go_enter Tryd.func45, Tryd.ntmps45; go_wp2_with (((with_reducible refine aD (N := 2) rfl ?_); refine bx_ (#[.int .i64 ah, .int .i64 au, .int .i64 ak, .int .i64 aj, .slice aJ af.length aI]) 24 ?_; intro gb278 hg w17 Bw _ HB hb; clear hb hg; obtain ⟨_, _, _, _, xV, _, _, _, _, _⟩ := bf Bw.out))
   all_goals go_ret
   all_goals exact ⟨by (simp; rw [← hji16]; (unfold mn); split <;> omega), bl_⟩


/-! ### aK: function 46 -/
mutual
def aK.j0 : Nat → Int → Bool → Int → Int → Int → Int → List (S24) → Option (Int)
 | 0, _, _, _, _, _, _, _ => none
 | k + 1, x3, x14, kR, jX, jY, jP, gm => if x14 = true then (some 14) else (if x3 = 2 then (if x3 = 6 then (if x3 < 5 then (aK.j1 k x3 (decide ((gm.length : Int) > 0)) kR jX jY jP gm) else (aK.j1 k x3 false kR jX jY jP gm)) else (if jP = 0 then (if x3 < 5 then (aK.j1 k x3 (decide ((gm.length : Int) > 0)) kR jX jY jP gm) else (aK.j1 k x3 false kR jX jY jP gm)) else (aK.j1 k x3 true kR jX jY jP gm))) else (if jX = 0 then (if jY = 0 then (if x3 = 6 then (if x3 < 5 then (aK.j1 k x3 (decide ((gm.length : Int) > 0)) kR jX jY jP gm) else (aK.j1 k x3 false kR jX jY jP gm)) else (if jP = 0 then (if x3 < 5 then (aK.j1 k x3 (decide ((gm.length : Int) > 0)) kR jX jY jP gm) else (aK.j1 k x3 false kR jX jY jP gm)) else (aK.j1 k x3 true kR jX jY jP gm))) else (aK.j1 k x3 true kR jX jY jP gm)) else (aK.j1 k x3 true kR jX jY jP gm)))
def aK.j1 : Nat → Int → Bool → Int → Int → Int → Int → List (S24) → Option (Int)
 | 0, _, _, _, _, _, _, _ => none
 | k + 1, x3, x45, kR, jX, jY, jP, gm => if x45 = true then (some 2) else (if x3 = 2 then (if jX < (-1000) then (some 1) else (if jX > jY then (some 1) else (if jY > 1000 then (some 1) else (some 0)))) else (if x3 = 5 then (if (gm.length : Int) < 2 then (aK.j2 k true kR jX jY jP gm) else (aK.j2 k (decide ((gm.length : Int) > 4)) kR jX jY jP gm)) else (if x3 = 6 then (if jP < 1 then (aK.j4 k true kR jX jY jP gm) else (aK.j4 k (decide (jP > 4)) kR jX jY jP gm)) else (some 0))))
def aK.j2 : Nat → Bool → Int → Int → Int → Int → List (S24) → Option (Int)
 | 0, _, _, _, _, _, _ => none
 | k + 1, x75, kR, jX, jY, jP, gm => if x75 = true then (some 1) else (aK.l0 k 0 kR jX jY jP gm)
def aK.l0 : Nat → Int → Int → Int → Int → Int → List (S24) → Option (Int)
 | 0, _, _, _, _, _, _ => none
 | k + 1, x4, kR, jX, jY, jP, gm => if x4 < (gm.length : Int) then (if 0 ≤ x4 then ((aK.f k ((ag gm x4).f0) ((ag gm x4).f1) ((ag gm x4).f2) ((ag gm x4).f3) ((ag gm x4).f4)).bind fun t283 => (if t283 = 0 then (if ((ag gm x4).f0) = 3 then (some 8) else (if ((ag gm x4).f0) = 4 then (some 8) else (aK.l0 k (wrap64 (x4 + 1)) kR jX jY jP gm))) else (some t283))) else (none)) else (some 0)
def aK.j4 : Nat → Bool → Int → Int → Int → Int → List (S24) → Option (Int)
 | 0, _, _, _, _, _, _ => none
 | k + 1, x117, kR, jX, jY, jP, gm => if x117 = true then (some 1) else (if (gm.length : Int) = 1 then (if 0 < (gm.length : Int) then ((aK.f k ((ag gm 0).f0) ((ag gm 0).f1) ((ag gm 0).f2) ((ag gm 0).f3) ((ag gm 0).f4)).bind fun t287 => (if t287 = 0 then (if ((ag gm 0).f0) = 1 then (some 0) else (if ((ag gm 0).f0) = 2 then (some 0) else (some 8))) else (some t287))) else (none)) else (some 2))
def aK.f : Nat → Int → Int → Int → Int → List (S24) → Option (Int)
 | 0, _, _, _, _, _ => none
 | k + 1, ah, au, ak, aj, af => if ah < 1 then (aK.j0 k ah true ah au ak aj af) else (aK.j0 k ah (decide (ah > 6)) ah au ak aj af)
end
set_option maxHeartbeats 8000000 in
set_option maxRecDepth 100000 in
theorem aK.calls (k : Nat) : ∀ (ah : Int) (au : Int) (ak : Int) (aj : Int) (aJ : Option Addr) (aI : Nat) (af : List (S24)) (r : Int) (w : World) (dz : Kd.C k24 w aJ af.length af) (dL : af.length ≤ aI) (h : aK.f k ah au ak aj af = some r),
  Calls Tryd.prog 46 #[.agg #[.int .i64 ah, .int .i64 au, .int .i64 ak, .int .i64 aj, .slice aJ af.length aI]] w fun e w' => e = .returned (.int .i64 r) ∧ Below w.heap.size w w' := by
 induction k using Nat.strongRecOn with
 | _ k ih =>
 intro ah au ak aj aJ aI af r w dz dL h; cases k with
 | zero => exact absurd h (by simp [aK.f])
 | succ k =>
 simp only [aK.f] at h; have bu := aa.mk dz; clear dz dL; have HB := aa.mk (Below.refl w.heap.size w); have H := h; unfold aK.f at H; clear h; have HC2 := aa.mk H; clear H; go_enter Tryd.func46, Tryd.ntmps46; go_upto_region 2 with (((with_reducible refine aD (N := 1) rfl ?_); (try (refine dh (by rfl) ?_; dsimp only)); refine bx_ (#[.int .i64 ah, .int .i64 au, .int .i64 ak, .int .i64 aj, .slice aJ af.length aI]) 24 ?_; intro LP hg w3 gZ _ HB hb; clear hb hg; obtain ⟨hcz4_0, _, _, _, _, _, _, _, _, _⟩ := bf gZ.out))
 go_cut [14] (fun v14 wc => ∃ (kq : Nat) (x14_1 : Bool), v14 = .bool x14_1 ∧ aa (aK.j0 kq ah x14_1 ah au ak aj af = some r) ∧ aa (kq ≤ k) ∧ aa (wc.heap[LP]? = some (.cells #[.int .i64 ah, .int .i64 au, .int .i64 ak, .int .i64 aj, (.slice aJ af.length aI)] 24 (0, 0))) ∧ aa (Below w.heap.size w wc))
 case first =>
  have H := HC2.out; clear HC2; by_cases c5 : ah < 1
  ·rw [if_pos c5] at H; have oV := decide_eq_true c5; clear c5; (skip); have H' := aa.mk H; clear H; go_wp2; go_meet
   case rel => exact ⟨_, (true), rs_, H', ⟨by omega⟩, ⟨bk_⟩, ⟨bl_⟩⟩
  ·rw [if_neg c5] at H; have oV := decide_eq_false c5; clear c5; (skip); have H' := aa.mk H; clear H; go_wp2; go_meet
   case rel => exact ⟨_, (decide (ah > 6)), rs_, H', ⟨by omega⟩, ⟨bk_⟩, ⟨bl_⟩⟩
 case rest =>
  clear HC2; obtain ⟨kq, x14_1, rfl, HA, HJ1, gZ, HB⟩ := hcut; cases kq with
  | zero => exact absurd HA.out (by simp [aK.j0])
  | succ kj1 =>
   have H := HA.out; clear HA; simp only [aK.j0] at H; by_cases c6 : x14_1 = true
   ·subst c6; rw [if_pos rfl] at H; obtain rfl := Option.some.inj H; go_wp2; go_ret; exact ⟨re_, bl_⟩
   ·replace c6 := Bool.eq_false_iff.mpr c6; subst c6; rw [if_neg (show ¬ (false = true) by decide)] at H; have HC7 := aa.mk H; clear H; go_upto_region 4 with (fail)
    go_cut [45] (fun v45 wc => ∃ (kq : Nat) (x45_6 : Bool), v45 = .bool x45_6 ∧ aa (aK.j1 kq ah x45_6 ah au ak aj af = some r) ∧ aa (kq ≤ kj1) ∧ aa (wc.heap[LP]? = some (.cells #[.int .i64 ah, .int .i64 au, .int .i64 ak, .int .i64 aj, (.slice aJ af.length aI)] 24 (0, 0))) ∧ aa (Below w.heap.size w wc))
    case first =>
     have H := HC7.out; clear HC7; by_cases c8 : ah = 2
     ·rw [if_pos c8] at H; obtain ⟨rJ, Bi⟩ := bq_ c8; clear c8; (skip); by_cases c9 : ah = 6
      ·rw [if_pos c9] at H; obtain ⟨pF, Cs⟩ := bq_ c9; clear c9; by_cases c10 : ah < 5
       ·rw [if_pos c10] at H; have pG := decide_eq_true c10; clear c10; have H' := aa.mk H; clear H; obtain ⟨_, _, _, _, I1, _, _, _, _, _⟩ := bf gZ.out; go_wp2; go_meet
        case rel => exact ⟨_, (decide ((af.length : Int) > 0)), rs_, H', ⟨by have := HJ1.out; omega⟩, ⟨bk_⟩, ⟨bl_⟩⟩
       ·rw [if_neg c10] at H; have pG := decide_eq_false c10; clear c10; have H' := aa.mk H; clear H; go_wp2; go_meet
        case rel => exact ⟨_, (false), rs_, H', ⟨by have := HJ1.out; omega⟩, ⟨bk_⟩, ⟨bl_⟩⟩
      ·rw [if_neg c9] at H; obtain ⟨pF, Cs⟩ := bn_ c9; by_cases c12 : aj = 0
       ·rw [if_pos c12] at H; obtain ⟨DK, Gf⟩ := bq_ c12; clear c12; by_cases c13 : ah < 5
        ·rw [if_pos c13] at H; have Gg := decide_eq_true c13; clear c13; have H' := aa.mk H; clear H; obtain ⟨_, _, _, zk, xR, _, _, _, _, _⟩ := bf gZ.out; go_wp2; go_meet
         case rel => exact ⟨_, (decide ((af.length : Int) > 0)), rs_, H', ⟨by have := HJ1.out; omega⟩, ⟨bk_⟩, ⟨bl_⟩⟩
        ·rw [if_neg c13] at H; have Gg := decide_eq_false c13; clear c13; have H' := aa.mk H; clear H; obtain ⟨_, _, _, hcz15_3, _, _, _, _, _, _⟩ := bf gZ.out; go_wp2; go_meet
         case rel => exact ⟨_, (false), rs_, H', ⟨by have := HJ1.out; omega⟩, ⟨bk_⟩, ⟨bl_⟩⟩
       ·rw [if_neg c12] at H; obtain ⟨DK, Gf⟩ := bn_ c12; have H' := aa.mk H; clear H; obtain ⟨_, _, _, BR, _, _, _, _, _, _⟩ := bf gZ.out; go_wp2; go_meet
        case rel => exact ⟨_, (true), rs_, H', ⟨by have := HJ1.out; omega⟩, ⟨bk_⟩, ⟨bl_⟩⟩
     ·rw [if_neg c8] at H; obtain ⟨rJ, Bi⟩ := bn_ c8; (skip); by_cases c17 : au = 0
      ·rw [if_pos c17] at H; obtain ⟨Gh, c17b1⟩ := bq_ c17; clear c17; by_cases c18 : ak = 0
       ·rw [if_pos c18] at H; obtain ⟨c18b0, c18b1⟩ := bq_ c18; clear c18; by_cases c19 : ah = 6
        ·rw [if_pos c19] at H; obtain ⟨LQ, c19b1⟩ := bq_ c19; clear c19; by_cases c20 : ah < 5
         ·rw [if_pos c20] at H; have Ao := decide_eq_true c20; clear c20; have H' := aa.mk H; clear H; obtain ⟨_, EK, Jb, _, NH, _, _, _, _, _⟩ := bf gZ.out; go_wp2; go_meet
          case rel => exact ⟨_, (decide ((af.length : Int) > 0)), rs_, H', ⟨by have := HJ1.out; omega⟩, ⟨bk_⟩, ⟨bl_⟩⟩
         ·rw [if_neg c20] at H; have Ao := decide_eq_false c20; clear c20; have H' := aa.mk H; clear H; obtain ⟨_, zf, Nn, _, _, _, _, _, _, _⟩ := bf gZ.out; go_wp2; go_meet
          case rel => exact ⟨_, (false), rs_, H', ⟨by have := HJ1.out; omega⟩, ⟨bk_⟩, ⟨bl_⟩⟩
        ·rw [if_neg c19] at H; obtain ⟨LQ, c19b1⟩ := bn_ c19; by_cases c23 : aj = 0
         ·rw [if_pos c23] at H; obtain ⟨Lv, c23b1⟩ := bq_ c23; clear c23; by_cases c24 : ah < 5
          ·rw [if_pos c24] at H; have Al := decide_eq_true c24; clear c24; have H' := aa.mk H; clear H; obtain ⟨_, hcz25_1, hcz25_2, hcz25_3, hcz25_4, _, _, _, _, _⟩ := bf gZ.out; go_wp2; go_meet
           case rel => exact ⟨_, (decide ((af.length : Int) > 0)), rs_, H', ⟨by have := HJ1.out; omega⟩, ⟨bk_⟩, ⟨bl_⟩⟩
          ·rw [if_neg c24] at H; have Al := decide_eq_false c24; clear c24; have H' := aa.mk H; clear H; obtain ⟨_, BS, EM, Jc, _, _, _, _, _, _⟩ := bf gZ.out; go_wp2; go_meet
           case rel => exact ⟨_, (false), rs_, H', ⟨by have := HJ1.out; omega⟩, ⟨bk_⟩, ⟨bl_⟩⟩
         ·rw [if_neg c23] at H; obtain ⟨Lv, c23b1⟩ := bn_ c23; have H' := aa.mk H; clear H; obtain ⟨_, RH, RI, hcz27_3, _, _, _, _, _, _⟩ := bf gZ.out; go_wp2; go_meet
          case rel => exact ⟨_, (true), rs_, H', ⟨by have := HJ1.out; omega⟩, ⟨bk_⟩, ⟨bl_⟩⟩
       ·rw [if_neg c18] at H; obtain ⟨c18b0, c18b1⟩ := bn_ c18; have H' := aa.mk H; clear H; obtain ⟨_, xX, EN, _, _, _, _, _, _, _⟩ := bf gZ.out; go_wp2; go_meet
        case rel => exact ⟨_, (true), rs_, H', ⟨by have := HJ1.out; omega⟩, ⟨bk_⟩, ⟨bl_⟩⟩
      ·rw [if_neg c17] at H; obtain ⟨Gh, c17b1⟩ := bn_ c17; have H' := aa.mk H; clear H; obtain ⟨_, zg, _, _, _, _, _, _, _, _⟩ := bf gZ.out; go_wp2; go_meet
       case rel => exact ⟨_, (true), rs_, H', ⟨by have := HJ1.out; omega⟩, ⟨bk_⟩, ⟨bl_⟩⟩
    case rest =>
     clear HC7; obtain ⟨kq, x45_6, rfl, HA, HJ6, gZ, HB⟩ := hcut; cases kq with
     | zero => exact absurd HA.out (by simp [aK.j1])
     | succ kj6 =>
      have H := HA.out; clear HA; simp only [aK.j1] at H; by_cases c30 : x45_6 = true
      ·subst c30; rw [if_pos rfl] at H; obtain rfl := Option.some.inj H; go_wp2; go_ret; exact ⟨re_, bl_⟩
      ·replace c30 := Bool.eq_false_iff.mpr c30; subst c30; rw [if_neg (show ¬ (false = true) by decide)] at H; by_cases c31 : ah = 2
       ·rw [if_pos c31] at H; obtain ⟨c31b0, c31b1⟩ := bq_ c31; clear c31; by_cases c32 : au < (-1000)
        ·rw [if_pos c32] at H; have c32b0 := decide_eq_true c32; clear c32; obtain rfl := Option.some.inj H; obtain ⟨_, Ej, _, _, _, _, _, _, _, _⟩ := bf gZ.out; go_wp2; go_ret; exact ⟨re_, bl_⟩
        ·rw [if_neg c32] at H; have c32b0 := decide_eq_false c32; clear c32; by_cases c34 : au > ak
         ·rw [if_pos c34] at H; have c34b0 : decide (ak < au) = true := decide_eq_true c34; clear c34; obtain rfl := Option.some.inj H; obtain ⟨_, Jd, Su, _, _, _, _, _, _, _⟩ := bf gZ.out; go_wp2; go_ret; exact ⟨re_, bl_⟩
         ·rw [if_neg c34] at H; have c34b0 : decide (ak < au) = false := decide_eq_false c34; clear c34; by_cases c36 : ak > 1000
          ·rw [if_pos c36] at H; have Je : decide (1000 < ak) = true := decide_eq_true c36; clear c36; obtain rfl := Option.some.inj H; obtain ⟨_, ER, ES, _, _, _, _, _, _, _⟩ := bf gZ.out; go_wp2; go_ret; exact ⟨re_, bl_⟩
          ·rw [if_neg c36] at H; have Je : decide (1000 < ak) = false := decide_eq_false c36; clear c36; obtain rfl := Option.some.inj H; obtain ⟨_, ET, hcz38_2, _, _, _, _, _, _, _⟩ := bf gZ.out; go_wp2; go_ret; exact ⟨re_, bl_⟩
       ·rw [if_neg c31] at H; obtain ⟨c31b0, c31b1⟩ := bn_ c31; by_cases c39 : ah = 5
        ·rw [if_pos c39] at H; obtain ⟨c39b0, c39b1⟩ := bq_ c39; clear c39; have HC40 := aa.mk H; clear H; go_upto_region 11 with (fail)
         go_cut [75] (fun v75 wc => ∃ (kq : Nat) (LU : Bool), v75 = .bool LU ∧ aa (aK.j2 kq LU ah au ak aj af = some r) ∧ aa (kq ≤ kj6) ∧ aa (wc.heap[LP]? = some (.cells #[.int .i64 ah, .int .i64 au, .int .i64 ak, .int .i64 aj, (.slice aJ af.length aI)] 24 (0, 0))) ∧ aa (Below w.heap.size w wc))
         case first =>
          have H := HC40.out; clear HC40; by_cases c41 : (af.length : Int) < 2
          ·rw [if_pos c41] at H; have c41b0 := decide_eq_true c41; clear c41; (skip); have H' := aa.mk H; clear H; obtain ⟨_, _, _, _, Sv, _, _, _, _, _⟩ := bf gZ.out; go_wp2; go_meet
           case rel => exact ⟨_, (true), rs_, H', ⟨by have := HJ1.out; have := HJ6.out; omega⟩, ⟨bk_⟩, ⟨bl_⟩⟩
          ·rw [if_neg c41] at H; have c41b0 := decide_eq_false c41; clear c41; (skip); have H' := aa.mk H; clear H; obtain ⟨_, _, _, _, hcz43_4, _, _, _, _, _⟩ := bf gZ.out; go_wp2; go_meet
           case rel => exact ⟨_, (decide ((af.length : Int) > 4)), rs_, H', ⟨by have := HJ1.out; have := HJ6.out; omega⟩, ⟨bk_⟩, ⟨bl_⟩⟩
         case rest =>
          clear HC40; obtain ⟨kq, LU, rfl, HA, HJ39, gZ, HB⟩ := hcut; cases kq with
          | zero => exact absurd HA.out (by simp [aK.j2])
          | succ kj39 =>
           have H := HA.out; clear HA; simp only [aK.j2] at H; by_cases c44 : LU = true
           ·subst c44; rw [if_pos rfl] at H; obtain rfl := Option.some.inj H; go_wp2; go_ret; exact ⟨re_, bl_⟩
           ·replace c44 := Bool.eq_false_iff.mpr c44; subst c44; rw [if_neg (show ¬ (false = true) by decide)] at H; have H' := aa.mk H; clear H; go_wp2; go_loopg [4] kj39 (fun kq v4 w' => ∃ (gG : Int), v4 = .int .i64 gG ∧ aa (aK.l0 kq gG ah au ak aj af = some r) ∧ aa (kq ≤ kj39) ∧ aa (w'.heap[LP]? = some (.cells #[.int .i64 ah, .int .i64 au, .int .i64 ak, .int .i64 aj, (.slice aJ af.length aI)] 24 (0, 0))) ∧ aa (Below w.heap.size w w'))
            case atStart => exact ⟨(0), rs_, H', ⟨Nat.le_refl _⟩, ⟨bk_⟩, ⟨bl_⟩⟩
            case round =>
             clear H'; obtain ⟨gG, rfl, HA, HK4, gZ, HB⟩ := hrel; cases gk with
             | zero => exact absurd HA.out (by simp [aK.l0])
             | succ k4 =>
              have H := HA.out; clear HA; simp only [aK.l0] at H; by_cases c45 : gG < (af.length : Int)
              ·rw [if_pos c45] at H; have c45b0 := decide_eq_true c45; clear c45; by_cases c46 : 0 ≤ gG
               ·rw [if_pos c46] at H; have c46b0 := decide_eq_true c46; clear c46; replace H := Option.bind_eq_some_iff.mp H; obtain ⟨t283, A470, H⟩ := H; have A47 := aa.mk A470; clear A470; by_cases c48 : t283 = 0
                ·rw [if_pos c48] at H; obtain ⟨c48b0, c48b1⟩ := bq_ c48; clear c48; by_cases c49 : ((ag af gG).f0) = 3
                 ·rw [if_pos c49] at H; obtain ⟨LF, c49b1⟩ := bq_ c49; clear c49; obtain rfl := Option.some.inj H; obtain ⟨_, _, _, _, Sw, _, _, _, _, _⟩ := bf gZ.out; have xx : 0 ≤ (gG : Int) := dt_; have xy : gG < (af.length : Int) := dt_; obtain ⟨DL, Cw, Cx, e282, sF, sG, sH, sI, sJ, sK, sM⟩ := fC bu.out gG xx xy; cases e282; replace sF := hc_ HB sF; replace sG := hc_ HB sG; replace sH := hc_ HB sH; replace sI := hc_ HB sI; replace sJ := hc_ HB sJ; have zx := aa.mk sM; have zy := aa.mk sK; clear sM sK; replace xx := eq_true xx; replace xy := eq_true xy; go_wp2_with (((with_reducible refine az (f := 46) rfl ?_); refine aT (some 88) rfl rfl Tryd.func46 (by kernel_rfl) rfl #[.agg #[.int .i64 ((ag af gG).f0), .int .i64 ((ag af gG).f1), .int .i64 ((ag af gG).f2), .int .i64 ((ag af gG).f3), .slice Cw ((ag af gG).f4).length Cx]] rfl mp_ ?_; (with_reducible refine (ih k4 (by have := HJ1.out; have := HJ6.out; have := HJ39.out; have := HK4.out; omega) ((ag af gG).f0) ((ag af gG).f1) ((ag af gG).f2) ((ag af gG).f3) _ _ ((ag af gG).f4) t283 _ ?ax ?ay A47.out).mono ?_); (case ax => exact cb_ (Kd.aC zx.out HB.out)); (case ay => exact zy.out); rintro e w51 ⟨rfl, hb⟩; refine ⟨_, rfl, ?_⟩; replace gZ := kb_ gZ hb; replace HB := aa.mk (av bl_ hb); obtain ⟨_, _, _, _, RP, _, _, _, _, _⟩ := bf gZ.out; have p284 : 0 ≤ (gG : Int) := dt_; have q284 : gG < (af.length : Int) := dt_; obtain ⟨LV, A284_4, c284_4, e284, xY, xZ, yc, yf, yg, EU, EW⟩ := fC bu.out gG p284 q284; obtain rfl : DL = LV := (by injection e284); replace xY := hc_ HB xY; replace xZ := hc_ HB xZ; replace yc := hc_ HB yc; replace yf := hc_ HB yf; clear EW EU))
                  go_ret; exact ⟨re_, bl_⟩
                 ·rw [if_neg c49] at H; obtain ⟨LF, c49b1⟩ := bn_ c49; by_cases c53 : ((ag af gG).f0) = 4
                  ·rw [if_pos c53] at H; obtain ⟨c53b0, c53b1⟩ := bq_ c53; clear c53; obtain rfl := Option.some.inj H; obtain ⟨_, _, _, _, hcz54_4, _, _, _, _, _⟩ := bf gZ.out; have xx : 0 ≤ (gG : Int) := dt_; have xy : gG < (af.length : Int) := dt_; obtain ⟨DL, Cw, Cx, e282, sF, sG, sH, sI, sJ, sK, sM⟩ := fC bu.out gG xx xy; cases e282; replace sF := hc_ HB sF; replace sG := hc_ HB sG; replace sH := hc_ HB sH; replace sI := hc_ HB sI; replace sJ := hc_ HB sJ; have zx := aa.mk sM; have zy := aa.mk sK; clear sM sK; replace xx := eq_true xx; replace xy := eq_true xy; go_wp2_with (((with_reducible refine az (f := 46) rfl ?_); refine aT (some 88) rfl rfl Tryd.func46 (by kernel_rfl) rfl #[.agg #[.int .i64 ((ag af gG).f0), .int .i64 ((ag af gG).f1), .int .i64 ((ag af gG).f2), .int .i64 ((ag af gG).f3), .slice Cw ((ag af gG).f4).length Cx]] rfl mp_ ?_; (with_reducible refine (ih k4 (by have := HJ1.out; have := HJ6.out; have := HJ39.out; have := HK4.out; omega) ((ag af gG).f0) ((ag af gG).f1) ((ag af gG).f2) ((ag af gG).f3) _ _ ((ag af gG).f4) t283 _ ?ax ?ay A47.out).mono ?_); (case ax => exact cb_ (Kd.aC zx.out HB.out)); (case ay => exact zy.out); rintro e w55 ⟨rfl, hb⟩; refine ⟨_, rfl, ?_⟩; replace gZ := kb_ gZ hb; replace HB := aa.mk (av bl_ hb); obtain ⟨_, _, _, _, hcz56_4, _, _, _, _, _⟩ := bf gZ.out; have p284 : 0 ≤ (gG : Int) := dt_; have q284 : gG < (af.length : Int) := dt_; obtain ⟨LV, A284_4, c284_4, e284, xY, xZ, yc, yf, yg, EU, EW⟩ := fC bu.out gG p284 q284; obtain rfl : DL = LV := (by injection e284); replace xY := hc_ HB xY; replace xZ := hc_ HB xZ; replace yc := hc_ HB yc; replace yf := hc_ HB yf; replace yg := hc_ HB yg; clear EW EU; have p285 : 0 ≤ (gG : Int) := dt_; have q285 : gG < (af.length : Int) := dt_; obtain ⟨ad285, A285_4, c285_4, e285, EX, EY, EZ, E5, zz, E8, E9⟩ := fC bu.out gG p285 q285; obtain rfl : DL = ad285 := (by injection e285); replace EX := hc_ HB EX; replace EY := hc_ HB EY; replace EZ := hc_ HB EZ; replace E5 := hc_ HB E5; replace zz := hc_ HB zz; have HR285_4 := aa.mk E9; have HC285_4 := aa.mk E8; clear E9 E8; have ea_ := Option.some.inj (yg.symm.trans zz); injection ea_ with ea_ en_ ec_; subst ea_; subst ec_; clear en_))
                   go_ret; exact ⟨re_, bl_⟩
                  ·rw [if_neg c53] at H; obtain ⟨c53b0, c53b1⟩ := bn_ c53; have H' := aa.mk H; clear H; obtain ⟨_, _, _, _, RV, _, _, _, _, _⟩ := bf gZ.out; have xx : 0 ≤ (gG : Int) := dt_; have xy : gG < (af.length : Int) := dt_; obtain ⟨DL, Cw, Cx, e282, sF, sG, sH, sI, sJ, sK, sM⟩ := fC bu.out gG xx xy; cases e282; replace sF := hc_ HB sF; replace sG := hc_ HB sG; replace sH := hc_ HB sH; replace sI := hc_ HB sI; replace sJ := hc_ HB sJ; have zx := aa.mk sM; have zy := aa.mk sK; clear sM sK; replace xx := eq_true xx; replace xy := eq_true xy; go_wp2_with (((with_reducible refine az (f := 46) rfl ?_); refine aT (some 88) rfl rfl Tryd.func46 (by kernel_rfl) rfl #[.agg #[.int .i64 ((ag af gG).f0), .int .i64 ((ag af gG).f1), .int .i64 ((ag af gG).f2), .int .i64 ((ag af gG).f3), .slice Cw ((ag af gG).f4).length Cx]] rfl mp_ ?_; (with_reducible refine (ih k4 (by have := HJ1.out; have := HJ6.out; have := HJ39.out; have := HK4.out; omega) ((ag af gG).f0) ((ag af gG).f1) ((ag af gG).f2) ((ag af gG).f3) _ _ ((ag af gG).f4) t283 _ ?ax ?ay A47.out).mono ?_); (case ax => exact cb_ (Kd.aC zx.out HB.out)); (case ay => exact zy.out); rintro e w58 ⟨rfl, hb⟩; refine ⟨_, rfl, ?_⟩; replace gZ := kb_ gZ hb; replace HB := aa.mk (av bl_ hb); obtain ⟨_, _, _, _, Sy, _, _, _, _, _⟩ := bf gZ.out; have p284 : 0 ≤ (gG : Int) := dt_; have q284 : gG < (af.length : Int) := dt_; obtain ⟨LV, A284_4, c284_4, e284, xY, xZ, yc, yf, yg, EU, EW⟩ := fC bu.out gG p284 q284; obtain rfl : DL = LV := (by injection e284); replace xY := hc_ HB xY; replace xZ := hc_ HB xZ; replace yc := hc_ HB yc; replace yf := hc_ HB yf; replace yg := hc_ HB yg; clear EW EU; have p285 : 0 ≤ (gG : Int) := dt_; have q285 : gG < (af.length : Int) := dt_; obtain ⟨ad285, A285_4, c285_4, e285, EX, EY, EZ, E5, zz, E8, E9⟩ := fC bu.out gG p285 q285; obtain rfl : DL = ad285 := (by injection e285); replace EX := hc_ HB EX; replace EY := hc_ HB EY; replace EZ := hc_ HB EZ; replace E5 := hc_ HB E5; replace zz := hc_ HB zz; have HR285_4 := aa.mk E9; have HC285_4 := aa.mk E8; clear E9 E8; have ea_ := Option.some.inj (yg.symm.trans zz); injection ea_ with ea_ en_ ec_; subst ea_; subst ec_; clear en_))
                   go_roundg k4
                   case measure => have := HJ1.out; have := HJ6.out; have := HJ39.out; have := HK4.out; omega
                   case rel => exact ⟨(wrap64 (gG + 1)), rs_, H', ⟨by have := HJ1.out; have := HJ6.out; have := HJ39.out; have := HK4.out; omega⟩, ⟨bk_⟩, ⟨bl_⟩⟩
                ·rw [if_neg c48] at H; obtain ⟨c48b0, c48b1⟩ := bn_ c48; obtain rfl := Option.some.inj H; obtain ⟨_, _, _, _, hcz60_4, _, _, _, _, _⟩ := bf gZ.out; have xx : 0 ≤ (gG : Int) := dt_; have xy : gG < (af.length : Int) := dt_; obtain ⟨DL, Cw, Cx, e282, sF, sG, sH, sI, sJ, sK, sM⟩ := fC bu.out gG xx xy; cases e282; replace sF := hc_ HB sF; replace sG := hc_ HB sG; replace sH := hc_ HB sH; replace sI := hc_ HB sI; replace sJ := hc_ HB sJ; have zx := aa.mk sM; have zy := aa.mk sK; clear sM sK; replace xx := eq_true xx; replace xy := eq_true xy; go_wp2_with (((with_reducible refine az (f := 46) rfl ?_); refine aT (some 88) rfl rfl Tryd.func46 (by kernel_rfl) rfl #[.agg #[.int .i64 ((ag af gG).f0), .int .i64 ((ag af gG).f1), .int .i64 ((ag af gG).f2), .int .i64 ((ag af gG).f3), .slice Cw ((ag af gG).f4).length Cx]] rfl mp_ ?_; (with_reducible refine (ih k4 (by have := HJ1.out; have := HJ6.out; have := HJ39.out; have := HK4.out; omega) ((ag af gG).f0) ((ag af gG).f1) ((ag af gG).f2) ((ag af gG).f3) _ _ ((ag af gG).f4) t283 _ ?ax ?ay A47.out).mono ?_); (case ax => exact cb_ (Kd.aC zx.out HB.out)); (case ay => exact zy.out); rintro e w61 ⟨rfl, hb⟩; refine ⟨_, rfl, ?_⟩; replace HB := aa.mk (av bl_ hb)))
                 go_ret; exact ⟨re_, bl_⟩
               ·rw [if_neg c46] at H; exact absurd H (by simp)
              ·rw [if_neg c45] at H; have c45b0 := decide_eq_false c45; clear c45; obtain rfl := Option.some.inj H; obtain ⟨_, _, _, _, RX, _, _, _, _, _⟩ := bf gZ.out; go_wp2; go_ret; exact ⟨re_, bl_⟩
        ·rw [if_neg c39] at H; obtain ⟨c39b0, c39b1⟩ := bn_ c39; by_cases c63 : ah = 6
         ·rw [if_pos c63] at H; obtain ⟨c63b0, c63b1⟩ := bq_ c63; clear c63; have HC64 := aa.mk H; clear H; go_upto_region 22 with (fail)
          go_cut [117] (fun v117 wc => ∃ (kq : Nat) (Jf : Bool), v117 = .bool Jf ∧ aa (aK.j4 kq Jf ah au ak aj af = some r) ∧ aa (kq ≤ kj6) ∧ aa (wc.heap[LP]? = some (.cells #[.int .i64 ah, .int .i64 au, .int .i64 ak, .int .i64 aj, (.slice aJ af.length aI)] 24 (0, 0))) ∧ aa (Below w.heap.size w wc))
          case first =>
           have H := HC64.out; clear HC64; by_cases c65 : aj < 1
           ·rw [if_pos c65] at H; have c65b0 := decide_eq_true c65; clear c65; (skip); have H' := aa.mk H; clear H; obtain ⟨_, _, _, NF, _, _, _, _, _, _⟩ := bf gZ.out; go_wp2; go_meet
            case rel => exact ⟨_, (true), rs_, H', ⟨by have := HJ1.out; have := HJ6.out; omega⟩, ⟨bk_⟩, ⟨bl_⟩⟩
           ·rw [if_neg c65] at H; have c65b0 := decide_eq_false c65; clear c65; (skip); have H' := aa.mk H; clear H; obtain ⟨_, _, _, hcz67_3, _, _, _, _, _, _⟩ := bf gZ.out; go_wp2; go_meet
            case rel => exact ⟨_, (decide (aj > 4)), rs_, H', ⟨by have := HJ1.out; have := HJ6.out; omega⟩, ⟨bk_⟩, ⟨bl_⟩⟩
          case rest =>
           clear HC64; obtain ⟨kq, Jf, rfl, HA, HJ63, gZ, HB⟩ := hcut; cases kq with
           | zero => exact absurd HA.out (by simp [aK.j4])
           | succ kj63 =>
            have H := HA.out; clear HA; simp only [aK.j4] at H; by_cases c68 : Jf = true
            ·subst c68; rw [if_pos rfl] at H; obtain rfl := Option.some.inj H; go_wp2; go_ret; exact ⟨re_, bl_⟩
            ·replace c68 := Bool.eq_false_iff.mpr c68; subst c68; rw [if_neg (show ¬ (false = true) by decide)] at H; by_cases c69 : (af.length : Int) = 1
             ·rw [if_pos c69] at H; obtain ⟨c69b0, c69b1⟩ := bq_ c69; clear c69; by_cases c70 : 0 < (af.length : Int)
              ·rw [if_pos c70] at H; have c70b0 := decide_eq_true c70; clear c70; replace H := Option.bind_eq_some_iff.mp H; obtain ⟨t287, A710, H⟩ := H; have A71 := aa.mk A710; clear A710; by_cases c72 : t287 = 0
               ·rw [if_pos c72] at H; obtain ⟨c72b0, c72b1⟩ := bq_ c72; clear c72; by_cases c73 : ((ag af 0).f0) = 1
                ·rw [if_pos c73] at H; obtain ⟨c73b0, c73b1⟩ := bq_ c73; clear c73; obtain rfl := Option.some.inj H; obtain ⟨_, _, _, _, hcz74_4, _, _, _, _, _⟩ := bf gZ.out; have p286 : 0 ≤ (0 : Int) := (by omega); have q286 : 0 < (af.length : Int) := dt_; obtain ⟨DN, Cy, Cz, e286, oh, om, oo, oq, ou, sN, sO⟩ := fC bu.out 0 p286 q286; cases e286; have qi286 : (0 < af.length) = True := eq_true (by omega); (try simp only [z0_, Nat.zero_mul, Addr.add_zero'] at oh om oo oq ou); replace oh := hc_ HB oh; replace om := hc_ HB om; replace oo := hc_ HB oo; replace oq := hc_ HB oq; replace ou := hc_ HB ou; have zA := aa.mk sO; have zB := aa.mk sN; clear sO sN; go_wp2_with (((with_reducible refine az (f := 46) rfl ?_); refine aT (some 126) rfl rfl Tryd.func46 (by kernel_rfl) rfl #[.agg #[.int .i64 ((ag af 0).f0), .int .i64 ((ag af 0).f1), .int .i64 ((ag af 0).f2), .int .i64 ((ag af 0).f3), .slice Cy ((ag af 0).f4).length Cz]] rfl mp_ ?_; (with_reducible refine (ih kj63 (by have := HJ1.out; have := HJ6.out; have := HJ63.out; omega) ((ag af 0).f0) ((ag af 0).f1) ((ag af 0).f2) ((ag af 0).f3) _ _ ((ag af 0).f4) t287 _ ?ax ?ay A71.out).mono ?_); (case ax => exact cb_ (Kd.aC zA.out HB.out)); (case ay => exact zB.out); rintro e w75 ⟨rfl, hb⟩; refine ⟨_, rfl, ?_⟩; replace gZ := kb_ gZ hb; replace HB := aa.mk (av bl_ hb); obtain ⟨_, _, _, _, hcz76_4, _, _, _, _, _⟩ := bf gZ.out; have p288 : 0 ≤ (0 : Int) := (by omega); have q288 : 0 < (af.length : Int) := dt_; obtain ⟨LW, A288_4, c288_4, e288, sP, sQ, sS, sU, sV, Fa, Fb⟩ := fC bu.out 0 p288 q288; obtain rfl : DN = LW := (by injection e288); (try simp only [z0_, Nat.zero_mul, Addr.add_zero'] at sP); (try simp only [z0_, Nat.zero_mul, Addr.add_zero'] at sQ); (try simp only [z0_, Nat.zero_mul, Addr.add_zero'] at sS); (try simp only [z0_, Nat.zero_mul, Addr.add_zero'] at sU); (try simp only [z0_, Nat.zero_mul, Addr.add_zero'] at sV); replace sP := hc_ HB sP; replace sQ := hc_ HB sQ; replace sS := hc_ HB sS; replace sU := hc_ HB sU; clear Fb Fa))
                 go_ret; exact ⟨re_, bl_⟩
                ·rw [if_neg c73] at H; obtain ⟨c73b0, c73b1⟩ := bn_ c73; by_cases c77 : ((ag af 0).f0) = 2
                 ·rw [if_pos c77] at H; obtain ⟨c77b0, c77b1⟩ := bq_ c77; clear c77; obtain rfl := Option.some.inj H; obtain ⟨_, _, _, _, hcz78_4, _, _, _, _, _⟩ := bf gZ.out; have p286 : 0 ≤ (0 : Int) := (by omega); have q286 : 0 < (af.length : Int) := dt_; obtain ⟨DN, Cy, Cz, e286, oh, om, oo, oq, ou, sN, sO⟩ := fC bu.out 0 p286 q286; cases e286; have qi286 : (0 < af.length) = True := eq_true (by omega); (try simp only [z0_, Nat.zero_mul, Addr.add_zero'] at oh om oo oq ou); replace oh := hc_ HB oh; replace om := hc_ HB om; replace oo := hc_ HB oo; replace oq := hc_ HB oq; replace ou := hc_ HB ou; have zA := aa.mk sO; have zB := aa.mk sN; clear sO sN; go_wp2_with (((with_reducible refine az (f := 46) rfl ?_); refine aT (some 126) rfl rfl Tryd.func46 (by kernel_rfl) rfl #[.agg #[.int .i64 ((ag af 0).f0), .int .i64 ((ag af 0).f1), .int .i64 ((ag af 0).f2), .int .i64 ((ag af 0).f3), .slice Cy ((ag af 0).f4).length Cz]] rfl mp_ ?_; (with_reducible refine (ih kj63 (by have := HJ1.out; have := HJ6.out; have := HJ63.out; omega) ((ag af 0).f0) ((ag af 0).f1) ((ag af 0).f2) ((ag af 0).f3) _ _ ((ag af 0).f4) t287 _ ?ax ?ay A71.out).mono ?_); (case ax => exact cb_ (Kd.aC zA.out HB.out)); (case ay => exact zB.out); rintro e w79 ⟨rfl, hb⟩; refine ⟨_, rfl, ?_⟩; replace gZ := kb_ gZ hb; replace HB := aa.mk (av bl_ hb); obtain ⟨_, _, _, _, R3, _, _, _, _, _⟩ := bf gZ.out; have p288 : 0 ≤ (0 : Int) := (by omega); have q288 : 0 < (af.length : Int) := dt_; obtain ⟨LW, A288_4, c288_4, e288, sP, sQ, sS, sU, sV, Fa, Fb⟩ := fC bu.out 0 p288 q288; obtain rfl : DN = LW := (by injection e288); (try simp only [z0_, Nat.zero_mul, Addr.add_zero'] at sP); (try simp only [z0_, Nat.zero_mul, Addr.add_zero'] at sQ); (try simp only [z0_, Nat.zero_mul, Addr.add_zero'] at sS); (try simp only [z0_, Nat.zero_mul, Addr.add_zero'] at sU); (try simp only [z0_, Nat.zero_mul, Addr.add_zero'] at sV); replace sP := hc_ HB sP; replace sQ := hc_ HB sQ; replace sS := hc_ HB sS; replace sU := hc_ HB sU; replace sV := hc_ HB sV; clear Fb Fa; have p289 : 0 ≤ (0 : Int) := (by omega); have q289 : 0 < (af.length : Int) := dt_; obtain ⟨ad289, A289_4, c289_4, e289, zC, zD, zF, zG, vL, Fe, Ff⟩ := fC bu.out 0 p289 q289; obtain rfl : DN = ad289 := (by injection e289); (try simp only [z0_, Nat.zero_mul, Addr.add_zero'] at zC); (try simp only [z0_, Nat.zero_mul, Addr.add_zero'] at zD); (try simp only [z0_, Nat.zero_mul, Addr.add_zero'] at zF); (try simp only [z0_, Nat.zero_mul, Addr.add_zero'] at zG); (try simp only [z0_, Nat.zero_mul, Addr.add_zero'] at vL); replace zC := hc_ HB zC; replace zD := hc_ HB zD; replace zF := hc_ HB zF; replace zG := hc_ HB zG; replace vL := hc_ HB vL; have HR289_4 := aa.mk Ff; have HC289_4 := aa.mk Fe; clear Ff Fe; have ea_ := Option.some.inj (sV.symm.trans vL); injection ea_ with ea_ en_ ec_; subst ea_; subst ec_; clear en_))
                  go_ret; exact ⟨re_, bl_⟩
                 ·rw [if_neg c77] at H; obtain ⟨c77b0, c77b1⟩ := bn_ c77; obtain rfl := Option.some.inj H; obtain ⟨_, _, _, _, Sz, _, _, _, _, _⟩ := bf gZ.out; have p286 : 0 ≤ (0 : Int) := (by omega); have q286 : 0 < (af.length : Int) := dt_; obtain ⟨DN, Cy, Cz, e286, oh, om, oo, oq, ou, sN, sO⟩ := fC bu.out 0 p286 q286; cases e286; have qi286 : (0 < af.length) = True := eq_true (by omega); (try simp only [z0_, Nat.zero_mul, Addr.add_zero'] at oh om oo oq ou); replace oh := hc_ HB oh; replace om := hc_ HB om; replace oo := hc_ HB oo; replace oq := hc_ HB oq; replace ou := hc_ HB ou; have zA := aa.mk sO; have zB := aa.mk sN; clear sO sN; go_wp2_with (((with_reducible refine az (f := 46) rfl ?_); refine aT (some 126) rfl rfl Tryd.func46 (by kernel_rfl) rfl #[.agg #[.int .i64 ((ag af 0).f0), .int .i64 ((ag af 0).f1), .int .i64 ((ag af 0).f2), .int .i64 ((ag af 0).f3), .slice Cy ((ag af 0).f4).length Cz]] rfl mp_ ?_; (with_reducible refine (ih kj63 (by have := HJ1.out; have := HJ6.out; have := HJ63.out; omega) ((ag af 0).f0) ((ag af 0).f1) ((ag af 0).f2) ((ag af 0).f3) _ _ ((ag af 0).f4) t287 _ ?ax ?ay A71.out).mono ?_); (case ax => exact cb_ (Kd.aC zA.out HB.out)); (case ay => exact zB.out); rintro e w82 ⟨rfl, hb⟩; refine ⟨_, rfl, ?_⟩; replace gZ := kb_ gZ hb; replace HB := aa.mk (av bl_ hb); obtain ⟨_, _, _, _, hcz83_4, _, _, _, _, _⟩ := bf gZ.out; have p288 : 0 ≤ (0 : Int) := (by omega); have q288 : 0 < (af.length : Int) := dt_; obtain ⟨LW, A288_4, c288_4, e288, sP, sQ, sS, sU, sV, Fa, Fb⟩ := fC bu.out 0 p288 q288; obtain rfl : DN = LW := (by injection e288); (try simp only [z0_, Nat.zero_mul, Addr.add_zero'] at sP); (try simp only [z0_, Nat.zero_mul, Addr.add_zero'] at sQ); (try simp only [z0_, Nat.zero_mul, Addr.add_zero'] at sS); (try simp only [z0_, Nat.zero_mul, Addr.add_zero'] at sU); (try simp only [z0_, Nat.zero_mul, Addr.add_zero'] at sV); replace sP := hc_ HB sP; replace sQ := hc_ HB sQ; replace sS := hc_ HB sS; replace sU := hc_ HB sU; replace sV := hc_ HB sV; clear Fb Fa; have p289 : 0 ≤ (0 : Int) := (by omega); have q289 : 0 < (af.length : Int) := dt_; obtain ⟨ad289, A289_4, c289_4, e289, zC, zD, zF, zG, vL, Fe, Ff⟩ := fC bu.out 0 p289 q289; obtain rfl : DN = ad289 := (by injection e289); (try simp only [z0_, Nat.zero_mul, Addr.add_zero'] at zC); (try simp only [z0_, Nat.zero_mul, Addr.add_zero'] at zD); (try simp only [z0_, Nat.zero_mul, Addr.add_zero'] at zF); (try simp only [z0_, Nat.zero_mul, Addr.add_zero'] at zG); (try simp only [z0_, Nat.zero_mul, Addr.add_zero'] at vL); replace zC := hc_ HB zC; replace zD := hc_ HB zD; replace zF := hc_ HB zF; replace zG := hc_ HB zG; replace vL := hc_ HB vL; have HR289_4 := aa.mk Ff; have HC289_4 := aa.mk Fe; clear Ff Fe; have ea_ := Option.some.inj (sV.symm.trans vL); injection ea_ with ea_ en_ ec_; subst ea_; subst ec_; clear en_))
                  go_ret; exact ⟨re_, bl_⟩
               ·rw [if_neg c72] at H; obtain ⟨c72b0, c72b1⟩ := bn_ c72; obtain rfl := Option.some.inj H; obtain ⟨_, _, _, _, hcz84_4, _, _, _, _, _⟩ := bf gZ.out; have p286 : 0 ≤ (0 : Int) := (by omega); have q286 : 0 < (af.length : Int) := dt_; obtain ⟨DN, Cy, Cz, e286, oh, om, oo, oq, ou, sN, sO⟩ := fC bu.out 0 p286 q286; cases e286; have qi286 : (0 < af.length) = True := eq_true (by omega); (try simp only [z0_, Nat.zero_mul, Addr.add_zero'] at oh om oo oq ou); replace oh := hc_ HB oh; replace om := hc_ HB om; replace oo := hc_ HB oo; replace oq := hc_ HB oq; replace ou := hc_ HB ou; have zA := aa.mk sO; have zB := aa.mk sN; clear sO sN; go_wp2_with (((with_reducible refine az (f := 46) rfl ?_); refine aT (some 126) rfl rfl Tryd.func46 (by kernel_rfl) rfl #[.agg #[.int .i64 ((ag af 0).f0), .int .i64 ((ag af 0).f1), .int .i64 ((ag af 0).f2), .int .i64 ((ag af 0).f3), .slice Cy ((ag af 0).f4).length Cz]] rfl mp_ ?_; (with_reducible refine (ih kj63 (by have := HJ1.out; have := HJ6.out; have := HJ63.out; omega) ((ag af 0).f0) ((ag af 0).f1) ((ag af 0).f2) ((ag af 0).f3) _ _ ((ag af 0).f4) t287 _ ?ax ?ay A71.out).mono ?_); (case ax => exact cb_ (Kd.aC zA.out HB.out)); (case ay => exact zB.out); rintro e w85 ⟨rfl, hb⟩; refine ⟨_, rfl, ?_⟩; replace HB := aa.mk (av bl_ hb)))
                go_ret; exact ⟨re_, bl_⟩
              ·rw [if_neg c70] at H; exact absurd H (by simp)
             ·rw [if_neg c69] at H; obtain ⟨c69b0, c69b1⟩ := bn_ c69; obtain rfl := Option.some.inj H; obtain ⟨_, _, _, _, hcz86_4, _, _, _, _, _⟩ := bf gZ.out; go_wp2; go_ret; exact ⟨re_, bl_⟩
         ·rw [if_neg c63] at H; obtain ⟨c63b0, c63b1⟩ := bn_ c63; obtain rfl := Option.some.inj H; go_wp2; go_ret; exact ⟨re_, bl_⟩


/-! ### bA: function 47 -/
mutual
def bA.j0 : Nat → Int → Bool → Int → Int → Int → Int → List (S24) → Option ((List (S41)))
 | 0, _, _, _, _, _, _, _ => none
 | k + 1, x8, x21, zH, BV, BX, yh, mg => if x21 = true then (some (([(⟨zH, 0, 0⟩ : S41)] : List (S41)))) else (if x8 = 6 then (bA.l0 k (([(⟨2, 0, yh⟩ : S41)] : List (S41))) 0 zH BV BX yh mg) else (bA.l1 k ([] : List (S41)) 0 zH BV BX yh mg))
def bA.l0 : Nat → List (S41) → Int → Int → Int → Int → Int → List (S24) → Option ((List (S41)))
 | 0, _, _, _, _, _, _, _ => none
 | k + 1, x3, x4, zH, BV, BX, yh, mg => if x4 < yh then (if 0 < (mg.length : Int) then ((bA.f k ((ag mg 0).f0) ((ag mg 0).f1) ((ag mg 0).f2) ((ag mg 0).f3) ((ag mg 0).f4)).bind fun t304 => (if x3.length + t304.length < 5864062014805 then (bA.l0 k (x3 ++ t304) (wrap64 (x4 + 1)) zH BV BX yh mg) else (none))) else (none)) else (some x3)
def bA.l1 : Nat → List (S41) → Int → Int → Int → Int → Int → List (S24) → Option ((List (S41)))
 | 0, _, _, _, _, _, _, _ => none
 | k + 1, x5, x6, zH, BV, BX, yh, mg => if x6 < (mg.length : Int) then (if 0 ≤ x6 then ((bA.f k ((ag mg x6).f0) ((ag mg x6).f1) ((ag mg x6).f2) ((ag mg x6).f3) ((ag mg x6).f4)).bind fun t311 => (if x5.length + t311.length < 5864062014805 then (bA.l1 k (x5 ++ t311) (wrap64 (x6 + 1)) zH BV BX yh mg) else (none))) else (none)) else (some x5)
def bA.f : Nat → Int → Int → Int → Int → List (S24) → Option ((List (S41)))
 | 0, _, _, _, _, _ => none
 | k + 1, ah, au, ak, aj, af => if ah = 1 then (some (([(⟨1, 0, 1⟩ : S41)] : List (S41)))) else (if ah = 2 then (some (([(⟨2, au, ak⟩ : S41)] : List (S41)))) else (if ah = 3 then (bA.j0 k ah (ah == 3) ah au ak aj af) else (bA.j0 k ah (ah == 4) ah au ak aj af)))
end
set_option maxHeartbeats 8000000 in
set_option maxRecDepth 100000 in
theorem bA.calls (k : Nat) : ∀ (ah : Int) (au : Int) (ak : Int) (aj : Int) (aJ : Option Addr) (aI : Nat) (af : List (S24)) (r : List (S41)) (w : World) (dz : Kd.C k24 w aJ af.length af) (dL : af.length ≤ aI) (h : bA.f k ah au ak aj af = some r),
  Calls Tryd.prog 47 #[.agg #[.int .i64 ah, .int .i64 au, .int .i64 ak, .int .i64 aj, .slice aJ af.length aI]] w fun e w' => ∃ v0_ : Value, e = .returned (v0_) ∧ Kd.R k41 41 w' w.heap.size (fun _ => True) v0_ r ∧ Below w.heap.size w w' := by
 induction k using Nat.strongRecOn with
 | _ k ih =>
 intro ah au ak aj aJ aI af r w dz dL h; cases k with
 | zero => exact absurd h (by simp [bA.f])
 | succ k =>
 simp only [bA.f] at h; have bu := aa.mk dz; clear dz dL; have HB := aa.mk (Below.refl w.heap.size w); have H := h; unfold bA.f at H; clear h; by_cases c2 : ah = 1
 ·rw [if_pos c2] at H; obtain ⟨zb, c2b1⟩ := bq_ c2; clear c2; generalize hy291 : (([(⟨1, 0, 1⟩ : S41)] : List (S41))) = y291 at H; replace hy291 := hy291.symm; have Ny291 := aa.mk hy291; clear hy291; obtain rfl := Option.some.inj H; go_enter Tryd.func47, Tryd.ntmps47; go_wp2_with (first | ((with_reducible refine aD (N := 1) rfl ?_); refine bx_ (#[.int .i64 ah, .int .i64 au, .int .i64 ak, .int .i64 aj, .slice aJ af.length aI]) 24 ?_; intro Gj hg w3 mY _ HB hb; clear hb hg; obtain ⟨hcz4_0, _, _, _, _, _, _, _, _, _⟩ := bf mY.out) | ((with_reducible refine aD (N := 12) rfl ?_); refine Kd.mq k41 _ 41 ?hg (N := 12) ?hd (xs := ([(⟨1, 0, 1⟩ : S41)] : List (S41))) (inner := [.int .i64 1, .int .i64 0, .int .i64 1]) (ok := fun _ => True) (okp := fun _ => True) ?hr ?hp (fun _ hk => hk) trivial (Below.refl _ _) (Nat.le_refl _) (by simp) ?_; (case hd => rfl); (case hg => rfl); (case hr => (go_simp; done)); (case hp => exact (dI.c3 (show Kd.M k41 _ _ _ (⟨1, 0, 1⟩ : S41) [.int .i64 1, .int .i64 0, .int .i64 1] from (IY _ _ _ (⟨1, 0, 1⟩ : S41) )) (dI.none _ _))); intro v292 w5 ho6 hb hg_ gQ; clear hg_ gQ; (rw [← Ny291.out] at ho6); have HO293 := aa.mk (Kd.bn ho6 (aH bl_)); replace HB := aa.mk (av bl_ hb); clear hb ho6))
  go_ret; exact ⟨_, re_, pR_ HO293.out, bl_⟩
 ·rw [if_neg c2] at H; obtain ⟨zb, c2b1⟩ := bn_ c2; by_cases c7 : ah = 2
  ·rw [if_pos c7] at H; obtain ⟨sw, yx⟩ := bq_ c7; clear c7; generalize hy294 : (([(⟨2, au, ak⟩ : S41)] : List (S41))) = y294 at H; replace hy294 := hy294.symm; have Ny294 := aa.mk hy294; clear hy294; obtain rfl := Option.some.inj H; go_enter Tryd.func47, Tryd.ntmps47; go_wp2_with (first | ((with_reducible refine aD (N := 1) rfl ?_); refine bx_ (#[.int .i64 ah, .int .i64 au, .int .i64 ak, .int .i64 aj, .slice aJ af.length aI]) 24 ?_; intro Gj hg w8 mY _ HB hb; clear hb hg; obtain ⟨uT, yz, AV, _, _, _, _, _, _, _⟩ := bf mY.out) | ((with_reducible refine aD (N := 20) rfl ?_); refine Kd.mq k41 _ 41 ?hg (N := 20) ?hd (xs := ([(⟨2, au, ak⟩ : S41)] : List (S41))) (inner := [.int .i64 2, .int .i64 au, .int .i64 ak]) (ok := fun _ => True) (okp := fun _ => True) ?hr ?hp (fun _ hk => hk) trivial (Below.refl _ _) (Nat.le_refl _) (by simp) ?_; (case hd => rfl); (case hg => rfl); (case hr => (go_simp; done)); (case hp => exact (dI.c3 (show Kd.M k41 _ _ _ (⟨2, au, ak⟩ : S41) [.int .i64 2, .int .i64 au, .int .i64 ak] from (IY _ _ _ (⟨2, au, ak⟩ : S41) )) (dI.none _ _))); intro v295 w10 ho11 hb hg_ gQ; clear hg_ gQ; (rw [← Ny294.out] at ho11); have HO296 := aa.mk (Kd.bn ho11 (aH bl_)); replace HB := aa.mk (av bl_ hb); clear hb ho11))
   go_ret; exact ⟨_, re_, pR_ HO296.out, bl_⟩
  ·rw [if_neg c7] at H; obtain ⟨sw, yx⟩ := bn_ c7; have HC12 := aa.mk H; clear H; go_enter Tryd.func47, Tryd.ntmps47; go_upto_if 21 with (((with_reducible refine aD (N := 1) rfl ?_); refine bx_ (#[.int .i64 ah, .int .i64 au, .int .i64 ak, .int .i64 aj, .slice aJ af.length aI]) 24 ?_; intro Gj hg w13 mY _ HB hb; clear hb hg; obtain ⟨xQ, _, _, _, _, _, _, _, _, _⟩ := bf mY.out))
   go_cut [21] (fun v21 wc => ∃ (kq : Nat) (LX : Bool), v21 = .bool LX ∧ aa (bA.j0 kq ah LX ah au ak aj af = some r) ∧ aa (kq ≤ k) ∧ aa (wc.heap[Gj]? = some (.cells #[.int .i64 ah, .int .i64 au, .int .i64 ak, .int .i64 aj, (.slice aJ af.length aI)] 24 (0, 0))) ∧ aa (Below w.heap.size w wc))
   case first =>
    have H := HC12.out; clear HC12; by_cases c15 : ah = 3
    ·rw [if_pos c15] at H; obtain ⟨Ak, Lt⟩ := bq_ c15; clear c15; (rw [Ak]); have H' := aa.mk H; clear H; go_wp2; go_meet
     case rel => exact ⟨_, ((ah == 3)), rs_, H', ⟨by omega⟩, ⟨bk_⟩, ⟨bl_⟩⟩
    ·rw [if_neg c15] at H; obtain ⟨Ak, Lt⟩ := bn_ c15; (rw [Ak]); have H' := aa.mk H; clear H; go_wp2; go_meet
     case rel => exact ⟨_, ((ah == 4)), rs_, H', ⟨by omega⟩, ⟨bk_⟩, ⟨bl_⟩⟩
   case rest =>
    clear HC12; obtain ⟨kq, LX, rfl, HA, HJ11, mY, HB⟩ := hcut; cases kq with
    | zero => exact absurd HA.out (by simp [bA.j0])
    | succ kj11 =>
     have H := HA.out; clear HA; simp only [bA.j0] at H; by_cases c16 : LX = true
     ·subst c16; rw [if_pos rfl] at H; generalize hy297 : (([(⟨ah, 0, 0⟩ : S41)] : List (S41))) = y297 at H; replace hy297 := hy297.symm
      have Ny297 := aa.mk hy297; clear hy297; obtain rfl := Option.some.inj H; obtain ⟨zq, _, _, _, _, _, _, _, _, _⟩ := bf mY.out; go_wp2_with (((with_reducible refine aD (N := 27) rfl ?_); refine Kd.mq k41 _ 41 ?hg (N := 27) ?hd (xs := ([(⟨ah, 0, 0⟩ : S41)] : List (S41))) (inner := [.int .i64 ah, .int .i64 0, .int .i64 0]) (ok := fun _ => True) (okp := fun _ => True) ?hr ?hp (fun _ hk => hk) trivial (Below.refl _ _) (Nat.le_refl _) (by simp) ?_; (case hd => rfl); (case hg => rfl); (case hr => (go_simp; done)); (case hp => exact (dI.c3 (show Kd.M k41 _ _ _ (⟨ah, 0, 0⟩ : S41) [.int .i64 ah, .int .i64 0, .int .i64 0] from (IY _ _ _ (⟨ah, 0, 0⟩ : S41) )) (dI.none _ _))); intro v298 w18 ho19 hb hg_ gQ; clear hg_ gQ; (rw [← Ny297.out] at ho19); have HO299 := aa.mk (Kd.bn ho19 (aH bl_)); replace HB := aa.mk (av bl_ hb); clear hb ho19))
      go_ret; exact ⟨_, re_, pR_ HO299.out, bl_⟩
     ·replace c16 := Bool.eq_false_iff.mpr c16; subst c16; rw [if_neg (show ¬ (false = true) by decide)] at H; by_cases c20 : ah = 6
      ·rw [if_pos c20] at H; obtain ⟨Ao, c20b1⟩ := bq_ c20; clear c20; generalize hy300 : (([(⟨2, 0, aj⟩ : S41)] : List (S41))) = y300 at H; replace hy300 := hy300.symm; have Ny300 := aa.mk hy300; clear hy300; have H' := aa.mk H; clear H; obtain ⟨_, _, _, NG, _, _, _, _, _, _⟩ := bf mY.out; go_wp2_with (((with_reducible refine aD (N := 33) rfl ?_); refine Kd.mq k41 _ 41 ?hg (N := 33) ?hd (xs := ([(⟨2, 0, aj⟩ : S41)] : List (S41))) (inner := [.int .i64 2, .int .i64 0, .int .i64 aj]) (ok := fun _ => True) (okp := fun _ => True) ?hr ?hp (fun _ hk => hk) trivial (Below.refl _ _) (Nat.le_refl _) (by simp) ?_; (case hd => rfl); (case hg => rfl); (case hr => (go_simp; done)); (case hp => exact (dI.c3 (show Kd.M k41 _ _ _ (⟨2, 0, aj⟩ : S41) [.int .i64 2, .int .i64 0, .int .i64 aj] from (IY _ _ _ (⟨2, 0, aj⟩ : S41) )) (dI.none _ _))); intro v301 w22 ho23 hb hg_ gQ; clear hg_ gQ; (rw [← Ny300.out] at ho23); have HO302 := aa.mk (Kd.bn ho23 (aH bl_)); replace mY := kb_ mY hb; replace HB := aa.mk (av bl_ hb); clear hb ho23))
       go_loopg [3, 4] kj11 (fun kq v3 v4 w' => ∃ (ql : List (S41)) (kT : Int), v4 = .int .i64 kT ∧ aa (bA.l0 kq ql kT ah au ak aj af = some r) ∧ aa (kq ≤ kj11) ∧ aa (Kd.R k41 41 w' w.heap.size (fun _ => True) v3 ql) ∧ aa (w'.heap[Gj]? = some (.cells #[.int .i64 ah, .int .i64 au, .int .i64 ak, .int .i64 aj, (.slice aJ af.length aI)] 24 (0, 0))) ∧ aa (Below w.heap.size w w'))
       case atStart => exact ⟨(y300), (0), rs_, H', ⟨Nat.le_refl _⟩, ⟨pR_ HO302.out⟩, ⟨bk_⟩, ⟨bl_⟩⟩
       case round =>
        clear H'; obtain ⟨ql, kT, rfl, HA, HK2, nN, mY, HB⟩ := hrel; cases gk with
        | zero => exact absurd HA.out (by simp [bA.l0])
        | succ k2 =>
         have H := HA.out; clear HA; simp only [bA.l0] at H; by_cases c24 : kT < aj
         ·rw [if_pos c24] at H; have Al := decide_eq_true c24; clear c24; by_cases c25 : 0 < (af.length : Int)
          ·rw [if_pos c25] at H; have LA := decide_eq_true c25; clear c25; replace H := Option.bind_eq_some_iff.mp H; obtain ⟨t304, A260, H⟩ := H; have A26 := aa.mk A260; clear A260; by_cases c27 : ql.length + t304.length < 5864062014805
           ·rw [if_pos c27] at H; have LMc27 := aa.mk c27; clear c27; generalize hy307 : (ql ++ t304) = y307 at H; replace hy307 := hy307.symm; have Ny307 := aa.mk hy307; clear hy307; have H' := aa.mk H; clear H; obtain ⟨_, _, _, EO, EP, _, _, _, _, _⟩ := bf mY.out; have p303 : 0 ≤ (0 : Int) := (by omega); have q303 : 0 < (af.length : Int) := dt_; obtain ⟨ad303, A303_4, c303_4, e303, NL, NM, NN, NP, NQ, SA, SB⟩ := fC bu.out 0 p303 q303; cases e303; have qi303 : (0 < af.length) = True := eq_true (by omega); (try simp only [z0_, Nat.zero_mul, Addr.add_zero'] at NL NM NN NP NQ); replace NL := hc_ HB NL; replace NM := hc_ HB NM; replace NN := hc_ HB NN; replace NP := hc_ HB NP; replace NQ := hc_ HB NQ; have HR303_4 := aa.mk SB; have HC303_4 := aa.mk SA; clear SB SA; go_wp2_with (first | ((with_reducible refine az (f := 47) rfl ?_); refine aT (some 45) rfl rfl Tryd.func47 (by kernel_rfl) rfl #[.agg #[.int .i64 ((ag af 0).f0), .int .i64 ((ag af 0).f1), .int .i64 ((ag af 0).f2), .int .i64 ((ag af 0).f3), .slice A303_4 ((ag af 0).f4).length c303_4]] rfl mp_ ?_; (with_reducible refine (ih k2 (by have := HJ11.out; have := HK2.out; omega) ((ag af 0).f0) ((ag af 0).f1) ((ag af 0).f2) ((ag af 0).f3) _ _ ((ag af 0).f4) t304 _ ?ax ?ay A26.out).mono ?_); (case ax => exact cb_ (Kd.aC HR303_4.out HB.out)); (case ay => exact HC303_4.out); rintro e w29 ⟨v305, rfl, ho0, hb⟩; refine ⟨_, rfl, ?_⟩; have HO306 := aa.mk (Kd.bn (Kd.cu ho0 (Kd.dP (pR_ nN.out))) (aH bl_)); replace nN := aa.mk (Kd.cB (pR_ nN.out) (Kd.bW ho0) hb); replace mY := kb_ mY hb; replace HB := aa.mk (av bl_ hb); obtain ⟨Ao31, co31, eo31⟩ := Kd.bz HO306.out; subst eo31) | ((with_reducible refine nz (b := .append) (xs := #[.tmp 40, .tmp 45]) rfl ?_); at_builtin; refine Kd.wZ k41 (w0 := w) w.heap.size rfl (.tmp 40) (.tmp 45) 37 41 (.agg #[(.int .i64 0), (.int .i64 0), (.int .i64 0)]) 24 rfl Tryd.underlying37 info41 rfl (by decide) (by omega) u3 ql t304 _ _ _ (fun k_ => some k_ ≠ (.slice Ao31 t304.length co31 : Value).ownBlock) (fun _ => False) rfl rfl ?aO ?aR (fun _ _ h => h) (fun _ h => h.elim) ?aF ?aB ?aS ?aL ?_; (case aR => exact cb_ ((Kd.aM HO306.out).2.2)); (case aB => exact bl_); (case aF => exact (fun k_ hk => Kd.fresh' (Kd.dP (pR_ HO306.out)) k_ hk)); (case aO => exact (by exact Kd.aU nN.out (fun _ hk => hk.2))); (case aS => exact (aH bl_)); (case aL => have := LMc27.out; omega); intro v308 w30 ho hb hg hat; rw [← Ny307.out] at ho; have HO309 := aa.mk (ho); replace mY := aa.mk (gI (g := Gj) (o := .cells #[.int .i64 ah, .int .i64 au, .int .i64 ak, .int .i64 aj, .slice (some ad303) af.length aI] 24 (0, 0)) bk_ hg (Kd.pE nN.out mY.out (by decide))); replace HB := aa.mk (hb); clear nN; clear ho hb hg hat))
            go_roundg k2
            case measure => have := HJ11.out; have := HK2.out; omega
            case rel => exact ⟨(y307), (wrap64 (kT + 1)), rs_, H', ⟨by have := HJ11.out; have := HK2.out; omega⟩, ⟨by exact Kd.aU HO309.out (fun _ hk => trivial)⟩, ⟨bk_⟩, ⟨bl_⟩⟩
           ·rw [if_neg c27] at H; exact absurd H (by simp)
          ·rw [if_neg c25] at H; exact absurd H (by simp)
         ·rw [if_neg c24] at H; have Al := decide_eq_false c24; clear c24; obtain rfl := Option.some.inj H; obtain ⟨_, _, _, SC, _, _, _, _, _, _⟩ := bf mY.out; go_wp2; go_ret; exact ⟨_, re_, pR_ nN.out, bl_⟩
      ·rw [if_neg c20] at H; obtain ⟨Ao, c20b1⟩ := bn_ c20; have H' := aa.mk H; clear H; go_wp2; go_loopg [5, 6] kj11 (fun kq v5 v6 w' => ∃ (cz : List (S41)) (bK : Int), v6 = .int .i64 bK ∧ aa (bA.l1 kq cz bK ah au ak aj af = some r) ∧ aa (kq ≤ kj11) ∧ aa (Kd.R k41 41 w' w.heap.size (fun _ => True) v5 cz) ∧ aa (w'.heap[Gj]? = some (.cells #[.int .i64 ah, .int .i64 au, .int .i64 ak, .int .i64 aj, (.slice aJ af.length aI)] 24 (0, 0))) ∧ aa (Below w.heap.size w w'))
       case atStart => exact ⟨(([] : List (S41))), (0), rs_, H', ⟨Nat.le_refl _⟩, ⟨by exact Kd.iy _ _ _ _ _⟩, ⟨bk_⟩, ⟨bl_⟩⟩
       case round =>
        clear H'; obtain ⟨cz, bK, rfl, HA, HK2, fu, mY, HB⟩ := hrel; cases gk with
        | zero => exact absurd HA.out (by simp [bA.l1])
        | succ k2 =>
         have H := HA.out; clear HA; simp only [bA.l1] at H; by_cases c33 : bK < (af.length : Int)
         ·rw [if_pos c33] at H; have LD := decide_eq_true c33; clear c33; by_cases c34 : 0 ≤ bK
          ·rw [if_pos c34] at H; have c34b0 := decide_eq_true c34; clear c34; replace H := Option.bind_eq_some_iff.mp H; obtain ⟨t311, A350, H⟩ := H; have A35 := aa.mk A350; clear A350; by_cases c36 : cz.length + t311.length < 5864062014805
           ·rw [if_pos c36] at H; have LMc36 := aa.mk c36; clear c36; generalize hy314 : (cz ++ t311) = y314 at H; replace hy314 := hy314.symm; have Ny314 := aa.mk hy314; clear hy314; have H' := aa.mk H; clear H; obtain ⟨_, _, _, _, Es, _, _, _, _, _⟩ := bf mY.out; have p310 : 0 ≤ (bK : Int) := dt_; have q310 : bK < (af.length : Int) := dt_; obtain ⟨ad310, A310_4, c310_4, e310, SE, SF, SG, SH, SI, SK, SL⟩ := fC bu.out bK p310 q310; cases e310; replace SE := hc_ HB SE; replace SF := hc_ HB SF; replace SG := hc_ HB SG; replace SH := hc_ HB SH; replace SI := hc_ HB SI; have HR310_4 := aa.mk SL; have HC310_4 := aa.mk SK; clear SL SK; replace p310 := eq_true p310; replace q310 := eq_true q310; go_wp2_with (first | ((with_reducible refine az (f := 47) rfl ?_); refine aT (some 61) rfl rfl Tryd.func47 (by kernel_rfl) rfl #[.agg #[.int .i64 ((ag af bK).f0), .int .i64 ((ag af bK).f1), .int .i64 ((ag af bK).f2), .int .i64 ((ag af bK).f3), .slice A310_4 ((ag af bK).f4).length c310_4]] rfl mp_ ?_; (with_reducible refine (ih k2 (by have := HJ11.out; have := HK2.out; omega) ((ag af bK).f0) ((ag af bK).f1) ((ag af bK).f2) ((ag af bK).f3) _ _ ((ag af bK).f4) t311 _ ?ax ?ay A35.out).mono ?_); (case ax => exact cb_ (Kd.aC HR310_4.out HB.out)); (case ay => exact HC310_4.out); rintro e w38 ⟨v312, rfl, ho0, hb⟩; refine ⟨_, rfl, ?_⟩; have HO313 := aa.mk (Kd.bn (Kd.cu ho0 (Kd.dP (pR_ fu.out))) (aH bl_)); replace fu := aa.mk (Kd.cB (pR_ fu.out) (Kd.bW ho0) hb); replace mY := kb_ mY hb; replace HB := aa.mk (av bl_ hb); obtain ⟨Ao40, co40, eo40⟩ := Kd.bz HO313.out; subst eo40) | ((with_reducible refine nz (b := .append) (xs := #[.tmp 55, .tmp 61]) rfl ?_); at_builtin; refine Kd.wZ k41 (w0 := w) w.heap.size rfl (.tmp 55) (.tmp 61) 37 41 (.agg #[(.int .i64 0), (.int .i64 0), (.int .i64 0)]) 24 rfl Tryd.underlying37 info41 rfl (by decide) (by omega) u5 cz t311 _ _ _ (fun k_ => some k_ ≠ (.slice Ao40 t311.length co40 : Value).ownBlock) (fun _ => False) rfl rfl ?aO ?aR (fun _ _ h => h) (fun _ h => h.elim) ?aF ?aB ?aS ?aL ?_; (case aR => exact cb_ ((Kd.aM HO313.out).2.2)); (case aB => exact bl_); (case aF => exact (fun k_ hk => Kd.fresh' (Kd.dP (pR_ HO313.out)) k_ hk)); (case aO => exact (by exact Kd.aU fu.out (fun _ hk => hk.2))); (case aS => exact (aH bl_)); (case aL => have := LMc36.out; omega); intro v315 w39 ho hb hg hat; rw [← Ny314.out] at ho; have HO316 := aa.mk (ho); replace mY := aa.mk (gI (g := Gj) (o := .cells #[.int .i64 ah, .int .i64 au, .int .i64 ak, .int .i64 aj, .slice (some ad310) af.length aI] 24 (0, 0)) bk_ hg (Kd.pE fu.out mY.out (by decide))); replace HB := aa.mk (hb); clear fu; clear ho hb hg hat))
            go_roundg k2
            case measure => have := HJ11.out; have := HK2.out; omega
            case rel => exact ⟨(y314), (wrap64 (bK + 1)), rs_, H', ⟨by have := HJ11.out; have := HK2.out; omega⟩, ⟨by exact Kd.aU HO316.out (fun _ hk => trivial)⟩, ⟨bk_⟩, ⟨bl_⟩⟩
           ·rw [if_neg c36] at H; exact absurd H (by simp)
          ·rw [if_neg c34] at H; exact absurd H (by simp)
         ·rw [if_neg c33] at H; have LD := decide_eq_false c33; clear c33; obtain rfl := Option.some.inj H; obtain ⟨_, _, _, _, hcz41_4, _, _, _, _, _⟩ := bf mY.out; go_wp2; go_ret; exact ⟨_, re_, pR_ fu.out, bl_⟩


/-! ### fO: function 22 -/
def fO.f (k : Nat) (ah : Int) (au : Int) (ak : Int) (aj : Int) (af : List (S24)) : Option (Int) := (dH.f k ah au ak aj af 11).bind fun t318 => (if t318 > 10 then (some 9) else ((aK.f k ah au ak aj af).bind fun t319 => (if t319 = 0 then ((bA.f k ah au ak aj af).bind fun t320 => (if (t320.length : Int) > 24 then (some 9) else (some 0))) else (some t319))))
set_option maxHeartbeats 8000000 in
set_option maxRecDepth 100000 in
theorem fO.calls (k : Nat) (ah : Int) (au : Int) (ak : Int) (aj : Int) (aJ : Option Addr) (aI : Nat) (af : List (S24)) (r : Int) (w : World) (dz : Kd.C k24 w aJ af.length af) (dL : af.length ≤ aI) (h : fO.f k ah au ak aj af = some r) :
  Calls Tryd.prog 22 #[.agg #[.int .i64 ah, .int .i64 au, .int .i64 ak, .int .i64 aj, .slice aJ af.length aI]] w fun e w' => e = .returned (.int .i64 r) ∧ Below w.heap.size w w' := by
 have bu := aa.mk dz; have bT := aa.mk dL; clear dz dL; have HB := aa.mk (Below.refl w.heap.size w); have H := h; unfold fO.f at H; clear h; replace H := Option.bind_eq_some_iff.mp H; obtain ⟨t318, A20, H⟩ := H; have A2 := aa.mk A20; clear A20; by_cases c3 : t318 > 10
 ·rw [if_pos c3] at H; have kS : decide (10 < t318) = true := decide_eq_true c3; clear c3; obtain rfl := Option.some.inj H; go_enter Tryd.func22, Tryd.ntmps22; go_wp2_with (first | ((with_reducible refine aD (N := 1) rfl ?_); refine bx_ (#[.int .i64 ah, .int .i64 au, .int .i64 ak, .int .i64 aj, .slice aJ af.length aI]) 24 ?_; intro gb317 hg w4 nR _ HB hb; clear hb hg; obtain ⟨PL, hcz5_1, hcz5_2, hcz5_3, hcz5_4, _, _, _, _, _⟩ := bf nR.out) | ((with_reducible refine az (f := 45) rfl ?_); refine aT (some 5) rfl rfl Tryd.func45 (by kernel_rfl) rfl #[.agg #[.int .i64 ah, .int .i64 au, .int .i64 ak, .int .i64 aj, .slice aJ af.length aI], .int .i64 11] rfl mp_ ?_; (with_reducible refine (dH.calls k ah au ak aj _ _ af 11 t318 _ ?ax ?ay A2.out).mono ?_); (case ax => exact cb_ (Kd.aC bu.out HB.out)); (case ay => exact bT.out); rintro e w6 ⟨rfl, hb⟩; refine ⟨_, rfl, ?_⟩; replace HB := aa.mk (av bl_ hb)))
  go_ret; exact ⟨re_, bl_⟩
 ·rw [if_neg c3] at H; have kS : decide (10 < t318) = false := decide_eq_false c3; clear c3; replace H := Option.bind_eq_some_iff.mp H; obtain ⟨t319, A70, H⟩ := H; have A7 := aa.mk A70; clear A70; by_cases c8 : t319 = 0
  ·rw [if_pos c8] at H; obtain ⟨rJ, Bi⟩ := bq_ c8; clear c8; replace H := Option.bind_eq_some_iff.mp H; obtain ⟨t320, A90, H⟩ := H; have A9 := aa.mk A90; clear A90; by_cases c10 : (t320.length : Int) > 24
   ·rw [if_pos c10] at H; have pG : decide (24 < (t320.length : Int)) = true := decide_eq_true c10; clear c10; obtain rfl := Option.some.inj H; go_enter Tryd.func22, Tryd.ntmps22; go_wp2_with (first | ((with_reducible refine aD (N := 1) rfl ?_); refine bx_ (#[.int .i64 ah, .int .i64 au, .int .i64 ak, .int .i64 aj, .slice aJ af.length aI]) 24 ?_; intro gb317 hg w11 nR _ HB hb; clear hb hg; obtain ⟨p9, sD, EH, EI, zt, _, _, _, _, _⟩ := bf nR.out) | ((with_reducible refine az (f := 45) rfl ?_); refine aT (some 5) rfl rfl Tryd.func45 (by kernel_rfl) rfl #[.agg #[.int .i64 ah, .int .i64 au, .int .i64 ak, .int .i64 aj, .slice aJ af.length aI], .int .i64 11] rfl mp_ ?_; (with_reducible refine (dH.calls k ah au ak aj _ _ af 11 t318 _ ?ax ?ay A2.out).mono ?_); (case ax => exact cb_ (Kd.aC bu.out HB.out)); (case ay => exact bT.out); rintro e w13 ⟨rfl, hb⟩; refine ⟨_, rfl, ?_⟩; replace nR := kb_ nR hb; replace HB := aa.mk (av bl_ hb); obtain ⟨xQ, zi, En, zk, xR, _, _, _, _, _⟩ := bf nR.out) | ((with_reducible refine az (f := 46) rfl ?_); refine aT (some 8) rfl rfl Tryd.func46 (by kernel_rfl) rfl #[.agg #[.int .i64 ah, .int .i64 au, .int .i64 ak, .int .i64 aj, .slice aJ af.length aI]] rfl mp_ ?_; (with_reducible refine (aK.calls k ah au ak aj _ _ af t319 _ ?ax ?ay A7.out).mono ?_); (case ax => exact cb_ (Kd.aC bu.out HB.out)); (case ay => exact bT.out); rintro e w15 ⟨rfl, hb⟩; refine ⟨_, rfl, ?_⟩; replace nR := kb_ nR hb; replace HB := aa.mk (av bl_ hb); obtain ⟨xS, xU, EJ, BR, zu, _, _, _, _, _⟩ := bf nR.out) | ((with_reducible refine az (f := 47) rfl ?_); refine aT (some 13) rfl rfl Tryd.func47 (by kernel_rfl) rfl #[.agg #[.int .i64 ah, .int .i64 au, .int .i64 ak, .int .i64 aj, .slice aJ af.length aI]] rfl mp_ ?_; (with_reducible refine (bA.calls k ah au ak aj _ _ af t320 _ ?ax ?ay A9.out).mono ?_); (case ax => exact cb_ (Kd.aC bu.out HB.out)); (case ay => exact bT.out); rintro e w17 ⟨v321, rfl, ho0, hb⟩; refine ⟨_, rfl, ?_⟩; have HO322 := aa.mk (Kd.bn ho0 (aH bl_)); replace HB := aa.mk (av bl_ hb); obtain ⟨Ao18, CB, CE⟩ := Kd.bz HO322.out; subst CE))
    go_ret; exact ⟨re_, bl_⟩
   ·rw [if_neg c10] at H; have pG : decide (24 < (t320.length : Int)) = false := decide_eq_false c10; clear c10; obtain rfl := Option.some.inj H; go_enter Tryd.func22, Tryd.ntmps22; go_wp2_with (first | ((with_reducible refine aD (N := 1) rfl ?_); refine bx_ (#[.int .i64 ah, .int .i64 au, .int .i64 ak, .int .i64 aj, .slice aJ af.length aI]) 24 ?_; intro gb317 hg w19 nR _ HB hb; clear hb hg; obtain ⟨xO, xP, I4, hcz20_3, SN, _, _, _, _, _⟩ := bf nR.out) | ((with_reducible refine az (f := 45) rfl ?_); refine aT (some 5) rfl rfl Tryd.func45 (by kernel_rfl) rfl #[.agg #[.int .i64 ah, .int .i64 au, .int .i64 ak, .int .i64 aj, .slice aJ af.length aI], .int .i64 11] rfl mp_ ?_; (with_reducible refine (dH.calls k ah au ak aj _ _ af 11 t318 _ ?ax ?ay A2.out).mono ?_); (case ax => exact cb_ (Kd.aC bu.out HB.out)); (case ay => exact bT.out); rintro e w21 ⟨rfl, hb⟩; refine ⟨_, rfl, ?_⟩; replace nR := kb_ nR hb; replace HB := aa.mk (av bl_ hb); obtain ⟨BP, zf, Nn, hcz22_3, hcz22_4, _, _, _, _, _⟩ := bf nR.out) | ((with_reducible refine az (f := 46) rfl ?_); refine aT (some 8) rfl rfl Tryd.func46 (by kernel_rfl) rfl #[.agg #[.int .i64 ah, .int .i64 au, .int .i64 ak, .int .i64 aj, .slice aJ af.length aI]] rfl mp_ ?_; (with_reducible refine (aK.calls k ah au ak aj _ _ af t319 _ ?ax ?ay A7.out).mono ?_); (case ax => exact cb_ (Kd.aC bu.out HB.out)); (case ay => exact bT.out); rintro e w23 ⟨rfl, hb⟩; refine ⟨_, rfl, ?_⟩; replace nR := kb_ nR hb; replace HB := aa.mk (av bl_ hb); obtain ⟨I8, Eo, RJ, hcz24_3, hcz24_4, _, _, _, _, _⟩ := bf nR.out) | ((with_reducible refine az (f := 47) rfl ?_); refine aT (some 13) rfl rfl Tryd.func47 (by kernel_rfl) rfl #[.agg #[.int .i64 ah, .int .i64 au, .int .i64 ak, .int .i64 aj, .slice aJ af.length aI]] rfl mp_ ?_; (with_reducible refine (bA.calls k ah au ak aj _ _ af t320 _ ?ax ?ay A9.out).mono ?_); (case ax => exact cb_ (Kd.aC bu.out HB.out)); (case ay => exact bT.out); rintro e w25 ⟨v321, rfl, ho0, hb⟩; refine ⟨_, rfl, ?_⟩; have HO322 := aa.mk (Kd.bn ho0 (aH bl_)); replace HB := aa.mk (av bl_ hb); obtain ⟨Ao26, co26, eo26⟩ := Kd.bz HO322.out; subst eo26))
    go_ret; exact ⟨re_, bl_⟩
  ·rw [if_neg c8] at H; obtain ⟨rJ, Bi⟩ := bn_ c8; obtain rfl := Option.some.inj H; go_enter Tryd.func22, Tryd.ntmps22; go_wp2_with (first | ((with_reducible refine aD (N := 1) rfl ?_); refine bx_ (#[.int .i64 ah, .int .i64 au, .int .i64 ak, .int .i64 aj, .slice aJ af.length aI]) 24 ?_; intro gb317 hg w27 nR _ HB hb; clear hb hg; obtain ⟨BU, xX, EN, EO, EP, _, _, _, _, _⟩ := bf nR.out) | ((with_reducible refine az (f := 45) rfl ?_); refine aT (some 5) rfl rfl Tryd.func45 (by kernel_rfl) rfl #[.agg #[.int .i64 ah, .int .i64 au, .int .i64 ak, .int .i64 aj, .slice aJ af.length aI], .int .i64 11] rfl mp_ ?_; (with_reducible refine (dH.calls k ah au ak aj _ _ af 11 t318 _ ?ax ?ay A2.out).mono ?_); (case ax => exact cb_ (Kd.aC bu.out HB.out)); (case ay => exact bT.out); rintro e w29 ⟨rfl, hb⟩; refine ⟨_, rfl, ?_⟩; replace nR := kb_ nR hb; replace HB := aa.mk (av bl_ hb); obtain ⟨Ep, Er, Np, Nq, Nr, _, _, _, _, _⟩ := bf nR.out) | ((with_reducible refine az (f := 46) rfl ?_); refine aT (some 8) rfl rfl Tryd.func46 (by kernel_rfl) rfl #[.agg #[.int .i64 ah, .int .i64 au, .int .i64 ak, .int .i64 aj, .slice aJ af.length aI]] rfl mp_ ?_; (with_reducible refine (aK.calls k ah au ak aj _ _ af t319 _ ?ax ?ay A7.out).mono ?_); (case ax => exact cb_ (Kd.aC bu.out HB.out)); (case ay => exact bT.out); rintro e w31 ⟨rfl, hb⟩; refine ⟨_, rfl, ?_⟩; replace HB := aa.mk (av bl_ hb)))
   go_ret; exact ⟨re_, bl_⟩

end Go.Proofs.YtggelekooacmnaaDoor.Q
-- types.Equal and slices.EqualFunc at types, walked by hand
namespace Go.Proofs.YtggelekooacmnaaDoor.Q
open Go.RowKit Go.Proofs.YtggelekooacmnaaDoorW.aQ Go.Proofs.YtggelekooacmnaaDoorW.bH Go.Proofs.YtggelekooacmnaaDoorW.bL
set_option linter.unusedVariables false
set_option linter.unusedSimpArgs false
end Go.Proofs.YtggelekooacmnaaDoor.Q
set_option linter.unusedVariables false
set_option linter.unusedSimpArgs false
namespace Go.Proofs.YtggelekooacmnaaDoor.Pure
open Go.RowKit Go.Proofs.YtggelekooacmnaaDoor.Q Go.Proofs.YtggelekooacmnaaDoorW.aQ Go.Proofs.YtggelekooacmnaaDoorW.bH Go.Proofs.YtggelekooacmnaaDoorW.bL
-- plain laws on types: what the printed functions of the types come to
theorem SQ {n : Int} (h1 : -9223372036854775808 ≤ n) (h2 : n ≤ 9223372036854775807) : wrap64 n = n := by unfold wrap64; omega
theorem iw {n : Nat} (h2 : n ≤ 1000000000) : wrap64 ((n : Int) + 1) = ((n + 1 : Nat) : Int) := by unfold wrap64; omega
theorem rdT {l : List S24} {i : Nat} (h : i < l.length) : ag l (i : Int) = l[i] := by
  unfold ag; simp [List.getD, h]
theorem rdT0 {l : List S24} (h : 0 < l.length) : ag l 0 = l[0] := by
  unfold ag; simp [List.getD, h]
/-- bounded: n levels at most, each list of at most a thousand -/
def Bd : Nat → S24 → Prop
  | 0, _ => False
  | n + 1, t => t.f4.length ≤ 1000 ∧ ∀ x ∈ t.f4, Bd n x
/-- an evaluation of a function of types at a type -/
def at_ {α : Type} (g : Nat → Int → Int → Int → Int → List S24 → Option α) (t : S24) : Nat → Option α := fun k => g k t.f0 t.f1 t.f2 t.f3 t.f4
def mxl (f : S24 → Int) : List S24 → Int → Int
  | [], m => m
  | x :: l, m => mxl f l (mx m (f x))
def dep : Nat → S24 → Int
  | 0, _ => 0
  | n + 1, t => mxl (dep n) t.f4 0 + 1
theorem mx_le {a b c : Int} (h1 : a ≤ c) (h2 : b ≤ c) : mx a b ≤ c := by unfold mx; split <;> omega
theorem mx_ge {a b : Int} : a ≤ mx a b ∧ b ≤ mx a b := by unfold mx; split <;> omega
theorem Ii (f : S24 → Int) : ∀ (l : List S24) (m : Int), m ≤ mxl f l m
  | [], m => Int.le_refl _
  | x :: l, m => Int.le_trans mx_ge.1 (Ii f l _)
theorem PN {f : S24 → Int} {c : Int} : ∀ {l : List S24} {m : Int}, (∀ x ∈ l, f x ≤ c) → m ≤ c → mxl f l m ≤ c
  | [], m, _, h => h
  | x :: l, m, h, hm => PN (l := l) (fun y hy => h y (List.mem_cons_of_mem x hy)) (mx_le hm (h x List.mem_cons_self))
theorem LY : ∀ (n : Nat) (t : S24), 0 ≤ dep n t ∧ dep n t ≤ n
  | 0, t => by simp [dep]
  | n + 1, t => by
    have h1 := Ii (dep n) t.f4 0
    have h2 := PN (f := dep n) (c := n) (l := t.f4) (m := 0) (fun x _ => (LY n x).2) (by omega)
    simp only [dep]; omega
theorem depth_l0 (n : Nat) (hn : n ≤ 1000) (l : List S24) (hl : l.length ≤ 1000) (ih : ∀ t ∈ l, Ev (at_ dX.f t) (dep n t)) :
    ∀ (d i : Nat) (m : Int), 0 ≤ m → m ≤ 1000 → i + d = l.length → Ev (fun k => dX.l0 k m l l.length i) (mxl (dep n) (l.drop i) m + 1) := by
  intro d
  induction d with
  | zero =>
    intro i m h0 h1 hi
    refine ⟨1, fun k hk => ?_⟩
    obtain ⟨k, rfl⟩ : ∃ j, k = j + 1 := ⟨k - 1, by omega⟩
    simp only [dX.l0]
    rw [if_neg (by omega), List.drop_eq_nil_of_le (by omega), SQ (by omega) (by omega)]; rfl
  | succ d IH =>
    intro i m h0 h1 hi
    have hlt : i < l.length := by omega
    obtain ⟨K1, e1⟩ := ih l[i] (List.getElem_mem hlt)
    have hb := LY n l[i]
    obtain ⟨K2, e2⟩ := IH (i + 1) (mx m (dep n l[i])) (Int.le_trans h0 mx_ge.1) (mx_le h1 (by omega)) (by omega)
    refine ⟨max K1 K2 + 1, fun k hk => ?_⟩
    obtain ⟨k, rfl⟩ : ∃ j, k = j + 1 := ⟨k - 1, by omega⟩
    have e1' := e1 k (by omega)
    have e2' := e2 k (by omega)
    unfold at_ at e1'
    dsimp only at e1' e2'
    simp only [dX.l0]
    rw [if_pos (by omega), if_pos (by omega), if_pos (by omega), rdT hlt, e1', Option.bind_some, iw (by omega), e2', List.drop_eq_getElem_cons hlt]; rfl
theorem PO (n : Nat) : ∀ (t : S24), n ≤ 1000 → Bd n t → Ev (at_ dX.f t) (dep n t) := by
  induction n with
  | zero => intro t _ h; exact h.elim
  | succ n ih =>
    intro t hn hb
    have h := depth_l0 n (by omega) t.f4 hb.1 (fun x hx => ih x (by omega) (hb.2 x hx)) t.f4.length 0 0 (by omega) (by omega) (by omega)
    exact h.step (fun k => by simp only [at_, dX.f]; rfl)
/-- the DZ depth -/
theorem mn_eq (a b : Int) : mn a b = min a b := by unfold mn; split <;> omega
theorem mx_eq (a b : Int) : mx a b = max a b := by unfold mx; split <;> omega
theorem mxl_eq (f : S24 → Int) : ∀ (l : List S24) (m c : Int), mxl (fun x => min (f x) c) l (min m c) = min (mxl f l m) c
  | [], m, c => rfl
  | x :: l, m, c => by
    simp only [mxl]
    rw [show mx (min m c) (min (f x) c) = min (mx m (f x)) c from by simp only [mx_eq]; omega]
    exact mxl_eq f l _ c
theorem Depth_l0 (n : Nat) (hn : n ≤ 1000) (l : List S24) (hl : l.length ≤ 1000) (c a b m' : Int) (hc : 1 ≤ c) (hc' : c ≤ 1000) (ih : ∀ t ∈ l, Ev (fun k => dH.f k t.f0 t.f1 t.f2 t.f3 t.f4 c) (min (dep n t) c)) (k0 : Int) :
    ∀ (d i : Nat) (m : Int), 0 ≤ m → m ≤ c → i + d = l.length → Ev (fun k => dH.l0 k (c + 1) m i k0 a b m' l) (min (mxl (fun x => min (dep n x) c) (l.drop i) m + 1) (c + 1)) := by
  intro d
  induction d with
  | zero =>
    intro i m h0 h1 hi
    refine ⟨1, fun k hk => ?_⟩
    obtain ⟨k, rfl⟩ : ∃ j, k = j + 1 := ⟨k - 1, by omega⟩
    simp only [dH.l0]
    rw [if_neg (by omega), List.drop_eq_nil_of_le (by omega), SQ (by omega) (by omega), mn_eq]; rfl
  | succ d IH =>
    intro i m h0 h1 hi
    have hlt : i < l.length := by omega
    obtain ⟨K1, e1⟩ := ih l[i] (List.getElem_mem hlt)
    have hb := LY n l[i]
    obtain ⟨K2, e2⟩ := IH (i + 1) (mx m (min (dep n l[i]) c)) (Int.le_trans h0 mx_ge.1) (mx_le h1 (by omega)) (by omega)
    refine ⟨max K1 K2 + 1, fun k hk => ?_⟩
    obtain ⟨k, rfl⟩ : ∃ j, k = j + 1 := ⟨k - 1, by omega⟩
    have e1' := e1 k (by omega)
    have e2' := e2 k (by omega)
    dsimp only at e1' e2'
    have ew : wrap64 (c + 1 - 1) = c := by unfold wrap64; omega
    simp only [dH.l0]
    rw [if_pos (by omega), if_pos (by omega), rdT hlt, ew, e1', Option.bind_some, iw (by omega), e2', List.drop_eq_getElem_cons hlt]; rfl
theorem PQ (n : Nat) : ∀ (t : S24) (c : Int), n ≤ 1000 → 1 ≤ c → c ≤ 1000 → Bd n t → Ev (fun k => dH.f k t.f0 t.f1 t.f2 t.f3 t.f4 c) (min (dep n t) c) := by
  induction n with
  | zero => intro t c _ _ _ h; exact h.elim
  | succ n ih =>
    intro t c hn h1 h2 hb
    by_cases hc : c = 1
    · subst hc
      have hd := LY n
      have hd1 : 1 ≤ dep (n + 1) t := by have := Ii (dep n) t.f4 0; simp only [dep]; omega
      refine ⟨1, fun k hk => ?_⟩
      obtain ⟨k, rfl⟩ : ∃ j, k = j + 1 := ⟨k - 1, by omega⟩
      simp only [dH.f]
      rw [if_neg (by omega)]
      have : min (dep (n + 1) t) 1 = 1 := by omega
      rw [this]
      split
      · rfl
      · rw [mn_eq]; rfl
    · obtain ⟨c, rfl⟩ : ∃ e, c = e + 1 := ⟨c - 1, by omega⟩
      have h := Depth_l0 n (by omega) t.f4 hb.1 c t.f1 t.f2 t.f3 (by omega) (by omega) (fun x hx => ih x c (by omega) (by omega) (by omega) (hb.2 x hx)) t.f0 t.f4.length 0 0 (by omega) (by omega) (by omega)
      have e : min (mxl (fun x => min (dep n x) c) (t.f4.drop 0) 0 + 1) (c + 1) = min (dep (n + 1) t) (c + 1) := by
        have := mxl_eq (dep n) t.f4 0 c
        rw [show min (0 : Int) c = 0 from by omega] at this
        simp only [dep, List.drop_zero, this]; omega
      rw [← e]
      exact h.step (fun k => by simp only [dH.f]; rw [if_pos (by omega)]; rfl)

end Go.Proofs.YtggelekooacmnaaDoor.Pure
set_option linter.unusedVariables false
set_option linter.unusedSimpArgs false
namespace Go.Proofs.YtggelekooacmnaaDoor.Pure
open Go.RowKit Go.Proofs.YtggelekooacmnaaDoor.Q Go.Proofs.YtggelekooacmnaaDoorW.aQ Go.Proofs.YtggelekooacmnaaDoorW.bH Go.Proofs.YtggelekooacmnaaDoorW.bL
-- faults
def fl1 (f : S24 → Int) : List S24 → Int
  | [] => 0
  | x :: l => if f x = 0 then (if x.f0 = 3 then 8 else if x.f0 = 4 then 8 else fl1 f l) else f x
abbrev unus (a0 a1 a2 a3 : Int) (l : List S24) : Prop := (a0 ≠ 2 ∧ (a1 ≠ 0 ∨ a2 ≠ 0)) ∨ (a0 ≠ 6 ∧ a3 ≠ 0) ∨ (a0 < 5 ∧ l.length ≠ 0)
def lst1 (f : S24 → Int) : List S24 → Int
  | [x] => if f x = 0 then (if x.f0 = 1 then 0 else if x.f0 = 2 then 0 else 8) else f x
  | _ => 2
def flt : Nat → S24 → Int
  | 0, _ => 0
  | n + 1, t => if t.f0 < 1 ∨ 6 < t.f0 then 14 else if unus t.f0 t.f1 t.f2 t.f3 t.f4 then 2
    else if t.f0 = 2 then (if t.f1 < -1000 ∨ t.f1 > t.f2 ∨ t.f2 > 1000 then 1 else 0)
    else if t.f0 = 5 then (if t.f4.length < 2 ∨ t.f4.length > 4 then 1 else fl1 (flt n) t.f4)
    else if t.f0 = 6 then (if t.f3 < 1 ∨ t.f3 > 4 then 1 else lst1 (flt n) t.f4)
    else 0
theorem Kv {a : Int} (h : ¬ (a < 1 ∨ 6 < a)) : a = 1 ∨ a = 2 ∨ a = 3 ∨ a = 4 ∨ a = 5 ∨ a = 6 := by omega
theorem OV {a0 a1 a2 a3 : Int} {l : List S24} (h : ¬ (a0 < 1 ∨ 6 < a0)) : jO.f a0 a1 a2 a3 l = some (decide (unus a0 a1 a2 a3 l)) := by
  unfold jO.f unus
  rcases Kv h with rfl | rfl | rfl | rfl | rfl | rfl <;> by_cases h1 : a1 = 0 <;> by_cases h2 : a2 = 0 <;> by_cases h3 : a3 = 0 <;> by_cases h4 : l = [] <;> simp [h1, h2, h3, h4]
theorem fault_l0 (n : Nat) (l : List S24) (hl : l.length ≤ 1000) (ih : ∀ t ∈ l, Ev (at_ bC.f t) (flt n t)) :
    ∀ (d i : Nat), i + d = l.length → Ev (fun k => bC.l0 k l l.length i) (fl1 (flt n) (l.drop i)) := by
  intro d
  induction d with
  | zero =>
    intro i hi
    refine ⟨1, fun k hk => ?_⟩
    obtain ⟨k, rfl⟩ : ∃ j, k = j + 1 := ⟨k - 1, by omega⟩
    simp only [bC.l0]
    rw [if_neg (by omega), List.drop_eq_nil_of_le (by omega)]; rfl
  | succ d IH =>
    intro i hi
    have hlt : i < l.length := by omega
    obtain ⟨K1, e1⟩ := ih l[i] (List.getElem_mem hlt)
    obtain ⟨K2, e2⟩ := IH (i + 1) (by omega)
    refine ⟨max K1 K2 + 1, fun k hk => ?_⟩
    obtain ⟨k, rfl⟩ : ∃ j, k = j + 1 := ⟨k - 1, by omega⟩
    have e1' := e1 k (by omega)
    have e2' := e2 k (by omega)
    unfold at_ at e1'
    dsimp only at e1' e2'
    simp only [bC.l0]
    rw [if_pos (by omega), if_pos (by omega), if_pos (by omega), rdT hlt, e1', Option.bind_some, iw (by omega), e2', List.drop_eq_getElem_cons hlt]
    simp only [fl1]
    repeat' split
    all_goals rfl
theorem PR (n : Nat) : ∀ (t : S24), n ≤ 1000 → Bd n t → Ev (at_ bC.f t) (flt n t) := by
  induction n with
  | zero => intro t _ h; exact h.elim
  | succ n ih =>
    intro t hn hb
    obtain ⟨a0, a1, a2, a3, l⟩ := t
    have hl : l.length ≤ 1000 := hb.1
    by_cases hk : a0 < 1 ∨ 6 < a0
    · refine ⟨2, fun k hk2 => ?_⟩
      obtain ⟨k, rfl⟩ : ∃ j, k = j + 2 := ⟨k - 2, by omega⟩
      simp only [at_, bC.f, flt]
      rw [if_pos hk]
      split
      · simp only [bC.j0, if_true]
      · rw [show decide (a0 > 6) = true from by simp; omega]; simp only [bC.j0, if_true]
    · have hj : ∀ k, at_ bC.f ⟨a0, a1, a2, a3, l⟩ (k + 2) = bC.j0 (k + 1) false a0 a1 a2 a3 l := by
        intro k
        simp only [at_, bC.f]
        rw [if_neg (by omega), show decide (a0 > 6) = false from by simp; omega]
      by_cases hu : unus a0 a1 a2 a3 l
      · refine ⟨2, fun k hk2 => ?_⟩
        obtain ⟨k, rfl⟩ : ∃ j, k = j + 2 := ⟨k - 2, by omega⟩
        rw [hj]
        simp only [bC.j0]
        rw [OV hk, decide_eq_true hu]
        simp only [flt, if_neg hk, if_pos hu]; rfl
      · have hj0 : ∀ k, at_ bC.f ⟨a0, a1, a2, a3, l⟩ (k + 2) = (if a0 = 2 then (if a1 < (-1000) then (some 1) else (if a1 > a2 then (some 1) else (if a2 > 1000 then (some 1) else (some 0)))) else (if a0 = 5 then (if (l.length : Int) < 2 then (bC.j1 k true a0 a1 a2 a3 l) else (bC.j1 k (decide ((l.length : Int) > 4)) a0 a1 a2 a3 l)) else (if a0 = 6 then (if a3 < 1 then (bC.j3 k true a0 a1 a2 a3 l) else (bC.j3 k (decide (a3 > 4)) a0 a1 a2 a3 l)) else (some 0)))) := by
          intro k
          rw [hj]
          simp only [bC.j0]
          rw [OV hk, decide_eq_false hu]; rfl
        have hs : flt (n + 1) ⟨a0, a1, a2, a3, l⟩ = (if a0 = 2 then (if a1 < -1000 ∨ a1 > a2 ∨ a2 > 1000 then 1 else 0) else if a0 = 5 then (if l.length < 2 ∨ l.length > 4 then 1 else fl1 (flt n) l) else if a0 = 6 then (if a3 < 1 ∨ a3 > 4 then 1 else lst1 (flt n) l) else 0) := by
          simp only [flt, if_neg hk, if_neg hu]
        rw [hs]
        by_cases k2 : a0 = 2
        · refine ⟨2, fun k hk2 => ?_⟩
          obtain ⟨k, rfl⟩ : ∃ j, k = j + 2 := ⟨k - 2, by omega⟩
          rw [hj0, if_pos k2, if_pos k2]
          by_cases c1 : a1 < -1000
          · rw [if_pos c1, if_pos (by omega)]
          · by_cases c2 : a1 > a2
            · rw [if_neg c1, if_pos c2, if_pos (by omega)]
            · by_cases c3 : a2 > 1000
              · rw [if_neg c1, if_neg c2, if_pos c3, if_pos (by omega)]
              · rw [if_neg c1, if_neg c2, if_neg c3, if_neg (by omega)]
        · by_cases k5 : a0 = 5
          · by_cases c : l.length < 2 ∨ l.length > 4
            · refine ⟨3, fun k hk2 => ?_⟩
              obtain ⟨k, rfl⟩ : ∃ j, k = j + 3 := ⟨k - 3, by omega⟩
              rw [hj0, if_neg k2, if_neg k2, if_pos k5, if_pos k5, if_pos c]
              split
              · simp only [bC.j1, if_true]
              · rw [show decide ((l.length : Int) > 4) = true from by simp; omega]; simp only [bC.j1, if_true]
            · obtain ⟨K, e⟩ := fault_l0 n l hl (fun x hx => ih x (by omega) (hb.2 x hx)) l.length 0 (by omega)
              refine ⟨K + 3, fun k hk2 => ?_⟩
              obtain ⟨k, rfl⟩ : ∃ j, k = j + 3 := ⟨k - 3, by omega⟩
              rw [hj0, if_neg k2, if_neg k2, if_pos k5, if_pos k5, if_neg c, if_neg (by omega), show decide ((l.length : Int) > 4) = false from by simp; omega]
              have e' := e k (by omega)
              dsimp only at e'
              simp only [bC.j1]
              rw [if_neg (by decide)]
              exact e'
          · by_cases k6 : a0 = 6
            · by_cases c : a3 < 1 ∨ a3 > 4
              · refine ⟨3, fun k hk2 => ?_⟩
                obtain ⟨k, rfl⟩ : ∃ j, k = j + 3 := ⟨k - 3, by omega⟩
                rw [hj0, if_neg k2, if_neg k2, if_neg k5, if_neg k5, if_pos k6, if_pos k6, if_pos c]
                split
                · simp only [bC.j3, if_true]
                · rw [show decide (a3 > 4) = true from by simp; omega]; simp only [bC.j3, if_true]
              · have hj3 : ∀ k, at_ bC.f ⟨a0, a1, a2, a3, l⟩ (k + 3) = bC.j3 (k + 1) false a0 a1 a2 a3 l := by
                  intro k
                  rw [hj0, if_neg k2, if_neg k5, if_pos k6, if_neg (by omega), show decide (a3 > 4) = false from by simp; omega]
                rw [if_neg k2, if_neg k5, if_pos k6, if_neg c]
                match l, hl, hb, hj3 with
                | [x], hl, hb, hj3 =>
                  obtain ⟨K, e⟩ := ih x (by omega) (hb.2 x List.mem_cons_self)
                  refine ⟨K + 3, fun k hk2 => ?_⟩
                  obtain ⟨k, rfl⟩ : ∃ j, k = j + 3 := ⟨k - 3, by omega⟩
                  have e' := e k (by omega)
                  unfold at_ at e'
                  rw [hj3]
                  simp only [bC.j3]
                  rw [if_neg (by decide), if_pos (by simp), if_pos (by simp), rdT0 (by simp), List.getElem_cons_zero, e', Option.bind_some]
                  simp only [lst1]
                  repeat' split
                  all_goals rfl
                | [], hl, hb, hj3 =>
                  refine ⟨3, fun k hk2 => ?_⟩
                  obtain ⟨k, rfl⟩ : ∃ j, k = j + 3 := ⟨k - 3, by omega⟩
                  rw [hj3]; simp only [bC.j3]; rfl
                | x :: y :: l, hl, hb, hj3 =>
                  refine ⟨3, fun k hk2 => ?_⟩
                  obtain ⟨k, rfl⟩ : ∃ j, k = j + 3 := ⟨k - 3, by omega⟩
                  rw [hj3]; simp only [bC.j3]
                  rw [if_neg (by decide), if_neg (by simp; omega)]; rfl
            · refine ⟨2, fun k hk2 => ?_⟩
              obtain ⟨k, rfl⟩ : ∃ j, k = j + 2 := ⟨k - 2, by omega⟩
              rw [hj0]
              simp only [if_neg k2, if_neg k5, if_neg k6]
theorem wrong_j0 {a0 a1 a2 a3 : Int} {l : List S24} (k : Nat) (h : ¬ (a0 < 1 ∨ 6 < a0)) : aK.j0 (k + 1) a0 false a0 a1 a2 a3 l = aK.j1 k a0 (decide (unus a0 a1 a2 a3 l)) a0 a1 a2 a3 l := by
  unfold unus
  simp only [aK.j0]
  rcases Kv h with rfl | rfl | rfl | rfl | rfl | rfl <;> by_cases h1 : a1 = 0 <;> by_cases h2 : a2 = 0 <;> by_cases h3 : a3 = 0 <;> by_cases h4 : l = [] <;> simp [h1, h2, h3, h4] <;> (congr 1; cases l <;> simp_all <;> omega)
theorem wrong_l0 (n : Nat) (l : List S24) (hl : l.length ≤ 1000) (a0 a1 a2 a3 : Int) (ih : ∀ t ∈ l, Ev (at_ aK.f t) (flt n t)) :
    ∀ (d i : Nat), i + d = l.length → Ev (fun k => aK.l0 k i a0 a1 a2 a3 l) (fl1 (flt n) (l.drop i)) := by
  intro d
  induction d with
  | zero =>
    intro i hi
    refine ⟨1, fun k hk => ?_⟩
    obtain ⟨k, rfl⟩ : ∃ j, k = j + 1 := ⟨k - 1, by omega⟩
    simp only [aK.l0]
    rw [if_neg (by omega), List.drop_eq_nil_of_le (by omega)]; rfl
  | succ d IH =>
    intro i hi
    have hlt : i < l.length := by omega
    obtain ⟨K1, e1⟩ := ih l[i] (List.getElem_mem hlt)
    obtain ⟨K2, e2⟩ := IH (i + 1) (by omega)
    refine ⟨max K1 K2 + 1, fun k hk => ?_⟩
    obtain ⟨k, rfl⟩ : ∃ j, k = j + 1 := ⟨k - 1, by omega⟩
    have e1' := e1 k (by omega)
    have e2' := e2 k (by omega)
    unfold at_ at e1'
    dsimp only at e1' e2'
    simp only [aK.l0]
    rw [if_pos (by omega), if_pos (by omega), rdT hlt, e1', Option.bind_some, iw (by omega), e2', List.drop_eq_getElem_cons hlt]
    simp only [fl1]
    repeat' split
    all_goals rfl
theorem PS (n : Nat) : ∀ (t : S24), n ≤ 1000 → Bd n t → Ev (at_ aK.f t) (flt n t) := by
  induction n with
  | zero => intro t _ h; exact h.elim
  | succ n ih =>
    intro t hn hb
    obtain ⟨a0, a1, a2, a3, l⟩ := t
    have hl : l.length ≤ 1000 := hb.1
    by_cases hk : a0 < 1 ∨ 6 < a0
    · refine ⟨2, fun k hk2 => ?_⟩
      obtain ⟨k, rfl⟩ : ∃ j, k = j + 2 := ⟨k - 2, by omega⟩
      simp only [at_, aK.f, flt]
      rw [if_pos hk]
      split
      · simp only [aK.j0, if_true]
      · rw [show decide (a0 > 6) = true from by simp; omega]; simp only [aK.j0, if_true]
    · have hj : ∀ k, at_ aK.f ⟨a0, a1, a2, a3, l⟩ (k + 2) = aK.j1 k a0 (decide (unus a0 a1 a2 a3 l)) a0 a1 a2 a3 l := by
        intro k
        simp only [at_, aK.f]
        rw [if_neg (by omega), show decide (a0 > 6) = false from by simp; omega, wrong_j0 k hk]
      by_cases hu : unus a0 a1 a2 a3 l
      · refine ⟨3, fun k hk2 => ?_⟩
        obtain ⟨k, rfl⟩ : ∃ j, k = j + 3 := ⟨k - 3, by omega⟩
        rw [hj, decide_eq_true hu]
        simp only [aK.j1, flt, if_neg hk, if_pos hu, if_true]
      · have hj0 : ∀ k, at_ aK.f ⟨a0, a1, a2, a3, l⟩ (k + 3) = (if a0 = 2 then (if a1 < (-1000) then (some 1) else (if a1 > a2 then (some 1) else (if a2 > 1000 then (some 1) else (some 0)))) else (if a0 = 5 then (if (l.length : Int) < 2 then (aK.j2 k true a0 a1 a2 a3 l) else (aK.j2 k (decide ((l.length : Int) > 4)) a0 a1 a2 a3 l)) else (if a0 = 6 then (if a3 < 1 then (aK.j4 k true a0 a1 a2 a3 l) else (aK.j4 k (decide (a3 > 4)) a0 a1 a2 a3 l)) else (some 0)))) := by
          intro k
          rw [hj, decide_eq_false hu]
          simp only [aK.j1]
          rw [if_neg (by decide)]
        have hs : flt (n + 1) ⟨a0, a1, a2, a3, l⟩ = (if a0 = 2 then (if a1 < -1000 ∨ a1 > a2 ∨ a2 > 1000 then 1 else 0) else if a0 = 5 then (if l.length < 2 ∨ l.length > 4 then 1 else fl1 (flt n) l) else if a0 = 6 then (if a3 < 1 ∨ a3 > 4 then 1 else lst1 (flt n) l) else 0) := by
          simp only [flt, if_neg hk, if_neg hu]
        rw [hs]
        by_cases k2 : a0 = 2
        · refine ⟨3, fun k hk2 => ?_⟩
          obtain ⟨k, rfl⟩ : ∃ j, k = j + 3 := ⟨k - 3, by omega⟩
          rw [hj0, if_pos k2, if_pos k2]
          by_cases c1 : a1 < -1000
          · rw [if_pos c1, if_pos (by omega)]
          · by_cases c2 : a1 > a2
            · rw [if_neg c1, if_pos c2, if_pos (by omega)]
            · by_cases c3 : a2 > 1000
              · rw [if_neg c1, if_neg c2, if_pos c3, if_pos (by omega)]
              · rw [if_neg c1, if_neg c2, if_neg c3, if_neg (by omega)]
        · by_cases k5 : a0 = 5
          · by_cases c : l.length < 2 ∨ l.length > 4
            · refine ⟨4, fun k hk2 => ?_⟩
              obtain ⟨k, rfl⟩ : ∃ j, k = j + 4 := ⟨k - 4, by omega⟩
              rw [hj0, if_neg k2, if_neg k2, if_pos k5, if_pos k5, if_pos c]
              split
              · simp only [aK.j2, if_true]
              · rw [show decide ((l.length : Int) > 4) = true from by simp; omega]; simp only [aK.j2, if_true]
            · obtain ⟨K, e⟩ := wrong_l0 n l hl a0 a1 a2 a3 (fun x hx => ih x (by omega) (hb.2 x hx)) l.length 0 (by omega)
              refine ⟨K + 4, fun k hk2 => ?_⟩
              obtain ⟨k, rfl⟩ : ∃ j, k = j + 4 := ⟨k - 4, by omega⟩
              rw [hj0, if_neg k2, if_neg k2, if_pos k5, if_pos k5, if_neg c, if_neg (by omega), show decide ((l.length : Int) > 4) = false from by simp; omega]
              have e' := e k (by omega)
              dsimp only at e'
              simp only [aK.j2]
              rw [if_neg (by decide)]
              exact e'
          · by_cases k6 : a0 = 6
            · by_cases c : a3 < 1 ∨ a3 > 4
              · refine ⟨4, fun k hk2 => ?_⟩
                obtain ⟨k, rfl⟩ : ∃ j, k = j + 4 := ⟨k - 4, by omega⟩
                rw [hj0, if_neg k2, if_neg k2, if_neg k5, if_neg k5, if_pos k6, if_pos k6, if_pos c]
                split
                · simp only [aK.j4, if_true]
                · rw [show decide (a3 > 4) = true from by simp; omega]; simp only [aK.j4, if_true]
              · have hj3 : ∀ k, at_ aK.f ⟨a0, a1, a2, a3, l⟩ (k + 4) = aK.j4 (k + 1) false a0 a1 a2 a3 l := by
                  intro k
                  rw [hj0, if_neg k2, if_neg k5, if_pos k6, if_neg (by omega), show decide (a3 > 4) = false from by simp; omega]
                rw [if_neg k2, if_neg k5, if_pos k6, if_neg c]
                match l, hl, hb, hj3 with
                | [x], hl, hb, hj3 =>
                  obtain ⟨K, e⟩ := ih x (by omega) (hb.2 x List.mem_cons_self)
                  refine ⟨K + 4, fun k hk2 => ?_⟩
                  obtain ⟨k, rfl⟩ : ∃ j, k = j + 4 := ⟨k - 4, by omega⟩
                  have e' := e k (by omega)
                  unfold at_ at e'
                  rw [hj3]
                  simp only [aK.j4]
                  rw [if_neg (by decide), if_pos (by simp), if_pos (by simp), rdT0 (by simp), List.getElem_cons_zero, e', Option.bind_some]
                  simp only [lst1]
                  repeat' split
                  all_goals rfl
                | [], hl, hb, hj3 =>
                  refine ⟨4, fun k hk2 => ?_⟩
                  obtain ⟨k, rfl⟩ : ∃ j, k = j + 4 := ⟨k - 4, by omega⟩
                  rw [hj3]; simp only [aK.j4]; rfl
                | x :: y :: l, hl, hb, hj3 =>
                  refine ⟨4, fun k hk2 => ?_⟩
                  obtain ⟨k, rfl⟩ : ∃ j, k = j + 4 := ⟨k - 4, by omega⟩
                  rw [hj3]; simp only [aK.j4]
                  rw [if_neg (by decide), if_neg (by simp; omega)]; rfl
            · refine ⟨3, fun k hk2 => ?_⟩
              obtain ⟨k, rfl⟩ : ∃ j, k = j + 3 := ⟨k - 3, by omega⟩
              rw [hj0]
              simp only [if_neg k2, if_neg k5, if_neg k6]

end Go.Proofs.YtggelekooacmnaaDoor.Pure
set_option linter.unusedVariables false
set_option linter.unusedSimpArgs false
namespace Go.Proofs.YtggelekooacmnaaDoor.Pure
open Go.RowKit Go.Proofs.YtggelekooacmnaaDoor.Q Go.Proofs.YtggelekooacmnaaDoorW.aQ Go.Proofs.YtggelekooacmnaaDoorW.bH Go.Proofs.YtggelekooacmnaaDoorW.bL
-- valid types, their parts, Validate
inductive Vt : Nat → S24 → Prop
  | bool (n : Nat) : Vt (n + 1) ⟨1, 0, 0, 0, []⟩
  | int (n : Nat) (lo hi : Int) (h1 : -1000 ≤ lo) (h2 : lo ≤ hi) (h3 : hi ≤ 1000) : Vt (n + 1) ⟨2, lo, hi, 0, []⟩
  | nat (n : Nat) : Vt (n + 1) ⟨3, 0, 0, 0, []⟩
  | real (n : Nat) : Vt (n + 1) ⟨4, 0, 0, 0, []⟩
  | tup (n : Nat) (l : List S24) (h1 : 2 ≤ l.length) (h2 : l.length ≤ 4) (h3 : ∀ x ∈ l, Vt n x) (h4 : ∀ x ∈ l, x.f0 ≠ 3 ∧ x.f0 ≠ 4) : Vt (n + 1) ⟨5, 0, 0, 0, l⟩
  | lst (n : Nat) (m : Int) (x : S24) (h1 : 1 ≤ m) (h2 : m ≤ 4) (h3 : Vt n x) (h4 : x.f0 = 1 ∨ x.f0 = 2) : Vt (n + 1) ⟨6, 0, 0, m, [x]⟩
theorem Vt.bd {n : Nat} : ∀ {t : S24}, Vt n t → Bd n t := by
  induction n with
  | zero => intro t h; cases h
  | succ n ih =>
    intro t h
    cases h with
    | bool => exact ⟨by simp, by simp⟩
    | int _ lo hi h1 h2 h3 => exact ⟨by simp, by simp⟩
    | nat => exact ⟨by simp, by simp⟩
    | real => exact ⟨by simp, by simp⟩
    | tup _ l h1 h2 h3 h4 => exact ⟨by show l.length ≤ 1000; omega, fun x hx => ih (h3 x hx)⟩
    | lst _ m x h1 h2 h3 h4 => exact ⟨by simp, fun y hy => by simp at hy; subst hy; exact ih h3⟩
theorem Kw {f : S24 → Int} : ∀ {l : List S24}, fl1 f l = 0 ↔ ∀ x ∈ l, f x = 0 ∧ x.f0 ≠ 3 ∧ x.f0 ≠ 4
  | [] => by simp [fl1]
  | x :: l => by
    simp only [fl1, List.forall_mem_cons]
    by_cases h : f x = 0
    · by_cases h3 : x.f0 = 3
      · simp [h, h3]
      · by_cases h4 : x.f0 = 4
        · simp [h, h4]
        · simp only [h, h3, h4, if_true, if_false, true_and, not_false_eq_true, ne_eq, Kw]
    · simp [h]
theorem flt_vt (n : Nat) : ∀ {t : S24}, Bd n t → flt n t = 0 → Vt n t := by
  induction n with
  | zero => intro t h; exact h.elim
  | succ n ih =>
    intro t hb h
    obtain ⟨a0, a1, a2, a3, l⟩ := t
    simp only [flt] at h
    by_cases hk : a0 < 1 ∨ 6 < a0
    · rw [if_pos hk] at h; omega
    · rw [if_neg hk] at h
      by_cases hu : unus a0 a1 a2 a3 l
      · rw [if_pos hu] at h; omega
      · rw [if_neg hu] at h
        unfold unus at hu
        have hnil : a0 < 5 → l = [] := fun h5 => List.eq_nil_of_length_eq_zero (by omega)
        rcases Kv hk with rfl | rfl | rfl | rfl | rfl | rfl
        · obtain rfl := hnil (by omega)
          obtain rfl : a1 = 0 := by omega
          obtain rfl : a2 = 0 := by omega
          obtain rfl : a3 = 0 := by omega
          exact .bool _
        · obtain rfl := hnil (by omega)
          obtain rfl : a3 = 0 := by omega
          simp at h
          exact .int _ _ _ (by omega) (by omega) (by omega)
        · obtain rfl := hnil (by omega)
          obtain rfl : a1 = 0 := by omega
          obtain rfl : a2 = 0 := by omega
          obtain rfl : a3 = 0 := by omega
          exact .nat _
        · obtain rfl := hnil (by omega)
          obtain rfl : a1 = 0 := by omega
          obtain rfl : a2 = 0 := by omega
          obtain rfl : a3 = 0 := by omega
          exact .real _
        · obtain rfl : a1 = 0 := by omega
          obtain rfl : a2 = 0 := by omega
          obtain rfl : a3 = 0 := by omega
          rw [if_neg (by omega), if_pos rfl] at h
          by_cases hc : l.length < 2 ∨ l.length > 4
          · rw [if_pos hc] at h; omega
          · rw [if_neg hc, Kw] at h
            exact .tup _ _ (by omega) (by omega) (fun x hx => ih (hb.2 x hx) (h x hx).1) (fun x hx => (h x hx).2)
        · obtain rfl : a1 = 0 := by omega
          obtain rfl : a2 = 0 := by omega
          rw [if_neg (by omega), if_neg (by omega), if_pos rfl] at h
          by_cases hc : a3 < 1 ∨ a3 > 4
          · rw [if_pos hc] at h; omega
          · rw [if_neg hc] at h
            match l, hb, h with
            | [x], hb, h =>
              simp only [lst1] at h
              by_cases hx : flt n x = 0
              · rw [if_pos hx] at h
                refine .lst _ _ _ (by omega) (by omega) (ih (hb.2 x List.mem_cons_self) hx) ?_
                by_cases h1 : x.f0 = 1
                · exact .inl h1
                · by_cases h2 : x.f0 = 2
                  · exact .inr h2
                  · simp [h1, h2] at h
              · rw [if_neg hx] at h; exact absurd h hx
            | [], _, h => simp [lst1] at h
            | _ :: _ :: _, _, h => simp [lst1] at h
theorem vt_flt (n : Nat) : ∀ {t : S24}, Vt n t → flt n t = 0 := by
  induction n with
  | zero => intro t h; cases h
  | succ n ih =>
    intro t h
    cases h with
    | bool => simp [flt]
    | int _ lo hi h1 h2 h3 =>
      simp only [flt]
      rw [if_neg (by omega), if_neg (by simp), if_pos trivial, if_neg (by omega)]
    | nat => simp [flt]
    | real => simp [flt]
    | tup _ l h1 h2 h3 h4 =>
      simp only [flt]
      rw [if_neg (by omega), if_neg (by simp), if_neg (by omega), if_pos trivial, if_neg (by omega), Kw]
      exact fun x hx => ⟨ih (h3 x hx), h4 x hx⟩
    | lst _ m x h1 h2 h3 h4 =>
      simp only [flt]
      rw [if_neg (by omega), if_neg (by simp), if_neg (by omega), if_neg (by omega), if_pos trivial, if_neg (by omega)]
      simp only [lst1]
      rw [if_pos (ih h3)]
      rcases h4 with h4 | h4 <;> simp [h4]
theorem vt_dep (n : Nat) : ∀ {t : S24}, Vt n t → ∀ m, dep m t ≤ n := by
  induction n with
  | zero => intro t h; cases h
  | succ n ih =>
    intro t h m
    cases m with
    | zero => simp [dep]; omega
    | succ m =>
      simp only [dep]
      have : mxl (dep m) t.f4 0 ≤ n := by
        refine PN (fun x hx => ?_) (by omega)
        cases h with
        | bool => simp at hx
        | int _ lo hi h1 h2 h3 => simp at hx
        | nat => simp at hx
        | real => simp at hx
        | tup _ l h1 h2 h3 h4 => exact ih (h3 x hx) m
        | lst _ m' y h1 h2 h3 h4 => simp at hx; subst hx; exact ih h3 m
      omega
theorem NR {f : S24 → Int} : ∀ {l : List S24} {m : Int} {x : S24}, x ∈ l → f x ≤ mxl f l m
  | y :: l, m, x, h => by
    simp only [mxl]
    rcases List.mem_cons.1 h with rfl | h
    · exact Int.le_trans mx_ge.2 (Ii f l _)
    · exact NR h
theorem vt_low (n : Nat) : ∀ {t : S24} (d : Nat), Vt n t → dep n t ≤ d → Vt d t := by
  induction n with
  | zero => intro t d h; cases h
  | succ n ih =>
    intro t d h hd
    simp only [dep] at hd
    have h0 := Ii (dep n) t.f4 0
    obtain ⟨d, rfl⟩ : ∃ e, d = e + 1 := ⟨d - 1, by omega⟩
    cases h with
    | bool => exact .bool _
    | int _ lo hi h1 h2 h3 => exact .int _ _ _ h1 h2 h3
    | nat => exact .nat _
    | real => exact .real _
    | tup _ l h1 h2 h3 h4 => exact .tup _ _ h1 h2 (fun x hx => ih d (h3 x hx) (by have := NR (f := dep n) (m := 0) hx; simp only at hd; omega)) h4
    | lst _ m x h1 h2 h3 h4 => exact .lst _ _ _ h1 h2 (ih d h3 (by have := NR (f := dep n) (m := 0) (x := x) (l := [x]) List.mem_cons_self; simp only at hd; omega)) h4
def prt : Nat → S24 → List S41
  | 0, _ => []
  | n + 1, t => if t.f0 = 1 then [⟨1, 0, 1⟩] else if t.f0 = 2 then [⟨2, t.f1, t.f2⟩] else if t.f0 = 3 ∨ t.f0 = 4 then [⟨t.f0, 0, 0⟩]
    else if t.f0 = 6 then ⟨2, 0, t.f3⟩ :: (List.replicate t.f3.toNat (prt n (ag t.f4 0))).flatten else (t.f4.map (prt n)).flatten
theorem flat_len {l : List S24} {f : S24 → List S41} {c : Nat} (h : ∀ x ∈ l, (f x).length ≤ c) : (l.map f).flatten.length ≤ l.length * c := by
  induction l with
  | nil => simp
  | cons x l ih =>
    have h1 := h x List.mem_cons_self
    have h2 := ih (fun y hy => h y (List.mem_cons_of_mem x hy))
    simp only [List.map_cons, List.flatten_cons, List.length_append, List.length_cons, Nat.add_mul]
    omega
theorem Jg {α : Type} (m : Nat) (l : List α) : (List.replicate m l).flatten.length = m * l.length := by simp
theorem rd1 (x : S24) : ag [x] 0 = x := by simp [ag]
theorem BZ (n : Nat) : ∀ {t : S24}, Vt n t → (prt n t).length ≤ 5 ^ n ∧ 1 ≤ (prt n t).length := by
  induction n with
  | zero => intro t h; cases h
  | succ n ih =>
    intro t h
    have hp : 1 ≤ 5 ^ n := Nat.pos_of_ne_zero (by simp)
    have h5 : 5 ^ (n + 1) = 5 ^ n * 5 := Nat.pow_succ ..
    cases h with
    | bool => simp [prt]; omega
    | int _ lo hi h1 h2 h3 => simp [prt]; omega
    | nat => simp [prt]; omega
    | real => simp [prt]; omega
    | tup _ l h1 h2 h3 h4 =>
      have e : prt (n + 1) ⟨5, 0, 0, 0, l⟩ = (l.map (prt n)).flatten := by simp [prt]
      rw [e]
      have hl := flat_len (fun x hx => (ih (h3 x hx)).1)
      have : l.length * 5 ^ n ≤ 4 * 5 ^ n := Nat.mul_le_mul_right _ h2
      refine ⟨by omega, ?_⟩
      match l, h1, h3 with
      | x :: l, _, h3 =>
        have := (ih (h3 x List.mem_cons_self)).2
        simp only [List.map_cons, List.flatten_cons, List.length_append]; omega
    | lst _ m x h1 h2 h3 h4 =>
      have e : prt (n + 1) ⟨6, 0, 0, m, [x]⟩ = ⟨2, 0, m⟩ :: (List.replicate m.toNat (prt n x)).flatten := by simp [prt, rd1]
      have e1 : (prt n x).length = 1 := by
        cases h3 with
        | bool => simp [prt]
        | int _ lo hi h1 h2 h3 => simp [prt]
        | nat => simp at h4
        | real => simp at h4
        | tup _ l _ _ _ _ => simp at h4
        | lst _ m x _ _ _ _ => simp at h4
      rw [e, List.length_cons, Jg, e1]
      omega

end Go.Proofs.YtggelekooacmnaaDoor.Pure
set_option linter.unusedVariables false
set_option linter.unusedSimpArgs false
namespace Go.Proofs.YtggelekooacmnaaDoor.Pure
open Go.RowKit Go.Proofs.YtggelekooacmnaaDoor.Q Go.Proofs.YtggelekooacmnaaDoorW.aQ Go.Proofs.YtggelekooacmnaaDoorW.bH Go.Proofs.YtggelekooacmnaaDoorW.bL
-- width, Parts, Validate
theorem wid_l0 (n : Nat) (l : List S24) (hl : l.length ≤ 4) (B : Nat) (hB : B ≤ 10000000) (ih : ∀ t ∈ l, Ev (at_ dx.f t) ((prt n t).length : Int) ∧ (prt n t).length ≤ B) :
    ∀ (d i m : Nat), m ≤ i * B → i + d = l.length → Ev (fun k => dx.l0 k m l l.length i) ((m + ((l.drop i).map (prt n)).flatten.length : Nat) : Int) := by
  intro d
  induction d with
  | zero =>
    intro i m h0 hi
    refine ⟨1, fun k hk => ?_⟩
    obtain ⟨k, rfl⟩ : ∃ j, k = j + 1 := ⟨k - 1, by omega⟩
    simp only [dx.l0]
    rw [if_neg (by omega), List.drop_eq_nil_of_le (by omega)]; rfl
  | succ d IH =>
    intro i m h0 hi
    have hlt : i < l.length := by omega
    obtain ⟨⟨K1, e1⟩, hb⟩ := ih l[i] (List.getElem_mem hlt)
    have hm : m + (prt n l[i]).length ≤ (i + 1) * B := by rw [Nat.add_mul]; omega
    have hm2 : (i + 1) * B ≤ 4 * B := Nat.mul_le_mul_right _ (by omega)
    obtain ⟨K2, e2⟩ := IH (i + 1) (m + (prt n l[i]).length) hm (by omega)
    refine ⟨max K1 K2 + 1, fun k hk => ?_⟩
    obtain ⟨k, rfl⟩ : ∃ j, k = j + 1 := ⟨k - 1, by omega⟩
    have e1' := e1 k (by omega)
    have e2' := e2 k (by omega)
    unfold at_ at e1'
    dsimp only at e1' e2'
    simp only [dx.l0]
    have ew : wrap64 ((m : Int) + ((prt n l[i]).length : Int)) = ((m + (prt n l[i]).length : Nat) : Int) := by unfold wrap64; omega
    rw [if_pos (by omega), if_pos (by omega), if_pos (by omega), rdT hlt, e1', Option.bind_some, iw (by omega), ew, e2', List.drop_eq_getElem_cons hlt]
    simp only [List.map_cons, List.flatten_cons, List.length_append, Nat.add_assoc]
theorem LZ {n : Nat} {x : S24} (h3 : Vt n x) (h4 : x.f0 = 1 ∨ x.f0 = 2) : (prt n x).length = 1 := by
  cases h3 with
  | bool => simp [prt]
  | int _ lo hi h1 h2 h3 => simp [prt]
  | nat => simp at h4
  | real => simp at h4
  | tup _ l _ _ _ _ => simp at h4
  | lst _ m x _ _ _ _ => simp at h4
theorem prt5 (n : Nat) (a1 a2 a3 : Int) (l : List S24) : prt (n + 1) ⟨5, a1, a2, a3, l⟩ = (l.map (prt n)).flatten := by simp [prt]
theorem prt6 (n : Nat) (a1 a2 m : Int) (x : S24) : prt (n + 1) ⟨6, a1, a2, m, [x]⟩ = ⟨2, 0, m⟩ :: (List.replicate m.toNat (prt n x)).flatten := by simp [prt, rd1]
theorem pow5 {n : Nat} (h : n ≤ 9) : 5 ^ n ≤ 5 ^ 9 := Nat.pow_le_pow_right (by omega) h
theorem PT (n : Nat) : ∀ {t : S24}, n ≤ 10 → Vt n t → Ev (at_ dx.f t) ((prt n t).length : Int) := by
  induction n with
  | zero => intro t _ h; cases h
  | succ n ih =>
    intro t hn h
    have one : ∀ a0 a1 a2 a3 : Int, ∀ l, a0 ≠ 5 → a0 ≠ 6 → Ev (at_ dx.f ⟨a0, a1, a2, a3, l⟩) (1 : Int) := by
      intro a0 a1 a2 a3 l h5 h6
      refine ⟨1, fun k hk => ?_⟩
      obtain ⟨k, rfl⟩ : ∃ j, k = j + 1 := ⟨k - 1, by omega⟩
      simp only [at_, dx.f, if_neg h5, if_neg h6]
    cases h with
    | bool => exact one _ _ _ _ _ (by decide) (by decide)
    | int _ lo hi h1 h2 h3 => exact one _ _ _ _ _ (by decide) (by decide)
    | nat => exact one _ _ _ _ _ (by decide) (by decide)
    | real => exact one _ _ _ _ _ (by decide) (by decide)
    | tup _ l h1 h2 h3 h4 =>
      have hp := pow5 (show n ≤ 9 by omega)
      obtain ⟨K, e⟩ := wid_l0 n l h2 (5 ^ n) (by omega) (fun x hx => ⟨ih (by omega) (h3 x hx), (BZ n (h3 x hx)).1⟩) l.length 0 0 (by omega) (by omega)
      rw [prt5]
      refine ⟨K + 1, fun k hk => ?_⟩
      obtain ⟨k, rfl⟩ : ∃ j, k = j + 1 := ⟨k - 1, by omega⟩
      have e' := e k (by omega)
      simp only [at_, dx.f, if_pos]
      simpa using e'
    | lst _ m x h1 h2 h3 h4 =>
      obtain ⟨K, e⟩ := ih (by omega) h3
      have e1 := LZ h3 h4
      rw [prt6, List.length_cons, Jg, e1]
      refine ⟨K + 1, fun k hk => ?_⟩
      obtain ⟨k, rfl⟩ : ∃ j, k = j + 1 := ⟨k - 1, by omega⟩
      have e' := e k (by omega)
      unfold at_ at e'
      simp only [at_, dx.f]
      rw [if_neg (by decide), if_pos trivial, if_pos (by simp), rd1, e', Option.bind_some, e1]
      have : wrap64 (1 + wrap64 (m * ((1 : Nat) : Int))) = ((m.toNat * 1 + 1 : Nat) : Int) := by unfold wrap64; omega
      rw [this]
theorem Parts_l0 (n : Nat) (x : S24) (a0 a1 a2 m : Int) (hm : m ≤ 4) (ih : Ev (at_ bA.f x) (prt n x)) (hx : (prt n x).length = 1) :
    ∀ (d i : Nat) (o : List S41), o.length ≤ i + 1 → (i : Int) + d = m → Ev (fun k => bA.l0 k o i a0 a1 a2 m [x]) (o ++ (List.replicate d (prt n x)).flatten) := by
  intro d
  induction d with
  | zero =>
    intro i o ho hi
    refine ⟨1, fun k hk => ?_⟩
    obtain ⟨k, rfl⟩ : ∃ j, k = j + 1 := ⟨k - 1, by omega⟩
    simp only [bA.l0]
    rw [if_neg (by omega)]; simp
  | succ d IH =>
    intro i o ho hi
    obtain ⟨K1, e1⟩ := ih
    obtain ⟨K2, e2⟩ := IH (i + 1) (o ++ prt n x) (by rw [List.length_append]; omega) (by omega)
    refine ⟨max K1 K2 + 1, fun k hk => ?_⟩
    obtain ⟨k, rfl⟩ : ∃ j, k = j + 1 := ⟨k - 1, by omega⟩
    have e1' := e1 k (by omega)
    have e2' := e2 k (by omega)
    unfold at_ at e1'
    dsimp only at e1' e2'
    simp only [bA.l0]
    rw [if_pos (by omega), if_pos (by simp), rd1, e1', Option.bind_some, if_pos (by omega), iw (by omega), e2', List.append_assoc]
    simp only [List.replicate_succ, List.flatten_cons]
theorem Parts_l1 (n : Nat) (l : List S24) (hl : l.length ≤ 4) (a0 a1 a2 a3 : Int) (B : Nat) (hB : B ≤ 10000000) (ih : ∀ t ∈ l, Ev (at_ bA.f t) (prt n t) ∧ (prt n t).length ≤ B) :
    ∀ (d i : Nat) (o : List S41), o.length ≤ i * B → i + d = l.length → Ev (fun k => bA.l1 k o i a0 a1 a2 a3 l) (o ++ ((l.drop i).map (prt n)).flatten) := by
  intro d
  induction d with
  | zero =>
    intro i o ho hi
    refine ⟨1, fun k hk => ?_⟩
    obtain ⟨k, rfl⟩ : ∃ j, k = j + 1 := ⟨k - 1, by omega⟩
    simp only [bA.l1]
    rw [if_neg (by omega), List.drop_eq_nil_of_le (by omega)]; simp
  | succ d IH =>
    intro i o ho hi
    have hlt : i < l.length := by omega
    obtain ⟨⟨K1, e1⟩, hb⟩ := ih l[i] (List.getElem_mem hlt)
    have hm : (o ++ prt n l[i]).length ≤ (i + 1) * B := by rw [List.length_append, Nat.add_mul]; omega
    have hm2 : (i + 1) * B ≤ 4 * B := Nat.mul_le_mul_right _ (by omega)
    obtain ⟨K2, e2⟩ := IH (i + 1) (o ++ prt n l[i]) hm (by omega)
    refine ⟨max K1 K2 + 1, fun k hk => ?_⟩
    obtain ⟨k, rfl⟩ : ∃ j, k = j + 1 := ⟨k - 1, by omega⟩
    have e1' := e1 k (by omega)
    have e2' := e2 k (by omega)
    unfold at_ at e1'
    dsimp only at e1' e2'
    simp only [bA.l1]
    rw [List.length_append] at hm
    rw [if_pos (by omega), if_pos (by omega), rdT hlt, e1', Option.bind_some, if_pos (by omega), iw (by omega), e2', List.append_assoc, List.drop_eq_getElem_cons hlt]
    simp only [List.map_cons, List.flatten_cons]
theorem Ky (n : Nat) : ∀ {t : S24}, n ≤ 10 → Vt n t → Ev (at_ bA.f t) (prt n t) := by
  induction n with
  | zero => intro t _ h; cases h
  | succ n ih =>
    intro t hn h
    cases h with
    | bool =>
      refine ⟨2, fun k hk => ?_⟩
      obtain ⟨k, rfl⟩ : ∃ j, k = j + 2 := ⟨k - 2, by omega⟩
      simp [at_, bA.f, prt]
    | int _ lo hi h1 h2 h3 =>
      refine ⟨2, fun k hk => ?_⟩
      obtain ⟨k, rfl⟩ : ∃ j, k = j + 2 := ⟨k - 2, by omega⟩
      simp [at_, bA.f, prt]
    | nat =>
      refine ⟨2, fun k hk => ?_⟩
      obtain ⟨k, rfl⟩ : ∃ j, k = j + 2 := ⟨k - 2, by omega⟩
      simp [at_, bA.f, bA.j0, prt]
    | real =>
      refine ⟨2, fun k hk => ?_⟩
      obtain ⟨k, rfl⟩ : ∃ j, k = j + 2 := ⟨k - 2, by omega⟩
      simp [at_, bA.f, bA.j0, prt]
    | tup _ l h1 h2 h3 h4 =>
      have hp := pow5 (show n ≤ 9 by omega)
      obtain ⟨K, e⟩ := Parts_l1 n l h2 5 0 0 0 (5 ^ n) (by omega) (fun x hx => ⟨ih (by omega) (h3 x hx), (BZ n (h3 x hx)).1⟩) l.length 0 [] (by simp) (by omega)
      rw [prt5]
      refine ⟨K + 2, fun k hk => ?_⟩
      obtain ⟨k, rfl⟩ : ∃ j, k = j + 2 := ⟨k - 2, by omega⟩
      have e' := e k (by omega)
      simp [at_, bA.f, bA.j0]
      simpa using e'
    | lst _ m x h1 h2 h3 h4 =>
      have e1 := LZ h3 h4
      obtain ⟨K, e⟩ := Parts_l0 n x 6 0 0 m h2 (ih (by omega) h3) e1 m.toNat 0 [⟨2, 0, m⟩] (by simp) (by omega)
      rw [prt6]
      refine ⟨K + 2, fun k hk => ?_⟩
      obtain ⟨k, rfl⟩ : ∃ j, k = j + 2 := ⟨k - 2, by omega⟩
      have e' := e k (by omega)
      simp [at_, bA.f, bA.j0]
      simpa using e'
/-- Validate, of whatever type within the bounds: program and reference agree; and what is valid. -/
theorem Q5 {n : Nat} {t : S24} (hn : n ≤ 1000) (hb : Bd n t) : ∃ e, Ev (at_ gP.f t) e ∧ Ev (at_ fO.f t) e ∧ (e = 0 → Vt 10 t ∧ (prt 10 t).length ≤ 24) := by
  obtain ⟨K1, e1⟩ := PO n t hn hb
  obtain ⟨K2, e2⟩ := PR n t hn hb
  obtain ⟨K3, e3⟩ := PQ n t 11 hn (by omega) (by omega) hb
  obtain ⟨K4, e4⟩ := PS n t hn hb
  unfold at_ at e1 e2 e4
  dsimp only at e3
  by_cases hd : dep n t > 10
  · refine ⟨9, ⟨K1, fun k hk => ?_⟩, ⟨K3, fun k hk => ?_⟩, fun h => absurd h (by decide)⟩
    · simp only [at_, gP.f]
      rw [e1 k hk, Option.bind_some, if_pos hd]
    · simp only [at_, fO.f]
      rw [e3 k hk, Option.bind_some, if_pos (by omega)]
  · by_cases hf : flt n t = 0
    · have hv := vt_low n 10 (flt_vt n hb hf) (by omega)
      obtain ⟨K5, e5⟩ := PT 10 (by omega) hv
      obtain ⟨K6, e6⟩ := Ky 10 (by omega) hv
      unfold at_ at e5 e6
      refine ⟨if (prt 10 t).length > 24 then 9 else 0, ⟨K1 + K2 + K5, fun k hk => ?_⟩, ⟨K3 + K4 + K6, fun k hk => ?_⟩, fun h => ⟨hv, ?_⟩⟩
      · simp only [at_, gP.f]
        rw [e1 k (by omega), Option.bind_some, if_neg hd, e2 k (by omega), Option.bind_some, if_pos hf, e5 k (by omega), Option.bind_some]
        split <;> split <;> first | rfl | omega
      · simp only [at_, fO.f]
        rw [e3 k (by omega), Option.bind_some, if_neg (by omega), e4 k (by omega), Option.bind_some, if_pos hf, e6 k (by omega), Option.bind_some]
        split <;> split <;> first | rfl | omega
      · split at h <;> omega
    · refine ⟨flt n t, ⟨K1 + K2, fun k hk => ?_⟩, ⟨K3 + K4, fun k hk => ?_⟩, fun h => absurd h hf⟩
      · simp only [at_, gP.f]
        rw [e1 k (by omega), Option.bind_some, if_neg hd, e2 k (by omega), Option.bind_some, if_neg hf]
      · simp only [at_, fO.f]
        rw [e3 k (by omega), Option.bind_some, if_neg (by omega), e4 k (by omega), Option.bind_some, if_neg hf]
theorem Q6 {t : S24} (hv : Vt 10 t) (hl : (prt 10 t).length ≤ 24) : Ev (at_ gP.f t) 0 ∧ Ev (at_ fO.f t) 0 := by
  obtain ⟨K1, e1⟩ := PO 10 t (by omega) hv.bd
  obtain ⟨K2, e2⟩ := PR 10 t (by omega) hv.bd
  obtain ⟨K3, e3⟩ := PQ 10 t 11 (by omega) (by omega) (by omega) hv.bd
  obtain ⟨K4, e4⟩ := PS 10 t (by omega) hv.bd
  obtain ⟨K5, e5⟩ := PT 10 (by omega) hv
  obtain ⟨K6, e6⟩ := Ky 10 (by omega) hv
  unfold at_ at e1 e2 e4 e5 e6
  dsimp only at e3
  have hd := vt_dep 10 hv 10
  have hf := vt_flt 10 hv
  refine ⟨⟨K1 + K2 + K5, fun k hk => ?_⟩, ⟨K3 + K4 + K6, fun k hk => ?_⟩⟩
  · simp only [at_, gP.f]
    rw [e1 k (by omega), Option.bind_some, if_neg (by omega), e2 k (by omega), Option.bind_some, if_pos hf, e5 k (by omega), Option.bind_some, if_neg (by omega)]
  · simp only [at_, fO.f]
    rw [e3 k (by omega), Option.bind_some, if_neg (by omega), e4 k (by omega), Option.bind_some, if_pos hf, e6 k (by omega), Option.bind_some, if_neg (by omega)]

end Go.Proofs.YtggelekooacmnaaDoor.Pure
set_option linter.unusedVariables false
set_option linter.unusedSimpArgs false
namespace Go.Proofs.YtggelekooacmnaaDoor.Pure
open Go.RowKit Go.Proofs.YtggelekooacmnaaDoor.Q Go.Proofs.YtggelekooacmnaaDoorW.aQ Go.Proofs.YtggelekooacmnaaDoorW.bH Go.Proofs.YtggelekooacmnaaDoorW.bL
-- values: check, zero, flatten, read
def Bv : Nat → S51 → Prop
  | 0, _ => False
  | n + 1, v => v.f1.length ≤ 1000 ∧ ∀ x ∈ v.f1, Bv n x
theorem rdV {l : List S51} {i : Nat} (h : i < l.length) : aX l (i : Int) = l[i] := by
  unfold aX; simp [List.getD, h]
theorem rdV0 {l : List S51} (h : 0 < l.length) : aX l 0 = l[0] := by
  unfold aX; simp [List.getD, h]
/-- two lists, element by element: the first error -/
def ck1 (f : S24 → S51 → Int) : List S24 → List S51 → Int
  | t :: ts, v :: vs => if f t v = 0 then ck1 f ts vs else f t v
  | _, _ => 0
def ck2 (f : S51 → Int) : List S51 → Int
  | v :: vs => if f v = 0 then ck2 f vs else f v
  | [] => 0
/-- the error of a value of a valid type -/
def chk : Nat → S24 → S51 → Int
  | 0, _, _ => 0
  | n + 1, t, v =>
    if t.f0 = 5 then (if v.f0 ≠ 0 ∨ v.f1.length ≠ t.f4.length then 2 else ck1 (chk n) t.f4 v.f1)
    else if t.f0 = 6 then (if v.f0 ≠ 0 ∨ (v.f1.length : Int) > t.f3 then 2 else ck2 (chk n (ag t.f4 0)) v.f1)
    else if v.f1.length ≠ 0 then 2
    else if t.f0 = 1 then (if v.f0 < 0 ∨ v.f0 > 1 then 1 else 0)
    else if t.f0 = 3 then (if v.f0 < 0 then 1 else 0)
    else (if v.f0 < t.f1 ∨ v.f0 > t.f2 then 1 else 0)

end Go.Proofs.YtggelekooacmnaaDoor.Pure
-- value.element and value.check, walked by hand: what they say of a valid type
namespace Go.Proofs.YtggelekooacmnaaDoor.Q
open Go.RowKit Go.Proofs.YtggelekooacmnaaDoorW.aQ Go.Proofs.YtggelekooacmnaaDoorW.bH Go.Proofs.YtggelekooacmnaaDoorW.bL
open Go.Proofs.YtggelekooacmnaaDoor.Pure
set_option linter.unusedVariables false
set_option linter.unusedSimpArgs false
/-- a type's cells as a call hands them on -/
abbrev tyV (x : S24) (A : Option Addr) (c : Nat) : Value := .agg #[.int .i64 x.f0, .int .i64 x.f1, .int .i64 x.f2, .int .i64 x.f3, .slice A x.f4.length c]
abbrev vaV (v : S51) (A : Option Addr) (c : Nat) : Value := .agg #[.int .i64 v.f0, .slice A v.f1.length c]
set_option maxHeartbeats 4000000 in
set_option maxRecDepth 100000 in
/-- element: in every world behind this one it has one answer -/
theorem L6 (t : S24) (A : Option Addr) (c : Nat) (i : Nat) (w0 : World) (hA : Kd.C k24 w0 A t.f4.length t.f4) (hc : t.f4.length ≤ c) (j : Nat) (hj : (if t.f0 = 6 then 0 else i) = j) (hi : j < t.f4.length) :
    ∃ A4 c4, Kd.C k24 w0 A4 (ag t.f4 j).f4.length (ag t.f4 j).f4 ∧ (ag t.f4 j).f4.length ≤ c4 ∧ ∀ w, Below w0.heap.size w0 w → Calls Tryd.prog 81 #[tyV t A c, .int .i64 i] w fun e w' => e = .returned (tyV (ag t.f4 j) A4 c4) ∧ Below w.heap.size w w' := by
  have hn := hA.2.1
  obtain ⟨a0, a1, a2, a3, l⟩ := t
  dsimp only [tyV] at hA hc hj hi hn ⊢
  obtain ⟨ad, A4, c4, rfl, d0, d1, d2, d3, d4, l4, g4⟩ := fC hA (j : Int) (by omega) (by omega)
  refine ⟨A4, c4, g4, l4, fun w hw => ?_⟩
  rw [Int.toNat_natCast] at d0 d1 d2 d3 d4
  replace d0 := lU hw d0
  replace d1 := lU hw d1
  replace d2 := lU hw d2
  replace d3 := lU hw d3
  replace d4 := lU hw d4
  obtain ⟨x, hx⟩ : ∃ x, x = ag l (j : Int) := ⟨_, rfl⟩
  rw [← hx] at d0 d1 d2 d3 d4 l4 ⊢
  have u1 := World.block_lt_of_cell? _ _ d0
  clear g4 hx hA hw
  by_cases h6 : a0 = 6
  · subst h6
    obtain rfl : 0 = j := by simpa using hj
    have e0 : ad.add (0 * 5) = ad := by simp [Addr.add]
    rw [e0] at d0 d1 d2 d3 d4 u1
    go_enter Tryd.func81, Tryd.ntmps81
    go_wp2
    have hb2 : Below w.heap.size w ((w.alloc (.cells #[.int .i64 6, .int .i64 a1, .int .i64 a2, .int .i64 a3, .slice (some ad) l.length c] 24)).alloc (.cells #[.int .i64 x.f0, .int .i64 x.f1, .int .i64 x.f2, .int .i64 x.f3, .slice A4 x.f4.length c4] 24)) := ((Below.refl _ w).alloc (Nat.le_refl _) _).alloc (by simp) _
    refine bodyPost_ret (results_cell_row rfl _ _ (w.heap.size + 1) 24 #[.int .i64 x.f0, .int .i64 x.f1, .int .i64 x.f2, .int .i64 x.f3, .slice A4 x.f4.length c4] (0, 0) _ rfl ?_ Tryd.underlying24 rfl (by kernel_rfl)) rfl ⟨rfl, hb2⟩
    have := heap_alloc_new (w.alloc (.cells #[.int .i64 6, .int .i64 a1, .int .i64 a2, .int .i64 a3, .slice (some ad) l.length c] 24)) (.cells #[.int .i64 x.f0, .int .i64 x.f1, .int .i64 x.f2, .int .i64 x.f3, .slice A4 x.f4.length c4] 24)
    simpa using this
  · have q6 : (a0 == 6) = false := beq_false_of_ne h6
    obtain rfl : i = j := by simpa [h6] using hj
    go_enter Tryd.func81, Tryd.ntmps81
    go_wp2
    have hb2 : Below w.heap.size w ((w.alloc (.cells #[.int .i64 a0, .int .i64 a1, .int .i64 a2, .int .i64 a3, .slice (some ad) l.length c] 24)).alloc (.cells #[.int .i64 x.f0, .int .i64 x.f1, .int .i64 x.f2, .int .i64 x.f3, .slice A4 x.f4.length c4] 24)) := ((Below.refl _ w).alloc (Nat.le_refl _) _).alloc (by simp) _
    refine bodyPost_ret (results_cell_row rfl _ _ (w.heap.size + 1) 24 #[.int .i64 x.f0, .int .i64 x.f1, .int .i64 x.f2, .int .i64 x.f3, .slice A4 x.f4.length c4] (0, 0) _ rfl ?_ Tryd.underlying24 rfl (by kernel_rfl)) rfl ⟨rfl, hb2⟩
    have := heap_alloc_new (w.alloc (.cells #[.int .i64 a0, .int .i64 a1, .int .i64 a2, .int .i64 a3, .slice (some ad) l.length c] 24)) (.cells #[.int .i64 x.f0, .int .i64 x.f1, .int .i64 x.f2, .int .i64 x.f3, .slice A4 x.f4.length c4] 24)
    simpa using this
theorem OW (n : Nat) (v : S51) : chk (n + 1) ⟨1, 0, 0, 0, []⟩ v = if v.f1.length ≠ 0 then 2 else if v.f0 < 0 ∨ v.f0 > 1 then 1 else 0 := by simp [chk]
theorem OX (n : Nat) (lo hi : Int) (v : S51) : chk (n + 1) ⟨2, lo, hi, 0, []⟩ v = if v.f1.length ≠ 0 then 2 else if v.f0 < lo ∨ v.f0 > hi then 1 else 0 := by simp [chk]
theorem OY (n : Nat) (v : S51) : chk (n + 1) ⟨3, 0, 0, 0, []⟩ v = if v.f1.length ≠ 0 then 2 else if v.f0 < 0 then 1 else 0 := by simp [chk]
/-- what check says of a leaf: kind q of low and high bounds -/
def CF (t : S24) (v : S51) (r : Int) : Prop := ∀ (A : Option Addr) (c : Nat) (B : Option Addr) (d : Nat) (w : World), Kd.C k24 w A t.f4.length t.f4 → t.f4.length ≤ c → Kd.C k51 w B v.f1.length v.f1 → v.f1.length ≤ d →
  Calls Tryd.prog 78 #[tyV t A c, vaV v B d] w fun e w' => e = .returned (.int .i64 r) ∧ Below w.heap.size w w'
set_option maxHeartbeats 4000000 in
set_option maxRecDepth 100000 in
theorem Gl (q lo hi : Int) (v : S51) (hq : q = 1 ∨ q = 2 ∨ q = 3) : CF ⟨q, lo, hi, 0, []⟩ v (if v.f1.length ≠ 0 then 2 else if v.f0 < lo ∨ v.f0 > (if q = 1 then 1 else if q = 3 then v.f0 else hi) then 1 else 0) := by
  intro A c B d w hA hc hB hd
  have hn := hB.2.1
  obtain ⟨v0, vs⟩ := v
  dsimp only [tyV, vaV, List.length_nil] at hd hn ⊢
  obtain ⟨L, hL⟩ : ∃ L, L = vs.length := ⟨_, rfl⟩
  rw [← hL] at hd hn ⊢
  have hb2 : Below w.heap.size w ((w.alloc (.cells #[.int .i64 q, .int .i64 lo, .int .i64 hi, .int .i64 0, .slice A 0 c] 24)).alloc (.cells #[.int .i64 v0, .slice B L d] 51)) := ((Below.refl _ w).alloc (Nat.le_refl _) _).alloc (by simp) _
  have HB2 := Lib.hid hb2
  clear hA hB hL hb2
  have q5 : (q == 5) = false := beq_false_of_ne (by omega)
  have q6 : (q == 6) = false := beq_false_of_ne (by omega)
  by_cases h0 : L = 0
  · subst h0
    rw [if_neg (by simp)]
    rcases hq with rfl | rfl | rfl
    · have eH : (if (1 : Int) = 1 then (1 : Int) else if (1 : Int) = 3 then v0 else hi) = 1 := by simp
      rw [eH]
      by_cases c1 : v0 < lo
      · rw [if_pos (.inl c1)]
        go_enter Tryd.func78, Tryd.ntmps78
        go_wp2
        go_quiet (fail)
        go_wp2
        go_ret
        exact ⟨rfl, (by first | exact jh HB2.out _ | exact eP HB2.out)⟩
      · by_cases c2 : v0 > 1
        · rw [if_pos (.inr c2)]
          go_enter Tryd.func78, Tryd.ntmps78
          go_wp2
          go_quiet (fail)
          go_wp2
          go_ret
          exact ⟨rfl, (by first | exact jh HB2.out _ | exact eP HB2.out)⟩
        · rw [if_neg (by omega)]
          go_enter Tryd.func78, Tryd.ntmps78
          go_wp2
          go_quiet (fail)
          go_wp2
          go_ret
          exact ⟨rfl, (by first | exact jh HB2.out _ | exact eP HB2.out)⟩
    · have eH : (if (2 : Int) = 1 then (1 : Int) else if (2 : Int) = 3 then v0 else hi) = hi := by simp
      rw [eH]
      by_cases c1 : v0 < lo
      · rw [if_pos (.inl c1)]
        go_enter Tryd.func78, Tryd.ntmps78
        go_wp2
        go_quiet (fail)
        go_wp2
        go_ret
        exact ⟨rfl, (by first | exact jh HB2.out _ | exact eP HB2.out)⟩
      · by_cases c2 : v0 > hi
        · rw [if_pos (.inr c2)]
          go_enter Tryd.func78, Tryd.ntmps78
          go_wp2
          go_quiet (fail)
          go_wp2
          go_ret
          exact ⟨rfl, (by first | exact jh HB2.out _ | exact eP HB2.out)⟩
        · rw [if_neg (by omega)]
          go_enter Tryd.func78, Tryd.ntmps78
          go_wp2
          go_quiet (fail)
          go_wp2
          go_ret
          exact ⟨rfl, (by first | exact jh HB2.out _ | exact eP HB2.out)⟩
    · have eH : (if (3 : Int) = 1 then (1 : Int) else if (3 : Int) = 3 then v0 else hi) = v0 := by simp
      rw [eH]
      have c2 : ¬ v0 < v0 := by omega
      by_cases c1 : v0 < lo
      · rw [if_pos (.inl c1)]
        go_enter Tryd.func78, Tryd.ntmps78
        go_wp2
        go_quiet (fail)
        go_wp2
        go_ret
        exact ⟨rfl, (by first | exact jh HB2.out _ | exact eP HB2.out)⟩
      · rw [if_neg (by omega)]
        go_enter Tryd.func78, Tryd.ntmps78
        go_wp2
        go_quiet (fail)
        go_wp2
        go_ret
        exact ⟨rfl, (by first | exact jh HB2.out _ | exact eP HB2.out)⟩
  · rw [if_pos h0]
    have hz : ((L : Int) != 0) = true := by simp; omega
    go_enter Tryd.func78, Tryd.ntmps78
    go_wp2
    go_ret
    exact ⟨rfl, HB2.out⟩
set_option maxHeartbeats 8000000 in
set_option maxRecDepth 100000 in
theorem Q7 (m : Int) (l : List S24) (v : S51) (g : Nat → Int) (r : Int) (hv0 : v.f0 = 0) (hL : v.f1.length = l.length)
    (hE : ∀ j, j < v.f1.length → CF (ag l (j : Int)) (aX v.f1 (j : Int)) (g j))
    (h1 : ∀ k, k < v.f1.length → (∀ j, j < k → g j = 0) → g k ≠ 0 → r = g k) (h2 : (∀ j, j < v.f1.length → g j = 0) → r = 0) : CF ⟨5, 0, 0, m, l⟩ v r := by
  intro A c B d w hA hc hB hd
  have hn := hB.2.1
  obtain ⟨v0, vs⟩ := v
  dsimp only [tyV, vaV] at hA hc hB hd hn hv0 hL hE h1 h2 ⊢
  subst hv0
  have HA := Lib.hid hA
  have HV := Lib.hid hB
  have HE := Lib.hid hE
  have H1 := Lib.hid h1
  have H2 := Lib.hid h2
  obtain ⟨L, hLe⟩ : ∃ L, L = vs.length := ⟨_, rfl⟩
  have HL := Lib.hid hLe
  have HLL := Lib.hid hL
  rw [← hL] at hc ⊢
  rw [← hLe] at hd hn hc ⊢
  have hb2 : Below w.heap.size w ((w.alloc (.cells #[.int .i64 5, .int .i64 0, .int .i64 0, .int .i64 m, .slice A L c] 24)).alloc (.cells #[.int .i64 0, .slice B L d] 51)) := ((Below.refl _ w).alloc (Nat.le_refl _) _).alloc (by simp) _
  have hbt : ((w.alloc (.cells #[.int .i64 5, .int .i64 0, .int .i64 0, .int .i64 m, .slice A L c] 24)).alloc (.cells #[.int .i64 0, .slice B L d] 51)).heap[w.heap.size]? = some (.cells #[.int .i64 5, .int .i64 0, .int .i64 0, .int .i64 m, .slice A L c] 24 (0, 0)) := (Below.heap_alloc _ _ _ (by simp)).trans (heap_alloc_new w _)
  have hs2 : w.heap.size < ((w.alloc (.cells #[.int .i64 5, .int .i64 0, .int .i64 0, .int .i64 m, .slice A L c] 24)).alloc (.cells #[.int .i64 0, .slice B L d] 51)).heap.size := by simp; omega
  have HB2 := Lib.hid hb2
  have HBT := Lib.hid hbt
  have HS2 := Lib.hid hs2
  clear hA hB hE h1 h2 hLe hL hb2 hbt hs2
  go_enter Tryd.func78, Tryd.ntmps78
  go_wp2
  generalize (w.alloc (.cells #[.int .i64 5, .int .i64 0, .int .i64 0, .int .i64 m, .slice A L c] 24)).alloc (.cells #[.int .i64 0, .slice B L d] 51) = W2 at HB2 HBT HS2 ⊢
  go_loopw [51] (fun i wr => ∃ k : Nat, i = .int .i64 k ∧ k ≤ L ∧ Below W2.heap.size W2 wr ∧ aa (∀ j, j < k → g j = 0)) (fun i _ => L - (intOf i).toNat)
  case atStart => exact ⟨0, rfl, Nat.zero_le _, Below.refl _ _, ⟨fun j hj => by omega⟩⟩
  case round =>
    obtain ⟨k, rfl, hk, hbw, hal⟩ := hrel
    have hbW : Below w.heap.size w wr := HB2.out.trans (hbw.mono HB2.out.size)
    by_cases hlt : k < L
    · obtain ⟨ae, B4, e4, rfl, q0, q1, m4, r4⟩ := nA (Kd.aC HV.out hbW) (k : Int) (by omega) (by have := HL.out; omega)
      rw [Int.toNat_natCast] at q0 q1
      have hEE := HE.out k (by have := HL.out; omega)
      obtain ⟨A4, c4, g4, l4, hel⟩ := L6 ⟨5, 0, 0, m, l⟩ A c k wr (Kd.aC HA.out hbW) (by have := HL.out; have := HLL.out; dsimp only; omega) k (by simp) (by have := HL.out; have := HLL.out; dsimp only; omega)
      dsimp only [tyV] at g4 l4 hel
      obtain ⟨x, hx⟩ : ∃ x, x = ag l (k : Int) := ⟨_, rfl⟩
      obtain ⟨y, hy⟩ : ∃ y, y = aX vs (k : Int) := ⟨_, rfl⟩
      rw [← hx] at g4 l4 hel hEE
      rw [← hy] at q0 q1 m4 r4 hEE
      have hlen : l.length = L := by have := HL.out; have := HLL.out; omega
      rw [hlen] at hel
      have HEE := Lib.hid hEE
      have HG4 := Lib.hid g4
      have HR4 := Lib.hid r4
      have HBW := Lib.hid hbW
      have CG := Lib.hid hbw
      have HAL := Lib.hid hal.out
      have HEL := Lib.hid hel
      have u2 := World.block_lt_of_cell? _ _ q0
      have hbt := (hbw.block _ HS2.out).trans HBT.out
      have HBTr := Lib.hid hbt
      clear hEE g4 r4 hbW hbw hal hel hx hy hlen hbt
      go_wp2
      have hB3 : Below wr.heap.size wr (wr.alloc (.cells #[.int .i64 y.f0, .slice B4 y.f1.length e4] 51)) := (Below.refl _ wr).alloc (Nat.le_refl _) _
      have hb3 := (hB3.block _ (mO HBTr.out)).trans HBTr.out
      have hy3 := heap_alloc_new wr (.cells #[.int .i64 y.f0, .slice B4 y.f1.length e4] 51)
      generalize wr.alloc (.cells #[.int .i64 y.f0, .slice B4 y.f1.length e4] 51) = W3 at hB3 hb3 hy3 ⊢
      have k0 := cell_regrown ((ai hb3 0).trans rfl)
      have k1 := cell_regrown ((ai hb3 1).trans rfl)
      have k2 := cell_regrown ((ai hb3 2).trans rfl)
      have k3 := cell_regrown ((ai hb3 3).trans rfl)
      have k4 := cell_regrown ((ai hb3 4).trans rfl)
      have k5 := cell_regrown ((ai hy3 0).trans rfl)
      have k6 := cell_regrown ((ai hy3 1).trans rfl)
      have hBr : ∀ d os, Below wr.heap.size wr (Go.Sort.grow (redrawn W3 d) os) := fun d os => hB3.trans ((below_regrown W3 d os).mono hB3.size)
      have cE : ∀ d os, Calls Tryd.prog 81 _ (Go.Sort.grow (redrawn W3 d) os) _ := fun d os => Calls.regrown_of (HEL.out _ (hBr d os))
      have cC : ∀ d os, Calls Tryd.prog 78 _ (Go.Sort.grow (redrawn W3 d) os) _ := fun d os => Calls.regrown_of (HEE.out A4 c4 B4 e4 _ (Kd.aC HG4.out (hBr d os)) l4 (Kd.aC HR4.out (hBr d os)) m4)
      have HBR := Lib.hid hBr
      clear hBr hB3 hb3 hy3
      dsimp only [tyV, vaV] at cE cC
      refine wp_region_quiet_below (by kernel_rfl) (by kernel_rfl) ?_
      repeat (quiet_step (first | exact cE _ _ | exact cC _ _))
      refine wpQuiet_nil ?_
      intro _ hw'
      obtain ⟨⟨dq, osq⟩, hw''⟩ := hw'
      subst hw''
      dsimp only
      by_cases hg : g k = 0
      · have hgz : (g k != 0) = false := by simp [hg]
        go_wp2
        go_roundw
        case rel =>
          refine ⟨k + 1, by go_num, hlt, CG.out.trans ((HBR.out dq osq).mono CG.out.size), ⟨fun j hj => ?_⟩⟩
          by_cases hjk : j = k
          · rw [hjk]; exact hg
          · exact HAL.out j (by omega)
        case measure => simp [intOf]; omega
      · have hgz : (g k != 0) = true := by simp [hg]
        go_wp2
        go_ret
        exact ⟨by rw [H1.out k (by have := HL.out; omega) HAL.out hg]; rfl, HBW.out.trans ((HBR.out dq osq).mono HBW.out.size)⟩
    · go_wp2
      go_ret
      exact ⟨by rw [H2.out (fun j hj => hal.out j (by have := HL.out; omega))]; rfl, hbW⟩
set_option maxHeartbeats 8000000 in
set_option maxRecDepth 100000 in
theorem Q8 (m : Int) (l : List S24) (v : S51) (g : Nat → Int) (r : Int) (hv0 : v.f0 = 0) (hL : (v.f1.length : Int) ≤ m) (h1l : l.length = 1)
    (hE : ∀ j, j < v.f1.length → CF (ag l ((0 : Nat) : Int)) (aX v.f1 (j : Int)) (g j))
    (h1 : ∀ k, k < v.f1.length → (∀ j, j < k → g j = 0) → g k ≠ 0 → r = g k) (h2 : (∀ j, j < v.f1.length → g j = 0) → r = 0) : CF ⟨6, 0, 0, m, l⟩ v r := by
  intro A c B d w hA hc hB hd
  have hn := hB.2.1
  obtain ⟨v0, vs⟩ := v
  dsimp only [tyV, vaV] at hA hc hB hd hn hv0 hL h1l hE h1 h2 ⊢
  subst hv0
  have HA := Lib.hid hA
  have HV := Lib.hid hB
  have HE := Lib.hid hE
  have H1 := Lib.hid h1
  have H2 := Lib.hid h2
  obtain ⟨L, hLe⟩ : ∃ L, L = vs.length := ⟨_, rfl⟩
  have HL := Lib.hid hLe
  have HLL := Lib.hid h1l
  rw [h1l] at hc ⊢
  rw [← hLe] at hd hn hL ⊢
  have hb2 : Below w.heap.size w ((w.alloc (.cells #[.int .i64 6, .int .i64 0, .int .i64 0, .int .i64 m, .slice A 1 c] 24)).alloc (.cells #[.int .i64 0, .slice B L d] 51)) := ((Below.refl _ w).alloc (Nat.le_refl _) _).alloc (by simp) _
  have hbt : ((w.alloc (.cells #[.int .i64 6, .int .i64 0, .int .i64 0, .int .i64 m, .slice A 1 c] 24)).alloc (.cells #[.int .i64 0, .slice B L d] 51)).heap[w.heap.size]? = some (.cells #[.int .i64 6, .int .i64 0, .int .i64 0, .int .i64 m, .slice A 1 c] 24 (0, 0)) := (Below.heap_alloc _ _ _ (by simp)).trans (heap_alloc_new w _)
  have hs2 : w.heap.size < ((w.alloc (.cells #[.int .i64 6, .int .i64 0, .int .i64 0, .int .i64 m, .slice A 1 c] 24)).alloc (.cells #[.int .i64 0, .slice B L d] 51)).heap.size := by simp; omega
  have HB2 := Lib.hid hb2
  have HBT := Lib.hid hbt
  have HS2 := Lib.hid hs2
  clear hA hB hE h1 h2 hLe h1l hb2 hbt hs2
  go_enter Tryd.func78, Tryd.ntmps78
  go_wp2
  generalize (w.alloc (.cells #[.int .i64 6, .int .i64 0, .int .i64 0, .int .i64 m, .slice A 1 c] 24)).alloc (.cells #[.int .i64 0, .slice B L d] 51) = W2 at HB2 HBT HS2 ⊢
  go_loopw [51] (fun i wr => ∃ k : Nat, i = .int .i64 k ∧ k ≤ L ∧ Below W2.heap.size W2 wr ∧ aa (∀ j, j < k → g j = 0)) (fun i _ => L - (intOf i).toNat)
  case atStart => exact ⟨0, rfl, Nat.zero_le _, Below.refl _ _, ⟨fun j hj => by omega⟩⟩
  case round =>
    obtain ⟨k, rfl, hk, hbw, hal⟩ := hrel
    have hbW : Below w.heap.size w wr := HB2.out.trans (hbw.mono HB2.out.size)
    by_cases hlt : k < L
    · obtain ⟨ae, B4, e4, rfl, q0, q1, m4, r4⟩ := nA (Kd.aC HV.out hbW) (k : Int) (by omega) (by have := HL.out; omega)
      rw [Int.toNat_natCast] at q0 q1
      have hEE := HE.out k (by have := HL.out; omega)
      obtain ⟨A4, c4, g4, l4, hel⟩ := L6 ⟨6, 0, 0, m, l⟩ A c k wr (Kd.aC HA.out hbW) (by have := HLL.out; dsimp only; omega) 0 (by simp) (by have := HLL.out; dsimp only; omega)
      dsimp only [tyV] at g4 l4 hel
      obtain ⟨x, hx⟩ : ∃ x, x = ag l ((0 : Nat) : Int) := ⟨_, rfl⟩
      obtain ⟨y, hy⟩ : ∃ y, y = aX vs (k : Int) := ⟨_, rfl⟩
      rw [← hx] at g4 l4 hel hEE
      rw [← hy] at q0 q1 m4 r4 hEE
      have hlen : l.length = 1 := HLL.out
      rw [hlen] at hel
      have HEE := Lib.hid hEE
      have HG4 := Lib.hid g4
      have HR4 := Lib.hid r4
      have HBW := Lib.hid hbW
      have CG := Lib.hid hbw
      have HAL := Lib.hid hal.out
      have HEL := Lib.hid hel
      have u2 := World.block_lt_of_cell? _ _ q0
      have hbt := (hbw.block _ HS2.out).trans HBT.out
      have HBTr := Lib.hid hbt
      clear hEE g4 r4 hbW hbw hal hel hx hy hlen hbt
      go_wp2
      have hB3 : Below wr.heap.size wr (wr.alloc (.cells #[.int .i64 y.f0, .slice B4 y.f1.length e4] 51)) := (Below.refl _ wr).alloc (Nat.le_refl _) _
      have hb3 := (hB3.block _ (mO HBTr.out)).trans HBTr.out
      have hy3 := heap_alloc_new wr (.cells #[.int .i64 y.f0, .slice B4 y.f1.length e4] 51)
      generalize wr.alloc (.cells #[.int .i64 y.f0, .slice B4 y.f1.length e4] 51) = W3 at hB3 hb3 hy3 ⊢
      have k0 := cell_regrown ((ai hb3 0).trans rfl)
      have k1 := cell_regrown ((ai hb3 1).trans rfl)
      have k2 := cell_regrown ((ai hb3 2).trans rfl)
      have k3 := cell_regrown ((ai hb3 3).trans rfl)
      have k4 := cell_regrown ((ai hb3 4).trans rfl)
      have k5 := cell_regrown ((ai hy3 0).trans rfl)
      have k6 := cell_regrown ((ai hy3 1).trans rfl)
      have hBr : ∀ d os, Below wr.heap.size wr (Go.Sort.grow (redrawn W3 d) os) := fun d os => hB3.trans ((below_regrown W3 d os).mono hB3.size)
      have cE : ∀ d os, Calls Tryd.prog 81 _ (Go.Sort.grow (redrawn W3 d) os) _ := fun d os => Calls.regrown_of (HEL.out _ (hBr d os))
      have cC : ∀ d os, Calls Tryd.prog 78 _ (Go.Sort.grow (redrawn W3 d) os) _ := fun d os => Calls.regrown_of (HEE.out A4 c4 B4 e4 _ (Kd.aC HG4.out (hBr d os)) l4 (Kd.aC HR4.out (hBr d os)) m4)
      have HBR := Lib.hid hBr
      clear hBr hB3 hb3 hy3
      dsimp only [tyV, vaV] at cE cC
      refine wp_region_quiet_below (by kernel_rfl) (by kernel_rfl) ?_
      repeat (quiet_step (first | exact cE _ _ | exact cC _ _))
      refine wpQuiet_nil ?_
      intro _ hw'
      obtain ⟨⟨dq, osq⟩, hw''⟩ := hw'
      subst hw''
      dsimp only
      by_cases hg : g k = 0
      · have hgz : (g k != 0) = false := by simp [hg]
        go_wp2
        go_roundw
        case rel =>
          refine ⟨k + 1, by go_num, hlt, CG.out.trans ((HBR.out dq osq).mono CG.out.size), ⟨fun j hj => ?_⟩⟩
          by_cases hjk : j = k
          · rw [hjk]; exact hg
          · exact HAL.out j (by omega)
        case measure => simp [intOf]; omega
      · have hgz : (g k != 0) = true := by simp [hg]
        go_wp2
        go_ret
        exact ⟨by rw [H1.out k (by have := HL.out; omega) HAL.out hg]; rfl, HBW.out.trans ((HBR.out dq osq).mono HBW.out.size)⟩
    · go_wp2
      go_ret
      exact ⟨by rw [H2.out (fun j hj => hal.out j (by have := HL.out; omega))]; rfl, hbW⟩
set_option maxHeartbeats 4000000 in
set_option maxRecDepth 100000 in
theorem OZ (a0 m : Int) (l : List S24) (v : S51) (h : (a0 = 5 ∧ (v.f0 ≠ 0 ∨ v.f1.length ≠ l.length)) ∨ (a0 = 6 ∧ (v.f0 ≠ 0 ∨ (v.f1.length : Int) > m))) : CF ⟨a0, 0, 0, m, l⟩ v 2 := by
  intro A c B d w hA hc hB hd
  have hn := hB.2.1
  have hm := hA.2.1
  obtain ⟨v0, vs⟩ := v
  dsimp only [tyV, vaV] at hc hd hn hm h ⊢
  obtain ⟨L, hL⟩ : ∃ L, L = vs.length := ⟨_, rfl⟩
  obtain ⟨N, hN⟩ : ∃ N, N = l.length := ⟨_, rfl⟩
  rw [← hL] at hd hn h ⊢
  rw [← hN] at hc hm h ⊢
  have hb2 : Below w.heap.size w ((w.alloc (.cells #[.int .i64 a0, .int .i64 0, .int .i64 0, .int .i64 m, .slice A N c] 24)).alloc (.cells #[.int .i64 v0, .slice B L d] 51)) := ((Below.refl _ w).alloc (Nat.le_refl _) _).alloc (by simp) _
  have HB2 := Lib.hid hb2
  clear hA hB hL hN hb2
  rcases h with ⟨rfl, h⟩ | ⟨rfl, h⟩
  · by_cases h0 : v0 = 0
    · subst h0
      have hz : ((L : Int) != (N : Int)) = true := by simp; omega
      clear h
      go_enter Tryd.func78, Tryd.ntmps78
      go_wp2
      go_ret
      exact ⟨rfl, HB2.out⟩
    · have hz : (v0 != 0) = true := by simp [h0]
      clear h
      go_enter Tryd.func78, Tryd.ntmps78
      go_wp2
      go_ret
      exact ⟨rfl, HB2.out⟩
  · by_cases h0 : v0 = 0
    · subst h0
      have hz : (L : Int) > m := by omega
      clear h
      go_enter Tryd.func78, Tryd.ntmps78
      go_wp2
      go_ret
      exact ⟨rfl, HB2.out⟩
    · have hz : (v0 != 0) = true := by simp [h0]
      clear h
      go_enter Tryd.func78, Tryd.ntmps78
      go_wp2
      go_ret
      exact ⟨rfl, HB2.out⟩
theorem Ij {f : S24 → S51 → Int} : ∀ (l : List S24) (vs : List S51), l.length = vs.length → (∀ k, k < vs.length → (∀ j, j < k → f (ag l (j : Int)) (aX vs (j : Int)) = 0) → f (ag l (k : Int)) (aX vs (k : Int)) ≠ 0 → ck1 f l vs = f (ag l (k : Int)) (aX vs (k : Int))) ∧ ((∀ j, j < vs.length → f (ag l (j : Int)) (aX vs (j : Int)) = 0) → ck1 f l vs = 0)
  | [], [], _ => ⟨fun k hk => by simp at hk, fun _ => by simp [ck1]⟩
  | [], _ :: _, h => by simp at h
  | _ :: _, [], h => by simp at h
  | t :: l, v :: vs, h => by
    obtain ⟨i1, i2⟩ := Ij (f := f) l vs (by simpa using h)
    have s1 : ∀ j : Nat, ag (t :: l) ((j + 1 : Nat) : Int) = ag l (j : Int) := fun j => by unfold ag; rw [Int.toNat_natCast, Int.toNat_natCast, List.getD_cons_succ]
    have s2 : ∀ j : Nat, aX (v :: vs) ((j + 1 : Nat) : Int) = aX vs (j : Int) := fun j => by unfold aX; rw [Int.toNat_natCast, Int.toNat_natCast, List.getD_cons_succ]
    have z1 : ag (t :: l) ((0 : Nat) : Int) = t := by unfold ag; rfl
    have z2 : aX (v :: vs) ((0 : Nat) : Int) = v := by unfold aX; rfl
    refine ⟨fun k hk hj hne => ?_, fun hj => ?_⟩
    · cases k with
      | zero => rw [z1, z2] at hne ⊢; unfold ck1; rw [if_neg hne]
      | succ k =>
        have h0 := hj 0 (by omega)
        rw [z1, z2] at h0
        rw [s1, s2] at hne ⊢
        unfold ck1
        rw [if_pos h0]
        exact i1 k (by simpa using hk) (fun j hjk => by have := hj (j + 1) (by omega); rwa [s1, s2] at this) hne
    · have h0 := hj 0 (by simp)
      rw [z1, z2] at h0
      unfold ck1
      rw [if_pos h0]
      exact i2 (fun j hjl => by have := hj (j + 1) (by simpa using hjl); rwa [s1, s2] at this)
theorem Ik {f : S51 → Int} : ∀ (vs : List S51), (∀ k, k < vs.length → (∀ j, j < k → f (aX vs (j : Int)) = 0) → f (aX vs (k : Int)) ≠ 0 → ck2 f vs = f (aX vs (k : Int))) ∧ ((∀ j, j < vs.length → f (aX vs (j : Int)) = 0) → ck2 f vs = 0)
  | [] => ⟨fun k hk => by simp at hk, fun _ => by simp [ck2]⟩
  | v :: vs => by
    obtain ⟨i1, i2⟩ := Ik (f := f) vs
    have s2 : ∀ j : Nat, aX (v :: vs) ((j + 1 : Nat) : Int) = aX vs (j : Int) := fun j => by unfold aX; rw [Int.toNat_natCast, Int.toNat_natCast, List.getD_cons_succ]
    have z2 : aX (v :: vs) ((0 : Nat) : Int) = v := by unfold aX; rfl
    refine ⟨fun k hk hj hne => ?_, fun hj => ?_⟩
    · cases k with
      | zero => rw [z2] at hne ⊢; unfold ck2; rw [if_neg hne]
      | succ k =>
        have h0 := hj 0 (by omega)
        rw [z2] at h0
        rw [s2] at hne ⊢
        unfold ck2
        rw [if_pos h0]
        exact i1 k (by simpa using hk) (fun j hjk => by have := hj (j + 1) (by omega); rwa [s2] at this) hne
    · have h0 := hj 0 (by simp)
      rw [z2] at h0
      unfold ck2
      rw [if_pos h0]
      exact i2 (fun j hjl => by have := hj (j + 1) (by simpa using hjl); rwa [s2] at this)
theorem U2 (n : Nat) : ∀ (t : S24) (v : S51), Vt n t → t.f0 ≠ 4 → CF t v (chk n t v) := by
  induction n with
  | zero => intro t v h; cases h
  | succ n ih =>
    intro t v h h4
    cases h with
    | bool => rw [OW]; simpa using Gl 1 0 0 v (.inl rfl)
    | int _ lo hi h1 h2 h3 => rw [OX]; simpa using Gl 2 lo hi v (.inr (.inl rfl))
    | nat => rw [OY]; simpa using Gl 3 0 0 v (.inr (.inr rfl))
    | real => exact absurd rfl h4
    | tup _ l h1 h2 h3 h5 =>
      have e : chk (n + 1) ⟨5, 0, 0, 0, l⟩ v = if v.f0 ≠ 0 ∨ v.f1.length ≠ l.length then 2 else ck1 (chk n) l v.f1 := by simp [chk]
      rw [e]
      by_cases hb : v.f0 ≠ 0 ∨ v.f1.length ≠ l.length
      · rw [if_pos hb]; exact OZ 5 0 l v (.inl ⟨rfl, hb⟩)
      · rw [if_neg hb]
        have hl : v.f1.length = l.length := by omega
        obtain ⟨i1, i2⟩ := Ij (f := chk n) l v.f1 hl.symm
        refine Q7 0 l v (fun j => chk n (ag l (j : Int)) (aX v.f1 (j : Int))) _ (by omega) hl (fun j hj => ?_) i1 i2
        have hm : ag l (j : Int) ∈ l := by rw [rdT (by omega)]; exact List.getElem_mem _
        exact ih _ _ (h3 _ hm) (h5 _ hm).2
    | lst _ m x h1 h2 h3 h5 =>
      have e : chk (n + 1) ⟨6, 0, 0, m, [x]⟩ v = if v.f0 ≠ 0 ∨ (v.f1.length : Int) > m then 2 else ck2 (chk n (ag [x] ((0 : Nat) : Int))) v.f1 := by simp [chk]
      rw [e]
      by_cases hb : v.f0 ≠ 0 ∨ (v.f1.length : Int) > m
      · rw [if_pos hb]; exact OZ 6 m [x] v (.inr ⟨rfl, hb⟩)
      · rw [if_neg hb]
        obtain ⟨i1, i2⟩ := Ik (f := chk n (ag [x] ((0 : Nat) : Int))) v.f1
        refine Q8 m [x] v (fun j => chk n (ag [x] ((0 : Nat) : Int)) (aX v.f1 (j : Int))) _ (by omega) (by omega) rfl (fun j hj => ?_) i1 i2
        have hm : ag [x] ((0 : Nat) : Int) = x := rd1 x
        rw [hm]
        exact ih _ _ h3 (by omega)
def CJ (t : S24) (v : S51) (r : Int) : Prop := ∀ (A : Option Addr) (c : Nat) (B : Option Addr) (d : Nat) (w : World), Kd.C k24 w A t.f4.length t.f4 → t.f4.length ≤ c → Kd.C k51 w B v.f1.length v.f1 → v.f1.length ≤ d →
  Calls Tryd.prog 56 #[tyV t A c, vaV v B d] w fun e w' => e = .returned (.int .i64 r) ∧ Below w.heap.size w w'
set_option maxHeartbeats 4000000 in
set_option maxRecDepth 100000 in
theorem Gm (q lo hi : Int) (v : S51) (hq : (q = 1 ∧ lo = 0) ∨ q = 2 ∨ (q = 3 ∧ lo = 0)) : CJ ⟨q, lo, hi, 0, []⟩ v (if v.f1.length ≠ 0 then 2 else if v.f0 < lo ∨ v.f0 > (if q = 1 then 1 else if q = 3 then v.f0 else hi) then 1 else 0) := by
  intro A c B d w hA hc hB hd
  have hn := hB.2.1
  obtain ⟨v0, vs⟩ := v
  dsimp only [tyV, vaV, List.length_nil] at hd hn ⊢
  obtain ⟨L, hL⟩ : ∃ L, L = vs.length := ⟨_, rfl⟩
  rw [← hL] at hd hn ⊢
  have hb2 : Below w.heap.size w ((w.alloc (.cells #[.int .i64 q, .int .i64 lo, .int .i64 hi, .int .i64 0, .slice A 0 c] 24)).alloc (.cells #[.int .i64 v0, .slice B L d] 51)) := ((Below.refl _ w).alloc (Nat.le_refl _) _).alloc (by simp) _
  have HB2 := Lib.hid hb2
  clear hA hB hL hb2
  have q5 : (q == 5) = false := beq_false_of_ne (by omega)
  have q6 : (q == 6) = false := beq_false_of_ne (by omega)
  by_cases h0 : L = 0
  · subst h0
    rw [if_neg (by simp)]
    rcases hq with ⟨rfl, rfl⟩ | rfl | ⟨rfl, rfl⟩
    · have eH : (if (1 : Int) = 1 then (1 : Int) else if (1 : Int) = 3 then v0 else hi) = 1 := by simp
      rw [eH]
      by_cases c1 : v0 = 0
      · subst c1
        rw [if_neg (by omega)]
        go_enter Tryd.func56, Tryd.ntmps56
        go_wp2
        go_ret
        exact ⟨rfl, HB2.out⟩
      · have z1 : (v0 != 0) = true := by simp [c1]
        by_cases c2 : v0 = 1
        · subst c2
          rw [if_neg (by omega)]
          go_enter Tryd.func56, Tryd.ntmps56
          go_wp2
          go_ret
          exact ⟨rfl, HB2.out⟩
        · have z2 : (v0 != 1) = true := by simp [c2]
          rw [if_pos (by omega)]
          go_enter Tryd.func56, Tryd.ntmps56
          go_wp2
          go_ret
          exact ⟨rfl, HB2.out⟩
    · have eH : (if (2 : Int) = 1 then (1 : Int) else if (2 : Int) = 3 then v0 else hi) = hi := by simp
      rw [eH]
      by_cases c1 : v0 < lo
      · rw [if_pos (.inl c1)]
        go_enter Tryd.func56, Tryd.ntmps56
        go_wp2
        go_ret
        exact ⟨rfl, HB2.out⟩
      · by_cases c2 : v0 > hi
        · rw [if_pos (.inr c2)]
          go_enter Tryd.func56, Tryd.ntmps56
          go_wp2
          go_ret
          exact ⟨rfl, HB2.out⟩
        · rw [if_neg (by omega)]
          go_enter Tryd.func56, Tryd.ntmps56
          go_wp2
          go_ret
          exact ⟨rfl, HB2.out⟩
    · have eH : (if (3 : Int) = 1 then (1 : Int) else if (3 : Int) = 3 then v0 else hi) = v0 := by simp
      rw [eH]
      by_cases c1 : v0 < 0
      · rw [if_pos (.inl c1)]
        go_enter Tryd.func56, Tryd.ntmps56
        go_wp2
        go_ret
        exact ⟨rfl, HB2.out⟩
      · rw [if_neg (by omega)]
        go_enter Tryd.func56, Tryd.ntmps56
        go_wp2
        go_ret
        exact ⟨rfl, HB2.out⟩
  · rw [if_pos h0]
    have hz : (L : Int) > 0 := by omega
    go_enter Tryd.func56, Tryd.ntmps56
    go_wp2
    go_ret
    exact ⟨rfl, HB2.out⟩
set_option maxHeartbeats 8000000 in
set_option maxRecDepth 100000 in
theorem Q9 (m : Int) (l : List S24) (v : S51) (g : Nat → Int) (r : Int) (hv0 : v.f0 = 0) (hL : v.f1.length = l.length)
    (hE : ∀ j, j < v.f1.length → CJ (ag l (j : Int)) (aX v.f1 (j : Int)) (g j))
    (h1 : ∀ k, k < v.f1.length → (∀ j, j < k → g j = 0) → g k ≠ 0 → r = g k) (h2 : (∀ j, j < v.f1.length → g j = 0) → r = 0) : CJ ⟨5, 0, 0, m, l⟩ v r := by
  intro A c B d w hA hc hB hd
  have hn := hB.2.1
  obtain ⟨v0, vs⟩ := v
  dsimp only [tyV, vaV] at hA hc hB hd hn hv0 hL hE h1 h2 ⊢
  subst hv0
  have HA := Lib.hid hA
  have HV := Lib.hid hB
  have HE := Lib.hid hE
  have H1 := Lib.hid h1
  have H2 := Lib.hid h2
  obtain ⟨L, hLe⟩ : ∃ L, L = vs.length := ⟨_, rfl⟩
  have HL := Lib.hid hLe
  have HLL := Lib.hid hL
  rw [← hL] at hc ⊢
  rw [← hLe] at hd hn hc ⊢
  have hb2 : Below w.heap.size w ((w.alloc (.cells #[.int .i64 5, .int .i64 0, .int .i64 0, .int .i64 m, .slice A L c] 24)).alloc (.cells #[.int .i64 0, .slice B L d] 51)) := ((Below.refl _ w).alloc (Nat.le_refl _) _).alloc (by simp) _
  have hbt : ((w.alloc (.cells #[.int .i64 5, .int .i64 0, .int .i64 0, .int .i64 m, .slice A L c] 24)).alloc (.cells #[.int .i64 0, .slice B L d] 51)).heap[w.heap.size]? = some (.cells #[.int .i64 5, .int .i64 0, .int .i64 0, .int .i64 m, .slice A L c] 24 (0, 0)) := (Below.heap_alloc _ _ _ (by simp)).trans (heap_alloc_new w _)
  have hbv : ((w.alloc (.cells #[.int .i64 5, .int .i64 0, .int .i64 0, .int .i64 m, .slice A L c] 24)).alloc (.cells #[.int .i64 0, .slice B L d] 51)).heap[w.heap.size + 1]? = some (.cells #[.int .i64 0, .slice B L d] 51 (0, 0)) := by simpa using heap_alloc_new (w.alloc (.cells #[.int .i64 5, .int .i64 0, .int .i64 0, .int .i64 m, .slice A L c] 24)) (.cells #[.int .i64 0, .slice B L d] 51)
  have HB2 := Lib.hid hb2
  have HBT := Lib.hid hbt
  have HBV := Lib.hid hbv
  clear hA hB hE h1 h2 hLe hL hb2 hbt hbv
  go_enter Tryd.func56, Tryd.ntmps56
  go_wp2
  generalize (w.alloc (.cells #[.int .i64 5, .int .i64 0, .int .i64 0, .int .i64 m, .slice A L c] 24)).alloc (.cells #[.int .i64 0, .slice B L d] 51) = W2 at HB2 HBT HBV ⊢
  go_loopw [5] (fun i wr => ∃ k : Nat, i = .int .i64 k ∧ k ≤ L ∧ Below W2.heap.size W2 wr ∧ aa (∀ j, j < k → g j = 0)) (fun i _ => L - (intOf i).toNat)
  case atStart => exact ⟨0, rfl, Nat.zero_le _, Below.refl _ _, ⟨fun j hj => by omega⟩⟩
  case round =>
    obtain ⟨k, rfl, hk, hbw, hal⟩ := hrel
    have hbW : Below w.heap.size w wr := HB2.out.trans (hbw.mono HB2.out.size)
    have hbt := (hbw.block _ (mO HBT.out)).trans HBT.out
    have hbv := (hbw.block _ (mO HBV.out)).trans HBV.out
    have t0 : wr.cell? ⟨w.heap.size, 0, none⟩ = some (.int .i64 5) := (ai hbt 0).trans rfl
    have t4 : wr.cell? ⟨w.heap.size, 4, none⟩ = some (.slice A L c) := (ai hbt 4).trans rfl
    have v1 : wr.cell? ⟨w.heap.size + 1, 1, none⟩ = some (.slice B L d) := (ai hbv 1).trans rfl
    have u0 := mO hbt
    have u1 := mO hbv
    have HBTr := Lib.hid hbt
    have HBVr := Lib.hid hbv
    clear hbt hbv
    by_cases hlt : k < L
    · obtain ⟨ae, B4, e4, rfl, q0, q1, m4, r4⟩ := nA (Kd.aC HV.out hbW) (k : Int) (by omega) (by have := HL.out; omega)
      rw [Int.toNat_natCast] at q0 q1
      have hEE := HE.out k (by have := HL.out; omega)
      obtain ⟨ad, A0, c0, rfl, a0, a1, a2, a3, a4, -, -⟩ := fC (Kd.aC HA.out hbW) 0 (by omega) (by have := HL.out; have := HLL.out; omega)
      have ez : ad.add ((0 : Int).toNat * 5) = ad := by simp [Addr.add]
      rw [ez] at a0 a1 a2 a3 a4
      obtain ⟨ad2, A4, c4, ee, d0, d1, d2, d3, d4, l4, g4⟩ := fC (Kd.aC HA.out hbW) (k : Int) (by omega) (by have := HL.out; have := HLL.out; omega)
      obtain rfl := Option.some.inj ee
      rw [Int.toNat_natCast] at d0 d1 d2 d3 d4
      obtain ⟨z, hz⟩ : ∃ z, z = ag l 0 := ⟨_, rfl⟩
      obtain ⟨x, hx⟩ : ∃ x, x = ag l (k : Int) := ⟨_, rfl⟩
      obtain ⟨y, hy⟩ : ∃ y, y = aX vs (k : Int) := ⟨_, rfl⟩
      rw [← hz] at a0 a1 a2 a3 a4
      rw [← hx] at d0 d1 d2 d3 d4 l4 g4 hEE
      rw [← hy] at q0 q1 m4 r4 hEE
      have HEE := Lib.hid hEE
      have HG4 := Lib.hid g4
      have HR4 := Lib.hid r4
      have HBW := Lib.hid hbW
      have CG := Lib.hid hbw
      have HAL := Lib.hid hal.out
      have x0 := World.block_lt_of_cell? _ _ a0
      have x1 := World.block_lt_of_cell? _ _ d0
      have x2 := World.block_lt_of_cell? _ _ q0
      clear hEE g4 r4 hbW hbw hal hx hy hz ez ee
      go_wp2
      have hB3 : Below wr.heap.size wr (wr.alloc (.cells #[.int .i64 x.f0, .int .i64 x.f1, .int .i64 x.f2, .int .i64 x.f3, .slice A4 x.f4.length c4] 24)) := (Below.refl _ wr).alloc (Nat.le_refl _) _
      have hv3 := (hB3.block _ (mO HBVr.out)).trans HBVr.out
      have hx3 := heap_alloc_new wr (.cells #[.int .i64 x.f0, .int .i64 x.f1, .int .i64 x.f2, .int .i64 x.f3, .slice A4 x.f4.length c4] 24)
      have e0 := cell_regrown (lU hB3 q0)
      have e1 := cell_regrown (lU hB3 q1)
      generalize wr.alloc (.cells #[.int .i64 x.f0, .int .i64 x.f1, .int .i64 x.f2, .int .i64 x.f3, .slice A4 x.f4.length c4] 24) = W3 at hB3 hv3 hx3 e0 e1 ⊢
      have k0 := cell_regrown ((ai hx3 0).trans rfl)
      have k1 := cell_regrown ((ai hx3 1).trans rfl)
      have k2 := cell_regrown ((ai hx3 2).trans rfl)
      have k3 := cell_regrown ((ai hx3 3).trans rfl)
      have k4 := cell_regrown ((ai hx3 4).trans rfl)
      have k5 := cell_regrown ((ai hv3 1).trans rfl)
      have hBr : ∀ d os, Below wr.heap.size wr (Go.Sort.grow (redrawn W3 d) os) := fun d os => hB3.trans ((below_regrown W3 d os).mono hB3.size)
      have cC : ∀ d os, Calls Tryd.prog 56 _ (Go.Sort.grow (redrawn W3 d) os) _ := fun d os => Calls.regrown_of (HEE.out A4 c4 B4 e4 _ (Kd.aC HG4.out (hBr d os)) l4 (Kd.aC HR4.out (hBr d os)) m4)
      have HBR := Lib.hid hBr
      clear hBr hB3 hv3 hx3
      dsimp only [tyV, vaV] at cC
      refine wp_region_quiet_below (by kernel_rfl) (by kernel_rfl) ?_
      repeat (quiet_step (exact cC _ _))
      refine wpQuiet_nil ?_
      intro _ hw'
      obtain ⟨⟨dq, osq⟩, hw''⟩ := hw'
      subst hw''
      dsimp only
      by_cases hg : g k = 0
      · have hgz : (g k != 0) = false := by simp [hg]
        go_wp2
        go_roundw
        case rel =>
          refine ⟨k + 1, by go_num, hlt, CG.out.trans ((HBR.out dq osq).mono CG.out.size), ⟨fun j hj => ?_⟩⟩
          by_cases hjk : j = k
          · rw [hjk]; exact hg
          · exact HAL.out j (by omega)
        case measure => simp [intOf]; omega
      · have hgz : (g k != 0) = true := by simp [hg]
        go_wp2
        go_ret
        exact ⟨by rw [H1.out k (by have := HL.out; omega) HAL.out hg]; rfl, HBW.out.trans ((HBR.out dq osq).mono HBW.out.size)⟩
    · go_wp2
      go_ret
      exact ⟨by rw [H2.out (fun j hj => hal.out j (by have := HL.out; omega))]; rfl, hbW⟩
set_option maxHeartbeats 8000000 in
set_option maxRecDepth 100000 in
theorem Ra (m : Int) (l : List S24) (v : S51) (g : Nat → Int) (r : Int) (hv0 : v.f0 = 0) (hL : (v.f1.length : Int) ≤ m) (h1l : l.length = 1)
    (hE : ∀ j, j < v.f1.length → CJ (ag l ((0 : Nat) : Int)) (aX v.f1 (j : Int)) (g j))
    (h1 : ∀ k, k < v.f1.length → (∀ j, j < k → g j = 0) → g k ≠ 0 → r = g k) (h2 : (∀ j, j < v.f1.length → g j = 0) → r = 0) : CJ ⟨6, 0, 0, m, l⟩ v r := by
  intro A c B d w hA hc hB hd
  have hn := hB.2.1
  obtain ⟨v0, vs⟩ := v
  dsimp only [tyV, vaV] at hA hc hB hd hn hv0 hL h1l hE h1 h2 ⊢
  subst hv0
  have HA := Lib.hid hA
  have HV := Lib.hid hB
  have HE := Lib.hid hE
  have H1 := Lib.hid h1
  have H2 := Lib.hid h2
  obtain ⟨L, hLe⟩ : ∃ L, L = vs.length := ⟨_, rfl⟩
  have HL := Lib.hid hLe
  have HLL := Lib.hid h1l
  rw [h1l] at hc ⊢
  rw [← hLe] at hd hn hL ⊢
  have hb2 : Below w.heap.size w ((w.alloc (.cells #[.int .i64 6, .int .i64 0, .int .i64 0, .int .i64 m, .slice A 1 c] 24)).alloc (.cells #[.int .i64 0, .slice B L d] 51)) := ((Below.refl _ w).alloc (Nat.le_refl _) _).alloc (by simp) _
  have hbt : ((w.alloc (.cells #[.int .i64 6, .int .i64 0, .int .i64 0, .int .i64 m, .slice A 1 c] 24)).alloc (.cells #[.int .i64 0, .slice B L d] 51)).heap[w.heap.size]? = some (.cells #[.int .i64 6, .int .i64 0, .int .i64 0, .int .i64 m, .slice A 1 c] 24 (0, 0)) := (Below.heap_alloc _ _ _ (by simp)).trans (heap_alloc_new w _)
  have hbv : ((w.alloc (.cells #[.int .i64 6, .int .i64 0, .int .i64 0, .int .i64 m, .slice A 1 c] 24)).alloc (.cells #[.int .i64 0, .slice B L d] 51)).heap[w.heap.size + 1]? = some (.cells #[.int .i64 0, .slice B L d] 51 (0, 0)) := by simpa using heap_alloc_new (w.alloc (.cells #[.int .i64 6, .int .i64 0, .int .i64 0, .int .i64 m, .slice A 1 c] 24)) (.cells #[.int .i64 0, .slice B L d] 51)
  have HB2 := Lib.hid hb2
  have HBT := Lib.hid hbt
  have HBV := Lib.hid hbv
  clear hA hB hE h1 h2 hLe h1l hb2 hbt hbv
  go_enter Tryd.func56, Tryd.ntmps56
  go_wp2
  generalize (w.alloc (.cells #[.int .i64 6, .int .i64 0, .int .i64 0, .int .i64 m, .slice A 1 c] 24)).alloc (.cells #[.int .i64 0, .slice B L d] 51) = W2 at HB2 HBT HBV ⊢
  go_loopw [5] (fun i wr => ∃ k : Nat, i = .int .i64 k ∧ k ≤ L ∧ Below W2.heap.size W2 wr ∧ aa (∀ j, j < k → g j = 0)) (fun i _ => L - (intOf i).toNat)
  case atStart => exact ⟨0, rfl, Nat.zero_le _, Below.refl _ _, ⟨fun j hj => by omega⟩⟩
  case round =>
    obtain ⟨k, rfl, hk, hbw, hal⟩ := hrel
    have hbW : Below w.heap.size w wr := HB2.out.trans (hbw.mono HB2.out.size)
    have hbt := (hbw.block _ (mO HBT.out)).trans HBT.out
    have hbv := (hbw.block _ (mO HBV.out)).trans HBV.out
    have t0 : wr.cell? ⟨w.heap.size, 0, none⟩ = some (.int .i64 6) := (ai hbt 0).trans rfl
    have t4 : wr.cell? ⟨w.heap.size, 4, none⟩ = some (.slice A 1 c) := (ai hbt 4).trans rfl
    have v1 : wr.cell? ⟨w.heap.size + 1, 1, none⟩ = some (.slice B L d) := (ai hbv 1).trans rfl
    have u0 := mO hbt
    have u1 := mO hbv
    have HBTr := Lib.hid hbt
    have HBVr := Lib.hid hbv
    clear hbt hbv
    by_cases hlt : k < L
    · obtain ⟨ae, B4, e4, rfl, q0, q1, m4, r4⟩ := nA (Kd.aC HV.out hbW) (k : Int) (by omega) (by have := HL.out; omega)
      rw [Int.toNat_natCast] at q0 q1
      have hEE := HE.out k (by have := HL.out; omega)
      obtain ⟨ad, A4, c4, rfl, d0, d1, d2, d3, d4, l4, g4⟩ := fC (Kd.aC HA.out hbW) ((0 : Nat) : Int) (by omega) (by have := HLL.out; omega)
      have ez : ad.add (((0 : Nat) : Int).toNat * 5) = ad := by simp [Addr.add]
      rw [ez] at d0 d1 d2 d3 d4
      obtain ⟨x, hx⟩ : ∃ x, x = ag l ((0 : Nat) : Int) := ⟨_, rfl⟩
      obtain ⟨y, hy⟩ : ∃ y, y = aX vs (k : Int) := ⟨_, rfl⟩
      rw [← hx] at d0 d1 d2 d3 d4 l4 g4 hEE
      rw [← hy] at q0 q1 m4 r4 hEE
      have HEE := Lib.hid hEE
      have HG4 := Lib.hid g4
      have HR4 := Lib.hid r4
      have HBW := Lib.hid hbW
      have CG := Lib.hid hbw
      have HAL := Lib.hid hal.out
      have x1 := World.block_lt_of_cell? _ _ d0
      have x2 := World.block_lt_of_cell? _ _ q0
      clear hEE g4 r4 hbW hbw hal hx hy ez
      go_wp2
      have hB3 : Below wr.heap.size wr (wr.alloc (.cells #[.int .i64 x.f0, .int .i64 x.f1, .int .i64 x.f2, .int .i64 x.f3, .slice A4 x.f4.length c4] 24)) := (Below.refl _ wr).alloc (Nat.le_refl _) _
      have hv3 := (hB3.block _ (mO HBVr.out)).trans HBVr.out
      have hx3 := heap_alloc_new wr (.cells #[.int .i64 x.f0, .int .i64 x.f1, .int .i64 x.f2, .int .i64 x.f3, .slice A4 x.f4.length c4] 24)
      have e0 := cell_regrown (lU hB3 q0)
      have e1 := cell_regrown (lU hB3 q1)
      generalize wr.alloc (.cells #[.int .i64 x.f0, .int .i64 x.f1, .int .i64 x.f2, .int .i64 x.f3, .slice A4 x.f4.length c4] 24) = W3 at hB3 hv3 hx3 e0 e1 ⊢
      have k0 := cell_regrown ((ai hx3 0).trans rfl)
      have k1 := cell_regrown ((ai hx3 1).trans rfl)
      have k2 := cell_regrown ((ai hx3 2).trans rfl)
      have k3 := cell_regrown ((ai hx3 3).trans rfl)
      have k4 := cell_regrown ((ai hx3 4).trans rfl)
      have k5 := cell_regrown ((ai hv3 1).trans rfl)
      have hBr : ∀ d os, Below wr.heap.size wr (Go.Sort.grow (redrawn W3 d) os) := fun d os => hB3.trans ((below_regrown W3 d os).mono hB3.size)
      have cC : ∀ d os, Calls Tryd.prog 56 _ (Go.Sort.grow (redrawn W3 d) os) _ := fun d os => Calls.regrown_of (HEE.out A4 c4 B4 e4 _ (Kd.aC HG4.out (hBr d os)) l4 (Kd.aC HR4.out (hBr d os)) m4)
      have HBR := Lib.hid hBr
      clear hBr hB3 hv3 hx3
      dsimp only [tyV, vaV] at cC
      refine wp_region_quiet_below (by kernel_rfl) (by kernel_rfl) ?_
      repeat (quiet_step (exact cC _ _))
      refine wpQuiet_nil ?_
      intro _ hw'
      obtain ⟨⟨dq, osq⟩, hw''⟩ := hw'
      subst hw''
      dsimp only
      by_cases hg : g k = 0
      · have hgz : (g k != 0) = false := by simp [hg]
        go_wp2
        go_roundw
        case rel =>
          refine ⟨k + 1, by go_num, hlt, CG.out.trans ((HBR.out dq osq).mono CG.out.size), ⟨fun j hj => ?_⟩⟩
          by_cases hjk : j = k
          · rw [hjk]; exact hg
          · exact HAL.out j (by omega)
        case measure => simp [intOf]; omega
      · have hgz : (g k != 0) = true := by simp [hg]
        go_wp2
        go_ret
        exact ⟨by rw [H1.out k (by have := HL.out; omega) HAL.out hg]; rfl, HBW.out.trans ((HBR.out dq osq).mono HBW.out.size)⟩
    · go_wp2
      go_ret
      exact ⟨by rw [H2.out (fun j hj => hal.out j (by have := HL.out; omega))]; rfl, hbW⟩
set_option maxHeartbeats 4000000 in
set_option maxRecDepth 100000 in
theorem O0 (a0 m : Int) (l : List S24) (v : S51) (h : (a0 = 5 ∧ (v.f0 ≠ 0 ∨ v.f1.length ≠ l.length)) ∨ (a0 = 6 ∧ (v.f0 ≠ 0 ∨ (v.f1.length : Int) > m))) : CJ ⟨a0, 0, 0, m, l⟩ v 2 := by
  intro A c B d w hA hc hB hd
  have hn := hB.2.1
  have hm := hA.2.1
  obtain ⟨v0, vs⟩ := v
  dsimp only [tyV, vaV] at hc hd hn hm h ⊢
  obtain ⟨L, hL⟩ : ∃ L, L = vs.length := ⟨_, rfl⟩
  obtain ⟨N, hN⟩ : ∃ N, N = l.length := ⟨_, rfl⟩
  rw [← hL] at hd hn h ⊢
  rw [← hN] at hc hm h ⊢
  have hb2 : Below w.heap.size w ((w.alloc (.cells #[.int .i64 a0, .int .i64 0, .int .i64 0, .int .i64 m, .slice A N c] 24)).alloc (.cells #[.int .i64 v0, .slice B L d] 51)) := ((Below.refl _ w).alloc (Nat.le_refl _) _).alloc (by simp) _
  have HB2 := Lib.hid hb2
  clear hA hB hL hN hb2
  rcases h with ⟨rfl, h⟩ | ⟨rfl, h⟩
  · by_cases h0 : v0 = 0
    · subst h0
      have hz : ((L : Int) != (N : Int)) = true := by simp; omega
      clear h
      go_enter Tryd.func56, Tryd.ntmps56
      go_wp2
      go_ret
      exact ⟨rfl, HB2.out⟩
    · have hz : (v0 != 0) = true := by simp [h0]
      clear h
      go_enter Tryd.func56, Tryd.ntmps56
      go_wp2
      go_ret
      exact ⟨rfl, HB2.out⟩
  · by_cases h0 : v0 = 0
    · subst h0
      have hz : (L : Int) > m := by omega
      clear h
      go_enter Tryd.func56, Tryd.ntmps56
      go_wp2
      go_ret
      exact ⟨rfl, HB2.out⟩
    · have hz : (v0 != 0) = true := by simp [h0]
      clear h
      go_enter Tryd.func56, Tryd.ntmps56
      go_wp2
      go_ret
      exact ⟨rfl, HB2.out⟩
theorem U3 (n : Nat) : ∀ (t : S24) (v : S51), Vt n t → t.f0 ≠ 4 → CJ t v (chk n t v) := by
  induction n with
  | zero => intro t v h; cases h
  | succ n ih =>
    intro t v h h4
    cases h with
    | bool => rw [OW]; simpa using Gm 1 0 0 v (.inl ⟨rfl, rfl⟩)
    | int _ lo hi h1 h2 h3 => rw [OX]; simpa using Gm 2 lo hi v (.inr (.inl rfl))
    | nat => rw [OY]; simpa using Gm 3 0 0 v (.inr (.inr ⟨rfl, rfl⟩))
    | real => exact absurd rfl h4
    | tup _ l h1 h2 h3 h5 =>
      have e : chk (n + 1) ⟨5, 0, 0, 0, l⟩ v = if v.f0 ≠ 0 ∨ v.f1.length ≠ l.length then 2 else ck1 (chk n) l v.f1 := by simp [chk]
      rw [e]
      by_cases hb : v.f0 ≠ 0 ∨ v.f1.length ≠ l.length
      · rw [if_pos hb]; exact O0 5 0 l v (.inl ⟨rfl, hb⟩)
      · rw [if_neg hb]
        have hl : v.f1.length = l.length := by omega
        obtain ⟨i1, i2⟩ := Ij (f := chk n) l v.f1 hl.symm
        refine Q9 0 l v (fun j => chk n (ag l (j : Int)) (aX v.f1 (j : Int))) _ (by omega) hl (fun j hj => ?_) i1 i2
        have hm : ag l (j : Int) ∈ l := by rw [rdT (by omega)]; exact List.getElem_mem _
        exact ih _ _ (h3 _ hm) (h5 _ hm).2
    | lst _ m x h1 h2 h3 h5 =>
      have e : chk (n + 1) ⟨6, 0, 0, m, [x]⟩ v = if v.f0 ≠ 0 ∨ (v.f1.length : Int) > m then 2 else ck2 (chk n (ag [x] ((0 : Nat) : Int))) v.f1 := by simp [chk]
      rw [e]
      by_cases hb : v.f0 ≠ 0 ∨ (v.f1.length : Int) > m
      · rw [if_pos hb]; exact O0 6 m [x] v (.inr ⟨rfl, hb⟩)
      · rw [if_neg hb]
        obtain ⟨i1, i2⟩ := Ik (f := chk n (ag [x] ((0 : Nat) : Int))) v.f1
        refine Ra m [x] v (fun j => chk n (ag [x] ((0 : Nat) : Int)) (aX v.f1 (j : Int))) _ (by omega) (by omega) rfl (fun j hj => ?_) i1 i2
        have hm : ag [x] ((0 : Nat) : Int) = x := rd1 x
        rw [hm]
        exact ih _ _ h3 (by omega)
end Go.Proofs.YtggelekooacmnaaDoor.Q
