/- Lemmas for: sP -/
import Derived.Shelf.Strings.Builder1
import Derived.Shelf.Strings.Builder2
import Derived.Shelf.Strings.OnBuilder
import Derived.Shelf.Small.Wraps
import Derived.Shelf.Strconv.Itoa0
import Derived.Shelf.Strconv.Itoa1
import Derived.Shelf.LaysM
import Derived.Shelf.Strconv.Itoa2
import Derived.Shelf.Strconv.Itoa3
import Derived.Shelf.Slices.Equal
import Derived.Test.YtggelekooacmnaaDoorProg
import Derived.Lib.AppendIntMem
import Derived.Below
import Derived.Deep.Draws
import Derived.Deep.AppendLies
import Derived.Maps.AppendAt
import Derived.OwnWalk
import Derived.Laws.BytesArg
import Derived.Laws.MakeOwn
import Derived.Laws.OwnMore
import Derived.Deep.OwnRows
import Derived.Tactics
import Derived.Lib.ConvBytes
import Derived.Laws.Slices
import Derived.WalkKit
import Derived.KernelRfl
import Derived.RowKit3
import Derived.Deep.LoopGhost
import Derived.Deep.QuietTactic
import Derived.BigQuiet
import Derived.WideLaws
import Derived.Deep.DeepCutAuto
import Derived.Deep.CutBlock
import Derived.Deep.RegionHeld3
import Derived.Laws.Rows
import Derived.Lib.AppendStr
import Derived.ArgAppend
import Derived.Laws.IdiomCopy
import Derived.OrdersHeld
import Derived.Laws.BitsLemmas
import Derived.RowKit
import Derived.Test.YtggelekooacmnaaDoorTr1
/-
  DERIVED: THE SHELF's CONTRACTS AT THIS DUMP, IN PLAIN WORDS (tools/lay-plain.mjs out of 'TrydShelf.lean', which tools/lay-shelf.mjs wrote): THE SAME DECLARATIONS UNDER THE SAME NAMES: 'import', 'namespace', 'open', 'def', 'theorem' AND NOTHING ELSE: no command of the shelf's: FOR A HAND-IN. Each laying: the table of numbers ('.._ren') and one theorem, a field a fact of the dump's own or the kernel's comparison; each contract: ONE APPLICATION.
-/
namespace Go.Proofs
open Go.Shelf
def Tryd.Jq : Go.Shelf.Ren := ⟨fun | 156 => 72 | 165 => 89 | 166 => 90 | 169 => 91 | 240 => 97 | 241 => 98 | 276 => 105 | 277 => 106 | n => n, fun | 31 => 79 | 9 => 9 | 3 => 3 | 4 => 4 | 0 => 0 | 20 => 20 | 72 => 91 | 76 => 95 | 70 => 88 | 37 => 89 | 75 => 94 | 127 => 100 | 164 => 112 | 5 => 5 | 80 => 97 | n => n, fun | n => n⟩
theorem Tryd.O7 : Go.Proofs.Lays.n156 Tryd.prog Tryd.Jq := {
  mixed := by kernel_rfl
  f156 := Tryd.func72.trans (congrArg some (by kernel_rfl))
  f165 := Tryd.func89.trans (congrArg some (by kernel_rfl))
  f166 := Tryd.func90.trans (congrArg some (by kernel_rfl))
  f169 := Tryd.func91.trans (congrArg some (by kernel_rfl))
  f240 := Tryd.func97.trans (congrArg some (by kernel_rfl))
  f241 := Tryd.func98.trans (congrArg some (by kernel_rfl))
  f276 := Tryd.func105.trans (congrArg some (by kernel_rfl))
  f277 := Tryd.func106.trans (congrArg some (by kernel_rfl))
  t0 := Tryd.underlying0
  a0 := Tryd.isAgg0
  z0 := Tryd.sizeOf0
  v0 := Tryd.zeroValue0
  t3 := Tryd.underlying3
  a3 := Tryd.isAgg3
  z3 := Tryd.sizeOf3
  v3 := Tryd.zeroValue3
  t4 := Tryd.underlying4
  a4 := Tryd.isAgg4
  z4 := Tryd.sizeOf4
  v4 := Tryd.zeroValue4
  t9 := Tryd.underlying9
  a9 := Tryd.isAgg9
  z9 := Tryd.sizeOf9
  v9 := Tryd.zeroValue9
  t20 := Tryd.underlying20
  a20 := Tryd.isAgg20
  z20 := Tryd.sizeOf20
  v20 := Tryd.zeroValue20
  t31 := Tryd.underlying79
  a31 := Tryd.isAgg79
  z31 := Tryd.sizeOf79
  v31 := Tryd.zeroValue79
  t37 := Tryd.underlying89
  a37 := Tryd.isAgg89
  z37 := Tryd.sizeOf89
  v37 := Tryd.zeroValue89
  t70 := Tryd.underlying88
  a70 := Tryd.isAgg88
  z70 := Tryd.sizeOf88
  v70 := Tryd.zeroValue88
  t72 := Tryd.underlying91
  a72 := Tryd.isAgg91
  z72 := Tryd.sizeOf91
  v72 := Tryd.zeroValue91
  t75 := Tryd.underlying94
  a75 := Tryd.isAgg94
  z75 := Tryd.sizeOf94
  v75 := Tryd.zeroValue94
  t76 := Tryd.underlying95
  a76 := Tryd.isAgg95
  z76 := Tryd.sizeOf95
  v76 := Tryd.zeroValue95
  t127 := Tryd.underlying100
  a127 := Tryd.isAgg100
  z127 := Tryd.sizeOf100
  v127 := Tryd.zeroValue100
  t164 := Tryd.underlying112
  a164 := Tryd.isAgg112
  z164 := Tryd.sizeOf112
  v164 := Tryd.zeroValue112 }
theorem Tryd.BG : Builder.Extra Tryd.prog Tryd.Jq := {
  sizeBuilder := by kernel_rfl
  liesBuilder := by kernel_rfl
  t5 := Tryd.underlying5
  a5 := Tryd.isAgg5
  z5 := Tryd.sizeOf5
  v5 := Tryd.zeroValue5
  infoByte := by kernel_rfl
  cellsByte := by kernel_rfl
  sizeByte := by kernel_rfl
  neB5 := by decide }
open Go.RowKit in
/-- No element: the empty string; the world is as it was. (Whatever the slice's address and capacity: a nil slice too.) (LAID: no walk: one application.) -/
theorem Tryd.strings_Join_none (a : Option Addr) (c : Nat) (sep : ByteArray) (w : World) :
    Calls Tryd.prog 72 #[.slice a 0 c, .string sep] w fun e w' => e = .returned (.string ⟨#[]⟩) ∧ w' = w := Any.strings_Join_none Tryd.O7 Tryd.BG a c sep w
open Go.RowKit in
/-- strings.Join: "Join concatenates the elements of its first argument to create a single string. The separator string sep is placed between elements in the resulting string.": HOWEVER MANY ELEMENTS. Below the heap's end the world is as it was. (LAID: no walk: one application.) -/
theorem Tryd.strings_Join (bk o c : Nat) (xs : List ByteArray) (sep : ByteArray) (w : World) (hcells : ∀ (j : Nat) x, xs[j]? = some x → w.cell? ⟨bk, o + j, none⟩ = some (.string x)) (hbk : bk < w.heap.size) (hN : xs.length ≤ 140737488355328) (hcap : xs.length ≤ c) (hlen : (Lib.join (xs.map (·.data.toList)) sep.data.toList).length ≤ 140737488355328) :
    Calls Tryd.prog 72 #[.slice (some ⟨bk, o, none⟩) xs.length c, .string sep] w fun e w' => e = .returned (.string ⟨(Lib.join (xs.map (·.data.toList)) sep.data.toList).toArray⟩) ∧ Below w.heap.size w w' := Any.strings_Join Tryd.O7 Tryd.BG bk o c xs sep w hcells hbk hN hcap hlen
def Tryd.Oy : Go.Shelf.Ren := ⟨fun | 171 => 71 | 243 => 88 | 246 => 96 | 283 => 101 | 284 => 102 | 285 => 103 | 286 => 104 | 129 => 112 | 317 => 111 | 318 => 113 | 319 => 114 | 320 => 115 | 337 => 119 | 338 => 120 | n => n, fun | 3 => 3 | 9 => 9 | 2 => 2 | 4 => 4 | 171 => 106 | 0 => 0 | 53 => 107 | 37 => 89 | 5 => 5 | 173 => 110 | 212 => 122 | 51 => 119 | 20 => 20 | 213 => 123 | 46 => 124 | 232 => 133 | 233 => 134 | n => n, fun | 17 => 0 | 18 => 2 | 19 => 3 | n => n⟩
theorem Tryd.laysM171 : Go.Proofs.LaysM.n171 Tryd.prog Tryd.Oy := {
  mixed := by kernel_rfl
  f129 := Tryd.func112.trans (congrArg some (by kernel_rfl))
  f171 := Tryd.func71.trans (congrArg some (by kernel_rfl))
  f243 := Tryd.func88.trans (congrArg some (by kernel_rfl))
  f246 := Tryd.func96.trans (congrArg some (by kernel_rfl))
  f283 := Tryd.func101.trans (congrArg some (by kernel_rfl))
  f284 := Tryd.func102.trans (congrArg some (by kernel_rfl))
  f285 := Tryd.func103.trans (congrArg some (by kernel_rfl))
  f286 := Tryd.func104.trans (congrArg some (by kernel_rfl))
  f317 := Tryd.func111.trans (congrArg some (by kernel_rfl))
  f318 := Tryd.func113.trans (congrArg some (by kernel_rfl))
  f319 := Tryd.func114.trans (congrArg some (by kernel_rfl))
  f320 := Tryd.func115.trans (congrArg some (by kernel_rfl))
  f337 := Tryd.func119.trans (congrArg some (by kernel_rfl))
  f338 := Tryd.func120.trans (congrArg some (by kernel_rfl))
  t0 := Tryd.underlying0
  a0 := Tryd.isAgg0
  z0 := Tryd.sizeOf0
  v0 := Tryd.zeroValue0
  t2 := Tryd.underlying2
  a2 := Tryd.isAgg2
  z2 := Tryd.sizeOf2
  v2 := Tryd.zeroValue2
  t3 := Tryd.underlying3
  a3 := Tryd.isAgg3
  z3 := Tryd.sizeOf3
  v3 := Tryd.zeroValue3
  t4 := Tryd.underlying4
  a4 := Tryd.isAgg4
  z4 := Tryd.sizeOf4
  v4 := Tryd.zeroValue4
  t5 := Tryd.underlying5
  a5 := Tryd.isAgg5
  z5 := Tryd.sizeOf5
  v5 := Tryd.zeroValue5
  t9 := Tryd.underlying9
  a9 := Tryd.isAgg9
  z9 := Tryd.sizeOf9
  v9 := Tryd.zeroValue9
  t20 := Tryd.underlying20
  a20 := Tryd.isAgg20
  z20 := Tryd.sizeOf20
  v20 := Tryd.zeroValue20
  t37 := Tryd.underlying89
  a37 := Tryd.isAgg89
  z37 := Tryd.sizeOf89
  v37 := Tryd.zeroValue89
  t46 := Tryd.underlying124
  a46 := Tryd.isAgg124
  z46 := Tryd.sizeOf124
  v46 := Tryd.zeroValue124
  t51 := Tryd.underlying119
  a51 := Tryd.isAgg119
  z51 := Tryd.sizeOf119
  v51 := Tryd.zeroValue119
  t53 := Tryd.underlying107
  a53 := Tryd.isAgg107
  z53 := Tryd.sizeOf107
  v53 := Tryd.zeroValue107
  t171 := Tryd.underlying106
  a171 := Tryd.isAgg106
  z171 := Tryd.sizeOf106
  v171 := Tryd.zeroValue106
  t173 := Tryd.underlying110
  a173 := Tryd.isAgg110
  z173 := Tryd.sizeOf110
  v173 := Tryd.zeroValue110
  t212 := Tryd.underlying122
  a212 := Tryd.isAgg122
  z212 := Tryd.sizeOf122
  v212 := Tryd.zeroValue122
  t213 := Tryd.underlying123
  a213 := Tryd.isAgg123
  z213 := Tryd.sizeOf123
  t232 := Tryd.underlying133
  a232 := Tryd.isAgg133
  z232 := Tryd.sizeOf133
  v232 := Tryd.zeroValue133
  t233 := Tryd.underlying134
  a233 := Tryd.isAgg134
  z233 := Tryd.sizeOf134
  v233 := Tryd.zeroValue134
  g17 := by kernel_rfl
  g18 := by kernel_rfl
  g19 := by kernel_rfl
  i0 := by kernel_rfl
  i2 := by kernel_rfl
  i3 := by kernel_rfl
  i4 := by kernel_rfl
  i5 := by kernel_rfl
  i9 := by kernel_rfl
  i20 := by kernel_rfl
  i37 := by kernel_rfl
  i46 := by kernel_rfl
  i51 := by kernel_rfl
  i53 := by kernel_rfl
  i171 := by kernel_rfl
  i173 := by kernel_rfl
  i212 := by kernel_rfl
  i232 := by kernel_rfl
  i233 := by kernel_rfl
  m17 := by kernel_rfl
  m18 := by kernel_rfl
  m19 := by kernel_rfl }
open Go.RowKit Go.Sort Go.Lib in
/-- strconv.Itoa: "Itoa is equivalent to FormatInt(int64(i), 10).": i's DECIMAL NUMERAL ('Lib.itoa': a '-' where i is negative, then the digits), FOR EVERY int. The world behind the call: the world before it, new blocks behind the heap (the library's 'var a [24]byte'), draws. (LAID: no walk: one application.) -/
theorem Tryd.strconv_Itoa (n : Int) (h0 : -9223372036854775808 ≤ n) (h1 : n ≤ 9223372036854775807) (w : World) (htab : Lib.TabIs Tryd.prog w "internal/strconv.uint64pow10" .u64 Lib.pow10Tab) :
    Calls Tryd.prog 71 #[.int .i64 n] w fun e w' => e = .returned (.string ⟨(Lib.itoa n).toArray⟩) ∧ ∃ k os, w' = grow (w.drewN k) os := Any.strconv_Itoa Tryd.laysM171 n h0 h1 w htab
end Go.Proofs
-- the table of powers as a premise; strings.Join of a row that is read
namespace Go.Proofs.YtggelekooacmnaaDoor.Q
open Go.RowKit Go.Proofs.YtggelekooacmnaaDoorW.aU Go.Proofs.YtggelekooacmnaaDoorW.bD Go.Proofs.YtggelekooacmnaaDoorW.bH
set_option linter.unusedVariables false
set_option linter.unusedSimpArgs false
abbrev qO (B : Nat) (w : World) : Prop := Lib.TabBelow Tryd.prog B w "internal/strconv.uint64pow10" .u64 Lib.pow10Tab
theorem qO.up {B B' : Nat} {w : World} (h : qO B w) (hB : B ≤ B') : qO B' w := fun w' hb => h w' (hb.mono hB)
theorem uI {w W : World} (h : qO w.heap.size w) (hb : Below w.heap.size w W) : qO W.heap.size W := qO.up (h.on hb) hb.size
theorem OW (w : World) (k : Nat) (os : Array Obj) : Below w.heap.size w (Go.Sort.grow (w.drewN k) os) := Lib.below_grow _ w (Nat.le_refl _) k os
theorem iW : ∀ (a : Array UInt8), (⟨a⟩ : ByteArray).size = a.size := fun _ => rfl
theorem Sk {w : World} {a : Addr} {v : Value} (h : w.cell? a = some v) : a = ⟨a.block, a.off, none⟩ ∧ a.block < w.heap.size := by
  obtain ⟨b, o, s⟩ := a
  unfold World.cell? at h
  dsimp only at h
  constructor
  · cases s with
    | none => rfl
    | some s => split at h <;> simp at h
  · have : w.heap[b]? ≠ none := by intro e; rw [e] at h; simp at h
    exact Nat.lt_of_not_ge fun hn => this (Array.getElem?_eq_none hn)
theorem OX (A0 : Option Addr) (c0 : Nat) (l0 : List ByteArray) (a1 : ByteArray) (w : World) (hr0 : Kd.C Kd.string w A0 l0.length l0) (hc0 : l0.length ≤ c0)
    (h1 : l0.length ≤ 140737488355328) (h2 : (Lib.join (l0.map (·.data.toList)) a1.data.toList).length ≤ 140737488355328) :
    Calls Tryd.prog 72 #[.slice A0 l0.length c0, .string a1] w fun e w' => e = .returned (.string ⟨(Lib.join (l0.map (·.data.toList)) a1.data.toList).toArray⟩) ∧ Below w.heap.size w w' := by
  cases l0 with
  | nil =>
    refine (Tryd.strings_Join_none A0 c0 a1 w).mono ?_
    rintro e w' ⟨rfl, rfl⟩
    exact ⟨rfl, Below.refl _ _⟩
  | cons x xs =>
    obtain ⟨ad, rfl, hc⟩ := Kd.NT hr0 0 (by omega) (by simp)
    obtain ⟨he, hb⟩ := Sk hc
    have hs : ad = ⟨ad.block, ad.off, none⟩ := by simpa [Addr.add] using he
    have hb' : ad.block < w.heap.size := by simpa [Addr.add] using hb
    obtain ⟨b, o, sp⟩ := ad
    obtain rfl : sp = none := by simpa using hs
    refine Tryd.strings_Join b o c0 (x :: xs) a1 w ?_ hb' h1 hc0 h2
    intro j y hj
    obtain ⟨ad', e', hj'⟩ := Kd.NT hr0 j (by omega) (by have := (List.getElem?_eq_some_iff.1 hj).1; omega)
    obtain rfl := Option.some.inj e'
    have hz : rdOf ByteArray.empty (x :: xs) (j : Int) = y := by unfold rdOf; simp [List.getD_eq_getElem?_getD, hj]
    rw [hz] at hj'
    have : (Addr.add ⟨b, o, none⟩ ((j : Int)).toNat) = ⟨b, o + j, none⟩ := by
      unfold Addr.add; split
      · rename_i h0; simp at h0; simp [h0]
      · simp
    rwa [this] at hj'
end Go.Proofs.YtggelekooacmnaaDoor.Q
namespace Go.Proofs.YtggelekooacmnaaDoor.Q
open Go.RowKit Go.Proofs.YtggelekooacmnaaDoorW.aU Go.Proofs.YtggelekooacmnaaDoorW.bD Go.Proofs.YtggelekooacmnaaDoorW.bH
attribute [local go_sem] dB dC dN dO cO cZ dD dE   -- for this text's walks alone
set_option linter.unusedVariables false
set_option linter.unusedSimpArgs false



def errW : Option Int → Value
  | none => .nilIface
  | some c => .iface 0 (.int .i64 c)
theorem eT : errW none = .nilIface := rfl
theorem eU (c : Int) : errW (some c) = .iface 0 (.int .i64 c) := rfl

theorem info5 : (Tryd.prog.info? 5).map (fun i => (i.zero, i.size, i.bytes)) = some (some (.int .u8 0), 1, 1) := by kernel_rfl
theorem info9 : (Tryd.prog.info? 9).map (fun i => (i.zero, i.size, i.bytes)) = some (some (.string ⟨#[]⟩), 1, 16) := by kernel_rfl
theorem JJ : (Tryd.prog.info? 41).map (fun i => (i.zero, i.size, i.bytes)) = some (some (.agg #[(.int .i64 0), (.int .i64 0), (.int .i64 0)]), 3, 24) := by kernel_rfl
theorem zu : (Tryd.prog.info? 119).map (fun i => (i.zero, i.size, i.bytes)) = some (some (.int .u32 0), 1, 4) := by kernel_rfl
-- the values' own types
/-! #### struct type 24, nested in itself -/
structure S24 where
  f0 : Int
  f1 : Int
  f2 : Int
  f3 : Int
  f4 : (List S24)
def z24 : S24 := ⟨(0 : Int), (0 : Int), (0 : Int), (0 : Int), ([] : List S24)⟩
def F24 (d : Kd S24) : Kd S24 := Kd.iso (Kd.pair (Kd.int .i64) (Kd.pair (Kd.int .i64) (Kd.pair (Kd.int .i64) (Kd.pair (Kd.int .i64) (Kd.slice 24 d))))) (fun x : S24 => (x.f0, x.f1, x.f2, x.f3, x.f4))
theorem JK : Kd.uH F24 := Kd.mono_iso _ (Kd.DY (Kd.BI _) (Kd.DY (Kd.BI _) (Kd.DY (Kd.BI _) (Kd.DY (Kd.BI _) (Kd.Sa 24 Kd.mono_id)))))
theorem sub24 : Kd.Sub F24 [24] := Kd.sub_iso _ (Kd.FW (Kd.sub_const _ (by decide)) (Kd.FW (Kd.sub_const _ (by decide)) (Kd.FW (Kd.sub_const _ (by decide)) (Kd.FW (Kd.sub_const _ (by decide)) (Kd.Su 24 (by decide) Kd.sub_id)))))
theorem sz24 : ∀ n, (Kd.upto F24 5 [24] n).sz = 5 := Kd.upto_sz (fun _ => rfl)
def k24 : Kd S24 := Kd.fix F24 5 [24] sz24 (Kd.upto_E sub24)
theorem k24_open {w : World} {x : S24} {cs : List Value} (h : k24.K w x cs) : ∃ A4 c4, cs = [.int .i64 x.f0, .int .i64 x.f1, .int .i64 x.f2, .int .i64 x.f3, .slice A4 x.f4.length c4] ∧ x.f4.length ≤ c4 ∧ k24.C w A4 x.f4.length x.f4 := by
  obtain ⟨n, h⟩ := h
  cases n with
  | zero => exact h.elim
  | succ n =>
    obtain ⟨_, _, rfl, rfl, ⟨_, _, rfl, rfl, ⟨_, _, rfl, rfl, ⟨_, _, rfl, rfl, ⟨A4, c4, rfl, l4, g4⟩⟩⟩⟩⟩ := h
    exact ⟨A4, c4, rfl, l4, Kd.fix_C g4⟩
theorem k24_mk (w : World) (x : S24) {A4 : Option Addr} {c4 : Nat} (l4 : x.f4.length ≤ c4) (g4 : k24.C w A4 x.f4.length x.f4) : k24.K w x [.int .i64 x.f0, .int .i64 x.f1, .int .i64 x.f2, .int .i64 x.f3, .slice A4 x.f4.length c4] := by
  obtain ⟨n4, q4⟩ := Kd.Sc JK g4
  have r4 := Kd.Sw JK sz24 (show n4 ≤ n4 by omega) q4
  exact ⟨n4 + 1, ⟨[.int .i64 x.f0], [.int .i64 x.f1, .int .i64 x.f2, .int .i64 x.f3, .slice A4 x.f4.length c4], rfl, rfl, ⟨[.int .i64 x.f1], [.int .i64 x.f2, .int .i64 x.f3, .slice A4 x.f4.length c4], rfl, rfl, ⟨[.int .i64 x.f2], [.int .i64 x.f3, .slice A4 x.f4.length c4], rfl, rfl, ⟨[.int .i64 x.f3], [.slice A4 x.f4.length c4], rfl, rfl, ⟨A4, c4, rfl, l4, r4⟩⟩⟩⟩⟩⟩
theorem GZ (w : World) (base : Nat) (ok : Nat → Prop) (x : S24) {v4 : Value} (g4 : k24.R 24 w base ok v4 x.f4) : k24.M w base ok x [.int .i64 x.f0, .int .i64 x.f1, .int .i64 x.f2, .int .i64 x.f3, v4] := by
  obtain ⟨n4, q4⟩ := Kd.Sb JK g4
  have r4 := Kd.Sv JK sz24 (show n4 ≤ n4 by omega) q4
  exact ⟨n4 + 1, ⟨[.int .i64 x.f0], [.int .i64 x.f1, .int .i64 x.f2, .int .i64 x.f3, v4], rfl, rfl, ⟨[.int .i64 x.f1], [.int .i64 x.f2, .int .i64 x.f3, v4], rfl, rfl, ⟨[.int .i64 x.f2], [.int .i64 x.f3, v4], rfl, rfl, ⟨[.int .i64 x.f3], [v4], rfl, rfl, ⟨v4, rfl, r4⟩⟩⟩⟩⟩⟩
def ag (xs : List S24) (i : Int) : S24 := xs.getD i.toNat z24
theorem dZ {w : World} {A : Option Addr} {n : Nat} {xs : List S24} (h : Kd.C k24 w A n xs) (i : Int) (h0 : 0 ≤ i) (h1 : i < n) : ∃ ad A4 c4, A = some ad ∧ w.cell? (ad.add (i.toNat * 5)) = some (.int .i64 (ag xs i).f0) ∧ w.cell? ⟨(ad.add (i.toNat * 5)).block, (ad.add (i.toNat * 5)).off + 1, none⟩ = some (.int .i64 (ag xs i).f1) ∧ w.cell? ⟨(ad.add (i.toNat * 5)).block, (ad.add (i.toNat * 5)).off + 2, none⟩ = some (.int .i64 (ag xs i).f2) ∧ w.cell? ⟨(ad.add (i.toNat * 5)).block, (ad.add (i.toNat * 5)).off + 3, none⟩ = some (.int .i64 (ag xs i).f3) ∧ w.cell? ⟨(ad.add (i.toNat * 5)).block, (ad.add (i.toNat * 5)).off + 4, none⟩ = some (.slice A4 (ag xs i).f4.length c4) ∧ (ag xs i).f4.length ≤ c4 ∧ k24.C w A4 (ag xs i).f4.length (ag xs i).f4 := by
  obtain ⟨ad, c, e, _, hK, hc0⟩ := Kd.JC h z24 i h0 h1
  have hc : ∀ j u, c[j]? = some u → w.cell? (ad.add (i.toNat * 5 + j)) = some u := hc0
  obtain ⟨A4, c4, rfl, l4, g4⟩ := k24_open hK
  exact ⟨ad, A4, c4, e, hc 0 _ rfl, by rw [← xO _ _ 1 (by omega)]; exact hc 1 _ rfl, by rw [← xO _ _ 2 (by omega)]; exact hc 2 _ rfl, by rw [← xO _ _ 3 (by omega)]; exact hc 3 _ rfl, by rw [← xO _ _ 4 (by omega)]; exact hc 4 _ rfl, l4, g4⟩

/-! #### struct type 41 -/
structure S41 where
  f0 : Int
  f1 : Int
  f2 : Int
def z41 : S41 := ⟨(0 : Int), (0 : Int), (0 : Int)⟩
def k41 : Kd S41 := Kd.iso (Kd.pair (Kd.int .i64) (Kd.pair (Kd.int .i64) (Kd.int .i64))) (fun x : S41 => (x.f0, x.f1, x.f2))
theorem k41_open {w : World} {x : S41} {cs : List Value} (h : k41.K w x cs) : cs = [.int .i64 x.f0, .int .i64 x.f1, .int .i64 x.f2] := by
  obtain ⟨_, _, rfl, rfl, ⟨_, _, rfl, rfl, rfl⟩⟩ := h
  exact rfl
theorem xQ (w : World) (base : Nat) (ok : Nat → Prop) (x : S41)  : k41.M w base ok x [.int .i64 x.f0, .int .i64 x.f1, .int .i64 x.f2] := ⟨[.int .i64 x.f0], [.int .i64 x.f1, .int .i64 x.f2], rfl, rfl, ⟨[.int .i64 x.f1], [.int .i64 x.f2], rfl, rfl, rfl⟩⟩
def dH (xs : List S41) (i : Int) : S41 := xs.getD i.toNat z41
theorem Ew {w : World} {A : Option Addr} {n : Nat} {xs : List S41} (h : Kd.C k41 w A n xs) (i : Int) (h0 : 0 ≤ i) (h1 : i < n) : ∃ ad , A = some ad ∧ w.cell? (ad.add (i.toNat * 3)) = some (.int .i64 (dH xs i).f0) ∧ w.cell? ⟨(ad.add (i.toNat * 3)).block, (ad.add (i.toNat * 3)).off + 1, none⟩ = some (.int .i64 (dH xs i).f1) ∧ w.cell? ⟨(ad.add (i.toNat * 3)).block, (ad.add (i.toNat * 3)).off + 2, none⟩ = some (.int .i64 (dH xs i).f2) := by
  obtain ⟨ad, c, e, _, hK, hc0⟩ := Kd.JC h z41 i h0 h1
  have hc : ∀ j u, c[j]? = some u → w.cell? (ad.add (i.toNat * 3 + j)) = some u := hc0
  obtain rfl := k41_open hK
  exact ⟨ad, e, hc 0 _ rfl, by rw [← xO _ _ 1 (by omega)]; exact hc 1 _ rfl, by rw [← xO _ _ 2 (by omega)]; exact hc 2 _ rfl⟩

/-! #### struct type 51, nested in itself -/
structure S51 where
  f0 : Int
  f1 : (List S51)
def z51 : S51 := ⟨(0 : Int), ([] : List S51)⟩
theorem bl_ {p : Prop} (h : p := by repeat (first | (with_reducible first | exact HB.out | apply cK | apply bS | apply bR | refine jA ?_ (aa.out (by assumption)) | refine jA ?_ (IsS63.ge (aa.out (by assumption)))) | exact HB.out)) : p := h
theorem bk_ {p : Prop} (h : p := by (with_reducible repeat (first | refine eD ?_ _ | refine dz ?_ | refine eB ?_ _)); exact (aa.out (by assumption))) : p := h
theorem pR_ {p q : Prop} (h : p) (k : p → q := by intro h_; (with_reducible repeat (first | apply Kd.bL | apply Kd.bM | apply Kd.bQ)); exact h_) : q := k h
theorem re_ {p : Prop} (h : p := by first | rfl | (simp [eT, eU] <;> rfl) | (simp [*, eT, eU] <;> rfl)) : p := h
theorem rs_ {p : Prop} (h : p := by first | rfl | (simp; done) | (simp [*]; done)) : p := h
theorem dt_ {p : Prop} [Decidable p] (h : decide p = true := by first | (with_reducible assumption) | assumption) : p := of_decide_eq_true h
theorem gw_ {n m g : Nat} (hg : g = m) (h : n ≤ m) : aa (n ≤ g) := ⟨by rw [hg]; exact h⟩
theorem lD {W : World} {g : Nat} {a_ b_ c_ : Value} {t : TypeId} (h : W.heap[g]? = some (.cells #[a_, b_, c_] t (0, 0))) : W.cell? ⟨g, 0, none⟩ = some a_ ∧ W.cell? ⟨g, 1, none⟩ = some b_ ∧ W.cell? ⟨g, 2, none⟩ = some c_ ∧ W.frozen? ⟨g, 0, none⟩ = false ∧ W.frozen? ⟨g, 1, none⟩ = false ∧ W.frozen? ⟨g, 2, none⟩ = false :=
  ⟨(av h 0).trans rfl, (av h 1).trans rfl, (av h 2).trans rfl, fo h 0, fo h 1, fo h 2⟩
theorem bg {W : World} {g : Nat} {a_ b_ c_ d_ e_ : Value} {t : TypeId} (h : W.heap[g]? = some (.cells #[a_, b_, c_, d_, e_] t (0, 0))) : W.cell? ⟨g, 0, none⟩ = some a_ ∧ W.cell? ⟨g, 1, none⟩ = some b_ ∧ W.cell? ⟨g, 2, none⟩ = some c_ ∧ W.cell? ⟨g, 3, none⟩ = some d_ ∧ W.cell? ⟨g, 4, none⟩ = some e_ ∧ W.frozen? ⟨g, 0, none⟩ = false ∧ W.frozen? ⟨g, 1, none⟩ = false ∧ W.frozen? ⟨g, 2, none⟩ = false ∧ W.frozen? ⟨g, 3, none⟩ = false ∧ W.frozen? ⟨g, 4, none⟩ = false :=
  ⟨(av h 0).trans rfl, (av h 1).trans rfl, (av h 2).trans rfl, (av h 3).trans rfl, (av h 4).trans rfl, fo h 0, fo h 1, fo h 2, fo h 3, fo h 4⟩
def bm (n b : Nat) : Array Bool := ((List.range n).map fun i => b.testBit i).toArray
theorem pu_ {P : Program} {ops : Array Oper} {Q : Exit → Act → World → Prop} {md : Region.Mode} {S : World → Prop} {ds : List Nat} {T : Bool × List (List Nat × List Nat)} {oi : Oper} {v : Value} {fuel : Nat} {l : Array Bool} {a a' : Act} {w : World} (hT : aa (jG md ops = T)) (i n : Nat) (l' : Array Bool) (h : dX P md ops Q S ds fuel l' a' w)
    (hi : ops[i]? = some oi := by exact rfl) (hN : oi.dst = some n := by exact rfl) (hc : anyT T l.toList l'.toList i = true := by kernel_rfl) (hQ : ∀ c a w, Q (.panic c) (a.put oi.dst v) w → Q (.panic c) a w := by exact fun _ _ _ h => h) (hw : Region.wanted oi (yielded ops a.tmps) = true := by exact rfl)
    (hy : ∀ w, (execOp a.eval oi).run P w = .ok (.value v) w := by intro w'; go_simp; with_reducible rfl) (ha : a.put (some n) v = a' := by simp only [Act.put, List.setIfInBounds_toArray, List.set_cons_zero, List.set_cons_succ, dS, ek]; rfl) : dX P md ops Q S ds (fuel + 1) l a w := pure_ l' hi hN (any_of hT.out hc) hQ (Or.inl ⟨hw, hy⟩) ha h
theorem pf_ {P : Program} {ops : Array Oper} {Q : Exit → Act → World → Prop} {md : Region.Mode} {S : World → Prop} {ds : List Nat} {T : Bool × List (List Nat × List Nat)} {oi : Oper} {fuel : Nat} {l : Array Bool} {a a' : Act} {w : World} (hT : aa (jG md ops = T)) (i n : Nat) (l' : Array Bool) (h : dX P md ops Q S ds fuel l' a' w)
    (hi : ops[i]? = some oi := by exact rfl) (hN : oi.dst = some n := by exact rfl) (hc : anyT T l.toList l'.toList i = true := by kernel_rfl) (hQ : ∀ c a w, Q (.panic c) (a.put oi.dst undef) w → Q (.panic c) a w := by exact fun _ _ _ h => h) (hw : Region.wanted oi (yielded ops a.tmps) = false := by exact rfl)
    (ha : a.put (some n) undef = a' := by simp only [Act.put, List.setIfInBounds_toArray, List.set_cons_zero, List.set_cons_succ, dS, ek]; rfl) : dX P md ops Q S ds (fuel + 1) l a w := pure_ l' hi hN (any_of hT.out hc) hQ (Or.inr ⟨hw, rfl⟩) ha h
theorem ta_ {P : Program} {ops : Array Oper} {Q : Exit → Act → World → Prop} {md : Region.Mode} {S : World → Prop} {ds B : List Nat} {T : Bool × List (List Nat × List Nat)} {oi : Oper} {v : Value} {fuel : Nat} {l : Array Bool} {a a' : Act} {w : World} (hT : aa (jG md ops = T)) (hB : aa (mo T.2 B = true)) (i n : Nat) (l' : Array Bool) (hS : S w)
    (h : dX P md ops Q S ds fuel l' a' w)
    (hi : ops[i]? = some oi := by exact rfl) (hN : oi.dst = some n := by exact rfl) (hc : takeW T B ds l.toList l'.toList i = true := by kernel_rfl) (hQ : ∀ c a w, Q (.panic c) (a.put oi.dst v) w → Q (.panic c) a w := by exact fun _ _ _ h => h) (hw : Region.wanted oi (yielded ops a.tmps) = true := by exact rfl)
    (hy : ∀ w, S w → (execOp a.eval oi).run P w = .ok (.value v) w := by intro w' hs_; (repeat (obtain ⟨_, hs_⟩ := hs_)); go_simp; with_reducible rfl)
    (ha : a.put (some n) v = a' := by simp only [Act.put, List.setIfInBounds_toArray, List.set_cons_zero, List.set_cons_succ, dS, ek]; rfl) : dX P md ops Q S ds (fuel + 1) l a w := take_ l' hi hN (take_ofW hT.out hB.out hc) hQ (Or.inl ⟨hw, hy⟩) hS ha h
theorem kb_ {w W w1 : World} {g : Nat} {o : Obj} (h : aa (w.heap[g]? = some o)) (hb : Below W.heap.size W w1) (k : w.heap[g]? = some o → W.heap[g]? = some o := by intro h_; (with_reducible repeat (first | refine eD ?_ _ | refine dz ?_ | refine eB ?_ _)); exact h_) : aa (w1.heap[g]? = some o) := ⟨dR (k h.out) hb⟩
theorem nl_ {w W : World} {g g2 : Nat} {o : Obj} (h : aa (w.heap[g]? = some o)) (hg : g2 = W.heap.size) (k : w.heap[g]? = some o → W.heap[g]? = some o := by intro h_; (with_reducible repeat (first | refine eD ?_ _ | refine dz ?_ | refine eB ?_ _)); exact h_) : aa (g ≠ g2) := ⟨by rw [hg]; exact Nat.ne_of_lt (yP (k h.out))⟩
theorem ng_ {w W : World} {g g2 : Nat} {o : Obj} (h : aa (w.heap[g]? = some o)) (hg : g2 = W.heap.size) (k : w.heap[g]? = some o → W.heap[g]? = some o := by intro h_; (with_reducible repeat (first | refine eD ?_ _ | refine dz ?_ | refine eB ?_ _)); exact h_) : aa (g2 ≠ g) := ⟨by rw [hg]; exact Nat.ne_of_gt (yP (k h.out))⟩
theorem hc_ {w W : World} {a : Addr} {v : Value} (hb : aa (Below w.heap.size w W)) (h : w.cell? a = some v) : W.cell? a = some v := (hb.out.cell (World.block_lt_of_cell? w _ h)).trans h
theorem cb_ {p q : Prop} (h : p) (k : p → q := by intro h_; repeat (first | exact h_ | (with_reducible refine Kd.qM ?_ _) | (with_reducible refine Kd.qN ?_ _) | (with_reducible refine Kd.uS ?_))) : q := k h
theorem mp_ {p : Prop} (h : p := by (try simp only [List.map_toArray, List.map_cons, List.map_nil]); first | done | rfl | (simp only [List.length_drop, List.length_take]; rfl)) : p := h
theorem z0_ : ((0 : Int)).toNat = 0 := rfl
theorem p5_ {w : World} {g : Nat} {t : TypeId} {a b c d e v0 v1 v2 v3 v4 : Value} (h : w.heap[g]? = some (.cells #[a, b, c, d, e] t (0, 0))) : (((((w.setCell ⟨g, 0, none⟩ v0).setCell ⟨g, 1, none⟩ v1).setCell ⟨g, 2, none⟩ v2).setCell ⟨g, 3, none⟩ v3).setCell ⟨g, 4, none⟩ v4).heap[g]? = some (.cells #[v0, v1, v2, v3, v4] t (0, 0)) :=
  gU (gU (gU (gU (gU h 0 v0 rfl) 1 v1 rfl) 2 v2 rfl) 3 v3 rfl) 4 v4 rfl
theorem p3_ {w : World} {g : Nat} {t : TypeId} {a b c v0 v1 v2 : Value} (h : w.heap[g]? = some (.cells #[a, b, c] t (0, 0))) : (((w.setCell ⟨g, 0, none⟩ v0).setCell ⟨g, 1, none⟩ v1).setCell ⟨g, 2, none⟩ v2).heap[g]? = some (.cells #[v0, v1, v2] t (0, 0)) :=
  gU (gU (gU h 0 v0 rfl) 1 v1 rfl) 2 v2 rfl
theorem p2_ {w : World} {g : Nat} {t : TypeId} {a b v0 v1 : Value} (h : w.heap[g]? = some (.cells #[a, b] t (0, 0))) : ((w.setCell ⟨g, 0, none⟩ v0).setCell ⟨g, 1, none⟩ v1).heap[g]? = some (.cells #[v0, v1] t (0, 0)) :=
  gU (gU h 0 v0 rfl) 1 v1 rfl
theorem b5_ {p : Prop} (h : p := by (with_reducible repeat (first | refine eD ?_ _ | refine dz ?_ | refine eB ?_ _ | apply p5_ | apply p3_ | apply p2_ | refine zq ?_ (aa.out (by assumption)) _)); exact (aa.out (by assumption))) : p := h
theorem bq_ {α : Type} [BEq α] [LawfulBEq α] {a b : α} (h : a = b) : (a == b) = true ∧ (a != b) = false := ⟨beq_iff_eq.mpr h, bne_eq_false_iff_eq.mpr h⟩
theorem bn_ {α : Type} [BEq α] [LawfulBEq α] {a b : α} (h : ¬ a = b) : (a == b) = false ∧ (a != b) = true := ⟨beq_eq_false_iff_ne.mpr h, bne_iff_ne.mpr h⟩
end Go.Proofs.YtggelekooacmnaaDoor.Q
namespace Go.Proofs.YtggelekooacmnaaDoor.Q
open Go.RowKit Go.Proofs.YtggelekooacmnaaDoorW.aU Go.Proofs.YtggelekooacmnaaDoorW.bD Go.Proofs.YtggelekooacmnaaDoorW.bH
attribute [local go_sem] dB dC dN dO cO cZ dD dE   -- for this text's walks alone
set_option linter.unusedVariables false
set_option linter.unusedSimpArgs false

/-! ### df: function 38 -/
mutual
def df.l0 : Nat → Int → List (S24) → Int → Int → Option (Int)
 | 0, _, _, _, _ => none
 | k + 1, x3, x7, x8, x9 => if x9 < x8 then (if 0 ≤ x9 then (if x9 < (x7.length : Int) then ((df.f k ((ag x7 x9).f0) ((ag x7 x9).f1) ((ag x7 x9).f2) ((ag x7 x9).f3) ((ag x7 x9).f4)).bind fun t104 => (df.l0 k (mx x3 t104) x7 x8 (wrap64 (x9 + 1)))) else (none)) else (none)) else (some (wrap64 (x3 + 1)))
def df.f : Nat → Int → Int → Int → Int → List (S24) → Option (Int)
 | 0, _, _, _, _, _ => none
 | k + 1, ah, au, aj, ak, af => df.l0 k 0 af (af.length : Int) 0
end
theorem df.fA : ∀ k, (∀ y0 y1 y2 y3 y4, LeO (df.f k y0 y1 y2 y3 y4) (df.f (k + 1) y0 y1 y2 y3 y4)) ∧ (∀ y0 y1 y2 y3, LeO (df.l0 k y0 y1 y2 y3) (df.l0 (k + 1) y0 y1 y2 y3))
 | 0 => ⟨fun _ _ _ _ _ r h => by simp [df.f] at h, fun _ _ _ _ r h => by simp [df.l0] at h⟩
 | k + 1 => by
  obtain ⟨ih0, ih1⟩ := df.fA k; refine ⟨?_, ?_⟩
  ·intro y0 y1 y2 y3 y4; unfold df.f; repeat' first
   | (with_reducible exact ih0 _ _ _ _ _)
   | (with_reducible exact ih1 _ _ _ _)
   | (with_reducible exact LeO.refl _)
   | (with_reducible exact LeO.none _)
   | (with_reducible refine LeO.ite ?_ ?_)
   | (with_reducible refine LeO.bind ?_ (fun _ => ?_))
   | exact ih0 _ _ _ _ _
   | exact ih1 _ _ _ _
   | exact LeO.none _
   | refine LeO.ite ?_ ?_
   | refine LeO.bind ?_ (fun _ => ?_)
  ·intro y0 y1 y2 y3; unfold df.l0; repeat' first
   | (with_reducible exact ih0 _ _ _ _ _)
   | (with_reducible exact ih1 _ _ _ _)
   | (with_reducible exact LeO.refl _)
   | (with_reducible exact LeO.none _)
   | (with_reducible refine LeO.ite ?_ ?_)
   | (with_reducible refine LeO.bind ?_ (fun _ => ?_))
   | exact ih0 _ _ _ _ _
   | exact ih1 _ _ _ _
   | exact LeO.none _
   | refine LeO.ite ?_ ?_
   | refine LeO.bind ?_ (fun _ => ?_)
theorem df.mono : ∀ a0 a1 a2 a3 a4 k, LeO (df.f k a0 a1 a2 a3 a4) (df.f (k + 1) a0 a1 a2 a3 a4) := by
 intro a0 a1 a2 a3 a4 k; obtain ⟨ih0, ih1⟩ := df.fA k; exact ih0 a0 a1 a2 a3 a4
set_option maxHeartbeats 8000000 in
set_option maxRecDepth 100000 in
theorem df.calls (k : Nat) : ∀ (ah : Int) (au : Int) (aj : Int) (ak : Int) (aM : Option Addr) (aH : Nat) (af : List (S24)) (r : Int) (w : World) (di : Kd.C k24 w aM af.length af) (dm : af.length ≤ aH) (h : df.f k ah au aj ak af = some r),
  Calls Tryd.prog 38 #[.agg #[.int .i64 ah, .int .i64 au, .int .i64 aj, .int .i64 ak, .slice aM af.length aH]] w fun e w' => e = .returned (.int .i64 r) ∧ Below w.heap.size w w' := by
 induction k using Nat.strongRecOn with
 | _ k ih =>
 intro ah au aj ak aM aH af r w di dm h; cases k with
 | zero => exact absurd h (by simp [df.f])
 | succ k =>
 simp only [df.f] at h; have mg := Tryd.underlying24; have bu := aa.mk di; have bU := aa.mk dm; clear di dm; have HB := aa.mk (Below.refl w.heap.size w); have H : (df.l0 k 0 af (af.length : Int) 0) = some r := h; clear h; have H' := aa.mk H; clear H; go_enter Tryd.func38, Tryd.ntmps38; go_wp2_with (first | ((with_reducible refine aW (N := 1) rfl ?_); refine bf ?hg (N := 1) ?hd (cs := #[.int .i64 ah, .int .i64 au, .int .i64 aj, .int .i64 ak, .slice aM af.length aH]) (t := 24) ?hr ?_; (case hd => rfl); (case hg => rfl); (case hr => first | (go_simp; done) | (go_simp; rfl)); intro gb101 hg w2 aG hb; have FY := aa.mk (aG); have GW101 : aa (w.heap.size ≤ gb101) := gw_ hg (ax bl_); have GE101 := GW101; replace HB := aa.mk (ai bl_ hb); clear hb aG hg; obtain ⟨hcz3_0, hcz3_1, hcz3_2, hcz3_3, hcz3_4, hfz3_0, hfz3_1, hfz3_2, hfz3_3, hfz3_4⟩ := bg FY.out))
 go_loopg [3, 9] k (fun kq v3 v9 w' => ∃ (dL : Int) (fM : Int), v3 = .int .i64 dL ∧ v9 = .int .i64 fM ∧ aa (df.l0 kq dL af (af.length : Int) fM = some r) ∧ aa (kq ≤ k) ∧ aa (w'.heap[gb101]? = some (.cells #[.int .i64 ah, .int .i64 au, .int .i64 aj, .int .i64 ak, (.slice aM af.length aH)] 24 (0, 0))) ∧ aa (Below w.heap.size w w'))
 case atStart => exact ⟨(0), (0), rs_, rs_, H', ⟨Nat.le_refl _⟩, ⟨bk_⟩, ⟨bl_⟩⟩
 case round =>
  clear H'; (try clear p2); (try clear c3); (try clear hcz3_0 hcz3_1 hcz3_2 hcz3_3 hcz3_4 hfz3_0 hfz3_1 hfz3_2 hfz3_3 hfz3_4); obtain ⟨dL, fM, rfl, rfl, HA, HK1, FY, HB⟩ := hrel; cases gk with
  | zero => exact absurd HA.out (by simp [df.l0])
  | succ k1 =>
   have H := HA.out; clear HA; simp only [df.l0] at H; by_cases c4 : fM < (af.length : Int)
   ·rw [if_pos c4] at H; have nK := decide_eq_true c4; clear c4; by_cases c5 : 0 ≤ fM
    ·rw [if_pos c5] at H; have gQ := decide_eq_true c5; clear c5; by_cases c6 : fM < (af.length : Int)
     ·rw [if_pos c6] at H; have uT := decide_eq_true c6; clear c6; replace H := Option.bind_eq_some_iff.mp H; obtain ⟨t104, A70, H⟩ := H; (try dsimp only at H)
      have A7 := aa.mk A70; clear A70; obtain ⟨ji8, CY⟩ : ∃ j_ : Int, (mx dL t104) = j_ := ⟨_, rfl⟩; replace H : (df.l0 k1 ji8 af (af.length : Int) (wrap64 (fM + 1))) = some r := by first | (rw [CY] at H; exact H) | (simp only [CY] at H ⊢; exact H)
      (try rw [CY] at A7)
      have hji8_ : (if dL < t104 then t104 else dL) = ji8 := CY; have H' := aa.mk H; clear H; have p102 : 0 ≤ (fM : Int) := dt_; have q102 : fM < (af.length : Int) := dt_; obtain ⟨ad102, A102_4, c102_4, e102, O8, O9, Pb, Pd, Pe, Pf, Pg⟩ := dZ bu.out fM p102 q102; cases e102; replace O8 := hc_ HB O8; replace O9 := hc_ HB O9; replace Pb := hc_ HB Pb; replace Pd := hc_ HB Pd; replace Pe := hc_ HB Pe; have HR102_4 := aa.mk Pg; have HC102_4 := aa.mk Pf; clear Pg Pf; replace p102 := eq_true p102; replace q102 := eq_true q102; go_wp2_with (first | ((with_reducible refine aW (N := 5) rfl ?_); refine bf ?hg (N := 5) ?hd (cs := #[.int .i64 0, .int .i64 0, .int .i64 0, .int .i64 0, .slice none 0 0]) (t := 24) ?hr ?_; (case hd => rfl); (case hg => rfl); (case hr => first | (go_simp; done) | (go_simp; rfl)); intro gb103 hg w9 aG hb; have BK103 := aa.mk (aG); have GW103 : aa (w.heap.size ≤ gb103) := gw_ hg (ax bl_); have GE103 := GW103; have SG := nl_ FY hg; have SH := ng_ FY hg; replace FY := kb_ FY hb; replace HB := aa.mk (ai bl_ hb); clear hb aG hg; have hnb10 := SH.out; have hnc10 := SG.out; obtain ⟨jO, jP, jQ, ku, kv, jR, jS, jT, ky, kz⟩ := bg BK103.out) | ((with_reducible refine aD (f := 38) rfl ?_); refine aZ (some 15) rfl rfl Tryd.func38 (by kernel_rfl) rfl #[.agg #[.int .i64 ((ag af fM).f0), .int .i64 ((ag af fM).f1), .int .i64 ((ag af fM).f2), .int .i64 ((ag af fM).f3), .slice A102_4 ((ag af fM).f4).length c102_4]] rfl mp_ ?_; (with_reducible refine (ih k1 (by have := HK1.out; omega) ((ag af fM).f0) ((ag af fM).f1) ((ag af fM).f2) ((ag af fM).f3) _ _ ((ag af fM).f4) t104 _ ?az ?aA A7.out).mono ?_); (case az => exact Kd.aK HR102_4.out bl_); (case aA => exact HC102_4.out); rintro e w12 ⟨rfl, hb⟩; refine ⟨_, rfl, ?_⟩; replace FY := aa.mk (dR (g := gb101) (o := .cells #[.int .i64 ah, .int .i64 au, .int .i64 aj, .int .i64 ak, .slice (some ad102) af.length aH] 24 (0, 0)) b5_ hb); replace BK103 := aa.mk (dR (g := gb103) (o := .cells #[.int .i64 ((ag af fM).f0), .int .i64 ((ag af fM).f1), .int .i64 ((ag af fM).f2), .int .i64 ((ag af fM).f3), .slice A102_4 ((ag af fM).f4).length c102_4] 24 (0, 0)) b5_ hb); replace HB := aa.mk (ai bl_ hb); (try clear hb); (try clear hb2); (try clear hk); (try clear hi)))
      go_roundg k1
      case measure => have := HK1.out; omega
      case rel => exact ⟨(ji8), (wrap64 (fM + 1)), (by first | rfl | (simp; done) | (simp only [← CY] <;> (first | rfl | simp)) | (simp [*]; done)), rs_, H', ⟨by have := HK1.out; omega⟩, ⟨bk_⟩, ⟨bl_⟩⟩
     ·rw [if_neg c6] at H; exact absurd H (by simp)
    ·rw [if_neg c5] at H; exact absurd H (by simp)
   ·rw [if_neg c4] at H; have nK := decide_eq_false c4; clear c4; obtain rfl := Option.some.inj H; go_wp2; go_ret; exact ⟨re_, bl_⟩

end Go.Proofs.YtggelekooacmnaaDoor.Q
namespace Go.Proofs.YtggelekooacmnaaDoor.Q
open Go.RowKit Go.Proofs.YtggelekooacmnaaDoorW.aU Go.Proofs.YtggelekooacmnaaDoorW.bD Go.Proofs.YtggelekooacmnaaDoorW.bH
attribute [local go_sem] dB dC dN dO cO cZ dD dE   -- for this text's walks alone
set_option linter.unusedVariables false
set_option linter.unusedSimpArgs false

/-! ### gD: function 69 -/
def gD.f (ah : Int) (au : Int) (aj : Int) (ak : Int) (af : List (S24)) : Option (Bool) := if ah = 2 then (if ak = 0 then (some ((af.length : Int) != 0)) else (some true)) else (if ah = 6 then (if au = 0 then (some (aj != 0)) else (some true)) else (if ah = 5 then (if au = 0 then (if aj = 0 then (some (ak != 0)) else (some true)) else (some true)) else (if au = 0 then (if aj = 0 then (if ak = 0 then (some ((af.length : Int) != 0)) else (some true)) else (some true)) else (some true))))
set_option maxHeartbeats 8000000 in
set_option maxRecDepth 100000 in
theorem gD.calls (ah : Int) (au : Int) (aj : Int) (ak : Int) (aM : Option Addr) (aH : Nat) (af : List (S24)) (r : Bool) (w : World) (di : Kd.C k24 w aM af.length af) (dm : af.length ≤ aH) (h : gD.f ah au aj ak af = some r) :
  Calls Tryd.prog 69 #[.agg #[.int .i64 ah, .int .i64 au, .int .i64 aj, .int .i64 ak, .slice aM af.length aH]] w fun e w' => e = .returned (.bool r) ∧ Below w.heap.size w w' := by
 have mg := Tryd.underlying24; have bu := aa.mk di; have bU := aa.mk dm; clear di dm; have HB := aa.mk (Below.refl w.heap.size w); have H : (if ah = 2 then (if ak = 0 then (some ((af.length : Int) != 0)) else (some true)) else (if ah = 6 then (if au = 0 then (some (aj != 0)) else (some true)) else (if ah = 5 then (if au = 0 then (if aj = 0 then (some (ak != 0)) else (some true)) else (some true)) else (if au = 0 then (if aj = 0 then (if ak = 0 then (some ((af.length : Int) != 0)) else (some true)) else (some true)) else (some true))))) = some r := h; clear h; by_cases c2 : ah = 2
 ·rw [if_pos c2] at H; obtain ⟨iZ, kR⟩ := bq_ c2; clear c2; by_cases c3 : ak = 0
  ·rw [if_pos c3] at H; obtain ⟨gX, jH⟩ := bq_ c3; clear c3; obtain rfl := Option.some.inj H; go_enter Tryd.func69, Tryd.ntmps69; go_wp2_with (first | ((with_reducible refine aW (N := 1) rfl ?_); (try (refine fT (by rfl) ?_; dsimp only)); refine bf ?hg (N := 1) ?hd (cs := #[.int .i64 ah, .int .i64 au, .int .i64 aj, .int .i64 ak, .slice aM af.length aH]) (t := 24) ?hr ?_; (case hd => rfl); (case hg => rfl); (case hr => first | (go_simp; done) | (go_simp; rfl)); intro l5 hg w4 aG hb; have l6 := aa.mk (aG); have l7 : aa (w.heap.size ≤ l5) := gw_ hg (ax bl_); have AX := l7; replace HB := aa.mk (ai bl_ hb); clear hb aG hg; obtain ⟨CZ, C8, C9, Da, Db, Dc, De, Df, Dg, Dh⟩ := bg l6.out))
   go_ret; exact ⟨re_, bl_⟩
  ·rw [if_neg c3] at H; obtain ⟨gX, jH⟩ := bn_ c3; obtain rfl := Option.some.inj H; go_enter Tryd.func69, Tryd.ntmps69; go_wp2_with (first | ((with_reducible refine aW (N := 1) rfl ?_); (try (refine fT (by rfl) ?_; dsimp only)); refine bf ?hg (N := 1) ?hd (cs := #[.int .i64 ah, .int .i64 au, .int .i64 aj, .int .i64 ak, .slice aM af.length aH]) (t := 24) ?hr ?_; (case hd => rfl); (case hg => rfl); (case hr => first | (go_simp; done) | (go_simp; rfl)); intro l5 hg w6 aG hb; have l6 := aa.mk (aG); have l7 : aa (w.heap.size ≤ l5) := gw_ hg (ax bl_); have AX := l7; replace HB := aa.mk (ai bl_ hb); clear hb aG hg; obtain ⟨yV, yX, yY, JL, JM, yZ, za, zb, JN, JO⟩ := bg l6.out))
   go_ret; exact ⟨re_, bl_⟩
 ·rw [if_neg c2] at H; obtain ⟨iZ, kR⟩ := bn_ c2; by_cases c8 : ah = 6
  ·rw [if_pos c8] at H; obtain ⟨gH, jv⟩ := bq_ c8; clear c8; by_cases c9 : au = 0
   ·rw [if_pos c9] at H; obtain ⟨qE, uJ⟩ := bq_ c9; clear c9; obtain rfl := Option.some.inj H; go_enter Tryd.func69, Tryd.ntmps69; go_wp2_with (first | ((with_reducible refine aW (N := 1) rfl ?_); (try (refine fT (by rfl) ?_; dsimp only)); refine bf ?hg (N := 1) ?hd (cs := #[.int .i64 ah, .int .i64 au, .int .i64 aj, .int .i64 ak, .slice aM af.length aH]) (t := 24) ?hr ?_; (case hd => rfl); (case hg => rfl); (case hr => first | (go_simp; done) | (go_simp; rfl)); intro l5 hg w10 aG hb; have l6 := aa.mk (aG); have l7 : aa (w.heap.size ≤ l5) := gw_ hg (ax bl_); have AX := l7; replace HB := aa.mk (ai bl_ hb); clear hb aG hg; obtain ⟨jO, jP, jQ, ku, kv, jR, jS, jT, ky, kz⟩ := bg l6.out))
    go_ret; exact ⟨re_, bl_⟩
   ·rw [if_neg c9] at H; obtain ⟨qE, uJ⟩ := bn_ c9; obtain rfl := Option.some.inj H; go_enter Tryd.func69, Tryd.ntmps69; go_wp2_with (first | ((with_reducible refine aW (N := 1) rfl ?_); (try (refine fT (by rfl) ?_; dsimp only)); refine bf ?hg (N := 1) ?hd (cs := #[.int .i64 ah, .int .i64 au, .int .i64 aj, .int .i64 ak, .slice aM af.length aH]) (t := 24) ?hr ?_; (case hd => rfl); (case hg => rfl); (case hr => first | (go_simp; done) | (go_simp; rfl)); intro l5 hg w12 aG hb; have l6 := aa.mk (aG); have l7 : aa (w.heap.size ≤ l5) := gw_ hg (ax bl_); have AX := l7; replace HB := aa.mk (ai bl_ hb); clear hb aG hg; obtain ⟨nU, nV, nW, oZ, o5, nX, nY, nZ, o6, o7⟩ := bg l6.out))
    go_ret; exact ⟨re_, bl_⟩
  ·rw [if_neg c8] at H; obtain ⟨gH, jv⟩ := bn_ c8; by_cases c14 : ah = 5
   ·rw [if_pos c14] at H; obtain ⟨AY, JP⟩ := bq_ c14; clear c14; by_cases c15 : au = 0
    ·rw [if_pos c15] at H; obtain ⟨uM, D7⟩ := bq_ c15; clear c15; by_cases c16 : aj = 0
     ·rw [if_pos c16] at H; obtain ⟨BJ, FZ⟩ := bq_ c16; clear c16; obtain rfl := Option.some.inj H; go_enter Tryd.func69, Tryd.ntmps69; go_wp2_with (first | ((with_reducible refine aW (N := 1) rfl ?_); (try (refine fT (by rfl) ?_; dsimp only)); refine bf ?hg (N := 1) ?hd (cs := #[.int .i64 ah, .int .i64 au, .int .i64 aj, .int .i64 ak, .slice aM af.length aH]) (t := 24) ?hr ?_; (case hd => rfl); (case hg => rfl); (case hr => first | (go_simp; done) | (go_simp; rfl)); intro l5 hg w17 aG hb; have l6 := aa.mk (aG); have l7 : aa (w.heap.size ≤ l5) := gw_ hg (ax bl_); have AX := l7; replace HB := aa.mk (ai bl_ hb); clear hb aG hg; obtain ⟨mq, mr, mD, og, oh, mE, mF, mG, om, oo⟩ := bg l6.out))
      go_ret; exact ⟨re_, bl_⟩
     ·rw [if_neg c16] at H; obtain ⟨BJ, FZ⟩ := bn_ c16; obtain rfl := Option.some.inj H; go_enter Tryd.func69, Tryd.ntmps69; go_wp2_with (first | ((with_reducible refine aW (N := 1) rfl ?_); (try (refine fT (by rfl) ?_; dsimp only)); refine bf ?hg (N := 1) ?hd (cs := #[.int .i64 ah, .int .i64 au, .int .i64 aj, .int .i64 ak, .slice aM af.length aH]) (t := 24) ?hr ?_; (case hd => rfl); (case hg => rfl); (case hr => first | (go_simp; done) | (go_simp; rfl)); intro l5 hg w19 aG hb; have l6 := aa.mk (aG); have l7 : aa (w.heap.size ≤ l5) := gw_ hg (ax bl_); have AX := l7; replace HB := aa.mk (ai bl_ hb); clear hb aG hg; obtain ⟨mH, mI, mJ, oq, ou, mK, mM, mO, ow, oz⟩ := bg l6.out))
      go_ret; exact ⟨re_, bl_⟩
    ·rw [if_neg c15] at H; obtain ⟨uM, D7⟩ := bn_ c15; obtain rfl := Option.some.inj H; go_enter Tryd.func69, Tryd.ntmps69; go_wp2_with (first | ((with_reducible refine aW (N := 1) rfl ?_); (try (refine fT (by rfl) ?_; dsimp only)); refine bf ?hg (N := 1) ?hd (cs := #[.int .i64 ah, .int .i64 au, .int .i64 aj, .int .i64 ak, .slice aM af.length aH]) (t := 24) ?hr ?_; (case hd => rfl); (case hg => rfl); (case hr => first | (go_simp; done) | (go_simp; rfl)); intro l5 hg w21 aG hb; have l6 := aa.mk (aG); have l7 : aa (w.heap.size ≤ l5) := gw_ hg (ax bl_); have AX := l7; replace HB := aa.mk (ai bl_ hb); clear hb aG hg; obtain ⟨lF, lG, lH, mP, mQ, lI, lJ, lK, mR, mU⟩ := bg l6.out))
     go_ret; exact ⟨re_, bl_⟩
   ·rw [if_neg c14] at H; obtain ⟨AY, JP⟩ := bn_ c14; by_cases c23 : au = 0
    ·rw [if_pos c23] at H; obtain ⟨vE, vF⟩ := bq_ c23; clear c23; by_cases c24 : aj = 0
     ·rw [if_pos c24] at H; obtain ⟨qG, F3⟩ := bq_ c24; clear c24; by_cases c25 : ak = 0
      ·rw [if_pos c25] at H; obtain ⟨D8, D9⟩ := bq_ c25; clear c25; obtain rfl := Option.some.inj H; go_enter Tryd.func69, Tryd.ntmps69; go_wp2_with (first | ((with_reducible refine aW (N := 1) rfl ?_); (try (refine fT (by rfl) ?_; dsimp only)); refine bf ?hg (N := 1) ?hd (cs := #[.int .i64 ah, .int .i64 au, .int .i64 aj, .int .i64 ak, .slice aM af.length aH]) (t := 24) ?hr ?_; (case hd => rfl); (case hg => rfl); (case hr => first | (go_simp; done) | (go_simp; rfl)); intro l5 hg w26 aG hb; have l6 := aa.mk (aG); have l7 : aa (w.heap.size ≤ l5) := gw_ hg (ax bl_); have AX := l7; replace HB := aa.mk (ai bl_ hb); clear hb aG hg; obtain ⟨tO, tQ, tT, tV, tX, tY, tZ, uf, ug, uh⟩ := bg l6.out))
       go_ret; exact ⟨re_, bl_⟩
      ·rw [if_neg c25] at H; obtain ⟨D8, D9⟩ := bn_ c25; obtain rfl := Option.some.inj H; go_enter Tryd.func69, Tryd.ntmps69; go_wp2_with (first | ((with_reducible refine aW (N := 1) rfl ?_); (try (refine fT (by rfl) ?_; dsimp only)); refine bf ?hg (N := 1) ?hd (cs := #[.int .i64 ah, .int .i64 au, .int .i64 aj, .int .i64 ak, .slice aM af.length aH]) (t := 24) ?hr ?_; (case hd => rfl); (case hg => rfl); (case hr => first | (go_simp; done) | (go_simp; rfl)); intro l5 hg w28 aG hb; have l6 := aa.mk (aG); have l7 : aa (w.heap.size ≤ l5) := gw_ hg (ax bl_); have AX := l7; replace HB := aa.mk (ai bl_ hb); clear hb aG hg; obtain ⟨Cb, Cc, Ce, Cf, Cg, Ch, Ci, Cj, Ck, Cm⟩ := bg l6.out))
       go_ret; exact ⟨re_, bl_⟩
     ·rw [if_neg c24] at H; obtain ⟨qG, F3⟩ := bn_ c24; obtain rfl := Option.some.inj H; go_enter Tryd.func69, Tryd.ntmps69; go_wp2_with (first | ((with_reducible refine aW (N := 1) rfl ?_); (try (refine fT (by rfl) ?_; dsimp only)); refine bf ?hg (N := 1) ?hd (cs := #[.int .i64 ah, .int .i64 au, .int .i64 aj, .int .i64 ak, .slice aM af.length aH]) (t := 24) ?hr ?_; (case hd => rfl); (case hg => rfl); (case hr => first | (go_simp; done) | (go_simp; rfl)); intro l5 hg w30 aG hb; have l6 := aa.mk (aG); have l7 : aa (w.heap.size ≤ l5) := gw_ hg (ax bl_); have AX := l7; replace HB := aa.mk (ai bl_ hb); clear hb aG hg; obtain ⟨xR, xS, xU, zw, zx, xV, xW, xX, zy, zz⟩ := bg l6.out))
      go_ret; exact ⟨re_, bl_⟩
    ·rw [if_neg c23] at H; obtain ⟨vE, vF⟩ := bn_ c23; obtain rfl := Option.some.inj H; go_enter Tryd.func69, Tryd.ntmps69; go_wp2_with (first | ((with_reducible refine aW (N := 1) rfl ?_); (try (refine fT (by rfl) ?_; dsimp only)); refine bf ?hg (N := 1) ?hd (cs := #[.int .i64 ah, .int .i64 au, .int .i64 aj, .int .i64 ak, .slice aM af.length aH]) (t := 24) ?hr ?_; (case hd => rfl); (case hg => rfl); (case hr => first | (go_simp; done) | (go_simp; rfl)); intro l5 hg w32 aG hb; have l6 := aa.mk (aG); have l7 : aa (w.heap.size ≤ l5) := gw_ hg (ax bl_); have AX := l7; replace HB := aa.mk (ai bl_ hb); clear hb aG hg; obtain ⟨Ex, Ey, Ez, G5, G6, EA, EB, EC, G7, G8⟩ := bg l6.out))
     go_ret; exact ⟨re_, bl_⟩

end Go.Proofs.YtggelekooacmnaaDoor.Q
namespace Go.Proofs.YtggelekooacmnaaDoor.Q
open Go.RowKit Go.Proofs.YtggelekooacmnaaDoorW.aU Go.Proofs.YtggelekooacmnaaDoorW.bD Go.Proofs.YtggelekooacmnaaDoorW.bH
attribute [local go_sem] dB dC dN dO cO cZ dD dE   -- for this text's walks alone
set_option linter.unusedVariables false
set_option linter.unusedSimpArgs false

/-! ### aN: function 39 -/
mutual
def aN.j0 : Nat → Bool → Int → Int → Int → Int → List (S24) → Option (Int)
 | 0, _, _, _, _, _, _ => none
 | k + 1, x15, ui, vG, vH, vI, iR => if x15 = true then (some 14) else ((gD.f ui vG vH vI iR).bind fun t107 => (if t107 = true then (some 2) else (if ui = 2 then (if vG < (-1000) then (some 1) else (if vG > vH then (some 1) else (if vH > 1000 then (some 1) else (some 0)))) else (if ui = 5 then (if (iR.length : Int) < 2 then (aN.j1 k true ui vG vH vI iR) else (aN.j1 k (decide ((iR.length : Int) > 4)) ui vG vH vI iR)) else (if ui = 6 then (if vI < 1 then (aN.j3 k true ui vG vH vI iR) else (aN.j3 k (decide (vI > 4)) ui vG vH vI iR)) else (some 0))))))
def aN.j1 : Nat → Bool → Int → Int → Int → Int → List (S24) → Option (Int)
 | 0, _, _, _, _, _, _ => none
 | k + 1, x48, ui, vG, vH, vI, iR => if x48 = true then (some 1) else (aN.l0 k iR (iR.length : Int) 0)
def aN.l0 : Nat → List (S24) → Int → Int → Option (Int)
 | 0, _, _, _ => none
 | k + 1, x50, x51, x52 => if x52 < x51 then (if 0 ≤ x52 then (if x52 < (x50.length : Int) then ((aN.f k ((ag x50 x52).f0) ((ag x50 x52).f1) ((ag x50 x52).f2) ((ag x50 x52).f3) ((ag x50 x52).f4)).bind fun t110 => (if t110 = 0 then (if ((ag x50 x52).f0) = 3 then (some 8) else (if ((ag x50 x52).f0) = 4 then (some 8) else (aN.l0 k x50 x51 (wrap64 (x52 + 1))))) else (some t110))) else (none)) else (none)) else (some 0)
def aN.j3 : Nat → Bool → Int → Int → Int → Int → List (S24) → Option (Int)
 | 0, _, _, _, _, _, _ => none
 | k + 1, x79, ui, vG, vH, vI, iR => if x79 = true then (some 1) else (if (iR.length : Int) = 1 then (if 0 < (iR.length : Int) then ((aN.f k ((ag iR 0).f0) ((ag iR 0).f1) ((ag iR 0).f2) ((ag iR 0).f3) ((ag iR 0).f4)).bind fun t112 => (if t112 = 0 then (if ((ag iR 0).f0) = 1 then (some 0) else (if ((ag iR 0).f0) = 2 then (some 0) else (some 8))) else (some t112))) else (none)) else (some 2))
def aN.f : Nat → Int → Int → Int → Int → List (S24) → Option (Int)
 | 0, _, _, _, _, _ => none
 | k + 1, ah, au, aj, ak, af => if ah < 1 then (aN.j0 k true ah au aj ak af) else (aN.j0 k (decide (ah > 6)) ah au aj ak af)
end
theorem aN.fA : ∀ k, (∀ y0 y1 y2 y3 y4, LeO (aN.f k y0 y1 y2 y3 y4) (aN.f (k + 1) y0 y1 y2 y3 y4)) ∧ (∀ y0 y1 y2 y3 y4 y5, LeO (aN.j0 k y0 y1 y2 y3 y4 y5) (aN.j0 (k + 1) y0 y1 y2 y3 y4 y5)) ∧ (∀ y0 y1 y2 y3 y4 y5, LeO (aN.j1 k y0 y1 y2 y3 y4 y5) (aN.j1 (k + 1) y0 y1 y2 y3 y4 y5)) ∧ (∀ y0 y1 y2, LeO (aN.l0 k y0 y1 y2) (aN.l0 (k + 1) y0 y1 y2)) ∧ (∀ y0 y1 y2 y3 y4 y5, LeO (aN.j3 k y0 y1 y2 y3 y4 y5) (aN.j3 (k + 1) y0 y1 y2 y3 y4 y5))
 | 0 => ⟨fun _ _ _ _ _ r h => by simp [aN.f] at h, fun _ _ _ _ _ _ r h => by simp [aN.j0] at h, fun _ _ _ _ _ _ r h => by simp [aN.j1] at h, fun _ _ _ r h => by simp [aN.l0] at h, fun _ _ _ _ _ _ r h => by simp [aN.j3] at h⟩
 | k + 1 => by
  obtain ⟨ih0, ih1, ih2, ih3, ih4⟩ := aN.fA k; refine ⟨?_, ?_, ?_, ?_, ?_⟩
  ·intro y0 y1 y2 y3 y4; unfold aN.f; repeat' first
   | (with_reducible exact ih0 _ _ _ _ _)
   | (with_reducible exact ih1 _ _ _ _ _ _)
   | (with_reducible exact ih2 _ _ _ _ _ _)
   | (with_reducible exact ih3 _ _ _)
   | (with_reducible exact ih4 _ _ _ _ _ _)
   | (with_reducible exact LeO.refl _)
   | (with_reducible exact LeO.none _)
   | (with_reducible refine LeO.ite ?_ ?_)
   | (with_reducible refine LeO.bind ?_ (fun _ => ?_))
   | exact ih0 _ _ _ _ _
   | exact ih1 _ _ _ _ _ _
   | exact ih2 _ _ _ _ _ _
   | exact ih3 _ _ _
   | exact ih4 _ _ _ _ _ _
   | exact LeO.none _
   | refine LeO.ite ?_ ?_
   | refine LeO.bind ?_ (fun _ => ?_)
  ·intro y0 y1 y2 y3 y4 y5; unfold aN.j0; repeat' first
   | (with_reducible exact ih0 _ _ _ _ _)
   | (with_reducible exact ih1 _ _ _ _ _ _)
   | (with_reducible exact ih2 _ _ _ _ _ _)
   | (with_reducible exact ih3 _ _ _)
   | (with_reducible exact ih4 _ _ _ _ _ _)
   | (with_reducible exact LeO.refl _)
   | (with_reducible exact LeO.none _)
   | (with_reducible refine LeO.ite ?_ ?_)
   | (with_reducible refine LeO.bind ?_ (fun _ => ?_))
   | exact ih0 _ _ _ _ _
   | exact ih1 _ _ _ _ _ _
   | exact ih2 _ _ _ _ _ _
   | exact ih3 _ _ _
   | exact ih4 _ _ _ _ _ _
   | exact LeO.none _
   | refine LeO.ite ?_ ?_
   | refine LeO.bind ?_ (fun _ => ?_)
  ·intro y0 y1 y2 y3 y4 y5; unfold aN.j1; repeat' first
   | (with_reducible exact ih0 _ _ _ _ _)
   | (with_reducible exact ih1 _ _ _ _ _ _)
   | (with_reducible exact ih2 _ _ _ _ _ _)
   | (with_reducible exact ih3 _ _ _)
   | (with_reducible exact ih4 _ _ _ _ _ _)
   | (with_reducible exact LeO.refl _)
   | (with_reducible exact LeO.none _)
   | (with_reducible refine LeO.ite ?_ ?_)
   | (with_reducible refine LeO.bind ?_ (fun _ => ?_))
   | exact ih0 _ _ _ _ _
   | exact ih1 _ _ _ _ _ _
   | exact ih2 _ _ _ _ _ _
   | exact ih3 _ _ _
   | exact ih4 _ _ _ _ _ _
   | exact LeO.none _
   | refine LeO.ite ?_ ?_
   | refine LeO.bind ?_ (fun _ => ?_)
  ·intro y0 y1 y2; unfold aN.l0; repeat' first
   | (with_reducible exact ih0 _ _ _ _ _)
   | (with_reducible exact ih1 _ _ _ _ _ _)
   | (with_reducible exact ih2 _ _ _ _ _ _)
   | (with_reducible exact ih3 _ _ _)
   | (with_reducible exact ih4 _ _ _ _ _ _)
   | (with_reducible exact LeO.refl _)
   | (with_reducible exact LeO.none _)
   | (with_reducible refine LeO.ite ?_ ?_)
   | (with_reducible refine LeO.bind ?_ (fun _ => ?_))
   | exact ih0 _ _ _ _ _
   | exact ih1 _ _ _ _ _ _
   | exact ih2 _ _ _ _ _ _
   | exact ih3 _ _ _
   | exact ih4 _ _ _ _ _ _
   | exact LeO.none _
   | refine LeO.ite ?_ ?_
   | refine LeO.bind ?_ (fun _ => ?_)
  ·intro y0 y1 y2 y3 y4 y5; unfold aN.j3; repeat' first
   | (with_reducible exact ih0 _ _ _ _ _)
   | (with_reducible exact ih1 _ _ _ _ _ _)
   | (with_reducible exact ih2 _ _ _ _ _ _)
   | (with_reducible exact ih3 _ _ _)
   | (with_reducible exact ih4 _ _ _ _ _ _)
   | (with_reducible exact LeO.refl _)
   | (with_reducible exact LeO.none _)
   | (with_reducible refine LeO.ite ?_ ?_)
   | (with_reducible refine LeO.bind ?_ (fun _ => ?_))
   | exact ih0 _ _ _ _ _
   | exact ih1 _ _ _ _ _ _
   | exact ih2 _ _ _ _ _ _
   | exact ih3 _ _ _
   | exact ih4 _ _ _ _ _ _
   | exact LeO.none _
   | refine LeO.ite ?_ ?_
   | refine LeO.bind ?_ (fun _ => ?_)
theorem aN.mono : ∀ a0 a1 a2 a3 a4 k, LeO (aN.f k a0 a1 a2 a3 a4) (aN.f (k + 1) a0 a1 a2 a3 a4) := by
 intro a0 a1 a2 a3 a4 k; obtain ⟨ih0, ih1, ih2, ih3, ih4⟩ := aN.fA k; exact ih0 a0 a1 a2 a3 a4
set_option maxHeartbeats 8000000 in
set_option maxRecDepth 100000 in
theorem aN.calls (k : Nat) : ∀ (ah : Int) (au : Int) (aj : Int) (ak : Int) (aM : Option Addr) (aH : Nat) (af : List (S24)) (r : Int) (w : World) (di : Kd.C k24 w aM af.length af) (dm : af.length ≤ aH) (h : aN.f k ah au aj ak af = some r),
  Calls Tryd.prog 39 #[.agg #[.int .i64 ah, .int .i64 au, .int .i64 aj, .int .i64 ak, .slice aM af.length aH]] w fun e w' => e = .returned (.int .i64 r) ∧ Below w.heap.size w w' := by
 induction k using Nat.strongRecOn with
 | _ k ih =>
 intro ah au aj ak aM aH af r w di dm h; cases k with
 | zero => exact absurd h (by simp [aN.f])
 | succ k =>
 simp only [aN.f] at h; have mg := Tryd.underlying24; have bu := aa.mk di; have bU := aa.mk dm; clear di dm; have HB := aa.mk (Below.refl w.heap.size w); have H : (if ah < 1 then (aN.j0 k true ah au aj ak af) else (aN.j0 k (decide (ah > 6)) ah au aj ak af)) = some r := h; clear h; have HC2 := aa.mk H; clear H; go_enter Tryd.func39, Tryd.ntmps39; go_upto_region 1 with (first | ((with_reducible refine aW (N := 1) rfl ?_); (try (refine fT (by rfl) ?_; dsimp only)); refine bf ?hg (N := 1) ?hd (cs := #[.int .i64 ah, .int .i64 au, .int .i64 aj, .int .i64 ak, .slice aM af.length aH]) (t := 24) ?hr ?_; (case hd => rfl); (case hg => rfl); (case hr => first | (go_simp; done) | (go_simp; rfl)); intro BK hg w3 aG hb; have dJ := aa.mk (aG); have GW106 : aa (w.heap.size ≤ BK) := gw_ hg (ax bl_); have GE106 := GW106; replace HB := aa.mk (ai bl_ hb); clear hb aG hg))
 (try simp only [Act.put, List.setIfInBounds_toArray, List.set_cons_zero, List.set_cons_succ])
 go_cut [15] (fun v15 wc => ∃ (kq : Nat) (x15_1 : Bool), v15 = .bool x15_1 ∧ aa (aN.j0 kq x15_1 ah au aj ak af = some r) ∧ aa (kq ≤ k) ∧ aa (wc.heap[BK]? = some (.cells #[.int .i64 ah, .int .i64 au, .int .i64 aj, .int .i64 ak, (.slice aM af.length aH)] 24 (0, 0))) ∧ aa (Below w.heap.size w wc))
 case first =>
  have H := HC2.out; clear HC2; by_cases c4 : ah < 1
  ·rw [if_pos c4] at H; have nK := decide_eq_true c4; clear c4; (first | rw [nK] | (simp only [dS, ek]; rw [nK]) | skip)
   have H' := aa.mk H; clear H; obtain ⟨CZ, C8, C9, Da, Db, Dc, De, Df, Dg, Dh⟩ := bg dJ.out; go_wp2; go_meet
   case rel => exact ⟨_, (true), rs_, H', ⟨by first | omega | exact Nat.le_refl _⟩, ⟨bk_⟩, ⟨bl_⟩⟩
  ·rw [if_neg c4] at H; have nK := decide_eq_false c4; clear c4; (first | rw [nK] | (simp only [dS, ek]; rw [nK]) | skip)
   have H' := aa.mk H; clear H; obtain ⟨kV, kW, kX, kY, kZ, lg, lh, ll, lq, lu⟩ := bg dJ.out; go_wp2; go_meet
   case rel => exact ⟨_, (decide (ah > 6)), rs_, H', ⟨by first | omega | exact Nat.le_refl _⟩, ⟨bk_⟩, ⟨bl_⟩⟩
 case rest =>
  clear HC2; (try clear p2); (try clear c3); (try clear c4); (try clear nK); (try clear CZ C8 C9 Da Db Dc De Df Dg Dh); (try clear kV kW kX kY kZ lg lh ll lq lu); obtain ⟨kq, x15_1, rfl, HA, HJ1, dJ, HB⟩ := hcut; cases kq with
  | zero => exact absurd HA.out (by simp [aN.j0])
  | succ kj1 =>
   have H := HA.out; clear HA; simp only [aN.j0] at H; by_cases c7 : x15_1 = true
   ·subst c7; have H1 : (some 14) = some r := by rw [if_pos rfl] at H; exact H
    clear H; have H := H1; clear H1; obtain rfl := Option.some.inj H; go_wp2; go_ret; exact ⟨re_, bl_⟩
   ·replace c7 := Bool.eq_false_iff.mpr c7; subst c7; have H1 : ((gD.f ah au aj ak af).bind fun t107 => (if t107 = true then (some 2) else (if ah = 2 then (if au < (-1000) then (some 1) else (if au > aj then (some 1) else (if aj > 1000 then (some 1) else (some 0)))) else (if ah = 5 then (if (af.length : Int) < 2 then (aN.j1 kj1 true ah au aj ak af) else (aN.j1 kj1 (decide ((af.length : Int) > 4)) ah au aj ak af)) else (if ah = 6 then (if ak < 1 then (aN.j3 kj1 true ah au aj ak af) else (aN.j3 kj1 (decide (ak > 4)) ah au aj ak af)) else (some 0)))))) = some r := by rw [if_neg (show ¬ (false = true) by decide)] at H; exact H
    clear H; have H := H1; clear H1; replace H := Option.bind_eq_some_iff.mp H; obtain ⟨t107, A80, H⟩ := H; (try dsimp only at H)
    have A8 := aa.mk A80; clear A80; by_cases c9 : t107 = true
    ·subst c9; have H1 : (some 2) = some r := by rw [if_pos rfl] at H; exact H
     clear H; have H := H1; clear H1; obtain rfl := Option.some.inj H; obtain ⟨uj, uk, um, vJ, vK, uo, uq, uu, vL, vM⟩ := bg dJ.out; go_wp2_with (first | ((with_reducible refine aD (f := 69) rfl ?_); refine aZ (some 17) rfl rfl Tryd.func69 (by kernel_rfl) rfl #[.agg #[.int .i64 ah, .int .i64 au, .int .i64 aj, .int .i64 ak, .slice aM af.length aH]] rfl mp_ ?_; (with_reducible refine (gD.calls ah au aj ak _ _ af true _ ?az ?aA A8.out).mono ?_); (case az => exact cb_ (Kd.aK bu.out HB.out)); (case aA => exact bU.out); rintro e w11 ⟨rfl, hb⟩; refine ⟨_, rfl, ?_⟩; replace dJ := kb_ dJ hb; replace HB := aa.mk (ai bl_ hb); (try clear hb); (try clear hb2); (try clear hk); (try clear hi)))
     go_ret; exact ⟨re_, bl_⟩
    ·replace c9 := Bool.eq_false_iff.mpr c9; subst c9; have H1 : (if ah = 2 then (if au < (-1000) then (some 1) else (if au > aj then (some 1) else (if aj > 1000 then (some 1) else (some 0)))) else (if ah = 5 then (if (af.length : Int) < 2 then (aN.j1 kj1 true ah au aj ak af) else (aN.j1 kj1 (decide ((af.length : Int) > 4)) ah au aj ak af)) else (if ah = 6 then (if ak < 1 then (aN.j3 kj1 true ah au aj ak af) else (aN.j3 kj1 (decide (ak > 4)) ah au aj ak af)) else (some 0)))) = some r := by rw [if_neg (show ¬ (false = true) by decide)] at H; exact H
     clear H; have H := H1; clear H1; by_cases c12 : ah = 2
     ·rw [if_pos c12] at H; obtain ⟨uN, zf⟩ := bq_ c12; clear c12; by_cases c13 : au < (-1000)
      ·rw [if_pos c13] at H; have mV := decide_eq_true c13; clear c13; obtain rfl := Option.some.inj H; obtain ⟨ja, jb, jc, jd, je, jf, jg, jh, ji, jk⟩ := bg dJ.out; go_wp2_with (first | ((with_reducible refine aD (f := 69) rfl ?_); refine aZ (some 17) rfl rfl Tryd.func69 (by kernel_rfl) rfl #[.agg #[.int .i64 ah, .int .i64 au, .int .i64 aj, .int .i64 ak, .slice aM af.length aH]] rfl mp_ ?_; (with_reducible refine (gD.calls ah au aj ak _ _ af false _ ?az ?aA A8.out).mono ?_); (case az => exact cb_ (Kd.aK bu.out HB.out)); (case aA => exact bU.out); rintro e w15 ⟨rfl, hb⟩; refine ⟨_, rfl, ?_⟩; replace dJ := kb_ dJ hb; replace HB := aa.mk (ai bl_ hb); (try clear hb); (try clear hb2); (try clear hk); (try clear hi); obtain ⟨kC, kD, kE, o8, o9, kF, kG, kH, pg, pq⟩ := bg dJ.out))
       go_ret; exact ⟨re_, bl_⟩
      ·rw [if_neg c13] at H; have mV := decide_eq_false c13; clear c13; by_cases c17 : au > aj
       ·rw [if_pos c17] at H; have l8 : decide (aj < au) = true := decide_eq_true c17; clear c17; obtain rfl := Option.some.inj H; obtain ⟨mq, mr, mD, og, oh, mE, mF, mG, om, oo⟩ := bg dJ.out; go_wp2_with (first | ((with_reducible refine aD (f := 69) rfl ?_); refine aZ (some 17) rfl rfl Tryd.func69 (by kernel_rfl) rfl #[.agg #[.int .i64 ah, .int .i64 au, .int .i64 aj, .int .i64 ak, .slice aM af.length aH]] rfl mp_ ?_; (with_reducible refine (gD.calls ah au aj ak _ _ af false _ ?az ?aA A8.out).mono ?_); (case az => exact cb_ (Kd.aK bu.out HB.out)); (case aA => exact bU.out); rintro e w19 ⟨rfl, hb⟩; refine ⟨_, rfl, ?_⟩; replace dJ := kb_ dJ hb; replace HB := aa.mk (ai bl_ hb); (try clear hb); (try clear hb2); (try clear hk); (try clear hi); obtain ⟨mH, mI, mJ, oq, ou, mK, mM, mO, ow, oz⟩ := bg dJ.out))
        go_ret; exact ⟨re_, bl_⟩
       ·rw [if_neg c17] at H; have l8 : decide (aj < au) = false := decide_eq_false c17; clear c17; by_cases c21 : aj > 1000
        ·rw [if_pos c21] at H; have AZ : decide (1000 < aj) = true := decide_eq_true c21; clear c21; obtain rfl := Option.some.inj H; obtain ⟨lF, lG, lH, mP, mQ, lI, lJ, lK, mR, mU⟩ := bg dJ.out; go_wp2_with (first | ((with_reducible refine aD (f := 69) rfl ?_); refine aZ (some 17) rfl rfl Tryd.func69 (by kernel_rfl) rfl #[.agg #[.int .i64 ah, .int .i64 au, .int .i64 aj, .int .i64 ak, .slice aM af.length aH]] rfl mp_ ?_; (with_reducible refine (gD.calls ah au aj ak _ _ af false _ ?az ?aA A8.out).mono ?_); (case az => exact cb_ (Kd.aK bu.out HB.out)); (case aA => exact bU.out); rintro e w23 ⟨rfl, hb⟩; refine ⟨_, rfl, ?_⟩; replace dJ := kb_ dJ hb; replace HB := aa.mk (ai bl_ hb); (try clear hb); (try clear hb2); (try clear hk); (try clear hi); obtain ⟨xY, xZ, yc, zA, zB, yf, yg, yh, zC, zD⟩ := bg dJ.out))
         go_ret; exact ⟨re_, bl_⟩
        ·rw [if_neg c21] at H; have AZ : decide (1000 < aj) = false := decide_eq_false c21; clear c21; obtain rfl := Option.some.inj H; obtain ⟨vN, vO, vP, vQ, vR, vS, vT, vU, vV, vW⟩ := bg dJ.out; go_wp2_with (first | ((with_reducible refine aD (f := 69) rfl ?_); refine aZ (some 17) rfl rfl Tryd.func69 (by kernel_rfl) rfl #[.agg #[.int .i64 ah, .int .i64 au, .int .i64 aj, .int .i64 ak, .slice aM af.length aH]] rfl mp_ ?_; (with_reducible refine (gD.calls ah au aj ak _ _ af false _ ?az ?aA A8.out).mono ?_); (case az => exact cb_ (Kd.aK bu.out HB.out)); (case aA => exact bU.out); rintro e w26 ⟨rfl, hb⟩; refine ⟨_, rfl, ?_⟩; replace dJ := kb_ dJ hb; replace HB := aa.mk (ai bl_ hb); (try clear hb); (try clear hb2); (try clear hk); (try clear hi); obtain ⟨tO, tQ, tT, tV, tX, tY, tZ, uf, ug, uh⟩ := bg dJ.out))
         go_ret; exact ⟨re_, bl_⟩
     ·rw [if_neg c12] at H; obtain ⟨uN, zf⟩ := bn_ c12; by_cases c28 : ah = 5
      ·rw [if_pos c28] at H; obtain ⟨JQ, c28b1⟩ := bq_ c28; clear c28; have HC29 := aa.mk H; clear H; obtain ⟨zF, zG, zH, zI, zJ, zK, zL, zM, zN, zO⟩ := bg dJ.out; go_upto_region 10 with (first | ((with_reducible refine aD (f := 69) rfl ?_); refine aZ (some 17) rfl rfl Tryd.func69 (by kernel_rfl) rfl #[.agg #[.int .i64 ah, .int .i64 au, .int .i64 aj, .int .i64 ak, .slice aM af.length aH]] rfl mp_ ?_; (with_reducible refine (gD.calls ah au aj ak _ _ af false _ ?az ?aA A8.out).mono ?_); (case az => exact cb_ (Kd.aK bu.out HB.out)); (case aA => exact bU.out); rintro e w31 ⟨rfl, hb⟩; refine ⟨_, rfl, ?_⟩; replace dJ := kb_ dJ hb; replace HB := aa.mk (ai bl_ hb); (try clear hb); (try clear hb2); (try clear hk); (try clear hi); obtain ⟨Cn, Co, Cq, Cr, Cs, Ct, Cu, Cv, Cw, Cx⟩ := bg dJ.out))
       (try simp only [Act.put, List.setIfInBounds_toArray, List.set_cons_zero, List.set_cons_succ])
       go_cut [48] (fun v48 wc => ∃ (kq : Nat) (JR : Bool), v48 = .bool JR ∧ aa (aN.j1 kq JR ah au aj ak af = some r) ∧ aa (kq ≤ kj1) ∧ aa (wc.heap[BK]? = some (.cells #[.int .i64 ah, .int .i64 au, .int .i64 aj, .int .i64 ak, (.slice aM af.length aH)] 24 (0, 0))) ∧ aa (Below w.heap.size w wc))
       case first =>
        have H := HC29.out; clear HC29; by_cases c33 : (af.length : Int) < 2
        ·rw [if_pos c33] at H; have Ba := decide_eq_true c33; have c33b1 : decide (af.length < 2) = true := decide_eq_true (by omega); clear c33; (first | rw [Ba] | (simp only [dS, ek]; rw [Ba]) | skip)
         have H' := aa.mk H; clear H; obtain ⟨yj, yl, ym, zP, zQ, yn, yo, yt, zR, zS⟩ := bg dJ.out; go_wp2; go_meet
         case rel => exact ⟨_, (true), rs_, H', ⟨by have := HJ1.out; first | omega | exact Nat.le_refl _⟩, ⟨bk_⟩, ⟨bl_⟩⟩
        ·rw [if_neg c33] at H; have Ba := decide_eq_false c33; have c33b1 : decide (af.length < 2) = false := decide_eq_false (by omega); clear c33; (first | rw [Ba] | (simp only [dS, ek]; rw [Ba]) | skip)
         have H' := aa.mk H; clear H; obtain ⟨zT, zU, zV, zW, zX, zY, zZ, z8, Aa, Ab⟩ := bg dJ.out; go_wp2; go_meet
         case rel => exact ⟨_, (decide ((af.length : Int) > 4)), rs_, H', ⟨by have := HJ1.out; first | omega | exact Nat.le_refl _⟩, ⟨bk_⟩, ⟨bl_⟩⟩
       case rest =>
        clear HC29; (try clear c1); (try clear c2); (try clear p2); (try clear c3); (try clear c4); (try clear nK); (try clear c6); (try clear c7); (try clear c9); (try clear c12); (try clear uN); (try clear zf); (try clear c13); (try clear mV); (try clear c17); (try clear l8); (try clear c21); (try clear AZ); (try clear c28); (try clear JQ); (try clear c28b1); (try clear c33); (try clear Ba); (try clear c33b1); (try clear uj uk um vJ vK uo uq uu vL vM); (try clear ja jb jc jd je jf jg jh ji jk); (try clear kC kD kE o8 o9 kF kG kH pg pq); (try clear mq mr mD og oh mE mF mG om oo); (try clear mH mI mJ oq ou mK mM mO ow oz); (try clear lF lG lH mP mQ lI lJ lK mR mU); (try clear xY xZ yc zA zB yf yg yh zC zD); (try clear vN vO vP vQ vR vS vT vU vV vW); (try clear tO tQ tT tV tX tY tZ uf ug uh); (try clear zF zG zH zI zJ zK zL zM zN zO); (try clear Cn Co Cq Cr Cs Ct Cu Cv Cw Cx); (try clear yj yl ym zP zQ yn yo yt zR zS); (try clear zT zU zV zW zX zY zZ z8 Aa Ab); (try clear CZ C8 C9 Da Db Dc De Df Dg Dh); (try clear kV kW kX kY kZ lg lh ll lq lu); (try clear p2); obtain ⟨kq, JR, rfl, HA, HJ28, dJ, HB⟩ := hcut; cases kq with
        | zero => exact absurd HA.out (by simp [aN.j1])
        | succ kj28 =>
         have H := HA.out; clear HA; simp only [aN.j1] at H; by_cases c36 : JR = true
         ·subst c36; have H1 : (some 1) = some r := by rw [if_pos rfl] at H; exact H
          clear H; have H := H1; clear H1; obtain rfl := Option.some.inj H; go_wp2; go_ret; exact ⟨re_, bl_⟩
         ·replace c36 := Bool.eq_false_iff.mpr c36; subst c36; have H1 : (aN.l0 kj28 af (af.length : Int) 0) = some r := by rw [if_neg (show ¬ (false = true) by decide)] at H; exact H
          clear H; have H := H1; clear H1; have H' := aa.mk H; clear H; obtain ⟨qP, qQ, qR, uw, uy, qU, qV, qW, uz, uA⟩ := bg dJ.out; go_wp2; go_loopg [52] kj28 (fun kq v52 w' => ∃ (dG : Int), v52 = .int .i64 dG ∧ aa (aN.l0 kq af (af.length : Int) dG = some r) ∧ aa (kq ≤ kj28) ∧ aa (w'.heap[BK]? = some (.cells #[.int .i64 ah, .int .i64 au, .int .i64 aj, .int .i64 ak, (.slice aM af.length aH)] 24 (0, 0))) ∧ aa (Below w.heap.size w w'))
          case atStart => exact ⟨(0), rs_, H', ⟨Nat.le_refl _⟩, ⟨bk_⟩, ⟨bl_⟩⟩
          case round =>
           clear H'; (try clear c1); (try clear c2); (try clear p2); (try clear c3); (try clear c4); (try clear nK); (try clear c6); (try clear c7); (try clear c9); (try clear c12); (try clear uN); (try clear zf); (try clear c13); (try clear mV); (try clear c17); (try clear l8); (try clear c21); (try clear AZ); (try clear c28); (try clear JQ); (try clear c28b1); (try clear c33); (try clear Ba); (try clear c33b1); (try clear c36); (try clear uj uk um vJ vK uo uq uu vL vM); (try clear ja jb jc jd je jf jg jh ji jk); (try clear kC kD kE o8 o9 kF kG kH pg pq); (try clear mq mr mD og oh mE mF mG om oo); (try clear mH mI mJ oq ou mK mM mO ow oz); (try clear lF lG lH mP mQ lI lJ lK mR mU); (try clear xY xZ yc zA zB yf yg yh zC zD); (try clear vN vO vP vQ vR vS vT vU vV vW); (try clear tO tQ tT tV tX tY tZ uf ug uh); (try clear zF zG zH zI zJ zK zL zM zN zO); (try clear Cn Co Cq Cr Cs Ct Cu Cv Cw Cx); (try clear yj yl ym zP zQ yn yo yt zR zS); (try clear zT zU zV zW zX zY zZ z8 Aa Ab); (try clear qP qQ qR uw uy qU qV qW uz uA); (try clear CZ C8 C9 Da Db Dc De Df Dg Dh); (try clear kV kW kX kY kZ lg lh ll lq lu); (try clear p2); obtain ⟨dG, rfl, HA, HK3, dJ, HB⟩ := hrel; cases gk with
           | zero => exact absurd HA.out (by simp [aN.l0])
           | succ k3 =>
            have H := HA.out; clear HA; simp only [aN.l0] at H; by_cases c38 : dG < (af.length : Int)
            ·rw [if_pos c38] at H; have JS := decide_eq_true c38; clear c38; by_cases c39 : 0 ≤ dG
             ·rw [if_pos c39] at H; have zg := decide_eq_true c39; clear c39; by_cases c40 : dG < (af.length : Int)
              ·rw [if_pos c40] at H; have c40b0 := decide_eq_true c40; clear c40; replace H := Option.bind_eq_some_iff.mp H; obtain ⟨t110, A410, H⟩ := H; (try dsimp only at H)
               have A41 := aa.mk A410; clear A410; by_cases c42 : t110 = 0
               ·rw [if_pos c42] at H; obtain ⟨c42b0, c42b1⟩ := bq_ c42; clear c42; by_cases c43 : ((ag af dG).f0) = 3
                ·rw [if_pos c43] at H; obtain ⟨c43b0, c43b1⟩ := bq_ c43; clear c43; obtain rfl := Option.some.inj H; have xm : 0 ≤ (dG : Int) := dt_; have xn : dG < (af.length : Int) := dt_; obtain ⟨F4, uU, uV, e108, pz, pE, pF, pG, pI, qX, qY⟩ := dZ bu.out dG xm xn; cases e108; replace pz := hc_ HB pz; replace pE := hc_ HB pE; replace pF := hc_ HB pF; replace pG := hc_ HB pG; replace pI := hc_ HB pI; have Ac := aa.mk qY; have Ad := aa.mk qX; clear qY qX; replace xm := eq_true xm; replace xn := eq_true xn; go_wp2_with (first | ((with_reducible refine aW (N := 4) rfl ?_); (try (refine fT (by rfl) ?_; dsimp only)); refine bf ?hg (N := 4) ?hd (cs := #[.int .i64 0, .int .i64 0, .int .i64 0, .int .i64 0, .slice none 0 0]) (t := 24) ?hr ?_; (case hd => rfl); (case hg => rfl); (case hr => first | (go_simp; done) | (go_simp; rfl)); intro zh hg w44 aG hb; have uO := aa.mk (aG); have F5 : aa (w.heap.size ≤ zh) := gw_ hg (ax bl_); have GE109 := F5; have uW := nl_ dJ hg; have uX := ng_ dJ hg; replace dJ := kb_ dJ hb; replace HB := aa.mk (ai bl_ hb); clear hb aG hg; have hnb45 := uX.out; have hnc45 := uW.out; obtain ⟨Ph, Pj, Pk, Pm, Pn, Po, Pp, Pq, Ps, Pt⟩ := bg uO.out) | ((with_reducible refine aD (f := 39) rfl ?_); refine aZ (some 57) rfl rfl Tryd.func39 (by kernel_rfl) rfl #[.agg #[.int .i64 ((ag af dG).f0), .int .i64 ((ag af dG).f1), .int .i64 ((ag af dG).f2), .int .i64 ((ag af dG).f3), .slice uU ((ag af dG).f4).length uV]] rfl mp_ ?_; (with_reducible refine (ih k3 (by have := HJ1.out; have := HJ28.out; have := HK3.out; omega) ((ag af dG).f0) ((ag af dG).f1) ((ag af dG).f2) ((ag af dG).f3) _ _ ((ag af dG).f4) t110 _ ?az ?aA A41.out).mono ?_); (case az => exact Kd.aK Ac.out bl_); (case aA => exact Ad.out); rintro e w47 ⟨rfl, hb⟩; refine ⟨_, rfl, ?_⟩; replace dJ := aa.mk (dR (g := BK) (o := .cells #[.int .i64 ah, .int .i64 au, .int .i64 aj, .int .i64 ak, .slice (some F4) af.length aH] 24 (0, 0)) b5_ hb); replace uO := aa.mk (dR (g := zh) (o := .cells #[.int .i64 ((ag af dG).f0), .int .i64 ((ag af dG).f1), .int .i64 ((ag af dG).f2), .int .i64 ((ag af dG).f3), .slice uU ((ag af dG).f4).length uV] 24 (0, 0)) b5_ hb); replace HB := aa.mk (ai bl_ hb); (try clear hb); (try clear hb2); (try clear hk); (try clear hi); obtain ⟨G9, Ha, Hd, L9, Ma, He, Hf, Hg, Mc, Md⟩ := bg uO.out))
                 go_ret; exact ⟨re_, bl_⟩
                ·rw [if_neg c43] at H; obtain ⟨c43b0, c43b1⟩ := bn_ c43; by_cases c49 : ((ag af dG).f0) = 4
                 ·rw [if_pos c49] at H; obtain ⟨Hl, Hm⟩ := bq_ c49; clear c49; obtain rfl := Option.some.inj H; have xm : 0 ≤ (dG : Int) := dt_; have xn : dG < (af.length : Int) := dt_; obtain ⟨F4, uU, uV, e108, pz, pE, pF, pG, pI, qX, qY⟩ := dZ bu.out dG xm xn; cases e108; replace pz := hc_ HB pz; replace pE := hc_ HB pE; replace pF := hc_ HB pF; replace pG := hc_ HB pG; replace pI := hc_ HB pI; have Ac := aa.mk qY; have Ad := aa.mk qX; clear qY qX; replace xm := eq_true xm; replace xn := eq_true xn; go_wp2_with (first | ((with_reducible refine aW (N := 4) rfl ?_); (try (refine fT (by rfl) ?_; dsimp only)); refine bf ?hg (N := 4) ?hd (cs := #[.int .i64 0, .int .i64 0, .int .i64 0, .int .i64 0, .slice none 0 0]) (t := 24) ?hr ?_; (case hd => rfl); (case hg => rfl); (case hr => first | (go_simp; done) | (go_simp; rfl)); intro zh hg w50 aG hb; have uO := aa.mk (aG); have F5 : aa (w.heap.size ≤ zh) := gw_ hg (ax bl_); have GE109 := F5; have uW := nl_ dJ hg; have uX := ng_ dJ hg; replace dJ := kb_ dJ hb; replace HB := aa.mk (ai bl_ hb); clear hb aG hg; have hnb51 := uX.out; have hnc51 := uW.out; obtain ⟨Ho, Hq, Hr, Ht, Hu, Hw, Hy, Hz, HV, HY⟩ := bg uO.out) | ((with_reducible refine aD (f := 39) rfl ?_); refine aZ (some 57) rfl rfl Tryd.func39 (by kernel_rfl) rfl #[.agg #[.int .i64 ((ag af dG).f0), .int .i64 ((ag af dG).f1), .int .i64 ((ag af dG).f2), .int .i64 ((ag af dG).f3), .slice uU ((ag af dG).f4).length uV]] rfl mp_ ?_; (with_reducible refine (ih k3 (by have := HJ1.out; have := HJ28.out; have := HK3.out; omega) ((ag af dG).f0) ((ag af dG).f1) ((ag af dG).f2) ((ag af dG).f3) _ _ ((ag af dG).f4) t110 _ ?az ?aA A41.out).mono ?_); (case az => exact Kd.aK Ac.out bl_); (case aA => exact Ad.out); rintro e w53 ⟨rfl, hb⟩; refine ⟨_, rfl, ?_⟩; replace dJ := aa.mk (dR (g := BK) (o := .cells #[.int .i64 ah, .int .i64 au, .int .i64 aj, .int .i64 ak, .slice (some F4) af.length aH] 24 (0, 0)) b5_ hb); replace uO := aa.mk (dR (g := zh) (o := .cells #[.int .i64 ((ag af dG).f0), .int .i64 ((ag af dG).f1), .int .i64 ((ag af dG).f2), .int .i64 ((ag af dG).f3), .slice uU ((ag af dG).f4).length uV] 24 (0, 0)) b5_ hb); replace HB := aa.mk (ai bl_ hb); (try clear hb); (try clear hb2); (try clear hk); (try clear hi); obtain ⟨HZ, H5, H6, H7, H8, H9, Ia, Ib, Ic, Ie⟩ := bg uO.out))
                  go_ret; exact ⟨re_, bl_⟩
                 ·rw [if_neg c49] at H; obtain ⟨Hl, Hm⟩ := bn_ c49; have H' := aa.mk H; clear H; have xm : 0 ≤ (dG : Int) := dt_; have xn : dG < (af.length : Int) := dt_; obtain ⟨F4, uU, uV, e108, pz, pE, pF, pG, pI, qX, qY⟩ := dZ bu.out dG xm xn; cases e108; replace pz := hc_ HB pz; replace pE := hc_ HB pE; replace pF := hc_ HB pF; replace pG := hc_ HB pG; replace pI := hc_ HB pI; have Ac := aa.mk qY; have Ad := aa.mk qX; clear qY qX; replace xm := eq_true xm; replace xn := eq_true xn; go_wp2_with (first | ((with_reducible refine aW (N := 4) rfl ?_); (try (refine fT (by rfl) ?_; dsimp only)); refine bf ?hg (N := 4) ?hd (cs := #[.int .i64 0, .int .i64 0, .int .i64 0, .int .i64 0, .slice none 0 0]) (t := 24) ?hr ?_; (case hd => rfl); (case hg => rfl); (case hr => first | (go_simp; done) | (go_simp; rfl)); intro zh hg w55 aG hb; have uO := aa.mk (aG); have F5 : aa (w.heap.size ≤ zh) := gw_ hg (ax bl_); have GE109 := F5; have uW := nl_ dJ hg; have uX := ng_ dJ hg; replace dJ := kb_ dJ hb; replace HB := aa.mk (ai bl_ hb); clear hb aG hg; have hnb56 := uX.out; have hnc56 := uW.out; obtain ⟨Me, Mf, Mg, Mh, Mi, Mj, Mk, Ml, Mm, Mo⟩ := bg uO.out) | ((with_reducible refine aD (f := 39) rfl ?_); refine aZ (some 57) rfl rfl Tryd.func39 (by kernel_rfl) rfl #[.agg #[.int .i64 ((ag af dG).f0), .int .i64 ((ag af dG).f1), .int .i64 ((ag af dG).f2), .int .i64 ((ag af dG).f3), .slice uU ((ag af dG).f4).length uV]] rfl mp_ ?_; (with_reducible refine (ih k3 (by have := HJ1.out; have := HJ28.out; have := HK3.out; omega) ((ag af dG).f0) ((ag af dG).f1) ((ag af dG).f2) ((ag af dG).f3) _ _ ((ag af dG).f4) t110 _ ?az ?aA A41.out).mono ?_); (case az => exact Kd.aK Ac.out bl_); (case aA => exact Ad.out); rintro e w58 ⟨rfl, hb⟩; refine ⟨_, rfl, ?_⟩; replace dJ := aa.mk (dR (g := BK) (o := .cells #[.int .i64 ah, .int .i64 au, .int .i64 aj, .int .i64 ak, .slice (some F4) af.length aH] 24 (0, 0)) b5_ hb); replace uO := aa.mk (dR (g := zh) (o := .cells #[.int .i64 ((ag af dG).f0), .int .i64 ((ag af dG).f1), .int .i64 ((ag af dG).f2), .int .i64 ((ag af dG).f3), .slice uU ((ag af dG).f4).length uV] 24 (0, 0)) b5_ hb); replace HB := aa.mk (ai bl_ hb); (try clear hb); (try clear hb2); (try clear hk); (try clear hi); obtain ⟨Mq, Mr, Ms, Mt, Mv, Mw, Mx, MB, MC, ME⟩ := bg uO.out))
                  go_roundg k3
                  case measure => have := HJ1.out; have := HJ28.out; have := HK3.out; omega
                  case rel => exact ⟨(wrap64 (dG + 1)), rs_, H', ⟨by have := HJ1.out; have := HJ28.out; have := HK3.out; omega⟩, ⟨bk_⟩, ⟨bl_⟩⟩
               ·rw [if_neg c42] at H; obtain ⟨c42b0, c42b1⟩ := bn_ c42; obtain rfl := Option.some.inj H; have xm : 0 ≤ (dG : Int) := dt_; have xn : dG < (af.length : Int) := dt_; obtain ⟨F4, uU, uV, e108, pz, pE, pF, pG, pI, qX, qY⟩ := dZ bu.out dG xm xn; cases e108; replace pz := hc_ HB pz; replace pE := hc_ HB pE; replace pF := hc_ HB pF; replace pG := hc_ HB pG; replace pI := hc_ HB pI; have Ac := aa.mk qY; have Ad := aa.mk qX; clear qY qX; replace xm := eq_true xm; replace xn := eq_true xn; go_wp2_with (first | ((with_reducible refine aW (N := 4) rfl ?_); (try (refine fT (by rfl) ?_; dsimp only)); refine bf ?hg (N := 4) ?hd (cs := #[.int .i64 0, .int .i64 0, .int .i64 0, .int .i64 0, .slice none 0 0]) (t := 24) ?hr ?_; (case hd => rfl); (case hg => rfl); (case hr => first | (go_simp; done) | (go_simp; rfl)); intro zh hg w60 aG hb; have uO := aa.mk (aG); have F5 : aa (w.heap.size ≤ zh) := gw_ hg (ax bl_); have GE109 := F5; have uW := nl_ dJ hg; have uX := ng_ dJ hg; replace dJ := kb_ dJ hb; replace HB := aa.mk (ai bl_ hb); clear hb aG hg; have hnb61 := uX.out; have hnc61 := uW.out; obtain ⟨MF, MG, MH, MI, MJ, MK, ML, MM, MN, MO⟩ := bg uO.out) | ((with_reducible refine aD (f := 39) rfl ?_); refine aZ (some 57) rfl rfl Tryd.func39 (by kernel_rfl) rfl #[.agg #[.int .i64 ((ag af dG).f0), .int .i64 ((ag af dG).f1), .int .i64 ((ag af dG).f2), .int .i64 ((ag af dG).f3), .slice uU ((ag af dG).f4).length uV]] rfl mp_ ?_; (with_reducible refine (ih k3 (by have := HJ1.out; have := HJ28.out; have := HK3.out; omega) ((ag af dG).f0) ((ag af dG).f1) ((ag af dG).f2) ((ag af dG).f3) _ _ ((ag af dG).f4) t110 _ ?az ?aA A41.out).mono ?_); (case az => exact Kd.aK Ac.out bl_); (case aA => exact Ad.out); rintro e w63 ⟨rfl, hb⟩; refine ⟨_, rfl, ?_⟩; replace dJ := aa.mk (dR (g := BK) (o := .cells #[.int .i64 ah, .int .i64 au, .int .i64 aj, .int .i64 ak, .slice (some F4) af.length aH] 24 (0, 0)) b5_ hb); replace uO := aa.mk (dR (g := zh) (o := .cells #[.int .i64 ((ag af dG).f0), .int .i64 ((ag af dG).f1), .int .i64 ((ag af dG).f2), .int .i64 ((ag af dG).f3), .slice uU ((ag af dG).f4).length uV] 24 (0, 0)) b5_ hb); replace HB := aa.mk (ai bl_ hb); (try clear hb); (try clear hb2); (try clear hk); (try clear hi)))
                go_ret; exact ⟨re_, bl_⟩
              ·rw [if_neg c40] at H; exact absurd H (by simp)
             ·rw [if_neg c39] at H; exact absurd H (by simp)
            ·rw [if_neg c38] at H; have JS := decide_eq_false c38; clear c38; obtain rfl := Option.some.inj H; go_wp2; go_ret; exact ⟨re_, bl_⟩
      ·rw [if_neg c28] at H; obtain ⟨JQ, c28b1⟩ := bn_ c28; by_cases c64 : ah = 6
       ·rw [if_pos c64] at H; obtain ⟨c64b0, c64b1⟩ := bq_ c64; clear c64; have HC65 := aa.mk H; clear H; obtain ⟨MP, MQ, MR, MS, MU, MV, MW, MX, MZ, M0⟩ := bg dJ.out; go_upto_region 22 with (first | ((with_reducible refine aD (f := 69) rfl ?_); refine aZ (some 17) rfl rfl Tryd.func69 (by kernel_rfl) rfl #[.agg #[.int .i64 ah, .int .i64 au, .int .i64 aj, .int .i64 ak, .slice aM af.length aH]] rfl mp_ ?_; (with_reducible refine (gD.calls ah au aj ak _ _ af false _ ?az ?aA A8.out).mono ?_); (case az => exact cb_ (Kd.aK bu.out HB.out)); (case aA => exact bU.out); rintro e w67 ⟨rfl, hb⟩; refine ⟨_, rfl, ?_⟩; replace dJ := kb_ dJ hb; replace HB := aa.mk (ai bl_ hb); (try clear hb); (try clear hb2); (try clear hk); (try clear hi); obtain ⟨hcz68_0, hcz68_1, hcz68_2, hcz68_3, hcz68_4, hfz68_0, hfz68_1, hfz68_2, hfz68_3, hfz68_4⟩ := bg dJ.out))
        (try simp only [Act.put, List.setIfInBounds_toArray, List.set_cons_zero, List.set_cons_succ])
        go_cut [79] (fun v79 wc => ∃ (kq : Nat) (JU : Bool), v79 = .bool JU ∧ aa (aN.j3 kq JU ah au aj ak af = some r) ∧ aa (kq ≤ kj1) ∧ aa (wc.heap[BK]? = some (.cells #[.int .i64 ah, .int .i64 au, .int .i64 aj, .int .i64 ak, (.slice aM af.length aH)] 24 (0, 0))) ∧ aa (Below w.heap.size w wc))
        case first =>
         have H := HC65.out; clear HC65; by_cases c69 : ak < 1
         ·rw [if_pos c69] at H; have Ea := decide_eq_true c69; clear c69; (first | rw [Ea] | (simp only [dS, ek]; rw [Ea]) | skip)
          have H' := aa.mk H; clear H; obtain ⟨hcz70_0, hcz70_1, hcz70_2, hcz70_3, hcz70_4, hfz70_0, hfz70_1, hfz70_2, hfz70_3, hfz70_4⟩ := bg dJ.out; go_wp2; go_meet
          case rel => exact ⟨_, (true), rs_, H', ⟨by have := HJ1.out; first | omega | exact Nat.le_refl _⟩, ⟨bk_⟩, ⟨bl_⟩⟩
         ·rw [if_neg c69] at H; have Ea := decide_eq_false c69; clear c69; (first | rw [Ea] | (simp only [dS, ek]; rw [Ea]) | skip)
          have H' := aa.mk H; clear H; obtain ⟨hcz71_0, hcz71_1, hcz71_2, hcz71_3, hcz71_4, hfz71_0, hfz71_1, hfz71_2, hfz71_3, hfz71_4⟩ := bg dJ.out; go_wp2; go_meet
          case rel => exact ⟨_, (decide (ak > 4)), rs_, H', ⟨by have := HJ1.out; first | omega | exact Nat.le_refl _⟩, ⟨bk_⟩, ⟨bl_⟩⟩
        case rest =>
         clear HC65; (try clear c1); (try clear p1); (try clear q1); (try clear hx1); (try clear c2); (try clear p2); (try clear c3); (try clear c4); (try clear nK); (try clear c5); (try clear c6); (try clear p6); (try clear c7); (try clear c9); (try clear c10); (try clear p10); (try clear q10); (try clear hx10); (try clear c12); (try clear uN); (try clear zf); (try clear c13); (try clear mV); (try clear c17); (try clear l8); (try clear c21); (try clear AZ); (try clear c28); (try clear JQ); (try clear c28b1); (try clear c33); (try clear Ba); (try clear c33b1); (try clear c36); (try clear c38); (try clear JS); (try clear c39); (try clear zg); (try clear c40); (try clear c40b0); (try clear c42); (try clear c42b0); (try clear c42b1); (try clear c43); (try clear c43b0); (try clear c43b1); (try clear c45); (try clear c49); (try clear Hl); (try clear Hm); (try clear c51); (try clear c56); (try clear c61); (try clear c64); (try clear c64b0); (try clear c64b1); (try clear p64); (try clear c69); (try clear Ea); (try clear uj uk um vJ vK uo uq uu vL vM); (try clear ja jb jc jd je jf jg jh ji jk); (try clear kC kD kE o8 o9 kF kG kH pg pq); (try clear mq mr mD og oh mE mF mG om oo); (try clear mH mI mJ oq ou mK mM mO ow oz); (try clear lF lG lH mP mQ lI lJ lK mR mU); (try clear xY xZ yc zA zB yf yg yh zC zD); (try clear vN vO vP vQ vR vS vT vU vV vW); (try clear tO tQ tT tV tX tY tZ uf ug uh); (try clear zF zG zH zI zJ zK zL zM zN zO); (try clear Cn Co Cq Cr Cs Ct Cu Cv Cw Cx); (try clear yj yl ym zP zQ yn yo yt zR zS); (try clear zT zU zV zW zX zY zZ z8 Aa Ab); (try clear qP qQ qR uw uy qU qV qW uz uA); (try clear Ph Pj Pk Pm Pn Po Pp Pq Ps Pt); (try clear G9 Ha Hd L9 Ma He Hf Hg Mc Md); (try clear Ho Hq Hr Ht Hu Hw Hy Hz HV HY); (try clear HZ H5 H6 H7 H8 H9 Ia Ib Ic Ie); (try clear Me Mf Mg Mh Mi Mj Mk Ml Mm Mo); (try clear Mq Mr Ms Mt Mv Mw Mx MB MC ME); (try clear CZ C8 C9 Da Db Dc De Df Dg Dh); (try clear MF MG MH MI MJ MK ML MM MN MO)
         (try clear MP MQ MR MS MU MV MW MX MZ M0); (try clear hcz68_0 hcz68_1 hcz68_2 hcz68_3 hcz68_4 hfz68_0 hfz68_1 hfz68_2 hfz68_3 hfz68_4); (try clear kV kW kX kY kZ lg lh ll lq lu); (try clear hcz70_0 hcz70_1 hcz70_2 hcz70_3 hcz70_4 hfz70_0 hfz70_1 hfz70_2 hfz70_3 hfz70_4); (try clear hcz71_0 hcz71_1 hcz71_2 hcz71_3 hcz71_4 hfz71_0 hfz71_1 hfz71_2 hfz71_3 hfz71_4); (try clear pz); (try clear pE); (try clear pF); (try clear pG); (try clear pI); (try clear xm); (try clear p2); (try clear xn); obtain ⟨kq, JU, rfl, HA, HJ64, dJ, HB⟩ := hcut; cases kq with
         | zero => exact absurd HA.out (by simp [aN.j3])
         | succ kj64 =>
          have H := HA.out; clear HA; simp only [aN.j3] at H; by_cases c72 : JU = true
          ·subst c72; have H1 : (some 1) = some r := by rw [if_pos rfl] at H; exact H
           clear H; have H := H1; clear H1; obtain rfl := Option.some.inj H; go_wp2; go_ret; exact ⟨re_, bl_⟩
          ·replace c72 := Bool.eq_false_iff.mpr c72; subst c72; have H1 : (if (af.length : Int) = 1 then (if 0 < (af.length : Int) then ((aN.f kj64 ((ag af 0).f0) ((ag af 0).f1) ((ag af 0).f2) ((ag af 0).f3) ((ag af 0).f4)).bind fun t112 => (if t112 = 0 then (if ((ag af 0).f0) = 1 then (some 0) else (if ((ag af 0).f0) = 2 then (some 0) else (some 8))) else (some t112))) else (none)) else (some 2)) = some r := by rw [if_neg (show ¬ (false = true) by decide)] at H; exact H
           clear H; have H := H1; clear H1; by_cases c73 : (af.length : Int) = 1
           ·rw [if_pos c73] at H; obtain ⟨c73b0, c73b1⟩ := bq_ c73; clear c73; by_cases c74 : 0 < (af.length : Int)
            ·rw [if_pos c74] at H; have c74b0 := decide_eq_true c74; have c74b1 : decide (0 < af.length) = true := decide_eq_true (by omega); clear c74; replace H := Option.bind_eq_some_iff.mp H; obtain ⟨t112, A750, H⟩ := H; (try dsimp only at H)
             have A75 := aa.mk A750; clear A750; by_cases c76 : t112 = 0
             ·rw [if_pos c76] at H; obtain ⟨c76b0, c76b1⟩ := bq_ c76; clear c76; by_cases c77 : ((ag af 0).f0) = 1
              ·rw [if_pos c77] at H; obtain ⟨c77b0, c77b1⟩ := bq_ c77; clear c77; obtain rfl := Option.some.inj H; obtain ⟨hcz78_0, hcz78_1, hcz78_2, hcz78_3, hcz78_4, hfz78_0, hfz78_1, hfz78_2, hfz78_3, hfz78_4⟩ := bg dJ.out; have xH : 0 ≤ (0 : Int) := (by omega); have xI : 0 < (af.length : Int) := dt_; obtain ⟨Ig, Di, Dj, e111, lL, lM, lN, lQ, lS, qZ, q8⟩ := dZ bu.out 0 xH xI; cases e111; have qi111 : (0 < af.length) = True := eq_true (by omega); (try simp only [z0_, Nat.zero_mul, Addr.add_zero'] at lL lM lN lQ lS)
               replace lL := hc_ HB lL; replace lM := hc_ HB lM; replace lN := hc_ HB lN; replace lQ := hc_ HB lQ; replace lS := hc_ HB lS; have Ae := aa.mk q8; have Af := aa.mk qZ; clear q8 qZ; replace xH := eq_true xH; replace xI := eq_true xI; go_wp2_with (first | ((with_reducible refine aD (f := 39) rfl ?_); refine aZ (some 88) rfl rfl Tryd.func39 (by kernel_rfl) rfl #[.agg #[.int .i64 ((ag af 0).f0), .int .i64 ((ag af 0).f1), .int .i64 ((ag af 0).f2), .int .i64 ((ag af 0).f3), .slice Di ((ag af 0).f4).length Dj]] rfl mp_ ?_; (with_reducible refine (ih kj64 (by have := HJ1.out; have := HJ64.out; omega) ((ag af 0).f0) ((ag af 0).f1) ((ag af 0).f2) ((ag af 0).f3) _ _ ((ag af 0).f4) t112 _ ?az ?aA A75.out).mono ?_); (case az => exact cb_ (Kd.aK Ae.out HB.out)); (case aA => exact Af.out); rintro e w79 ⟨rfl, hb⟩; refine ⟨_, rfl, ?_⟩; replace dJ := kb_ dJ hb; replace HB := aa.mk (ai bl_ hb); (try clear hb); (try clear hb2); (try clear hk); (try clear hi); obtain ⟨hcz80_0, hcz80_1, hcz80_2, hcz80_3, hcz80_4, hfz80_0, hfz80_1, hfz80_2, hfz80_3, hfz80_4⟩ := bg dJ.out; have Dk : 0 ≤ (0 : Int) := (by omega); have Dl : 0 < (af.length : Int) := dt_; obtain ⟨JV, A113_4, c113_4, e113, q9, rf, rq, ru, ry, yu, yw⟩ := dZ bu.out 0 Dk Dl; obtain rfl : Ig = JV := (by injection e113); have qi113 : (0 < af.length) = True := eq_true (by omega); (try simp only [z0_, Nat.zero_mul, Addr.add_zero'] at q9); (try simp only [z0_, Nat.zero_mul, Addr.add_zero'] at rf); (try simp only [z0_, Nat.zero_mul, Addr.add_zero'] at rq); (try simp only [z0_, Nat.zero_mul, Addr.add_zero'] at ru); (try simp only [z0_, Nat.zero_mul, Addr.add_zero'] at ry); replace q9 := hc_ HB q9; replace rf := hc_ HB rf; replace rq := hc_ HB rq; replace ru := hc_ HB ru; replace ry := hc_ HB ry; have Pv := aa.mk yw; have Pw := aa.mk yu; clear yw yu; replace Dk := eq_true Dk; replace Dl := eq_true Dl))
               go_ret; exact ⟨re_, bl_⟩
              ·rw [if_neg c77] at H; obtain ⟨c77b0, c77b1⟩ := bn_ c77; by_cases c81 : ((ag af 0).f0) = 2
               ·rw [if_pos c81] at H; obtain ⟨c81b0, c81b1⟩ := bq_ c81; clear c81; obtain rfl := Option.some.inj H; obtain ⟨hcz82_0, hcz82_1, hcz82_2, hcz82_3, hcz82_4, hfz82_0, hfz82_1, hfz82_2, hfz82_3, hfz82_4⟩ := bg dJ.out; have xH : 0 ≤ (0 : Int) := (by omega); have xI : 0 < (af.length : Int) := dt_; obtain ⟨Ig, Di, Dj, e111, lL, lM, lN, lQ, lS, qZ, q8⟩ := dZ bu.out 0 xH xI; cases e111; have qi111 : (0 < af.length) = True := eq_true (by omega); (try simp only [z0_, Nat.zero_mul, Addr.add_zero'] at lL lM lN lQ lS)
                replace lL := hc_ HB lL; replace lM := hc_ HB lM; replace lN := hc_ HB lN; replace lQ := hc_ HB lQ; replace lS := hc_ HB lS; have Ae := aa.mk q8; have Af := aa.mk qZ; clear q8 qZ; replace xH := eq_true xH; replace xI := eq_true xI; go_wp2_with (first | ((with_reducible refine aD (f := 39) rfl ?_); refine aZ (some 88) rfl rfl Tryd.func39 (by kernel_rfl) rfl #[.agg #[.int .i64 ((ag af 0).f0), .int .i64 ((ag af 0).f1), .int .i64 ((ag af 0).f2), .int .i64 ((ag af 0).f3), .slice Di ((ag af 0).f4).length Dj]] rfl mp_ ?_; (with_reducible refine (ih kj64 (by have := HJ1.out; have := HJ64.out; omega) ((ag af 0).f0) ((ag af 0).f1) ((ag af 0).f2) ((ag af 0).f3) _ _ ((ag af 0).f4) t112 _ ?az ?aA A75.out).mono ?_); (case az => exact cb_ (Kd.aK Ae.out HB.out)); (case aA => exact Af.out); rintro e w83 ⟨rfl, hb⟩; refine ⟨_, rfl, ?_⟩; replace dJ := kb_ dJ hb; replace HB := aa.mk (ai bl_ hb); (try clear hb); (try clear hb2); (try clear hk); (try clear hi); obtain ⟨hcz84_0, hcz84_1, hcz84_2, hcz84_3, hcz84_4, hfz84_0, hfz84_1, hfz84_2, hfz84_3, hfz84_4⟩ := bg dJ.out; have Dk : 0 ≤ (0 : Int) := (by omega); have Dl : 0 < (af.length : Int) := dt_; obtain ⟨JV, A113_4, c113_4, e113, q9, rf, rq, ru, ry, yu, yw⟩ := dZ bu.out 0 Dk Dl; obtain rfl : Ig = JV := (by injection e113); have qi113 : (0 < af.length) = True := eq_true (by omega); (try simp only [z0_, Nat.zero_mul, Addr.add_zero'] at q9); (try simp only [z0_, Nat.zero_mul, Addr.add_zero'] at rf); (try simp only [z0_, Nat.zero_mul, Addr.add_zero'] at rq); (try simp only [z0_, Nat.zero_mul, Addr.add_zero'] at ru); (try simp only [z0_, Nat.zero_mul, Addr.add_zero'] at ry); replace q9 := hc_ HB q9; replace rf := hc_ HB rf; replace rq := hc_ HB rq; replace ru := hc_ HB ru; replace ry := hc_ HB ry; have Pv := aa.mk yw; have Pw := aa.mk yu; clear yw yu; replace Dk := eq_true Dk; replace Dl := eq_true Dl))
                go_ret; exact ⟨re_, bl_⟩
               ·rw [if_neg c81] at H; obtain ⟨c81b0, c81b1⟩ := bn_ c81; obtain rfl := Option.some.inj H; obtain ⟨hcz85_0, hcz85_1, hcz85_2, hcz85_3, hcz85_4, hfz85_0, hfz85_1, hfz85_2, hfz85_3, hfz85_4⟩ := bg dJ.out; have xH : 0 ≤ (0 : Int) := (by omega); have xI : 0 < (af.length : Int) := dt_; obtain ⟨Ig, Di, Dj, e111, lL, lM, lN, lQ, lS, qZ, q8⟩ := dZ bu.out 0 xH xI; cases e111; have qi111 : (0 < af.length) = True := eq_true (by omega); (try simp only [z0_, Nat.zero_mul, Addr.add_zero'] at lL lM lN lQ lS)
                replace lL := hc_ HB lL; replace lM := hc_ HB lM; replace lN := hc_ HB lN; replace lQ := hc_ HB lQ; replace lS := hc_ HB lS; have Ae := aa.mk q8; have Af := aa.mk qZ; clear q8 qZ; replace xH := eq_true xH; replace xI := eq_true xI; go_wp2_with (first | ((with_reducible refine aD (f := 39) rfl ?_); refine aZ (some 88) rfl rfl Tryd.func39 (by kernel_rfl) rfl #[.agg #[.int .i64 ((ag af 0).f0), .int .i64 ((ag af 0).f1), .int .i64 ((ag af 0).f2), .int .i64 ((ag af 0).f3), .slice Di ((ag af 0).f4).length Dj]] rfl mp_ ?_; (with_reducible refine (ih kj64 (by have := HJ1.out; have := HJ64.out; omega) ((ag af 0).f0) ((ag af 0).f1) ((ag af 0).f2) ((ag af 0).f3) _ _ ((ag af 0).f4) t112 _ ?az ?aA A75.out).mono ?_); (case az => exact cb_ (Kd.aK Ae.out HB.out)); (case aA => exact Af.out); rintro e w86 ⟨rfl, hb⟩; refine ⟨_, rfl, ?_⟩; replace dJ := kb_ dJ hb; replace HB := aa.mk (ai bl_ hb); (try clear hb); (try clear hb2); (try clear hk); (try clear hi); obtain ⟨hcz87_0, hcz87_1, hcz87_2, hcz87_3, hcz87_4, hfz87_0, hfz87_1, hfz87_2, hfz87_3, hfz87_4⟩ := bg dJ.out; have Dk : 0 ≤ (0 : Int) := (by omega); have Dl : 0 < (af.length : Int) := dt_; obtain ⟨JV, A113_4, c113_4, e113, q9, rf, rq, ru, ry, yu, yw⟩ := dZ bu.out 0 Dk Dl; obtain rfl : Ig = JV := (by injection e113); have qi113 : (0 < af.length) = True := eq_true (by omega); (try simp only [z0_, Nat.zero_mul, Addr.add_zero'] at q9); (try simp only [z0_, Nat.zero_mul, Addr.add_zero'] at rf); (try simp only [z0_, Nat.zero_mul, Addr.add_zero'] at rq); (try simp only [z0_, Nat.zero_mul, Addr.add_zero'] at ru); (try simp only [z0_, Nat.zero_mul, Addr.add_zero'] at ry); replace q9 := hc_ HB q9; replace rf := hc_ HB rf; replace rq := hc_ HB rq; replace ru := hc_ HB ru; replace ry := hc_ HB ry; have Pv := aa.mk yw; have Pw := aa.mk yu; clear yw yu; replace Dk := eq_true Dk; replace Dl := eq_true Dl))
                go_ret; exact ⟨re_, bl_⟩
             ·rw [if_neg c76] at H; obtain ⟨c76b0, c76b1⟩ := bn_ c76; obtain rfl := Option.some.inj H; obtain ⟨hcz88_0, hcz88_1, hcz88_2, hcz88_3, hcz88_4, hfz88_0, hfz88_1, hfz88_2, hfz88_3, hfz88_4⟩ := bg dJ.out; have xH : 0 ≤ (0 : Int) := (by omega); have xI : 0 < (af.length : Int) := dt_; obtain ⟨Ig, Di, Dj, e111, lL, lM, lN, lQ, lS, qZ, q8⟩ := dZ bu.out 0 xH xI; cases e111; have qi111 : (0 < af.length) = True := eq_true (by omega); (try simp only [z0_, Nat.zero_mul, Addr.add_zero'] at lL lM lN lQ lS)
              replace lL := hc_ HB lL; replace lM := hc_ HB lM; replace lN := hc_ HB lN; replace lQ := hc_ HB lQ; replace lS := hc_ HB lS; have Ae := aa.mk q8; have Af := aa.mk qZ; clear q8 qZ; replace xH := eq_true xH; replace xI := eq_true xI; go_wp2_with (first | ((with_reducible refine aD (f := 39) rfl ?_); refine aZ (some 88) rfl rfl Tryd.func39 (by kernel_rfl) rfl #[.agg #[.int .i64 ((ag af 0).f0), .int .i64 ((ag af 0).f1), .int .i64 ((ag af 0).f2), .int .i64 ((ag af 0).f3), .slice Di ((ag af 0).f4).length Dj]] rfl mp_ ?_; (with_reducible refine (ih kj64 (by have := HJ1.out; have := HJ64.out; omega) ((ag af 0).f0) ((ag af 0).f1) ((ag af 0).f2) ((ag af 0).f3) _ _ ((ag af 0).f4) t112 _ ?az ?aA A75.out).mono ?_); (case az => exact cb_ (Kd.aK Ae.out HB.out)); (case aA => exact Af.out); rintro e w89 ⟨rfl, hb⟩; refine ⟨_, rfl, ?_⟩; replace dJ := kb_ dJ hb; replace HB := aa.mk (ai bl_ hb); (try clear hb); (try clear hb2); (try clear hk); (try clear hi)))
              go_ret; exact ⟨re_, bl_⟩
            ·rw [if_neg c74] at H; exact absurd H (by simp)
           ·rw [if_neg c73] at H; obtain ⟨c73b0, c73b1⟩ := bn_ c73; obtain rfl := Option.some.inj H; obtain ⟨hcz90_0, hcz90_1, hcz90_2, hcz90_3, hcz90_4, hfz90_0, hfz90_1, hfz90_2, hfz90_3, hfz90_4⟩ := bg dJ.out; go_wp2; go_ret; exact ⟨re_, bl_⟩
       ·rw [if_neg c64] at H; obtain ⟨c64b0, c64b1⟩ := bn_ c64; obtain rfl := Option.some.inj H; obtain ⟨hcz91_0, hcz91_1, hcz91_2, hcz91_3, hcz91_4, hfz91_0, hfz91_1, hfz91_2, hfz91_3, hfz91_4⟩ := bg dJ.out; go_wp2_with (first | ((with_reducible refine aD (f := 69) rfl ?_); refine aZ (some 17) rfl rfl Tryd.func69 (by kernel_rfl) rfl #[.agg #[.int .i64 ah, .int .i64 au, .int .i64 aj, .int .i64 ak, .slice aM af.length aH]] rfl mp_ ?_; (with_reducible refine (gD.calls ah au aj ak _ _ af false _ ?az ?aA A8.out).mono ?_); (case az => exact cb_ (Kd.aK bu.out HB.out)); (case aA => exact bU.out); rintro e w92 ⟨rfl, hb⟩; refine ⟨_, rfl, ?_⟩; replace dJ := kb_ dJ hb; replace HB := aa.mk (ai bl_ hb); (try clear hb); (try clear hb2); (try clear hk); (try clear hi); obtain ⟨hcz93_0, hcz93_1, hcz93_2, hcz93_3, hcz93_4, hfz93_0, hfz93_1, hfz93_2, hfz93_3, hfz93_4⟩ := bg dJ.out))
        go_ret; exact ⟨re_, bl_⟩

end Go.Proofs.YtggelekooacmnaaDoor.Q
namespace Go.Proofs.YtggelekooacmnaaDoor.Q
open Go.RowKit Go.Proofs.YtggelekooacmnaaDoorW.aU Go.Proofs.YtggelekooacmnaaDoorW.bD Go.Proofs.YtggelekooacmnaaDoorW.bH
attribute [local go_sem] dB dC dN dO cO cZ dD dE   -- for this text's walks alone
set_option linter.unusedVariables false
set_option linter.unusedSimpArgs false

/-! ### bP: function 40 -/
mutual
def bP.l0 : Nat → Int → List (S24) → Int → Int → Option (Int)
 | 0, _, _, _, _ => none
 | k + 1, x3, x11, x12, x13 => if x13 < x12 then (if 0 ≤ x13 then (if x13 < (x11.length : Int) then ((bP.f k ((ag x11 x13).f0) ((ag x11 x13).f1) ((ag x11 x13).f2) ((ag x11 x13).f3) ((ag x11 x13).f4)).bind fun t117 => (bP.l0 k (wrap64 (x3 + t117)) x11 x12 (wrap64 (x13 + 1)))) else (none)) else (none)) else (some x3)
def bP.f : Nat → Int → Int → Int → Int → List (S24) → Option (Int)
 | 0, _, _, _, _, _ => none
 | k + 1, ah, au, aj, ak, af => if ah = 5 then (bP.l0 k 0 af (af.length : Int) 0) else (if ah = 6 then (if 0 < (af.length : Int) then ((bP.f k ((ag af 0).f0) ((ag af 0).f1) ((ag af 0).f2) ((ag af 0).f3) ((ag af 0).f4)).bind fun t119 => (some (wrap64 (1 + (wrap64 (ak * t119)))))) else (none)) else (some 1))
end
theorem bP.fA : ∀ k, (∀ y0 y1 y2 y3 y4, LeO (bP.f k y0 y1 y2 y3 y4) (bP.f (k + 1) y0 y1 y2 y3 y4)) ∧ (∀ y0 y1 y2 y3, LeO (bP.l0 k y0 y1 y2 y3) (bP.l0 (k + 1) y0 y1 y2 y3))
 | 0 => ⟨fun _ _ _ _ _ r h => by simp [bP.f] at h, fun _ _ _ _ r h => by simp [bP.l0] at h⟩
 | k + 1 => by
  obtain ⟨ih0, ih1⟩ := bP.fA k; refine ⟨?_, ?_⟩
  ·intro y0 y1 y2 y3 y4; unfold bP.f; repeat' first
   | (with_reducible exact ih0 _ _ _ _ _)
   | (with_reducible exact ih1 _ _ _ _)
   | (with_reducible exact LeO.refl _)
   | (with_reducible exact LeO.none _)
   | (with_reducible refine LeO.ite ?_ ?_)
   | (with_reducible refine LeO.bind ?_ (fun _ => ?_))
   | exact ih0 _ _ _ _ _
   | exact ih1 _ _ _ _
   | exact LeO.none _
   | refine LeO.ite ?_ ?_
   | refine LeO.bind ?_ (fun _ => ?_)
  ·intro y0 y1 y2 y3; unfold bP.l0; repeat' first
   | (with_reducible exact ih0 _ _ _ _ _)
   | (with_reducible exact ih1 _ _ _ _)
   | (with_reducible exact LeO.refl _)
   | (with_reducible exact LeO.none _)
   | (with_reducible refine LeO.ite ?_ ?_)
   | (with_reducible refine LeO.bind ?_ (fun _ => ?_))
   | exact ih0 _ _ _ _ _
   | exact ih1 _ _ _ _
   | exact LeO.none _
   | refine LeO.ite ?_ ?_
   | refine LeO.bind ?_ (fun _ => ?_)
theorem bP.mono : ∀ a0 a1 a2 a3 a4 k, LeO (bP.f k a0 a1 a2 a3 a4) (bP.f (k + 1) a0 a1 a2 a3 a4) := by
 intro a0 a1 a2 a3 a4 k; obtain ⟨ih0, ih1⟩ := bP.fA k; exact ih0 a0 a1 a2 a3 a4
def bP.T11 : Bool × List (List Nat × List Nat) := (true, [([], []), ([0], [0]), ([], []), ([2], [2]), ([3], [3]), ([4], [4]), ([5], [5]), ([1, 6], [1, 6]), ([7], [7]), ([8, 6, 0, 1, 2, 3, 4, 5, 6, 7, 8], [8])])
def bP.B11 : List Nat := [0, 1, 0, 4, 12, 28, 60, 127, 255, 511]
theorem bP.JW : jG .any (opsOf Tryd.f40 11) = bP.T11 := by kernel_rfl
theorem bP.GG : mo bP.T11.2 bP.B11 = true := by kernel_rfl
set_option maxHeartbeats 8000000 in
set_option maxRecDepth 100000 in
theorem bP.calls (k : Nat) : ∀ (ah : Int) (au : Int) (aj : Int) (ak : Int) (aM : Option Addr) (aH : Nat) (af : List (S24)) (r : Int) (w : World) (di : Kd.C k24 w aM af.length af) (dm : af.length ≤ aH) (h : bP.f k ah au aj ak af = some r),
  Calls Tryd.prog 40 #[.agg #[.int .i64 ah, .int .i64 au, .int .i64 aj, .int .i64 ak, .slice aM af.length aH]] w fun e w' => e = .returned (.int .i64 r) ∧ Below w.heap.size w w' := by
 induction k using Nat.strongRecOn with
 | _ k ih =>
 intro ah au aj ak aM aH af r w di dm h; cases k with
 | zero => exact absurd h (by simp [bP.f])
 | succ k =>
 simp only [bP.f] at h; have mg := Tryd.underlying24; have bu := aa.mk di; have bU := aa.mk dm; clear di dm; have HB := aa.mk (Below.refl w.heap.size w); have H : (if ah = 5 then (bP.l0 k 0 af (af.length : Int) 0) else (if ah = 6 then (if 0 < (af.length : Int) then ((bP.f k ((ag af 0).f0) ((ag af 0).f1) ((ag af 0).f2) ((ag af 0).f3) ((ag af 0).f4)).bind fun t119 => (some (wrap64 (1 + (wrap64 (ak * t119)))))) else (none)) else (some 1))) = some r := h; clear h; by_cases c2 : ah = 5
 ·rw [if_pos c2] at H; obtain ⟨iZ, kR⟩ := bq_ c2; clear c2; have H' := aa.mk H; clear H; go_enter Tryd.func40, Tryd.ntmps40; go_wp2_with (first | ((with_reducible refine aW (N := 1) rfl ?_); refine bf ?hg (N := 1) ?hd (cs := #[.int .i64 ah, .int .i64 au, .int .i64 aj, .int .i64 ak, .slice aM af.length aH]) (t := 24) ?hr ?_; (case hd => rfl); (case hg => rfl); (case hr => first | (go_simp; done) | (go_simp; rfl)); intro xC hg w3 aG hb; have jB := aa.mk (aG); have JX : aa (w.heap.size ≤ xC) := gw_ hg (ax bl_); have GE114 := JX; replace HB := aa.mk (ai bl_ hb); clear hb aG hg; obtain ⟨iA, iB, iC, iD, iE, iF, iG, iH, iI, iJ⟩ := bg jB.out))
  go_loopg [3, 13] k (fun kq v3 v13 w' => ∃ (dL : Int) (jK : Int), v3 = .int .i64 dL ∧ v13 = .int .i64 jK ∧ aa (bP.l0 kq dL af (af.length : Int) jK = some r) ∧ aa (kq ≤ k) ∧ aa (w'.heap[xC]? = some (.cells #[.int .i64 ah, .int .i64 au, .int .i64 aj, .int .i64 ak, (.slice aM af.length aH)] 24 (0, 0))) ∧ aa (Below w.heap.size w w'))
  case atStart => exact ⟨(0), (0), rs_, rs_, H', ⟨Nat.le_refl _⟩, ⟨bk_⟩, ⟨bl_⟩⟩
  case round =>
   clear H'; (try clear c2); (try clear iZ); (try clear kR); (try clear p2); (try clear c4); (try clear iA iB iC iD iE iF iG iH iI iJ); obtain ⟨dL, jK, rfl, rfl, HA, HK1, jB, HB⟩ := hrel; cases gk with
   | zero => exact absurd HA.out (by simp [bP.l0])
   | succ k1 =>
    have H := HA.out; clear HA; simp only [bP.l0] at H; by_cases c5 : jK < (af.length : Int)
    ·rw [if_pos c5] at H; have gQ := decide_eq_true c5; clear c5; by_cases c6 : 0 ≤ jK
     ·rw [if_pos c6] at H; have uT := decide_eq_true c6; clear c6; by_cases c7 : jK < (af.length : Int)
      ·rw [if_pos c7] at H; have jM := decide_eq_true c7; clear c7; replace H := Option.bind_eq_some_iff.mp H; obtain ⟨t117, A80, H⟩ := H; (try dsimp only at H)
       have A8 := aa.mk A80; clear A80; have H' := aa.mk H; clear H; have p115 : 0 ≤ (jK : Int) := dt_; have q115 : jK < (af.length : Int) := dt_; obtain ⟨ad115, A115_4, c115_4, e115, Px, Py, Pz, PD, PE, PG, PH⟩ := dZ bu.out jK p115 q115; cases e115; replace Px := hc_ HB Px; replace Py := hc_ HB Py; replace Pz := hc_ HB Pz; replace PD := hc_ HB PD; replace PE := hc_ HB PE; have HR115_4 := aa.mk PH; have HC115_4 := aa.mk PG; clear PH PG; replace p115 := eq_true p115; replace q115 := eq_true q115; go_wp2_with (first | ((with_reducible refine aW (N := 5) rfl ?_); refine bf ?hg (N := 5) ?hd (cs := #[.int .i64 0, .int .i64 0, .int .i64 0, .int .i64 0, .slice none 0 0]) (t := 24) ?hr ?_; (case hd => rfl); (case hg => rfl); (case hr => first | (go_simp; done) | (go_simp; rfl)); intro gb116 hg w9 aG hb; have BK116 := aa.mk (aG); have GW116 : aa (w.heap.size ≤ gb116) := gw_ hg (ax bl_); have GE116 := GW116; have SI := nl_ jB hg; have SK := ng_ jB hg; replace jB := kb_ jB hb; replace HB := aa.mk (ai bl_ hb); clear hb aG hg; have hnb10 := SK.out; have hnc10 := SI.out; obtain ⟨jO, jP, jQ, ku, kv, jR, jS, jT, ky, kz⟩ := bg BK116.out) | ((with_reducible refine aD (f := 40) rfl ?_); refine aZ (some 19) rfl rfl Tryd.func40 (by kernel_rfl) rfl #[.agg #[.int .i64 ((ag af jK).f0), .int .i64 ((ag af jK).f1), .int .i64 ((ag af jK).f2), .int .i64 ((ag af jK).f3), .slice A115_4 ((ag af jK).f4).length c115_4]] rfl mp_ ?_; (with_reducible refine (ih k1 (by have := HK1.out; omega) ((ag af jK).f0) ((ag af jK).f1) ((ag af jK).f2) ((ag af jK).f3) _ _ ((ag af jK).f4) t117 _ ?az ?aA A8.out).mono ?_); (case az => exact Kd.aK HR115_4.out bl_); (case aA => exact HC115_4.out); rintro e w12 ⟨rfl, hb⟩; refine ⟨_, rfl, ?_⟩; replace jB := aa.mk (dR (g := xC) (o := .cells #[.int .i64 ah, .int .i64 au, .int .i64 aj, .int .i64 ak, .slice (some ad115) af.length aH] 24 (0, 0)) b5_ hb); replace BK116 := aa.mk (dR (g := gb116) (o := .cells #[.int .i64 ((ag af jK).f0), .int .i64 ((ag af jK).f1), .int .i64 ((ag af jK).f2), .int .i64 ((ag af jK).f3), .slice A115_4 ((ag af jK).f4).length c115_4] 24 (0, 0)) b5_ hb); replace HB := aa.mk (ai bl_ hb); (try clear hb); (try clear hb2); (try clear hk); (try clear hi)))
       go_roundg k1
       case measure => have := HK1.out; omega
       case rel => exact ⟨(wrap64 (dL + t117)), (wrap64 (jK + 1)), rs_, rs_, H', ⟨by have := HK1.out; omega⟩, ⟨bk_⟩, ⟨bl_⟩⟩
      ·rw [if_neg c7] at H; exact absurd H (by simp)
     ·rw [if_neg c6] at H; exact absurd H (by simp)
    ·rw [if_neg c5] at H; have gQ := decide_eq_false c5; clear c5; obtain rfl := Option.some.inj H; go_wp2; go_ret; exact ⟨re_, bl_⟩
 ·rw [if_neg c2] at H; obtain ⟨iZ, kR⟩ := bn_ c2; by_cases c13 : ah = 6
  ·rw [if_pos c13] at H; obtain ⟨mV, c13b1⟩ := bq_ c13; clear c13; by_cases c14 : 0 < (af.length : Int)
   ·rw [if_pos c14] at H; have AY := decide_eq_true c14; have JP : decide (0 < af.length) = true := decide_eq_true (by omega); clear c14; replace H := Option.bind_eq_some_iff.mp H; obtain ⟨t119, A150, H⟩ := H; (try dsimp only at H)
    have A15 := aa.mk A150; clear A150; obtain rfl := Option.some.inj H; go_enter Tryd.func40, Tryd.ntmps40; try go_wp2_with (first | ((with_reducible refine aW (N := 1) rfl ?_); refine bf ?hg (N := 1) ?hd (cs := #[.int .i64 ah, .int .i64 au, .int .i64 aj, .int .i64 ak, .slice aM af.length aH]) (t := 24) ?hr ?_; (case hd => rfl); (case hg => rfl); (case hr => first | (go_simp; done) | (go_simp; rfl)); intro xC hg w16 aG hb; have jB := aa.mk (aG); have JX : aa (w.heap.size ≤ xC) := gw_ hg (ax bl_); have GE114 := JX; replace HB := aa.mk (ai bl_ hb); clear hb aG hg; obtain ⟨mW, mX, mY, mZ, ng, ni, nk, nu, ny, nz⟩ := bg jB.out))
    replace jB := aa.mk (dz jB.out); replace HB := aa.mk (bR HB.out); have p118 : 0 ≤ (0 : Int) := (by omega); have q118 : 0 < (af.length : Int) := dt_; obtain ⟨Bb, A118_4, c118_4, e118, ED, EE, EF, EG, EH, PI, PK⟩ := dZ bu.out 0 p118 q118; have EI := EH; (try simp only [z0_, Nat.zero_mul, Addr.add_zero'] at EI)
    have EJ := EG; (try simp only [z0_, Nat.zero_mul, Addr.add_zero'] at EJ)
    have EK := EF; (try simp only [z0_, Nat.zero_mul, Addr.add_zero'] at EK)
    have EL := EE; (try simp only [z0_, Nat.zero_mul, Addr.add_zero'] at EL)
    have EM := ED; (try simp only [z0_, Nat.zero_mul, Addr.add_zero'] at EM)
    cases e118; have qi118 : (0 < af.length) = True := eq_true (by omega); (try simp only [z0_, Nat.zero_mul, Addr.add_zero'] at ED EE EF EG EH)
    replace ED := hc_ HB ED; replace EE := hc_ HB EE; replace EF := hc_ HB EF; replace EG := hc_ HB EG; replace EH := hc_ HB EH; have PL := aa.mk PK; have HC118_4 := aa.mk PI; clear PK PI; replace p118 := eq_true p118; replace q118 := eq_true q118; refine oG (n := 10) (S := fun w' => w'.cell? ⟨xC, 0, none⟩ = some (.int .i64 ah) ∧ w'.cell? ⟨xC, 1, none⟩ = some (.int .i64 au) ∧ w'.cell? ⟨xC, 2, none⟩ = some (.int .i64 aj) ∧ w'.cell? ⟨xC, 3, none⟩ = some (.int .i64 ak) ∧ w'.cell? ⟨xC, 4, none⟩ = some (.slice (some Bb) af.length aH) ∧ w'.cell? Bb = some (.int .i64 ((ag af 0).f0)) ∧ w'.cell? ⟨Bb.block, Bb.off + 1, none⟩ = some (.int .i64 ((ag af 0).f1)) ∧ w'.cell? ⟨Bb.block, Bb.off + 2, none⟩ = some (.int .i64 ((ag af 0).f2)) ∧ w'.cell? ⟨Bb.block, Bb.off + 3, none⟩ = some (.int .i64 ((ag af 0).f3)) ∧ w'.cell? ⟨Bb.block, Bb.off + 4, none⟩ = some (.slice A118_4 ((ag af 0).f4).length c118_4)) (ds := []) #[false, false, false, false, false, false, false, false, false, false] (by kernel_rfl) rfl rfl ⟨(av jB.out 0).trans rfl, (av jB.out 1).trans rfl, (av jB.out 2).trans rfl, (av jB.out 3).trans rfl, (av jB.out 4).trans rfl, ((HB.out.cell (World.block_lt_of_cell? w _ EM)).trans EM), ((HB.out.cell (World.block_lt_of_cell? w _ EL)).trans EL), ((HB.out.cell (World.block_lt_of_cell? w _ EK)).trans EK), ((HB.out.cell (World.block_lt_of_cell? w _ EJ)).trans EJ), ((HB.out.cell (World.block_lt_of_cell? w _ EI)).trans EI)⟩ (fun hHeld => ?_); refine iV bP.JW bP.GG (fun HT_ HW_ => ?_)
    generalize w16.drew = w18 at jB HB PL ED EE EF EG EH hHeld ⊢
    refine pu_ HT_ 0 25 (bm 10 1) ?_
    refine pu_ HT_ 2 27 (bm 10 5) ?_
    refine ta_ HT_ HW_ 1 26 (bm 10 7) hHeld ?_
    refine ta_ HT_ HW_ 3 28 (bm 10 15) hHeld ?_
    refine pu_ HT_ 4 29 (bm 10 31) ?_
    refine ta_ HT_ HW_ 5 30 (bm 10 63) hHeld ?_
    refine kQ (i := 6) (N := some 31) #[true, true, true, true, true, true, true, false, false, false] rfl rfl (gK HT_.out (by kernel_rfl)) (by decide) (fun K hK => ?_)
    refine iU Tryd.func40 (by kernel_rfl) rfl #[.agg #[.int .i64 ((ag af 0).f0), .int .i64 ((ag af 0).f1), .int .i64 ((ag af 0).f2), .int .i64 ((ag af 0).f3), .slice A118_4 ((ag af 0).f4).length c118_4]] (by rfl) rfl rfl mp_ ?_
    with_reducible refine (ih k (by omega) ((ag af 0).f0) ((ag af 0).f1) ((ag af 0).f2) ((ag af 0).f3) _ _ ((ag af 0).f4) t119 _ ?az ?aA A15.out).mono ?_
    (case az => exact cb_ (Kd.aK PL.out HB.out))
    (case aA => exact HC118_4.out)
    rintro e w19 ⟨rfl, hb⟩
    refine ⟨_, rfl, ?_⟩
    replace jB := kb_ jB hb; replace HB := aa.mk (ai bl_ hb); (try clear hb)
    (try clear hb2)
    (try clear hk)
    (try clear hi)
    refine hK.out _ _ ⟨(av jB.out 0).trans rfl, (av jB.out 1).trans rfl, (av jB.out 2).trans rfl, (av jB.out 3).trans rfl, (av jB.out 4).trans rfl, ((HB.out.cell (World.block_lt_of_cell? w _ EM)).trans EM), ((HB.out.cell (World.block_lt_of_cell? w _ EL)).trans EL), ((HB.out.cell (World.block_lt_of_cell? w _ EK)).trans EK), ((HB.out.cell (World.block_lt_of_cell? w _ EJ)).trans EJ), ((HB.out.cell (World.block_lt_of_cell? w _ EI)).trans EI)⟩ (fun hHeld => ?_)
    clear hK K; refine iT (a' := ?_) ?_ ?_
    rotate_left
    ·show Act.put _ (some 31) _ = _
     simp only [Act.put, List.setIfInBounds_toArray, List.set_cons_zero, List.set_cons_succ, dS, ek]; rfl
    refine pu_ HT_ 7 32 (bm 10 255) ?_
    refine pu_ HT_ 8 33 (bm 10 511) ?_
    refine pu_ HT_ 9 2 #[true, true, true, true, true, true, true, true, true, true] ?_
    refine sS (lC HT_.out (by kernel_rfl)) ?_
    try go_wp2
    go_ret; exact ⟨re_, bl_⟩
   ·rw [if_neg c14] at H; exact absurd H (by simp)
  ·rw [if_neg c13] at H; obtain ⟨mV, c13b1⟩ := bn_ c13; obtain rfl := Option.some.inj H; go_enter Tryd.func40, Tryd.ntmps40; go_wp2_with (first | ((with_reducible refine aW (N := 1) rfl ?_); refine bf ?hg (N := 1) ?hd (cs := #[.int .i64 ah, .int .i64 au, .int .i64 aj, .int .i64 ak, .slice aM af.length aH]) (t := 24) ?hr ?_; (case hd => rfl); (case hg => rfl); (case hr => first | (go_simp; done) | (go_simp; rfl)); intro xC hg w20 aG hb; have jB := aa.mk (aG); have JX : aa (w.heap.size ≤ xC) := gw_ hg (ax bl_); have GE114 := JX; replace HB := aa.mk (ai bl_ hb); clear hb aG hg; obtain ⟨kI, kJ, kK, pJ, pK, kL, kM, kN, pM, pO⟩ := bg jB.out))
   go_ret; exact ⟨re_, bl_⟩

end Go.Proofs.YtggelekooacmnaaDoor.Q
namespace Go.Proofs.YtggelekooacmnaaDoor.Q
open Go.RowKit Go.Proofs.YtggelekooacmnaaDoorW.aU Go.Proofs.YtggelekooacmnaaDoorW.bD Go.Proofs.YtggelekooacmnaaDoorW.bH
attribute [local go_sem] dB dC dN dO cO cZ dD dE   -- for this text's walks alone
set_option linter.unusedVariables false
set_option linter.unusedSimpArgs false

/-! ### bO: function 12 -/
def bO.f (k : Nat) (ah : Int) (au : Int) (aj : Int) (ak : Int) (af : List (S24)) : Option (Int) := (df.f k ah au aj ak af).bind fun t121 => (if t121 > 10 then (some 9) else ((aN.f k ah au aj ak af).bind fun t122 => (if t122 = 0 then ((bP.f k ah au aj ak af).bind fun t123 => (if t123 > 24 then (some 9) else (some 0))) else (some t122))))
theorem bO.mono : ∀ a0 a1 a2 a3 a4 k, LeO (bO.f k a0 a1 a2 a3 a4) (bO.f (k + 1) a0 a1 a2 a3 a4) := by
 intro a0 a1 a2 a3 a4 k; unfold bO.f
 repeat' first
   | (with_reducible exact df.mono _ _ _ _ _ _)
   | (with_reducible exact aN.mono _ _ _ _ _ _)
   | (with_reducible exact bP.mono _ _ _ _ _ _)
   | (with_reducible exact LeO.refl _)
   | (with_reducible exact LeO.none _)
   | (with_reducible refine LeO.ite ?_ ?_)
   | (with_reducible refine LeO.bind ?_ (fun _ => ?_))
   | exact df.mono _ _ _ _ _ _
   | exact aN.mono _ _ _ _ _ _
   | exact bP.mono _ _ _ _ _ _
   | exact LeO.none _
   | refine LeO.ite ?_ ?_
   | refine LeO.bind ?_ (fun _ => ?_)
set_option maxHeartbeats 8000000 in
set_option maxRecDepth 100000 in
theorem bO.calls (k : Nat) (ah : Int) (au : Int) (aj : Int) (ak : Int) (aM : Option Addr) (aH : Nat) (af : List (S24)) (r : Int) (w : World) (di : Kd.C k24 w aM af.length af) (dm : af.length ≤ aH) (h : bO.f k ah au aj ak af = some r) :
  Calls Tryd.prog 12 #[.agg #[.int .i64 ah, .int .i64 au, .int .i64 aj, .int .i64 ak, .slice aM af.length aH]] w fun e w' => e = .returned (.int .i64 r) ∧ Below w.heap.size w w' := by
 have mg := Tryd.underlying24; have bu := aa.mk di; have bU := aa.mk dm; clear di dm; have HB := aa.mk (Below.refl w.heap.size w); have H : ((df.f k ah au aj ak af).bind fun t121 => (if t121 > 10 then (some 9) else ((aN.f k ah au aj ak af).bind fun t122 => (if t122 = 0 then ((bP.f k ah au aj ak af).bind fun t123 => (if t123 > 24 then (some 9) else (some 0))) else (some t122))))) = some r := h; clear h; replace H := Option.bind_eq_some_iff.mp H; obtain ⟨t121, A20, H⟩ := H; (try dsimp only at H)
 have A2 := aa.mk A20; clear A20; by_cases c3 : t121 > 10
 ·rw [if_pos c3] at H; have gX : decide (10 < t121) = true := decide_eq_true c3; clear c3; obtain rfl := Option.some.inj H; go_enter Tryd.func12, Tryd.ntmps12; go_wp2_with (first | ((with_reducible refine aW (N := 1) rfl ?_); refine bf ?hg (N := 1) ?hd (cs := #[.int .i64 ah, .int .i64 au, .int .i64 aj, .int .i64 ak, .slice aM af.length aH]) (t := 24) ?hr ?_; (case hd => rfl); (case hg => rfl); (case hr => first | (go_simp; done) | (go_simp; rfl)); intro F6 hg w4 aG hb; have iK := aa.mk (aG); have F7 : aa (w.heap.size ≤ F6) := gw_ hg (ax bl_); have GE120 := F7; replace HB := aa.mk (ai bl_ hb); clear hb aG hg; obtain ⟨CZ, C8, C9, Da, Db, Dc, De, Df, Dg, Dh⟩ := bg iK.out) | ((with_reducible refine aD (f := 38) rfl ?_); refine aZ (some 5) rfl rfl Tryd.func38 (by kernel_rfl) rfl #[.agg #[.int .i64 ah, .int .i64 au, .int .i64 aj, .int .i64 ak, .slice aM af.length aH]] rfl mp_ ?_; (with_reducible refine (df.calls k ah au aj ak _ _ af t121 _ ?az ?aA A2.out).mono ?_); (case az => exact cb_ (Kd.aK bu.out HB.out)); (case aA => exact bU.out); rintro e w6 ⟨rfl, hb⟩; refine ⟨_, rfl, ?_⟩; replace iK := kb_ iK hb; replace HB := aa.mk (ai bl_ hb); (try clear hb); (try clear hb2); (try clear hk); (try clear hi)))
  go_ret; exact ⟨re_, bl_⟩
 ·rw [if_neg c3] at H; have gX : decide (10 < t121) = false := decide_eq_false c3; clear c3; replace H := Option.bind_eq_some_iff.mp H; obtain ⟨t122, A70, H⟩ := H; (try dsimp only at H)
  have A7 := aa.mk A70; clear A70; by_cases c8 : t122 = 0
  ·rw [if_pos c8] at H; obtain ⟨gH, jv⟩ := bq_ c8; clear c8; replace H := Option.bind_eq_some_iff.mp H; obtain ⟨t123, A90, H⟩ := H; (try dsimp only at H)
   have A9 := aa.mk A90; clear A90; by_cases c10 : t123 > 24
   ·rw [if_pos c10] at H; have ig : decide (24 < t123) = true := decide_eq_true c10; clear c10; obtain rfl := Option.some.inj H; go_enter Tryd.func12, Tryd.ntmps12; go_wp2_with (first | ((with_reducible refine aW (N := 1) rfl ?_); refine bf ?hg (N := 1) ?hd (cs := #[.int .i64 ah, .int .i64 au, .int .i64 aj, .int .i64 ak, .slice aM af.length aH]) (t := 24) ?hr ?_; (case hd => rfl); (case hg => rfl); (case hr => first | (go_simp; done) | (go_simp; rfl)); intro F6 hg w11 aG hb; have iK := aa.mk (aG); have F7 : aa (w.heap.size ≤ F6) := gw_ hg (ax bl_); have GE120 := F7; replace HB := aa.mk (ai bl_ hb); clear hb aG hg; obtain ⟨rz, rA, rC, rD, rE, rF, rG, rH, rJ, rM⟩ := bg iK.out) | ((with_reducible refine aD (f := 38) rfl ?_); refine aZ (some 5) rfl rfl Tryd.func38 (by kernel_rfl) rfl #[.agg #[.int .i64 ah, .int .i64 au, .int .i64 aj, .int .i64 ak, .slice aM af.length aH]] rfl mp_ ?_; (with_reducible refine (df.calls k ah au aj ak _ _ af t121 _ ?az ?aA A2.out).mono ?_); (case az => exact cb_ (Kd.aK bu.out HB.out)); (case aA => exact bU.out); rintro e w13 ⟨rfl, hb⟩; refine ⟨_, rfl, ?_⟩; replace iK := kb_ iK hb; replace HB := aa.mk (ai bl_ hb); (try clear hb); (try clear hb2); (try clear hk); (try clear hi); obtain ⟨ja, jb, jc, jd, je, jf, jg, jh, ji, jk⟩ := bg iK.out) | ((with_reducible refine aD (f := 39) rfl ?_); refine aZ (some 8) rfl rfl Tryd.func39 (by kernel_rfl) rfl #[.agg #[.int .i64 ah, .int .i64 au, .int .i64 aj, .int .i64 ak, .slice aM af.length aH]] rfl mp_ ?_; (with_reducible refine (aN.calls k ah au aj ak _ _ af t122 _ ?az ?aA A7.out).mono ?_); (case az => exact cb_ (Kd.aK bu.out HB.out)); (case aA => exact bU.out); rintro e w15 ⟨rfl, hb⟩; refine ⟨_, rfl, ?_⟩; replace iK := kb_ iK hb; replace HB := aa.mk (ai bl_ hb); (try clear hb); (try clear hb2); (try clear hk); (try clear hi); obtain ⟨kC, kD, kE, o8, o9, kF, kG, kH, pg, pq⟩ := bg iK.out) | ((with_reducible refine aD (f := 40) rfl ?_); refine aZ (some 13) rfl rfl Tryd.func40 (by kernel_rfl) rfl #[.agg #[.int .i64 ah, .int .i64 au, .int .i64 aj, .int .i64 ak, .slice aM af.length aH]] rfl mp_ ?_; (with_reducible refine (bP.calls k ah au aj ak _ _ af t123 _ ?az ?aA A9.out).mono ?_); (case az => exact cb_ (Kd.aK bu.out HB.out)); (case aA => exact bU.out); rintro e w17 ⟨rfl, hb⟩; refine ⟨_, rfl, ?_⟩; replace iK := kb_ iK hb; replace HB := aa.mk (ai bl_ hb); (try clear hb); (try clear hb2); (try clear hk); (try clear hi)))
    go_ret; exact ⟨re_, bl_⟩
   ·rw [if_neg c10] at H; have ig : decide (24 < t123) = false := decide_eq_false c10; clear c10; obtain rfl := Option.some.inj H; go_enter Tryd.func12, Tryd.ntmps12; go_wp2_with (first | ((with_reducible refine aW (N := 1) rfl ?_); refine bf ?hg (N := 1) ?hd (cs := #[.int .i64 ah, .int .i64 au, .int .i64 aj, .int .i64 ak, .slice aM af.length aH]) (t := 24) ?hr ?_; (case hd => rfl); (case hg => rfl); (case hr => first | (go_simp; done) | (go_simp; rfl)); intro F6 hg w18 aG hb; have iK := aa.mk (aG); have F7 : aa (w.heap.size ≤ F6) := gw_ hg (ax bl_); have GE120 := F7; replace HB := aa.mk (ai bl_ hb); clear hb aG hg; obtain ⟨yx, yz, yA, yB, yC, yD, yE, yF, yG, yH⟩ := bg iK.out) | ((with_reducible refine aD (f := 38) rfl ?_); refine aZ (some 5) rfl rfl Tryd.func38 (by kernel_rfl) rfl #[.agg #[.int .i64 ah, .int .i64 au, .int .i64 aj, .int .i64 ak, .slice aM af.length aH]] rfl mp_ ?_; (with_reducible refine (df.calls k ah au aj ak _ _ af t121 _ ?az ?aA A2.out).mono ?_); (case az => exact cb_ (Kd.aK bu.out HB.out)); (case aA => exact bU.out); rintro e w20 ⟨rfl, hb⟩; refine ⟨_, rfl, ?_⟩; replace iK := kb_ iK hb; replace HB := aa.mk (ai bl_ hb); (try clear hb); (try clear hb2); (try clear hk); (try clear hi); obtain ⟨kI, kJ, kK, pJ, pK, kL, kM, kN, pM, pO⟩ := bg iK.out) | ((with_reducible refine aD (f := 39) rfl ?_); refine aZ (some 8) rfl rfl Tryd.func39 (by kernel_rfl) rfl #[.agg #[.int .i64 ah, .int .i64 au, .int .i64 aj, .int .i64 ak, .slice aM af.length aH]] rfl mp_ ?_; (with_reducible refine (aN.calls k ah au aj ak _ _ af t122 _ ?az ?aA A7.out).mono ?_); (case az => exact cb_ (Kd.aK bu.out HB.out)); (case aA => exact bU.out); rintro e w22 ⟨rfl, hb⟩; refine ⟨_, rfl, ?_⟩; replace iK := kb_ iK hb; replace HB := aa.mk (ai bl_ hb); (try clear hb); (try clear hb2); (try clear hk); (try clear hi); obtain ⟨EN, EO, EP, M3, M4, ER, ES, ET, M5, M6⟩ := bg iK.out) | ((with_reducible refine aD (f := 40) rfl ?_); refine aZ (some 13) rfl rfl Tryd.func40 (by kernel_rfl) rfl #[.agg #[.int .i64 ah, .int .i64 au, .int .i64 aj, .int .i64 ak, .slice aM af.length aH]] rfl mp_ ?_; (with_reducible refine (bP.calls k ah au aj ak _ _ af t123 _ ?az ?aA A9.out).mono ?_); (case az => exact cb_ (Kd.aK bu.out HB.out)); (case aA => exact bU.out); rintro e w24 ⟨rfl, hb⟩; refine ⟨_, rfl, ?_⟩; replace iK := kb_ iK hb; replace HB := aa.mk (ai bl_ hb); (try clear hb); (try clear hb2); (try clear hk); (try clear hi)))
    go_ret; exact ⟨re_, bl_⟩
  ·rw [if_neg c8] at H; obtain ⟨gH, jv⟩ := bn_ c8; obtain rfl := Option.some.inj H; go_enter Tryd.func12, Tryd.ntmps12; go_wp2_with (first | ((with_reducible refine aW (N := 1) rfl ?_); refine bf ?hg (N := 1) ?hd (cs := #[.int .i64 ah, .int .i64 au, .int .i64 aj, .int .i64 ak, .slice aM af.length aH]) (t := 24) ?hr ?_; (case hd => rfl); (case hg => rfl); (case hr => first | (go_simp; done) | (go_simp; rfl)); intro F6 hg w25 aG hb; have iK := aa.mk (aG); have F7 : aa (w.heap.size ≤ F6) := gw_ hg (ax bl_); have GE120 := F7; replace HB := aa.mk (ai bl_ hb); clear hb aG hg; obtain ⟨uB, uC, uD, vX, vY, uE, uF, uG, vZ, wh⟩ := bg iK.out) | ((with_reducible refine aD (f := 38) rfl ?_); refine aZ (some 5) rfl rfl Tryd.func38 (by kernel_rfl) rfl #[.agg #[.int .i64 ah, .int .i64 au, .int .i64 aj, .int .i64 ak, .slice aM af.length aH]] rfl mp_ ?_; (with_reducible refine (df.calls k ah au aj ak _ _ af t121 _ ?az ?aA A2.out).mono ?_); (case az => exact cb_ (Kd.aK bu.out HB.out)); (case aA => exact bU.out); rintro e w27 ⟨rfl, hb⟩; refine ⟨_, rfl, ?_⟩; replace iK := kb_ iK hb; replace HB := aa.mk (ai bl_ hb); (try clear hb); (try clear hb2); (try clear hk); (try clear hi); obtain ⟨pQ, pR, pU, pV, pW, pX, pY, p8, p9, qa⟩ := bg iK.out) | ((with_reducible refine aD (f := 39) rfl ?_); refine aZ (some 8) rfl rfl Tryd.func39 (by kernel_rfl) rfl #[.agg #[.int .i64 ah, .int .i64 au, .int .i64 aj, .int .i64 ak, .slice aM af.length aH]] rfl mp_ ?_; (with_reducible refine (aN.calls k ah au aj ak _ _ af t122 _ ?az ?aA A7.out).mono ?_); (case az => exact cb_ (Kd.aK bu.out HB.out)); (case aA => exact bU.out); rintro e w29 ⟨rfl, hb⟩; refine ⟨_, rfl, ?_⟩; replace iK := kb_ iK hb; replace HB := aa.mk (ai bl_ hb); (try clear hb); (try clear hb2); (try clear hk); (try clear hi)))
   go_ret; exact ⟨re_, bl_⟩

end Go.Proofs.YtggelekooacmnaaDoor.Q
namespace Go.Proofs.YtggelekooacmnaaDoor.Q
open Go.RowKit Go.Proofs.YtggelekooacmnaaDoorW.aU Go.Proofs.YtggelekooacmnaaDoorW.bD Go.Proofs.YtggelekooacmnaaDoorW.bH
attribute [local go_sem] dB dC dN dO cO cZ dD dE   -- for this text's walks alone
set_option linter.unusedVariables false
set_option linter.unusedSimpArgs false

/-! ### aX: function 42 -/
theorem Sl {w : World} {a : Addr} {u v : Value} (h : (w.cell? a).isSome = true) : ((w.setCell a u).setCell a v).cell? a = some v := by
 obtain ⟨x, hx⟩ := Option.isSome_iff_exists.1 h; exact World.cell?_setCell_same _ _ _ (World.cell?_setCell_same _ _ _ hx)
mutual
def aX.j0 : Nat → Int → Bool → Int → Int → Int → Int → List (S24) → Int → Int → Int → Option ((List (S41)))
 | 0, _, _, _, _, _, _, _, _, _, _ => none
 | k + 1, x12, x15, Ih, Ii, Ij, EU, rO, x126000, x126001, x126002 => if x15 = true then (some (([(⟨x126000, x126001, x126002⟩ : S41)] : List (S41)))) else (if x12 = 2 then (some (([(⟨Ih, Ii, Ij⟩ : S41)] : List (S41)))) else (if x12 = 6 then (aX.l0 k (([(⟨2, 0, EU⟩ : S41)] : List (S41))) EU 0 Ih Ii Ij EU rO) else (aX.l1 k ([] : List (S41)) rO (rO.length : Int) 0)))
def aX.l0 : Nat → List (S41) → Int → Int → Int → Int → Int → Int → List (S24) → Option ((List (S41)))
 | 0, _, _, _, _, _, _, _, _ => none
 | k + 1, x4, x38, x39, Ih, Ii, Ij, EU, rO => if x39 < x38 then (if 0 < (rO.length : Int) then ((aX.f k ((ag rO 0).f0) ((ag rO 0).f1) ((ag rO 0).f2) ((ag rO 0).f3) ((ag rO 0).f4)).bind fun t139 => (if x4.length + t139.length < 5864062014805 then (aX.l0 k (x4 ++ t139) x38 (wrap64 (x39 + 1)) Ih Ii Ij EU rO) else (none))) else (none)) else (some x4)
def aX.l1 : Nat → List (S41) → List (S24) → Int → Int → Option ((List (S41)))
 | 0, _, _, _, _ => none
 | k + 1, x5, x51, x52, x53 => if x53 < x52 then (if 0 ≤ x53 then (if x53 < (x51.length : Int) then ((aX.f k ((ag x51 x53).f0) ((ag x51 x53).f1) ((ag x51 x53).f2) ((ag x51 x53).f3) ((ag x51 x53).f4)).bind fun t147 => (if x5.length + t147.length < 5864062014805 then (aX.l1 k (x5 ++ t147) x51 x52 (wrap64 (x53 + 1))) else (none))) else (none)) else (none)) else (some x5)
def aX.f : Nat → Int → Int → Int → Int → List (S24) → Option ((List (S41)))
 | 0, _, _, _, _, _ => none
 | k + 1, ah, au, aj, ak, af => if ah = 1 then (some (([(⟨ah, 0, 1⟩ : S41)] : List (S41)))) else (if ah = 3 then (aX.j0 k ah (ah == 3) ah au aj ak af ah 0 0) else (aX.j0 k ah (ah == 4) ah au aj ak af ah 0 0))
end
theorem aX.fA : ∀ k, (∀ y0 y1 y2 y3 y4, LeO (aX.f k y0 y1 y2 y3 y4) (aX.f (k + 1) y0 y1 y2 y3 y4)) ∧ (∀ y0 y1 y2 y3 y4 y5 y6 y7 y8 y9, LeO (aX.j0 k y0 y1 y2 y3 y4 y5 y6 y7 y8 y9) (aX.j0 (k + 1) y0 y1 y2 y3 y4 y5 y6 y7 y8 y9)) ∧ (∀ y0 y1 y2 y3 y4 y5 y6 y7, LeO (aX.l0 k y0 y1 y2 y3 y4 y5 y6 y7) (aX.l0 (k + 1) y0 y1 y2 y3 y4 y5 y6 y7)) ∧ (∀ y0 y1 y2 y3, LeO (aX.l1 k y0 y1 y2 y3) (aX.l1 (k + 1) y0 y1 y2 y3))
 | 0 => ⟨fun _ _ _ _ _ r h => by simp [aX.f] at h, fun _ _ _ _ _ _ _ _ _ _ r h => by simp [aX.j0] at h, fun _ _ _ _ _ _ _ _ r h => by simp [aX.l0] at h, fun _ _ _ _ r h => by simp [aX.l1] at h⟩
 | k + 1 => by
  obtain ⟨ih0, ih1, ih2, ih3⟩ := aX.fA k; refine ⟨?_, ?_, ?_, ?_⟩
  ·intro y0 y1 y2 y3 y4; unfold aX.f; repeat' first
   | (with_reducible exact ih0 _ _ _ _ _)
   | (with_reducible exact ih1 _ _ _ _ _ _ _ _ _ _)
   | (with_reducible exact ih2 _ _ _ _ _ _ _ _)
   | (with_reducible exact ih3 _ _ _ _)
   | (with_reducible exact LeO.refl _)
   | (with_reducible exact LeO.none _)
   | (with_reducible refine LeO.ite ?_ ?_)
   | (with_reducible refine LeO.bind ?_ (fun _ => ?_))
   | exact ih0 _ _ _ _ _
   | exact ih1 _ _ _ _ _ _ _ _ _ _
   | exact ih2 _ _ _ _ _ _ _ _
   | exact ih3 _ _ _ _
   | exact LeO.none _
   | refine LeO.ite ?_ ?_
   | refine LeO.bind ?_ (fun _ => ?_)
  ·intro y0 y1 y2 y3 y4 y5 y6 y7 y8 y9; unfold aX.j0; repeat' first
   | (with_reducible exact ih0 _ _ _ _ _)
   | (with_reducible exact ih1 _ _ _ _ _ _ _ _ _ _)
   | (with_reducible exact ih2 _ _ _ _ _ _ _ _)
   | (with_reducible exact ih3 _ _ _ _)
   | (with_reducible exact LeO.refl _)
   | (with_reducible exact LeO.none _)
   | (with_reducible refine LeO.ite ?_ ?_)
   | (with_reducible refine LeO.bind ?_ (fun _ => ?_))
   | exact ih0 _ _ _ _ _
   | exact ih1 _ _ _ _ _ _ _ _ _ _
   | exact ih2 _ _ _ _ _ _ _ _
   | exact ih3 _ _ _ _
   | exact LeO.none _
   | refine LeO.ite ?_ ?_
   | refine LeO.bind ?_ (fun _ => ?_)
  ·intro y0 y1 y2 y3 y4 y5 y6 y7; unfold aX.l0; repeat' first
   | (with_reducible exact ih0 _ _ _ _ _)
   | (with_reducible exact ih1 _ _ _ _ _ _ _ _ _ _)
   | (with_reducible exact ih2 _ _ _ _ _ _ _ _)
   | (with_reducible exact ih3 _ _ _ _)
   | (with_reducible exact LeO.refl _)
   | (with_reducible exact LeO.none _)
   | (with_reducible refine LeO.ite ?_ ?_)
   | (with_reducible refine LeO.bind ?_ (fun _ => ?_))
   | exact ih0 _ _ _ _ _
   | exact ih1 _ _ _ _ _ _ _ _ _ _
   | exact ih2 _ _ _ _ _ _ _ _
   | exact ih3 _ _ _ _
   | exact LeO.none _
   | refine LeO.ite ?_ ?_
   | refine LeO.bind ?_ (fun _ => ?_)
  ·intro y0 y1 y2 y3; unfold aX.l1; repeat' first
   | (with_reducible exact ih0 _ _ _ _ _)
   | (with_reducible exact ih1 _ _ _ _ _ _ _ _ _ _)
   | (with_reducible exact ih2 _ _ _ _ _ _ _ _)
   | (with_reducible exact ih3 _ _ _ _)
   | (with_reducible exact LeO.refl _)
   | (with_reducible exact LeO.none _)
   | (with_reducible refine LeO.ite ?_ ?_)
   | (with_reducible refine LeO.bind ?_ (fun _ => ?_))
   | exact ih0 _ _ _ _ _
   | exact ih1 _ _ _ _ _ _ _ _ _ _
   | exact ih2 _ _ _ _ _ _ _ _
   | exact ih3 _ _ _ _
   | exact LeO.none _
   | refine LeO.ite ?_ ?_
   | refine LeO.bind ?_ (fun _ => ?_)
theorem aX.mono : ∀ a0 a1 a2 a3 a4 k, LeO (aX.f k a0 a1 a2 a3 a4) (aX.f (k + 1) a0 a1 a2 a3 a4) := by
 intro a0 a1 a2 a3 a4 k; obtain ⟨ih0, ih1, ih2, ih3⟩ := aX.fA k; exact ih0 a0 a1 a2 a3 a4
set_option maxHeartbeats 8000000 in
set_option maxRecDepth 100000 in
theorem aX.calls (k : Nat) : ∀ (ah : Int) (au : Int) (aj : Int) (ak : Int) (aM : Option Addr) (aH : Nat) (af : List (S24)) (r : List (S41)) (w : World) (di : Kd.C k24 w aM af.length af) (dm : af.length ≤ aH) (h : aX.f k ah au aj ak af = some r),
  Calls Tryd.prog 42 #[.agg #[.int .i64 ah, .int .i64 au, .int .i64 aj, .int .i64 ak, .slice aM af.length aH]] w fun e w' => ∃ v0_ : Value, e = .returned (v0_) ∧ Kd.R k41 41 w' w.heap.size (fun _ => True) v0_ r ∧ Below w.heap.size w w' := by
 induction k using Nat.strongRecOn with
 | _ k ih =>
 intro ah au aj ak aM aH af r w di dm h; cases k with
 | zero => exact absurd h (by simp [aX.f])
 | succ k =>
 simp only [aX.f] at h; have mg := Tryd.underlying24; have hu41 := Tryd.underlying41; have bu := aa.mk di; have bU := aa.mk dm; clear di dm; have HB := aa.mk (Below.refl w.heap.size w); have HSS := @Sl; have H : (if ah = 1 then (some (([(⟨ah, 0, 1⟩ : S41)] : List (S41)))) else (if ah = 3 then (aX.j0 k ah (ah == 3) ah au aj ak af ah 0 0) else (aX.j0 k ah (ah == 4) ah au aj ak af ah 0 0))) = some r := h; clear h; by_cases c2 : ah = 1
 ·rw [if_pos c2] at H; obtain ⟨iZ, kR⟩ := bq_ c2; clear c2; obtain ⟨y126, JY⟩ : ∃ y_ : List (S41), y_ = (([(⟨ah, 0, 1⟩ : S41)] : List (S41))) := ⟨_, rfl⟩; replace H : (some y126) = some r := by first | (rw [JY]; with_reducible exact H) | (have H2_ := (Option.bind_some _ _).symm.trans H; rw [JY]; with_reducible exact H2_) | (have H2_ := (Option.bind_some _ _).symm.trans H; with_reducible exact H2_) | with_reducible exact H | (rw [JY]; exact H) | exact H
  have Ny126 := aa.mk JY; clear JY; obtain rfl := Option.some.inj H; go_enter Tryd.func42, Tryd.ntmps42; go_wp2_with (first | ((with_reducible refine aW (N := 1) rfl ?_); refine bf ?hg (N := 1) ?hd (cs := #[.int .i64 ah, .int .i64 au, .int .i64 aj, .int .i64 ak, .slice aM af.length aH]) (t := 24) ?hr ?_; (case hd => rfl); (case hg => rfl); (case hr => first | (go_simp; done) | (go_simp; rfl)); intro Bc hg w3 aG hb; have fV := aa.mk (aG); have GW124 : aa (w.heap.size ≤ Bc) := gw_ hg (ax bl_); have GE124 := GW124; replace HB := aa.mk (ai bl_ hb); clear hb aG hg; obtain ⟨iA, iB, iC, iD, iE, iF, iG, iH, iI, iJ⟩ := bg fV.out) | ((with_reducible refine aW (N := 3) rfl ?_); refine bf ?hg (N := 3) ?hd (cs := #[.int .i64 0, .int .i64 0, .int .i64 0]) (t := 41) ?hr ?_; (case hd => rfl); (case hg => rfl); (case hr => first | (go_simp; done) | (go_simp; rfl)); intro jV hg w5 aG hb; have jl := aa.mk (aG); have GW125 : aa (w.heap.size ≤ jV) := gw_ hg (ax bl_); have GE125 := GW125; have jC := nl_ fV hg; have sM := ng_ fV hg; replace fV := kb_ fV hb; replace HB := aa.mk (ai bl_ hb); clear hb aG hg; have hnb6 := sM.out; have hnc6 := jC.out; obtain ⟨yV, yX, yY, yZ, za, zb⟩ := lD jl.out; obtain ⟨rP, rQ, rR, rT, rU, rV, rW, rX, rY, rZ⟩ := bg fV.out) | ((with_reducible refine aW (N := 24) rfl ?_); refine Kd.mi k41 _ 41 ?hg (N := 24) ?hd (xs := ([(⟨ah, 0, 1⟩ : S41)] : List (S41))) (inner := [.int .i64 ah, .int .i64 0, .int .i64 1]) (ok := fun _ => True) (okp := fun _ => True) ?hr ?hp (fun _ hk => hk) trivial (Below.refl _ _) (Nat.le_refl _) (by simp) ?_; (case hd => rfl); (case hg => rfl); (case hr => first | (go_simp; done) | (go_simp; rfl)); (case hp => exact (dA.c3 (show Kd.M k41 _ _ _ (⟨ah, 0, 1⟩ : S41) [.int .i64 ah, .int .i64 0, .int .i64 1] from (xQ _ _ _ (⟨ah, 0, 1⟩ : S41) )) (dA.none _ _))); intro v127 w9 ho10 hb hg_ fZ; clear hg_ fZ; (first | rw [← Ny126.out] at ho10 | (simp only [Int.reduceToNat] at ho10; rw [← Ny126.out] at ho10)); have HO128 := aa.mk (Kd.bC (Kd.Ep ho10 (g := jV) (o := .cells #[.int .i64 ah, .int .i64 0, .int .i64 1] 41 (0, 0)) (by (with_reducible repeat (first | refine eD ?_ _ | refine dz ?_ | refine eB ?_ _)); refine gU (cs := #[.int .i64 ah, .int .i64 0, .int .i64 0]) ?_ 2 _ rfl; (with_reducible repeat (first | refine eD ?_ _ | refine dz ?_ | refine eB ?_ _)); refine gU (cs := #[.int .i64 ah, .int .i64 0, .int .i64 0]) ?_ 2 _ rfl; (with_reducible repeat (first | refine eD ?_ _ | refine dz ?_ | refine eB ?_ _)); refine gU (cs := #[.int .i64 ah, .int .i64 0, .int .i64 0]) ?_ 1 _ rfl; (with_reducible repeat (first | refine eD ?_ _ | refine dz ?_ | refine eB ?_ _)); refine gU (cs := #[.int .i64 0, .int .i64 0, .int .i64 0]) ?_ 0 _ rfl; (with_reducible repeat (first | refine eD ?_ _ | refine dz ?_ | refine eB ?_ _)); exact jl.out)) (ax bl_)); replace fV := aa.mk (dR (g := Bc) (o := .cells #[.int .i64 ah, .int .i64 au, .int .i64 aj, .int .i64 ak, .slice aM af.length aH] 24 (0, 0)) b5_ hb); replace jl := aa.mk (dR (g := jV) (o := .cells #[.int .i64 ah, .int .i64 0, .int .i64 1] 41 (0, 0)) (by (with_reducible repeat (first | refine eD ?_ _ | refine dz ?_ | refine eB ?_ _)); refine gU (cs := #[.int .i64 ah, .int .i64 0, .int .i64 0]) ?_ 2 _ rfl; (with_reducible repeat (first | refine eD ?_ _ | refine dz ?_ | refine eB ?_ _)); refine gU (cs := #[.int .i64 ah, .int .i64 0, .int .i64 0]) ?_ 2 _ rfl; (with_reducible repeat (first | refine eD ?_ _ | refine dz ?_ | refine eB ?_ _)); refine gU (cs := #[.int .i64 ah, .int .i64 0, .int .i64 0]) ?_ 1 _ rfl; (with_reducible repeat (first | refine eD ?_ _ | refine dz ?_ | refine eB ?_ _)); refine gU (cs := #[.int .i64 0, .int .i64 0, .int .i64 0]) ?_ 0 _ rfl; (with_reducible repeat (first | refine eD ?_ _ | refine dz ?_ | refine eB ?_ _)); exact jl.out) hb); replace HB := aa.mk (ai bl_ hb); clear hb ho10))
  go_ret; exact ⟨_, re_, by (with_reducible repeat (first | apply Kd.bL | apply Kd.bM | apply Kd.bQ)); exact Kd.bG HO128.out (fun _ hk => trivial), bl_⟩
 ·rw [if_neg c2] at H; obtain ⟨iZ, kR⟩ := bn_ c2; have HC11 := aa.mk H; clear H; go_enter Tryd.func42, Tryd.ntmps42; go_upto_if 15 with (first | ((with_reducible refine aW (N := 1) rfl ?_); refine bf ?hg (N := 1) ?hd (cs := #[.int .i64 ah, .int .i64 au, .int .i64 aj, .int .i64 ak, .slice aM af.length aH]) (t := 24) ?hr ?_; (case hd => rfl); (case hg => rfl); (case hr => first | (go_simp; done) | (go_simp; rfl)); intro Bc hg w12 aG hb; have fV := aa.mk (aG); have GW124 : aa (w.heap.size ≤ Bc) := gw_ hg (ax bl_); have GE124 := GW124; replace HB := aa.mk (ai bl_ hb); clear hb aG hg; obtain ⟨nU, nV, nW, oZ, o5, nX, nY, nZ, o6, o7⟩ := bg fV.out) | ((with_reducible refine aW (N := 3) rfl ?_); refine bf ?hg (N := 3) ?hd (cs := #[.int .i64 0, .int .i64 0, .int .i64 0]) (t := 41) ?hr ?_; (case hd => rfl); (case hg => rfl); (case hr => first | (go_simp; done) | (go_simp; rfl)); intro jV hg w14 aG hb; have jl := aa.mk (aG); have GW125 : aa (w.heap.size ≤ jV) := gw_ hg (ax bl_); have GE125 := GW125; have jC := nl_ fV hg; have sM := ng_ fV hg; replace fV := kb_ fV hb; replace HB := aa.mk (ai bl_ hb); clear hb aG hg; have hnb15 := sM.out; have hnc15 := jC.out; obtain ⟨kC, kD, kE, kF, kG, kH⟩ := lD jl.out; obtain ⟨mW, mX, mY, mZ, ng, ni, nk, nu, ny, nz⟩ := bg fV.out))
  (try simp only [Act.put, List.setIfInBounds_toArray, List.set_cons_zero, List.set_cons_succ])
  go_cut [15] (fun v15 wc => ∃ (kq : Nat) (JZ : Bool), v15 = .bool JZ ∧ aa (aX.j0 kq ah JZ ah au aj ak af ah 0 0 = some r) ∧ aa (kq ≤ k) ∧ aa (wc.heap[Bc]? = some (.cells #[.int .i64 ah, .int .i64 au, .int .i64 aj, .int .i64 ak, (.slice aM af.length aH)] 24 (0, 0))) ∧ aa (wc.heap[jV]? = some (.cells #[.int .i64 ah, .int .i64 0, .int .i64 0] 41 (0, 0))) ∧ aa (Below w.heap.size w wc))
  case first =>
   have H := HC11.out; clear HC11; by_cases c18 : ah = 3
   ·rw [if_pos c18] at H; obtain ⟨qH, zi⟩ := bq_ c18; clear c18; (first | rw [qH] | (simp only [dS, ek]; rw [qH]) | skip)
    have H' := aa.mk H; clear H; go_wp2; go_meet
    case rel => exact ⟨_, ((ah == 3)), rs_, H', ⟨by first | omega | exact Nat.le_refl _⟩, ⟨by (with_reducible repeat (first | refine eD ?_ _ | refine dz ?_ | refine eB ?_ _)); refine zq ?_ jC.out _; (with_reducible repeat (first | refine eD ?_ _ | refine dz ?_ | refine eB ?_ _)); refine zq ?_ jC.out _; (with_reducible repeat (first | refine eD ?_ _ | refine dz ?_ | refine eB ?_ _)); refine zq ?_ jC.out _; (with_reducible repeat (first | refine eD ?_ _ | refine dz ?_ | refine eB ?_ _)); exact fV.out⟩, ⟨by (with_reducible repeat (first | refine eD ?_ _ | refine dz ?_ | refine eB ?_ _)); refine gU (cs := #[.int .i64 ah, .int .i64 0, .int .i64 0]) ?_ 2 _ rfl; (with_reducible repeat (first | refine eD ?_ _ | refine dz ?_ | refine eB ?_ _)); refine gU (cs := #[.int .i64 ah, .int .i64 0, .int .i64 0]) ?_ 1 _ rfl; (with_reducible repeat (first | refine eD ?_ _ | refine dz ?_ | refine eB ?_ _)); refine gU (cs := #[.int .i64 0, .int .i64 0, .int .i64 0]) ?_ 0 _ rfl; (with_reducible repeat (first | refine eD ?_ _ | refine dz ?_ | refine eB ?_ _)); exact jl.out⟩, ⟨bl_⟩⟩
   ·rw [if_neg c18] at H; obtain ⟨qH, zi⟩ := bn_ c18; (first | rw [qH] | (simp only [dS, ek]; rw [qH]) | skip)
    have H' := aa.mk H; clear H; go_wp2; go_meet
    case rel => exact ⟨_, ((ah == 4)), rs_, H', ⟨by first | omega | exact Nat.le_refl _⟩, ⟨by (with_reducible repeat (first | refine eD ?_ _ | refine dz ?_ | refine eB ?_ _)); refine zq ?_ jC.out _; (with_reducible repeat (first | refine eD ?_ _ | refine dz ?_ | refine eB ?_ _)); refine zq ?_ jC.out _; (with_reducible repeat (first | refine eD ?_ _ | refine dz ?_ | refine eB ?_ _)); refine zq ?_ jC.out _; (with_reducible repeat (first | refine eD ?_ _ | refine dz ?_ | refine eB ?_ _)); exact fV.out⟩, ⟨by (with_reducible repeat (first | refine eD ?_ _ | refine dz ?_ | refine eB ?_ _)); refine gU (cs := #[.int .i64 ah, .int .i64 0, .int .i64 0]) ?_ 2 _ rfl; (with_reducible repeat (first | refine eD ?_ _ | refine dz ?_ | refine eB ?_ _)); refine gU (cs := #[.int .i64 ah, .int .i64 0, .int .i64 0]) ?_ 1 _ rfl; (with_reducible repeat (first | refine eD ?_ _ | refine dz ?_ | refine eB ?_ _)); refine gU (cs := #[.int .i64 0, .int .i64 0, .int .i64 0]) ?_ 0 _ rfl; (with_reducible repeat (first | refine eD ?_ _ | refine dz ?_ | refine eB ?_ _)); exact jl.out⟩, ⟨bl_⟩⟩
  case rest =>
   clear HC11; (try clear c1); (try clear c2); (try clear iZ); (try clear kR); (try clear p2); (try clear c3); (try clear c4); (try clear c6); (try clear c15); (try clear c18); (try clear qH); (try clear zi); (try clear nU nV nW oZ o5 nX nY nZ o6 o7); (try clear kC kD kE kF kG kH); (try clear mW mX mY mZ ng ni nk nu ny nz); (try clear iA iB iC iD iE iF iG iH iI iJ); (try clear yV yX yY yZ za zb); (try clear rP rQ rR rT rU rV rW rX rY rZ); obtain ⟨kq, JZ, rfl, HA, HJ10, fV, jl, HB⟩ := hcut; cases kq with
   | zero => exact absurd HA.out (by simp [aX.j0])
   | succ kj10 =>
    have H := HA.out; clear HA; simp only [aX.j0] at H; by_cases c19 : JZ = true
    ·subst c19; have H1 : (some (([(⟨ah, 0, 0⟩ : S41)] : List (S41)))) = some r := by rw [if_pos rfl] at H; exact H
     clear H; have H := H1; clear H1; obtain ⟨y129, J2⟩ : ∃ y_ : List (S41), y_ = (([(⟨ah, 0, 0⟩ : S41)] : List (S41))) := ⟨_, rfl⟩; replace H : (some y129) = some r := by first | (rw [J2]; with_reducible exact H) | (have H2_ := (Option.bind_some _ _).symm.trans H; rw [J2]; with_reducible exact H2_) | (have H2_ := (Option.bind_some _ _).symm.trans H; with_reducible exact H2_) | with_reducible exact H | (rw [J2]; exact H) | exact H
     have Ny129 := aa.mk J2; clear J2; obtain rfl := Option.some.inj H; have hnb20 := sM.out; have hnc20 := jC.out; obtain ⟨kI, kJ, kK, kL, kM, kN⟩ := lD jl.out; go_wp2_with (first | ((with_reducible refine aW (N := 24) rfl ?_); refine Kd.mi k41 _ 41 ?hg (N := 24) ?hd (xs := ([(⟨ah, 0, 0⟩ : S41)] : List (S41))) (inner := [.int .i64 ah, .int .i64 0, .int .i64 0]) (ok := fun _ => True) (okp := fun _ => True) ?hr ?hp (fun _ hk => hk) trivial (Below.refl _ _) (Nat.le_refl _) (by simp) ?_; (case hd => rfl); (case hg => rfl); (case hr => first | (go_simp; done) | (go_simp; rfl)); (case hp => exact (dA.c3 (show Kd.M k41 _ _ _ (⟨ah, 0, 0⟩ : S41) [.int .i64 ah, .int .i64 0, .int .i64 0] from (xQ _ _ _ (⟨ah, 0, 0⟩ : S41) )) (dA.none _ _))); intro v130 w22 uY hb hg_ fZ; clear hg_ fZ; (first | rw [← Ny129.out] at uY | (simp only [Int.reduceToNat] at uY; rw [← Ny129.out] at uY)); have HO131 := aa.mk (Kd.bC (Kd.Ep uY (g := jV) (o := .cells #[.int .i64 ah, .int .i64 0, .int .i64 0] 41 (0, 0)) bk_) (ax bl_)); replace fV := kb_ fV hb; replace jl := kb_ jl hb; replace HB := aa.mk (ai bl_ hb); clear hb uY))
     go_ret; exact ⟨_, re_, by (with_reducible repeat (first | apply Kd.bL | apply Kd.bM | apply Kd.bQ)); exact Kd.bG HO131.out (fun _ hk => trivial), bl_⟩
    ·replace c19 := Bool.eq_false_iff.mpr c19; subst c19; have H1 : (if ah = 2 then (some (([(⟨ah, au, aj⟩ : S41)] : List (S41)))) else (if ah = 6 then (aX.l0 kj10 (([(⟨2, 0, ak⟩ : S41)] : List (S41))) ak 0 ah au aj ak af) else (aX.l1 kj10 ([] : List (S41)) af (af.length : Int) 0))) = some r := by rw [if_neg (show ¬ (false = true) by decide)] at H; exact H
     clear H; have H := H1; clear H1; by_cases c24 : ah = 2
     ·rw [if_pos c24] at H; obtain ⟨qG, F3⟩ := bq_ c24; clear c24; obtain ⟨y132, J3⟩ : ∃ y_ : List (S41), y_ = (([(⟨ah, au, aj⟩ : S41)] : List (S41))) := ⟨_, rfl⟩; replace H : (some y132) = some r := by first | (rw [J3]; with_reducible exact H) | (have H2_ := (Option.bind_some _ _).symm.trans H; rw [J3]; with_reducible exact H2_) | (have H2_ := (Option.bind_some _ _).symm.trans H; with_reducible exact H2_) | with_reducible exact H | (rw [J3]; exact H) | exact H
      have Ny132 := aa.mk J3; clear J3; obtain rfl := Option.some.inj H; have hnb25 := jC.out; have hnc25 := sM.out; obtain ⟨uB, uC, uD, vX, vY, uE, uF, uG, vZ, wh⟩ := bg fV.out; go_wp2_with (first | ((with_reducible refine aW (N := 32) rfl ?_); refine Kd.mi k41 _ 41 ?hg (N := 32) ?hd (xs := ([(⟨ah, au, aj⟩ : S41)] : List (S41))) (inner := [.int .i64 ah, .int .i64 au, .int .i64 aj]) (ok := fun _ => True) (okp := fun _ => True) ?hr ?hp (fun _ hk => hk) trivial (Below.refl _ _) (Nat.le_refl _) (by simp) ?_; (case hd => rfl); (case hg => rfl); (case hr => first | (go_simp; done) | (go_simp; rfl)); (case hp => exact (dA.c3 (show Kd.M k41 _ _ _ (⟨ah, au, aj⟩ : S41) [.int .i64 ah, .int .i64 au, .int .i64 aj] from (xQ _ _ _ (⟨ah, au, aj⟩ : S41) )) (dA.none _ _))); intro v133 w27 ho28 hb hg_ fZ; clear hg_ fZ; (first | rw [← Ny132.out] at ho28 | (simp only [Int.reduceToNat] at ho28; rw [← Ny132.out] at ho28)); have HO134 := aa.mk (Kd.bC (Kd.Ep ho28 (g := jV) (o := .cells #[.int .i64 ah, .int .i64 0, .int .i64 0] 41 (0, 0)) bk_) (ax bl_)); replace fV := kb_ fV hb; replace jl := kb_ jl hb; replace HB := aa.mk (ai bl_ hb); clear hb ho28))
      go_ret; exact ⟨_, re_, by (with_reducible repeat (first | apply Kd.bL | apply Kd.bM | apply Kd.bQ)); exact Kd.bG HO134.out (fun _ hk => trivial), bl_⟩
     ·rw [if_neg c24] at H; obtain ⟨qG, F3⟩ := bn_ c24; by_cases c29 : ah = 6
      ·rw [if_pos c29] at H; obtain ⟨BL, BM⟩ := bq_ c29; clear c29; obtain ⟨y135, J4⟩ : ∃ y_ : List (S41), y_ = (([(⟨2, 0, ak⟩ : S41)] : List (S41))) := ⟨_, rfl⟩; replace H : (aX.l0 kj10 y135 ak 0 ah au aj ak af) = some r := by first | (rw [J4]; with_reducible exact H) | (have H2_ := (Option.bind_some _ _).symm.trans H; rw [J4]; with_reducible exact H2_) | (have H2_ := (Option.bind_some _ _).symm.trans H; with_reducible exact H2_) | with_reducible exact H | (rw [J4]; exact H) | exact H
       have Ny135 := aa.mk J4; clear J4; have H' := aa.mk H; clear H; have hnb30 := jC.out; have hnc30 := sM.out; obtain ⟨xR, xS, xU, zw, zx, xV, xW, xX, zy, zz⟩ := bg fV.out; go_wp2_with (first | ((with_reducible refine aW (N := 36) rfl ?_); refine Kd.mi k41 _ 41 ?hg (N := 36) ?hd (xs := ([(⟨2, 0, ak⟩ : S41)] : List (S41))) (inner := [.int .i64 2, .int .i64 0, .int .i64 ak]) (ok := fun _ => True) (okp := fun _ => True) ?hr ?hp (fun _ hk => hk) trivial (Below.refl _ _) (Nat.le_refl _) (by simp) ?_; (case hd => rfl); (case hg => rfl); (case hr => first | (go_simp; done) | (go_simp; rfl)); (case hp => exact (dA.c3 (show Kd.M k41 _ _ _ (⟨2, 0, ak⟩ : S41) [.int .i64 2, .int .i64 0, .int .i64 ak] from (xQ _ _ _ (⟨2, 0, ak⟩ : S41) )) (dA.none _ _))); intro v136 w32 ho33 hb hg_ fZ; clear hg_ fZ; (first | rw [← Ny135.out] at ho33 | (simp only [Int.reduceToNat] at ho33; rw [← Ny135.out] at ho33)); have HO137 := aa.mk (Kd.bC (Kd.Ep ho33 (g := jV) (o := .cells #[.int .i64 ah, .int .i64 0, .int .i64 0] 41 (0, 0)) bk_) (ax bl_)); replace fV := kb_ fV hb; replace jl := kb_ jl hb; replace HB := aa.mk (ai bl_ hb); clear hb ho33; obtain ⟨yj, yl, ym, zP, zQ, yn, yo, yt, zR, zS⟩ := bg fV.out))
       go_loopg [4, 39] kj10 (fun kq v4 v39 w' => ∃ (Ag : List (S41)) (Ik : Int), v39 = .int .i64 Ik ∧ aa (aX.l0 kq Ag ak Ik ah au aj ak af = some r) ∧ aa (kq ≤ kj10) ∧ aa (Kd.R k41 41 w' w.heap.size (fun k_ => k_ ≠ jV) v4 Ag) ∧ aa (w'.heap[Bc]? = some (.cells #[.int .i64 ah, .int .i64 au, .int .i64 aj, .int .i64 ak, (.slice aM af.length aH)] 24 (0, 0))) ∧ aa (w'.heap[jV]? = some (.cells #[.int .i64 ah, .int .i64 0, .int .i64 0] 41 (0, 0))) ∧ aa (Below w.heap.size w w'))
       case atStart => exact ⟨(y135), (0), rs_, H', ⟨Nat.le_refl _⟩, ⟨by (with_reducible repeat (first | apply Kd.bL | apply Kd.bM | apply Kd.bQ)); exact Kd.bG HO137.out (fun _ hk => hk.2)⟩, ⟨bk_⟩, ⟨bk_⟩, ⟨bl_⟩⟩
       case round =>
        clear H'; (try clear c1); (try clear c2); (try clear iZ); (try clear kR); (try clear p2); (try clear c3); (try clear c4); (try clear c6); (try clear c15); (try clear c18); (try clear qH); (try clear zi); (try clear c19); (try clear c20); (try clear c24); (try clear qG); (try clear F3); (try clear c25); (try clear c29); (try clear BL); (try clear BM); (try clear c30); (try clear nU nV nW oZ o5 nX nY nZ o6 o7); (try clear kC kD kE kF kG kH); (try clear mW mX mY mZ ng ni nk nu ny nz); (try clear kI kJ kK kL kM kN); (try clear uB uC uD vX vY uE uF uG vZ wh); (try clear xR xS xU zw zx xV xW xX zy zz); (try clear yj yl ym zP zQ yn yo yt zR zS); (try clear iA iB iC iD iE iF iG iH iI iJ); (try clear yV yX yY yZ za zb); (try clear rP rQ rR rT rU rV rW rX rY rZ); (try clear p2); obtain ⟨Ag, Ik, rfl, HA, HK2, HO_4, fV, jl, HB⟩ := hrel; cases gk with
        | zero => exact absurd HA.out (by simp [aX.l0])
        | succ k2 =>
         have H := HA.out; clear HA; simp only [aX.l0] at H; by_cases c35 : Ik < ak
         ·rw [if_pos c35] at H; have c35b0 := decide_eq_true c35; clear c35; by_cases c36 : 0 < (af.length : Int)
          ·rw [if_pos c36] at H; have Eb := decide_eq_true c36; have c36b1 : decide (0 < af.length) = true := decide_eq_true (by omega); clear c36; replace H := Option.bind_eq_some_iff.mp H; obtain ⟨t139, A370, H⟩ := H; (try dsimp only at H)
           have A37 := aa.mk A370; clear A370; by_cases c38 : Ag.length + t139.length < 5864062014805
           ·rw [if_pos c38] at H; have LMc38 := aa.mk c38; clear c38; obtain ⟨y142, J5⟩ : ∃ y_ : List (S41), y_ = (Ag ++ t139) := ⟨_, rfl⟩; replace H : (aX.l0 k2 y142 ak (wrap64 (Ik + 1)) ah au aj ak af) = some r := by first | (rw [J5]; with_reducible exact H) | (have H2_ := (Option.bind_some _ _).symm.trans H; rw [J5]; with_reducible exact H2_) | (have H2_ := (Option.bind_some _ _).symm.trans H; with_reducible exact H2_) | with_reducible exact H | (rw [J5]; exact H) | exact H
            have Ny142 := aa.mk J5; clear J5; have H' := aa.mk H; clear H; have hnb39 := jC.out; have hnc39 := sM.out; obtain ⟨PM, PN, PO, PQ, PR, PS, PT, PU, PV, PW⟩ := bg fV.out; have p138 : 0 ≤ (0 : Int) := (by omega); have q138 : 0 < (af.length : Int) := dt_; obtain ⟨ad138, A138_4, c138_4, e138, Il, Im, Io, Ip, Iq, PX, PY⟩ := dZ bu.out 0 p138 q138; cases e138; have qi138 : (0 < af.length) = True := eq_true (by omega); (try simp only [z0_, Nat.zero_mul, Addr.add_zero'] at Il Im Io Ip Iq)
            replace Il := hc_ HB Il; replace Im := hc_ HB Im; replace Io := hc_ HB Io; replace Ip := hc_ HB Ip; replace Iq := hc_ HB Iq; have HR138_4 := aa.mk PY; have HC138_4 := aa.mk PX; clear PY PX; replace p138 := eq_true p138; replace q138 := eq_true q138; go_wp2_with (first | ((with_reducible refine aD (f := 42) rfl ?_); refine aZ (some 46) rfl rfl Tryd.func42 (by kernel_rfl) rfl #[.agg #[.int .i64 ((ag af 0).f0), .int .i64 ((ag af 0).f1), .int .i64 ((ag af 0).f2), .int .i64 ((ag af 0).f3), .slice A138_4 ((ag af 0).f4).length c138_4]] rfl mp_ ?_; (with_reducible refine (ih k2 (by have := HJ10.out; have := HK2.out; omega) ((ag af 0).f0) ((ag af 0).f1) ((ag af 0).f2) ((ag af 0).f3) _ _ ((ag af 0).f4) t139 _ ?az ?aA A37.out).mono ?_); (case az => exact cb_ (Kd.aK HR138_4.out HB.out)); (case aA => exact HC138_4.out); rintro e w41 ⟨v140, rfl, ho0, hb⟩; refine ⟨_, rfl, ?_⟩; have J6 := aa.mk (Kd.bC (Kd.Ep (Kd.cz ho0 (Kd.dQ (pR_ HO_4.out))) (g := jV) (o := .cells #[.int .i64 ah, .int .i64 0, .int .i64 0] 41 (0, 0)) bk_) (ax bl_)); replace HO_4 := aa.mk (Kd.cB (pR_ HO_4.out) (Kd.cu ho0) hb); replace fV := kb_ fV hb; replace jl := kb_ jl hb; replace HB := aa.mk (ai bl_ hb); (try clear hb); (try clear hb2); (try clear hk); (try clear hi); (try clear ho0); obtain ⟨Ao43, co43, eo43⟩ := Kd.bK J6.out; subst eo43) | ((with_reducible refine mf (b := .append) (xs := #[.tmp 41, .tmp 46]) rfl ?_); at_builtin; refine Kd.oW k41 (w0 := w) w.heap.size rfl (.tmp 41) (.tmp 46) 37 41 (.agg #[(.int .i64 0), (.int .i64 0), (.int .i64 0)]) 24 rfl Tryd.underlying37 JJ rfl (by decide) (by omega) u4 Ag t139 _ _ _ (fun k_ => some k_ ≠ (.slice Ao43 t139.length co43 : Value).ownBlock ∧ k_ ≠ jV) (fun _ => False) rfl rfl ?aO ?aR (fun _ _ h => h) (fun _ h => h.elim) ?aF ?aB ?aS ?aL ?_; (case aR => exact cb_ ((Kd.aY J6.out).2.2)); (case aB => exact bl_); (case aF => exact (fun k_ hk => ⟨Kd.fresh' (Kd.dQ (pR_ J6.out)) k_ hk, Kd.freshB (g := jV) (o := .cells #[.int .i64 ah, .int .i64 0, .int .i64 0] 41 (0, 0)) bk_ k_ hk⟩)); (case aO => exact (by (with_reducible repeat (first | apply Kd.bL | apply Kd.bM | apply Kd.bQ)); exact Kd.bG HO_4.out (fun _ hk => ⟨hk.2, hk.1⟩))); (case aS => exact (ax bl_)); (case aL => have := LMc38.out; omega); intro v143 w42 ho hb hg hat; rw [← Ny142.out] at ho; have HO144 := aa.mk (ho); replace fV := aa.mk (qy (g := Bc) (o := .cells #[.int .i64 ah, .int .i64 au, .int .i64 aj, .int .i64 ak, .slice (some ad138) af.length aH] 24 (0, 0)) bk_ hg (Kd.R_ne HO_4.out fV.out (by decide))); replace jl := aa.mk (qy (g := jV) (o := .cells #[.int .i64 ah, .int .i64 0, .int .i64 0] 41 (0, 0)) bk_ hg (Kd.R_away HO_4.out (fun _ hk => hk.1))); replace J6 := aa.mk (Kd.BZ (ok := (fun k_ => k_ ≠ jV)) (by (with_reducible repeat (first | apply Kd.bL | apply Kd.bM | apply Kd.bQ)); exact Kd.bG J6.out (fun _ hk => ⟨hk.2, hk.1.2⟩)) hg hat); replace HB := aa.mk (hb); clear HO_4; clear ho hb hg hat))
            go_roundg k2
            case measure => have := HJ10.out; have := HK2.out; omega
            case rel => exact ⟨(y142), (wrap64 (Ik + 1)), rs_, H', ⟨by have := HJ10.out; have := HK2.out; omega⟩, ⟨by (with_reducible repeat (first | apply Kd.bL | apply Kd.bM | apply Kd.bQ)); exact Kd.bG HO144.out (fun _ hk => hk.2)⟩, ⟨bk_⟩, ⟨bk_⟩, ⟨bl_⟩⟩
           ·rw [if_neg c38] at H; exact absurd H (by simp)
          ·rw [if_neg c36] at H; exact absurd H (by simp)
         ·rw [if_neg c35] at H; have c35b0 := decide_eq_false c35; clear c35; obtain rfl := Option.some.inj H; go_wp2; go_ret; exact ⟨_, re_, by (with_reducible repeat (first | apply Kd.bL | apply Kd.bM | apply Kd.bQ)); exact Kd.bG HO_4.out (fun _ hk => trivial), bl_⟩
      ·rw [if_neg c29] at H; obtain ⟨BL, BM⟩ := bn_ c29; have H' := aa.mk H; clear H; have hnb44 := jC.out; have hnc44 := sM.out; obtain ⟨hcz45_0, hcz45_1, hcz45_2, hcz45_3, hcz45_4, hfz45_0, hfz45_1, hfz45_2, hfz45_3, hfz45_4⟩ := bg fV.out; go_wp2; go_loopg [5, 53] kj10 (fun kq v5 v53 w' => ∃ (bY : List (S41)) (gm : Int), v53 = .int .i64 gm ∧ aa (aX.l1 kq bY af (af.length : Int) gm = some r) ∧ aa (kq ≤ kj10) ∧ aa (Kd.R k41 41 w' w.heap.size (fun k_ => k_ ≠ jV) v5 bY) ∧ aa (w'.heap[Bc]? = some (.cells #[.int .i64 ah, .int .i64 au, .int .i64 aj, .int .i64 ak, (.slice aM af.length aH)] 24 (0, 0))) ∧ aa (w'.heap[jV]? = some (.cells #[.int .i64 ah, .int .i64 0, .int .i64 0] 41 (0, 0))) ∧ aa (Below w.heap.size w w'))
       case atStart => exact ⟨(([] : List (S41))), (0), rs_, H', ⟨Nat.le_refl _⟩, ⟨by first | exact Kd.mh _ _ _ _ _ | exact Kd.yS _ _ _ _ _ | exact Kd.yU _ _ _ _ _ | exact Kd.yQ _ _ _ _ _ | exact Kd.yR _ _ _ _ _⟩, ⟨bk_⟩, ⟨bk_⟩, ⟨bl_⟩⟩
       case round =>
        clear H'; (try clear c1); (try clear p1); (try clear q1); (try clear hx1); (try clear qi1); (try clear c2); (try clear iZ); (try clear kR); (try clear p2); (try clear c3); (try clear c4); (try clear c6); (try clear p6); (try clear c13); (try clear p13); (try clear q13); (try clear hx13); (try clear qi13); (try clear c15); (try clear c18); (try clear qH); (try clear zi); (try clear c19); (try clear c20); (try clear c24); (try clear qG); (try clear F3); (try clear c25); (try clear c29); (try clear BL); (try clear BM); (try clear c30); (try clear c35); (try clear c35b0); (try clear c36); (try clear Eb); (try clear c36b1); (try clear c38); (try clear c39); (try clear c42); (try clear c44); (try clear nU nV nW oZ o5 nX nY nZ o6 o7); (try clear kC kD kE kF kG kH); (try clear mW mX mY mZ ng ni nk nu ny nz); (try clear kI kJ kK kL kM kN); (try clear uB uC uD vX vY uE uF uG vZ wh); (try clear xR xS xU zw zx xV xW xX zy zz); (try clear yj yl ym zP zQ yn yo yt zR zS); (try clear PM PN PO PQ PR PS PT PU PV PW); (try clear hcz45_0 hcz45_1 hcz45_2 hcz45_3 hcz45_4 hfz45_0 hfz45_1 hfz45_2 hfz45_3 hfz45_4); (try clear iA iB iC iD iE iF iG iH iI iJ); (try clear yV yX yY yZ za zb); (try clear rP rQ rR rT rU rV rW rX rY rZ); (try clear Il); (try clear Im); (try clear Io); (try clear Ip); (try clear Iq); (try clear p138); (try clear p2); (try clear q138); obtain ⟨bY, gm, rfl, HA, HK2, gy, fV, jl, HB⟩ := hrel; cases gk with
        | zero => exact absurd HA.out (by simp [aX.l1])
        | succ k2 =>
         have H := HA.out; clear HA; simp only [aX.l1] at H; by_cases c46 : gm < (af.length : Int)
         ·rw [if_pos c46] at H; have J7 := decide_eq_true c46; clear c46; by_cases c47 : 0 ≤ gm
          ·rw [if_pos c47] at H; have c47b0 := decide_eq_true c47; clear c47; by_cases c48 : gm < (af.length : Int)
           ·rw [if_pos c48] at H; have c48b0 := decide_eq_true c48; clear c48; replace H := Option.bind_eq_some_iff.mp H; obtain ⟨t147, A490, H⟩ := H; (try dsimp only at H)
            have A49 := aa.mk A490; clear A490; by_cases c50 : bY.length + t147.length < 5864062014805
            ·rw [if_pos c50] at H; have LMc50 := aa.mk c50; clear c50; obtain ⟨y150, hy150⟩ : ∃ y_ : List (S41), y_ = (bY ++ t147) := ⟨_, rfl⟩; replace H : (aX.l1 k2 y150 af (af.length : Int) (wrap64 (gm + 1))) = some r := by first | (rw [hy150]; with_reducible exact H) | (have H2_ := (Option.bind_some _ _).symm.trans H; rw [hy150]; with_reducible exact H2_) | (have H2_ := (Option.bind_some _ _).symm.trans H; with_reducible exact H2_) | with_reducible exact H | (rw [hy150]; exact H) | exact H
             have Ny150 := aa.mk hy150; clear hy150; have H' := aa.mk H; clear H; have p145 : 0 ≤ (gm : Int) := dt_; have q145 : gm < (af.length : Int) := dt_; obtain ⟨ad145, GH, GI, e145, PZ, P5, P6, P7, P8, P9, Qa⟩ := dZ bu.out gm p145 q145; cases e145; replace PZ := hc_ HB PZ; replace P5 := hc_ HB P5; replace P6 := hc_ HB P6; replace P7 := hc_ HB P7; replace P8 := hc_ HB P8; have HR145_4 := aa.mk Qa; have HC145_4 := aa.mk P9; clear Qa P9; replace p145 := eq_true p145; replace q145 := eq_true q145; go_wp2_with (first | ((with_reducible refine aW (N := 7) rfl ?_); refine bf ?hg (N := 7) ?hd (cs := #[.int .i64 0, .int .i64 0, .int .i64 0, .int .i64 0, .slice none 0 0]) (t := 24) ?hr ?_; (case hd => rfl); (case hg => rfl); (case hr => first | (go_simp; done) | (go_simp; rfl)); intro wm hg w51 aG hb; have Ir := aa.mk (aG); have GW146 : aa (w.heap.size ≤ wm) := gw_ hg (ax bl_); have GE146 := GW146; have SL := nl_ fV hg; have SN := ng_ fV hg; have SQ := nl_ jl hg; have SS := ng_ jl hg; replace gy := aa.mk (Kd.dM (pR_ gy.out) hb); replace fV := kb_ fV hb; replace jl := kb_ jl hb; replace HB := aa.mk (ai bl_ hb); clear hb aG hg; have hnb52 := SN.out; have hnc52 := SL.out; have hnb53 := SS.out; have hnc53 := SQ.out; obtain ⟨HZ, H5, H6, H7, H8, H9, Ia, Ib, Ic, Ie⟩ := bg Ir.out) | ((with_reducible refine aD (f := 42) rfl ?_); refine aZ (some 59) rfl rfl Tryd.func42 (by kernel_rfl) rfl #[.agg #[.int .i64 ((ag af gm).f0), .int .i64 ((ag af gm).f1), .int .i64 ((ag af gm).f2), .int .i64 ((ag af gm).f3), .slice GH ((ag af gm).f4).length GI]] rfl mp_ ?_; (with_reducible refine (ih k2 (by have := HJ10.out; have := HK2.out; omega) ((ag af gm).f0) ((ag af gm).f1) ((ag af gm).f2) ((ag af gm).f3) _ _ ((ag af gm).f4) t147 _ ?az ?aA A49.out).mono ?_); (case az => exact Kd.aK HR145_4.out bl_); (case aA => exact HC145_4.out); rintro e w55 ⟨v148, rfl, ho0, hb⟩; refine ⟨_, rfl, ?_⟩; have J8 := aa.mk (Kd.bC (Kd.Ep (Kd.cz ho0 (Kd.dQ (by (with_reducible repeat (first | apply Kd.bL | apply Kd.bM | apply Kd.bQ)); exact (Kd.bG (Kd.bI (p := ⟨wm, 4, none⟩) (Kd.bI (p := ⟨wm, 3, none⟩) (Kd.bI (p := ⟨wm, 2, none⟩) (Kd.bI (p := ⟨wm, 1, none⟩) (Kd.bI (p := ⟨wm, 0, none⟩) (Kd.gB gy.out Ir.out (by decide)) (fun _ hk => hk.2) (.int .i64 ((ag af gm).f0))) (fun _ hk => hk.2) (.int .i64 ((ag af gm).f1))) (fun _ hk => hk.2) (.int .i64 ((ag af gm).f2))) (fun _ hk => hk.2) (.int .i64 ((ag af gm).f3))) (fun _ hk => hk.2) (.slice GH ((ag af gm).f4).length GI)) (fun _ h_ => h_.1))))) (g := jV) (o := .cells #[.int .i64 ah, .int .i64 0, .int .i64 0] 41 (0, 0)) b5_) (ax bl_)); replace gy := aa.mk (Kd.cB (by (with_reducible repeat (first | apply Kd.bL | apply Kd.bM | apply Kd.bQ)); exact (Kd.bG (Kd.bI (p := ⟨wm, 4, none⟩) (Kd.bI (p := ⟨wm, 3, none⟩) (Kd.bI (p := ⟨wm, 2, none⟩) (Kd.bI (p := ⟨wm, 1, none⟩) (Kd.bI (p := ⟨wm, 0, none⟩) (Kd.gB gy.out Ir.out (by decide)) (fun _ hk => hk.2) (.int .i64 ((ag af gm).f0))) (fun _ hk => hk.2) (.int .i64 ((ag af gm).f1))) (fun _ hk => hk.2) (.int .i64 ((ag af gm).f2))) (fun _ hk => hk.2) (.int .i64 ((ag af gm).f3))) (fun _ hk => hk.2) (.slice GH ((ag af gm).f4).length GI)) (fun _ h_ => h_.1))) (Kd.cu ho0) hb); replace fV := aa.mk (dR (g := Bc) (o := .cells #[.int .i64 ah, .int .i64 au, .int .i64 aj, .int .i64 ak, .slice (some ad145) af.length aH] 24 (0, 0)) b5_ hb); replace jl := aa.mk (dR (g := jV) (o := .cells #[.int .i64 ah, .int .i64 0, .int .i64 0] 41 (0, 0)) b5_ hb); replace Ir := aa.mk (dR (g := wm) (o := .cells #[.int .i64 ((ag af gm).f0), .int .i64 ((ag af gm).f1), .int .i64 ((ag af gm).f2), .int .i64 ((ag af gm).f3), .slice GH ((ag af gm).f4).length GI] 24 (0, 0)) b5_ hb); replace HB := aa.mk (ai bl_ hb); (try clear hb); (try clear hb2); (try clear hk); (try clear hi); (try clear ho0); obtain ⟨Ao57, co57, eo57⟩ := Kd.bK J8.out; subst eo57) | ((with_reducible refine mf (b := .append) (xs := #[.tmp 57, .tmp 59]) rfl ?_); at_builtin; refine Kd.oW k41 (w0 := w) w.heap.size rfl (.tmp 57) (.tmp 59) 37 41 (.agg #[(.int .i64 0), (.int .i64 0), (.int .i64 0)]) 24 rfl Tryd.underlying37 JJ rfl (by decide) (by omega) u5 bY t147 _ _ _ (fun k_ => some k_ ≠ (.slice Ao57 t147.length co57 : Value).ownBlock ∧ k_ ≠ jV) (fun _ => False) rfl rfl ?aO ?aR (fun _ _ h => h) (fun _ h => h.elim) ?aF ?aB ?aS ?aL ?_; (case aR => exact cb_ ((Kd.aY J8.out).2.2)); (case aB => exact bl_); (case aF => exact (fun k_ hk => ⟨Kd.fresh' (Kd.dQ (pR_ J8.out)) k_ hk, Kd.freshB (g := jV) (o := .cells #[.int .i64 ah, .int .i64 0, .int .i64 0] 41 (0, 0)) bk_ k_ hk⟩)); (case aO => exact (by (with_reducible repeat (first | apply Kd.bL | apply Kd.bM | apply Kd.bQ)); exact Kd.bG gy.out (fun _ hk => ⟨hk.2, hk.1⟩))); (case aS => exact (ax bl_)); (case aL => have := LMc50.out; omega); intro v151 w56 ho hb hg hat; rw [← Ny150.out] at ho; have HO152 := aa.mk (ho); replace fV := aa.mk (qy (g := Bc) (o := .cells #[.int .i64 ah, .int .i64 au, .int .i64 aj, .int .i64 ak, .slice (some ad145) af.length aH] 24 (0, 0)) bk_ hg (Kd.R_ne gy.out fV.out (by decide))); replace jl := aa.mk (qy (g := jV) (o := .cells #[.int .i64 ah, .int .i64 0, .int .i64 0] 41 (0, 0)) bk_ hg (Kd.R_away gy.out (fun _ hk => hk.1))); replace Ir := aa.mk (qy (g := wm) (o := .cells #[.int .i64 ((ag af gm).f0), .int .i64 ((ag af gm).f1), .int .i64 ((ag af gm).f2), .int .i64 ((ag af gm).f3), .slice GH ((ag af gm).f4).length GI] 24 (0, 0)) bk_ hg (Kd.R_ne gy.out Ir.out (by decide))); replace J8 := aa.mk (Kd.BZ (ok := (fun k_ => k_ ≠ jV)) (by (with_reducible repeat (first | apply Kd.bL | apply Kd.bM | apply Kd.bQ)); exact Kd.bG J8.out (fun _ hk => ⟨hk.2, hk.1.2⟩)) hg hat); replace HB := aa.mk (hb); clear gy; clear ho hb hg hat))
             go_roundg k2
             case measure => have := HJ10.out; have := HK2.out; omega
             case rel => exact ⟨(y150), (wrap64 (gm + 1)), rs_, H', ⟨by have := HJ10.out; have := HK2.out; omega⟩, ⟨by (with_reducible repeat (first | apply Kd.bL | apply Kd.bM | apply Kd.bQ)); exact Kd.bG HO152.out (fun _ hk => hk.2)⟩, ⟨bk_⟩, ⟨bk_⟩, ⟨bl_⟩⟩
            ·rw [if_neg c50] at H; exact absurd H (by simp)
           ·rw [if_neg c48] at H; exact absurd H (by simp)
          ·rw [if_neg c47] at H; exact absurd H (by simp)
         ·rw [if_neg c46] at H; have J7 := decide_eq_false c46; clear c46; obtain rfl := Option.some.inj H; go_wp2; go_ret; exact ⟨_, re_, by (with_reducible repeat (first | apply Kd.bL | apply Kd.bM | apply Kd.bQ)); exact Kd.bG gy.out (fun _ hk => trivial), bl_⟩

end Go.Proofs.YtggelekooacmnaaDoor.Q
namespace Go.Proofs.YtggelekooacmnaaDoor.Q
open Go.RowKit Go.Proofs.YtggelekooacmnaaDoorW.aU Go.Proofs.YtggelekooacmnaaDoorW.bD Go.Proofs.YtggelekooacmnaaDoorW.bH
attribute [local go_sem] dB dC dN dO cO cZ dD dE   -- for this text's walks alone
set_option linter.unusedVariables false
set_option linter.unusedSimpArgs false

theorem eqA41 (d : Nat) (w : World) (x0 y0 : Int) (x1 y1 : Int) (x2 y2 : Int) :
    (Op.equalIn (d + 2) 41 (.agg #[.int .i64 x0, .int .i64 x1, .int .i64 x2]) (.agg #[.int .i64 y0, .int .i64 y1, .int .i64 y2])).run Tryd.prog w = .ok (x0 == y0 && (x1 == y1 && (x2 == y2))) w := by
  refine eqA_of Tryd.underlying41 (by kernel_rfl) ?_
  refine Ox (by rfl) (by go_simp; rfl) (by go_simp; rfl) (by go_simp) ?_
  refine Ox (by rfl) (by go_simp; rfl) (by go_simp; rfl) (by go_simp) ?_
  exact eqf_last (by rfl) (by go_simp; rfl) (by go_simp; rfl) (by go_simp)
end Go.Proofs.YtggelekooacmnaaDoor.Q
namespace Go.Proofs.YtggelekooacmnaaDoor.Q
open Go.RowKit Go.Proofs.YtggelekooacmnaaDoorW.aU Go.Proofs.YtggelekooacmnaaDoorW.bD Go.Proofs.YtggelekooacmnaaDoorW.bH
attribute [local go_sem] dB dC dN dO cO cZ dD dE   -- for this text's walks alone
set_option linter.unusedVariables false
set_option linter.unusedSimpArgs false

attribute [local go_sem high] eqA41
/-! ### jL: function 70 -/
def jL.f (ah : Int) (au : Int) (aj : Int) : Option (Bool) := some (ah == 1 && (au == 0 && (aj == 1)))
set_option maxHeartbeats 8000000 in
set_option maxRecDepth 100000 in
theorem jL.calls (ah : Int) (au : Int) (aj : Int) (r : Bool) (w : World) (h : jL.f ah au aj = some r) :
    Calls Tryd.prog 70 #[.agg #[.int .i64 ah, .int .i64 au, .int .i64 aj]] w fun e w' => e = .returned (.bool r) ∧ Below w.heap.size w w' := by
  have hu41 := Tryd.underlying41
  have HB := aa.mk (Below.refl w.heap.size w)
  have H : (some (ah == 1 && (au == 0 && (aj == 1)))) = some r := h
  clear h
  obtain rfl := Option.some.inj H
  go_enter Tryd.func70, Tryd.ntmps70
  go_wp2_with (first | ((with_reducible refine aW (N := 1) rfl ?_); refine bf ?hg (N := 1) ?hd (cs := #[.int .i64 ah, .int .i64 au, .int .i64 aj]) (t := 41) ?hr ?_; (case hd => rfl); (case hg => rfl); (case hr => first | (go_simp; done) | (go_simp; rfl)); intro J9 hg w2 aG hb; have n0_ := aa.mk (ai (by repeat (first | (with_reducible first | exact HB.out | apply cK | apply bS | apply bR) | exact HB.out)) hb); have n1_ := aa.mk (aG); have n2_ := aa.mk ((by rw [hg]; exact (ax (by repeat (first | (with_reducible first | exact HB.out | apply cK | apply bS | apply bR) | exact HB.out))) : w.heap.size ≤ J9)); have n3_ := aa.mk ((by rw [hg]; exact (ax (by repeat (first | (with_reducible first | exact HB.out | apply cK | apply bS | apply bR) | exact HB.out))) : w.heap.size ≤ J9)); clear HB; have HB := n0_; have Iu := n1_; have GW153 := n2_; have GE153 := n3_; clear n0_ n1_ n2_ n3_; clear hb aG hg; have hcz3_0 : w2.cell? ⟨J9, 0, none⟩ = some (.int .i64 ah) := (av Iu.out 0).trans rfl; have hcz3_1 : w2.cell? ⟨J9, 1, none⟩ = some (.int .i64 au) := (av Iu.out 1).trans rfl; have hcz3_2 : w2.cell? ⟨J9, 2, none⟩ = some (.int .i64 aj) := (av Iu.out 2).trans rfl; have hfz3_0 := fo Iu.out 0; have hfz3_1 := fo Iu.out 1; have hfz3_2 := fo Iu.out 2))
  go_ret
  exact ⟨by first | rfl | (simp [eT, eU] <;> rfl) | (simp [*, eT, eU] <;> rfl), by repeat (first | (with_reducible first | exact HB.out | apply cK | apply bS | apply bR | refine jA ?_ GE153.out) | exact HB.out)⟩

end Go.Proofs.YtggelekooacmnaaDoor.Q
namespace Go.Proofs.YtggelekooacmnaaDoor.Q
open Go.RowKit Go.Proofs.YtggelekooacmnaaDoorW.aU Go.Proofs.YtggelekooacmnaaDoorW.bD Go.Proofs.YtggelekooacmnaaDoorW.bH
attribute [local go_sem] dB dC dN dO cO cZ dD dE   -- for this text's walks alone
set_option linter.unusedVariables false
set_option linter.unusedSimpArgs false

/-! ### types_size: function 41 -/
mutual
def types_size.l0 : Nat → Int → List (S24) → Int → Int → Option (Int)
 | 0, _, _, _, _ => none
 | k + 1, x3, x15, x16, x17 => if x17 < x16 then (if 0 ≤ x17 then (if x17 < (x15.length : Int) then ((types_size.f k ((ag x15 x17).f0) ((ag x15 x17).f1) ((ag x15 x17).f2) ((ag x15 x17).f3) ((ag x15 x17).f4)).bind fun t157 => (types_size.l0 k (mn (wrap64 (x3 * t157)) 1073741825) x15 x16 (wrap64 (x17 + 1)))) else (none)) else (none)) else (some x3)
def types_size.l1 : Nat → Int → Int → Int → Int → Int → Option (Int)
 | 0, _, _, _, _, _ => none
 | k + 1, x6, x7, x8, x36, x37 => if x37 < x36 then (types_size.l1 k (mn (wrap64 (x6 + (mn (wrap64 (x7 * x8)) 1073741825))) 1073741825) (mn (wrap64 (x7 * x8)) 1073741825) x8 x36 (wrap64 (x37 + 1))) else (some x6)
def types_size.f : Nat → Int → Int → Int → Int → List (S24) → Option (Int)
 | 0, _, _, _, _, _ => none
 | k + 1, ah, au, aj, ak, af => if ah = 5 then (types_size.l0 k 1 af (af.length : Int) 0) else (if ah = 6 then (if 0 < (af.length : Int) then ((types_size.f k ((ag af 0).f0) ((ag af 0).f1) ((ag af 0).f2) ((ag af 0).f3) ((ag af 0).f4)).bind fun t159 => (types_size.l1 k 1 1 t159 ak 0)) else (none)) else ((aX.f k ah au aj ak af).bind fun t160 => (if 0 < (t160.length : Int) then ((jL.f ((dH t160 0).f0) ((dH t160 0).f1) ((dH t160 0).f2)).bind fun t165 => (if t165 = true then (some 2) else (some (wrap64 ((wrap64 (((dH t160 0).f2) - ((dH t160 0).f1))) + 1))))) else (none))))
end
theorem types_size.fA : ∀ k, (∀ y0 y1 y2 y3 y4, LeO (types_size.f k y0 y1 y2 y3 y4) (types_size.f (k + 1) y0 y1 y2 y3 y4)) ∧ (∀ y0 y1 y2 y3, LeO (types_size.l0 k y0 y1 y2 y3) (types_size.l0 (k + 1) y0 y1 y2 y3)) ∧ (∀ y0 y1 y2 y3 y4, LeO (types_size.l1 k y0 y1 y2 y3 y4) (types_size.l1 (k + 1) y0 y1 y2 y3 y4))
 | 0 => ⟨fun _ _ _ _ _ r h => by simp [types_size.f] at h, fun _ _ _ _ r h => by simp [types_size.l0] at h, fun _ _ _ _ _ r h => by simp [types_size.l1] at h⟩
 | k + 1 => by
  obtain ⟨ih0, ih1, ih2⟩ := types_size.fA k; refine ⟨?_, ?_, ?_⟩
  ·intro y0 y1 y2 y3 y4; unfold types_size.f; repeat' first
   | (with_reducible exact ih0 _ _ _ _ _)
   | (with_reducible exact ih1 _ _ _ _)
   | (with_reducible exact ih2 _ _ _ _ _)
   | (with_reducible exact aX.mono _ _ _ _ _ _)
   | (with_reducible exact LeO.refl _)
   | (with_reducible exact LeO.none _)
   | (with_reducible refine LeO.ite ?_ ?_)
   | (with_reducible refine LeO.bind ?_ (fun _ => ?_))
   | exact ih0 _ _ _ _ _
   | exact ih1 _ _ _ _
   | exact ih2 _ _ _ _ _
   | exact aX.mono _ _ _ _ _ _
   | exact LeO.none _
   | refine LeO.ite ?_ ?_
   | refine LeO.bind ?_ (fun _ => ?_)
  ·intro y0 y1 y2 y3; unfold types_size.l0; repeat' first
   | (with_reducible exact ih0 _ _ _ _ _)
   | (with_reducible exact ih1 _ _ _ _)
   | (with_reducible exact ih2 _ _ _ _ _)
   | (with_reducible exact aX.mono _ _ _ _ _ _)
   | (with_reducible exact LeO.refl _)
   | (with_reducible exact LeO.none _)
   | (with_reducible refine LeO.ite ?_ ?_)
   | (with_reducible refine LeO.bind ?_ (fun _ => ?_))
   | exact ih0 _ _ _ _ _
   | exact ih1 _ _ _ _
   | exact ih2 _ _ _ _ _
   | exact aX.mono _ _ _ _ _ _
   | exact LeO.none _
   | refine LeO.ite ?_ ?_
   | refine LeO.bind ?_ (fun _ => ?_)
  ·intro y0 y1 y2 y3 y4; unfold types_size.l1; repeat' first
   | (with_reducible exact ih0 _ _ _ _ _)
   | (with_reducible exact ih1 _ _ _ _)
   | (with_reducible exact ih2 _ _ _ _ _)
   | (with_reducible exact aX.mono _ _ _ _ _ _)
   | (with_reducible exact LeO.refl _)
   | (with_reducible exact LeO.none _)
   | (with_reducible refine LeO.ite ?_ ?_)
   | (with_reducible refine LeO.bind ?_ (fun _ => ?_))
   | exact ih0 _ _ _ _ _
   | exact ih1 _ _ _ _
   | exact ih2 _ _ _ _ _
   | exact aX.mono _ _ _ _ _ _
   | exact LeO.none _
   | refine LeO.ite ?_ ?_
   | refine LeO.bind ?_ (fun _ => ?_)
theorem types_size.mono : ∀ a0 a1 a2 a3 a4 k, LeO (types_size.f k a0 a1 a2 a3 a4) (types_size.f (k + 1) a0 a1 a2 a3 a4) := by
 intro a0 a1 a2 a3 a4 k; obtain ⟨ih0, ih1, ih2⟩ := types_size.fA k; exact ih0 a0 a1 a2 a3 a4
set_option maxHeartbeats 8000000 in
set_option maxRecDepth 100000 in
theorem types_size.calls (k : Nat) : ∀ (ah : Int) (au : Int) (aj : Int) (ak : Int) (aM : Option Addr) (aH : Nat) (af : List (S24)) (r : Int) (w : World) (di : Kd.C k24 w aM af.length af) (dm : af.length ≤ aH) (h : types_size.f k ah au aj ak af = some r),
  Calls Tryd.prog 41 #[.agg #[.int .i64 ah, .int .i64 au, .int .i64 aj, .int .i64 ak, .slice aM af.length aH]] w fun e w' => e = .returned (.int .i64 r) ∧ Below w.heap.size w w' := by
 induction k using Nat.strongRecOn with
 | _ k ih =>
 intro ah au aj ak aM aH af r w di dm h; cases k with
 | zero => exact absurd h (by simp [types_size.f])
 | succ k =>
 simp only [types_size.f] at h; have mg := Tryd.underlying24; have hu41 := Tryd.underlying41; have bu := aa.mk di; have bU := aa.mk dm; clear di dm; have HB := aa.mk (Below.refl w.heap.size w); have H : (if ah = 5 then (types_size.l0 k 1 af (af.length : Int) 0) else (if ah = 6 then (if 0 < (af.length : Int) then ((types_size.f k ((ag af 0).f0) ((ag af 0).f1) ((ag af 0).f2) ((ag af 0).f3) ((ag af 0).f4)).bind fun t159 => (types_size.l1 k 1 1 t159 ak 0)) else (none)) else ((aX.f k ah au aj ak af).bind fun t160 => (if 0 < (t160.length : Int) then ((jL.f ((dH t160 0).f0) ((dH t160 0).f1) ((dH t160 0).f2)).bind fun t165 => (if t165 = true then (some 2) else (some (wrap64 ((wrap64 (((dH t160 0).f2) - ((dH t160 0).f1))) + 1))))) else (none))))) = some r := h; clear h; by_cases c2 : ah = 5
 ·rw [if_pos c2] at H; obtain ⟨iZ, kR⟩ := bq_ c2; clear c2; have H' := aa.mk H; clear H; go_enter Tryd.func41, Tryd.ntmps41; go_wp2_with (first | ((with_reducible refine aW (N := 1) rfl ?_); refine bf ?hg (N := 1) ?hd (cs := #[.int .i64 ah, .int .i64 au, .int .i64 aj, .int .i64 ak, .slice aM af.length aH]) (t := 24) ?hr ?_; (case hd => rfl); (case hg => rfl); (case hr => first | (go_simp; done) | (go_simp; rfl)); intro xD hg w3 aG hb; have ik := aa.mk (aG); have F8 : aa (w.heap.size ≤ xD) := gw_ hg (ax bl_); have GE154 := F8; replace HB := aa.mk (ai bl_ hb); clear hb aG hg; obtain ⟨iA, iB, iC, iD, iE, iF, iG, iH, iI, iJ⟩ := bg ik.out))
  go_loopg [3, 17] k (fun kq v3 v17 w' => ∃ (dL : Int) (jD : Int), v3 = .int .i64 dL ∧ v17 = .int .i64 jD ∧ aa (types_size.l0 kq dL af (af.length : Int) jD = some r) ∧ aa (kq ≤ k) ∧ aa (w'.heap[xD]? = some (.cells #[.int .i64 ah, .int .i64 au, .int .i64 aj, .int .i64 ak, (.slice aM af.length aH)] 24 (0, 0))) ∧ aa (Below w.heap.size w w'))
  case atStart => exact ⟨(1), (0), rs_, rs_, H', ⟨Nat.le_refl _⟩, ⟨bk_⟩, ⟨bl_⟩⟩
  case round =>
   clear H'; (try clear c2); (try clear iZ); (try clear kR); (try clear p2); (try clear c4); (try clear iA iB iC iD iE iF iG iH iI iJ); obtain ⟨dL, jD, rfl, rfl, HA, HK1, ik, HB⟩ := hrel; cases gk with
   | zero => exact absurd HA.out (by simp [types_size.l0])
   | succ k1 =>
    have H := HA.out; clear HA; simp only [types_size.l0] at H; by_cases c5 : jD < (af.length : Int)
    ·rw [if_pos c5] at H; have gQ := decide_eq_true c5; clear c5; by_cases c6 : 0 ≤ jD
     ·rw [if_pos c6] at H; have uT := decide_eq_true c6; clear c6; by_cases c7 : jD < (af.length : Int)
      ·rw [if_pos c7] at H; have jM := decide_eq_true c7; clear c7; replace H := Option.bind_eq_some_iff.mp H; obtain ⟨t157, A80, H⟩ := H; (try dsimp only at H)
       have A8 := aa.mk A80; clear A80; obtain ⟨ji9, hji9⟩ : ∃ j_ : Int, (mn (wrap64 (dL * t157)) 1073741825) = j_ := ⟨_, rfl⟩; replace H : (types_size.l0 k1 ji9 af (af.length : Int) (wrap64 (jD + 1))) = some r := by first | (rw [hji9] at H; exact H) | (simp only [hji9] at H ⊢; exact H)
       (try rw [hji9] at A8)
       have hji9_ : (if 1073741825 < (wrap64 (dL * t157)) then 1073741825 else (wrap64 (dL * t157))) = ji9 := hji9; have H' := aa.mk H; clear H; have p155 : 0 ≤ (jD : Int) := dt_; have q155 : jD < (af.length : Int) := dt_; obtain ⟨ad155, A155_4, c155_4, e155, M7, M8, M9, Na, Nb, Qb, Qc⟩ := dZ bu.out jD p155 q155; cases e155; replace M7 := hc_ HB M7; replace M8 := hc_ HB M8; replace M9 := hc_ HB M9; replace Na := hc_ HB Na; replace Nb := hc_ HB Nb; have HR155_4 := aa.mk Qc; have HC155_4 := aa.mk Qb; clear Qc Qb; replace p155 := eq_true p155; replace q155 := eq_true q155; go_wp2_with (first | ((with_reducible refine aW (N := 5) rfl ?_); refine bf ?hg (N := 5) ?hd (cs := #[.int .i64 0, .int .i64 0, .int .i64 0, .int .i64 0, .slice none 0 0]) (t := 24) ?hr ?_; (case hd => rfl); (case hg => rfl); (case hr => first | (go_simp; done) | (go_simp; rfl)); intro gb156 hg w10 aG hb; have BK156 := aa.mk (aG); have GW156 : aa (w.heap.size ≤ gb156) := gw_ hg (ax bl_); have GE156 := GW156; have SV := nl_ ik hg; have SX := ng_ ik hg; replace ik := kb_ ik hb; replace HB := aa.mk (ai bl_ hb); clear hb aG hg; have hnb11 := SX.out; have hnc11 := SV.out; obtain ⟨rz, rA, rC, rD, rE, rF, rG, rH, rJ, rM⟩ := bg BK156.out) | ((with_reducible refine aD (f := 41) rfl ?_); refine aZ (some 23) rfl rfl Tryd.func41 (by kernel_rfl) rfl #[.agg #[.int .i64 ((ag af jD).f0), .int .i64 ((ag af jD).f1), .int .i64 ((ag af jD).f2), .int .i64 ((ag af jD).f3), .slice A155_4 ((ag af jD).f4).length c155_4]] rfl mp_ ?_; (with_reducible refine (ih k1 (by have := HK1.out; omega) ((ag af jD).f0) ((ag af jD).f1) ((ag af jD).f2) ((ag af jD).f3) _ _ ((ag af jD).f4) t157 _ ?az ?aA A8.out).mono ?_); (case az => exact Kd.aK HR155_4.out bl_); (case aA => exact HC155_4.out); rintro e w13 ⟨rfl, hb⟩; refine ⟨_, rfl, ?_⟩; replace ik := aa.mk (dR (g := xD) (o := .cells #[.int .i64 ah, .int .i64 au, .int .i64 aj, .int .i64 ak, .slice (some ad155) af.length aH] 24 (0, 0)) b5_ hb); replace BK156 := aa.mk (dR (g := gb156) (o := .cells #[.int .i64 ((ag af jD).f0), .int .i64 ((ag af jD).f1), .int .i64 ((ag af jD).f2), .int .i64 ((ag af jD).f3), .slice A155_4 ((ag af jD).f4).length c155_4] 24 (0, 0)) b5_ hb); replace HB := aa.mk (ai bl_ hb); (try clear hb); (try clear hb2); (try clear hk); (try clear hi)))
       go_roundg k1
       case measure => have := HK1.out; omega
       case rel => exact ⟨(ji9), (wrap64 (jD + 1)), (by first | rfl | (simp; done) | (simp only [← hji9] <;> (first | rfl | simp)) | (simp [*]; done)), rs_, H', ⟨by have := HK1.out; omega⟩, ⟨bk_⟩, ⟨bl_⟩⟩
      ·rw [if_neg c7] at H; exact absurd H (by simp)
     ·rw [if_neg c6] at H; exact absurd H (by simp)
    ·rw [if_neg c5] at H; have gQ := decide_eq_false c5; clear c5; obtain rfl := Option.some.inj H; go_wp2; go_ret; exact ⟨re_, bl_⟩
 ·rw [if_neg c2] at H; obtain ⟨iZ, kR⟩ := bn_ c2; by_cases c14 : ah = 6
  ·rw [if_pos c14] at H; obtain ⟨AY, JP⟩ := bq_ c14; clear c14; by_cases c15 : 0 < (af.length : Int)
   ·rw [if_pos c15] at H; have uM := decide_eq_true c15; have D7 : decide (0 < af.length) = true := decide_eq_true (by omega); clear c15; replace H := Option.bind_eq_some_iff.mp H; obtain ⟨t159, A160, H⟩ := H; (try dsimp only at H)
    have A16 := aa.mk A160; clear A160; have H' := aa.mk H; clear H; go_enter Tryd.func41, Tryd.ntmps41; go_wp2_with (first | ((with_reducible refine aW (N := 1) rfl ?_); refine bf ?hg (N := 1) ?hd (cs := #[.int .i64 ah, .int .i64 au, .int .i64 aj, .int .i64 ak, .slice aM af.length aH]) (t := 24) ?hr ?_; (case hd => rfl); (case hg => rfl); (case hr => first | (go_simp; done) | (go_simp; rfl)); intro xD hg w17 aG hb; have ik := aa.mk (aG); have F8 : aa (w.heap.size ≤ xD) := gw_ hg (ax bl_); have GE154 := F8; replace HB := aa.mk (ai bl_ hb); clear hb aG hg; obtain ⟨mq, mr, mD, og, oh, mE, mF, mG, om, oo⟩ := bg ik.out; have p158 : 0 ≤ (0 : Int) := (by omega); have q158 : 0 < (af.length : Int) := dt_; obtain ⟨ad158, A158_4, c158_4, e158, Iw, Iy, Iz, IA, IB, Qd, Qe⟩ := dZ bu.out 0 p158 q158; cases e158; have qi158 : (0 < af.length) = True := eq_true (by omega); (try simp only [z0_, Nat.zero_mul, Addr.add_zero'] at Iw); (try simp only [z0_, Nat.zero_mul, Addr.add_zero'] at Iy); (try simp only [z0_, Nat.zero_mul, Addr.add_zero'] at Iz); (try simp only [z0_, Nat.zero_mul, Addr.add_zero'] at IA); (try simp only [z0_, Nat.zero_mul, Addr.add_zero'] at IB); replace Iw := hc_ HB Iw; replace Iy := hc_ HB Iy; replace Iz := hc_ HB Iz; replace IA := hc_ HB IA; replace IB := hc_ HB IB; have HR158_4 := aa.mk Qe; have HC158_4 := aa.mk Qd; clear Qe Qd; replace p158 := eq_true p158; replace q158 := eq_true q158) | ((with_reducible refine aD (f := 41) rfl ?_); refine aZ (some 34) rfl rfl Tryd.func41 (by kernel_rfl) rfl #[.agg #[.int .i64 ((ag af 0).f0), .int .i64 ((ag af 0).f1), .int .i64 ((ag af 0).f2), .int .i64 ((ag af 0).f3), .slice A158_4 ((ag af 0).f4).length c158_4]] rfl mp_ ?_; (with_reducible refine (ih k (by omega) ((ag af 0).f0) ((ag af 0).f1) ((ag af 0).f2) ((ag af 0).f3) _ _ ((ag af 0).f4) t159 _ ?az ?aA A16.out).mono ?_); (case az => exact cb_ (Kd.aK HR158_4.out HB.out)); (case aA => exact HC158_4.out); rintro e w19 ⟨rfl, hb⟩; refine ⟨_, rfl, ?_⟩; replace ik := kb_ ik hb; replace HB := aa.mk (ai bl_ hb); (try clear hb); (try clear hb2); (try clear hk); (try clear hi); obtain ⟨mH, mI, mJ, oq, ou, mK, mM, mO, ow, oz⟩ := bg ik.out))
    go_loopg [6, 7, 37] k (fun kq v6 v7 v37 w' => ∃ (eY : Int) (dK : Int) (F9 : Int), v6 = .int .i64 eY ∧ v7 = .int .i64 dK ∧ v37 = .int .i64 F9 ∧ aa (types_size.l1 kq eY dK t159 ak F9 = some r) ∧ aa (kq ≤ k) ∧ aa (w'.heap[xD]? = some (.cells #[.int .i64 ah, .int .i64 au, .int .i64 aj, .int .i64 ak, (.slice (some ad158) af.length aH)] 24 (0, 0))) ∧ aa (Below w.heap.size w w'))
    case atStart => exact ⟨(1), (1), (0), rs_, rs_, rs_, H', ⟨Nat.le_refl _⟩, ⟨bk_⟩, ⟨bl_⟩⟩
    case round =>
     clear H'; (try clear c1); (try clear p1); (try clear q1); (try clear hx1); (try clear qi1); (try clear c2); (try clear iZ); (try clear kR); (try clear p2); (try clear c4); (try clear c5); (try clear gQ); (try clear c6); (try clear uT); (try clear p6); (try clear c7); (try clear jM); (try clear c11); (try clear c14); (try clear AY); (try clear JP); (try clear c15); (try clear uM); (try clear D7); (try clear p15); (try clear q15); (try clear hx15); (try clear qi15); (try clear rz rA rC rD rE rF rG rH rJ rM); (try clear mq mr mD og oh mE mF mG om oo); (try clear mH mI mJ oq ou mK mM mO ow oz); (try clear iA iB iC iD iE iF iG iH iI iJ); (try clear M7); (try clear M8); (try clear M9); (try clear Na); (try clear Nb); (try clear Iw); (try clear Iy); (try clear Iz); (try clear IA); (try clear IB); (try clear p155); (try clear p158); (try clear p2); (try clear q155); (try clear q158); obtain ⟨eY, dK, F9, rfl, rfl, rfl, HA, HK1, ik, HB⟩ := hrel; cases gk with
     | zero => exact absurd HA.out (by simp [types_size.l1])
     | succ k1 =>
      have H := HA.out; clear HA; simp only [types_size.l1] at H; by_cases c21 : F9 < ak
      ·rw [if_pos c21] at H; have AZ := decide_eq_true c21; clear c21; obtain ⟨ji22, hji22⟩ : ∃ j_ : Int, (mn (wrap64 (dK * t159)) 1073741825) = j_ := ⟨_, rfl⟩; replace H : (types_size.l1 k1 (mn (wrap64 (eY + (ji22))) 1073741825) ji22 t159 ak (wrap64 (F9 + 1))) = some r := by first | (rw [hji22] at H; exact H) | (simp only [hji22] at H ⊢; exact H)
       have hji22_ : (if 1073741825 < (wrap64 (dK * t159)) then 1073741825 else (wrap64 (dK * t159))) = ji22 := hji22; obtain ⟨ji23, hji23⟩ : ∃ j_ : Int, (mn (wrap64 (eY + (ji22))) 1073741825) = j_ := ⟨_, rfl⟩; replace H : (types_size.l1 k1 ji23 ji22 t159 ak (wrap64 (F9 + 1))) = some r := by first | (rw [hji23] at H; exact H) | (simp only [hji23] at H ⊢; exact H)
       have hji23_ : (if 1073741825 < (wrap64 (eY + (ji22))) then 1073741825 else (wrap64 (eY + (ji22)))) = ji23 := hji23; have H' := aa.mk H; clear H; go_wp2; go_roundg k1
       case measure => have := HK1.out; omega
       case rel => exact ⟨(ji23), (ji22), (wrap64 (F9 + 1)), (by first | rfl | (simp; done) | (simp only [← hji23] <;> (first | rfl | simp)) | (simp [*]; done)), (by first | rfl | (simp; done) | (simp only [← hji22] <;> (first | rfl | simp)) | (simp [*]; done)), rs_, H', ⟨by have := HK1.out; omega⟩, ⟨bk_⟩, ⟨bl_⟩⟩
      ·rw [if_neg c21] at H; have AZ := decide_eq_false c21; clear c21; obtain rfl := Option.some.inj H; go_wp2; go_ret; exact ⟨re_, bl_⟩
   ·rw [if_neg c15] at H; exact absurd H (by simp)
  ·rw [if_neg c14] at H; obtain ⟨AY, JP⟩ := bn_ c14; replace H := Option.bind_eq_some_iff.mp H; obtain ⟨t160, A240, H⟩ := H; (try dsimp only at H)
   have A24 := aa.mk A240; clear A240; by_cases c25 : 0 < (t160.length : Int)
   ·rw [if_pos c25] at H; have D8 := decide_eq_true c25; have D9 : decide (0 < t160.length) = true := decide_eq_true (by omega); clear c25; replace H := Option.bind_eq_some_iff.mp H; obtain ⟨t165, A260, H⟩ := H; (try dsimp only at H)
    have A26 := aa.mk A260; clear A260; by_cases c27 : t165 = true
    ·subst c27; have H1 : (some 2) = some r := by rw [if_pos rfl] at H; exact H
     clear H; have H := H1; clear H1; obtain rfl := Option.some.inj H; go_enter Tryd.func41, Tryd.ntmps41; go_wp2_with (first | ((with_reducible refine aW (N := 1) rfl ?_); refine bf ?hg (N := 1) ?hd (cs := #[.int .i64 ah, .int .i64 au, .int .i64 aj, .int .i64 ak, .slice aM af.length aH]) (t := 24) ?hr ?_; (case hd => rfl); (case hg => rfl); (case hr => first | (go_simp; done) | (go_simp; rfl)); intro xD hg w28 aG hb; have ik := aa.mk (aG); have F8 : aa (w.heap.size ≤ xD) := gw_ hg (ax bl_); have GE154 := F8; replace HB := aa.mk (ai bl_ hb); clear hb aG hg; obtain ⟨Cb, Cc, Ce, Cf, Cg, Ch, Ci, Cj, Ck, Cm⟩ := bg ik.out) | ((with_reducible refine aD (f := 42) rfl ?_); refine aZ (some 50) rfl rfl Tryd.func42 (by kernel_rfl) rfl #[.agg #[.int .i64 ah, .int .i64 au, .int .i64 aj, .int .i64 ak, .slice aM af.length aH]] rfl mp_ ?_; (with_reducible refine (aX.calls k ah au aj ak _ _ af t160 _ ?az ?aA A24.out).mono ?_); (case az => exact cb_ (Kd.aK bu.out HB.out)); (case aA => exact bU.out); rintro e w30 ⟨v161, rfl, ho0, hb⟩; refine ⟨_, rfl, ?_⟩; have wo := aa.mk (Kd.bC ho0 (ax bl_)); replace ik := kb_ ik hb; replace HB := aa.mk (ai bl_ hb); (try clear hb); (try clear hb2); (try clear hk); (try clear hi); (try clear ho0); obtain ⟨Ao31, co31, eo31⟩ := Kd.bK wo.out; subst eo31; have p163 : 0 ≤ (0 : Int) := (by omega); have q163 : 0 < (t160.length : Int) := dt_; obtain ⟨ad163, e163, Nc, Nf, Ng⟩ := Ew (Kd.aY wo.out).2.2 0 p163 q163; cases e163; have qi163 : (0 < t160.length) = True := eq_true (by omega); (try simp only [z0_, Nat.zero_mul, Addr.add_zero'] at Nc); (try simp only [z0_, Nat.zero_mul, Addr.add_zero'] at Nf); (try simp only [z0_, Nat.zero_mul, Addr.add_zero'] at Ng); replace p163 := eq_true p163; replace q163 := eq_true q163) | ((with_reducible refine aW (N := 9) rfl ?_); refine bf ?hg (N := 9) ?hd (cs := #[.int .i64 0, .int .i64 0, .int .i64 0]) (t := 41) ?hr ?_; (case hd => rfl); (case hg => rfl); (case hr => first | (go_simp; done) | (go_simp; rfl)); intro sU hg w32 aG hb; have IC := aa.mk (aG); have GW164 : aa (w.heap.size ≤ sU) := gw_ hg (ax bl_); have GE164 := GW164; have GJ := nl_ ik hg; have GK := ng_ ik hg; replace wo := aa.mk (Kd.dM (Kd.zt (pR_ wo.out) sU (Nat.le_of_eq hg.symm)) hb); replace ik := kb_ ik hb; replace HB := aa.mk (ai bl_ hb); clear hb aG hg; have hnb33 := GK.out; have hnc33 := GJ.out; obtain ⟨yj, yl, ym, yn, yo, yt⟩ := lD IC.out) | ((with_reducible refine aD (f := 70) rfl ?_); refine aZ (some 54) rfl rfl Tryd.func70 (by kernel_rfl) rfl #[.agg #[.int .i64 ((dH t160 0).f0), .int .i64 ((dH t160 0).f1), .int .i64 ((dH t160 0).f2)]] rfl mp_ ?_; (with_reducible refine (jL.calls ((dH t160 0).f0) ((dH t160 0).f1) ((dH t160 0).f2) true _ A26.out).mono ?_); rintro e w35 ⟨rfl, hb⟩; refine ⟨_, rfl, ?_⟩; replace wo := aa.mk (Kd.dM (by (with_reducible repeat (first | apply Kd.bL | apply Kd.bM | apply Kd.bQ)); exact (Kd.bG (Kd.bI (p := ⟨sU, 2, none⟩) (Kd.bI (p := ⟨sU, 1, none⟩) (Kd.bI (p := ⟨sU, 0, none⟩) (Kd.bG wo.out (fun k_ hk => (⟨hk, by first | exact hk.2 | exact hk.1 | exact hk.2 | exact hk.1.1 | exact hk.1.2⟩ : _ ∧ k_ ≠ sU))) (fun _ hk => hk.2) (.int .i64 ((dH t160 0).f0))) (fun _ hk => hk.2) (.int .i64 ((dH t160 0).f1))) (fun _ hk => hk.2) (.int .i64 ((dH t160 0).f2))) (fun _ h_ => h_.1))) hb); replace ik := aa.mk (dR (g := xD) (o := .cells #[.int .i64 ah, .int .i64 au, .int .i64 aj, .int .i64 ak, .slice aM af.length aH] 24 (0, 0)) b5_ hb); replace IC := aa.mk (dR (g := sU) (o := .cells #[.int .i64 ((dH t160 0).f0), .int .i64 ((dH t160 0).f1), .int .i64 ((dH t160 0).f2)] 41 (0, 0)) b5_ hb); replace HB := aa.mk (ai bl_ hb); (try clear hb); (try clear hb2); (try clear hk); (try clear hi)))
     go_ret; exact ⟨re_, bl_⟩
    ·replace c27 := Bool.eq_false_iff.mpr c27; subst c27; have H1 : (some (wrap64 ((wrap64 (((dH t160 0).f2) - ((dH t160 0).f1))) + 1))) = some r := by rw [if_neg (show ¬ (false = true) by decide)] at H; exact H
     clear H; have H := H1; clear H1; obtain rfl := Option.some.inj H; go_enter Tryd.func41, Tryd.ntmps41; go_wp2_with (first | ((with_reducible refine aW (N := 1) rfl ?_); refine bf ?hg (N := 1) ?hd (cs := #[.int .i64 ah, .int .i64 au, .int .i64 aj, .int .i64 ak, .slice aM af.length aH]) (t := 24) ?hr ?_; (case hd => rfl); (case hg => rfl); (case hr => first | (go_simp; done) | (go_simp; rfl)); intro xD hg w36 aG hb; have ik := aa.mk (aG); have F8 : aa (w.heap.size ≤ xD) := gw_ hg (ax bl_); have GE154 := F8; replace HB := aa.mk (ai bl_ hb); clear hb aG hg; obtain ⟨qP, qQ, qR, uw, uy, qU, qV, qW, uz, uA⟩ := bg ik.out) | ((with_reducible refine aD (f := 42) rfl ?_); refine aZ (some 50) rfl rfl Tryd.func42 (by kernel_rfl) rfl #[.agg #[.int .i64 ah, .int .i64 au, .int .i64 aj, .int .i64 ak, .slice aM af.length aH]] rfl mp_ ?_; (with_reducible refine (aX.calls k ah au aj ak _ _ af t160 _ ?az ?aA A24.out).mono ?_); (case az => exact cb_ (Kd.aK bu.out HB.out)); (case aA => exact bU.out); rintro e w38 ⟨v161, rfl, ho0, hb⟩; refine ⟨_, rfl, ?_⟩; have wo := aa.mk (Kd.bC ho0 (ax bl_)); replace ik := kb_ ik hb; replace HB := aa.mk (ai bl_ hb); (try clear hb); (try clear hb2); (try clear hk); (try clear hi); (try clear ho0); obtain ⟨Ao39, co39, eo39⟩ := Kd.bK wo.out; subst eo39; have p163 : 0 ≤ (0 : Int) := (by omega); have q163 : 0 < (t160.length : Int) := dt_; obtain ⟨ad163, e163, Nc, Nf, Ng⟩ := Ew (Kd.aY wo.out).2.2 0 p163 q163; cases e163; have qi163 : (0 < t160.length) = True := eq_true (by omega); (try simp only [z0_, Nat.zero_mul, Addr.add_zero'] at Nc); (try simp only [z0_, Nat.zero_mul, Addr.add_zero'] at Nf); (try simp only [z0_, Nat.zero_mul, Addr.add_zero'] at Ng); replace p163 := eq_true p163; replace q163 := eq_true q163) | ((with_reducible refine aW (N := 9) rfl ?_); refine bf ?hg (N := 9) ?hd (cs := #[.int .i64 0, .int .i64 0, .int .i64 0]) (t := 41) ?hr ?_; (case hd => rfl); (case hg => rfl); (case hr => first | (go_simp; done) | (go_simp; rfl)); intro sU hg w40 aG hb; have IC := aa.mk (aG); have GW164 : aa (w.heap.size ≤ sU) := gw_ hg (ax bl_); have GE164 := GW164; have GJ := nl_ ik hg; have GK := ng_ ik hg; replace wo := aa.mk (Kd.dM (Kd.zt (pR_ wo.out) sU (Nat.le_of_eq hg.symm)) hb); replace ik := kb_ ik hb; replace HB := aa.mk (ai bl_ hb); clear hb aG hg; have hnb41 := GK.out; have hnc41 := GJ.out; obtain ⟨EW, EX, EY, EZ, E5, E8⟩ := lD IC.out) | ((with_reducible refine aD (f := 70) rfl ?_); refine aZ (some 54) rfl rfl Tryd.func70 (by kernel_rfl) rfl #[.agg #[.int .i64 ((dH t160 0).f0), .int .i64 ((dH t160 0).f1), .int .i64 ((dH t160 0).f2)]] rfl mp_ ?_; (with_reducible refine (jL.calls ((dH t160 0).f0) ((dH t160 0).f1) ((dH t160 0).f2) false _ A26.out).mono ?_); rintro e w43 ⟨rfl, hb⟩; refine ⟨_, rfl, ?_⟩; replace wo := aa.mk (Kd.dM (by (with_reducible repeat (first | apply Kd.bL | apply Kd.bM | apply Kd.bQ)); exact (Kd.bG (Kd.bI (p := ⟨sU, 2, none⟩) (Kd.bI (p := ⟨sU, 1, none⟩) (Kd.bI (p := ⟨sU, 0, none⟩) (Kd.bG wo.out (fun k_ hk => (⟨hk, by first | exact hk.2 | exact hk.1 | exact hk.2 | exact hk.1.1 | exact hk.1.2⟩ : _ ∧ k_ ≠ sU))) (fun _ hk => hk.2) (.int .i64 ((dH t160 0).f0))) (fun _ hk => hk.2) (.int .i64 ((dH t160 0).f1))) (fun _ hk => hk.2) (.int .i64 ((dH t160 0).f2))) (fun _ h_ => h_.1))) hb); replace ik := aa.mk (dR (g := xD) (o := .cells #[.int .i64 ah, .int .i64 au, .int .i64 aj, .int .i64 ak, .slice aM af.length aH] 24 (0, 0)) b5_ hb); replace IC := aa.mk (dR (g := sU) (o := .cells #[.int .i64 ((dH t160 0).f0), .int .i64 ((dH t160 0).f1), .int .i64 ((dH t160 0).f2)] 41 (0, 0)) b5_ hb); replace HB := aa.mk (ai bl_ hb); (try clear hb); (try clear hb2); (try clear hk); (try clear hi); obtain ⟨Qf, Qg, Qh, Qi, Qj, Qk⟩ := lD IC.out))
     go_ret; exact ⟨re_, bl_⟩
   ·rw [if_neg c25] at H; exact absurd H (by simp)

end Go.Proofs.YtggelekooacmnaaDoor.Q
namespace Go.Proofs.YtggelekooacmnaaDoor.Q
open Go.RowKit Go.Proofs.YtggelekooacmnaaDoorW.aU Go.Proofs.YtggelekooacmnaaDoorW.bD Go.Proofs.YtggelekooacmnaaDoorW.bH
attribute [local go_sem] dB dC dN dO cO cZ dD dE   -- for this text's walks alone
set_option linter.unusedVariables false
set_option linter.unusedSimpArgs false

/-! ### dn: function 16 -/
def dn.j0 : Nat → Bool → Int → Int → Int → Int → List (S24) → Option (Int × Int)
 | 0, _, _, _, _, _, _ => none
 | k + 1, x18, x167000, x167001, x167002, x167003, x167004 => if x18 = true then (some (0, 8)) else ((types_size.f k x167000 x167001 x167002 x167003 x167004).bind fun t168 => (if t168 > 1073741824 then (some (0, 9)) else (some (t168, 0))))
def dn.f (k : Nat) (ah : Int) (au : Int) (aj : Int) (ak : Int) (af : List (S24)) : Option (Int × Int) := (bO.f k ah au aj ak af).bind fun t167 => (if t167 = 0 then (if ah = 3 then (dn.j0 k true ah au aj ak af) else (dn.j0 k (ah == 4) ah au aj ak af)) else (some (0, t167)))
theorem dn.fA : ∀ k, (∀ y0 y1 y2 y3 y4 y5, LeO (dn.j0 k y0 y1 y2 y3 y4 y5) (dn.j0 (k + 1) y0 y1 y2 y3 y4 y5))
 | 0 => fun _ _ _ _ _ _ r h => by simp [dn.j0] at h
 | k + 1 => by
  have ih0 := dn.fA k
  ·intro y0 y1 y2 y3 y4 y5; unfold dn.j0; repeat' first
   | (with_reducible exact ih0 _ _ _ _ _ _)
   | (with_reducible exact bO.mono _ _ _ _ _ _)
   | (with_reducible exact types_size.mono _ _ _ _ _ _)
   | (with_reducible exact LeO.refl _)
   | (with_reducible exact LeO.none _)
   | (with_reducible refine LeO.ite ?_ ?_)
   | (with_reducible refine LeO.bind ?_ (fun _ => ?_))
   | exact ih0 _ _ _ _ _ _
   | exact bO.mono _ _ _ _ _ _
   | exact types_size.mono _ _ _ _ _ _
   | exact LeO.none _
   | refine LeO.ite ?_ ?_
   | refine LeO.bind ?_ (fun _ => ?_)
theorem dn.mono : ∀ a0 a1 a2 a3 a4 k, LeO (dn.f k a0 a1 a2 a3 a4) (dn.f (k + 1) a0 a1 a2 a3 a4) := by
 intro a0 a1 a2 a3 a4 k; have ih0 := dn.fA k; unfold dn.f
 repeat' first
   | (with_reducible exact ih0 _ _ _ _ _ _)
   | (with_reducible exact bO.mono _ _ _ _ _ _)
   | (with_reducible exact types_size.mono _ _ _ _ _ _)
   | (with_reducible exact LeO.refl _)
   | (with_reducible exact LeO.none _)
   | (with_reducible refine LeO.ite ?_ ?_)
   | (with_reducible refine LeO.bind ?_ (fun _ => ?_))
   | exact ih0 _ _ _ _ _ _
   | exact bO.mono _ _ _ _ _ _
   | exact types_size.mono _ _ _ _ _ _
   | exact LeO.none _
   | refine LeO.ite ?_ ?_
   | refine LeO.bind ?_ (fun _ => ?_)
set_option maxHeartbeats 8000000 in
set_option maxRecDepth 100000 in
theorem dn.calls (k : Nat) (ah : Int) (au : Int) (aj : Int) (ak : Int) (aM : Option Addr) (aH : Nat) (af : List (S24)) (r1 : Int) (r2 : Int) (w : World) (di : Kd.C k24 w aM af.length af) (dm : af.length ≤ aH) (h : dn.f k ah au aj ak af = some (r1, r2)) :
  Calls Tryd.prog 16 #[.agg #[.int .i64 ah, .int .i64 au, .int .i64 aj, .int .i64 ak, .slice aM af.length aH]] w fun e w' => e = .returned (.tuple #[.int .i64 r1, .int .i64 r2]) ∧ Below w.heap.size w w' := by
 have mg := Tryd.underlying24; have bu := aa.mk di; have bU := aa.mk dm; clear di dm; have HB := aa.mk (Below.refl w.heap.size w); have H : ((bO.f k ah au aj ak af).bind fun t167 => (if t167 = 0 then (if ah = 3 then (dn.j0 k true ah au aj ak af) else (dn.j0 k (ah == 4) ah au aj ak af)) else (some (0, t167)))) = some (r1, r2) := h; clear h; replace H := Option.bind_eq_some_iff.mp H; obtain ⟨t167, A20, H⟩ := H; (try dsimp only at H)
 have A2 := aa.mk A20; clear A20; by_cases c3 : t167 = 0
 ·rw [if_pos c3] at H; obtain ⟨gX, jH⟩ := bq_ c3; clear c3; have HC4 := aa.mk H; clear H; go_enter Tryd.func16, Tryd.ntmps16; go_upto_region 4 with (first | ((with_reducible refine aW (N := 1) rfl ?_); refine bf ?hg (N := 1) ?hd (cs := #[.int .i64 ah, .int .i64 au, .int .i64 aj, .int .i64 ak, .slice aM af.length aH]) (t := 24) ?hr ?_; (case hd => rfl); (case hg => rfl); (case hr => first | (go_simp; done) | (go_simp; rfl)); intro gb166 hg w5 aG hb; have qI := aa.mk (aG); have GW166 : aa (w.heap.size ≤ gb166) := gw_ hg (ax bl_); have GE166 := GW166; replace HB := aa.mk (ai bl_ hb); clear hb aG hg; obtain ⟨kV, kW, kX, kY, kZ, lg, lh, ll, lq, lu⟩ := bg qI.out) | ((with_reducible refine aD (f := 12) rfl ?_); refine aZ (some 7) rfl rfl Tryd.func12 (by kernel_rfl) rfl #[.agg #[.int .i64 ah, .int .i64 au, .int .i64 aj, .int .i64 ak, .slice aM af.length aH]] rfl mp_ ?_; (with_reducible refine (bO.calls k ah au aj ak _ _ af t167 _ ?az ?aA A2.out).mono ?_); (case az => exact cb_ (Kd.aK bu.out HB.out)); (case aA => exact bU.out); rintro e w7 ⟨rfl, hb⟩; refine ⟨_, rfl, ?_⟩; replace qI := kb_ qI hb; replace HB := aa.mk (ai bl_ hb); (try clear hb); (try clear hb2); (try clear hk); (try clear hi)))
  (try simp only [Act.put, List.setIfInBounds_toArray, List.set_cons_zero, List.set_cons_succ])
  go_cut [18] (fun v18 wc => ∃ (kq : Nat) (BN : Bool), v18 = .bool BN ∧ aa (dn.j0 kq BN ah au aj ak af = some (r1, r2)) ∧ aa (kq ≤ k) ∧ aa (wc.heap[gb166]? = some (.cells #[.int .i64 ah, .int .i64 au, .int .i64 aj, .int .i64 ak, (.slice aM af.length aH)] 24 (0, 0))) ∧ aa (Below w.heap.size w wc))
  case first =>
   have H := HC4.out; clear HC4; by_cases c8 : ah = 3
   ·rw [if_pos c8] at H; obtain ⟨gH, jv⟩ := bq_ c8; clear c8; (first | rw [gH] | (simp only [dS, ek]; rw [gH]) | skip)
    have H' := aa.mk H; clear H; obtain ⟨tC, tF, tH, uZ, u6, tJ, tK, tL, u7, vk⟩ := bg qI.out; go_wp2; go_meet
    case rel => exact ⟨_, (true), rs_, H', ⟨by first | omega | exact Nat.le_refl _⟩, ⟨bk_⟩, ⟨bl_⟩⟩
   ·rw [if_neg c8] at H; obtain ⟨gH, jv⟩ := bn_ c8; (first | rw [gH] | (simp only [dS, ek]; rw [gH]) | skip)
    have H' := aa.mk H; clear H; obtain ⟨uj, uk, um, vJ, vK, uo, uq, uu, vL, vM⟩ := bg qI.out; go_wp2; go_meet
    case rel => exact ⟨_, ((ah == 4)), rs_, H', ⟨by first | omega | exact Nat.le_refl _⟩, ⟨bk_⟩, ⟨bl_⟩⟩
  case rest =>
   clear HC4; (try clear c1); (try clear p2); (try clear c3); (try clear gX); (try clear jH); (try clear c8); (try clear gH); (try clear jv); (try clear uj uk um vJ vK uo uq uu vL vM); (try clear kV kW kX kY kZ lg lh ll lq lu); (try clear tC tF tH uZ u6 tJ tK tL u7 vk); obtain ⟨kq, BN, rfl, HA, HJ3, qI, HB⟩ := hcut; cases kq with
   | zero => exact absurd HA.out (by simp [dn.j0])
   | succ kj3 =>
    have H := HA.out; clear HA; simp only [dn.j0] at H; by_cases c11 : BN = true
    ·subst c11; have H1 : (some (0, 8)) = some (r1, r2) := by rw [if_pos rfl] at H; exact H
     clear H; have H := H1; clear H1; simp only [Option.some.injEq, Prod.mk.injEq] at H; obtain ⟨rfl, rfl⟩ := H; go_wp2; go_ret2; exact ⟨re_, bl_⟩
    ·replace c11 := Bool.eq_false_iff.mpr c11; subst c11; have H1 : ((types_size.f kj3 ah au aj ak af).bind fun t168 => (if t168 > 1073741824 then (some (0, 9)) else (some (t168, 0)))) = some (r1, r2) := by rw [if_neg (show ¬ (false = true) by decide)] at H; exact H
     clear H; have H := H1; clear H1; replace H := Option.bind_eq_some_iff.mp H; obtain ⟨t168, A120, H⟩ := H; (try dsimp only at H)
     have A12 := aa.mk A120; clear A120; by_cases c13 : t168 > 1073741824
     ·rw [if_pos c13] at H; have mV : decide (1073741824 < t168) = true := decide_eq_true c13; clear c13; simp only [Option.some.injEq, Prod.mk.injEq] at H; obtain ⟨rfl, rfl⟩ := H; obtain ⟨ja, jb, jc, jd, je, jf, jg, jh, ji, jk⟩ := bg qI.out; go_wp2_with (first | ((with_reducible refine aD (f := 41) rfl ?_); refine aZ (some 20) rfl rfl Tryd.func41 (by kernel_rfl) rfl #[.agg #[.int .i64 ah, .int .i64 au, .int .i64 aj, .int .i64 ak, .slice aM af.length aH]] rfl mp_ ?_; (with_reducible refine (types_size.calls kj3 ah au aj ak _ _ af t168 _ ?az ?aA A12.out).mono ?_); (case az => exact cb_ (Kd.aK bu.out HB.out)); (case aA => exact bU.out); rintro e w15 ⟨rfl, hb⟩; refine ⟨_, rfl, ?_⟩; replace qI := kb_ qI hb; replace HB := aa.mk (ai bl_ hb); (try clear hb); (try clear hb2); (try clear hk); (try clear hi)))
      go_ret2; exact ⟨re_, bl_⟩
     ·rw [if_neg c13] at H; have mV : decide (1073741824 < t168) = false := decide_eq_false c13; clear c13; simp only [Option.some.injEq, Prod.mk.injEq] at H; obtain ⟨rfl, rfl⟩ := H; obtain ⟨kC, kD, kE, o8, o9, kF, kG, kH, pg, pq⟩ := bg qI.out; go_wp2_with (first | ((with_reducible refine aD (f := 41) rfl ?_); refine aZ (some 20) rfl rfl Tryd.func41 (by kernel_rfl) rfl #[.agg #[.int .i64 ah, .int .i64 au, .int .i64 aj, .int .i64 ak, .slice aM af.length aH]] rfl mp_ ?_; (with_reducible refine (types_size.calls kj3 ah au aj ak _ _ af t168 _ ?az ?aA A12.out).mono ?_); (case az => exact cb_ (Kd.aK bu.out HB.out)); (case aA => exact bU.out); rintro e w17 ⟨rfl, hb⟩; refine ⟨_, rfl, ?_⟩; replace qI := kb_ qI hb; replace HB := aa.mk (ai bl_ hb); (try clear hb); (try clear hb2); (try clear hk); (try clear hi)))
      go_ret2; exact ⟨re_, bl_⟩
 ·rw [if_neg c3] at H; obtain ⟨gX, jH⟩ := bn_ c3; simp only [Option.some.injEq, Prod.mk.injEq] at H; obtain ⟨rfl, rfl⟩ := H; go_enter Tryd.func16, Tryd.ntmps16; go_wp2_with (first | ((with_reducible refine aW (N := 1) rfl ?_); refine bf ?hg (N := 1) ?hd (cs := #[.int .i64 ah, .int .i64 au, .int .i64 aj, .int .i64 ak, .slice aM af.length aH]) (t := 24) ?hr ?_; (case hd => rfl); (case hg => rfl); (case hr => first | (go_simp; done) | (go_simp; rfl)); intro gb166 hg w18 aG hb; have qI := aa.mk (aG); have GW166 : aa (w.heap.size ≤ gb166) := gw_ hg (ax bl_); have GE166 := GW166; replace HB := aa.mk (ai bl_ hb); clear hb aG hg; obtain ⟨yx, yz, yA, yB, yC, yD, yE, yF, yG, yH⟩ := bg qI.out) | ((with_reducible refine aD (f := 12) rfl ?_); refine aZ (some 7) rfl rfl Tryd.func12 (by kernel_rfl) rfl #[.agg #[.int .i64 ah, .int .i64 au, .int .i64 aj, .int .i64 ak, .slice aM af.length aH]] rfl mp_ ?_; (with_reducible refine (bO.calls k ah au aj ak _ _ af t167 _ ?az ?aA A2.out).mono ?_); (case az => exact cb_ (Kd.aK bu.out HB.out)); (case aA => exact bU.out); rintro e w20 ⟨rfl, hb⟩; refine ⟨_, rfl, ?_⟩; replace qI := kb_ qI hb; replace HB := aa.mk (ai bl_ hb); (try clear hb); (try clear hb2); (try clear hk); (try clear hi)))
  go_ret2; exact ⟨re_, bl_⟩

end Go.Proofs.YtggelekooacmnaaDoor.Q
namespace Go.Proofs.YtggelekooacmnaaDoor.Q
open Go.RowKit Go.Proofs.YtggelekooacmnaaDoorW.aU Go.Proofs.YtggelekooacmnaaDoorW.bD Go.Proofs.YtggelekooacmnaaDoorW.bH
attribute [local go_sem] dB dC dN dO cO cZ dD dE   -- for this text's walks alone
set_option linter.unusedVariables false
set_option linter.unusedSimpArgs false

/-! ### fB: function 71 -/
def fB.f (a0 : Int) : Option ByteArray := if -9223372036854775808 ≤ a0 ∧ a0 ≤ 9223372036854775807 then some ⟨(Lib.itoa a0).toArray⟩ else none
theorem fB.calls (a0 : Int) (r : ByteArray) (w : World) (h : fB.f a0 = some r) (htab : qO w.heap.size w) :
    Calls Tryd.prog 71 #[.int .i64 a0] w fun e w' => e = .returned (.string r) ∧ Below w.heap.size w w' := by
  unfold fB.f at h
  by_cases h0 : -9223372036854775808 ≤ a0 ∧ a0 ≤ 9223372036854775807
  · rw [if_pos h0] at h
    obtain rfl := Option.some.inj h
    refine (Tryd.strconv_Itoa a0 h0.1 h0.2 w htab.here).mono ?_
    rintro e w' ⟨rfl, k, os, rfl⟩
    exact ⟨rfl, OW w k os⟩
  · rw [if_neg h0] at h; cases h

end Go.Proofs.YtggelekooacmnaaDoor.Q
namespace Go.Proofs.YtggelekooacmnaaDoor.Q
open Go.RowKit Go.Proofs.YtggelekooacmnaaDoorW.aU Go.Proofs.YtggelekooacmnaaDoorW.bD Go.Proofs.YtggelekooacmnaaDoorW.bH
attribute [local go_sem] dB dC dN dO cO cZ dD dE   -- for this text's walks alone
set_option linter.unusedVariables false
set_option linter.unusedSimpArgs false

/-! ### strings_Join: function 72 -/
def strings_Join.f (l0 : List ByteArray) (a1 : ByteArray) : Option ByteArray := if l0.length ≤ 140737488355328 ∧ (Lib.join (l0.map (·.data.toList)) a1.data.toList).length ≤ 140737488355328 then some ⟨(Lib.join (l0.map (·.data.toList)) a1.data.toList).toArray⟩ else none
theorem strings_Join.calls (A0 : Option Addr) (c0 : Nat) (l0 : List ByteArray) (a1 : ByteArray) (r : ByteArray) (w : World) (hr0 : Kd.C Kd.string w A0 l0.length l0) (hc0 : l0.length ≤ c0) (h : strings_Join.f l0 a1 = some r) :
    Calls Tryd.prog 72 #[.slice A0 l0.length c0, .string a1] w fun e w' => e = .returned (.string r) ∧ Below w.heap.size w w' := by
  unfold strings_Join.f at h
  by_cases h0 : l0.length ≤ 140737488355328 ∧ (Lib.join (l0.map (·.data.toList)) a1.data.toList).length ≤ 140737488355328
  · rw [if_pos h0] at h
    obtain rfl := Option.some.inj h
    exact OX A0 c0 l0 a1 w hr0 hc0 h0.1 h0.2
  · rw [if_neg h0] at h; cases h

end Go.Proofs.YtggelekooacmnaaDoor.Q
namespace Go.Proofs.YtggelekooacmnaaDoor.Q
open Go.RowKit Go.Proofs.YtggelekooacmnaaDoorW.aU Go.Proofs.YtggelekooacmnaaDoorW.bD Go.Proofs.YtggelekooacmnaaDoorW.bH
attribute [local go_sem] dB dC dN dO cO cZ dD dE   -- for this text's walks alone
set_option linter.unusedVariables false
set_option linter.unusedSimpArgs false

/-! ### bz: function 44 -/
mutual
def bz.l0 : Nat → List ByteArray → List (S24) → Int → Int → Option (ByteArray)
 | 0, _, _, _, _ => none
 | k + 1, x3, x40, x41, x42 => if x42 < x41 then (if 0 ≤ x42 then (if x42 < (x40.length : Int) then ((bz.f k ((ag x40 x42).f0) ((ag x40 x42).f1) ((ag x40 x42).f2) ((ag x40 x42).f3) ((ag x40 x42).f4)).bind fun t196 => (if x3.length < 8796093022208 then (bz.l0 k (x3 ++ [t196]) x40 x41 (wrap64 (x42 + 1))) else (none))) else (none)) else (none)) else ((strings_Join.f x3 (⟨#[44, 32]⟩ : ByteArray)).bind fun t200 => (if 1 + t200.size ≤ 9223372036854775807 then (if ((⟨#[40]⟩ : ByteArray) ++ t200).size + 1 ≤ 9223372036854775807 then (some (((⟨#[40]⟩ : ByteArray) ++ t200) ++ (⟨#[41]⟩ : ByteArray))) else (none)) else (none)))
def bz.f : Nat → Int → Int → Int → Int → List (S24) → Option (ByteArray)
 | 0, _, _, _, _, _ => none
 | k + 1, ah, au, aj, ak, af => if ah = 1 then (some (⟨#[98, 111, 111, 108]⟩ : ByteArray)) else (if ah = 2 then ((fB.f au).bind fun t189 => (if 4 + t189.size ≤ 9223372036854775807 then (if ((⟨#[105, 110, 116, 91]⟩ : ByteArray) ++ t189).size + 2 ≤ 9223372036854775807 then ((fB.f aj).bind fun t190 => (if (((⟨#[105, 110, 116, 91]⟩ : ByteArray) ++ t189) ++ (⟨#[44, 32]⟩ : ByteArray)).size + t190.size ≤ 9223372036854775807 then (if ((((⟨#[105, 110, 116, 91]⟩ : ByteArray) ++ t189) ++ (⟨#[44, 32]⟩ : ByteArray)) ++ t190).size + 1 ≤ 9223372036854775807 then (some (((((⟨#[105, 110, 116, 91]⟩ : ByteArray) ++ t189) ++ (⟨#[44, 32]⟩ : ByteArray)) ++ t190) ++ (⟨#[93]⟩ : ByteArray))) else (none)) else (none))) else (none)) else (none))) else (if ah = 3 then (some (⟨#[110, 97, 116]⟩ : ByteArray)) else (if ah = 4 then (some (⟨#[114, 101, 97, 108]⟩ : ByteArray)) else (if ah = 6 then ((fB.f ak).bind fun t191 => (if 5 + t191.size ≤ 9223372036854775807 then (if ((⟨#[108, 105, 115, 116, 91]⟩ : ByteArray) ++ t191).size + 2 ≤ 9223372036854775807 then (if 0 < (af.length : Int) then ((bz.f k ((ag af 0).f0) ((ag af 0).f1) ((ag af 0).f2) ((ag af 0).f3) ((ag af 0).f4)).bind fun t193 => (if (((⟨#[108, 105, 115, 116, 91]⟩ : ByteArray) ++ t191) ++ (⟨#[93, 32]⟩ : ByteArray)).size + t193.size ≤ 9223372036854775807 then (some ((((⟨#[108, 105, 115, 116, 91]⟩ : ByteArray) ++ t191) ++ (⟨#[93, 32]⟩ : ByteArray)) ++ t193)) else (none))) else (none)) else (none)) else (none))) else (bz.l0 k ([] : List ByteArray) af (af.length : Int) 0)))))
end
theorem bz.fA : ∀ k, (∀ y0 y1 y2 y3 y4, LeO (bz.f k y0 y1 y2 y3 y4) (bz.f (k + 1) y0 y1 y2 y3 y4)) ∧ (∀ y0 y1 y2 y3, LeO (bz.l0 k y0 y1 y2 y3) (bz.l0 (k + 1) y0 y1 y2 y3))
 | 0 => ⟨fun _ _ _ _ _ r h => by simp [bz.f] at h, fun _ _ _ _ r h => by simp [bz.l0] at h⟩
 | k + 1 => by
  obtain ⟨ih0, ih1⟩ := bz.fA k; refine ⟨?_, ?_⟩
  ·intro y0 y1 y2 y3 y4; unfold bz.f; repeat' first
   | (with_reducible exact ih0 _ _ _ _ _)
   | (with_reducible exact ih1 _ _ _ _)
   | (with_reducible exact LeO.refl _)
   | (with_reducible exact LeO.none _)
   | (with_reducible refine LeO.ite ?_ ?_)
   | (with_reducible refine LeO.bind ?_ (fun _ => ?_))
   | exact ih0 _ _ _ _ _
   | exact ih1 _ _ _ _
   | exact LeO.none _
   | refine LeO.ite ?_ ?_
   | refine LeO.bind ?_ (fun _ => ?_)
  ·intro y0 y1 y2 y3; unfold bz.l0; repeat' first
   | (with_reducible exact ih0 _ _ _ _ _)
   | (with_reducible exact ih1 _ _ _ _)
   | (with_reducible exact LeO.refl _)
   | (with_reducible exact LeO.none _)
   | (with_reducible refine LeO.ite ?_ ?_)
   | (with_reducible refine LeO.bind ?_ (fun _ => ?_))
   | exact ih0 _ _ _ _ _
   | exact ih1 _ _ _ _
   | exact LeO.none _
   | refine LeO.ite ?_ ?_
   | refine LeO.bind ?_ (fun _ => ?_)
theorem bz.mono : ∀ a0 a1 a2 a3 a4 k, LeO (bz.f k a0 a1 a2 a3 a4) (bz.f (k + 1) a0 a1 a2 a3 a4) := by
 intro a0 a1 a2 a3 a4 k; obtain ⟨ih0, ih1⟩ := bz.fA k; exact ih0 a0 a1 a2 a3 a4
def bz.T5 : Bool × List (List Nat × List Nat) := (true, [([], []), ([0], [0]), ([1], [1]), ([2], [2]), ([3], [3]), ([], []), ([5], [5]), ([6, 2], [6]), ([4, 7], [4, 7]), ([8], [8]), ([9, 7, 0, 1, 2, 3, 4, 5, 6, 7, 8, 9], [9])])
def bz.B5 : List Nat := [0, 1, 3, 7, 15, 0, 32, 103, 255, 511, 1023]
theorem bz.tab5 : jG .any (opsOf Tryd.f44 5) = bz.T5 := by kernel_rfl
theorem bz.bits5 : mo bz.T5.2 bz.B5 = true := by kernel_rfl
def bz.T11 : Bool × List (List Nat × List Nat) := (true, [([], []), ([0], [0]), ([1], [1]), ([2], [2]), ([3], [3]), ([], []), ([5], [5]), ([6], [6]), ([7], [7]), ([8, 2], [8]), ([4, 9], [4, 9]), ([10, 9, 0, 1, 2, 3, 4, 5, 6, 7, 8, 9, 10], [10])])
def bz.B11 : List Nat := [0, 1, 3, 7, 15, 0, 32, 96, 224, 487, 1023, 2047]
theorem bz.JW : jG .any (opsOf Tryd.f44 11) = bz.T11 := by kernel_rfl
theorem bz.GG : mo bz.T11.2 bz.B11 = true := by kernel_rfl
set_option maxHeartbeats 8000000 in
set_option maxRecDepth 100000 in
theorem bz.calls (k : Nat) : ∀ (ah : Int) (au : Int) (aj : Int) (ak : Int) (aM : Option Addr) (aH : Nat) (af : List (S24)) (r : ByteArray) (w : World) (di : Kd.C k24 w aM af.length af) (dm : af.length ≤ aH) (h : bz.f k ah au aj ak af = some r) (htab : qO w.heap.size w),
  Calls Tryd.prog 44 #[.agg #[.int .i64 ah, .int .i64 au, .int .i64 aj, .int .i64 ak, .slice aM af.length aH]] w fun e w' => e = .returned (.string r) ∧ Below w.heap.size w w' := by
 induction k using Nat.strongRecOn with
 | _ k ih =>
 intro ah au aj ak aM aH af r w di dm h htab; have oM := aa.mk htab; clear htab; cases k with
 | zero => exact absurd h (by simp [bz.f])
 | succ k =>
 simp only [bz.f] at h; have mg := Tryd.underlying24; have bu := aa.mk di; have bU := aa.mk dm; clear di dm; have HB := aa.mk (Below.refl w.heap.size w); have H : (if ah = 1 then (some (⟨#[98, 111, 111, 108]⟩ : ByteArray)) else (if ah = 2 then ((fB.f au).bind fun t189 => (if 4 + t189.size ≤ 9223372036854775807 then (if ((⟨#[105, 110, 116, 91]⟩ : ByteArray) ++ t189).size + 2 ≤ 9223372036854775807 then ((fB.f aj).bind fun t190 => (if (((⟨#[105, 110, 116, 91]⟩ : ByteArray) ++ t189) ++ (⟨#[44, 32]⟩ : ByteArray)).size + t190.size ≤ 9223372036854775807 then (if ((((⟨#[105, 110, 116, 91]⟩ : ByteArray) ++ t189) ++ (⟨#[44, 32]⟩ : ByteArray)) ++ t190).size + 1 ≤ 9223372036854775807 then (some (((((⟨#[105, 110, 116, 91]⟩ : ByteArray) ++ t189) ++ (⟨#[44, 32]⟩ : ByteArray)) ++ t190) ++ (⟨#[93]⟩ : ByteArray))) else (none)) else (none))) else (none)) else (none))) else (if ah = 3 then (some (⟨#[110, 97, 116]⟩ : ByteArray)) else (if ah = 4 then (some (⟨#[114, 101, 97, 108]⟩ : ByteArray)) else (if ah = 6 then ((fB.f ak).bind fun t191 => (if 5 + t191.size ≤ 9223372036854775807 then (if ((⟨#[108, 105, 115, 116, 91]⟩ : ByteArray) ++ t191).size + 2 ≤ 9223372036854775807 then (if 0 < (af.length : Int) then ((bz.f k ((ag af 0).f0) ((ag af 0).f1) ((ag af 0).f2) ((ag af 0).f3) ((ag af 0).f4)).bind fun t193 => (if (((⟨#[108, 105, 115, 116, 91]⟩ : ByteArray) ++ t191) ++ (⟨#[93, 32]⟩ : ByteArray)).size + t193.size ≤ 9223372036854775807 then (some ((((⟨#[108, 105, 115, 116, 91]⟩ : ByteArray) ++ t191) ++ (⟨#[93, 32]⟩ : ByteArray)) ++ t193)) else (none))) else (none)) else (none)) else (none))) else (bz.l0 k ([] : List ByteArray) af (af.length : Int) 0)))))) = some r := h; clear h; by_cases c2 : ah = 1
 ·rw [if_pos c2] at H; obtain ⟨iZ, kR⟩ := bq_ c2; clear c2; obtain rfl := Option.some.inj H; go_enter Tryd.func44, Tryd.ntmps44; go_wp2_with (first | ((with_reducible refine aW (N := 1) rfl ?_); refine bf ?hg (N := 1) ?hd (cs := #[.int .i64 ah, .int .i64 au, .int .i64 aj, .int .i64 ak, .slice aM af.length aH]) (t := 24) ?hr ?_; (case hd => rfl); (case hg => rfl); (case hr => first | (go_simp; done) | (go_simp; rfl)); intro jW hg w3 aG hb; have dY := aa.mk (aG); have zk : aa (w.heap.size ≤ jW) := gw_ hg (ax bl_); have Ke := zk; replace HB := aa.mk (ai bl_ hb); clear hb aG hg; obtain ⟨iA, iB, iC, iD, iE, iF, iG, iH, iI, iJ⟩ := bg dY.out))
  go_ret; exact ⟨re_, bl_⟩
 ·rw [if_neg c2] at H; obtain ⟨iZ, kR⟩ := bn_ c2; by_cases c5 : ah = 2
  ·rw [if_pos c5] at H; obtain ⟨gQ, qF⟩ := bq_ c5; clear c5; replace H := Option.bind_eq_some_iff.mp H; obtain ⟨t189, A60, H⟩ := H; (try dsimp only at H)
   have A6 := aa.mk A60; clear A60; by_cases c7 : 4 + t189.size ≤ 9223372036854775807
   ·rw [if_pos c7] at H; have jM := eq_true c7; have vo := decide_eq_true c7; try have c7b2 : (9223372036854775807 < 4 + t189.size) = False := eq_false (Nat.not_lt.2 c7)
    by_cases c8 : ((⟨#[105, 110, 116, 91]⟩ : ByteArray) ++ t189).size + 2 ≤ 9223372036854775807
    ·rw [if_pos c8] at H; have gH := eq_true c8; have jv := decide_eq_true c8; try have c8b2 : (9223372036854775807 < ((⟨#[105, 110, 116, 91]⟩ : ByteArray) ++ t189).size + 2) = False := eq_false (Nat.not_lt.2 c8)
     have c8b9 : (9223372036854775807 < 4 + t189.size + 2) = False := by have h := c8; simp only [ByteArray.size_append, iW, List.size_toArray, List.length_cons, List.length_nil] at h; exact eq_false (by omega)
     replace H := Option.bind_eq_some_iff.mp H; obtain ⟨t190, A90, H⟩ := H; (try dsimp only at H)
     have A9 := aa.mk A90; clear A90; by_cases c10 : (((⟨#[105, 110, 116, 91]⟩ : ByteArray) ++ t189) ++ (⟨#[44, 32]⟩ : ByteArray)).size + t190.size ≤ 9223372036854775807
     ·rw [if_pos c10] at H; have ig := eq_true c10; have zl := decide_eq_true c10; try have c10b2 : (9223372036854775807 < (((⟨#[105, 110, 116, 91]⟩ : ByteArray) ++ t189) ++ (⟨#[44, 32]⟩ : ByteArray)).size + t190.size) = False := eq_false (Nat.not_lt.2 c10)
      have c10b9 : (9223372036854775807 < 4 + t189.size + 2 + t190.size) = False := by have h := c10; simp only [ByteArray.size_append, iW, List.size_toArray, List.length_cons, List.length_nil] at h; exact eq_false (by omega)
      by_cases c11 : ((((⟨#[105, 110, 116, 91]⟩ : ByteArray) ++ t189) ++ (⟨#[44, 32]⟩ : ByteArray)) ++ t190).size + 1 ≤ 9223372036854775807
      ·rw [if_pos c11] at H; have IE := eq_true c11; have c11b1 := decide_eq_true c11; try have c11b2 : (9223372036854775807 < ((((⟨#[105, 110, 116, 91]⟩ : ByteArray) ++ t189) ++ (⟨#[44, 32]⟩ : ByteArray)) ++ t190).size + 1) = False := eq_false (Nat.not_lt.2 c11)
       have c11b9 : (9223372036854775807 < 4 + t189.size + 2 + t190.size + 1) = False := by have h := c11; simp only [ByteArray.size_append, iW, List.size_toArray, List.length_cons, List.length_nil] at h; exact eq_false (by omega)
       obtain rfl := Option.some.inj H; go_enter Tryd.func44, Tryd.ntmps44; try go_wp2_with (first | ((with_reducible refine aW (N := 1) rfl ?_); refine bf ?hg (N := 1) ?hd (cs := #[.int .i64 ah, .int .i64 au, .int .i64 aj, .int .i64 ak, .slice aM af.length aH]) (t := 24) ?hr ?_; (case hd => rfl); (case hg => rfl); (case hr => first | (go_simp; done) | (go_simp; rfl)); intro jW hg w12 aG hb; have dY := aa.mk (aG); have zk : aa (w.heap.size ≤ jW) := gw_ hg (ax bl_); have Ke := zk; replace HB := aa.mk (ai bl_ hb); clear hb aG hg; obtain ⟨nU, nV, nW, oZ, o5, nX, nY, nZ, o6, o7⟩ := bg dY.out))
       replace dY := aa.mk (dz dY.out); replace HB := aa.mk (bR HB.out); refine oG (n := 11) (S := fun w' => w'.cell? ⟨jW, 0, none⟩ = some (.int .i64 ah) ∧ w'.cell? ⟨jW, 1, none⟩ = some (.int .i64 au) ∧ w'.cell? ⟨jW, 2, none⟩ = some (.int .i64 aj) ∧ w'.cell? ⟨jW, 3, none⟩ = some (.int .i64 ak) ∧ w'.cell? ⟨jW, 4, none⟩ = some (.slice aM af.length aH)) (ds := []) #[false, false, false, false, false, false, false, false, false, false, false] (by kernel_rfl) rfl rfl ⟨(av dY.out 0).trans rfl, (av dY.out 1).trans rfl, (av dY.out 2).trans rfl, (av dY.out 3).trans rfl, (av dY.out 4).trans rfl⟩ (fun hHeld => ?_); refine iV bz.tab5 bz.bits5 (fun HT_ HW_ => ?_)
       generalize w12.drew = w14 at dY HB hHeld ⊢
       refine pu_ HT_ 0 12 (bm 11 1) ?_
       refine pu_ HT_ 5 17 (bm 11 33) ?_
       refine ta_ HT_ HW_ 1 13 (bm 11 35) hHeld ?_
       refine ta_ HT_ HW_ 6 18 (bm 11 99) hHeld ?_
       refine kQ (i := 2) (N := some 14) #[true, true, true, false, false, true, true, false, false, false, false] rfl rfl (gK HT_.out (by kernel_rfl)) (by decide) (fun K hK => ?_)
       refine iU Tryd.func71 (by kernel_rfl) rfl #[.int .i64 au] (by rfl) rfl rfl mp_ ?_
       with_reducible refine (fB.calls au t189 _ A6.out ?tab).mono ?_
       (case tab => exact uI oM.out bl_)
       rintro e w15 ⟨rfl, hb⟩
       refine ⟨_, rfl, ?_⟩
       replace dY := kb_ dY hb; replace HB := aa.mk (ai bl_ hb); (try clear hb)
       (try clear hb2)
       (try clear hk)
       (try clear hi)
       refine hK.out _ _ ⟨(av dY.out 0).trans rfl, (av dY.out 1).trans rfl, (av dY.out 2).trans rfl, (av dY.out 3).trans rfl, (av dY.out 4).trans rfl⟩ (fun hHeld => ?_)
       clear hK K; refine iT (a' := ?_) ?_ ?_
       rotate_left
       ·show Act.put _ (some 14) _ = _
        simp only [Act.put, List.setIfInBounds_toArray, List.set_cons_zero, List.set_cons_succ, dS, ek]; rfl
       refine pu_ HT_ 3 15 (bm 11 111) ?_
       refine pu_ HT_ 4 16 (bm 11 127) ?_
       refine kQ (i := 7) (N := some 19) #[true, true, true, true, true, true, true, true, false, false, false] rfl rfl (gK HT_.out (by kernel_rfl)) (by decide) (fun K hK => ?_)
       refine iU Tryd.func71 (by kernel_rfl) rfl #[.int .i64 aj] (by rfl) rfl rfl mp_ ?_
       with_reducible refine (fB.calls aj t190 _ A9.out ?tab).mono ?_
       (case tab => exact uI oM.out bl_)
       rintro e w16 ⟨rfl, hb⟩
       refine ⟨_, rfl, ?_⟩
       replace dY := kb_ dY hb; replace HB := aa.mk (ai bl_ hb); (try clear hb)
       (try clear hb2)
       (try clear hk)
       (try clear hi)
       refine hK.out _ _ ⟨(av dY.out 0).trans rfl, (av dY.out 1).trans rfl, (av dY.out 2).trans rfl, (av dY.out 3).trans rfl, (av dY.out 4).trans rfl⟩ (fun hHeld => ?_)
       clear hK K; refine iT (a' := ?_) ?_ ?_
       rotate_left
       ·show Act.put _ (some 19) _ = _
        simp only [Act.put, List.setIfInBounds_toArray, List.set_cons_zero, List.set_cons_succ, dS, ek]; rfl
       refine pu_ HT_ 8 20 (bm 11 511) ?_
       refine pu_ HT_ 9 21 (bm 11 1023) ?_
       refine pu_ HT_ 10 2 #[true, true, true, true, true, true, true, true, true, true, true] ?_
       refine sS (lC HT_.out (by kernel_rfl)) ?_
       try go_wp2
       go_ret; exact ⟨re_, bl_⟩
      ·rw [if_neg c11] at H; exact absurd H (by simp)
     ·rw [if_neg c10] at H; exact absurd H (by simp)
    ·rw [if_neg c8] at H; exact absurd H (by simp)
   ·rw [if_neg c7] at H; exact absurd H (by simp)
  ·rw [if_neg c5] at H; obtain ⟨gQ, qF⟩ := bn_ c5; by_cases c17 : ah = 3
   ·rw [if_pos c17] at H; obtain ⟨l8, sV⟩ := bq_ c17; clear c17; obtain rfl := Option.some.inj H; go_enter Tryd.func44, Tryd.ntmps44; go_wp2_with (first | ((with_reducible refine aW (N := 1) rfl ?_); refine bf ?hg (N := 1) ?hd (cs := #[.int .i64 ah, .int .i64 au, .int .i64 aj, .int .i64 ak, .slice aM af.length aH]) (t := 24) ?hr ?_; (case hd => rfl); (case hg => rfl); (case hr => first | (go_simp; done) | (go_simp; rfl)); intro jW hg w18 aG hb; have dY := aa.mk (aG); have zk : aa (w.heap.size ≤ jW) := gw_ hg (ax bl_); have Ke := zk; replace HB := aa.mk (ai bl_ hb); clear hb aG hg; obtain ⟨yx, yz, yA, yB, yC, yD, yE, yF, yG, yH⟩ := bg dY.out))
    go_ret; exact ⟨re_, bl_⟩
   ·rw [if_neg c17] at H; obtain ⟨l8, sV⟩ := bn_ c17; by_cases c20 : ah = 4
    ·rw [if_pos c20] at H; obtain ⟨qJ, BO⟩ := bq_ c20; clear c20; obtain rfl := Option.some.inj H; go_enter Tryd.func44, Tryd.ntmps44; go_wp2_with (first | ((with_reducible refine aW (N := 1) rfl ?_); refine bf ?hg (N := 1) ?hd (cs := #[.int .i64 ah, .int .i64 au, .int .i64 aj, .int .i64 ak, .slice aM af.length aH]) (t := 24) ?hr ?_; (case hd => rfl); (case hg => rfl); (case hr => first | (go_simp; done) | (go_simp; rfl)); intro jW hg w21 aG hb; have dY := aa.mk (aG); have zk : aa (w.heap.size ≤ jW) := gw_ hg (ax bl_); have Ke := zk; replace HB := aa.mk (ai bl_ hb); clear hb aG hg; obtain ⟨lF, lG, lH, mP, mQ, lI, lJ, lK, mR, mU⟩ := bg dY.out))
     go_ret; exact ⟨re_, bl_⟩
    ·rw [if_neg c20] at H; obtain ⟨qJ, BO⟩ := bn_ c20; by_cases c23 : ah = 6
     ·rw [if_pos c23] at H; obtain ⟨vE, vF⟩ := bq_ c23; clear c23; replace H := Option.bind_eq_some_iff.mp H; obtain ⟨t191, A240, H⟩ := H; (try dsimp only at H)
      have A24 := aa.mk A240; clear A240; by_cases c25 : 5 + t191.size ≤ 9223372036854775807
      ·rw [if_pos c25] at H; have D8 := eq_true c25; have D9 := decide_eq_true c25; try have c25b2 : (9223372036854775807 < 5 + t191.size) = False := eq_false (Nat.not_lt.2 c25)
       by_cases c26 : ((⟨#[108, 105, 115, 116, 91]⟩ : ByteArray) ++ t191).size + 2 ≤ 9223372036854775807
       ·rw [if_pos c26] at H; have Kg := eq_true c26; have c26b1 := decide_eq_true c26; try have c26b2 : (9223372036854775807 < ((⟨#[108, 105, 115, 116, 91]⟩ : ByteArray) ++ t191).size + 2) = False := eq_false (Nat.not_lt.2 c26)
        have c26b9 : (9223372036854775807 < 5 + t191.size + 2) = False := by have h := c26; simp only [ByteArray.size_append, iW, List.size_toArray, List.length_cons, List.length_nil] at h; exact eq_false (by omega)
        by_cases c27 : 0 < (af.length : Int)
        ·rw [if_pos c27] at H; have Kh := decide_eq_true c27; have c27b1 : decide (0 < af.length) = true := decide_eq_true (by omega); clear c27; replace H := Option.bind_eq_some_iff.mp H; obtain ⟨t193, A280, H⟩ := H; (try dsimp only at H)
         have A28 := aa.mk A280; clear A280; by_cases c29 : (((⟨#[108, 105, 115, 116, 91]⟩ : ByteArray) ++ t191) ++ (⟨#[93, 32]⟩ : ByteArray)).size + t193.size ≤ 9223372036854775807
         ·rw [if_pos c29] at H; have BL := eq_true c29; have BM := decide_eq_true c29; try have c29b2 : (9223372036854775807 < (((⟨#[108, 105, 115, 116, 91]⟩ : ByteArray) ++ t191) ++ (⟨#[93, 32]⟩ : ByteArray)).size + t193.size) = False := eq_false (Nat.not_lt.2 c29)
          have c29b9 : (9223372036854775807 < 5 + t191.size + 2 + t193.size) = False := by have h := c29; simp only [ByteArray.size_append, iW, List.size_toArray, List.length_cons, List.length_nil] at h; exact eq_false (by omega)
          obtain rfl := Option.some.inj H; go_enter Tryd.func44, Tryd.ntmps44; try go_wp2_with (first | ((with_reducible refine aW (N := 1) rfl ?_); refine bf ?hg (N := 1) ?hd (cs := #[.int .i64 ah, .int .i64 au, .int .i64 aj, .int .i64 ak, .slice aM af.length aH]) (t := 24) ?hr ?_; (case hd => rfl); (case hg => rfl); (case hr => first | (go_simp; done) | (go_simp; rfl)); intro jW hg w30 aG hb; have dY := aa.mk (aG); have zk : aa (w.heap.size ≤ jW) := gw_ hg (ax bl_); have Ke := zk; replace HB := aa.mk (ai bl_ hb); clear hb aG hg; obtain ⟨xR, xS, xU, zw, zx, xV, xW, xX, zy, zz⟩ := bg dY.out))
          replace dY := aa.mk (dz dY.out); replace HB := aa.mk (bR HB.out); have p192 : 0 ≤ (0 : Int) := (by omega); have q192 : 0 < (af.length : Int) := dt_; obtain ⟨Be, A192_4, c192_4, e192, Cy, Cz, CB, CE, CF, Ql, Qm⟩ := dZ bu.out 0 p192 q192; have Ah := CF; (try simp only [z0_, Nat.zero_mul, Addr.add_zero'] at Ah)
          have Ai := CE; (try simp only [z0_, Nat.zero_mul, Addr.add_zero'] at Ai)
          have Aj := CB; (try simp only [z0_, Nat.zero_mul, Addr.add_zero'] at Aj)
          have Ak := Cz; (try simp only [z0_, Nat.zero_mul, Addr.add_zero'] at Ak)
          have Al := Cy; (try simp only [z0_, Nat.zero_mul, Addr.add_zero'] at Al)
          cases e192; have qi192 : (0 < af.length) = True := eq_true (by omega); (try simp only [z0_, Nat.zero_mul, Addr.add_zero'] at Cy Cz CB CE CF)
          replace Cy := hc_ HB Cy; replace Cz := hc_ HB Cz; replace CB := hc_ HB CB; replace CE := hc_ HB CE; replace CF := hc_ HB CF; have Qn := aa.mk Qm; have HC192_4 := aa.mk Ql; clear Qm Ql; replace p192 := eq_true p192; replace q192 := eq_true q192; refine oG (n := 12) (S := fun w' => w'.cell? ⟨jW, 0, none⟩ = some (.int .i64 ah) ∧ w'.cell? ⟨jW, 1, none⟩ = some (.int .i64 au) ∧ w'.cell? ⟨jW, 2, none⟩ = some (.int .i64 aj) ∧ w'.cell? ⟨jW, 3, none⟩ = some (.int .i64 ak) ∧ w'.cell? ⟨jW, 4, none⟩ = some (.slice (some Be) af.length aH) ∧ w'.cell? Be = some (.int .i64 ((ag af 0).f0)) ∧ w'.cell? ⟨Be.block, Be.off + 1, none⟩ = some (.int .i64 ((ag af 0).f1)) ∧ w'.cell? ⟨Be.block, Be.off + 2, none⟩ = some (.int .i64 ((ag af 0).f2)) ∧ w'.cell? ⟨Be.block, Be.off + 3, none⟩ = some (.int .i64 ((ag af 0).f3)) ∧ w'.cell? ⟨Be.block, Be.off + 4, none⟩ = some (.slice A192_4 ((ag af 0).f4).length c192_4)) (ds := []) #[false, false, false, false, false, false, false, false, false, false, false, false] (by kernel_rfl) rfl rfl ⟨(av dY.out 0).trans rfl, (av dY.out 1).trans rfl, (av dY.out 2).trans rfl, (av dY.out 3).trans rfl, (av dY.out 4).trans rfl, ((HB.out.cell (World.block_lt_of_cell? w _ Al)).trans Al), ((HB.out.cell (World.block_lt_of_cell? w _ Ak)).trans Ak), ((HB.out.cell (World.block_lt_of_cell? w _ Aj)).trans Aj), ((HB.out.cell (World.block_lt_of_cell? w _ Ai)).trans Ai), ((HB.out.cell (World.block_lt_of_cell? w _ Ah)).trans Ah)⟩ (fun hHeld => ?_); refine iV bz.JW bz.GG (fun HT_ HW_ => ?_)
          generalize w30.drew = w32 at dY HB Qn Cy Cz CB CE CF hHeld ⊢
          refine pu_ HT_ 0 28 (bm 12 1) ?_
          refine pu_ HT_ 5 33 (bm 12 33) ?_
          refine ta_ HT_ HW_ 1 29 (bm 12 35) hHeld ?_
          refine ta_ HT_ HW_ 6 34 (bm 12 99) hHeld ?_
          refine pu_ HT_ 7 35 (bm 12 227) ?_
          refine ta_ HT_ HW_ 8 36 (bm 12 483) hHeld ?_
          refine kQ (i := 2) (N := some 30) #[true, true, true, false, false, true, true, true, true, false, false, false] rfl rfl (gK HT_.out (by kernel_rfl)) (by decide) (fun K hK => ?_)
          refine iU Tryd.func71 (by kernel_rfl) rfl #[.int .i64 ak] (by rfl) rfl rfl mp_ ?_
          with_reducible refine (fB.calls ak t191 _ A24.out ?tab).mono ?_
          (case tab => exact uI oM.out bl_)
          rintro e w33 ⟨rfl, hb⟩
          refine ⟨_, rfl, ?_⟩
          replace dY := kb_ dY hb; replace HB := aa.mk (ai bl_ hb); (try clear hb)
          (try clear hb2)
          (try clear hk)
          (try clear hi)
          refine hK.out _ _ ⟨(av dY.out 0).trans rfl, (av dY.out 1).trans rfl, (av dY.out 2).trans rfl, (av dY.out 3).trans rfl, (av dY.out 4).trans rfl, ((HB.out.cell (World.block_lt_of_cell? w _ Al)).trans Al), ((HB.out.cell (World.block_lt_of_cell? w _ Ak)).trans Ak), ((HB.out.cell (World.block_lt_of_cell? w _ Aj)).trans Aj), ((HB.out.cell (World.block_lt_of_cell? w _ Ai)).trans Ai), ((HB.out.cell (World.block_lt_of_cell? w _ Ah)).trans Ah)⟩ (fun hHeld => ?_)
          clear hK K; refine iT (a' := ?_) ?_ ?_
          rotate_left
          ·show Act.put _ (some 30) _ = _
           simp only [Act.put, List.setIfInBounds_toArray, List.set_cons_zero, List.set_cons_succ, dS, ek]; rfl
          refine pu_ HT_ 3 31 (bm 12 495) ?_
          refine pu_ HT_ 4 32 (bm 12 511) ?_
          refine kQ (i := 9) (N := some 37) #[true, true, true, true, true, true, true, true, true, true, false, false] rfl rfl (gK HT_.out (by kernel_rfl)) (by decide) (fun K hK => ?_)
          refine iU Tryd.func44 (by kernel_rfl) rfl #[.agg #[.int .i64 ((ag af 0).f0), .int .i64 ((ag af 0).f1), .int .i64 ((ag af 0).f2), .int .i64 ((ag af 0).f3), .slice A192_4 ((ag af 0).f4).length c192_4]] (by rfl) rfl rfl mp_ ?_
          with_reducible refine (ih k (by omega) ((ag af 0).f0) ((ag af 0).f1) ((ag af 0).f2) ((ag af 0).f3) _ _ ((ag af 0).f4) t193 _ ?az ?aA A28.out ?tab).mono ?_
          (case tab => exact uI oM.out bl_)
          (case az => exact cb_ (Kd.aK Qn.out HB.out))
          (case aA => exact HC192_4.out)
          rintro e w34 ⟨rfl, hb⟩
          refine ⟨_, rfl, ?_⟩
          replace dY := kb_ dY hb; replace HB := aa.mk (ai bl_ hb); (try clear hb)
          (try clear hb2)
          (try clear hk)
          (try clear hi)
          refine hK.out _ _ ⟨(av dY.out 0).trans rfl, (av dY.out 1).trans rfl, (av dY.out 2).trans rfl, (av dY.out 3).trans rfl, (av dY.out 4).trans rfl, ((HB.out.cell (World.block_lt_of_cell? w _ Al)).trans Al), ((HB.out.cell (World.block_lt_of_cell? w _ Ak)).trans Ak), ((HB.out.cell (World.block_lt_of_cell? w _ Aj)).trans Aj), ((HB.out.cell (World.block_lt_of_cell? w _ Ai)).trans Ai), ((HB.out.cell (World.block_lt_of_cell? w _ Ah)).trans Ah)⟩ (fun hHeld => ?_)
          clear hK K; refine iT (a' := ?_) ?_ ?_
          rotate_left
          ·show Act.put _ (some 37) _ = _
           simp only [Act.put, List.setIfInBounds_toArray, List.set_cons_zero, List.set_cons_succ, dS, ek]; rfl
          refine pu_ HT_ 10 38 (bm 12 2047) ?_
          refine pu_ HT_ 11 2 #[true, true, true, true, true, true, true, true, true, true, true, true] ?_
          refine sS (lC HT_.out (by kernel_rfl)) ?_
          try go_wp2
          go_ret; exact ⟨re_, bl_⟩
         ·rw [if_neg c29] at H; exact absurd H (by simp)
        ·rw [if_neg c27] at H; exact absurd H (by simp)
       ·rw [if_neg c26] at H; exact absurd H (by simp)
      ·rw [if_neg c25] at H; exact absurd H (by simp)
     ·rw [if_neg c23] at H; obtain ⟨vE, vF⟩ := bn_ c23; have H' := aa.mk H; clear H; go_enter Tryd.func44, Tryd.ntmps44; go_wp2_with (first | ((with_reducible refine aW (N := 1) rfl ?_); refine bf ?hg (N := 1) ?hd (cs := #[.int .i64 ah, .int .i64 au, .int .i64 aj, .int .i64 ak, .slice aM af.length aH]) (t := 24) ?hr ?_; (case hd => rfl); (case hg => rfl); (case hr => first | (go_simp; done) | (go_simp; rfl)); intro jW hg w35 aG hb; have dY := aa.mk (aG); have zk : aa (w.heap.size ≤ jW) := gw_ hg (ax bl_); have Ke := zk; replace HB := aa.mk (ai bl_ hb); clear hb aG hg; obtain ⟨E9, Fa, Fb, Fe, Ff, Fg, Fh, Fj, Fp, Fq⟩ := bg dY.out))
      go_loopg [3, 42] k (fun kq v3 v42 w' => ∃ (dL : List ByteArray) (gL : Int), v42 = .int .i64 gL ∧ aa (bz.l0 kq dL af (af.length : Int) gL = some r) ∧ aa (kq ≤ k) ∧ aa (Kd.R Kd.string 9 w' w.heap.size (fun _ => True) v3 dL) ∧ aa (w'.heap[jW]? = some (.cells #[.int .i64 ah, .int .i64 au, .int .i64 aj, .int .i64 ak, (.slice aM af.length aH)] 24 (0, 0))) ∧ aa (Below w.heap.size w w'))
      case atStart => exact ⟨(([] : List ByteArray)), (0), rs_, H', ⟨Nat.le_refl _⟩, ⟨by first | exact Kd.mh _ _ _ _ _ | exact Kd.yS _ _ _ _ _ | exact Kd.yU _ _ _ _ _ | exact Kd.yQ _ _ _ _ _ | exact Kd.yR _ _ _ _ _⟩, ⟨bk_⟩, ⟨bl_⟩⟩
      case round =>
       clear H'; (try clear c1); (try clear p1); (try clear q1); (try clear hx1); (try clear qi1); (try clear c2); (try clear iZ); (try clear kR); (try clear p2); (try clear c4); (try clear c5); (try clear gQ); (try clear qF); (try clear c7); (try clear jM); (try clear vo); (try clear c7b2); (try clear c8); (try clear gH); (try clear jv); (try clear c8b2); (try clear c10); (try clear ig); (try clear zl); (try clear c10b2); (try clear c11); (try clear IE); (try clear c11b1); (try clear c11b2); (try clear c17); (try clear l8); (try clear sV); (try clear c19); (try clear p19); (try clear q19); (try clear hx19); (try clear qi19); (try clear c20); (try clear qJ); (try clear BO); (try clear c23); (try clear vE); (try clear vF); (try clear c25); (try clear D8); (try clear D9); (try clear c25b2); (try clear c26); (try clear Kg); (try clear c26b1); (try clear c26b2); (try clear c27); (try clear Kh); (try clear c27b1); (try clear c29); (try clear BL); (try clear BM); (try clear c29b2); (try clear nU nV nW oZ o5 nX nY nZ o6 o7); (try clear yx yz yA yB yC yD yE yF yG yH); (try clear lF lG lH mP mQ lI lJ lK mR mU); (try clear xR xS xU zw zx xV xW xX zy zz); (try clear E9 Fa Fb Fe Ff Fg Fh Fj Fp Fq); (try clear iA iB iC iD iE iF iG iH iI iJ); (try clear Cy); (try clear Cz); (try clear CB); (try clear CE); (try clear CF); (try clear p192); (try clear q192); obtain ⟨dL, gL, rfl, HA, HK1, gV, dY, HB⟩ := hrel; cases gk with
       | zero => exact absurd HA.out (by simp [bz.l0])
       | succ k1 =>
        have H := HA.out; clear HA; simp only [bz.l0] at H; by_cases c37 : gL < (af.length : Int)
        ·rw [if_pos c37] at H; have Ki := decide_eq_true c37; clear c37; by_cases c38 : 0 ≤ gL
         ·rw [if_pos c38] at H; have JS := decide_eq_true c38; clear c38; by_cases c39 : gL < (af.length : Int)
          ·rw [if_pos c39] at H; have zg := decide_eq_true c39; clear c39; replace H := Option.bind_eq_some_iff.mp H; obtain ⟨t196, A400, H⟩ := H; (try dsimp only at H)
           have A40 := aa.mk A400; clear A400; by_cases c41 : dL.length < 8796093022208
           ·rw [if_pos c41] at H; have LMc41 := aa.mk c41; clear c41; obtain ⟨y197, Kj⟩ : ∃ y_ : List ByteArray, y_ = (dL ++ [t196]) := ⟨_, rfl⟩; replace H : (bz.l0 k1 y197 af (af.length : Int) (wrap64 (gL + 1))) = some r := by first | (rw [Kj]; with_reducible exact H) | (have H2_ := (Option.bind_some _ _).symm.trans H; rw [Kj]; with_reducible exact H2_) | (have H2_ := (Option.bind_some _ _).symm.trans H; with_reducible exact H2_) | with_reducible exact H | (rw [Kj]; exact H) | exact H
            have Ny197 := aa.mk Kj; clear Kj; have H' := aa.mk H; clear H; have p194 : 0 ≤ (gL : Int) := dt_; have q194 : gL < (af.length : Int) := dt_; obtain ⟨ad194, Kk, Kl, e194, Qo, Qp, Qq, Qr, Qs, Qt, Qu⟩ := dZ bu.out gL p194 q194; cases e194; replace Qo := hc_ HB Qo; replace Qp := hc_ HB Qp; replace Qq := hc_ HB Qq; replace Qr := hc_ HB Qr; replace Qs := hc_ HB Qs; have HR194_4 := aa.mk Qu; have HC194_4 := aa.mk Qt; clear Qu Qt; replace p194 := eq_true p194; replace q194 := eq_true q194; go_wp2_with (first | ((with_reducible refine aW (N := 5) rfl ?_); refine bf ?hg (N := 5) ?hd (cs := #[.int .i64 0, .int .i64 0, .int .i64 0, .int .i64 0, .slice none 0 0]) (t := 24) ?hr ?_; (case hd => rfl); (case hg => rfl); (case hr => first | (go_simp; done) | (go_simp; rfl)); intro Ec hg w42 aG hb; have Km := aa.mk (aG); have GW195 : aa (w.heap.size ≤ Ec) := gw_ hg (ax bl_); have GE195 := GW195; have SY := nl_ dY hg; have S9 := ng_ dY hg; replace gV := aa.mk (Kd.dM (pR_ gV.out) hb); replace dY := kb_ dY hb; replace HB := aa.mk (ai bl_ hb); clear hb aG hg; have hnb43 := S9.out; have hnc43 := SY.out; obtain ⟨Qf, Qg, Qh, hcz44_3, hcz44_4, Qi, Qj, Qk, hfz44_3, hfz44_4⟩ := bg Km.out) | ((with_reducible refine aD (f := 44) rfl ?_); refine aZ (some 48) rfl rfl Tryd.func44 (by kernel_rfl) rfl #[.agg #[.int .i64 ((ag af gL).f0), .int .i64 ((ag af gL).f1), .int .i64 ((ag af gL).f2), .int .i64 ((ag af gL).f3), .slice Kk ((ag af gL).f4).length Kl]] rfl mp_ ?_; (with_reducible refine (ih k1 (by have := HK1.out; omega) ((ag af gL).f0) ((ag af gL).f1) ((ag af gL).f2) ((ag af gL).f3) _ _ ((ag af gL).f4) t196 _ ?az ?aA A40.out ?tab).mono ?_); (case tab => exact uI oM.out bl_); (case az => exact Kd.aK HR194_4.out bl_); (case aA => exact HC194_4.out); rintro e w45 ⟨rfl, hb⟩; refine ⟨_, rfl, ?_⟩; replace gV := aa.mk (Kd.dM (by (with_reducible repeat (first | apply Kd.bL | apply Kd.bM | apply Kd.bQ)); exact (Kd.bG (Kd.bI (p := ⟨Ec, 4, none⟩) (Kd.bI (p := ⟨Ec, 3, none⟩) (Kd.bI (p := ⟨Ec, 2, none⟩) (Kd.bI (p := ⟨Ec, 1, none⟩) (Kd.bI (p := ⟨Ec, 0, none⟩) (Kd.gB gV.out Km.out (by decide)) (fun _ hk => hk.2) (.int .i64 ((ag af gL).f0))) (fun _ hk => hk.2) (.int .i64 ((ag af gL).f1))) (fun _ hk => hk.2) (.int .i64 ((ag af gL).f2))) (fun _ hk => hk.2) (.int .i64 ((ag af gL).f3))) (fun _ hk => hk.2) (.slice Kk ((ag af gL).f4).length Kl)) (fun _ h_ => h_.1))) hb); replace dY := aa.mk (dR (g := jW) (o := .cells #[.int .i64 ah, .int .i64 au, .int .i64 aj, .int .i64 ak, .slice (some ad194) af.length aH] 24 (0, 0)) b5_ hb); replace Km := aa.mk (dR (g := Ec) (o := .cells #[.int .i64 ((ag af gL).f0), .int .i64 ((ag af gL).f1), .int .i64 ((ag af gL).f2), .int .i64 ((ag af gL).f3), .slice Kk ((ag af gL).f4).length Kl] 24 (0, 0)) b5_ hb); replace HB := aa.mk (ai bl_ hb); (try clear hb); (try clear hb2); (try clear hk); (try clear hi)) | ((with_reducible refine mf (b := .append) (xs := #[.tmp 46, .tmp 49]) rfl ?_); at_builtin; refine Kd.Om Kd.string (w0 := w) w.heap.size rfl (.tmp 46) (.tmp 49) 79 9 (.string ⟨#[]⟩) 16 rfl Tryd.underlying79 info9 rfl (by decide) (by omega) u3 dL t196 [.string t196] (fun _ => True) (fun _ => False) rfl rfl ?aP (fun _ hk => hk.elim) ?aF ?aO ?aB ?aS ?aL ?_; (case aP => exact rfl); (case aB => exact bl_); (case aF => exact (fun _ _ => trivial)); (case aO => exact (pR_ gV.out)); (case aS => exact (ax bl_)); (case aL => have := LMc41.out; omega); intro v198 w46 ho hb hg hat; rw [← Ny197.out] at ho; have HO199 := aa.mk (ho); replace dY := aa.mk (qy (g := jW) (o := .cells #[.int .i64 ah, .int .i64 au, .int .i64 aj, .int .i64 ak, .slice (some ad194) af.length aH] 24 (0, 0)) bk_ hg (Kd.R_ne gV.out dY.out (by decide))); replace Km := aa.mk (qy (g := Ec) (o := .cells #[.int .i64 ((ag af gL).f0), .int .i64 ((ag af gL).f1), .int .i64 ((ag af gL).f2), .int .i64 ((ag af gL).f3), .slice Kk ((ag af gL).f4).length Kl] 24 (0, 0)) bk_ hg (Kd.R_ne gV.out Km.out (by decide))); replace HB := aa.mk (hb); clear gV; clear ho hb hg hat))
            go_roundg k1
            case measure => have := HK1.out; omega
            case rel => exact ⟨(y197), (wrap64 (gL + 1)), rs_, H', ⟨by have := HK1.out; omega⟩, ⟨pR_ HO199.out⟩, ⟨bk_⟩, ⟨bl_⟩⟩
           ·rw [if_neg c41] at H; exact absurd H (by simp)
          ·rw [if_neg c39] at H; exact absurd H (by simp)
         ·rw [if_neg c38] at H; exact absurd H (by simp)
        ·rw [if_neg c37] at H; have Ki := decide_eq_false c37; clear c37; replace H := Option.bind_eq_some_iff.mp H; obtain ⟨t200, A470, H⟩ := H; (try dsimp only at H)
         have A47 := aa.mk A470; clear A470; by_cases c48 : 1 + t200.size ≤ 9223372036854775807
         ·rw [if_pos c48] at H; have c48b0 := eq_true c48; have c48b1 := decide_eq_true c48; try have c48b2 : (9223372036854775807 < 1 + t200.size) = False := eq_false (Nat.not_lt.2 c48)
          by_cases c49 : ((⟨#[40]⟩ : ByteArray) ++ t200).size + 1 ≤ 9223372036854775807
          ·rw [if_pos c49] at H; have Hl := eq_true c49; have Hm := decide_eq_true c49; try have c49b2 : (9223372036854775807 < ((⟨#[40]⟩ : ByteArray) ++ t200).size + 1) = False := eq_false (Nat.not_lt.2 c49)
           have c49b9 : (9223372036854775807 < 1 + t200.size + 1) = False := by have h := c49; simp only [ByteArray.size_append, iW, List.size_toArray, List.length_cons, List.length_nil] at h; exact eq_false (by omega)
           obtain rfl := Option.some.inj H; obtain ⟨Ao50, co50, eo50⟩ := Kd.bK gV.out; subst eo50; go_wp2_with (first | ((with_reducible refine aD (f := 72) rfl ?_); refine aZ (some 53) rfl rfl Tryd.func72 (by kernel_rfl) rfl #[.slice Ao50 dL.length co50, .string (⟨#[44, 32]⟩ : ByteArray)] rfl mp_ ?_; (with_reducible refine (strings_Join.calls _ _ dL (⟨#[44, 32]⟩ : ByteArray) t200 _ ?az ?aA A47.out).mono ?_); (case az => exact cb_ ((Kd.aY gV.out).2.2)); (case aA => exact (Kd.aY gV.out).2.1); rintro e w51 ⟨rfl, hb⟩; refine ⟨_, rfl, ?_⟩; replace gV := aa.mk (Kd.dM (pR_ gV.out) hb); replace dY := kb_ dY hb; replace HB := aa.mk (ai bl_ hb); (try clear hb); (try clear hb2); (try clear hk); (try clear hi)))
           go_ret; exact ⟨re_, bl_⟩
          ·rw [if_neg c49] at H; exact absurd H (by simp)
         ·rw [if_neg c48] at H; exact absurd H (by simp)

end Go.Proofs.YtggelekooacmnaaDoor.Q
namespace Go.Proofs.YtggelekooacmnaaDoor.Q
open Go.RowKit Go.Proofs.YtggelekooacmnaaDoorW.aU Go.Proofs.YtggelekooacmnaaDoorW.bD Go.Proofs.YtggelekooacmnaaDoorW.bH
attribute [local go_sem] dB dC dN dO cO cZ dD dE   -- for this text's walks alone
set_option linter.unusedVariables false
set_option linter.unusedSimpArgs false

/-! ### eG: function 21 -/
def eG.f (k : Nat) (ah : Int) (au : Int) (aj : Int) (ak : Int) (af : List (S24)) : Option (ByteArray × Int) := (bO.f k ah au aj ak af).bind fun t202 => (if t202 = 0 then ((bz.f k ah au aj ak af).bind fun t203 => (some (t203, 0))) else (some ((⟨#[]⟩ : ByteArray), t202)))
theorem eG.mono : ∀ a0 a1 a2 a3 a4 k, LeO (eG.f k a0 a1 a2 a3 a4) (eG.f (k + 1) a0 a1 a2 a3 a4) := by
 intro a0 a1 a2 a3 a4 k; unfold eG.f
 repeat' first
   | (with_reducible exact bO.mono _ _ _ _ _ _)
   | (with_reducible exact bz.mono _ _ _ _ _ _)
   | (with_reducible exact LeO.refl _)
   | (with_reducible exact LeO.none _)
   | (with_reducible refine LeO.ite ?_ ?_)
   | (with_reducible refine LeO.bind ?_ (fun _ => ?_))
   | exact bO.mono _ _ _ _ _ _
   | exact bz.mono _ _ _ _ _ _
   | exact LeO.none _
   | refine LeO.ite ?_ ?_
   | refine LeO.bind ?_ (fun _ => ?_)
set_option maxHeartbeats 8000000 in
set_option maxRecDepth 100000 in
theorem eG.calls (k : Nat) (ah : Int) (au : Int) (aj : Int) (ak : Int) (aM : Option Addr) (aH : Nat) (af : List (S24)) (r1 : ByteArray) (r2 : Int) (w : World) (di : Kd.C k24 w aM af.length af) (dm : af.length ≤ aH) (h : eG.f k ah au aj ak af = some (r1, r2)) (htab : qO w.heap.size w) :
  Calls Tryd.prog 21 #[.agg #[.int .i64 ah, .int .i64 au, .int .i64 aj, .int .i64 ak, .slice aM af.length aH]] w fun e w' => e = .returned (.tuple #[.string r1, .int .i64 r2]) ∧ Below w.heap.size w w' := by
 have oM := aa.mk htab; clear htab; have mg := Tryd.underlying24; have bu := aa.mk di; have bU := aa.mk dm; clear di dm; have HB := aa.mk (Below.refl w.heap.size w); have H : ((bO.f k ah au aj ak af).bind fun t202 => (if t202 = 0 then ((bz.f k ah au aj ak af).bind fun t203 => (some (t203, 0))) else (some ((⟨#[]⟩ : ByteArray), t202)))) = some (r1, r2) := h; clear h; replace H := Option.bind_eq_some_iff.mp H; obtain ⟨t202, A20, H⟩ := H; (try dsimp only at H)
 have A2 := aa.mk A20; clear A20; by_cases c3 : t202 = 0
 ·rw [if_pos c3] at H; obtain ⟨gX, jH⟩ := bq_ c3; clear c3; replace H := Option.bind_eq_some_iff.mp H; obtain ⟨t203, A40, H⟩ := H; (try dsimp only at H)
  have A4 := aa.mk A40; clear A40; simp only [Option.some.injEq, Prod.mk.injEq] at H; obtain ⟨rfl, rfl⟩ := H; go_enter Tryd.func21, Tryd.ntmps21; go_wp2_with (first | ((with_reducible refine aW (N := 1) rfl ?_); refine bf ?hg (N := 1) ?hd (cs := #[.int .i64 ah, .int .i64 au, .int .i64 aj, .int .i64 ak, .slice aM af.length aH]) (t := 24) ?hr ?_; (case hd => rfl); (case hg => rfl); (case hr => first | (go_simp; done) | (go_simp; rfl)); intro gb201 hg w5 aG hb; have Bf := aa.mk (aG); have GW201 : aa (w.heap.size ≤ gb201) := gw_ hg (ax bl_); have GE201 := GW201; replace HB := aa.mk (ai bl_ hb); clear hb aG hg; obtain ⟨kV, kW, kX, kY, kZ, lg, lh, ll, lq, lu⟩ := bg Bf.out) | ((with_reducible refine aD (f := 12) rfl ?_); refine aZ (some 6) rfl rfl Tryd.func12 (by kernel_rfl) rfl #[.agg #[.int .i64 ah, .int .i64 au, .int .i64 aj, .int .i64 ak, .slice aM af.length aH]] rfl mp_ ?_; (with_reducible refine (bO.calls k ah au aj ak _ _ af t202 _ ?az ?aA A2.out).mono ?_); (case az => exact cb_ (Kd.aK bu.out HB.out)); (case aA => exact bU.out); rintro e w7 ⟨rfl, hb⟩; refine ⟨_, rfl, ?_⟩; replace Bf := kb_ Bf hb; replace HB := aa.mk (ai bl_ hb); (try clear hb); (try clear hb2); (try clear hk); (try clear hi); obtain ⟨rP, rQ, rR, rT, rU, rV, rW, rX, rY, rZ⟩ := bg Bf.out) | ((with_reducible refine aD (f := 44) rfl ?_); refine aZ (some 11) rfl rfl Tryd.func44 (by kernel_rfl) rfl #[.agg #[.int .i64 ah, .int .i64 au, .int .i64 aj, .int .i64 ak, .slice aM af.length aH]] rfl mp_ ?_; (with_reducible refine (bz.calls k ah au aj ak _ _ af t203 _ ?az ?aA A4.out ?tab).mono ?_); (case tab => exact uI oM.out bl_); (case az => exact cb_ (Kd.aK bu.out HB.out)); (case aA => exact bU.out); rintro e w9 ⟨rfl, hb⟩; refine ⟨_, rfl, ?_⟩; replace Bf := kb_ Bf hb; replace HB := aa.mk (ai bl_ hb); (try clear hb); (try clear hb2); (try clear hk); (try clear hi)))
  go_ret2; exact ⟨re_, bl_⟩
 ·rw [if_neg c3] at H; obtain ⟨gX, jH⟩ := bn_ c3; simp only [Option.some.injEq, Prod.mk.injEq] at H; obtain ⟨rfl, rfl⟩ := H; go_enter Tryd.func21, Tryd.ntmps21; go_wp2_with (first | ((with_reducible refine aW (N := 1) rfl ?_); refine bf ?hg (N := 1) ?hd (cs := #[.int .i64 ah, .int .i64 au, .int .i64 aj, .int .i64 ak, .slice aM af.length aH]) (t := 24) ?hr ?_; (case hd => rfl); (case hg => rfl); (case hr => first | (go_simp; done) | (go_simp; rfl)); intro gb201 hg w10 aG hb; have Bf := aa.mk (aG); have GW201 : aa (w.heap.size ≤ gb201) := gw_ hg (ax bl_); have GE201 := GW201; replace HB := aa.mk (ai bl_ hb); clear hb aG hg; obtain ⟨jO, jP, jQ, ku, kv, jR, jS, jT, ky, kz⟩ := bg Bf.out) | ((with_reducible refine aD (f := 12) rfl ?_); refine aZ (some 6) rfl rfl Tryd.func12 (by kernel_rfl) rfl #[.agg #[.int .i64 ah, .int .i64 au, .int .i64 aj, .int .i64 ak, .slice aM af.length aH]] rfl mp_ ?_; (with_reducible refine (bO.calls k ah au aj ak _ _ af t202 _ ?az ?aA A2.out).mono ?_); (case az => exact cb_ (Kd.aK bu.out HB.out)); (case aA => exact bU.out); rintro e w12 ⟨rfl, hb⟩; refine ⟨_, rfl, ?_⟩; replace Bf := kb_ Bf hb; replace HB := aa.mk (ai bl_ hb); (try clear hb); (try clear hb2); (try clear hk); (try clear hi)))
  go_ret2; exact ⟨re_, bl_⟩

end Go.Proofs.YtggelekooacmnaaDoor.Q
namespace Go.Proofs.YtggelekooacmnaaDoor.Q
open Go.RowKit Go.Proofs.YtggelekooacmnaaDoorW.aU Go.Proofs.YtggelekooacmnaaDoorW.bD Go.Proofs.YtggelekooacmnaaDoorW.bH
attribute [local go_sem] dB dC dN dO cO cZ dD dE   -- for this text's walks alone
set_option linter.unusedVariables false
set_option linter.unusedSimpArgs false

/-! ### dP: function 13 -/
def dP.f (k : Nat)  : Option (Bool) := (some (([(⟨1, 0, 0, 0, ([] : List (S24))⟩ : S24)] : List (S24)) : List (S24))).bind fun gY => ((dn.f k 6 0 0 2 gY).bind fun Ed => ((eG.f k 6 0 0 2 gY).bind fun Ee => (if Ed.2 = 0 then (if Ee.2 = 0 then (if Ed.1 = 7 then (some (Ee.1.toList == ([108, 105, 115, 116, 91, 50, 93, 32, 98, 111, 111, 108] : List UInt8))) else (some false)) else (some false)) else (some false))))
theorem dP.mono : ∀ k, LeO (dP.f k ) (dP.f (k + 1) ) := by
 intro  k; unfold dP.f
 repeat' first
   | (with_reducible exact eG.mono _ _ _ _ _ _)
   | (with_reducible exact dn.mono _ _ _ _ _ _)
   | (with_reducible exact LeO.refl _)
   | (with_reducible exact LeO.none _)
   | (with_reducible refine LeO.ite ?_ ?_)
   | (with_reducible refine LeO.bind ?_ (fun _ => ?_))
   | exact eG.mono _ _ _ _ _ _
   | exact dn.mono _ _ _ _ _ _
   | exact LeO.none _
   | refine LeO.ite ?_ ?_
   | refine LeO.bind ?_ (fun _ => ?_)
set_option maxHeartbeats 8000000 in
set_option maxRecDepth 100000 in
theorem dP.calls (k : Nat)  (r : Bool) (w : World) (h : dP.f k  = some r) (htab : qO w.heap.size w) :
  Calls Tryd.prog 13 #[] w fun e w' => e = .returned (.bool r) ∧ Below w.heap.size w w' := by
 have oM := aa.mk htab; clear htab; have mg := Tryd.underlying24; have HB := aa.mk (Below.refl w.heap.size w); have H : ((some (([(⟨1, 0, 0, 0, ([] : List (S24))⟩ : S24)] : List (S24)) : List (S24))).bind fun gY => ((dn.f k 6 0 0 2 gY).bind fun Ed => ((eG.f k 6 0 0 2 gY).bind fun Ee => (if Ed.2 = 0 then (if Ee.2 = 0 then (if Ed.1 = 7 then (some (Ee.1.toList == ([108, 105, 115, 116, 91, 50, 93, 32, 98, 111, 111, 108] : List UInt8))) else (some false)) else (some false)) else (some false))))) = some r := h; clear h; obtain ⟨gY, Kn⟩ : ∃ y_ : List (S24), y_ = (([(⟨1, 0, 0, 0, ([] : List (S24))⟩ : S24)] : List (S24))) := ⟨_, rfl⟩; replace H : ((dn.f k 6 0 0 2 gY).bind fun Ed => ((eG.f k 6 0 0 2 gY).bind fun Ee => (if Ed.2 = 0 then (if Ee.2 = 0 then (if Ed.1 = 7 then (some (Ee.1.toList == ([108, 105, 115, 116, 91, 50, 93, 32, 98, 111, 111, 108] : List UInt8))) else (some false)) else (some false)) else (some false)))) = some r := by first | (rw [Kn]; with_reducible exact H) | (have H2_ := (Option.bind_some _ _).symm.trans H; rw [Kn]; with_reducible exact H2_) | (have H2_ := (Option.bind_some _ _).symm.trans H; with_reducible exact H2_) | with_reducible exact H | (rw [Kn]; exact H) | exact H
 have Ef := aa.mk Kn; clear Kn; replace H := Option.bind_eq_some_iff.mp H; obtain ⟨⟨t208, t209⟩, A10, H⟩ := H; (try dsimp only at H)
 have A1 := aa.mk A10; clear A10; replace H := Option.bind_eq_some_iff.mp H; obtain ⟨⟨t210, t211⟩, A20, H⟩ := H; (try dsimp only at H)
 have A2 := aa.mk A20; clear A20; by_cases c3 : t209 = 0
 ·rw [if_pos c3] at H; obtain ⟨gX, jH⟩ := bq_ c3; clear c3; by_cases c4 : t211 = 0
  ·rw [if_pos c4] at H; obtain ⟨nK, c4b1⟩ := bq_ c4; clear c4; by_cases c5 : t208 = 7
   ·rw [if_pos c5] at H; obtain ⟨gQ, qF⟩ := bq_ c5; clear c5; obtain rfl := Option.some.inj H; go_enter Tryd.func13, Tryd.ntmps13; go_wp2_with (first | ((with_reducible refine aW (N := 7) rfl ?_); refine Kd.mi k24 _ 24 ?hg (N := 7) ?hd (xs := ([(⟨1, 0, 0, 0, ([] : List (S24))⟩ : S24)] : List (S24))) (inner := [.int .i64 1, .int .i64 0, .int .i64 0, .int .i64 0, .slice none 0 0]) (ok := fun _ => True) (okp := fun _ => True) ?hr ?hp (fun _ hk => hk) trivial (Below.refl _ _) (Nat.le_refl _) (by simp) ?_; (case hd => rfl); (case hg => rfl); (case hr => first | (go_simp; done) | (go_simp; rfl)); (case hp => exact (dA.c5 (show Kd.M k24 _ _ _ (⟨1, 0, 0, 0, ([] : List (S24))⟩ : S24) [.int .i64 1, .int .i64 0, .int .i64 0, .int .i64 0, .slice none 0 0] from (GZ _ _ _ (⟨1, 0, 0, 0, ([] : List (S24))⟩ : S24) (Kd.mh _ _ _ _ _))) (dA.none _ _))); intro v205 w6 ho7 hb hg_ fZ; clear hg_ fZ; (first | rw [← Ef.out] at ho7 | (simp only [Int.reduceToNat] at ho7; rw [← Ef.out] at ho7)); have fC := aa.mk (Kd.bC ho7 (ax bl_)); replace HB := aa.mk (ai bl_ hb); clear hb ho7; obtain ⟨Ao8, co8, eo8⟩ := Kd.bK fC.out; subst eo8) | ((with_reducible refine aW (N := 1) rfl ?_); refine bf ?hg (N := 1) ?hd (cs := #[.int .i64 0, .int .i64 0, .int .i64 0, .int .i64 0, .slice none 0 0]) (t := 24) ?hr ?_; (case hd => rfl); (case hg => rfl); (case hr => first | (go_simp; done) | (go_simp; rfl)); intro dU hg w9 aG hb; have j6 := aa.mk (aG); have Ga : aa (w.heap.size ≤ dU) := gw_ hg (ax bl_); have GE207 := Ga; replace fC := aa.mk (Kd.dM (Kd.zt (pR_ fC.out) dU (Nat.le_of_eq hg.symm)) hb); replace HB := aa.mk (ai bl_ hb); clear hb aG hg; obtain ⟨uj, uk, um, vJ, vK, uo, uq, uu, vL, vM⟩ := bg j6.out) | ((with_reducible refine aD (f := 16) rfl ?_); refine aZ (some 11) rfl rfl Tryd.func16 (by kernel_rfl) rfl #[.agg #[.int .i64 6, .int .i64 0, .int .i64 0, .int .i64 2, .slice Ao8 gY.length co8]] rfl mp_ ?_; (with_reducible refine (dn.calls k 6 0 0 2 _ _ gY t208 t209 _ ?az ?aA A1.out).mono ?_); (case az => refine (Kd.aY (e := 24) (base := w.heap.size) (ok := fun k_ => (True ∧ k_ ≠ dU)) (n := gY.length) (c := co8) ?_).2.2; exact (by (with_reducible repeat (first | apply Kd.bL | apply Kd.bM | apply Kd.bQ)); exact (Kd.bG (Kd.bI (p := ⟨dU, 4, none⟩) (Kd.bI (p := ⟨dU, 3, none⟩) (Kd.bI (p := ⟨dU, 2, none⟩) (Kd.bI (p := ⟨dU, 1, none⟩) (Kd.bI (p := ⟨dU, 0, none⟩) (Kd.bG fC.out (fun k_ hk => (⟨hk, by first | exact hk.2 | exact hk.1 | exact hk.2 | exact hk.1.1 | exact hk.1.2⟩ : _ ∧ k_ ≠ dU))) (fun _ hk => hk.2) (.int .i64 6)) (fun _ hk => hk.2) (.int .i64 0)) (fun _ hk => hk.2) (.int .i64 0)) (fun _ hk => hk.2) (.int .i64 2)) (fun _ hk => hk.2) (.slice Ao8 gY.length co8)) (fun _ h_ => h_.1)))); (case aA => exact (Kd.aY fC.out).2.1); rintro e w11 ⟨rfl, hb⟩; refine ⟨_, rfl, ?_⟩; replace fC := aa.mk (Kd.dM (by (with_reducible repeat (first | apply Kd.bL | apply Kd.bM | apply Kd.bQ)); exact (Kd.bG (Kd.bI (p := ⟨dU, 4, none⟩) (Kd.bI (p := ⟨dU, 3, none⟩) (Kd.bI (p := ⟨dU, 2, none⟩) (Kd.bI (p := ⟨dU, 1, none⟩) (Kd.bI (p := ⟨dU, 0, none⟩) (Kd.bG fC.out (fun k_ hk => (⟨hk, by first | exact hk.2 | exact hk.1 | exact hk.2 | exact hk.1.1 | exact hk.1.2⟩ : _ ∧ k_ ≠ dU))) (fun _ hk => hk.2) (.int .i64 6)) (fun _ hk => hk.2) (.int .i64 0)) (fun _ hk => hk.2) (.int .i64 0)) (fun _ hk => hk.2) (.int .i64 2)) (fun _ hk => hk.2) (.slice Ao8 gY.length co8)) (fun _ h_ => h_.1))) hb); replace j6 := aa.mk (dR (g := dU) (o := .cells #[.int .i64 6, .int .i64 0, .int .i64 0, .int .i64 2, .slice Ao8 gY.length co8] 24 (0, 0)) b5_ hb); replace HB := aa.mk (ai bl_ hb); (try clear hb); (try clear hb2); (try clear hk); (try clear hi); obtain ⟨rz, rA, rC, rD, rE, rF, rG, rH, rJ, rM⟩ := bg j6.out) | ((with_reducible refine aD (f := 21) rfl ?_); refine aZ (some 16) rfl rfl Tryd.func21 (by kernel_rfl) rfl #[.agg #[.int .i64 6, .int .i64 0, .int .i64 0, .int .i64 2, .slice Ao8 gY.length co8]] rfl mp_ ?_; (with_reducible refine (eG.calls k 6 0 0 2 _ _ gY t210 t211 _ ?az ?aA A2.out ?tab).mono ?_); (case tab => exact uI oM.out bl_); (case az => exact cb_ ((Kd.aY fC.out).2.2)); (case aA => exact (Kd.aY fC.out).2.1); rintro e w13 ⟨rfl, hb⟩; refine ⟨_, rfl, ?_⟩; replace fC := aa.mk (Kd.dM (pR_ fC.out) hb); replace j6 := kb_ j6 hb; replace HB := aa.mk (ai bl_ hb); (try clear hb); (try clear hb2); (try clear hk); (try clear hi)))
    go_ret; exact ⟨re_, bl_⟩
   ·rw [if_neg c5] at H; obtain ⟨gQ, qF⟩ := bn_ c5; obtain rfl := Option.some.inj H; go_enter Tryd.func13, Tryd.ntmps13; go_wp2_with (first | ((with_reducible refine aW (N := 7) rfl ?_); refine Kd.mi k24 _ 24 ?hg (N := 7) ?hd (xs := ([(⟨1, 0, 0, 0, ([] : List (S24))⟩ : S24)] : List (S24))) (inner := [.int .i64 1, .int .i64 0, .int .i64 0, .int .i64 0, .slice none 0 0]) (ok := fun _ => True) (okp := fun _ => True) ?hr ?hp (fun _ hk => hk) trivial (Below.refl _ _) (Nat.le_refl _) (by simp) ?_; (case hd => rfl); (case hg => rfl); (case hr => first | (go_simp; done) | (go_simp; rfl)); (case hp => exact (dA.c5 (show Kd.M k24 _ _ _ (⟨1, 0, 0, 0, ([] : List (S24))⟩ : S24) [.int .i64 1, .int .i64 0, .int .i64 0, .int .i64 0, .slice none 0 0] from (GZ _ _ _ (⟨1, 0, 0, 0, ([] : List (S24))⟩ : S24) (Kd.mh _ _ _ _ _))) (dA.none _ _))); intro v205 w14 ho15 hb hg_ fZ; clear hg_ fZ; (first | rw [← Ef.out] at ho15 | (simp only [Int.reduceToNat] at ho15; rw [← Ef.out] at ho15)); have fC := aa.mk (Kd.bC ho15 (ax bl_)); replace HB := aa.mk (ai bl_ hb); clear hb ho15; obtain ⟨Ao16, co16, eo16⟩ := Kd.bK fC.out; subst eo16) | ((with_reducible refine aW (N := 1) rfl ?_); refine bf ?hg (N := 1) ?hd (cs := #[.int .i64 0, .int .i64 0, .int .i64 0, .int .i64 0, .slice none 0 0]) (t := 24) ?hr ?_; (case hd => rfl); (case hg => rfl); (case hr => first | (go_simp; done) | (go_simp; rfl)); intro dU hg w17 aG hb; have j6 := aa.mk (aG); have Ga : aa (w.heap.size ≤ dU) := gw_ hg (ax bl_); have GE207 := Ga; replace fC := aa.mk (Kd.dM (Kd.zt (pR_ fC.out) dU (Nat.le_of_eq hg.symm)) hb); replace HB := aa.mk (ai bl_ hb); clear hb aG hg; obtain ⟨mq, mr, mD, og, oh, mE, mF, mG, om, oo⟩ := bg j6.out) | ((with_reducible refine aD (f := 16) rfl ?_); refine aZ (some 11) rfl rfl Tryd.func16 (by kernel_rfl) rfl #[.agg #[.int .i64 6, .int .i64 0, .int .i64 0, .int .i64 2, .slice Ao16 gY.length co16]] rfl mp_ ?_; (with_reducible refine (dn.calls k 6 0 0 2 _ _ gY t208 t209 _ ?az ?aA A1.out).mono ?_); (case az => refine (Kd.aY (e := 24) (base := w.heap.size) (ok := fun k_ => (True ∧ k_ ≠ dU)) (n := gY.length) (c := co16) ?_).2.2; exact (by (with_reducible repeat (first | apply Kd.bL | apply Kd.bM | apply Kd.bQ)); exact (Kd.bG (Kd.bI (p := ⟨dU, 4, none⟩) (Kd.bI (p := ⟨dU, 3, none⟩) (Kd.bI (p := ⟨dU, 2, none⟩) (Kd.bI (p := ⟨dU, 1, none⟩) (Kd.bI (p := ⟨dU, 0, none⟩) (Kd.bG fC.out (fun k_ hk => (⟨hk, by first | exact hk.2 | exact hk.1 | exact hk.2 | exact hk.1.1 | exact hk.1.2⟩ : _ ∧ k_ ≠ dU))) (fun _ hk => hk.2) (.int .i64 6)) (fun _ hk => hk.2) (.int .i64 0)) (fun _ hk => hk.2) (.int .i64 0)) (fun _ hk => hk.2) (.int .i64 2)) (fun _ hk => hk.2) (.slice Ao16 gY.length co16)) (fun _ h_ => h_.1)))); (case aA => exact (Kd.aY fC.out).2.1); rintro e w19 ⟨rfl, hb⟩; refine ⟨_, rfl, ?_⟩; replace fC := aa.mk (Kd.dM (by (with_reducible repeat (first | apply Kd.bL | apply Kd.bM | apply Kd.bQ)); exact (Kd.bG (Kd.bI (p := ⟨dU, 4, none⟩) (Kd.bI (p := ⟨dU, 3, none⟩) (Kd.bI (p := ⟨dU, 2, none⟩) (Kd.bI (p := ⟨dU, 1, none⟩) (Kd.bI (p := ⟨dU, 0, none⟩) (Kd.bG fC.out (fun k_ hk => (⟨hk, by first | exact hk.2 | exact hk.1 | exact hk.2 | exact hk.1.1 | exact hk.1.2⟩ : _ ∧ k_ ≠ dU))) (fun _ hk => hk.2) (.int .i64 6)) (fun _ hk => hk.2) (.int .i64 0)) (fun _ hk => hk.2) (.int .i64 0)) (fun _ hk => hk.2) (.int .i64 2)) (fun _ hk => hk.2) (.slice Ao16 gY.length co16)) (fun _ h_ => h_.1))) hb); replace j6 := aa.mk (dR (g := dU) (o := .cells #[.int .i64 6, .int .i64 0, .int .i64 0, .int .i64 2, .slice Ao16 gY.length co16] 24 (0, 0)) b5_ hb); replace HB := aa.mk (ai bl_ hb); (try clear hb); (try clear hb2); (try clear hk); (try clear hi); obtain ⟨mH, mI, mJ, oq, ou, mK, mM, mO, ow, oz⟩ := bg j6.out) | ((with_reducible refine aD (f := 21) rfl ?_); refine aZ (some 16) rfl rfl Tryd.func21 (by kernel_rfl) rfl #[.agg #[.int .i64 6, .int .i64 0, .int .i64 0, .int .i64 2, .slice Ao16 gY.length co16]] rfl mp_ ?_; (with_reducible refine (eG.calls k 6 0 0 2 _ _ gY t210 t211 _ ?az ?aA A2.out ?tab).mono ?_); (case tab => exact uI oM.out bl_); (case az => exact cb_ ((Kd.aY fC.out).2.2)); (case aA => exact (Kd.aY fC.out).2.1); rintro e w21 ⟨rfl, hb⟩; refine ⟨_, rfl, ?_⟩; replace fC := aa.mk (Kd.dM (pR_ fC.out) hb); replace j6 := kb_ j6 hb; replace HB := aa.mk (ai bl_ hb); (try clear hb); (try clear hb2); (try clear hk); (try clear hi)))
    go_ret; exact ⟨re_, bl_⟩
  ·rw [if_neg c4] at H; obtain ⟨nK, c4b1⟩ := bn_ c4; obtain rfl := Option.some.inj H; go_enter Tryd.func13, Tryd.ntmps13; go_wp2_with (first | ((with_reducible refine aW (N := 7) rfl ?_); refine Kd.mi k24 _ 24 ?hg (N := 7) ?hd (xs := ([(⟨1, 0, 0, 0, ([] : List (S24))⟩ : S24)] : List (S24))) (inner := [.int .i64 1, .int .i64 0, .int .i64 0, .int .i64 0, .slice none 0 0]) (ok := fun _ => True) (okp := fun _ => True) ?hr ?hp (fun _ hk => hk) trivial (Below.refl _ _) (Nat.le_refl _) (by simp) ?_; (case hd => rfl); (case hg => rfl); (case hr => first | (go_simp; done) | (go_simp; rfl)); (case hp => exact (dA.c5 (show Kd.M k24 _ _ _ (⟨1, 0, 0, 0, ([] : List (S24))⟩ : S24) [.int .i64 1, .int .i64 0, .int .i64 0, .int .i64 0, .slice none 0 0] from (GZ _ _ _ (⟨1, 0, 0, 0, ([] : List (S24))⟩ : S24) (Kd.mh _ _ _ _ _))) (dA.none _ _))); intro v205 w22 uY hb hg_ fZ; clear hg_ fZ; (first | rw [← Ef.out] at uY | (simp only [Int.reduceToNat] at uY; rw [← Ef.out] at uY)); have fC := aa.mk (Kd.bC uY (ax bl_)); replace HB := aa.mk (ai bl_ hb); clear hb uY; obtain ⟨r9, oN, Am⟩ := Kd.bK fC.out; subst Am) | ((with_reducible refine aW (N := 1) rfl ?_); refine bf ?hg (N := 1) ?hd (cs := #[.int .i64 0, .int .i64 0, .int .i64 0, .int .i64 0, .slice none 0 0]) (t := 24) ?hr ?_; (case hd => rfl); (case hg => rfl); (case hr => first | (go_simp; done) | (go_simp; rfl)); intro dU hg w25 aG hb; have j6 := aa.mk (aG); have Ga : aa (w.heap.size ≤ dU) := gw_ hg (ax bl_); have GE207 := Ga; replace fC := aa.mk (Kd.dM (Kd.zt (pR_ fC.out) dU (Nat.le_of_eq hg.symm)) hb); replace HB := aa.mk (ai bl_ hb); clear hb aG hg; obtain ⟨uB, uC, uD, vX, vY, uE, uF, uG, vZ, wh⟩ := bg j6.out) | ((with_reducible refine aD (f := 16) rfl ?_); refine aZ (some 11) rfl rfl Tryd.func16 (by kernel_rfl) rfl #[.agg #[.int .i64 6, .int .i64 0, .int .i64 0, .int .i64 2, .slice r9 gY.length oN]] rfl mp_ ?_; (with_reducible refine (dn.calls k 6 0 0 2 _ _ gY t208 t209 _ ?az ?aA A1.out).mono ?_); (case az => refine (Kd.aY (e := 24) (base := w.heap.size) (ok := fun k_ => (True ∧ k_ ≠ dU)) (n := gY.length) (c := oN) ?_).2.2; exact (by (with_reducible repeat (first | apply Kd.bL | apply Kd.bM | apply Kd.bQ)); exact (Kd.bG (Kd.bI (p := ⟨dU, 4, none⟩) (Kd.bI (p := ⟨dU, 3, none⟩) (Kd.bI (p := ⟨dU, 2, none⟩) (Kd.bI (p := ⟨dU, 1, none⟩) (Kd.bI (p := ⟨dU, 0, none⟩) (Kd.bG fC.out (fun k_ hk => (⟨hk, by first | exact hk.2 | exact hk.1 | exact hk.2 | exact hk.1.1 | exact hk.1.2⟩ : _ ∧ k_ ≠ dU))) (fun _ hk => hk.2) (.int .i64 6)) (fun _ hk => hk.2) (.int .i64 0)) (fun _ hk => hk.2) (.int .i64 0)) (fun _ hk => hk.2) (.int .i64 2)) (fun _ hk => hk.2) (.slice r9 gY.length oN)) (fun _ h_ => h_.1)))); (case aA => exact (Kd.aY fC.out).2.1); rintro e w27 ⟨rfl, hb⟩; refine ⟨_, rfl, ?_⟩; replace fC := aa.mk (Kd.dM (by (with_reducible repeat (first | apply Kd.bL | apply Kd.bM | apply Kd.bQ)); exact (Kd.bG (Kd.bI (p := ⟨dU, 4, none⟩) (Kd.bI (p := ⟨dU, 3, none⟩) (Kd.bI (p := ⟨dU, 2, none⟩) (Kd.bI (p := ⟨dU, 1, none⟩) (Kd.bI (p := ⟨dU, 0, none⟩) (Kd.bG fC.out (fun k_ hk => (⟨hk, by first | exact hk.2 | exact hk.1 | exact hk.2 | exact hk.1.1 | exact hk.1.2⟩ : _ ∧ k_ ≠ dU))) (fun _ hk => hk.2) (.int .i64 6)) (fun _ hk => hk.2) (.int .i64 0)) (fun _ hk => hk.2) (.int .i64 0)) (fun _ hk => hk.2) (.int .i64 2)) (fun _ hk => hk.2) (.slice r9 gY.length oN)) (fun _ h_ => h_.1))) hb); replace j6 := aa.mk (dR (g := dU) (o := .cells #[.int .i64 6, .int .i64 0, .int .i64 0, .int .i64 2, .slice r9 gY.length oN] 24 (0, 0)) b5_ hb); replace HB := aa.mk (ai bl_ hb); (try clear hb); (try clear hb2); (try clear hk); (try clear hi); obtain ⟨pQ, pR, pU, pV, pW, pX, pY, p8, p9, qa⟩ := bg j6.out) | ((with_reducible refine aD (f := 21) rfl ?_); refine aZ (some 16) rfl rfl Tryd.func21 (by kernel_rfl) rfl #[.agg #[.int .i64 6, .int .i64 0, .int .i64 0, .int .i64 2, .slice r9 gY.length oN]] rfl mp_ ?_; (with_reducible refine (eG.calls k 6 0 0 2 _ _ gY t210 t211 _ ?az ?aA A2.out ?tab).mono ?_); (case tab => exact uI oM.out bl_); (case az => exact cb_ ((Kd.aY fC.out).2.2)); (case aA => exact (Kd.aY fC.out).2.1); rintro e w29 ⟨rfl, hb⟩; refine ⟨_, rfl, ?_⟩; replace fC := aa.mk (Kd.dM (pR_ fC.out) hb); replace j6 := kb_ j6 hb; replace HB := aa.mk (ai bl_ hb); (try clear hb); (try clear hb2); (try clear hk); (try clear hi)))
   go_ret; exact ⟨re_, bl_⟩
 ·rw [if_neg c3] at H; obtain ⟨gX, jH⟩ := bn_ c3; obtain rfl := Option.some.inj H; go_enter Tryd.func13, Tryd.ntmps13; go_wp2_with (first | ((with_reducible refine aW (N := 7) rfl ?_); refine Kd.mi k24 _ 24 ?hg (N := 7) ?hd (xs := ([(⟨1, 0, 0, 0, ([] : List (S24))⟩ : S24)] : List (S24))) (inner := [.int .i64 1, .int .i64 0, .int .i64 0, .int .i64 0, .slice none 0 0]) (ok := fun _ => True) (okp := fun _ => True) ?hr ?hp (fun _ hk => hk) trivial (Below.refl _ _) (Nat.le_refl _) (by simp) ?_; (case hd => rfl); (case hg => rfl); (case hr => first | (go_simp; done) | (go_simp; rfl)); (case hp => exact (dA.c5 (show Kd.M k24 _ _ _ (⟨1, 0, 0, 0, ([] : List (S24))⟩ : S24) [.int .i64 1, .int .i64 0, .int .i64 0, .int .i64 0, .slice none 0 0] from (GZ _ _ _ (⟨1, 0, 0, 0, ([] : List (S24))⟩ : S24) (Kd.mh _ _ _ _ _))) (dA.none _ _))); intro v205 w30 ho31 hb hg_ fZ; clear hg_ fZ; (first | rw [← Ef.out] at ho31 | (simp only [Int.reduceToNat] at ho31; rw [← Ef.out] at ho31)); have fC := aa.mk (Kd.bC ho31 (ax bl_)); replace HB := aa.mk (ai bl_ hb); clear hb ho31; obtain ⟨Ao32, Dm, eo32⟩ := Kd.bK fC.out; subst eo32) | ((with_reducible refine aW (N := 1) rfl ?_); refine bf ?hg (N := 1) ?hd (cs := #[.int .i64 0, .int .i64 0, .int .i64 0, .int .i64 0, .slice none 0 0]) (t := 24) ?hr ?_; (case hd => rfl); (case hg => rfl); (case hr => first | (go_simp; done) | (go_simp; rfl)); intro dU hg w33 aG hb; have j6 := aa.mk (aG); have Ga : aa (w.heap.size ≤ dU) := gw_ hg (ax bl_); have GE207 := Ga; replace fC := aa.mk (Kd.dM (Kd.zt (pR_ fC.out) dU (Nat.le_of_eq hg.symm)) hb); replace HB := aa.mk (ai bl_ hb); clear hb aG hg; obtain ⟨yj, yl, ym, zP, zQ, yn, yo, yt, zR, zS⟩ := bg j6.out) | ((with_reducible refine aD (f := 16) rfl ?_); refine aZ (some 11) rfl rfl Tryd.func16 (by kernel_rfl) rfl #[.agg #[.int .i64 6, .int .i64 0, .int .i64 0, .int .i64 2, .slice Ao32 gY.length Dm]] rfl mp_ ?_; (with_reducible refine (dn.calls k 6 0 0 2 _ _ gY t208 t209 _ ?az ?aA A1.out).mono ?_); (case az => refine (Kd.aY (e := 24) (base := w.heap.size) (ok := fun k_ => (True ∧ k_ ≠ dU)) (n := gY.length) (c := Dm) ?_).2.2; exact (by (with_reducible repeat (first | apply Kd.bL | apply Kd.bM | apply Kd.bQ)); exact (Kd.bG (Kd.bI (p := ⟨dU, 4, none⟩) (Kd.bI (p := ⟨dU, 3, none⟩) (Kd.bI (p := ⟨dU, 2, none⟩) (Kd.bI (p := ⟨dU, 1, none⟩) (Kd.bI (p := ⟨dU, 0, none⟩) (Kd.bG fC.out (fun k_ hk => (⟨hk, by first | exact hk.2 | exact hk.1 | exact hk.2 | exact hk.1.1 | exact hk.1.2⟩ : _ ∧ k_ ≠ dU))) (fun _ hk => hk.2) (.int .i64 6)) (fun _ hk => hk.2) (.int .i64 0)) (fun _ hk => hk.2) (.int .i64 0)) (fun _ hk => hk.2) (.int .i64 2)) (fun _ hk => hk.2) (.slice Ao32 gY.length Dm)) (fun _ h_ => h_.1)))); (case aA => exact (Kd.aY fC.out).2.1); rintro e w35 ⟨rfl, hb⟩; refine ⟨_, rfl, ?_⟩; replace fC := aa.mk (Kd.dM (by (with_reducible repeat (first | apply Kd.bL | apply Kd.bM | apply Kd.bQ)); exact (Kd.bG (Kd.bI (p := ⟨dU, 4, none⟩) (Kd.bI (p := ⟨dU, 3, none⟩) (Kd.bI (p := ⟨dU, 2, none⟩) (Kd.bI (p := ⟨dU, 1, none⟩) (Kd.bI (p := ⟨dU, 0, none⟩) (Kd.bG fC.out (fun k_ hk => (⟨hk, by first | exact hk.2 | exact hk.1 | exact hk.2 | exact hk.1.1 | exact hk.1.2⟩ : _ ∧ k_ ≠ dU))) (fun _ hk => hk.2) (.int .i64 6)) (fun _ hk => hk.2) (.int .i64 0)) (fun _ hk => hk.2) (.int .i64 0)) (fun _ hk => hk.2) (.int .i64 2)) (fun _ hk => hk.2) (.slice Ao32 gY.length Dm)) (fun _ h_ => h_.1))) hb); replace j6 := aa.mk (dR (g := dU) (o := .cells #[.int .i64 6, .int .i64 0, .int .i64 0, .int .i64 2, .slice Ao32 gY.length Dm] 24 (0, 0)) b5_ hb); replace HB := aa.mk (ai bl_ hb); (try clear hb); (try clear hb2); (try clear hk); (try clear hi); obtain ⟨E9, Fa, Fb, Fe, Ff, Fg, Fh, Fj, Fp, Fq⟩ := bg j6.out) | ((with_reducible refine aD (f := 21) rfl ?_); refine aZ (some 16) rfl rfl Tryd.func21 (by kernel_rfl) rfl #[.agg #[.int .i64 6, .int .i64 0, .int .i64 0, .int .i64 2, .slice Ao32 gY.length Dm]] rfl mp_ ?_; (with_reducible refine (eG.calls k 6 0 0 2 _ _ gY t210 t211 _ ?az ?aA A2.out ?tab).mono ?_); (case tab => exact uI oM.out bl_); (case az => exact cb_ ((Kd.aY fC.out).2.2)); (case aA => exact (Kd.aY fC.out).2.1); rintro e w37 ⟨rfl, hb⟩; refine ⟨_, rfl, ?_⟩; replace fC := aa.mk (Kd.dM (pR_ fC.out) hb); replace j6 := kb_ j6 hb; replace HB := aa.mk (ai bl_ hb); (try clear hb); (try clear hb2); (try clear hk); (try clear hi)))
  go_ret; exact ⟨re_, bl_⟩

end Go.Proofs.YtggelekooacmnaaDoor.Q
