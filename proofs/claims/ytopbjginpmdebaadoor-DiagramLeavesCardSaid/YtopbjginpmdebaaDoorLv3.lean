/- Lemmas for: Proved: the tied card of exactppllaw19.DiagramLeaves (for every value the law returns true). Conditions: none beyond the given row. -/
import Derived.Test.YtopbjginpmdebaaDoorProg
import Derived.Below
import Derived.Deep.Draws
import Derived.Deep.AppendLies
import Derived.Maps.AppendAt
import Derived.OwnWalk
import Derived.Laws.BytesArg
import Derived.Laws.MakeOwn
import Derived.Laws.OwnMore
import Derived.Deep.OwnRows
import Derived.Tactics
import Derived.Lib.ConvBytes
import Derived.Laws.Slices
import Derived.WalkKit
import Derived.KernelRfl
import Derived.RowKit3
import Derived.Deep.LoopGhost
import Derived.Deep.QuietTactic
import Derived.BigQuiet
import Derived.WideLaws
import Derived.Deep.DeepCutAuto
import Derived.Deep.CutBlock
import Derived.Deep.RegionHeld3
import Derived.Laws.Rows
import Derived.Lib.AppendStr
import Derived.ArgAppend
import Derived.Laws.IdiomCopy
import Derived.OrdersHeld
import Derived.Laws.BitsLemmas
import Derived.RowKit
import Derived.Lib.ItoaLen
import Derived.Shelf.Strconv.Itoa0
import Derived.Shelf.Strconv.Itoa1
import Derived.Shelf.LaysM
import Derived.Shelf.Strconv.Itoa2
import Derived.Shelf.Sort.Plain
import Derived.Shelf.Strconv.AppendUint10
import Derived.Shelf.Strconv.AppendInt10
import Derived.Shelf.Strconv.AppendIntPublic10
import Derived.Shelf.Slices.Equal
import Derived.Ground.Names2Prog
import Derived.Shelf.Slices.CompactI
import Derived.Maps.OwnSet
import Derived.Maps.Views
import Derived.Lib.AppendIntMem
import Derived.Lib.OthersKept
import Derived.Lib.Hide
import Derived.StillTailTactics
import Derived.StringKeys
import Derived.Test.YtopbjginpmdebaaDoorLv1
import Derived.Test.YtopbjginpmdebaaDoorLv2
namespace Go.Proofs.YtopbjginpmdebaaDoor.K
open Go.RowKit Go.Proofs.YtopbjginpmdebaaDoorW.PrintWords Go.Proofs.YtopbjginpmdebaaDoorW.PrintLast Go.Proofs.YtopbjginpmdebaaDoorW.PrintMore
attribute [local go_sem] max2_int min2_int max_two min_two max_three min_three max_four min_four   -- for this text's walks alone
set_option linter.unusedVariables false
set_option linter.unusedSimpArgs false



def errW : Option Int → Value
  | none => .nilIface
  | some c => .iface 0 (.int .i64 c)
theorem errW_none : errW none = .nilIface := rfl
theorem errW_some (c : Int) : errW (some c) = .iface 0 (.int .i64 c) := rfl

theorem info3 : (Tryd.prog.info? 3).map (fun i => (i.zero, i.size, i.bytes)) = some (some (.int .i64 0), 1, 8) := by kernel_rfl
theorem info22 : (Tryd.prog.info? 22).map (fun i => (i.zero, i.size, i.bytes)) = some (some (.slice none 0 0), 1, 24) := by kernel_rfl
theorem info31 : (Tryd.prog.info? 31).map (fun i => (i.zero, i.size, i.bytes)) = some (some (.agg #[(.slice none 0 0)]), 1, 24) := by kernel_rfl
theorem info60 : (Tryd.prog.info? 60).map (fun i => (i.zero, i.size, i.bytes)) = some (some (.agg #[(.int .i64 0), (.int .i64 0), (.slice none 0 0)]), 3, 40) := by kernel_rfl
-- the values' own types
def rd_L1 (xs : List (List Int)) (i : Int) : (List Int) := xs.getD i.toNat ([] : List Int)
theorem at_L1 {w : World} {A : Option Addr} {n : Nat} {xs : List (List Int)} (h : Kd.C (Kd.slice 3 (Kd.int .i64)) w A n xs) (i : Int) (h0 : 0 ≤ i) (h1 : i < n) : ∃ ad A0 c0, A = some ad ∧ w.cell? (ad.add i.toNat) = some (.slice A0 (rd_L1 xs i).length c0) ∧ (rd_L1 xs i).length ≤ c0 ∧ (Kd.int .i64).C w A0 (rd_L1 xs i).length (rd_L1 xs i) := by
  obtain ⟨ad, c, e, _, hK, hc0⟩ := Kd.C_get h ([] : List Int) i h0 h1
  have hc : ∀ j u, c[j]? = some u → w.cell? (ad.add (i.toNat * 1 + j)) = some u := hc0
  obtain ⟨A0, c0, rfl, l0, g0⟩ := hK
  exact ⟨ad, A0, c0, e, by have hq := hc 0 _ rfl; rwa [Nat.mul_one, Nat.add_zero] at hq, l0, g0⟩

/-! #### struct type 60 -/
structure S60 where
  f0 : Int
  f1 : Int
  f2 : (List Int)
def z60 : S60 := ⟨(0 : Int), (0 : Int), ([] : List Int)⟩
def k60 : Kd S60 := Kd.iso (Kd.pair (Kd.int .i64) (Kd.pair (Kd.int .i64) (Kd.slice 3 (Kd.int .i64)))) (fun x : S60 => (x.f0, x.f1, x.f2))
theorem k60_open {w : World} {x : S60} {cs : List Value} (h : k60.K w x cs) : ∃ A2 c2, cs = [.int .i64 x.f0, .int .i64 x.f1, .slice A2 x.f2.length c2] ∧ x.f2.length ≤ c2 ∧ (Kd.int .i64).C w A2 x.f2.length x.f2 := by
  obtain ⟨_, _, rfl, rfl, ⟨_, _, rfl, rfl, ⟨A2, c2, rfl, l2, g2⟩⟩⟩ := h
  exact ⟨A2, c2, rfl, l2, g2⟩
theorem k60_openM {w : World} {base : Nat} {ok : Nat → Prop} {x : S60} {cs : List Value} (h : k60.M w base ok x cs) : ∃ v2, cs = [.int .i64 x.f0, .int .i64 x.f1, v2] ∧ (Kd.int .i64).R 3 w base ok v2 x.f2 := by
  obtain ⟨_, _, rfl, rfl, ⟨_, _, rfl, rfl, ⟨v2, rfl, g2⟩⟩⟩ := h
  exact ⟨v2, rfl, g2⟩
theorem k60_mk (w : World) (x : S60) {A2 : Option Addr} {c2 : Nat} (l2 : x.f2.length ≤ c2) (g2 : (Kd.int .i64).C w A2 x.f2.length x.f2) : k60.K w x [.int .i64 x.f0, .int .i64 x.f1, .slice A2 x.f2.length c2] := ⟨[.int .i64 x.f0], [.int .i64 x.f1, .slice A2 x.f2.length c2], rfl, rfl, ⟨[.int .i64 x.f1], [.slice A2 x.f2.length c2], rfl, rfl, ⟨A2, c2, rfl, l2, g2⟩⟩⟩
theorem k60_mkM (w : World) (base : Nat) (ok : Nat → Prop) (x : S60) {v2 : Value} (g2 : (Kd.int .i64).R 3 w base ok v2 x.f2) : k60.M w base ok x [.int .i64 x.f0, .int .i64 x.f1, v2] := ⟨[.int .i64 x.f0], [.int .i64 x.f1, v2], rfl, rfl, ⟨[.int .i64 x.f1], [v2], rfl, rfl, ⟨v2, rfl, g2⟩⟩⟩
theorem k60_openF {W : World} {ok : Nat → Prop} {x : S60} {cs : List Value} (h : Kd.FK k60 W ok x cs) : ∃ A2 c2, cs = [.int .i64 x.f0, .int .i64 x.f1, .slice A2 x.f2.length c2] ∧ x.f2.length ≤ c2 ∧ Kd.F (Kd.int .i64) W ok A2 x.f2.length x.f2 := by
  obtain ⟨A2, c2, rfl, l2, _⟩ := k60_open (Kd.FK_now h)
  exact ⟨A2, c2, rfl, l2, (fun W' hW => by obtain ⟨A2_, c2_, he, l2_, g2_⟩ := k60_open (h W' hW); injection (Option.some.inj (show some (Value.slice A2 x.f2.length c2) = some (Value.slice A2_ x.f2.length c2_) from congrArg (fun l => l[2]?) he)) with ha_ _ _; rw [ha_]; exact g2_)⟩
theorem k60_mkF (W : World) (ok : Nat → Prop) (x : S60) {A2 : Option Addr} {c2 : Nat} (l2 : x.f2.length ≤ c2) (g2 : Kd.F (Kd.int .i64) W ok A2 x.f2.length x.f2) : Kd.FK k60 W ok x [.int .i64 x.f0, .int .i64 x.f1, .slice A2 x.f2.length c2] := fun W2 hW => k60_mk W2 x l2 (g2 W2 hW)
def rd_T60 (xs : List S60) (i : Int) : S60 := xs.getD i.toNat z60
theorem at_T60 {w : World} {A : Option Addr} {n : Nat} {xs : List S60} (h : Kd.C k60 w A n xs) (i : Int) (h0 : 0 ≤ i) (h1 : i < n) : ∃ ad A2 c2, A = some ad ∧ w.cell? (ad.add (i.toNat * 3)) = some (.int .i64 (rd_T60 xs i).f0) ∧ w.cell? ⟨(ad.add (i.toNat * 3)).block, (ad.add (i.toNat * 3)).off + 1, none⟩ = some (.int .i64 (rd_T60 xs i).f1) ∧ w.cell? ⟨(ad.add (i.toNat * 3)).block, (ad.add (i.toNat * 3)).off + 2, none⟩ = some (.slice A2 (rd_T60 xs i).f2.length c2) ∧ (rd_T60 xs i).f2.length ≤ c2 ∧ (Kd.int .i64).C w A2 (rd_T60 xs i).f2.length (rd_T60 xs i).f2 := by
  obtain ⟨ad, c, e, _, hK, hc0⟩ := Kd.C_get h z60 i h0 h1
  have hc : ∀ j u, c[j]? = some u → w.cell? (ad.add (i.toNat * 3 + j)) = some u := hc0
  obtain ⟨A2, c2, rfl, l2, g2⟩ := k60_open hK
  exact ⟨ad, A2, c2, e, hc 0 _ rfl, by rw [← add_field _ _ 1 (by omega)]; exact hc 1 _ rfl, by rw [← add_field _ _ 2 (by omega)]; exact hc 2 _ rfl, l2, g2⟩

def rd_L4 (xs : List (List S60)) (i : Int) : (List S60) := xs.getD i.toNat ([] : List S60)
theorem at_L4 {w : World} {A : Option Addr} {n : Nat} {xs : List (List S60)} (h : Kd.C (Kd.slice 60 k60) w A n xs) (i : Int) (h0 : 0 ≤ i) (h1 : i < n) : ∃ ad A0 c0, A = some ad ∧ w.cell? (ad.add i.toNat) = some (.slice A0 (rd_L4 xs i).length c0) ∧ (rd_L4 xs i).length ≤ c0 ∧ k60.C w A0 (rd_L4 xs i).length (rd_L4 xs i) := by
  obtain ⟨ad, c, e, _, hK, hc0⟩ := Kd.C_get h ([] : List S60) i h0 h1
  have hc : ∀ j u, c[j]? = some u → w.cell? (ad.add (i.toNat * 1 + j)) = some u := hc0
  obtain ⟨A0, c0, rfl, l0, g0⟩ := hK
  exact ⟨ad, A0, c0, e, by have hq := hc 0 _ rfl; rwa [Nat.mul_one, Nat.add_zero] at hq, l0, g0⟩

/-! #### struct type 31 -/
structure S31 where
  f0 : (List S60)
def z31 : S31 := ⟨([] : List S60)⟩
def k31 : Kd S31 := Kd.iso (Kd.slice 60 k60) (fun x : S31 => x.f0)
theorem k31_open {w : World} {x : S31} {cs : List Value} (h : k31.K w x cs) : ∃ A0 c0, cs = [.slice A0 x.f0.length c0] ∧ x.f0.length ≤ c0 ∧ k60.C w A0 x.f0.length x.f0 := by
  obtain ⟨A0, c0, rfl, l0, g0⟩ := h
  exact ⟨A0, c0, rfl, l0, g0⟩
theorem k31_openM {w : World} {base : Nat} {ok : Nat → Prop} {x : S31} {cs : List Value} (h : k31.M w base ok x cs) : ∃ v0, cs = [v0] ∧ k60.R 60 w base ok v0 x.f0 := by
  obtain ⟨v0, rfl, g0⟩ := h
  exact ⟨v0, rfl, g0⟩
theorem k31_mk (w : World) (x : S31) {A0 : Option Addr} {c0 : Nat} (l0 : x.f0.length ≤ c0) (g0 : k60.C w A0 x.f0.length x.f0) : k31.K w x [.slice A0 x.f0.length c0] := ⟨A0, c0, rfl, l0, g0⟩
theorem k31_mkM (w : World) (base : Nat) (ok : Nat → Prop) (x : S31) {v0 : Value} (g0 : k60.R 60 w base ok v0 x.f0) : k31.M w base ok x [v0] := ⟨v0, rfl, g0⟩
theorem k31_openF {W : World} {ok : Nat → Prop} {x : S31} {cs : List Value} (h : Kd.FK k31 W ok x cs) : ∃ A0 c0, cs = [.slice A0 x.f0.length c0] ∧ x.f0.length ≤ c0 ∧ Kd.F k60 W ok A0 x.f0.length x.f0 := by
  obtain ⟨A0, c0, rfl, l0, _⟩ := k31_open (Kd.FK_now h)
  exact ⟨A0, c0, rfl, l0, (fun W' hW => by obtain ⟨A0_, c0_, he, l0_, g0_⟩ := k31_open (h W' hW); injection (Option.some.inj (show some (Value.slice A0 x.f0.length c0) = some (Value.slice A0_ x.f0.length c0_) from congrArg (fun l => l[0]?) he)) with ha_ _ _; rw [ha_]; exact g0_)⟩
theorem k31_mkF (W : World) (ok : Nat → Prop) (x : S31) {A0 : Option Addr} {c0 : Nat} (l0 : x.f0.length ≤ c0) (g0 : Kd.F k60 W ok A0 x.f0.length x.f0) : Kd.FK k31 W ok x [.slice A0 x.f0.length c0] := fun W2 hW => k31_mk W2 x l0 (g0 W2 hW)
def rd_T31 (xs : List S31) (i : Int) : S31 := xs.getD i.toNat z31
theorem at_T31 {w : World} {A : Option Addr} {n : Nat} {xs : List S31} (h : Kd.C k31 w A n xs) (i : Int) (h0 : 0 ≤ i) (h1 : i < n) : ∃ ad A0 c0, A = some ad ∧ w.cell? (ad.add i.toNat) = some (.slice A0 (rd_T31 xs i).f0.length c0) ∧ (rd_T31 xs i).f0.length ≤ c0 ∧ k60.C w A0 (rd_T31 xs i).f0.length (rd_T31 xs i).f0 := by
  obtain ⟨ad, c, e, _, hK, hc0⟩ := Kd.C_get h z31 i h0 h1
  have hc : ∀ j u, c[j]? = some u → w.cell? (ad.add (i.toNat * 1 + j)) = some u := hc0
  obtain ⟨A0, c0, rfl, l0, g0⟩ := k31_open hK
  exact ⟨ad, A0, c0, e, by have hq := hc 0 _ rfl; rwa [Nat.mul_one, Nat.add_zero] at hq, l0, g0⟩

theorem Kd.R_readsM {α : Type} {d : Kd α} {e : Nat} {W : World} {base : Nat} {ok : Nat → Prop} {A : Option Addr} {n c : Nat} {xs : List α} (h : Kd.R d e W base ok (.slice A n c) xs) :
    ReadsRow (d.M W base (fun k => ok k ∧ some k ≠ (Value.slice A n c).ownBlock)) d.sz W A n xs := by
  obtain ⟨_, inner, ho, hr⟩ := h
  obtain ⟨A', c', he, hR⟩ := own_reads_row ho hr rfl
  injection he with h1 h2 h3
  subst h1; subst h2
  exact hR
theorem Kd.V_away {α : Type} {d : Kd α} {e : Nat} {W : World} {base g : Nat} {ok : Nat → Prop} {v : Value} {xs : List α} (h : Kd.V d e W base ok v xs) (hok : ∀ k, ok k → k ≠ g) (hn : 0 < xs.length := by first | omega | (simp_all; omega)) (hs : 0 < d.sz := by decide) : some g ≠ v.ownBlock := by
  obtain ⟨A, c, rfl, _, hF⟩ := h
  rcases A with _ | ad
  · simp [Value.ownBlock]
  · intro he
    have h1 := Kd.F_in hF rfl hn hs
    simp only [Value.ownBlock, Option.some.injEq] at he
    exact hok _ h1 he.symm

end Go.Proofs.YtopbjginpmdebaaDoor.K
namespace Go.Proofs.YtopbjginpmdebaaDoor.K
open Go.RowKit Go.Proofs.YtopbjginpmdebaaDoorW.PrintWords Go.Proofs.YtopbjginpmdebaaDoorW.PrintLast Go.Proofs.YtopbjginpmdebaaDoorW.PrintMore
attribute [local go_sem] max2_int min2_int max_two min_two max_three min_three max_four min_four   -- for this text's walks alone
set_option linter.unusedVariables false
set_option linter.unusedSimpArgs false

/-! ### exactpplref07_SameInts: function 41 -/
def exactpplref07_SameInts.l0 : Nat → List Int → List Int → Int → Option (Bool)
  | 0, _, _, _ => none
  | k + 1, x0, x1, x5 => if x5 < (x0.length : Int) then (if 0 ≤ x5 then (if x5 < (x1.length : Int) then (if (rd x0 x5) = (rd x1 x5) then (exactpplref07_SameInts.l0 k x0 x1 (wrap64 (x5 + 1))) else (some false)) else (none)) else (none)) else (some true)
def exactpplref07_SameInts.f (k : Nat) (l0 : List Int) (l1 : List Int) : Option (Bool) := if (l0.length : Int) = (l1.length : Int) then (exactpplref07_SameInts.l0 k l0 l1 0) else (some false)
theorem exactpplref07_SameInts.mono_l : ∀ k, (∀ y0 y1 y2, LeO (exactpplref07_SameInts.l0 k y0 y1 y2) (exactpplref07_SameInts.l0 (k + 1) y0 y1 y2))
  | 0 => fun _ _ _ r h => by simp [exactpplref07_SameInts.l0] at h
  | k + 1 => by
    have ih0 := exactpplref07_SameInts.mono_l k
    · intro y0 y1 y2
      unfold exactpplref07_SameInts.l0
      repeat' first
      | (with_reducible exact ih0 _ _ _)
      | (with_reducible exact LeO.refl _)
      | (with_reducible exact LeO.none _)
      | (with_reducible refine LeO.ite ?_ ?_)
      | (with_reducible refine LeO.bind ?_ (fun _ => ?_))
      | exact ih0 _ _ _
      | exact LeO.none _
      | refine LeO.ite ?_ ?_
      | refine LeO.bind ?_ (fun _ => ?_)
theorem exactpplref07_SameInts.mono : ∀ a0 a1 k, LeO (exactpplref07_SameInts.f k a0 a1) (exactpplref07_SameInts.f (k + 1) a0 a1) := by
  intro a0 a1 k
  have ih0 := exactpplref07_SameInts.mono_l k
  unfold exactpplref07_SameInts.f
  repeat' first
      | (with_reducible exact ih0 _ _ _)
      | (with_reducible exact LeO.refl _)
      | (with_reducible exact LeO.none _)
      | (with_reducible refine LeO.ite ?_ ?_)
      | (with_reducible refine LeO.bind ?_ (fun _ => ?_))
      | exact ih0 _ _ _
      | exact LeO.none _
      | refine LeO.ite ?_ ?_
      | refine LeO.bind ?_ (fun _ => ?_)
set_option maxHeartbeats 8000000 in
set_option maxRecDepth 100000 in
theorem exactpplref07_SameInts.calls (k : Nat) (A0 : Option Addr) (c0 : Nat) (l0 : List Int) (A1 : Option Addr) (c1 : Nat) (l1 : List Int) (r : Bool) (w : World) (hr0 : Kd.C (Kd.int .i64) w A0 l0.length l0) (hc0 : l0.length ≤ c0) (hr1 : Kd.C (Kd.int .i64) w A1 l1.length l1) (hc1 : l1.length ≤ c1) (h : exactpplref07_SameInts.f k l0 l1 = some r) :
    Calls Tryd.prog 41 #[.slice A0 l0.length c0, .slice A1 l1.length c1] w fun e w' => e = .returned (.bool r) ∧ Drawn0 w w' := by
  have HR0 := Aside0.mk hr0
  have HC0 := Aside0.mk hc0
  clear hr0 hc0
  have HR1 := Aside0.mk hr1
  have HC1 := Aside0.mk hc1
  clear hr1 hc1
  have H : (if (l0.length : Int) = (l1.length : Int) then (exactpplref07_SameInts.l0 k l0 l1 0) else (some false)) = some r := h
  clear h
  by_cases c3 : (l0.length : Int) = (l1.length : Int)
  · rw [if_pos c3] at H
    have c3b0 : ((l0.length : Int) == (l1.length : Int)) = true := beq_iff_eq.mpr c3
    have c3b1 : ((l0.length : Int) != (l1.length : Int)) = false := bne_eq_false_iff_eq.mpr c3
    have c3b2 : (l0.length == l1.length) = true := by first | simpa using c3 | (simp at c3 ⊢; omega)
    clear c3
    have H' := Aside0.mk H
    clear H
    go_enter Tryd.func41, Tryd.ntmps41
    go_wp2
    repeat (go_quiet (fail); try go_wp2)
    go_loopg [5] k (fun kq v5 w' => ∃ (x5_1 : Int), v5 = .int .i64 x5_1 ∧ Aside0 (exactpplref07_SameInts.l0 kq l0 l1 x5_1 = some r) ∧ Aside0 (kq ≤ k) ∧ Drawn0 w w')
    case atStart => exact ⟨(0), (by first | rfl | (simp; done) | (simp [*]; done)), H', ⟨Nat.le_refl _⟩, by repeat (first | exact Drawn0.refl _ | apply Drawn0.step)⟩
    case round =>
      clear H'
      try clear c1
      try clear p2
      try clear c3
      try clear c3b0
      try clear c3b1
      try clear c3b2
      obtain ⟨x5_1, rfl, HA, HK1, ⟨m1, rfl⟩⟩ := hrel
      cases gk with
      | zero => exact absurd HA.out (by simp [exactpplref07_SameInts.l0])
      | succ k1 =>
        have H := HA.out
        clear HA
        simp only [exactpplref07_SameInts.l0] at H
        by_cases c4 : x5_1 < (l0.length : Int)
        · rw [if_pos c4] at H
          have c4b0 : decide (x5_1 < (l0.length : Int)) = true := decide_eq_true c4
          clear c4
          by_cases c5 : 0 ≤ x5_1
          · rw [if_pos c5] at H
            have c5b0 : decide (0 ≤ x5_1) = true := decide_eq_true c5
            clear c5
            by_cases c6 : x5_1 < (l1.length : Int)
            · rw [if_pos c6] at H
              have c6b0 : decide (x5_1 < (l1.length : Int)) = true := decide_eq_true c6
              clear c6
              by_cases c7 : (rd l0 x5_1) = (rd l1 x5_1)
              · rw [if_pos c7] at H
                have c7b0 : ((rd l0 x5_1) == (rd l1 x5_1)) = true := beq_iff_eq.mpr c7
                have c7b1 : ((rd l0 x5_1) != (rd l1 x5_1)) = false := bne_eq_false_iff_eq.mpr c7
                clear c7
                have H' := Aside0.mk H
                clear H
                have p132 : 0 ≤ (x5_1 : Int) := of_decide_eq_true (by first | (with_reducible assumption) | assumption)
                have q132 : x5_1 < (l0.length : Int) := of_decide_eq_true (by first | (with_reducible assumption) | assumption)
                obtain ⟨ad132, e132, hx132_0⟩ := Kd.at_int HR0.out x5_1 p132 q132
                cases e132
                replace p132 := eq_true p132
                replace q132 := eq_true q132
                have p133 : 0 ≤ (x5_1 : Int) := of_decide_eq_true (by first | (with_reducible assumption) | assumption)
                have q133 : x5_1 < (l1.length : Int) := of_decide_eq_true (by first | (with_reducible assumption) | assumption)
                obtain ⟨ad133, e133, hx133_0⟩ := Kd.at_int HR1.out x5_1 p133 q133
                cases e133
                replace p133 := eq_true p133
                replace q133 := eq_true q133
                go_wp2
                repeat (go_quiet (fail); try go_wp2)
                go_roundg k1
                case measure => have := HK1.out; omega
                case rel => exact ⟨(wrap64 (x5_1 + 1)), (by first | rfl | (simp; done) | (simp [*]; done)), H', ⟨by have := HK1.out; omega⟩, by repeat (first | exact Drawn0.refl _ | apply Drawn0.step)⟩
              · rw [if_neg c7] at H
                have c7b0 : ((rd l0 x5_1) == (rd l1 x5_1)) = false := beq_eq_false_iff_ne.mpr c7
                have c7b1 : ((rd l0 x5_1) != (rd l1 x5_1)) = true := bne_iff_ne.mpr c7
                obtain rfl := Option.some.inj H
                have p132 : 0 ≤ (x5_1 : Int) := of_decide_eq_true (by first | (with_reducible assumption) | assumption)
                have q132 : x5_1 < (l0.length : Int) := of_decide_eq_true (by first | (with_reducible assumption) | assumption)
                obtain ⟨ad132, e132, hx132_0⟩ := Kd.at_int HR0.out x5_1 p132 q132
                cases e132
                replace p132 := eq_true p132
                replace q132 := eq_true q132
                have p133 : 0 ≤ (x5_1 : Int) := of_decide_eq_true (by first | (with_reducible assumption) | assumption)
                have q133 : x5_1 < (l1.length : Int) := of_decide_eq_true (by first | (with_reducible assumption) | assumption)
                obtain ⟨ad133, e133, hx133_0⟩ := Kd.at_int HR1.out x5_1 p133 q133
                cases e133
                replace p133 := eq_true p133
                replace q133 := eq_true q133
                go_wp2
                repeat (go_quiet (fail); try go_wp2)
                go_ret
                exact ⟨by first | rfl | (simp; done) | (simp [*]; done), by repeat (first | exact Drawn0.refl _ | apply Drawn0.step)⟩
            · rw [if_neg c6] at H
              exact absurd H (by simp)
          · rw [if_neg c5] at H
            exact absurd H (by simp)
        · rw [if_neg c4] at H
          have c4b0 : decide (x5_1 < (l0.length : Int)) = false := decide_eq_false c4
          clear c4
          obtain rfl := Option.some.inj H
          go_wp2
          repeat (go_quiet (fail); try go_wp2)
          go_ret
          exact ⟨by first | rfl | (simp; done) | (simp [*]; done), by repeat (first | exact Drawn0.refl _ | apply Drawn0.step)⟩
  · rw [if_neg c3] at H
    have c3b0 : ((l0.length : Int) == (l1.length : Int)) = false := beq_eq_false_iff_ne.mpr c3
    have c3b1 : ((l0.length : Int) != (l1.length : Int)) = true := bne_iff_ne.mpr c3
    have c3b2 : (l0.length == l1.length) = false := by first | simpa using c3 | (simp at c3 ⊢; omega)
    obtain rfl := Option.some.inj H
    go_enter Tryd.func41, Tryd.ntmps41
    go_wp2
    repeat (go_quiet (fail); try go_wp2)
    go_ret
    exact ⟨by first | rfl | (simp; done) | (simp [*]; done), by repeat (first | exact Drawn0.refl _ | apply Drawn0.step)⟩

end Go.Proofs.YtopbjginpmdebaaDoor.K
namespace Go.Proofs.YtopbjginpmdebaaDoor.K
open Go.RowKit Go.Proofs.YtopbjginpmdebaaDoorW.PrintWords Go.Proofs.YtopbjginpmdebaaDoorW.PrintLast Go.Proofs.YtopbjginpmdebaaDoorW.PrintMore
attribute [local go_sem] max2_int min2_int max_two min_two max_three min_three max_four min_four   -- for this text's walks alone
set_option linter.unusedVariables false
set_option linter.unusedSimpArgs false

/-! ### exactpplref19_SameNode: function 49 -/
def exactpplref19_SameNode.f (k : Nat) (a0_0 : Int) (a0_1 : Int) (l0_2 : List Int) (a1_0 : Int) (a1_1 : Int) (l1_2 : List Int) : Option (Bool) := if a0_0 = a1_0 then (if a0_1 = a1_1 then ((exactpplref07_SameInts.f k l0_2 l1_2).bind fun t136 => (some t136)) else (some false)) else (some false)
theorem exactpplref19_SameNode.mono : ∀ a0 a1 a2 a3 a4 a5 k, LeO (exactpplref19_SameNode.f k a0 a1 a2 a3 a4 a5) (exactpplref19_SameNode.f (k + 1) a0 a1 a2 a3 a4 a5) := by
  intro a0 a1 a2 a3 a4 a5 k
  unfold exactpplref19_SameNode.f
  repeat' first
      | (with_reducible exact exactpplref07_SameInts.mono _ _ _)
      | (with_reducible exact LeO.refl _)
      | (with_reducible exact LeO.none _)
      | (with_reducible refine LeO.ite ?_ ?_)
      | (with_reducible refine LeO.bind ?_ (fun _ => ?_))
      | exact exactpplref07_SameInts.mono _ _ _
      | exact LeO.none _
      | refine LeO.ite ?_ ?_
      | refine LeO.bind ?_ (fun _ => ?_)
set_option maxHeartbeats 8000000 in
set_option maxRecDepth 100000 in
theorem exactpplref19_SameNode.calls (k : Nat) (a0_0 : Int) (a0_1 : Int) (A0_2 : Option Addr) (c0_2 : Nat) (l0_2 : List Int) (a1_0 : Int) (a1_1 : Int) (A1_2 : Option Addr) (c1_2 : Nat) (l1_2 : List Int) (r : Bool) (w : World) (hr0_2 : Kd.C (Kd.int .i64) w A0_2 l0_2.length l0_2) (hc0_2 : l0_2.length ≤ c0_2) (hr1_2 : Kd.C (Kd.int .i64) w A1_2 l1_2.length l1_2) (hc1_2 : l1_2.length ≤ c1_2) (h : exactpplref19_SameNode.f k a0_0 a0_1 l0_2 a1_0 a1_1 l1_2 = some r) :
    Calls Tryd.prog 49 #[.agg #[.int .i64 a0_0, .int .i64 a0_1, .slice A0_2 l0_2.length c0_2], .agg #[.int .i64 a1_0, .int .i64 a1_1, .slice A1_2 l1_2.length c1_2]] w fun e w' => e = .returned (.bool r) ∧ Below w.heap.size w w' := by
  have hu60 := Tryd.underlying60
  have HR0_2 := Aside0.mk hr0_2
  have HC0_2 := Aside0.mk hc0_2
  clear hr0_2 hc0_2
  have HR1_2 := Aside0.mk hr1_2
  have HC1_2 := Aside0.mk hc1_2
  clear hr1_2 hc1_2
  have HB := Aside0.mk (Below.refl w.heap.size w)
  have H : (if a0_0 = a1_0 then (if a0_1 = a1_1 then ((exactpplref07_SameInts.f k l0_2 l1_2).bind fun t136 => (some t136)) else (some false)) else (some false)) = some r := h
  clear h
  by_cases c3 : a0_0 = a1_0
  · rw [if_pos c3] at H
    have c3b0 : (a0_0 == a1_0) = true := beq_iff_eq.mpr c3
    have c3b1 : (a0_0 != a1_0) = false := bne_eq_false_iff_eq.mpr c3
    clear c3
    by_cases c4 : a0_1 = a1_1
    · rw [if_pos c4] at H
      have c4b0 : (a0_1 == a1_1) = true := beq_iff_eq.mpr c4
      have c4b1 : (a0_1 != a1_1) = false := bne_eq_false_iff_eq.mpr c4
      clear c4
      replace H := Option.bind_eq_some_iff.mp H
      obtain ⟨t136, A50, H⟩ := H
      replace H : (some t136) = some r := H
      have A5 := Aside0.mk A50
      clear A50
      obtain rfl := Option.some.inj H
      go_enter Tryd.func49, Tryd.ntmps49
      go_wp2_with (first | ((with_reducible refine gate_dst (N := 2) rfl ?_); refine box_event ?hg (N := 2) ?hd (cs := #[.int .i64 a0_0, .int .i64 a0_1, .slice A0_2 l0_2.length c0_2]) (t := 60) ?hr ?_; (case hd => rfl); (case hg => rfl); (case hr => first | (go_simp; done) | (go_simp; rfl)); intro gb134 hg w6 hbox hb; have n0_ := Aside0.mk (below_step (by repeat (first | (with_reducible first | exact HB.out | apply below_alloc | apply pw_below_drewN | apply below_drew1) | exact HB.out)) hb); have n1_ := Aside0.mk (hbox); have n2_ := Aside0.mk ((by rw [hg]; exact (below_size (by repeat (first | (with_reducible first | exact HB.out | apply below_alloc | apply pw_below_drewN | apply below_drew1) | exact HB.out))) : w.heap.size ≤ gb134)); have n3_ := Aside0.mk ((by rw [hg]; exact (below_size (by repeat (first | (with_reducible first | exact HB.out | apply below_alloc | apply pw_below_drewN | apply below_drew1) | exact HB.out))) : w.heap.size ≤ gb134)); clear HB; have HB := n0_; have BK134 := n1_; have GW134 := n2_; have GE134 := n3_; clear n0_ n1_ n2_ n3_; clear hb hbox hg) | ((with_reducible refine gate_dst (N := 3) rfl ?_); refine box_event ?hg (N := 3) ?hd (cs := #[.int .i64 a1_0, .int .i64 a1_1, .slice A1_2 l1_2.length c1_2]) (t := 60) ?hr ?_; (case hd => rfl); (case hg => rfl); (case hr => first | (go_simp; done) | (go_simp; rfl)); intro gb135 hg w7 hbox hb; have n0_ := Aside0.mk (blk_below (g := gb134) (o := .cells #[.int .i64 a0_0, .int .i64 a0_1, .slice A0_2 l0_2.length c0_2] 60 (0, 0)) (by (with_reducible repeat (first | refine blk_drewN ?_ _ | refine blk_drew ?_ | refine blk_alloc ?_ _)); exact BK134.out) hb); have n1_ := Aside0.mk (below_step (by repeat (first | (with_reducible first | exact HB.out | apply below_alloc | apply pw_below_drewN | apply below_drew1 | refine below_set ?_ GE134.out) | exact HB.out)) hb); have n2_ := Aside0.mk (hbox); have n3_ := Aside0.mk ((by rw [hg]; exact (below_size (by repeat (first | (with_reducible first | exact HB.out | apply below_alloc | apply pw_below_drewN | apply below_drew1 | refine below_set ?_ GE134.out) | exact HB.out))) : w.heap.size ≤ gb135)); have n4_ := Aside0.mk ((by rw [hg]; exact (below_size (by repeat (first | (with_reducible first | exact HB.out | apply below_alloc | apply pw_below_drewN | apply below_drew1 | refine below_set ?_ GE134.out) | exact HB.out))) : w.heap.size ≤ gb135)); have n5_ := Aside0.mk ((by rw [hg]; exact Nat.ne_of_lt (blk_lt (g := gb134) (o := .cells #[.int .i64 a0_0, .int .i64 a0_1, .slice A0_2 l0_2.length c0_2] 60 (0, 0)) (by (with_reducible repeat (first | refine blk_drewN ?_ _ | refine blk_drew ?_ | refine blk_alloc ?_ _)); exact BK134.out)) : gb134 ≠ gb135)); have n6_ := Aside0.mk ((by rw [hg]; exact Nat.ne_of_gt (blk_lt (g := gb134) (o := .cells #[.int .i64 a0_0, .int .i64 a0_1, .slice A0_2 l0_2.length c0_2] 60 (0, 0)) (by (with_reducible repeat (first | refine blk_drewN ?_ _ | refine blk_drew ?_ | refine blk_alloc ?_ _)); exact BK134.out)) : gb135 ≠ gb134)); clear BK134; clear HB; have BK134 := n0_; have HB := n1_; have BK135 := n2_; have GW135 := n3_; have GE135 := n4_; have NB134_135 := n5_; have NB135_134 := n6_; clear n0_ n1_ n2_ n3_ n4_ n5_ n6_; clear hb hbox hg; have hnb8 := NB134_135.out; have hnc8 := NB135_134.out; have hcz9_0 : w7.cell? ⟨gb134, 0, none⟩ = some (.int .i64 a0_0) := (blk_cell BK134.out 0).trans rfl; have hcz9_1 : w7.cell? ⟨gb134, 1, none⟩ = some (.int .i64 a0_1) := (blk_cell BK134.out 1).trans rfl; have hcz9_2 : w7.cell? ⟨gb134, 2, none⟩ = some (.slice A0_2 l0_2.length c0_2) := (blk_cell BK134.out 2).trans rfl; have hfz9_0 := blk_frozen BK134.out 0; have hfz9_1 := blk_frozen BK134.out 1; have hfz9_2 := blk_frozen BK134.out 2; have hcz10_0 : w7.cell? ⟨gb135, 0, none⟩ = some (.int .i64 a1_0) := (blk_cell BK135.out 0).trans rfl; have hcz10_1 : w7.cell? ⟨gb135, 1, none⟩ = some (.int .i64 a1_1) := (blk_cell BK135.out 1).trans rfl; have hcz10_2 : w7.cell? ⟨gb135, 2, none⟩ = some (.slice A1_2 l1_2.length c1_2) := (blk_cell BK135.out 2).trans rfl; have hfz10_0 := blk_frozen BK135.out 0; have hfz10_1 := blk_frozen BK135.out 1; have hfz10_2 := blk_frozen BK135.out 2) | (go_at_call 41; (with_reducible refine (exactpplref07_SameInts.calls k _ _ l0_2 _ _ l1_2 t136 _ ?side1 ?side2 ?side3 ?side4 A5.out).mono ?_); (case side1 => repeat (first | exact (Kd.C_below HR0_2.out HB.out) | (with_reducible refine Kd.C_alloc ?_ _) | (with_reducible refine Kd.C_drewN ?_ _) | (with_reducible refine Kd.C_drew ?_))); (case side2 => exact HC0_2.out); (case side3 => repeat (first | exact (Kd.C_below HR1_2.out HB.out) | (with_reducible refine Kd.C_alloc ?_ _) | (with_reducible refine Kd.C_drewN ?_ _) | (with_reducible refine Kd.C_drew ?_))); (case side4 => exact HC1_2.out); rintro e w' ⟨rfl, ⟨nd, rfl⟩⟩))
      go_ret
      exact ⟨by first | rfl | (simp [errW_none, errW_some] <;> rfl) | (simp [*, errW_none, errW_some] <;> rfl), by repeat (first | (with_reducible first | exact HB.out | apply below_alloc | apply pw_below_drewN | apply below_drew1 | refine below_set ?_ GE134.out | refine below_set ?_ GE135.out) | exact HB.out)⟩
    · rw [if_neg c4] at H
      have c4b0 : (a0_1 == a1_1) = false := beq_eq_false_iff_ne.mpr c4
      have c4b1 : (a0_1 != a1_1) = true := bne_iff_ne.mpr c4
      obtain rfl := Option.some.inj H
      go_enter Tryd.func49, Tryd.ntmps49
      go_wp2_with (first | ((with_reducible refine gate_dst (N := 2) rfl ?_); refine box_event ?hg (N := 2) ?hd (cs := #[.int .i64 a0_0, .int .i64 a0_1, .slice A0_2 l0_2.length c0_2]) (t := 60) ?hr ?_; (case hd => rfl); (case hg => rfl); (case hr => first | (go_simp; done) | (go_simp; rfl)); intro gb134 hg w11 hbox hb; have n0_ := Aside0.mk (below_step (by repeat (first | (with_reducible first | exact HB.out | apply below_alloc | apply pw_below_drewN | apply below_drew1) | exact HB.out)) hb); have n1_ := Aside0.mk (hbox); have n2_ := Aside0.mk ((by rw [hg]; exact (below_size (by repeat (first | (with_reducible first | exact HB.out | apply below_alloc | apply pw_below_drewN | apply below_drew1) | exact HB.out))) : w.heap.size ≤ gb134)); have n3_ := Aside0.mk ((by rw [hg]; exact (below_size (by repeat (first | (with_reducible first | exact HB.out | apply below_alloc | apply pw_below_drewN | apply below_drew1) | exact HB.out))) : w.heap.size ≤ gb134)); clear HB; have HB := n0_; have BK134 := n1_; have GW134 := n2_; have GE134 := n3_; clear n0_ n1_ n2_ n3_; clear hb hbox hg) | ((with_reducible refine gate_dst (N := 3) rfl ?_); refine box_event ?hg (N := 3) ?hd (cs := #[.int .i64 a1_0, .int .i64 a1_1, .slice A1_2 l1_2.length c1_2]) (t := 60) ?hr ?_; (case hd => rfl); (case hg => rfl); (case hr => first | (go_simp; done) | (go_simp; rfl)); intro gb135 hg w12 hbox hb; have n0_ := Aside0.mk (blk_below (g := gb134) (o := .cells #[.int .i64 a0_0, .int .i64 a0_1, .slice A0_2 l0_2.length c0_2] 60 (0, 0)) (by (with_reducible repeat (first | refine blk_drewN ?_ _ | refine blk_drew ?_ | refine blk_alloc ?_ _)); exact BK134.out) hb); have n1_ := Aside0.mk (below_step (by repeat (first | (with_reducible first | exact HB.out | apply below_alloc | apply pw_below_drewN | apply below_drew1 | refine below_set ?_ GE134.out) | exact HB.out)) hb); have n2_ := Aside0.mk (hbox); have n3_ := Aside0.mk ((by rw [hg]; exact (below_size (by repeat (first | (with_reducible first | exact HB.out | apply below_alloc | apply pw_below_drewN | apply below_drew1 | refine below_set ?_ GE134.out) | exact HB.out))) : w.heap.size ≤ gb135)); have n4_ := Aside0.mk ((by rw [hg]; exact (below_size (by repeat (first | (with_reducible first | exact HB.out | apply below_alloc | apply pw_below_drewN | apply below_drew1 | refine below_set ?_ GE134.out) | exact HB.out))) : w.heap.size ≤ gb135)); have n5_ := Aside0.mk ((by rw [hg]; exact Nat.ne_of_lt (blk_lt (g := gb134) (o := .cells #[.int .i64 a0_0, .int .i64 a0_1, .slice A0_2 l0_2.length c0_2] 60 (0, 0)) (by (with_reducible repeat (first | refine blk_drewN ?_ _ | refine blk_drew ?_ | refine blk_alloc ?_ _)); exact BK134.out)) : gb134 ≠ gb135)); have n6_ := Aside0.mk ((by rw [hg]; exact Nat.ne_of_gt (blk_lt (g := gb134) (o := .cells #[.int .i64 a0_0, .int .i64 a0_1, .slice A0_2 l0_2.length c0_2] 60 (0, 0)) (by (with_reducible repeat (first | refine blk_drewN ?_ _ | refine blk_drew ?_ | refine blk_alloc ?_ _)); exact BK134.out)) : gb135 ≠ gb134)); clear BK134; clear HB; have BK134 := n0_; have HB := n1_; have BK135 := n2_; have GW135 := n3_; have GE135 := n4_; have NB134_135 := n5_; have NB135_134 := n6_; clear n0_ n1_ n2_ n3_ n4_ n5_ n6_; clear hb hbox hg; have hnb13 := NB134_135.out; have hnc13 := NB135_134.out; have hcz14_0 : w12.cell? ⟨gb134, 0, none⟩ = some (.int .i64 a0_0) := (blk_cell BK134.out 0).trans rfl; have hcz14_1 : w12.cell? ⟨gb134, 1, none⟩ = some (.int .i64 a0_1) := (blk_cell BK134.out 1).trans rfl; have hcz14_2 : w12.cell? ⟨gb134, 2, none⟩ = some (.slice A0_2 l0_2.length c0_2) := (blk_cell BK134.out 2).trans rfl; have hfz14_0 := blk_frozen BK134.out 0; have hfz14_1 := blk_frozen BK134.out 1; have hfz14_2 := blk_frozen BK134.out 2; have hcz15_0 : w12.cell? ⟨gb135, 0, none⟩ = some (.int .i64 a1_0) := (blk_cell BK135.out 0).trans rfl; have hcz15_1 : w12.cell? ⟨gb135, 1, none⟩ = some (.int .i64 a1_1) := (blk_cell BK135.out 1).trans rfl; have hcz15_2 : w12.cell? ⟨gb135, 2, none⟩ = some (.slice A1_2 l1_2.length c1_2) := (blk_cell BK135.out 2).trans rfl; have hfz15_0 := blk_frozen BK135.out 0; have hfz15_1 := blk_frozen BK135.out 1; have hfz15_2 := blk_frozen BK135.out 2))
      go_ret
      exact ⟨by first | rfl | (simp [errW_none, errW_some] <;> rfl) | (simp [*, errW_none, errW_some] <;> rfl), by repeat (first | (with_reducible first | exact HB.out | apply below_alloc | apply pw_below_drewN | apply below_drew1 | refine below_set ?_ GE134.out | refine below_set ?_ GE135.out) | exact HB.out)⟩
  · rw [if_neg c3] at H
    have c3b0 : (a0_0 == a1_0) = false := beq_eq_false_iff_ne.mpr c3
    have c3b1 : (a0_0 != a1_0) = true := bne_iff_ne.mpr c3
    obtain rfl := Option.some.inj H
    go_enter Tryd.func49, Tryd.ntmps49
    go_wp2_with (first | ((with_reducible refine gate_dst (N := 2) rfl ?_); refine box_event ?hg (N := 2) ?hd (cs := #[.int .i64 a0_0, .int .i64 a0_1, .slice A0_2 l0_2.length c0_2]) (t := 60) ?hr ?_; (case hd => rfl); (case hg => rfl); (case hr => first | (go_simp; done) | (go_simp; rfl)); intro gb134 hg w16 hbox hb; have n0_ := Aside0.mk (below_step (by repeat (first | (with_reducible first | exact HB.out | apply below_alloc | apply pw_below_drewN | apply below_drew1) | exact HB.out)) hb); have n1_ := Aside0.mk (hbox); have n2_ := Aside0.mk ((by rw [hg]; exact (below_size (by repeat (first | (with_reducible first | exact HB.out | apply below_alloc | apply pw_below_drewN | apply below_drew1) | exact HB.out))) : w.heap.size ≤ gb134)); have n3_ := Aside0.mk ((by rw [hg]; exact (below_size (by repeat (first | (with_reducible first | exact HB.out | apply below_alloc | apply pw_below_drewN | apply below_drew1) | exact HB.out))) : w.heap.size ≤ gb134)); clear HB; have HB := n0_; have BK134 := n1_; have GW134 := n2_; have GE134 := n3_; clear n0_ n1_ n2_ n3_; clear hb hbox hg) | ((with_reducible refine gate_dst (N := 3) rfl ?_); refine box_event ?hg (N := 3) ?hd (cs := #[.int .i64 a1_0, .int .i64 a1_1, .slice A1_2 l1_2.length c1_2]) (t := 60) ?hr ?_; (case hd => rfl); (case hg => rfl); (case hr => first | (go_simp; done) | (go_simp; rfl)); intro gb135 hg w17 hbox hb; have n0_ := Aside0.mk (blk_below (g := gb134) (o := .cells #[.int .i64 a0_0, .int .i64 a0_1, .slice A0_2 l0_2.length c0_2] 60 (0, 0)) (by (with_reducible repeat (first | refine blk_drewN ?_ _ | refine blk_drew ?_ | refine blk_alloc ?_ _)); exact BK134.out) hb); have n1_ := Aside0.mk (below_step (by repeat (first | (with_reducible first | exact HB.out | apply below_alloc | apply pw_below_drewN | apply below_drew1 | refine below_set ?_ GE134.out) | exact HB.out)) hb); have n2_ := Aside0.mk (hbox); have n3_ := Aside0.mk ((by rw [hg]; exact (below_size (by repeat (first | (with_reducible first | exact HB.out | apply below_alloc | apply pw_below_drewN | apply below_drew1 | refine below_set ?_ GE134.out) | exact HB.out))) : w.heap.size ≤ gb135)); have n4_ := Aside0.mk ((by rw [hg]; exact (below_size (by repeat (first | (with_reducible first | exact HB.out | apply below_alloc | apply pw_below_drewN | apply below_drew1 | refine below_set ?_ GE134.out) | exact HB.out))) : w.heap.size ≤ gb135)); have n5_ := Aside0.mk ((by rw [hg]; exact Nat.ne_of_lt (blk_lt (g := gb134) (o := .cells #[.int .i64 a0_0, .int .i64 a0_1, .slice A0_2 l0_2.length c0_2] 60 (0, 0)) (by (with_reducible repeat (first | refine blk_drewN ?_ _ | refine blk_drew ?_ | refine blk_alloc ?_ _)); exact BK134.out)) : gb134 ≠ gb135)); have n6_ := Aside0.mk ((by rw [hg]; exact Nat.ne_of_gt (blk_lt (g := gb134) (o := .cells #[.int .i64 a0_0, .int .i64 a0_1, .slice A0_2 l0_2.length c0_2] 60 (0, 0)) (by (with_reducible repeat (first | refine blk_drewN ?_ _ | refine blk_drew ?_ | refine blk_alloc ?_ _)); exact BK134.out)) : gb135 ≠ gb134)); clear BK134; clear HB; have BK134 := n0_; have HB := n1_; have BK135 := n2_; have GW135 := n3_; have GE135 := n4_; have NB134_135 := n5_; have NB135_134 := n6_; clear n0_ n1_ n2_ n3_ n4_ n5_ n6_; clear hb hbox hg; have hnb18 := NB134_135.out; have hnc18 := NB135_134.out; have hcz19_0 : w17.cell? ⟨gb134, 0, none⟩ = some (.int .i64 a0_0) := (blk_cell BK134.out 0).trans rfl; have hcz19_1 : w17.cell? ⟨gb134, 1, none⟩ = some (.int .i64 a0_1) := (blk_cell BK134.out 1).trans rfl; have hcz19_2 : w17.cell? ⟨gb134, 2, none⟩ = some (.slice A0_2 l0_2.length c0_2) := (blk_cell BK134.out 2).trans rfl; have hfz19_0 := blk_frozen BK134.out 0; have hfz19_1 := blk_frozen BK134.out 1; have hfz19_2 := blk_frozen BK134.out 2; have hcz20_0 : w17.cell? ⟨gb135, 0, none⟩ = some (.int .i64 a1_0) := (blk_cell BK135.out 0).trans rfl; have hcz20_1 : w17.cell? ⟨gb135, 1, none⟩ = some (.int .i64 a1_1) := (blk_cell BK135.out 1).trans rfl; have hcz20_2 : w17.cell? ⟨gb135, 2, none⟩ = some (.slice A1_2 l1_2.length c1_2) := (blk_cell BK135.out 2).trans rfl; have hfz20_0 := blk_frozen BK135.out 0; have hfz20_1 := blk_frozen BK135.out 1; have hfz20_2 := blk_frozen BK135.out 2))
    go_ret
    exact ⟨by first | rfl | (simp [errW_none, errW_some] <;> rfl) | (simp [*, errW_none, errW_some] <;> rfl), by repeat (first | (with_reducible first | exact HB.out | apply below_alloc | apply pw_below_drewN | apply below_drew1 | refine below_set ?_ GE134.out | refine below_set ?_ GE135.out) | exact HB.out)⟩

end Go.Proofs.YtopbjginpmdebaaDoor.K
namespace Go.Proofs.YtopbjginpmdebaaDoor.K
open Go.RowKit Go.Proofs.YtopbjginpmdebaaDoorW.PrintWords Go.Proofs.YtopbjginpmdebaaDoorW.PrintLast Go.Proofs.YtopbjginpmdebaaDoorW.PrintMore
attribute [local go_sem] max2_int min2_int max_two min_two max_three min_three max_four min_four   -- for this text's walks alone
set_option linter.unusedVariables false
set_option linter.unusedSimpArgs false

/-! ### exactpplref19_Same: function 20 -/
def exactpplref19_Same.l0 : Nat → Int → List (S60) → List (S60) → Option (Bool)
  | 0, _, _, _ => none
  | k + 1, x5, x138000, x139000 => if x5 < (x138000.length : Int) then (if 0 ≤ x5 then (if x5 < (x139000.length : Int) then ((exactpplref19_SameNode.f k ((rd_T60 x138000 x5).f0) ((rd_T60 x138000 x5).f1) ((rd_T60 x138000 x5).f2) ((rd_T60 x139000 x5).f0) ((rd_T60 x139000 x5).f1) ((rd_T60 x139000 x5).f2)).bind fun t141 => (if t141 = true then (exactpplref19_Same.l0 k (wrap64 (x5 + 1)) x138000 x139000) else (some false))) else (none)) else (none)) else (some true)
def exactpplref19_Same.f (k : Nat) (l0_0 : List (S60)) (l1_0 : List (S60)) : Option (Bool) := if (l0_0.length : Int) = (l1_0.length : Int) then (exactpplref19_Same.l0 k 0 l0_0 l1_0) else (some false)
theorem exactpplref19_Same.mono_l : ∀ k, (∀ y0 y1 y2, LeO (exactpplref19_Same.l0 k y0 y1 y2) (exactpplref19_Same.l0 (k + 1) y0 y1 y2))
  | 0 => fun _ _ _ r h => by simp [exactpplref19_Same.l0] at h
  | k + 1 => by
    have ih0 := exactpplref19_Same.mono_l k
    · intro y0 y1 y2
      unfold exactpplref19_Same.l0
      repeat' first
      | (with_reducible exact ih0 _ _ _)
      | (with_reducible exact exactpplref19_SameNode.mono _ _ _ _ _ _ _)
      | (with_reducible exact LeO.refl _)
      | (with_reducible exact LeO.none _)
      | (with_reducible refine LeO.ite ?_ ?_)
      | (with_reducible refine LeO.bind ?_ (fun _ => ?_))
      | exact ih0 _ _ _
      | exact exactpplref19_SameNode.mono _ _ _ _ _ _ _
      | exact LeO.none _
      | refine LeO.ite ?_ ?_
      | refine LeO.bind ?_ (fun _ => ?_)
theorem exactpplref19_Same.mono : ∀ a0 a1 k, LeO (exactpplref19_Same.f k a0 a1) (exactpplref19_Same.f (k + 1) a0 a1) := by
  intro a0 a1 k
  have ih0 := exactpplref19_Same.mono_l k
  unfold exactpplref19_Same.f
  repeat' first
      | (with_reducible exact ih0 _ _ _)
      | (with_reducible exact exactpplref19_SameNode.mono _ _ _ _ _ _ _)
      | (with_reducible exact LeO.refl _)
      | (with_reducible exact LeO.none _)
      | (with_reducible refine LeO.ite ?_ ?_)
      | (with_reducible refine LeO.bind ?_ (fun _ => ?_))
      | exact ih0 _ _ _
      | exact exactpplref19_SameNode.mono _ _ _ _ _ _ _
      | exact LeO.none _
      | refine LeO.ite ?_ ?_
      | refine LeO.bind ?_ (fun _ => ?_)
def exactpplref19_Same.T6 : Bool × List (List Nat × List Nat) := (true, [([], []), ([0], [0]), ([], []), ([1, 2], [1, 2]), ([3], [3]), ([], []), ([5], [5]), ([], []), ([6, 7], [6, 7]), ([8], [8]), ([4, 9], [4, 9]), ([10], [10])])
def exactpplref19_Same.B6 : List Nat := [0, 1, 0, 7, 15, 0, 32, 0, 224, 480, 1023, 2047]
theorem exactpplref19_Same.tab6 : rtab .any (opsOf Tryd.f20 6) = exactpplref19_Same.T6 := by kernel_rfl
theorem exactpplref19_Same.bits6 : waitsOk exactpplref19_Same.T6.2 exactpplref19_Same.B6 = true := by kernel_rfl
set_option maxHeartbeats 8000000 in
set_option maxRecDepth 100000 in
theorem exactpplref19_Same.calls (k : Nat) (A0_0 : Option Addr) (c0_0 : Nat) (l0_0 : List (S60)) (A1_0 : Option Addr) (c1_0 : Nat) (l1_0 : List (S60)) (r : Bool) (w : World) (hr0_0 : Kd.C k60 w A0_0 l0_0.length l0_0) (hc0_0 : l0_0.length ≤ c0_0) (hr1_0 : Kd.C k60 w A1_0 l1_0.length l1_0) (hc1_0 : l1_0.length ≤ c1_0) (h : exactpplref19_Same.f k l0_0 l1_0 = some r) :
    Calls Tryd.prog 20 #[.agg #[.slice A0_0 l0_0.length c0_0], .agg #[.slice A1_0 l1_0.length c1_0]] w fun e w' => e = .returned (.bool r) ∧ Below w.heap.size w w' := by
  have hu31 := Tryd.underlying31
  have hu60 := Tryd.underlying60
  have HR0_0 := Aside0.mk hr0_0
  have HC0_0 := Aside0.mk hc0_0
  clear hr0_0 hc0_0
  have HR1_0 := Aside0.mk hr1_0
  have HC1_0 := Aside0.mk hc1_0
  clear hr1_0 hc1_0
  have HB := Aside0.mk (Below.refl w.heap.size w)
  have H : (if (l0_0.length : Int) = (l1_0.length : Int) then (exactpplref19_Same.l0 k 0 l0_0 l1_0) else (some false)) = some r := h
  clear h
  by_cases c3 : (l0_0.length : Int) = (l1_0.length : Int)
  · rw [if_pos c3] at H
    have c3b0 : ((l0_0.length : Int) == (l1_0.length : Int)) = true := beq_iff_eq.mpr c3
    have c3b1 : ((l0_0.length : Int) != (l1_0.length : Int)) = false := bne_eq_false_iff_eq.mpr c3
    have c3b2 : (l0_0.length == l1_0.length) = true := by first | simpa using c3 | (simp at c3 ⊢; omega)
    clear c3
    have H' := Aside0.mk H
    clear H
    go_enter Tryd.func20, Tryd.ntmps20
    go_wp2_with (first | ((with_reducible refine gate_dst (N := 2) rfl ?_); refine box_event ?hg (N := 2) ?hd (cs := #[.slice A0_0 l0_0.length c0_0]) (t := 31) ?hr ?_; (case hd => rfl); (case hg => rfl); (case hr => first | (go_simp; done) | (go_simp; rfl)); intro gb137 hg w4 hbox hb; have n0_ := Aside0.mk (below_step (by repeat (first | (with_reducible first | exact HB.out | apply below_alloc | apply pw_below_drewN | apply below_drew1) | exact HB.out)) hb); have n1_ := Aside0.mk (hbox); have n2_ := Aside0.mk ((by rw [hg]; exact (below_size (by repeat (first | (with_reducible first | exact HB.out | apply below_alloc | apply pw_below_drewN | apply below_drew1) | exact HB.out))) : w.heap.size ≤ gb137)); have n3_ := Aside0.mk ((by rw [hg]; exact (below_size (by repeat (first | (with_reducible first | exact HB.out | apply below_alloc | apply pw_below_drewN | apply below_drew1) | exact HB.out))) : w.heap.size ≤ gb137)); clear HB; have HB := n0_; have BK137 := n1_; have GW137 := n2_; have GE137 := n3_; clear n0_ n1_ n2_ n3_; clear hb hbox hg) | ((with_reducible refine gate_dst (N := 3) rfl ?_); refine box_event ?hg (N := 3) ?hd (cs := #[.slice A1_0 l1_0.length c1_0]) (t := 31) ?hr ?_; (case hd => rfl); (case hg => rfl); (case hr => first | (go_simp; done) | (go_simp; rfl)); intro gb138 hg w5 hbox hb; have n0_ := Aside0.mk (blk_below (g := gb137) (o := .cells #[.slice A0_0 l0_0.length c0_0] 31 (0, 0)) (by (with_reducible repeat (first | refine blk_drewN ?_ _ | refine blk_drew ?_ | refine blk_alloc ?_ _)); exact BK137.out) hb); have n1_ := Aside0.mk (below_step (by repeat (first | (with_reducible first | exact HB.out | apply below_alloc | apply pw_below_drewN | apply below_drew1 | refine below_set ?_ GE137.out) | exact HB.out)) hb); have n2_ := Aside0.mk (hbox); have n3_ := Aside0.mk ((by rw [hg]; exact (below_size (by repeat (first | (with_reducible first | exact HB.out | apply below_alloc | apply pw_below_drewN | apply below_drew1 | refine below_set ?_ GE137.out) | exact HB.out))) : w.heap.size ≤ gb138)); have n4_ := Aside0.mk ((by rw [hg]; exact (below_size (by repeat (first | (with_reducible first | exact HB.out | apply below_alloc | apply pw_below_drewN | apply below_drew1 | refine below_set ?_ GE137.out) | exact HB.out))) : w.heap.size ≤ gb138)); have n5_ := Aside0.mk ((by rw [hg]; exact Nat.ne_of_lt (blk_lt (g := gb137) (o := .cells #[.slice A0_0 l0_0.length c0_0] 31 (0, 0)) (by (with_reducible repeat (first | refine blk_drewN ?_ _ | refine blk_drew ?_ | refine blk_alloc ?_ _)); exact BK137.out)) : gb137 ≠ gb138)); have n6_ := Aside0.mk ((by rw [hg]; exact Nat.ne_of_gt (blk_lt (g := gb137) (o := .cells #[.slice A0_0 l0_0.length c0_0] 31 (0, 0)) (by (with_reducible repeat (first | refine blk_drewN ?_ _ | refine blk_drew ?_ | refine blk_alloc ?_ _)); exact BK137.out)) : gb138 ≠ gb137)); clear BK137; clear HB; have BK137 := n0_; have HB := n1_; have BK138 := n2_; have GW138 := n3_; have GE138 := n4_; have NB137_138 := n5_; have NB138_137 := n6_; clear n0_ n1_ n2_ n3_ n4_ n5_ n6_; clear hb hbox hg; have hnb6 := NB137_138.out; have hnc6 := NB138_137.out; have hcz7_0 : w5.cell? ⟨gb137, 0, none⟩ = some (.slice A0_0 l0_0.length c0_0) := (blk_cell BK137.out 0).trans rfl; have hfz7_0 := blk_frozen BK137.out 0; have hcz8_0 : w5.cell? ⟨gb138, 0, none⟩ = some (.slice A1_0 l1_0.length c1_0) := (blk_cell BK138.out 0).trans rfl; have hfz8_0 := blk_frozen BK138.out 0))
    go_loopg [5] k (fun kq v5 w' => ∃ (x5_1 : Int), v5 = .int .i64 x5_1 ∧ Aside0 (exactpplref19_Same.l0 kq x5_1 l0_0 l1_0 = some r) ∧ Aside0 (kq ≤ k) ∧ Aside0 (w'.heap[gb137]? = some (.cells #[(.slice A0_0 l0_0.length c0_0)] 31 (0, 0))) ∧ Aside0 (w'.heap[gb138]? = some (.cells #[(.slice A1_0 l1_0.length c1_0)] 31 (0, 0))) ∧ Aside0 (Below w.heap.size w w'))
    case atStart => exact ⟨(0), (by first | rfl | (simp; done) | (simp [*]; done)), H', ⟨Nat.le_refl _⟩, ⟨by (with_reducible repeat (first | refine blk_drewN ?_ _ | refine blk_drew ?_ | refine blk_alloc ?_ _)); exact BK137.out⟩, ⟨by (with_reducible repeat (first | refine blk_drewN ?_ _ | refine blk_drew ?_ | refine blk_alloc ?_ _)); exact BK138.out⟩, ⟨by repeat (first | (with_reducible first | exact HB.out | apply below_alloc | apply pw_below_drewN | apply below_drew1 | refine below_set ?_ GE137.out | refine below_set ?_ GE138.out) | exact HB.out)⟩⟩
    case round =>
      clear H'
      try clear c1
      try clear c2
      try clear p2
      try clear c3
      try clear c3b0
      try clear c3b1
      try clear c3b2
      try clear c6
      try clear hcz7_0
      try clear hcz8_0
      try clear hfz7_0
      try clear hfz8_0
      obtain ⟨x5_1, rfl, HA, HK1, BK137, BK138, HB⟩ := hrel
      cases gk with
      | zero => exact absurd HA.out (by simp [exactpplref19_Same.l0])
      | succ k1 =>
        have H := HA.out
        clear HA
        simp only [exactpplref19_Same.l0] at H
        by_cases c9 : x5_1 < (l0_0.length : Int)
        · rw [if_pos c9] at H
          have c9b0 : decide (x5_1 < (l0_0.length : Int)) = true := decide_eq_true c9
          clear c9
          by_cases c10 : 0 ≤ x5_1
          · rw [if_pos c10] at H
            have c10b0 : decide (0 ≤ x5_1) = true := decide_eq_true c10
            clear c10
            by_cases c11 : x5_1 < (l1_0.length : Int)
            · rw [if_pos c11] at H
              have c11b0 : decide (x5_1 < (l1_0.length : Int)) = true := decide_eq_true c11
              clear c11
              replace H := Option.bind_eq_some_iff.mp H
              obtain ⟨t141, A120, H⟩ := H
              replace H : (if t141 = true then (exactpplref19_Same.l0 k1 (wrap64 (x5_1 + 1)) l0_0 l1_0) else (some false)) = some r := H
              have A12 := Aside0.mk A120
              clear A120
              by_cases c13 : t141 = true
              · subst c13
                have H1 : (exactpplref19_Same.l0 k1 (wrap64 (x5_1 + 1)) l0_0 l1_0) = some r := by rw [if_pos rfl] at H; exact H
                clear H
                have H := H1
                clear H1
                have H' := Aside0.mk H
                clear H
                have hnb14 := NB137_138.out
                have hnc14 := NB138_137.out
                have hcz15_0 : wr.cell? ⟨gb137, 0, none⟩ = some (.slice A0_0 l0_0.length c0_0) := (blk_cell BK137.out 0).trans rfl
                have hfz15_0 := blk_frozen BK137.out 0
                try go_wp2
                have n0_ := Aside0.mk (blk_drew BK137.out)
                have n1_ := Aside0.mk (blk_drew BK138.out)
                have n2_ := Aside0.mk (below_drew1 HB.out)
                clear BK137
                clear BK138
                clear HB
                have BK137 := n0_
                have BK138 := n1_
                have HB := n2_
                clear n0_ n1_ n2_
                have p139 : 0 ≤ (x5_1 : Int) := of_decide_eq_true (by first | (with_reducible assumption) | assumption)
                have q139 : x5_1 < (l0_0.length : Int) := of_decide_eq_true (by first | (with_reducible assumption) | assumption)
                obtain ⟨ad139, A139_2, c139_2, e139, hx139_0, hx139_1, hx139_2, hl139_2, hi139_2⟩ := at_T60 HR0_0.out x5_1 p139 q139
                have hw139_2 := hx139_2
                have hw139_1 := hx139_1
                have hw139_0 := hx139_0
                cases e139
                replace hx139_0 := (HB.out.cell (World.block_lt_of_cell? w _ hx139_0)).trans hx139_0
                replace hx139_1 := (HB.out.cell (World.block_lt_of_cell? w _ hx139_1)).trans hx139_1
                replace hx139_2 := (HB.out.cell (World.block_lt_of_cell? w _ hx139_2)).trans hx139_2
                have HR139_2 := Aside0.mk hi139_2
                have HC139_2 := Aside0.mk hl139_2
                clear hi139_2 hl139_2
                replace p139 := eq_true p139
                replace q139 := eq_true q139
                have p140 : 0 ≤ (x5_1 : Int) := of_decide_eq_true (by first | (with_reducible assumption) | assumption)
                have q140 : x5_1 < (l1_0.length : Int) := of_decide_eq_true (by first | (with_reducible assumption) | assumption)
                obtain ⟨ad140, A140_2, c140_2, e140, hx140_0, hx140_1, hx140_2, hl140_2, hi140_2⟩ := at_T60 HR1_0.out x5_1 p140 q140
                have hw140_2 := hx140_2
                have hw140_1 := hx140_1
                have hw140_0 := hx140_0
                cases e140
                replace hx140_0 := (HB.out.cell (World.block_lt_of_cell? w _ hx140_0)).trans hx140_0
                replace hx140_1 := (HB.out.cell (World.block_lt_of_cell? w _ hx140_1)).trans hx140_1
                replace hx140_2 := (HB.out.cell (World.block_lt_of_cell? w _ hx140_2)).trans hx140_2
                have HR140_2 := Aside0.mk hi140_2
                have HC140_2 := Aside0.mk hl140_2
                clear hi140_2 hl140_2
                replace p140 := eq_true p140
                replace q140 := eq_true q140
                refine start_ (n := 12) (S := fun w' => w'.cell? ⟨gb137, 0, none⟩ = some (.slice (some ad139) l0_0.length c0_0) ∧ w'.cell? ⟨gb138, 0, none⟩ = some (.slice (some ad140) l1_0.length c1_0) ∧ w'.cell? (ad139.add ((x5_1).toNat * 3)) = some (.int .i64 ((rd_T60 l0_0 x5_1).f0)) ∧ w'.cell? ⟨(ad139.add ((x5_1).toNat * 3)).block, (ad139.add ((x5_1).toNat * 3)).off + 1, none⟩ = some (.int .i64 ((rd_T60 l0_0 x5_1).f1)) ∧ w'.cell? ⟨(ad139.add ((x5_1).toNat * 3)).block, (ad139.add ((x5_1).toNat * 3)).off + 2, none⟩ = some (.slice A139_2 ((rd_T60 l0_0 x5_1).f2).length c139_2) ∧ w'.cell? (ad140.add ((x5_1).toNat * 3)) = some (.int .i64 ((rd_T60 l1_0 x5_1).f0)) ∧ w'.cell? ⟨(ad140.add ((x5_1).toNat * 3)).block, (ad140.add ((x5_1).toNat * 3)).off + 1, none⟩ = some (.int .i64 ((rd_T60 l1_0 x5_1).f1)) ∧ w'.cell? ⟨(ad140.add ((x5_1).toNat * 3)).block, (ad140.add ((x5_1).toNat * 3)).off + 2, none⟩ = some (.slice A140_2 ((rd_T60 l1_0 x5_1).f2).length c140_2)) (ds := []) #[false, false, false, false, false, false, false, false, false, false, false, false] (by kernel_rfl) rfl rfl ⟨(blk_cell BK137.out 0).trans rfl, (blk_cell BK138.out 0).trans rfl, ((HB.out.cell (World.block_lt_of_cell? w _ hw139_0)).trans hw139_0), ((HB.out.cell (World.block_lt_of_cell? w _ hw139_1)).trans hw139_1), ((HB.out.cell (World.block_lt_of_cell? w _ hw139_2)).trans hw139_2), ((HB.out.cell (World.block_lt_of_cell? w _ hw140_0)).trans hw140_0), ((HB.out.cell (World.block_lt_of_cell? w _ hw140_1)).trans hw140_1), ((HB.out.cell (World.block_lt_of_cell? w _ hw140_2)).trans hw140_2)⟩ (fun hHeld => ?_); refine with_tabW exactpplref19_Same.tab6 exactpplref19_Same.bits6 (fun HT_ HW_ => ?_)
                generalize wr.drew = w16 at BK137 BK138 HB HR139_2 HR140_2 hx139_0 hx139_1 hx139_2 hx140_0 hx140_1 hx140_2 hHeld ⊢
                refine pure_ (i := 0) (N := some 20) (v := ?_) (a' := ?_) #[true, false, false, false, false, false, false, false, false, false, false, false] rfl rfl (any_of HT_.out (by kernel_rfl)) (fun _ _ _ h => h) (Or.inl ⟨by rfl, ?_⟩) ?_ ?_
                rotate_left
                · intro w'
                  go_simp
                  with_reducible rfl
                rotate_left
                · simp only [Act.put, List.setIfInBounds_toArray, List.set_cons_zero, List.set_cons_succ, i64_w, i32_w]
                  rfl
                refine pure_ (i := 2) (N := some 22) (v := ?_) (a' := ?_) #[true, false, true, false, false, false, false, false, false, false, false, false] rfl rfl (any_of HT_.out (by kernel_rfl)) (fun _ _ _ h => h) (Or.inl ⟨by rfl, ?_⟩) ?_ ?_
                rotate_left
                · intro w'
                  go_simp
                  with_reducible rfl
                rotate_left
                · simp only [Act.put, List.setIfInBounds_toArray, List.set_cons_zero, List.set_cons_succ, i64_w, i32_w]
                  rfl
                refine pure_ (i := 5) (N := some 25) (v := ?_) (a' := ?_) #[true, false, true, false, false, true, false, false, false, false, false, false] rfl rfl (any_of HT_.out (by kernel_rfl)) (fun _ _ _ h => h) (Or.inl ⟨by rfl, ?_⟩) ?_ ?_
                rotate_left
                · intro w'
                  go_simp
                  with_reducible rfl
                rotate_left
                · simp only [Act.put, List.setIfInBounds_toArray, List.set_cons_zero, List.set_cons_succ, i64_w, i32_w]
                  rfl
                refine pure_ (i := 7) (N := some 27) (v := ?_) (a' := ?_) #[true, false, true, false, false, true, false, true, false, false, false, false] rfl rfl (any_of HT_.out (by kernel_rfl)) (fun _ _ _ h => h) (Or.inl ⟨by rfl, ?_⟩) ?_ ?_
                rotate_left
                · intro w'
                  go_simp
                  with_reducible rfl
                rotate_left
                · simp only [Act.put, List.setIfInBounds_toArray, List.set_cons_zero, List.set_cons_succ, i64_w, i32_w]
                  rfl
                refine take_ (i := 1) (N := some 21) (v := ?_) (a' := ?_) #[true, true, true, false, false, true, false, true, false, false, false, false] rfl rfl (take_ofW HT_.out HW_.out (by kernel_rfl)) (fun _ _ _ h => h) (Or.inl ⟨by rfl, ?_⟩) hHeld ?_ ?_
                rotate_left
                · rintro w' ⟨s0, s1, s2, s3, s4, s5, s6, s7⟩
                  go_simp
                  with_reducible rfl
                rotate_left
                · simp only [Act.put, List.setIfInBounds_toArray, List.set_cons_zero, List.set_cons_succ, i64_w, i32_w]
                  rfl
                refine pure_ (i := 3) (N := some 23) (v := ?_) (a' := ?_) #[true, true, true, true, false, true, false, true, false, false, false, false] rfl rfl (any_of HT_.out (by kernel_rfl)) (fun _ _ _ h => h) (Or.inl ⟨by rfl, ?_⟩) ?_ ?_
                rotate_left
                · intro w'
                  go_simp
                  with_reducible rfl
                rotate_left
                · simp only [Act.put, List.setIfInBounds_toArray, List.set_cons_zero, List.set_cons_succ, i64_w, i32_w]
                  rfl
                refine take_ (i := 4) (N := some 24) (v := ?_) (a' := ?_) #[true, true, true, true, true, true, false, true, false, false, false, false] rfl rfl (take_ofW HT_.out HW_.out (by kernel_rfl)) (fun _ _ _ h => h) (Or.inl ⟨by rfl, ?_⟩) hHeld ?_ ?_
                rotate_left
                · rintro w' ⟨s0, s1, s2, s3, s4, s5, s6, s7⟩
                  go_simp
                  with_reducible rfl
                rotate_left
                · simp only [Act.put, List.setIfInBounds_toArray, List.set_cons_zero, List.set_cons_succ, i64_w, i32_w]
                  rfl
                refine take_ (i := 6) (N := some 26) (v := ?_) (a' := ?_) #[true, true, true, true, true, true, true, true, false, false, false, false] rfl rfl (take_ofW HT_.out HW_.out (by kernel_rfl)) (fun _ _ _ h => h) (Or.inl ⟨by rfl, ?_⟩) hHeld ?_ ?_
                rotate_left
                · rintro w' ⟨s0, s1, s2, s3, s4, s5, s6, s7⟩
                  go_simp
                  with_reducible rfl
                rotate_left
                · simp only [Act.put, List.setIfInBounds_toArray, List.set_cons_zero, List.set_cons_succ, i64_w, i32_w]
                  rfl
                refine pure_ (i := 8) (N := some 28) (v := ?_) (a' := ?_) #[true, true, true, true, true, true, true, true, true, false, false, false] rfl rfl (any_of HT_.out (by kernel_rfl)) (fun _ _ _ h => h) (Or.inl ⟨by rfl, ?_⟩) ?_ ?_
                rotate_left
                · intro w'
                  go_simp
                  with_reducible rfl
                rotate_left
                · simp only [Act.put, List.setIfInBounds_toArray, List.set_cons_zero, List.set_cons_succ, i64_w, i32_w]
                  rfl
                refine take_ (i := 9) (N := some 29) (v := ?_) (a' := ?_) #[true, true, true, true, true, true, true, true, true, true, false, false] rfl rfl (take_ofW HT_.out HW_.out (by kernel_rfl)) (fun _ _ _ h => h) (Or.inl ⟨by rfl, ?_⟩) hHeld ?_ ?_
                rotate_left
                · rintro w' ⟨s0, s1, s2, s3, s4, s5, s6, s7⟩
                  go_simp
                  with_reducible rfl
                rotate_left
                · simp only [Act.put, List.setIfInBounds_toArray, List.set_cons_zero, List.set_cons_succ, i64_w, i32_w]
                  rfl
                refine one_ (i := 10) (N := some 30) #[true, true, true, true, true, true, true, true, true, true, true, false] rfl rfl (one_of HT_.out (by kernel_rfl)) (by decide) (fun K hK => ?_)
                refine goes_ Tryd.func49 (by kernel_rfl) rfl #[.agg #[.int .i64 ((rd_T60 l0_0 x5_1).f0), .int .i64 ((rd_T60 l0_0 x5_1).f1), .slice A139_2 ((rd_T60 l0_0 x5_1).f2).length c139_2], .agg #[.int .i64 ((rd_T60 l1_0 x5_1).f0), .int .i64 ((rd_T60 l1_0 x5_1).f1), .slice A140_2 ((rd_T60 l1_0 x5_1).f2).length c140_2]] (by rfl) rfl rfl (by (try simp only [List.map_toArray, List.map_cons, List.map_nil]); first | done | rfl | (simp only [List.length_drop, List.length_take]; rfl)) ?_
                with_reducible refine (exactpplref19_SameNode.calls k1 ((rd_T60 l0_0 x5_1).f0) ((rd_T60 l0_0 x5_1).f1) _ _ ((rd_T60 l0_0 x5_1).f2) ((rd_T60 l1_0 x5_1).f0) ((rd_T60 l1_0 x5_1).f1) _ _ ((rd_T60 l1_0 x5_1).f2) true _ ?side1 ?side2 ?side3 ?side4 A12.out).mono ?_
                (case side1 => repeat (first | exact (Kd.C_below HR139_2.out HB.out) | (with_reducible refine Kd.C_alloc ?_ _) | (with_reducible refine Kd.C_drewN ?_ _) | (with_reducible refine Kd.C_drew ?_)))
                (case side2 => exact HC139_2.out)
                (case side3 => repeat (first | exact (Kd.C_below HR140_2.out HB.out) | (with_reducible refine Kd.C_alloc ?_ _) | (with_reducible refine Kd.C_drewN ?_ _) | (with_reducible refine Kd.C_drew ?_)))
                (case side4 => exact HC140_2.out)
                rintro e w17 ⟨rfl, hb⟩
                refine ⟨_, rfl, ?_⟩
                have n0_ := Aside0.mk (blk_below (g := gb137) (o := .cells #[.slice (some ad139) l0_0.length c0_0] 31 (0, 0)) (by (with_reducible repeat (first | refine blk_drewN ?_ _ | refine blk_drew ?_ | refine blk_alloc ?_ _)); exact BK137.out) hb)
                have n1_ := Aside0.mk (blk_below (g := gb138) (o := .cells #[.slice (some ad140) l1_0.length c1_0] 31 (0, 0)) (by (with_reducible repeat (first | refine blk_drewN ?_ _ | refine blk_drew ?_ | refine blk_alloc ?_ _)); exact BK138.out) hb)
                have n2_ := Aside0.mk (below_step (by repeat (first | (with_reducible first | exact HB.out | apply below_alloc | apply pw_below_drewN | apply below_drew1 | refine below_set ?_ GE137.out | refine below_set ?_ GE138.out) | exact HB.out)) hb)
                clear BK137
                clear BK138
                clear HB
                have BK137 := n0_
                have BK138 := n1_
                have HB := n2_
                clear n0_ n1_ n2_
                (try clear hb)
                (try clear hb2)
                (try clear hk)
                (try clear hi)
                refine hK.out _ _ ⟨(blk_cell BK137.out 0).trans rfl, (blk_cell BK138.out 0).trans rfl, ((HB.out.cell (World.block_lt_of_cell? w _ hw139_0)).trans hw139_0), ((HB.out.cell (World.block_lt_of_cell? w _ hw139_1)).trans hw139_1), ((HB.out.cell (World.block_lt_of_cell? w _ hw139_2)).trans hw139_2), ((HB.out.cell (World.block_lt_of_cell? w _ hw140_0)).trans hw140_0), ((HB.out.cell (World.block_lt_of_cell? w _ hw140_1)).trans hw140_1), ((HB.out.cell (World.block_lt_of_cell? w _ hw140_2)).trans hw140_2)⟩ (fun hHeld => ?_)
                clear hK K
                refine norm_ (a' := ?_) ?_ ?_
                rotate_left
                · show Act.put _ (some 30) _ = _
                  simp only [Act.put, List.setIfInBounds_toArray, List.set_cons_zero, List.set_cons_succ, i64_w, i32_w]
                  rfl
                refine pure_ (i := 11) (N := some 31) (v := ?_) (a' := ?_) #[true, true, true, true, true, true, true, true, true, true, true, true] rfl rfl (any_of HT_.out (by kernel_rfl)) (fun _ _ _ h => h) (Or.inl ⟨by rfl, ?_⟩) ?_ ?_
                rotate_left
                · intro w'
                  go_simp
                  with_reducible rfl
                rotate_left
                · simp only [Act.put, List.setIfInBounds_toArray, List.set_cons_zero, List.set_cons_succ, i64_w, i32_w]
                  rfl
                refine done_ (done_of HT_.out (by kernel_rfl)) ?_
                try go_wp2
                go_roundg k1
                case measure => have := HK1.out; omega
                case rel => exact ⟨(wrap64 (x5_1 + 1)), (by first | rfl | (simp; done) | (simp [*]; done)), H', ⟨by have := HK1.out; omega⟩, ⟨by (with_reducible repeat (first | refine blk_drewN ?_ _ | refine blk_drew ?_ | refine blk_alloc ?_ _)); exact BK137.out⟩, ⟨by (with_reducible repeat (first | refine blk_drewN ?_ _ | refine blk_drew ?_ | refine blk_alloc ?_ _)); exact BK138.out⟩, ⟨by repeat (first | (with_reducible first | exact HB.out | apply below_alloc | apply pw_below_drewN | apply below_drew1 | refine below_set ?_ GE137.out | refine below_set ?_ GE138.out) | exact HB.out)⟩⟩
              · replace c13 := Bool.eq_false_iff.mpr c13
                subst c13
                have H1 : (some false) = some r := by rw [if_neg (show ¬ (false = true) by decide)] at H; exact H
                clear H
                have H := H1
                clear H1
                obtain rfl := Option.some.inj H
                have hnb18 := NB137_138.out
                have hnc18 := NB138_137.out
                have hcz19_0 : wr.cell? ⟨gb137, 0, none⟩ = some (.slice A0_0 l0_0.length c0_0) := (blk_cell BK137.out 0).trans rfl
                have hfz19_0 := blk_frozen BK137.out 0
                try go_wp2
                have n0_ := Aside0.mk (blk_drew BK137.out)
                have n1_ := Aside0.mk (blk_drew BK138.out)
                have n2_ := Aside0.mk (below_drew1 HB.out)
                clear BK137
                clear BK138
                clear HB
                have BK137 := n0_
                have BK138 := n1_
                have HB := n2_
                clear n0_ n1_ n2_
                have p139 : 0 ≤ (x5_1 : Int) := of_decide_eq_true (by first | (with_reducible assumption) | assumption)
                have q139 : x5_1 < (l0_0.length : Int) := of_decide_eq_true (by first | (with_reducible assumption) | assumption)
                obtain ⟨ad139, A139_2, c139_2, e139, hx139_0, hx139_1, hx139_2, hl139_2, hi139_2⟩ := at_T60 HR0_0.out x5_1 p139 q139
                have hw139_2 := hx139_2
                have hw139_1 := hx139_1
                have hw139_0 := hx139_0
                cases e139
                replace hx139_0 := (HB.out.cell (World.block_lt_of_cell? w _ hx139_0)).trans hx139_0
                replace hx139_1 := (HB.out.cell (World.block_lt_of_cell? w _ hx139_1)).trans hx139_1
                replace hx139_2 := (HB.out.cell (World.block_lt_of_cell? w _ hx139_2)).trans hx139_2
                have HR139_2 := Aside0.mk hi139_2
                have HC139_2 := Aside0.mk hl139_2
                clear hi139_2 hl139_2
                replace p139 := eq_true p139
                replace q139 := eq_true q139
                have p140 : 0 ≤ (x5_1 : Int) := of_decide_eq_true (by first | (with_reducible assumption) | assumption)
                have q140 : x5_1 < (l1_0.length : Int) := of_decide_eq_true (by first | (with_reducible assumption) | assumption)
                obtain ⟨ad140, A140_2, c140_2, e140, hx140_0, hx140_1, hx140_2, hl140_2, hi140_2⟩ := at_T60 HR1_0.out x5_1 p140 q140
                have hw140_2 := hx140_2
                have hw140_1 := hx140_1
                have hw140_0 := hx140_0
                cases e140
                replace hx140_0 := (HB.out.cell (World.block_lt_of_cell? w _ hx140_0)).trans hx140_0
                replace hx140_1 := (HB.out.cell (World.block_lt_of_cell? w _ hx140_1)).trans hx140_1
                replace hx140_2 := (HB.out.cell (World.block_lt_of_cell? w _ hx140_2)).trans hx140_2
                have HR140_2 := Aside0.mk hi140_2
                have HC140_2 := Aside0.mk hl140_2
                clear hi140_2 hl140_2
                replace p140 := eq_true p140
                replace q140 := eq_true q140
                refine start_ (n := 12) (S := fun w' => w'.cell? ⟨gb137, 0, none⟩ = some (.slice (some ad139) l0_0.length c0_0) ∧ w'.cell? ⟨gb138, 0, none⟩ = some (.slice (some ad140) l1_0.length c1_0) ∧ w'.cell? (ad139.add ((x5_1).toNat * 3)) = some (.int .i64 ((rd_T60 l0_0 x5_1).f0)) ∧ w'.cell? ⟨(ad139.add ((x5_1).toNat * 3)).block, (ad139.add ((x5_1).toNat * 3)).off + 1, none⟩ = some (.int .i64 ((rd_T60 l0_0 x5_1).f1)) ∧ w'.cell? ⟨(ad139.add ((x5_1).toNat * 3)).block, (ad139.add ((x5_1).toNat * 3)).off + 2, none⟩ = some (.slice A139_2 ((rd_T60 l0_0 x5_1).f2).length c139_2) ∧ w'.cell? (ad140.add ((x5_1).toNat * 3)) = some (.int .i64 ((rd_T60 l1_0 x5_1).f0)) ∧ w'.cell? ⟨(ad140.add ((x5_1).toNat * 3)).block, (ad140.add ((x5_1).toNat * 3)).off + 1, none⟩ = some (.int .i64 ((rd_T60 l1_0 x5_1).f1)) ∧ w'.cell? ⟨(ad140.add ((x5_1).toNat * 3)).block, (ad140.add ((x5_1).toNat * 3)).off + 2, none⟩ = some (.slice A140_2 ((rd_T60 l1_0 x5_1).f2).length c140_2)) (ds := []) #[false, false, false, false, false, false, false, false, false, false, false, false] (by kernel_rfl) rfl rfl ⟨(blk_cell BK137.out 0).trans rfl, (blk_cell BK138.out 0).trans rfl, ((HB.out.cell (World.block_lt_of_cell? w _ hw139_0)).trans hw139_0), ((HB.out.cell (World.block_lt_of_cell? w _ hw139_1)).trans hw139_1), ((HB.out.cell (World.block_lt_of_cell? w _ hw139_2)).trans hw139_2), ((HB.out.cell (World.block_lt_of_cell? w _ hw140_0)).trans hw140_0), ((HB.out.cell (World.block_lt_of_cell? w _ hw140_1)).trans hw140_1), ((HB.out.cell (World.block_lt_of_cell? w _ hw140_2)).trans hw140_2)⟩ (fun hHeld => ?_); refine with_tabW exactpplref19_Same.tab6 exactpplref19_Same.bits6 (fun HT_ HW_ => ?_)
                generalize wr.drew = w20 at BK137 BK138 HB HR139_2 HR140_2 hx139_0 hx139_1 hx139_2 hx140_0 hx140_1 hx140_2 hHeld ⊢
                refine pure_ (i := 0) (N := some 20) (v := ?_) (a' := ?_) #[true, false, false, false, false, false, false, false, false, false, false, false] rfl rfl (any_of HT_.out (by kernel_rfl)) (fun _ _ _ h => h) (Or.inl ⟨by rfl, ?_⟩) ?_ ?_
                rotate_left
                · intro w'
                  go_simp
                  with_reducible rfl
                rotate_left
                · simp only [Act.put, List.setIfInBounds_toArray, List.set_cons_zero, List.set_cons_succ, i64_w, i32_w]
                  rfl
                refine pure_ (i := 2) (N := some 22) (v := ?_) (a' := ?_) #[true, false, true, false, false, false, false, false, false, false, false, false] rfl rfl (any_of HT_.out (by kernel_rfl)) (fun _ _ _ h => h) (Or.inl ⟨by rfl, ?_⟩) ?_ ?_
                rotate_left
                · intro w'
                  go_simp
                  with_reducible rfl
                rotate_left
                · simp only [Act.put, List.setIfInBounds_toArray, List.set_cons_zero, List.set_cons_succ, i64_w, i32_w]
                  rfl
                refine pure_ (i := 5) (N := some 25) (v := ?_) (a' := ?_) #[true, false, true, false, false, true, false, false, false, false, false, false] rfl rfl (any_of HT_.out (by kernel_rfl)) (fun _ _ _ h => h) (Or.inl ⟨by rfl, ?_⟩) ?_ ?_
                rotate_left
                · intro w'
                  go_simp
                  with_reducible rfl
                rotate_left
                · simp only [Act.put, List.setIfInBounds_toArray, List.set_cons_zero, List.set_cons_succ, i64_w, i32_w]
                  rfl
                refine pure_ (i := 7) (N := some 27) (v := ?_) (a' := ?_) #[true, false, true, false, false, true, false, true, false, false, false, false] rfl rfl (any_of HT_.out (by kernel_rfl)) (fun _ _ _ h => h) (Or.inl ⟨by rfl, ?_⟩) ?_ ?_
                rotate_left
                · intro w'
                  go_simp
                  with_reducible rfl
                rotate_left
                · simp only [Act.put, List.setIfInBounds_toArray, List.set_cons_zero, List.set_cons_succ, i64_w, i32_w]
                  rfl
                refine take_ (i := 1) (N := some 21) (v := ?_) (a' := ?_) #[true, true, true, false, false, true, false, true, false, false, false, false] rfl rfl (take_ofW HT_.out HW_.out (by kernel_rfl)) (fun _ _ _ h => h) (Or.inl ⟨by rfl, ?_⟩) hHeld ?_ ?_
                rotate_left
                · rintro w' ⟨s0, s1, s2, s3, s4, s5, s6, s7⟩
                  go_simp
                  with_reducible rfl
                rotate_left
                · simp only [Act.put, List.setIfInBounds_toArray, List.set_cons_zero, List.set_cons_succ, i64_w, i32_w]
                  rfl
                refine pure_ (i := 3) (N := some 23) (v := ?_) (a' := ?_) #[true, true, true, true, false, true, false, true, false, false, false, false] rfl rfl (any_of HT_.out (by kernel_rfl)) (fun _ _ _ h => h) (Or.inl ⟨by rfl, ?_⟩) ?_ ?_
                rotate_left
                · intro w'
                  go_simp
                  with_reducible rfl
                rotate_left
                · simp only [Act.put, List.setIfInBounds_toArray, List.set_cons_zero, List.set_cons_succ, i64_w, i32_w]
                  rfl
                refine take_ (i := 4) (N := some 24) (v := ?_) (a' := ?_) #[true, true, true, true, true, true, false, true, false, false, false, false] rfl rfl (take_ofW HT_.out HW_.out (by kernel_rfl)) (fun _ _ _ h => h) (Or.inl ⟨by rfl, ?_⟩) hHeld ?_ ?_
                rotate_left
                · rintro w' ⟨s0, s1, s2, s3, s4, s5, s6, s7⟩
                  go_simp
                  with_reducible rfl
                rotate_left
                · simp only [Act.put, List.setIfInBounds_toArray, List.set_cons_zero, List.set_cons_succ, i64_w, i32_w]
                  rfl
                refine take_ (i := 6) (N := some 26) (v := ?_) (a' := ?_) #[true, true, true, true, true, true, true, true, false, false, false, false] rfl rfl (take_ofW HT_.out HW_.out (by kernel_rfl)) (fun _ _ _ h => h) (Or.inl ⟨by rfl, ?_⟩) hHeld ?_ ?_
                rotate_left
                · rintro w' ⟨s0, s1, s2, s3, s4, s5, s6, s7⟩
                  go_simp
                  with_reducible rfl
                rotate_left
                · simp only [Act.put, List.setIfInBounds_toArray, List.set_cons_zero, List.set_cons_succ, i64_w, i32_w]
                  rfl
                refine pure_ (i := 8) (N := some 28) (v := ?_) (a' := ?_) #[true, true, true, true, true, true, true, true, true, false, false, false] rfl rfl (any_of HT_.out (by kernel_rfl)) (fun _ _ _ h => h) (Or.inl ⟨by rfl, ?_⟩) ?_ ?_
                rotate_left
                · intro w'
                  go_simp
                  with_reducible rfl
                rotate_left
                · simp only [Act.put, List.setIfInBounds_toArray, List.set_cons_zero, List.set_cons_succ, i64_w, i32_w]
                  rfl
                refine take_ (i := 9) (N := some 29) (v := ?_) (a' := ?_) #[true, true, true, true, true, true, true, true, true, true, false, false] rfl rfl (take_ofW HT_.out HW_.out (by kernel_rfl)) (fun _ _ _ h => h) (Or.inl ⟨by rfl, ?_⟩) hHeld ?_ ?_
                rotate_left
                · rintro w' ⟨s0, s1, s2, s3, s4, s5, s6, s7⟩
                  go_simp
                  with_reducible rfl
                rotate_left
                · simp only [Act.put, List.setIfInBounds_toArray, List.set_cons_zero, List.set_cons_succ, i64_w, i32_w]
                  rfl
                refine one_ (i := 10) (N := some 30) #[true, true, true, true, true, true, true, true, true, true, true, false] rfl rfl (one_of HT_.out (by kernel_rfl)) (by decide) (fun K hK => ?_)
                refine goes_ Tryd.func49 (by kernel_rfl) rfl #[.agg #[.int .i64 ((rd_T60 l0_0 x5_1).f0), .int .i64 ((rd_T60 l0_0 x5_1).f1), .slice A139_2 ((rd_T60 l0_0 x5_1).f2).length c139_2], .agg #[.int .i64 ((rd_T60 l1_0 x5_1).f0), .int .i64 ((rd_T60 l1_0 x5_1).f1), .slice A140_2 ((rd_T60 l1_0 x5_1).f2).length c140_2]] (by rfl) rfl rfl (by (try simp only [List.map_toArray, List.map_cons, List.map_nil]); first | done | rfl | (simp only [List.length_drop, List.length_take]; rfl)) ?_
                with_reducible refine (exactpplref19_SameNode.calls k1 ((rd_T60 l0_0 x5_1).f0) ((rd_T60 l0_0 x5_1).f1) _ _ ((rd_T60 l0_0 x5_1).f2) ((rd_T60 l1_0 x5_1).f0) ((rd_T60 l1_0 x5_1).f1) _ _ ((rd_T60 l1_0 x5_1).f2) false _ ?side1 ?side2 ?side3 ?side4 A12.out).mono ?_
                (case side1 => repeat (first | exact (Kd.C_below HR139_2.out HB.out) | (with_reducible refine Kd.C_alloc ?_ _) | (with_reducible refine Kd.C_drewN ?_ _) | (with_reducible refine Kd.C_drew ?_)))
                (case side2 => exact HC139_2.out)
                (case side3 => repeat (first | exact (Kd.C_below HR140_2.out HB.out) | (with_reducible refine Kd.C_alloc ?_ _) | (with_reducible refine Kd.C_drewN ?_ _) | (with_reducible refine Kd.C_drew ?_)))
                (case side4 => exact HC140_2.out)
                rintro e w21 ⟨rfl, hb⟩
                refine ⟨_, rfl, ?_⟩
                have n0_ := Aside0.mk (blk_below (g := gb137) (o := .cells #[.slice (some ad139) l0_0.length c0_0] 31 (0, 0)) (by (with_reducible repeat (first | refine blk_drewN ?_ _ | refine blk_drew ?_ | refine blk_alloc ?_ _)); exact BK137.out) hb)
                have n1_ := Aside0.mk (blk_below (g := gb138) (o := .cells #[.slice (some ad140) l1_0.length c1_0] 31 (0, 0)) (by (with_reducible repeat (first | refine blk_drewN ?_ _ | refine blk_drew ?_ | refine blk_alloc ?_ _)); exact BK138.out) hb)
                have n2_ := Aside0.mk (below_step (by repeat (first | (with_reducible first | exact HB.out | apply below_alloc | apply pw_below_drewN | apply below_drew1 | refine below_set ?_ GE137.out | refine below_set ?_ GE138.out) | exact HB.out)) hb)
                clear BK137
                clear BK138
                clear HB
                have BK137 := n0_
                have BK138 := n1_
                have HB := n2_
                clear n0_ n1_ n2_
                (try clear hb)
                (try clear hb2)
                (try clear hk)
                (try clear hi)
                refine hK.out _ _ ⟨(blk_cell BK137.out 0).trans rfl, (blk_cell BK138.out 0).trans rfl, ((HB.out.cell (World.block_lt_of_cell? w _ hw139_0)).trans hw139_0), ((HB.out.cell (World.block_lt_of_cell? w _ hw139_1)).trans hw139_1), ((HB.out.cell (World.block_lt_of_cell? w _ hw139_2)).trans hw139_2), ((HB.out.cell (World.block_lt_of_cell? w _ hw140_0)).trans hw140_0), ((HB.out.cell (World.block_lt_of_cell? w _ hw140_1)).trans hw140_1), ((HB.out.cell (World.block_lt_of_cell? w _ hw140_2)).trans hw140_2)⟩ (fun hHeld => ?_)
                clear hK K
                refine norm_ (a' := ?_) ?_ ?_
                rotate_left
                · show Act.put _ (some 30) _ = _
                  simp only [Act.put, List.setIfInBounds_toArray, List.set_cons_zero, List.set_cons_succ, i64_w, i32_w]
                  rfl
                refine pure_ (i := 11) (N := some 31) (v := ?_) (a' := ?_) #[true, true, true, true, true, true, true, true, true, true, true, true] rfl rfl (any_of HT_.out (by kernel_rfl)) (fun _ _ _ h => h) (Or.inl ⟨by rfl, ?_⟩) ?_ ?_
                rotate_left
                · intro w'
                  go_simp
                  with_reducible rfl
                rotate_left
                · simp only [Act.put, List.setIfInBounds_toArray, List.set_cons_zero, List.set_cons_succ, i64_w, i32_w]
                  rfl
                refine done_ (done_of HT_.out (by kernel_rfl)) ?_
                try go_wp2
                go_ret
                exact ⟨by first | rfl | (simp [errW_none, errW_some] <;> rfl) | (simp [*, errW_none, errW_some] <;> rfl), by repeat (first | (with_reducible first | exact HB.out | apply below_alloc | apply pw_below_drewN | apply below_drew1 | refine below_set ?_ GE137.out | refine below_set ?_ GE138.out) | exact HB.out)⟩
            · rw [if_neg c11] at H
              exact absurd H (by simp)
          · rw [if_neg c10] at H
            exact absurd H (by simp)
        · rw [if_neg c9] at H
          have c9b0 : decide (x5_1 < (l0_0.length : Int)) = false := decide_eq_false c9
          clear c9
          obtain rfl := Option.some.inj H
          have hnb22 := NB137_138.out
          have hnc22 := NB138_137.out
          have hcz23_0 : wr.cell? ⟨gb137, 0, none⟩ = some (.slice A0_0 l0_0.length c0_0) := (blk_cell BK137.out 0).trans rfl
          have hfz23_0 := blk_frozen BK137.out 0
          go_wp2
          go_ret
          exact ⟨by first | rfl | (simp [errW_none, errW_some] <;> rfl) | (simp [*, errW_none, errW_some] <;> rfl), by repeat (first | (with_reducible first | exact HB.out | apply below_alloc | apply pw_below_drewN | apply below_drew1 | refine below_set ?_ GE137.out | refine below_set ?_ GE138.out) | exact HB.out)⟩
  · rw [if_neg c3] at H
    have c3b0 : ((l0_0.length : Int) == (l1_0.length : Int)) = false := beq_eq_false_iff_ne.mpr c3
    have c3b1 : ((l0_0.length : Int) != (l1_0.length : Int)) = true := bne_iff_ne.mpr c3
    have c3b2 : (l0_0.length == l1_0.length) = false := by first | simpa using c3 | (simp at c3 ⊢; omega)
    obtain rfl := Option.some.inj H
    go_enter Tryd.func20, Tryd.ntmps20
    go_wp2_with (first | ((with_reducible refine gate_dst (N := 2) rfl ?_); refine box_event ?hg (N := 2) ?hd (cs := #[.slice A0_0 l0_0.length c0_0]) (t := 31) ?hr ?_; (case hd => rfl); (case hg => rfl); (case hr => first | (go_simp; done) | (go_simp; rfl)); intro gb137 hg w24 hbox hb; have n0_ := Aside0.mk (below_step (by repeat (first | (with_reducible first | exact HB.out | apply below_alloc | apply pw_below_drewN | apply below_drew1) | exact HB.out)) hb); have n1_ := Aside0.mk (hbox); have n2_ := Aside0.mk ((by rw [hg]; exact (below_size (by repeat (first | (with_reducible first | exact HB.out | apply below_alloc | apply pw_below_drewN | apply below_drew1) | exact HB.out))) : w.heap.size ≤ gb137)); have n3_ := Aside0.mk ((by rw [hg]; exact (below_size (by repeat (first | (with_reducible first | exact HB.out | apply below_alloc | apply pw_below_drewN | apply below_drew1) | exact HB.out))) : w.heap.size ≤ gb137)); clear HB; have HB := n0_; have BK137 := n1_; have GW137 := n2_; have GE137 := n3_; clear n0_ n1_ n2_ n3_; clear hb hbox hg) | ((with_reducible refine gate_dst (N := 3) rfl ?_); refine box_event ?hg (N := 3) ?hd (cs := #[.slice A1_0 l1_0.length c1_0]) (t := 31) ?hr ?_; (case hd => rfl); (case hg => rfl); (case hr => first | (go_simp; done) | (go_simp; rfl)); intro gb138 hg w25 hbox hb; have n0_ := Aside0.mk (blk_below (g := gb137) (o := .cells #[.slice A0_0 l0_0.length c0_0] 31 (0, 0)) (by (with_reducible repeat (first | refine blk_drewN ?_ _ | refine blk_drew ?_ | refine blk_alloc ?_ _)); exact BK137.out) hb); have n1_ := Aside0.mk (below_step (by repeat (first | (with_reducible first | exact HB.out | apply below_alloc | apply pw_below_drewN | apply below_drew1 | refine below_set ?_ GE137.out) | exact HB.out)) hb); have n2_ := Aside0.mk (hbox); have n3_ := Aside0.mk ((by rw [hg]; exact (below_size (by repeat (first | (with_reducible first | exact HB.out | apply below_alloc | apply pw_below_drewN | apply below_drew1 | refine below_set ?_ GE137.out) | exact HB.out))) : w.heap.size ≤ gb138)); have n4_ := Aside0.mk ((by rw [hg]; exact (below_size (by repeat (first | (with_reducible first | exact HB.out | apply below_alloc | apply pw_below_drewN | apply below_drew1 | refine below_set ?_ GE137.out) | exact HB.out))) : w.heap.size ≤ gb138)); have n5_ := Aside0.mk ((by rw [hg]; exact Nat.ne_of_lt (blk_lt (g := gb137) (o := .cells #[.slice A0_0 l0_0.length c0_0] 31 (0, 0)) (by (with_reducible repeat (first | refine blk_drewN ?_ _ | refine blk_drew ?_ | refine blk_alloc ?_ _)); exact BK137.out)) : gb137 ≠ gb138)); have n6_ := Aside0.mk ((by rw [hg]; exact Nat.ne_of_gt (blk_lt (g := gb137) (o := .cells #[.slice A0_0 l0_0.length c0_0] 31 (0, 0)) (by (with_reducible repeat (first | refine blk_drewN ?_ _ | refine blk_drew ?_ | refine blk_alloc ?_ _)); exact BK137.out)) : gb138 ≠ gb137)); clear BK137; clear HB; have BK137 := n0_; have HB := n1_; have BK138 := n2_; have GW138 := n3_; have GE138 := n4_; have NB137_138 := n5_; have NB138_137 := n6_; clear n0_ n1_ n2_ n3_ n4_ n5_ n6_; clear hb hbox hg; have hnb26 := NB137_138.out; have hnc26 := NB138_137.out; have hcz27_0 : w25.cell? ⟨gb137, 0, none⟩ = some (.slice A0_0 l0_0.length c0_0) := (blk_cell BK137.out 0).trans rfl; have hfz27_0 := blk_frozen BK137.out 0; have hcz28_0 : w25.cell? ⟨gb138, 0, none⟩ = some (.slice A1_0 l1_0.length c1_0) := (blk_cell BK138.out 0).trans rfl; have hfz28_0 := blk_frozen BK138.out 0))
    go_ret
    exact ⟨by first | rfl | (simp [errW_none, errW_some] <;> rfl) | (simp [*, errW_none, errW_some] <;> rfl), by repeat (first | (with_reducible first | exact HB.out | apply below_alloc | apply pw_below_drewN | apply below_drew1 | refine below_set ?_ GE137.out | refine below_set ?_ GE138.out) | exact HB.out)⟩

end Go.Proofs.YtopbjginpmdebaaDoor.K
namespace Go.Proofs.YtopbjginpmdebaaDoor.K
open Go.RowKit Go.Proofs.YtopbjginpmdebaaDoorW.PrintWords Go.Proofs.YtopbjginpmdebaaDoorW.PrintLast Go.Proofs.YtopbjginpmdebaaDoorW.PrintMore
attribute [local go_sem] max2_int min2_int max_two min_two max_three min_three max_four min_four   -- for this text's walks alone
set_option linter.unusedVariables false
set_option linter.unusedSimpArgs false

/-! ### diagram_leaf: function 56 -/
def diagram_leaf.f (a0_0 : Int) (a0_1 : Int) (l0_2 : List Int) : Option (Bool) := if a0_0 = (-1) then (if (l0_2.length : Int) = 0 then (if a0_1 ≥ (-1073741824) then (some (decide (a0_1 ≤ 1073741824))) else (some false)) else (some false)) else (some false)
set_option maxHeartbeats 8000000 in
set_option maxRecDepth 100000 in
theorem diagram_leaf.calls (a0_0 : Int) (a0_1 : Int) (A0_2 : Option Addr) (c0_2 : Nat) (l0_2 : List Int) (r : Bool) (w : World) (hr0_2 : Kd.C (Kd.int .i64) w A0_2 l0_2.length l0_2) (hc0_2 : l0_2.length ≤ c0_2) (h : diagram_leaf.f a0_0 a0_1 l0_2 = some r) :
    Calls Tryd.prog 56 #[.agg #[.int .i64 a0_0, .int .i64 a0_1, .slice A0_2 l0_2.length c0_2]] w fun e w' => e = .returned (.bool r) ∧ Below w.heap.size w w' := by
  have hu60 := Tryd.underlying60
  have HR0_2 := Aside0.mk hr0_2
  have HC0_2 := Aside0.mk hc0_2
  clear hr0_2 hc0_2
  have HB := Aside0.mk (Below.refl w.heap.size w)
  have H : (if a0_0 = (-1) then (if (l0_2.length : Int) = 0 then (if a0_1 ≥ (-1073741824) then (some (decide (a0_1 ≤ 1073741824))) else (some false)) else (some false)) else (some false)) = some r := h
  clear h
  by_cases c2 : a0_0 = (-1)
  · rw [if_pos c2] at H
    have c2b0 : (a0_0 == (-1)) = true := beq_iff_eq.mpr c2
    have c2b1 : (a0_0 != (-1)) = false := bne_eq_false_iff_eq.mpr c2
    clear c2
    by_cases c3 : (l0_2.length : Int) = 0
    · rw [if_pos c3] at H
      have c3b0 : ((l0_2.length : Int) == 0) = true := beq_iff_eq.mpr c3
      have c3b1 : ((l0_2.length : Int) != 0) = false := bne_eq_false_iff_eq.mpr c3
      clear c3
      by_cases c4 : a0_1 ≥ (-1073741824)
      · rw [if_pos c4] at H
        have c4b0 : decide ((-1073741824) ≤ a0_1) = true := decide_eq_true c4
        clear c4
        obtain rfl := Option.some.inj H
        go_enter Tryd.func56, Tryd.ntmps56
        go_wp2_with (first | ((with_reducible refine gate_dst (N := 1) rfl ?_); (try (refine gate_guard (by rfl) ?_; dsimp only)); refine box_event ?hg (N := 1) ?hd (cs := #[.int .i64 a0_0, .int .i64 a0_1, .slice A0_2 l0_2.length c0_2]) (t := 60) ?hr ?_; (case hd => rfl); (case hg => rfl); (case hr => first | (go_simp; done) | (go_simp; rfl)); intro gb101 hg w5 hbox hb; have n0_ := Aside0.mk (below_step (by repeat (first | (with_reducible first | exact HB.out | apply below_alloc | apply pw_below_drewN | apply below_drew1) | exact HB.out)) hb); have n1_ := Aside0.mk (hbox); have n2_ := Aside0.mk ((by rw [hg]; exact (below_size (by repeat (first | (with_reducible first | exact HB.out | apply below_alloc | apply pw_below_drewN | apply below_drew1) | exact HB.out))) : w.heap.size ≤ gb101)); have n3_ := Aside0.mk ((by rw [hg]; exact (below_size (by repeat (first | (with_reducible first | exact HB.out | apply below_alloc | apply pw_below_drewN | apply below_drew1) | exact HB.out))) : w.heap.size ≤ gb101)); clear HB; have HB := n0_; have BK101 := n1_; have GW101 := n2_; have GE101 := n3_; clear n0_ n1_ n2_ n3_; clear hb hbox hg; have hcz6_0 : w5.cell? ⟨gb101, 0, none⟩ = some (.int .i64 a0_0) := (blk_cell BK101.out 0).trans rfl; have hcz6_1 : w5.cell? ⟨gb101, 1, none⟩ = some (.int .i64 a0_1) := (blk_cell BK101.out 1).trans rfl; have hcz6_2 : w5.cell? ⟨gb101, 2, none⟩ = some (.slice A0_2 l0_2.length c0_2) := (blk_cell BK101.out 2).trans rfl; have hfz6_0 := blk_frozen BK101.out 0; have hfz6_1 := blk_frozen BK101.out 1; have hfz6_2 := blk_frozen BK101.out 2))
        go_ret
        exact ⟨by first | rfl | (simp [errW_none, errW_some] <;> rfl) | (simp [*, errW_none, errW_some] <;> rfl), by repeat (first | (with_reducible first | exact HB.out | apply below_alloc | apply pw_below_drewN | apply below_drew1 | refine below_set ?_ GE101.out) | exact HB.out)⟩
      · rw [if_neg c4] at H
        have c4b0 : decide ((-1073741824) ≤ a0_1) = false := decide_eq_false c4
        clear c4
        obtain rfl := Option.some.inj H
        go_enter Tryd.func56, Tryd.ntmps56
        go_wp2_with (first | ((with_reducible refine gate_dst (N := 1) rfl ?_); (try (refine gate_guard (by rfl) ?_; dsimp only)); refine box_event ?hg (N := 1) ?hd (cs := #[.int .i64 a0_0, .int .i64 a0_1, .slice A0_2 l0_2.length c0_2]) (t := 60) ?hr ?_; (case hd => rfl); (case hg => rfl); (case hr => first | (go_simp; done) | (go_simp; rfl)); intro gb101 hg w7 hbox hb; have n0_ := Aside0.mk (below_step (by repeat (first | (with_reducible first | exact HB.out | apply below_alloc | apply pw_below_drewN | apply below_drew1) | exact HB.out)) hb); have n1_ := Aside0.mk (hbox); have n2_ := Aside0.mk ((by rw [hg]; exact (below_size (by repeat (first | (with_reducible first | exact HB.out | apply below_alloc | apply pw_below_drewN | apply below_drew1) | exact HB.out))) : w.heap.size ≤ gb101)); have n3_ := Aside0.mk ((by rw [hg]; exact (below_size (by repeat (first | (with_reducible first | exact HB.out | apply below_alloc | apply pw_below_drewN | apply below_drew1) | exact HB.out))) : w.heap.size ≤ gb101)); clear HB; have HB := n0_; have BK101 := n1_; have GW101 := n2_; have GE101 := n3_; clear n0_ n1_ n2_ n3_; clear hb hbox hg; have hcz8_0 : w7.cell? ⟨gb101, 0, none⟩ = some (.int .i64 a0_0) := (blk_cell BK101.out 0).trans rfl; have hcz8_1 : w7.cell? ⟨gb101, 1, none⟩ = some (.int .i64 a0_1) := (blk_cell BK101.out 1).trans rfl; have hcz8_2 : w7.cell? ⟨gb101, 2, none⟩ = some (.slice A0_2 l0_2.length c0_2) := (blk_cell BK101.out 2).trans rfl; have hfz8_0 := blk_frozen BK101.out 0; have hfz8_1 := blk_frozen BK101.out 1; have hfz8_2 := blk_frozen BK101.out 2))
        go_ret
        exact ⟨by first | rfl | (simp [errW_none, errW_some] <;> rfl) | (simp [*, errW_none, errW_some] <;> rfl), by repeat (first | (with_reducible first | exact HB.out | apply below_alloc | apply pw_below_drewN | apply below_drew1 | refine below_set ?_ GE101.out) | exact HB.out)⟩
    · rw [if_neg c3] at H
      have c3b0 : ((l0_2.length : Int) == 0) = false := beq_eq_false_iff_ne.mpr c3
      have c3b1 : ((l0_2.length : Int) != 0) = true := bne_iff_ne.mpr c3
      have c3b2 : ¬ (l0_2 = []) := fun h_ => c3 (by rw [h_]; rfl)
      obtain rfl := Option.some.inj H
      go_enter Tryd.func56, Tryd.ntmps56
      go_wp2_with (first | ((with_reducible refine gate_dst (N := 1) rfl ?_); (try (refine gate_guard (by rfl) ?_; dsimp only)); refine box_event ?hg (N := 1) ?hd (cs := #[.int .i64 a0_0, .int .i64 a0_1, .slice A0_2 l0_2.length c0_2]) (t := 60) ?hr ?_; (case hd => rfl); (case hg => rfl); (case hr => first | (go_simp; done) | (go_simp; rfl)); intro gb101 hg w9 hbox hb; have n0_ := Aside0.mk (below_step (by repeat (first | (with_reducible first | exact HB.out | apply below_alloc | apply pw_below_drewN | apply below_drew1) | exact HB.out)) hb); have n1_ := Aside0.mk (hbox); have n2_ := Aside0.mk ((by rw [hg]; exact (below_size (by repeat (first | (with_reducible first | exact HB.out | apply below_alloc | apply pw_below_drewN | apply below_drew1) | exact HB.out))) : w.heap.size ≤ gb101)); have n3_ := Aside0.mk ((by rw [hg]; exact (below_size (by repeat (first | (with_reducible first | exact HB.out | apply below_alloc | apply pw_below_drewN | apply below_drew1) | exact HB.out))) : w.heap.size ≤ gb101)); clear HB; have HB := n0_; have BK101 := n1_; have GW101 := n2_; have GE101 := n3_; clear n0_ n1_ n2_ n3_; clear hb hbox hg; have hcz10_0 : w9.cell? ⟨gb101, 0, none⟩ = some (.int .i64 a0_0) := (blk_cell BK101.out 0).trans rfl; have hcz10_1 : w9.cell? ⟨gb101, 1, none⟩ = some (.int .i64 a0_1) := (blk_cell BK101.out 1).trans rfl; have hcz10_2 : w9.cell? ⟨gb101, 2, none⟩ = some (.slice A0_2 l0_2.length c0_2) := (blk_cell BK101.out 2).trans rfl; have hfz10_0 := blk_frozen BK101.out 0; have hfz10_1 := blk_frozen BK101.out 1; have hfz10_2 := blk_frozen BK101.out 2))
      go_ret
      exact ⟨by first | rfl | (simp [errW_none, errW_some] <;> rfl) | (simp [*, errW_none, errW_some] <;> rfl), by repeat (first | (with_reducible first | exact HB.out | apply below_alloc | apply pw_below_drewN | apply below_drew1 | refine below_set ?_ GE101.out) | exact HB.out)⟩
  · rw [if_neg c2] at H
    have c2b0 : (a0_0 == (-1)) = false := beq_eq_false_iff_ne.mpr c2
    have c2b1 : (a0_0 != (-1)) = true := bne_iff_ne.mpr c2
    obtain rfl := Option.some.inj H
    go_enter Tryd.func56, Tryd.ntmps56
    go_wp2_with (first | ((with_reducible refine gate_dst (N := 1) rfl ?_); (try (refine gate_guard (by rfl) ?_; dsimp only)); refine box_event ?hg (N := 1) ?hd (cs := #[.int .i64 a0_0, .int .i64 a0_1, .slice A0_2 l0_2.length c0_2]) (t := 60) ?hr ?_; (case hd => rfl); (case hg => rfl); (case hr => first | (go_simp; done) | (go_simp; rfl)); intro gb101 hg w11 hbox hb; have n0_ := Aside0.mk (below_step (by repeat (first | (with_reducible first | exact HB.out | apply below_alloc | apply pw_below_drewN | apply below_drew1) | exact HB.out)) hb); have n1_ := Aside0.mk (hbox); have n2_ := Aside0.mk ((by rw [hg]; exact (below_size (by repeat (first | (with_reducible first | exact HB.out | apply below_alloc | apply pw_below_drewN | apply below_drew1) | exact HB.out))) : w.heap.size ≤ gb101)); have n3_ := Aside0.mk ((by rw [hg]; exact (below_size (by repeat (first | (with_reducible first | exact HB.out | apply below_alloc | apply pw_below_drewN | apply below_drew1) | exact HB.out))) : w.heap.size ≤ gb101)); clear HB; have HB := n0_; have BK101 := n1_; have GW101 := n2_; have GE101 := n3_; clear n0_ n1_ n2_ n3_; clear hb hbox hg; have hcz12_0 : w11.cell? ⟨gb101, 0, none⟩ = some (.int .i64 a0_0) := (blk_cell BK101.out 0).trans rfl; have hcz12_1 : w11.cell? ⟨gb101, 1, none⟩ = some (.int .i64 a0_1) := (blk_cell BK101.out 1).trans rfl; have hcz12_2 : w11.cell? ⟨gb101, 2, none⟩ = some (.slice A0_2 l0_2.length c0_2) := (blk_cell BK101.out 2).trans rfl; have hfz12_0 := blk_frozen BK101.out 0; have hfz12_1 := blk_frozen BK101.out 1; have hfz12_2 := blk_frozen BK101.out 2))
    go_ret
    exact ⟨by first | rfl | (simp [errW_none, errW_some] <;> rfl) | (simp [*, errW_none, errW_some] <;> rfl), by repeat (first | (with_reducible first | exact HB.out | apply below_alloc | apply pw_below_drewN | apply below_drew1 | refine below_set ?_ GE101.out) | exact HB.out)⟩

end Go.Proofs.YtopbjginpmdebaaDoor.K
namespace Go.Proofs.YtopbjginpmdebaaDoor.K
open Go.RowKit Go.Proofs.YtopbjginpmdebaaDoorW.PrintWords Go.Proofs.YtopbjginpmdebaaDoorW.PrintLast Go.Proofs.YtopbjginpmdebaaDoorW.PrintMore
attribute [local go_sem] max2_int min2_int max_two min_two max_three min_three max_four min_four   -- for this text's walks alone
set_option linter.unusedVariables false
set_option linter.unusedSimpArgs false

/-! ### diagram_Leaf: function 28 -/
def diagram_Leaf.f (a0 : Int) : Option ((List (S60)) × Int) := (diagram_leaf.f (-1) a0 ([] : List Int)).bind fun t426 => (if t426 = true then (some ((([(⟨(-1), a0, ([] : List Int)⟩ : S60)] : List (S60))), 0)) else (some (([] : List (S60)), 1)))
set_option maxHeartbeats 8000000 in
set_option maxRecDepth 100000 in
theorem diagram_Leaf.calls (a0 : Int) (r1 : List (S60)) (r2 : Int) (w : World) (h : diagram_Leaf.f a0 = some (r1, r2)) :
    Calls Tryd.prog 28 #[.int .i64 a0] w fun e w' => ∃ v0_ : Value, e = .returned (.tuple #[.agg #[v0_], .int .i64 r2]) ∧ Kd.S k60 60 w' w.heap.size (fun _ => True) v0_ r1 ∧ Below w.heap.size w w' := by
  have hu31 := Tryd.underlying31
  have hu60 := Tryd.underlying60
  have HB := Aside0.mk (Below.refl w.heap.size w)
  have H : ((diagram_leaf.f (-1) a0 ([] : List Int)).bind fun t426 => (if t426 = true then (some ((([(⟨(-1), a0, ([] : List Int)⟩ : S60)] : List (S60))), 0)) else (some (([] : List (S60)), 1)))) = some (r1, r2) := h
  clear h
  replace H := Option.bind_eq_some_iff.mp H
  obtain ⟨t426, A20, H⟩ := H
  replace H : (if t426 = true then (some ((([(⟨(-1), a0, ([] : List Int)⟩ : S60)] : List (S60))), 0)) else (some (([] : List (S60)), 1))) = some (r1, r2) := H
  have A2 := Aside0.mk A20
  clear A20
  by_cases c3 : t426 = true
  · subst c3
    have H1 : (some ((([(⟨(-1), a0, ([] : List Int)⟩ : S60)] : List (S60))), 0)) = some (r1, r2) := by rw [if_pos rfl] at H; exact H
    clear H
    have H := H1
    clear H1
    obtain ⟨y427, hy427⟩ : ∃ y_ : List (S60), y_ = (([(⟨(-1), a0, ([] : List Int)⟩ : S60)] : List (S60))) := ⟨_, rfl⟩
    replace H : (some (y427, 0)) = some (r1, r2) := by first | (rw [hy427]; with_reducible exact H) | (have H2_ := (Option.bind_some _ _).symm.trans H; rw [hy427]; with_reducible exact H2_) | (have H2_ := (Option.bind_some _ _).symm.trans H; with_reducible exact H2_) | with_reducible exact H | (rw [hy427]; exact H) | exact H
    have Ny427 := Aside0.mk hy427
    clear hy427
    simp only [Option.some.injEq, Prod.mk.injEq] at H
    obtain ⟨rfl, rfl⟩ := H
    go_enter Tryd.func28, Tryd.ntmps28
    go_wp2_with (first | ((with_reducible refine gate_dst (N := 2) rfl ?_); refine box_event ?hg (N := 2) ?hd (cs := #[.slice none 0 0]) (t := 31) ?hr ?_; (case hd => rfl); (case hg => rfl); (case hr => first | (go_simp; done) | (go_simp; rfl)); intro gb424 hg w4 hbox hb; have n0_ := Aside0.mk (below_step (by repeat (first | (with_reducible first | exact HB.out | apply below_alloc | apply pw_below_drewN | apply below_drew1) | exact HB.out)) hb); have n1_ := Aside0.mk (hbox); have n2_ := Aside0.mk ((by rw [hg]; exact (below_size (by repeat (first | (with_reducible first | exact HB.out | apply below_alloc | apply pw_below_drewN | apply below_drew1) | exact HB.out))) : w.heap.size ≤ gb424)); have n3_ := Aside0.mk ((by rw [hg]; exact (below_size (by repeat (first | (with_reducible first | exact HB.out | apply below_alloc | apply pw_below_drewN | apply below_drew1) | exact HB.out))) : w.heap.size ≤ gb424)); clear HB; have HB := n0_; have BK424 := n1_; have GW424 := n2_; have GE424 := n3_; clear n0_ n1_ n2_ n3_; clear hb hbox hg) | ((with_reducible refine gate_dst (N := 4) rfl ?_); refine box_event ?hg (N := 4) ?hd (cs := #[.int .i64 0, .int .i64 0, .slice none 0 0]) (t := 60) ?hr ?_; (case hd => rfl); (case hg => rfl); (case hr => first | (go_simp; done) | (go_simp; rfl)); intro gb425 hg w5 hbox hb; have n0_ := Aside0.mk (blk_below (g := gb424) (o := .cells #[.slice none 0 0] 31 (0, 0)) (by (with_reducible repeat (first | refine blk_drewN ?_ _ | refine blk_drew ?_ | refine blk_alloc ?_ _)); exact BK424.out) hb); have n1_ := Aside0.mk (below_step (by repeat (first | (with_reducible first | exact HB.out | apply below_alloc | apply pw_below_drewN | apply below_drew1 | refine below_set ?_ GE424.out) | exact HB.out)) hb); have n2_ := Aside0.mk (hbox); have n3_ := Aside0.mk ((by rw [hg]; exact (below_size (by repeat (first | (with_reducible first | exact HB.out | apply below_alloc | apply pw_below_drewN | apply below_drew1 | refine below_set ?_ GE424.out) | exact HB.out))) : w.heap.size ≤ gb425)); have n4_ := Aside0.mk ((by rw [hg]; exact (below_size (by repeat (first | (with_reducible first | exact HB.out | apply below_alloc | apply pw_below_drewN | apply below_drew1 | refine below_set ?_ GE424.out) | exact HB.out))) : w.heap.size ≤ gb425)); have n5_ := Aside0.mk ((by rw [hg]; exact Nat.ne_of_lt (blk_lt (g := gb424) (o := .cells #[.slice none 0 0] 31 (0, 0)) (by (with_reducible repeat (first | refine blk_drewN ?_ _ | refine blk_drew ?_ | refine blk_alloc ?_ _)); exact BK424.out)) : gb424 ≠ gb425)); have n6_ := Aside0.mk ((by rw [hg]; exact Nat.ne_of_gt (blk_lt (g := gb424) (o := .cells #[.slice none 0 0] 31 (0, 0)) (by (with_reducible repeat (first | refine blk_drewN ?_ _ | refine blk_drew ?_ | refine blk_alloc ?_ _)); exact BK424.out)) : gb425 ≠ gb424)); clear BK424; clear HB; have BK424 := n0_; have HB := n1_; have BK425 := n2_; have GW425 := n3_; have GE425 := n4_; have NB424_425 := n5_; have NB425_424 := n6_; clear n0_ n1_ n2_ n3_ n4_ n5_ n6_; clear hb hbox hg; have hnb6 := NB425_424.out; have hnc6 := NB424_425.out; have hcz7_0 : w5.cell? ⟨gb425, 0, none⟩ = some (.int .i64 0) := (blk_cell BK425.out 0).trans rfl; have hcz7_1 : w5.cell? ⟨gb425, 1, none⟩ = some (.int .i64 0) := (blk_cell BK425.out 1).trans rfl; have hcz7_2 : w5.cell? ⟨gb425, 2, none⟩ = some (.slice none 0 0) := (blk_cell BK425.out 2).trans rfl; have hfz7_0 := blk_frozen BK425.out 0; have hfz7_1 := blk_frozen BK425.out 1; have hfz7_2 := blk_frozen BK425.out 2) | ((with_reducible refine gate_callee (f := 56) rfl ?_); refine goesL_ (some 8) rfl rfl Tryd.func56 (by kernel_rfl) rfl #[.agg #[.int .i64 (-1), .int .i64 a0, .slice none 0 0]] rfl (by (try simp only [List.map_toArray, List.map_cons, List.map_nil]); first | done | rfl | (simp only [List.length_drop, List.length_take]; rfl)) ?_; (refine (diagram_leaf.calls (-1) a0 _ _ ([] : List Int) true _ ?side1 ?side2 A2.out).mono ?_); (case side1 => exact Kd.C_nil _ _); (case side2 => exact Nat.le_refl _); rintro e w8 ⟨rfl, hb⟩; refine ⟨_, rfl, ?_⟩; have n0_ := Aside0.mk (blk_below (g := gb424) (o := .cells #[.slice none 0 0] 31 (0, 0)) (by (with_reducible repeat (first | refine blk_drewN ?_ _ | refine blk_drew ?_ | refine blk_alloc ?_ _)); refine blk_far ?_ NB424_425.out _; (with_reducible repeat (first | refine blk_drewN ?_ _ | refine blk_drew ?_ | refine blk_alloc ?_ _)); refine blk_far ?_ NB424_425.out _; (with_reducible repeat (first | refine blk_drewN ?_ _ | refine blk_drew ?_ | refine blk_alloc ?_ _)); refine blk_far ?_ NB424_425.out _; (with_reducible repeat (first | refine blk_drewN ?_ _ | refine blk_drew ?_ | refine blk_alloc ?_ _)); exact BK424.out) hb); have n1_ := Aside0.mk (blk_below (g := gb425) (o := .cells #[.int .i64 (-1), .int .i64 a0, .slice none 0 0] 60 (0, 0)) (by (with_reducible repeat (first | refine blk_drewN ?_ _ | refine blk_drew ?_ | refine blk_alloc ?_ _)); refine blk_put (cs := #[.int .i64 (-1), .int .i64 a0, .slice none 0 0]) ?_ 2 _ rfl; (with_reducible repeat (first | refine blk_drewN ?_ _ | refine blk_drew ?_ | refine blk_alloc ?_ _)); refine blk_put (cs := #[.int .i64 (-1), .int .i64 0, .slice none 0 0]) ?_ 1 _ rfl; (with_reducible repeat (first | refine blk_drewN ?_ _ | refine blk_drew ?_ | refine blk_alloc ?_ _)); refine blk_put (cs := #[.int .i64 0, .int .i64 0, .slice none 0 0]) ?_ 0 _ rfl; (with_reducible repeat (first | refine blk_drewN ?_ _ | refine blk_drew ?_ | refine blk_alloc ?_ _)); exact BK425.out) hb); have n2_ := Aside0.mk (below_step (by repeat (first | (with_reducible first | exact HB.out | apply below_alloc | apply pw_below_drewN | apply below_drew1 | refine below_set ?_ GE424.out | refine below_set ?_ GE425.out) | exact HB.out)) hb); clear BK424; clear BK425; clear HB; have BK424 := n0_; have BK425 := n1_; have HB := n2_; clear n0_ n1_ n2_; (try clear hb); (try clear hb2); (try clear hk); (try clear hi); have hcz9_0 : w8.cell? ⟨gb425, 0, none⟩ = some (.int .i64 (-1)) := (blk_cell BK425.out 0).trans rfl; have hcz9_1 : w8.cell? ⟨gb425, 1, none⟩ = some (.int .i64 a0) := (blk_cell BK425.out 1).trans rfl; have hcz9_2 : w8.cell? ⟨gb425, 2, none⟩ = some (.slice none 0 0) := (blk_cell BK425.out 2).trans rfl; have hfz9_0 := blk_frozen BK425.out 0; have hfz9_1 := blk_frozen BK425.out 1; have hfz9_2 := blk_frozen BK425.out 2) | ((with_reducible refine gate_dst (N := 12) rfl ?_); refine Kd.S_lit k60 _ 60 ?hg (N := 12) ?hd (xs := ([(⟨(-1), a0, ([] : List Int)⟩ : S60)] : List (S60))) (inner := [.int .i64 (-1), .int .i64 a0, .slice none 0 0]) (ok := fun _ => True) (okp := fun _ => True) ?hr ?hp (fun _ hk => hk) trivial (Below.refl _ _) (Nat.le_refl _) (by simp) ?_; (case hd => rfl); (case hg => rfl); (case hr => first | (go_simp; done) | (go_simp; rfl)); (case hp => exact (Reps.c3 (show Kd.M k60 _ _ _ (⟨(-1), a0, ([] : List Int)⟩ : S60) [.int .i64 (-1), .int .i64 a0, .slice none 0 0] from (k60_mkM _ _ _ (⟨(-1), a0, ([] : List Int)⟩ : S60) (Kd.R_nil _ _ _ _ _))) (Reps.none _ _))); intro v428 w10 ho11 hb hg_ hnew_; clear hg_ hnew_; (first | rw [← Ny427.out] at ho11 | (simp only [Int.reduceToNat] at ho11; rw [← Ny427.out] at ho11)); have n0_ := Aside0.mk (Kd.S_lower (Kd.S_newB ho11 (g := gb425) (o := .cells #[.int .i64 (-1), .int .i64 a0, .slice none 0 0] 60 (0, 0)) (by (with_reducible repeat (first | refine blk_drewN ?_ _ | refine blk_drew ?_ | refine blk_alloc ?_ _)); exact BK425.out)) (below_size (by repeat (first | (with_reducible first | exact HB.out | apply below_alloc | apply pw_below_drewN | apply below_drew1 | refine below_set ?_ GE424.out | refine below_set ?_ GE425.out) | exact HB.out)))); have n1_ := Aside0.mk (blk_below (g := gb424) (o := .cells #[.slice none 0 0] 31 (0, 0)) (by (with_reducible repeat (first | refine blk_drewN ?_ _ | refine blk_drew ?_ | refine blk_alloc ?_ _)); exact BK424.out) hb); have n2_ := Aside0.mk (blk_below (g := gb425) (o := .cells #[.int .i64 (-1), .int .i64 a0, .slice none 0 0] 60 (0, 0)) (by (with_reducible repeat (first | refine blk_drewN ?_ _ | refine blk_drew ?_ | refine blk_alloc ?_ _)); exact BK425.out) hb); have n3_ := Aside0.mk (below_step (by repeat (first | (with_reducible first | exact HB.out | apply below_alloc | apply pw_below_drewN | apply below_drew1 | refine below_set ?_ GE424.out | refine below_set ?_ GE425.out) | exact HB.out)) hb); clear BK424; clear BK425; clear HB; have HO429 := n0_; have BK424 := n1_; have BK425 := n2_; have HB := n3_; clear n0_ n1_ n2_ n3_; clear hb ho11; obtain ⟨Ao12, co12, eo12⟩ := Kd.S_slice HO429.out; subst eo12; have hcz13_0 : w10.cell? ⟨gb424, 0, none⟩ = some (.slice none 0 0) := (blk_cell BK424.out 0).trans rfl; have hfz13_0 := blk_frozen BK424.out 0))
    refine bodyPost_ret (results_ct rfl _ _ gb424 31 #[.slice Ao12 y427.length co12] (0, 0) _ rfl (by (with_reducible repeat (first | refine blk_drewN ?_ _ | refine blk_drew ?_ | refine blk_alloc ?_ _)); refine blk_put (cs := #[.slice none 0 0]) ?_ 0 _ rfl; (with_reducible repeat (first | refine blk_drewN ?_ _ | refine blk_drew ?_ | refine blk_alloc ?_ _)); exact BK424.out) Tryd.underlying31 rfl (by kernel_rfl)) rfl ?_
    exact ⟨_, by first | rfl | (simp [errW_none, errW_some] <;> rfl) | (simp [*, errW_none, errW_some] <;> rfl), by (with_reducible repeat (first | apply Kd.S_alloc | apply Kd.S_drewN | apply Kd.S_drew)); exact Kd.S_mono (Kd.S_far (p := ⟨gb424, 0, none⟩) (Kd.S_types HO429.out BK424.out (by decide)) (fun _ hk => hk.2) (.slice Ao12 y427.length co12)) (fun _ hk => trivial), by repeat (first | (with_reducible first | exact HB.out | apply below_alloc | apply pw_below_drewN | apply below_drew1 | refine below_set ?_ GE424.out | refine below_set ?_ GE425.out) | exact HB.out)⟩
  · replace c3 := Bool.eq_false_iff.mpr c3
    subst c3
    have H1 : (some (([] : List (S60)), 1)) = some (r1, r2) := by rw [if_neg (show ¬ (false = true) by decide)] at H; exact H
    clear H
    have H := H1
    clear H1
    simp only [Option.some.injEq, Prod.mk.injEq] at H
    obtain ⟨rfl, rfl⟩ := H
    go_enter Tryd.func28, Tryd.ntmps28
    go_wp2_with (first | ((with_reducible refine gate_dst (N := 2) rfl ?_); refine box_event ?hg (N := 2) ?hd (cs := #[.slice none 0 0]) (t := 31) ?hr ?_; (case hd => rfl); (case hg => rfl); (case hr => first | (go_simp; done) | (go_simp; rfl)); intro gb424 hg w14 hbox hb; have n0_ := Aside0.mk (below_step (by repeat (first | (with_reducible first | exact HB.out | apply below_alloc | apply pw_below_drewN | apply below_drew1) | exact HB.out)) hb); have n1_ := Aside0.mk (hbox); have n2_ := Aside0.mk ((by rw [hg]; exact (below_size (by repeat (first | (with_reducible first | exact HB.out | apply below_alloc | apply pw_below_drewN | apply below_drew1) | exact HB.out))) : w.heap.size ≤ gb424)); have n3_ := Aside0.mk ((by rw [hg]; exact (below_size (by repeat (first | (with_reducible first | exact HB.out | apply below_alloc | apply pw_below_drewN | apply below_drew1) | exact HB.out))) : w.heap.size ≤ gb424)); clear HB; have HB := n0_; have BK424 := n1_; have GW424 := n2_; have GE424 := n3_; clear n0_ n1_ n2_ n3_; clear hb hbox hg) | ((with_reducible refine gate_dst (N := 4) rfl ?_); refine box_event ?hg (N := 4) ?hd (cs := #[.int .i64 0, .int .i64 0, .slice none 0 0]) (t := 60) ?hr ?_; (case hd => rfl); (case hg => rfl); (case hr => first | (go_simp; done) | (go_simp; rfl)); intro gb425 hg w15 hbox hb; have n0_ := Aside0.mk (blk_below (g := gb424) (o := .cells #[.slice none 0 0] 31 (0, 0)) (by (with_reducible repeat (first | refine blk_drewN ?_ _ | refine blk_drew ?_ | refine blk_alloc ?_ _)); exact BK424.out) hb); have n1_ := Aside0.mk (below_step (by repeat (first | (with_reducible first | exact HB.out | apply below_alloc | apply pw_below_drewN | apply below_drew1 | refine below_set ?_ GE424.out) | exact HB.out)) hb); have n2_ := Aside0.mk (hbox); have n3_ := Aside0.mk ((by rw [hg]; exact (below_size (by repeat (first | (with_reducible first | exact HB.out | apply below_alloc | apply pw_below_drewN | apply below_drew1 | refine below_set ?_ GE424.out) | exact HB.out))) : w.heap.size ≤ gb425)); have n4_ := Aside0.mk ((by rw [hg]; exact (below_size (by repeat (first | (with_reducible first | exact HB.out | apply below_alloc | apply pw_below_drewN | apply below_drew1 | refine below_set ?_ GE424.out) | exact HB.out))) : w.heap.size ≤ gb425)); have n5_ := Aside0.mk ((by rw [hg]; exact Nat.ne_of_lt (blk_lt (g := gb424) (o := .cells #[.slice none 0 0] 31 (0, 0)) (by (with_reducible repeat (first | refine blk_drewN ?_ _ | refine blk_drew ?_ | refine blk_alloc ?_ _)); exact BK424.out)) : gb424 ≠ gb425)); have n6_ := Aside0.mk ((by rw [hg]; exact Nat.ne_of_gt (blk_lt (g := gb424) (o := .cells #[.slice none 0 0] 31 (0, 0)) (by (with_reducible repeat (first | refine blk_drewN ?_ _ | refine blk_drew ?_ | refine blk_alloc ?_ _)); exact BK424.out)) : gb425 ≠ gb424)); clear BK424; clear HB; have BK424 := n0_; have HB := n1_; have BK425 := n2_; have GW425 := n3_; have GE425 := n4_; have NB424_425 := n5_; have NB425_424 := n6_; clear n0_ n1_ n2_ n3_ n4_ n5_ n6_; clear hb hbox hg; have hnb16 := NB425_424.out; have hnc16 := NB424_425.out; have hcz17_0 : w15.cell? ⟨gb425, 0, none⟩ = some (.int .i64 0) := (blk_cell BK425.out 0).trans rfl; have hcz17_1 : w15.cell? ⟨gb425, 1, none⟩ = some (.int .i64 0) := (blk_cell BK425.out 1).trans rfl; have hcz17_2 : w15.cell? ⟨gb425, 2, none⟩ = some (.slice none 0 0) := (blk_cell BK425.out 2).trans rfl; have hfz17_0 := blk_frozen BK425.out 0; have hfz17_1 := blk_frozen BK425.out 1; have hfz17_2 := blk_frozen BK425.out 2) | ((with_reducible refine gate_callee (f := 56) rfl ?_); refine goesL_ (some 8) rfl rfl Tryd.func56 (by kernel_rfl) rfl #[.agg #[.int .i64 (-1), .int .i64 a0, .slice none 0 0]] rfl (by (try simp only [List.map_toArray, List.map_cons, List.map_nil]); first | done | rfl | (simp only [List.length_drop, List.length_take]; rfl)) ?_; (refine (diagram_leaf.calls (-1) a0 _ _ ([] : List Int) false _ ?side1 ?side2 A2.out).mono ?_); (case side1 => exact Kd.C_nil _ _); (case side2 => exact Nat.le_refl _); rintro e w18 ⟨rfl, hb⟩; refine ⟨_, rfl, ?_⟩; have n0_ := Aside0.mk (blk_below (g := gb424) (o := .cells #[.slice none 0 0] 31 (0, 0)) (by (with_reducible repeat (first | refine blk_drewN ?_ _ | refine blk_drew ?_ | refine blk_alloc ?_ _)); refine blk_far ?_ NB424_425.out _; (with_reducible repeat (first | refine blk_drewN ?_ _ | refine blk_drew ?_ | refine blk_alloc ?_ _)); refine blk_far ?_ NB424_425.out _; (with_reducible repeat (first | refine blk_drewN ?_ _ | refine blk_drew ?_ | refine blk_alloc ?_ _)); refine blk_far ?_ NB424_425.out _; (with_reducible repeat (first | refine blk_drewN ?_ _ | refine blk_drew ?_ | refine blk_alloc ?_ _)); exact BK424.out) hb); have n1_ := Aside0.mk (blk_below (g := gb425) (o := .cells #[.int .i64 (-1), .int .i64 a0, .slice none 0 0] 60 (0, 0)) (by (with_reducible repeat (first | refine blk_drewN ?_ _ | refine blk_drew ?_ | refine blk_alloc ?_ _)); refine blk_put (cs := #[.int .i64 (-1), .int .i64 a0, .slice none 0 0]) ?_ 2 _ rfl; (with_reducible repeat (first | refine blk_drewN ?_ _ | refine blk_drew ?_ | refine blk_alloc ?_ _)); refine blk_put (cs := #[.int .i64 (-1), .int .i64 0, .slice none 0 0]) ?_ 1 _ rfl; (with_reducible repeat (first | refine blk_drewN ?_ _ | refine blk_drew ?_ | refine blk_alloc ?_ _)); refine blk_put (cs := #[.int .i64 0, .int .i64 0, .slice none 0 0]) ?_ 0 _ rfl; (with_reducible repeat (first | refine blk_drewN ?_ _ | refine blk_drew ?_ | refine blk_alloc ?_ _)); exact BK425.out) hb); have n2_ := Aside0.mk (below_step (by repeat (first | (with_reducible first | exact HB.out | apply below_alloc | apply pw_below_drewN | apply below_drew1 | refine below_set ?_ GE424.out | refine below_set ?_ GE425.out) | exact HB.out)) hb); clear BK424; clear BK425; clear HB; have BK424 := n0_; have BK425 := n1_; have HB := n2_; clear n0_ n1_ n2_; (try clear hb); (try clear hb2); (try clear hk); (try clear hi); have hcz19_0 : w18.cell? ⟨gb424, 0, none⟩ = some (.slice none 0 0) := (blk_cell BK424.out 0).trans rfl; have hfz19_0 := blk_frozen BK424.out 0))
    refine bodyPost_ret (results_ct rfl _ _ gb424 31 #[.slice none 0 0] (0, 0) _ rfl (by (with_reducible repeat (first | refine blk_drewN ?_ _ | refine blk_drew ?_ | refine blk_alloc ?_ _)); refine blk_put (cs := #[.slice none 0 0]) ?_ 0 _ rfl; (with_reducible repeat (first | refine blk_drewN ?_ _ | refine blk_drew ?_ | refine blk_alloc ?_ _)); exact BK424.out) Tryd.underlying31 rfl (by kernel_rfl)) rfl ?_
    exact ⟨_, by first | rfl | (simp [errW_none, errW_some] <;> rfl) | (simp [*, errW_none, errW_some] <;> rfl), by first | exact Kd.S_nil _ _ _ _ _ | exact Kd.N_nil _ _ _ _ _ | exact Kd.V_nil _ _ _ _ _ | exact Kd.Q_nil _ _ _ _ _ | exact Kd.R_nil _ _ _ _ _, by repeat (first | (with_reducible first | exact HB.out | apply below_alloc | apply pw_below_drewN | apply below_drew1 | refine below_set ?_ GE424.out | refine below_set ?_ GE425.out) | exact HB.out)⟩

end Go.Proofs.YtopbjginpmdebaaDoor.K
namespace Go.Proofs.YtopbjginpmdebaaDoor.K
open Go.RowKit Go.Proofs.YtopbjginpmdebaaDoorW.PrintWords Go.Proofs.YtopbjginpmdebaaDoorW.PrintLast Go.Proofs.YtopbjginpmdebaaDoorW.PrintMore
attribute [local go_sem] max2_int min2_int max_two min_two max_three min_three max_four min_four   -- for this text's walks alone
set_option linter.unusedVariables false
set_option linter.unusedSimpArgs false

/-! ### exactpplref19_Const: function 33 -/
def exactpplref19_Const.f (a0 : Int) : Option ((List (S60))) := some (([(⟨(-1), a0, ([] : List Int)⟩ : S60)] : List (S60)))
set_option maxHeartbeats 8000000 in
set_option maxRecDepth 100000 in
theorem exactpplref19_Const.calls (a0 : Int) (r : List (S60)) (w : World) (h : exactpplref19_Const.f a0 = some r) :
    Calls Tryd.prog 33 #[.int .i64 a0] w fun e w' => ∃ v0_ : Value, e = .returned (.agg #[v0_]) ∧ Kd.S k60 60 w' w.heap.size (fun _ => True) v0_ r ∧ Below w.heap.size w w' := by
  have hu31 := Tryd.underlying31
  have hu60 := Tryd.underlying60
  have HB := Aside0.mk (Below.refl w.heap.size w)
  have H : (some (([(⟨(-1), a0, ([] : List Int)⟩ : S60)] : List (S60)))) = some r := h
  clear h
  obtain ⟨y332, hy332⟩ : ∃ y_ : List (S60), y_ = (([(⟨(-1), a0, ([] : List Int)⟩ : S60)] : List (S60))) := ⟨_, rfl⟩
  replace H : (some y332) = some r := by first | (rw [hy332]; with_reducible exact H) | (have H2_ := (Option.bind_some _ _).symm.trans H; rw [hy332]; with_reducible exact H2_) | (have H2_ := (Option.bind_some _ _).symm.trans H; with_reducible exact H2_) | with_reducible exact H | (rw [hy332]; exact H) | exact H
  have Ny332 := Aside0.mk hy332
  clear hy332
  obtain rfl := Option.some.inj H
  go_enter Tryd.func33, Tryd.ntmps33
  go_wp2_with (first | ((with_reducible refine gate_dst (N := 2) rfl ?_); refine box_event ?hg (N := 2) ?hd (cs := #[.slice none 0 0]) (t := 31) ?hr ?_; (case hd => rfl); (case hg => rfl); (case hr => first | (go_simp; done) | (go_simp; rfl)); intro gb331 hg w2 hbox hb; have n0_ := Aside0.mk (below_step (by repeat (first | (with_reducible first | exact HB.out | apply below_alloc | apply pw_below_drewN | apply below_drew1) | exact HB.out)) hb); have n1_ := Aside0.mk (hbox); have n2_ := Aside0.mk ((by rw [hg]; exact (below_size (by repeat (first | (with_reducible first | exact HB.out | apply below_alloc | apply pw_below_drewN | apply below_drew1) | exact HB.out))) : w.heap.size ≤ gb331)); have n3_ := Aside0.mk ((by rw [hg]; exact (below_size (by repeat (first | (with_reducible first | exact HB.out | apply below_alloc | apply pw_below_drewN | apply below_drew1) | exact HB.out))) : w.heap.size ≤ gb331)); clear HB; have HB := n0_; have BK331 := n1_; have GW331 := n2_; have GE331 := n3_; clear n0_ n1_ n2_ n3_; clear hb hbox hg) | ((with_reducible refine gate_dst (N := 5) rfl ?_); refine Kd.S_lit k60 _ 60 ?hg (N := 5) ?hd (xs := ([(⟨(-1), a0, ([] : List Int)⟩ : S60)] : List (S60))) (inner := [.int .i64 (-1), .int .i64 a0, .slice none 0 0]) (ok := fun _ => True) (okp := fun _ => True) ?hr ?hp (fun _ hk => hk) trivial (Below.refl _ _) (Nat.le_refl _) (by simp) ?_; (case hd => rfl); (case hg => rfl); (case hr => first | (go_simp; done) | (go_simp; rfl)); (case hp => exact (Reps.c3 (show Kd.M k60 _ _ _ (⟨(-1), a0, ([] : List Int)⟩ : S60) [.int .i64 (-1), .int .i64 a0, .slice none 0 0] from (k60_mkM _ _ _ (⟨(-1), a0, ([] : List Int)⟩ : S60) (Kd.R_nil _ _ _ _ _))) (Reps.none _ _))); intro v333 w3 ho4 hb hg_ hnew_; clear hg_ hnew_; (first | rw [← Ny332.out] at ho4 | (simp only [Int.reduceToNat] at ho4; rw [← Ny332.out] at ho4)); have n0_ := Aside0.mk (Kd.S_lower ho4 (below_size (by repeat (first | (with_reducible first | exact HB.out | apply below_alloc | apply pw_below_drewN | apply below_drew1 | refine below_set ?_ GE331.out) | exact HB.out)))); have n1_ := Aside0.mk (blk_below (g := gb331) (o := .cells #[.slice none 0 0] 31 (0, 0)) (by (with_reducible repeat (first | refine blk_drewN ?_ _ | refine blk_drew ?_ | refine blk_alloc ?_ _)); exact BK331.out) hb); have n2_ := Aside0.mk (below_step (by repeat (first | (with_reducible first | exact HB.out | apply below_alloc | apply pw_below_drewN | apply below_drew1 | refine below_set ?_ GE331.out) | exact HB.out)) hb); clear BK331; clear HB; have HO334 := n0_; have BK331 := n1_; have HB := n2_; clear n0_ n1_ n2_; clear hb ho4; obtain ⟨Ao5, co5, eo5⟩ := Kd.S_slice HO334.out; subst eo5; have hcz6_0 : w3.cell? ⟨gb331, 0, none⟩ = some (.slice none 0 0) := (blk_cell BK331.out 0).trans rfl; have hfz6_0 := blk_frozen BK331.out 0))
  refine bodyPost_ret (results_cell_row rfl _ _ gb331 31 #[.slice Ao5 y332.length co5] (0, 0) _ rfl (by (with_reducible repeat (first | refine blk_drewN ?_ _ | refine blk_drew ?_ | refine blk_alloc ?_ _)); refine blk_put (cs := #[.slice none 0 0]) ?_ 0 _ rfl; (with_reducible repeat (first | refine blk_drewN ?_ _ | refine blk_drew ?_ | refine blk_alloc ?_ _)); exact BK331.out) Tryd.underlying31 rfl (by kernel_rfl)) rfl ?_
  exact ⟨_, by first | rfl | (simp [errW_none, errW_some] <;> rfl) | (simp [*, errW_none, errW_some] <;> rfl), by (with_reducible repeat (first | apply Kd.S_alloc | apply Kd.S_drewN | apply Kd.S_drew)); exact Kd.S_mono (Kd.S_far (p := ⟨gb331, 0, none⟩) (Kd.S_types HO334.out BK331.out (by decide)) (fun _ hk => hk.2) (.slice Ao5 y332.length co5)) (fun _ hk => trivial), by repeat (first | (with_reducible first | exact HB.out | apply below_alloc | apply pw_below_drewN | apply below_drew1 | refine below_set ?_ GE331.out) | exact HB.out)⟩

end Go.Proofs.YtopbjginpmdebaaDoor.K
namespace Go.Proofs.YtopbjginpmdebaaDoor.K
open Go.RowKit Go.Proofs.YtopbjginpmdebaaDoorW.PrintWords Go.Proofs.YtopbjginpmdebaaDoorW.PrintLast Go.Proofs.YtopbjginpmdebaaDoorW.PrintMore
attribute [local go_sem] max2_int min2_int max_two min_two max_three min_three max_four min_four   -- for this text's walks alone
set_option linter.unusedVariables false
set_option linter.unusedSimpArgs false

/-! ### exactpplref19_Leaf: function 29 -/
def exactpplref19_Leaf.f (a0 : Int) : Option ((List (S60)) × Int) := if a0 < (-1073741824) then (some (([] : List (S60)), 1)) else (if a0 > 1073741824 then (some (([] : List (S60)), 1)) else ((exactpplref19_Const.f a0).bind fun t431 => (some (t431, 0))))
set_option maxHeartbeats 8000000 in
set_option maxRecDepth 100000 in
theorem exactpplref19_Leaf.calls (a0 : Int) (r1 : List (S60)) (r2 : Int) (w : World) (h : exactpplref19_Leaf.f a0 = some (r1, r2)) :
    Calls Tryd.prog 29 #[.int .i64 a0] w fun e w' => ∃ v0_ : Value, e = .returned (.tuple #[.agg #[v0_], .int .i64 r2]) ∧ Kd.S k60 60 w' w.heap.size (fun _ => True) v0_ r1 ∧ Below w.heap.size w w' := by
  have hu31 := Tryd.underlying31
  have HB := Aside0.mk (Below.refl w.heap.size w)
  have H : (if a0 < (-1073741824) then (some (([] : List (S60)), 1)) else (if a0 > 1073741824 then (some (([] : List (S60)), 1)) else ((exactpplref19_Const.f a0).bind fun t431 => (some (t431, 0))))) = some (r1, r2) := h
  clear h
  by_cases c2 : a0 < (-1073741824)
  · rw [if_pos c2] at H
    have c2b0 : decide (a0 < (-1073741824)) = true := decide_eq_true c2
    clear c2
    simp only [Option.some.injEq, Prod.mk.injEq] at H
    obtain ⟨rfl, rfl⟩ := H
    go_enter Tryd.func29, Tryd.ntmps29
    go_wp2_with (first | ((with_reducible refine gate_dst (N := 2) rfl ?_); refine box_event ?hg (N := 2) ?hd (cs := #[.slice none 0 0]) (t := 31) ?hr ?_; (case hd => rfl); (case hg => rfl); (case hr => first | (go_simp; done) | (go_simp; rfl)); intro gb430 hg w3 hbox hb; have n0_ := Aside0.mk (below_step (by repeat (first | (with_reducible first | exact HB.out | apply below_alloc | apply pw_below_drewN | apply below_drew1) | exact HB.out)) hb); have n1_ := Aside0.mk (hbox); have n2_ := Aside0.mk ((by rw [hg]; exact (below_size (by repeat (first | (with_reducible first | exact HB.out | apply below_alloc | apply pw_below_drewN | apply below_drew1) | exact HB.out))) : w.heap.size ≤ gb430)); have n3_ := Aside0.mk ((by rw [hg]; exact (below_size (by repeat (first | (with_reducible first | exact HB.out | apply below_alloc | apply pw_below_drewN | apply below_drew1) | exact HB.out))) : w.heap.size ≤ gb430)); clear HB; have HB := n0_; have BK430 := n1_; have GW430 := n2_; have GE430 := n3_; clear n0_ n1_ n2_ n3_; clear hb hbox hg; have hcz4_0 : w3.cell? ⟨gb430, 0, none⟩ = some (.slice none 0 0) := (blk_cell BK430.out 0).trans rfl; have hfz4_0 := blk_frozen BK430.out 0))
    refine bodyPost_ret (results_ct rfl _ _ gb430 31 #[.slice none 0 0] (0, 0) _ rfl (by (with_reducible repeat (first | refine blk_drewN ?_ _ | refine blk_drew ?_ | refine blk_alloc ?_ _)); refine blk_put (cs := #[.slice none 0 0]) ?_ 0 _ rfl; (with_reducible repeat (first | refine blk_drewN ?_ _ | refine blk_drew ?_ | refine blk_alloc ?_ _)); exact BK430.out) Tryd.underlying31 rfl (by kernel_rfl)) rfl ?_
    exact ⟨_, by first | rfl | (simp [errW_none, errW_some] <;> rfl) | (simp [*, errW_none, errW_some] <;> rfl), by first | exact Kd.S_nil _ _ _ _ _ | exact Kd.N_nil _ _ _ _ _ | exact Kd.V_nil _ _ _ _ _ | exact Kd.Q_nil _ _ _ _ _ | exact Kd.R_nil _ _ _ _ _, by repeat (first | (with_reducible first | exact HB.out | apply below_alloc | apply pw_below_drewN | apply below_drew1 | refine below_set ?_ GE430.out) | exact HB.out)⟩
  · rw [if_neg c2] at H
    have c2b0 : decide (a0 < (-1073741824)) = false := decide_eq_false c2
    clear c2
    by_cases c5 : a0 > 1073741824
    · rw [if_pos c5] at H
      have c5b0 : decide (1073741824 < a0) = true := decide_eq_true c5
      clear c5
      simp only [Option.some.injEq, Prod.mk.injEq] at H
      obtain ⟨rfl, rfl⟩ := H
      go_enter Tryd.func29, Tryd.ntmps29
      go_wp2_with (first | ((with_reducible refine gate_dst (N := 2) rfl ?_); refine box_event ?hg (N := 2) ?hd (cs := #[.slice none 0 0]) (t := 31) ?hr ?_; (case hd => rfl); (case hg => rfl); (case hr => first | (go_simp; done) | (go_simp; rfl)); intro gb430 hg w6 hbox hb; have n0_ := Aside0.mk (below_step (by repeat (first | (with_reducible first | exact HB.out | apply below_alloc | apply pw_below_drewN | apply below_drew1) | exact HB.out)) hb); have n1_ := Aside0.mk (hbox); have n2_ := Aside0.mk ((by rw [hg]; exact (below_size (by repeat (first | (with_reducible first | exact HB.out | apply below_alloc | apply pw_below_drewN | apply below_drew1) | exact HB.out))) : w.heap.size ≤ gb430)); have n3_ := Aside0.mk ((by rw [hg]; exact (below_size (by repeat (first | (with_reducible first | exact HB.out | apply below_alloc | apply pw_below_drewN | apply below_drew1) | exact HB.out))) : w.heap.size ≤ gb430)); clear HB; have HB := n0_; have BK430 := n1_; have GW430 := n2_; have GE430 := n3_; clear n0_ n1_ n2_ n3_; clear hb hbox hg; have hcz7_0 : w6.cell? ⟨gb430, 0, none⟩ = some (.slice none 0 0) := (blk_cell BK430.out 0).trans rfl; have hfz7_0 := blk_frozen BK430.out 0))
      refine bodyPost_ret (results_ct rfl _ _ gb430 31 #[.slice none 0 0] (0, 0) _ rfl (by (with_reducible repeat (first | refine blk_drewN ?_ _ | refine blk_drew ?_ | refine blk_alloc ?_ _)); refine blk_put (cs := #[.slice none 0 0]) ?_ 0 _ rfl; (with_reducible repeat (first | refine blk_drewN ?_ _ | refine blk_drew ?_ | refine blk_alloc ?_ _)); exact BK430.out) Tryd.underlying31 rfl (by kernel_rfl)) rfl ?_
      exact ⟨_, by first | rfl | (simp [errW_none, errW_some] <;> rfl) | (simp [*, errW_none, errW_some] <;> rfl), by first | exact Kd.S_nil _ _ _ _ _ | exact Kd.N_nil _ _ _ _ _ | exact Kd.V_nil _ _ _ _ _ | exact Kd.Q_nil _ _ _ _ _ | exact Kd.R_nil _ _ _ _ _, by repeat (first | (with_reducible first | exact HB.out | apply below_alloc | apply pw_below_drewN | apply below_drew1 | refine below_set ?_ GE430.out) | exact HB.out)⟩
    · rw [if_neg c5] at H
      have c5b0 : decide (1073741824 < a0) = false := decide_eq_false c5
      clear c5
      replace H := Option.bind_eq_some_iff.mp H
      obtain ⟨t431, A80, H⟩ := H
      replace H : (some (t431, 0)) = some (r1, r2) := H
      have A8 := Aside0.mk A80
      clear A80
      simp only [Option.some.injEq, Prod.mk.injEq] at H
      obtain ⟨rfl, rfl⟩ := H
      go_enter Tryd.func29, Tryd.ntmps29
      go_wp2_with (first | ((with_reducible refine gate_dst (N := 2) rfl ?_); refine box_event ?hg (N := 2) ?hd (cs := #[.slice none 0 0]) (t := 31) ?hr ?_; (case hd => rfl); (case hg => rfl); (case hr => first | (go_simp; done) | (go_simp; rfl)); intro gb430 hg w9 hbox hb; have n0_ := Aside0.mk (below_step (by repeat (first | (with_reducible first | exact HB.out | apply below_alloc | apply pw_below_drewN | apply below_drew1) | exact HB.out)) hb); have n1_ := Aside0.mk (hbox); have n2_ := Aside0.mk ((by rw [hg]; exact (below_size (by repeat (first | (with_reducible first | exact HB.out | apply below_alloc | apply pw_below_drewN | apply below_drew1) | exact HB.out))) : w.heap.size ≤ gb430)); have n3_ := Aside0.mk ((by rw [hg]; exact (below_size (by repeat (first | (with_reducible first | exact HB.out | apply below_alloc | apply pw_below_drewN | apply below_drew1) | exact HB.out))) : w.heap.size ≤ gb430)); clear HB; have HB := n0_; have BK430 := n1_; have GW430 := n2_; have GE430 := n3_; clear n0_ n1_ n2_ n3_; clear hb hbox hg) | ((with_reducible refine gate_callee (f := 33) rfl ?_); refine goesL_ (some 12) rfl rfl Tryd.func33 (by kernel_rfl) rfl #[.int .i64 a0] rfl (by (try simp only [List.map_toArray, List.map_cons, List.map_nil]); first | done | rfl | (simp only [List.length_drop, List.length_take]; rfl)) ?_; (with_reducible refine (exactpplref19_Const.calls a0 t431 _ A8.out).mono ?_); rintro e w10 ⟨v432, rfl, ho0, hb⟩; refine ⟨_, rfl, ?_⟩; have n0_ := Aside0.mk (Kd.S_lower ho0 (below_size (by repeat (first | (with_reducible first | exact HB.out | apply below_alloc | apply pw_below_drewN | apply below_drew1 | refine below_set ?_ GE430.out) | exact HB.out)))); have n1_ := Aside0.mk (blk_below (g := gb430) (o := .cells #[.slice none 0 0] 31 (0, 0)) (by (with_reducible repeat (first | refine blk_drewN ?_ _ | refine blk_drew ?_ | refine blk_alloc ?_ _)); exact BK430.out) hb); have n2_ := Aside0.mk (below_step (by repeat (first | (with_reducible first | exact HB.out | apply below_alloc | apply pw_below_drewN | apply below_drew1 | refine below_set ?_ GE430.out) | exact HB.out)) hb); clear BK430; clear HB; have HO433 := n0_; have BK430 := n1_; have HB := n2_; clear n0_ n1_ n2_; (try clear hb); (try clear hb2); (try clear hk); (try clear hi); (try clear ho0); obtain ⟨Ao11, co11, eo11⟩ := Kd.S_slice HO433.out; subst eo11; have hcz12_0 : w10.cell? ⟨gb430, 0, none⟩ = some (.slice none 0 0) := (blk_cell BK430.out 0).trans rfl; have hfz12_0 := blk_frozen BK430.out 0))
      refine bodyPost_ret (results_ct rfl _ _ gb430 31 #[.slice Ao11 t431.length co11] (0, 0) _ rfl (by (with_reducible repeat (first | refine blk_drewN ?_ _ | refine blk_drew ?_ | refine blk_alloc ?_ _)); refine blk_put (cs := #[.slice none 0 0]) ?_ 0 _ rfl; (with_reducible repeat (first | refine blk_drewN ?_ _ | refine blk_drew ?_ | refine blk_alloc ?_ _)); exact BK430.out) Tryd.underlying31 rfl (by kernel_rfl)) rfl ?_
      exact ⟨_, by first | rfl | (simp [errW_none, errW_some] <;> rfl) | (simp [*, errW_none, errW_some] <;> rfl), by (with_reducible repeat (first | apply Kd.S_alloc | apply Kd.S_drewN | apply Kd.S_drew)); exact Kd.S_mono (Kd.S_far (p := ⟨gb430, 0, none⟩) (Kd.S_types HO433.out BK430.out (by decide)) (fun _ hk => hk.2) (.slice Ao11 t431.length co11)) (fun _ hk => trivial), by repeat (first | (with_reducible first | exact HB.out | apply below_alloc | apply pw_below_drewN | apply below_drew1 | refine below_set ?_ GE430.out) | exact HB.out)⟩

end Go.Proofs.YtopbjginpmdebaaDoor.K
namespace Go.Proofs.YtopbjginpmdebaaDoor.K
open Go.RowKit Go.Proofs.YtopbjginpmdebaaDoorW.PrintWords Go.Proofs.YtopbjginpmdebaaDoorW.PrintLast Go.Proofs.YtopbjginpmdebaaDoorW.PrintMore
attribute [local go_sem] max2_int min2_int max_two min_two max_three min_three max_four min_four   -- for this text's walks alone
set_option linter.unusedVariables false
set_option linter.unusedSimpArgs false

/-! ### diagram_branch: function 69 -/
mutual
def diagram_branch.j0 : Nat → List (S60) → Int → Bool → Int → Int → List Int → Option (Bool)
  | 0, _, _, _, _, _, _ => none
  | k + 1, x0, x1, x36, x104000, x104001, x104002 => if x36 = true then (some false) else (diagram_branch.l0 k x0 x1 x104002 (x104002.length : Int) 0 x104000 x104001 x104002)
def diagram_branch.l0 : Nat → List (S60) → Int → List Int → Int → Int → Int → Int → List Int → Option (Bool)
  | 0, _, _, _, _, _, _, _, _ => none
  | k + 1, x0, x1, x38, x39, x40, x104000, x104001, x104002 => if x40 < x39 then (if 0 ≤ x40 then (if x40 < (x38.length : Int) then (if (rd x38 x40) < 0 then (some false) else (if (rd x38 x40) ≥ x1 then (some false) else (if 0 ≤ (rd x38 x40) then (if (rd x38 x40) < (x0.length : Int) then (if ((rd_T60 x0 (rd x38 x40)).f0) ≥ 0 then (if ((rd_T60 x0 (rd x38 x40)).f0) ≤ x104000 then (some false) else (diagram_branch.l0 k x0 x1 x38 x39 (wrap64 (x40 + 1)) x104000 x104001 x104002)) else (diagram_branch.l0 k x0 x1 x38 x39 (wrap64 (x40 + 1)) x104000 x104001 x104002)) else (none)) else (none)))) else (none)) else (none)) else (some true)
end
def diagram_branch.f (k : Nat) (l0 : List (S60)) (a1 : Int) : Option (Bool) := if 0 ≤ a1 then (if a1 < (l0.length : Int) then (if ((rd_T60 l0 a1).f0) < 0 then (diagram_branch.j0 k l0 a1 true ((rd_T60 l0 a1).f0) ((rd_T60 l0 a1).f1) ((rd_T60 l0 a1).f2)) else (if ((rd_T60 l0 a1).f0) ≥ 64 then (diagram_branch.j0 k l0 a1 true ((rd_T60 l0 a1).f0) ((rd_T60 l0 a1).f1) ((rd_T60 l0 a1).f2)) else (if ((rd_T60 l0 a1).f1) = 0 then (if (((rd_T60 l0 a1).f2).length : Int) < 1 then (diagram_branch.j0 k l0 a1 true ((rd_T60 l0 a1).f0) ((rd_T60 l0 a1).f1) ((rd_T60 l0 a1).f2)) else (diagram_branch.j0 k l0 a1 (decide ((((rd_T60 l0 a1).f2).length : Int) > 16)) ((rd_T60 l0 a1).f0) ((rd_T60 l0 a1).f1) ((rd_T60 l0 a1).f2))) else (diagram_branch.j0 k l0 a1 true ((rd_T60 l0 a1).f0) ((rd_T60 l0 a1).f1) ((rd_T60 l0 a1).f2))))) else (none)) else (none)
theorem diagram_branch.mono_l : ∀ k, (∀ y0 y1 y2 y3 y4 y5, LeO (diagram_branch.j0 k y0 y1 y2 y3 y4 y5) (diagram_branch.j0 (k + 1) y0 y1 y2 y3 y4 y5)) ∧ (∀ y0 y1 y2 y3 y4 y5 y6 y7, LeO (diagram_branch.l0 k y0 y1 y2 y3 y4 y5 y6 y7) (diagram_branch.l0 (k + 1) y0 y1 y2 y3 y4 y5 y6 y7))
  | 0 => ⟨fun _ _ _ _ _ _ r h => by simp [diagram_branch.j0] at h, fun _ _ _ _ _ _ _ _ r h => by simp [diagram_branch.l0] at h⟩
  | k + 1 => by
    obtain ⟨ih0, ih1⟩ := diagram_branch.mono_l k
    refine ⟨?_, ?_⟩
    · intro y0 y1 y2 y3 y4 y5
      unfold diagram_branch.j0
      repeat' first
      | (with_reducible exact ih0 _ _ _ _ _ _)
      | (with_reducible exact ih1 _ _ _ _ _ _ _ _)
      | (with_reducible exact LeO.refl _)
      | (with_reducible exact LeO.none _)
      | (with_reducible refine LeO.ite ?_ ?_)
      | (with_reducible refine LeO.bind ?_ (fun _ => ?_))
      | exact ih0 _ _ _ _ _ _
      | exact ih1 _ _ _ _ _ _ _ _
      | exact LeO.none _
      | refine LeO.ite ?_ ?_
      | refine LeO.bind ?_ (fun _ => ?_)
    · intro y0 y1 y2 y3 y4 y5 y6 y7
      unfold diagram_branch.l0
      repeat' first
      | (with_reducible exact ih0 _ _ _ _ _ _)
      | (with_reducible exact ih1 _ _ _ _ _ _ _ _)
      | (with_reducible exact LeO.refl _)
      | (with_reducible exact LeO.none _)
      | (with_reducible refine LeO.ite ?_ ?_)
      | (with_reducible refine LeO.bind ?_ (fun _ => ?_))
      | exact ih0 _ _ _ _ _ _
      | exact ih1 _ _ _ _ _ _ _ _
      | exact LeO.none _
      | refine LeO.ite ?_ ?_
      | refine LeO.bind ?_ (fun _ => ?_)
theorem diagram_branch.mono : ∀ a0 a1 k, LeO (diagram_branch.f k a0 a1) (diagram_branch.f (k + 1) a0 a1) := by
  intro a0 a1 k
  obtain ⟨ih0, ih1⟩ := diagram_branch.mono_l k
  unfold diagram_branch.f
  repeat' first
      | (with_reducible exact ih0 _ _ _ _ _ _)
      | (with_reducible exact ih1 _ _ _ _ _ _ _ _)
      | (with_reducible exact LeO.refl _)
      | (with_reducible exact LeO.none _)
      | (with_reducible refine LeO.ite ?_ ?_)
      | (with_reducible refine LeO.bind ?_ (fun _ => ?_))
      | exact ih0 _ _ _ _ _ _
      | exact ih1 _ _ _ _ _ _ _ _
      | exact LeO.none _
      | refine LeO.ite ?_ ?_
      | refine LeO.bind ?_ (fun _ => ?_)
set_option maxHeartbeats 8000000 in
set_option maxRecDepth 100000 in
theorem diagram_branch.calls (k : Nat) (A0 : Option Addr) (c0 : Nat) (l0 : List (S60)) (a1 : Int) (r : Bool) (w : World) (hr0 : Kd.C k60 w A0 l0.length l0) (hc0 : l0.length ≤ c0) (h : diagram_branch.f k l0 a1 = some r) :
    Calls Tryd.prog 69 #[.slice A0 l0.length c0, .int .i64 a1] w fun e w' => e = .returned (.bool r) ∧ Below w.heap.size w w' := by
  have hu60 := Tryd.underlying60
  have HR0 := Aside0.mk hr0
  have HC0 := Aside0.mk hc0
  clear hr0 hc0
  have HB := Aside0.mk (Below.refl w.heap.size w)
  have H : (if 0 ≤ a1 then (if a1 < (l0.length : Int) then (if ((rd_T60 l0 a1).f0) < 0 then (diagram_branch.j0 k l0 a1 true ((rd_T60 l0 a1).f0) ((rd_T60 l0 a1).f1) ((rd_T60 l0 a1).f2)) else (if ((rd_T60 l0 a1).f0) ≥ 64 then (diagram_branch.j0 k l0 a1 true ((rd_T60 l0 a1).f0) ((rd_T60 l0 a1).f1) ((rd_T60 l0 a1).f2)) else (if ((rd_T60 l0 a1).f1) = 0 then (if (((rd_T60 l0 a1).f2).length : Int) < 1 then (diagram_branch.j0 k l0 a1 true ((rd_T60 l0 a1).f0) ((rd_T60 l0 a1).f1) ((rd_T60 l0 a1).f2)) else (diagram_branch.j0 k l0 a1 (decide ((((rd_T60 l0 a1).f2).length : Int) > 16)) ((rd_T60 l0 a1).f0) ((rd_T60 l0 a1).f1) ((rd_T60 l0 a1).f2))) else (diagram_branch.j0 k l0 a1 true ((rd_T60 l0 a1).f0) ((rd_T60 l0 a1).f1) ((rd_T60 l0 a1).f2))))) else (none)) else (none)) = some r := h
  clear h
  by_cases c3 : 0 ≤ a1
  · rw [if_pos c3] at H
    have c3b0 : decide (0 ≤ a1) = true := decide_eq_true c3
    clear c3
    by_cases c4 : a1 < (l0.length : Int)
    · rw [if_pos c4] at H
      have c4b0 : decide (a1 < (l0.length : Int)) = true := decide_eq_true c4
      clear c4
      have HC5 := Aside0.mk H
      clear H
      have p102 : 0 ≤ (a1 : Int) := of_decide_eq_true (by first | (with_reducible assumption) | assumption)
      have q102 : a1 < (l0.length : Int) := of_decide_eq_true (by first | (with_reducible assumption) | assumption)
      obtain ⟨ad102, A102_2, c102_2, e102, hx102_0, hx102_1, hx102_2, hl102_2, hi102_2⟩ := at_T60 HR0.out a1 p102 q102
      cases e102
      have HR102_2 := Aside0.mk hi102_2
      have HC102_2 := Aside0.mk hl102_2
      clear hi102_2 hl102_2
      replace p102 := eq_true p102
      replace q102 := eq_true q102
      go_enter Tryd.func69, Tryd.ntmps69
      go_upto_region 2 with (first | ((with_reducible refine gate_dst (N := 5) rfl ?_); (try (refine gate_guard (by rfl) ?_; dsimp only)); refine box_event ?hg (N := 5) ?hd (cs := #[.int .i64 0, .int .i64 0, .slice none 0 0]) (t := 60) ?hr ?_; (case hd => rfl); (case hg => rfl); (case hr => first | (go_simp; done) | (go_simp; rfl)); intro gb103 hg w6 hbox hb; have n0_ := Aside0.mk (below_step (by repeat (first | (with_reducible first | exact HB.out | apply below_alloc | apply pw_below_drewN | apply below_drew1) | exact HB.out)) hb); have n1_ := Aside0.mk (hbox); have n2_ := Aside0.mk ((by rw [hg]; exact (below_size (by repeat (first | (with_reducible first | exact HB.out | apply below_alloc | apply pw_below_drewN | apply below_drew1) | exact HB.out))) : w.heap.size ≤ gb103)); have n3_ := Aside0.mk ((by rw [hg]; exact (below_size (by repeat (first | (with_reducible first | exact HB.out | apply below_alloc | apply pw_below_drewN | apply below_drew1) | exact HB.out))) : w.heap.size ≤ gb103)); clear HB; have HB := n0_; have BK103 := n1_; have GW103 := n2_; have GE103 := n3_; clear n0_ n1_ n2_ n3_; clear hb hbox hg; have hcz7_0 : w6.cell? ⟨gb103, 0, none⟩ = some (.int .i64 0) := (blk_cell BK103.out 0).trans rfl; have hcz7_1 : w6.cell? ⟨gb103, 1, none⟩ = some (.int .i64 0) := (blk_cell BK103.out 1).trans rfl; have hcz7_2 : w6.cell? ⟨gb103, 2, none⟩ = some (.slice none 0 0) := (blk_cell BK103.out 2).trans rfl; have hfz7_0 := blk_frozen BK103.out 0; have hfz7_1 := blk_frozen BK103.out 1; have hfz7_2 := blk_frozen BK103.out 2))
      repeat (go_quiet (first | ((with_reducible refine gate_dst (N := 5) rfl ?_); (try (refine gate_guard (by rfl) ?_; dsimp only)); refine box_event ?hg (N := 5) ?hd (cs := #[.int .i64 0, .int .i64 0, .slice none 0 0]) (t := 60) ?hr ?_; (case hd => rfl); (case hg => rfl); (case hr => first | (go_simp; done) | (go_simp; rfl)); intro gb103 hg w6 hbox hb; have n0_ := Aside0.mk (below_step (by repeat (first | (with_reducible first | exact HB.out | apply below_alloc | apply pw_below_drewN | apply below_drew1) | exact HB.out)) hb); have n1_ := Aside0.mk (hbox); have n2_ := Aside0.mk ((by rw [hg]; exact (below_size (by repeat (first | (with_reducible first | exact HB.out | apply below_alloc | apply pw_below_drewN | apply below_drew1) | exact HB.out))) : w.heap.size ≤ gb103)); have n3_ := Aside0.mk ((by rw [hg]; exact (below_size (by repeat (first | (with_reducible first | exact HB.out | apply below_alloc | apply pw_below_drewN | apply below_drew1) | exact HB.out))) : w.heap.size ≤ gb103)); clear HB; have HB := n0_; have BK103 := n1_; have GW103 := n2_; have GE103 := n3_; clear n0_ n1_ n2_ n3_; clear hb hbox hg; have hcz7_0 : w6.cell? ⟨gb103, 0, none⟩ = some (.int .i64 0) := (blk_cell BK103.out 0).trans rfl; have hcz7_1 : w6.cell? ⟨gb103, 1, none⟩ = some (.int .i64 0) := (blk_cell BK103.out 1).trans rfl; have hcz7_2 : w6.cell? ⟨gb103, 2, none⟩ = some (.slice none 0 0) := (blk_cell BK103.out 2).trans rfl; have hfz7_0 := blk_frozen BK103.out 0; have hfz7_1 := blk_frozen BK103.out 1; have hfz7_2 := blk_frozen BK103.out 2)); go_upto_region 2 with (first | ((with_reducible refine gate_dst (N := 5) rfl ?_); (try (refine gate_guard (by rfl) ?_; dsimp only)); refine box_event ?hg (N := 5) ?hd (cs := #[.int .i64 0, .int .i64 0, .slice none 0 0]) (t := 60) ?hr ?_; (case hd => rfl); (case hg => rfl); (case hr => first | (go_simp; done) | (go_simp; rfl)); intro gb103 hg w6 hbox hb; have n0_ := Aside0.mk (below_step (by repeat (first | (with_reducible first | exact HB.out | apply below_alloc | apply pw_below_drewN | apply below_drew1) | exact HB.out)) hb); have n1_ := Aside0.mk (hbox); have n2_ := Aside0.mk ((by rw [hg]; exact (below_size (by repeat (first | (with_reducible first | exact HB.out | apply below_alloc | apply pw_below_drewN | apply below_drew1) | exact HB.out))) : w.heap.size ≤ gb103)); have n3_ := Aside0.mk ((by rw [hg]; exact (below_size (by repeat (first | (with_reducible first | exact HB.out | apply below_alloc | apply pw_below_drewN | apply below_drew1) | exact HB.out))) : w.heap.size ≤ gb103)); clear HB; have HB := n0_; have BK103 := n1_; have GW103 := n2_; have GE103 := n3_; clear n0_ n1_ n2_ n3_; clear hb hbox hg; have hcz7_0 : w6.cell? ⟨gb103, 0, none⟩ = some (.int .i64 0) := (blk_cell BK103.out 0).trans rfl; have hcz7_1 : w6.cell? ⟨gb103, 1, none⟩ = some (.int .i64 0) := (blk_cell BK103.out 1).trans rfl; have hcz7_2 : w6.cell? ⟨gb103, 2, none⟩ = some (.slice none 0 0) := (blk_cell BK103.out 2).trans rfl; have hfz7_0 := blk_frozen BK103.out 0; have hfz7_1 := blk_frozen BK103.out 1; have hfz7_2 := blk_frozen BK103.out 2)))
      (try simp only [Act.put, List.setIfInBounds_toArray, List.set_cons_zero, List.set_cons_succ])
      go_cut [36] (fun v36 wc => ∃ (kq : Nat) (x36_4 : Bool), v36 = .bool x36_4 ∧ Aside0 (diagram_branch.j0 kq l0 a1 x36_4 ((rd_T60 l0 a1).f0) ((rd_T60 l0 a1).f1) ((rd_T60 l0 a1).f2) = some r) ∧ Aside0 (kq ≤ k) ∧ Aside0 (wc.heap[gb103]? = some (.cells #[.int .i64 ((rd_T60 l0 a1).f0), .int .i64 ((rd_T60 l0 a1).f1), (.slice A102_2 ((rd_T60 l0 a1).f2).length c102_2)] 60 (0, 0))) ∧ Aside0 (Below w.heap.size w wc))
      case first =>
        have H := HC5.out
        clear HC5
        by_cases c8 : ((rd_T60 l0 a1).f0) < 0
        · rw [if_pos c8] at H
          have c8b0 : decide (((rd_T60 l0 a1).f0) < 0) = true := decide_eq_true c8
          clear c8
          (first | rw [c8b0] | (simp only [i64_w, i32_w]; rw [c8b0]) | skip)
          have H' := Aside0.mk H
          clear H
          have hcz9_0 : w6.cell? ⟨gb103, 0, none⟩ = some (.int .i64 0) := (blk_cell BK103.out 0).trans rfl
          have hcz9_1 : w6.cell? ⟨gb103, 1, none⟩ = some (.int .i64 0) := (blk_cell BK103.out 1).trans rfl
          have hcz9_2 : w6.cell? ⟨gb103, 2, none⟩ = some (.slice none 0 0) := (blk_cell BK103.out 2).trans rfl
          have hfz9_0 := blk_frozen BK103.out 0
          have hfz9_1 := blk_frozen BK103.out 1
          have hfz9_2 := blk_frozen BK103.out 2
          go_wp2
          repeat (go_quiet (fail); try go_wp2)
          go_meet
          case rel => exact ⟨_, (true), (by first | rfl | (simp; done) | (simp [*]; done)), H', ⟨by first | omega | exact Nat.le_refl _⟩, ⟨by (with_reducible repeat (first | refine blk_drewN ?_ _ | refine blk_drew ?_ | refine blk_alloc ?_ _)); refine blk_put (cs := #[.int .i64 ((rd_T60 l0 a1).f0), .int .i64 ((rd_T60 l0 a1).f1), .slice none 0 0]) ?_ 2 _ rfl; (with_reducible repeat (first | refine blk_drewN ?_ _ | refine blk_drew ?_ | refine blk_alloc ?_ _)); refine blk_put (cs := #[.int .i64 ((rd_T60 l0 a1).f0), .int .i64 0, .slice none 0 0]) ?_ 1 _ rfl; (with_reducible repeat (first | refine blk_drewN ?_ _ | refine blk_drew ?_ | refine blk_alloc ?_ _)); refine blk_put (cs := #[.int .i64 0, .int .i64 0, .slice none 0 0]) ?_ 0 _ rfl; (with_reducible repeat (first | refine blk_drewN ?_ _ | refine blk_drew ?_ | refine blk_alloc ?_ _)); exact BK103.out⟩, ⟨by repeat (first | (with_reducible first | exact HB.out | apply below_alloc | apply pw_below_drewN | apply below_drew1 | refine below_set ?_ GE103.out) | exact HB.out)⟩⟩
        · rw [if_neg c8] at H
          have c8b0 : decide (((rd_T60 l0 a1).f0) < 0) = false := decide_eq_false c8
          clear c8
          (first | rw [c8b0] | (simp only [i64_w, i32_w]; rw [c8b0]) | skip)
          by_cases c10 : ((rd_T60 l0 a1).f0) ≥ 64
          · rw [if_pos c10] at H
            have c10b0 : decide (64 ≤ ((rd_T60 l0 a1).f0)) = true := decide_eq_true c10
            clear c10
            have H' := Aside0.mk H
            clear H
            have hcz11_0 : w6.cell? ⟨gb103, 0, none⟩ = some (.int .i64 0) := (blk_cell BK103.out 0).trans rfl
            have hcz11_1 : w6.cell? ⟨gb103, 1, none⟩ = some (.int .i64 0) := (blk_cell BK103.out 1).trans rfl
            have hcz11_2 : w6.cell? ⟨gb103, 2, none⟩ = some (.slice none 0 0) := (blk_cell BK103.out 2).trans rfl
            have hfz11_0 := blk_frozen BK103.out 0
            have hfz11_1 := blk_frozen BK103.out 1
            have hfz11_2 := blk_frozen BK103.out 2
            go_wp2
            repeat (go_quiet (fail); try go_wp2)
            go_meet
            case rel => exact ⟨_, (true), (by first | rfl | (simp; done) | (simp [*]; done)), H', ⟨by first | omega | exact Nat.le_refl _⟩, ⟨by (with_reducible repeat (first | refine blk_drewN ?_ _ | refine blk_drew ?_ | refine blk_alloc ?_ _)); refine blk_put (cs := #[.int .i64 ((rd_T60 l0 a1).f0), .int .i64 ((rd_T60 l0 a1).f1), .slice none 0 0]) ?_ 2 _ rfl; (with_reducible repeat (first | refine blk_drewN ?_ _ | refine blk_drew ?_ | refine blk_alloc ?_ _)); refine blk_put (cs := #[.int .i64 ((rd_T60 l0 a1).f0), .int .i64 0, .slice none 0 0]) ?_ 1 _ rfl; (with_reducible repeat (first | refine blk_drewN ?_ _ | refine blk_drew ?_ | refine blk_alloc ?_ _)); refine blk_put (cs := #[.int .i64 0, .int .i64 0, .slice none 0 0]) ?_ 0 _ rfl; (with_reducible repeat (first | refine blk_drewN ?_ _ | refine blk_drew ?_ | refine blk_alloc ?_ _)); exact BK103.out⟩, ⟨by repeat (first | (with_reducible first | exact HB.out | apply below_alloc | apply pw_below_drewN | apply below_drew1 | refine below_set ?_ GE103.out) | exact HB.out)⟩⟩
          · rw [if_neg c10] at H
            have c10b0 : decide (64 ≤ ((rd_T60 l0 a1).f0)) = false := decide_eq_false c10
            clear c10
            by_cases c12 : ((rd_T60 l0 a1).f1) = 0
            · rw [if_pos c12] at H
              have c12b0 : (((rd_T60 l0 a1).f1) == 0) = true := beq_iff_eq.mpr c12
              have c12b1 : (((rd_T60 l0 a1).f1) != 0) = false := bne_eq_false_iff_eq.mpr c12
              clear c12
              by_cases c13 : (((rd_T60 l0 a1).f2).length : Int) < 1
              · rw [if_pos c13] at H
                have c13b0 : decide ((((rd_T60 l0 a1).f2).length : Int) < 1) = true := decide_eq_true c13
                have c13b1 : decide (((rd_T60 l0 a1).f2).length < 1) = true := decide_eq_true (by omega)
                clear c13
                have H' := Aside0.mk H
                clear H
                have hcz14_0 : w6.cell? ⟨gb103, 0, none⟩ = some (.int .i64 0) := (blk_cell BK103.out 0).trans rfl
                have hcz14_1 : w6.cell? ⟨gb103, 1, none⟩ = some (.int .i64 0) := (blk_cell BK103.out 1).trans rfl
                have hcz14_2 : w6.cell? ⟨gb103, 2, none⟩ = some (.slice none 0 0) := (blk_cell BK103.out 2).trans rfl
                have hfz14_0 := blk_frozen BK103.out 0
                have hfz14_1 := blk_frozen BK103.out 1
                have hfz14_2 := blk_frozen BK103.out 2
                go_wp2
                repeat (go_quiet (fail); try go_wp2)
                go_meet
                case rel => exact ⟨_, (true), (by first | rfl | (simp; done) | (simp [*]; done)), H', ⟨by first | omega | exact Nat.le_refl _⟩, ⟨by (with_reducible repeat (first | refine blk_drewN ?_ _ | refine blk_drew ?_ | refine blk_alloc ?_ _)); refine blk_put (cs := #[.int .i64 ((rd_T60 l0 a1).f0), .int .i64 ((rd_T60 l0 a1).f1), .slice none 0 0]) ?_ 2 _ rfl; (with_reducible repeat (first | refine blk_drewN ?_ _ | refine blk_drew ?_ | refine blk_alloc ?_ _)); refine blk_put (cs := #[.int .i64 ((rd_T60 l0 a1).f0), .int .i64 0, .slice none 0 0]) ?_ 1 _ rfl; (with_reducible repeat (first | refine blk_drewN ?_ _ | refine blk_drew ?_ | refine blk_alloc ?_ _)); refine blk_put (cs := #[.int .i64 0, .int .i64 0, .slice none 0 0]) ?_ 0 _ rfl; (with_reducible repeat (first | refine blk_drewN ?_ _ | refine blk_drew ?_ | refine blk_alloc ?_ _)); exact BK103.out⟩, ⟨by repeat (first | (with_reducible first | exact HB.out | apply below_alloc | apply pw_below_drewN | apply below_drew1 | refine below_set ?_ GE103.out) | exact HB.out)⟩⟩
              · rw [if_neg c13] at H
                have c13b0 : decide ((((rd_T60 l0 a1).f2).length : Int) < 1) = false := decide_eq_false c13
                have c13b1 : decide (((rd_T60 l0 a1).f2).length < 1) = false := decide_eq_false (by omega)
                clear c13
                have H' := Aside0.mk H
                clear H
                have hcz15_0 : w6.cell? ⟨gb103, 0, none⟩ = some (.int .i64 0) := (blk_cell BK103.out 0).trans rfl
                have hcz15_1 : w6.cell? ⟨gb103, 1, none⟩ = some (.int .i64 0) := (blk_cell BK103.out 1).trans rfl
                have hcz15_2 : w6.cell? ⟨gb103, 2, none⟩ = some (.slice none 0 0) := (blk_cell BK103.out 2).trans rfl
                have hfz15_0 := blk_frozen BK103.out 0
                have hfz15_1 := blk_frozen BK103.out 1
                have hfz15_2 := blk_frozen BK103.out 2
                go_wp2
                repeat (go_quiet (fail); try go_wp2)
                go_meet
                case rel => exact ⟨_, (decide ((((rd_T60 l0 a1).f2).length : Int) > 16)), (by first | rfl | (simp; done) | (simp [*]; done)), H', ⟨by first | omega | exact Nat.le_refl _⟩, ⟨by (with_reducible repeat (first | refine blk_drewN ?_ _ | refine blk_drew ?_ | refine blk_alloc ?_ _)); refine blk_put (cs := #[.int .i64 ((rd_T60 l0 a1).f0), .int .i64 ((rd_T60 l0 a1).f1), .slice none 0 0]) ?_ 2 _ rfl; (with_reducible repeat (first | refine blk_drewN ?_ _ | refine blk_drew ?_ | refine blk_alloc ?_ _)); refine blk_put (cs := #[.int .i64 ((rd_T60 l0 a1).f0), .int .i64 0, .slice none 0 0]) ?_ 1 _ rfl; (with_reducible repeat (first | refine blk_drewN ?_ _ | refine blk_drew ?_ | refine blk_alloc ?_ _)); refine blk_put (cs := #[.int .i64 0, .int .i64 0, .slice none 0 0]) ?_ 0 _ rfl; (with_reducible repeat (first | refine blk_drewN ?_ _ | refine blk_drew ?_ | refine blk_alloc ?_ _)); exact BK103.out⟩, ⟨by repeat (first | (with_reducible first | exact HB.out | apply below_alloc | apply pw_below_drewN | apply below_drew1 | refine below_set ?_ GE103.out) | exact HB.out)⟩⟩
            · rw [if_neg c12] at H
              have c12b0 : (((rd_T60 l0 a1).f1) == 0) = false := beq_eq_false_iff_ne.mpr c12
              have c12b1 : (((rd_T60 l0 a1).f1) != 0) = true := bne_iff_ne.mpr c12
              have H' := Aside0.mk H
              clear H
              have hcz16_0 : w6.cell? ⟨gb103, 0, none⟩ = some (.int .i64 0) := (blk_cell BK103.out 0).trans rfl
              have hcz16_1 : w6.cell? ⟨gb103, 1, none⟩ = some (.int .i64 0) := (blk_cell BK103.out 1).trans rfl
              have hcz16_2 : w6.cell? ⟨gb103, 2, none⟩ = some (.slice none 0 0) := (blk_cell BK103.out 2).trans rfl
              have hfz16_0 := blk_frozen BK103.out 0
              have hfz16_1 := blk_frozen BK103.out 1
              have hfz16_2 := blk_frozen BK103.out 2
              go_wp2
              repeat (go_quiet (fail); try go_wp2)
              go_meet
              case rel => exact ⟨_, (true), (by first | rfl | (simp; done) | (simp [*]; done)), H', ⟨by first | omega | exact Nat.le_refl _⟩, ⟨by (with_reducible repeat (first | refine blk_drewN ?_ _ | refine blk_drew ?_ | refine blk_alloc ?_ _)); refine blk_put (cs := #[.int .i64 ((rd_T60 l0 a1).f0), .int .i64 ((rd_T60 l0 a1).f1), .slice none 0 0]) ?_ 2 _ rfl; (with_reducible repeat (first | refine blk_drewN ?_ _ | refine blk_drew ?_ | refine blk_alloc ?_ _)); refine blk_put (cs := #[.int .i64 ((rd_T60 l0 a1).f0), .int .i64 0, .slice none 0 0]) ?_ 1 _ rfl; (with_reducible repeat (first | refine blk_drewN ?_ _ | refine blk_drew ?_ | refine blk_alloc ?_ _)); refine blk_put (cs := #[.int .i64 0, .int .i64 0, .slice none 0 0]) ?_ 0 _ rfl; (with_reducible repeat (first | refine blk_drewN ?_ _ | refine blk_drew ?_ | refine blk_alloc ?_ _)); exact BK103.out⟩, ⟨by repeat (first | (with_reducible first | exact HB.out | apply below_alloc | apply pw_below_drewN | apply below_drew1 | refine below_set ?_ GE103.out) | exact HB.out)⟩⟩
      case rest =>
        clear HC5
        try clear c1
        try clear p1
        try clear q1
        try clear hx1
        try clear p2
        try clear c3
        try clear c3b0
        try clear c4
        try clear c4b0
        try clear c6
        try clear c8
        try clear c8b0
        try clear c10
        try clear c10b0
        try clear p10
        try clear q10
        try clear hx10
        try clear c12
        try clear c12b0
        try clear c12b1
        try clear c13
        try clear c13b0
        try clear c13b1
        try clear hcz11_0
        try clear hcz11_1
        try clear hcz11_2
        try clear hcz14_0
        try clear hcz14_1
        try clear hcz14_2
        try clear hcz15_0
        try clear hcz15_1
        try clear hcz15_2
        try clear hcz16_0
        try clear hcz16_1
        try clear hcz16_2
        try clear hcz7_0
        try clear hcz7_1
        try clear hcz7_2
        try clear hcz9_0
        try clear hcz9_1
        try clear hcz9_2
        try clear hfz11_0
        try clear hfz11_1
        try clear hfz11_2
        try clear hfz14_0
        try clear hfz14_1
        try clear hfz14_2
        try clear hfz15_0
        try clear hfz15_1
        try clear hfz15_2
        try clear hfz16_0
        try clear hfz16_1
        try clear hfz16_2
        try clear hfz7_0
        try clear hfz7_1
        try clear hfz7_2
        try clear hfz9_0
        try clear hfz9_1
        try clear hfz9_2
        try clear hx102_0
        try clear hx102_1
        try clear hx102_2
        try clear p102
        try clear q102
        obtain ⟨kq, x36_4, rfl, HA, HJ4, BK103, HB⟩ := hcut
        cases kq with
        | zero => exact absurd HA.out (by simp [diagram_branch.j0])
        | succ kj4 =>
          have H := HA.out
          clear HA
          simp only [diagram_branch.j0] at H
          by_cases c17 : x36_4 = true
          · subst c17
            have H1 : (some false) = some r := by rw [if_pos rfl] at H; exact H
            clear H
            have H := H1
            clear H1
            obtain rfl := Option.some.inj H
            go_wp2
            repeat (go_quiet (fail); try go_wp2)
            go_ret
            exact ⟨by first | rfl | (simp [errW_none, errW_some] <;> rfl) | (simp [*, errW_none, errW_some] <;> rfl), by repeat (first | (with_reducible first | exact HB.out | apply below_alloc | apply pw_below_drewN | apply below_drew1 | refine below_set ?_ GE103.out) | exact HB.out)⟩
          · replace c17 := Bool.eq_false_iff.mpr c17
            subst c17
            have H1 : (diagram_branch.l0 kj4 l0 a1 ((rd_T60 l0 a1).f2) (((rd_T60 l0 a1).f2).length : Int) 0 ((rd_T60 l0 a1).f0) ((rd_T60 l0 a1).f1) ((rd_T60 l0 a1).f2)) = some r := by rw [if_neg (show ¬ (false = true) by decide)] at H; exact H
            clear H
            have H := H1
            clear H1
            have H' := Aside0.mk H
            clear H
            have hcz18_0 : wc.cell? ⟨gb103, 0, none⟩ = some (.int .i64 ((rd_T60 l0 a1).f0)) := (blk_cell BK103.out 0).trans rfl
            have hcz18_1 : wc.cell? ⟨gb103, 1, none⟩ = some (.int .i64 ((rd_T60 l0 a1).f1)) := (blk_cell BK103.out 1).trans rfl
            have hcz18_2 : wc.cell? ⟨gb103, 2, none⟩ = some (.slice A102_2 ((rd_T60 l0 a1).f2).length c102_2) := (blk_cell BK103.out 2).trans rfl
            have hfz18_0 := blk_frozen BK103.out 0
            have hfz18_1 := blk_frozen BK103.out 1
            have hfz18_2 := blk_frozen BK103.out 2
            go_wp2
            repeat (go_quiet (fail); try go_wp2)
            go_loopg [40] kj4 (fun kq v40 w' => ∃ (x40_2 : Int), v40 = .int .i64 x40_2 ∧ Aside0 (diagram_branch.l0 kq l0 a1 ((rd_T60 l0 a1).f2) (((rd_T60 l0 a1).f2).length : Int) x40_2 ((rd_T60 l0 a1).f0) ((rd_T60 l0 a1).f1) ((rd_T60 l0 a1).f2) = some r) ∧ Aside0 (kq ≤ kj4) ∧ Aside0 (w'.heap[gb103]? = some (.cells #[.int .i64 ((rd_T60 l0 a1).f0), .int .i64 ((rd_T60 l0 a1).f1), (.slice A102_2 ((rd_T60 l0 a1).f2).length c102_2)] 60 (0, 0))) ∧ Aside0 (Below w.heap.size w w'))
            case atStart => exact ⟨(0), (by first | rfl | (simp; done) | (simp [*]; done)), H', ⟨Nat.le_refl _⟩, ⟨by (with_reducible repeat (first | refine blk_drewN ?_ _ | refine blk_drew ?_ | refine blk_alloc ?_ _)); exact BK103.out⟩, ⟨by repeat (first | (with_reducible first | exact HB.out | apply below_alloc | apply pw_below_drewN | apply below_drew1 | refine below_set ?_ GE103.out) | exact HB.out)⟩⟩
            case round =>
              clear H'
              try clear c1
              try clear p1
              try clear q1
              try clear hx1
              try clear p2
              try clear c3
              try clear c3b0
              try clear c4
              try clear c4b0
              try clear c6
              try clear c8
              try clear c8b0
              try clear c10
              try clear c10b0
              try clear p10
              try clear q10
              try clear hx10
              try clear c12
              try clear c12b0
              try clear c12b1
              try clear c13
              try clear c13b0
              try clear c13b1
              try clear c17
              try clear hcz11_0
              try clear hcz11_1
              try clear hcz11_2
              try clear hcz14_0
              try clear hcz14_1
              try clear hcz14_2
              try clear hcz15_0
              try clear hcz15_1
              try clear hcz15_2
              try clear hcz16_0
              try clear hcz16_1
              try clear hcz16_2
              try clear hcz18_0
              try clear hcz18_1
              try clear hcz18_2
              try clear hcz7_0
              try clear hcz7_1
              try clear hcz7_2
              try clear hcz9_0
              try clear hcz9_1
              try clear hcz9_2
              try clear hfz11_0
              try clear hfz11_1
              try clear hfz11_2
              try clear hfz14_0
              try clear hfz14_1
              try clear hfz14_2
              try clear hfz15_0
              try clear hfz15_1
              try clear hfz15_2
              try clear hfz16_0
              try clear hfz16_1
              try clear hfz16_2
              try clear hfz18_0
              try clear hfz18_1
              try clear hfz18_2
              try clear hfz7_0
              try clear hfz7_1
              try clear hfz7_2
              try clear hfz9_0
              try clear hfz9_1
              try clear hfz9_2
              try clear hx102_0
              try clear hx102_1
              try clear hx102_2
              try clear p1
              try clear p10
              try clear p102
              try clear p2
              try clear q1
              try clear q10
              try clear q102
              obtain ⟨x40_2, rfl, HA, HK2, BK103, HB⟩ := hrel
              cases gk with
              | zero => exact absurd HA.out (by simp [diagram_branch.l0])
              | succ k2 =>
                have H := HA.out
                clear HA
                simp only [diagram_branch.l0] at H
                by_cases c19 : x40_2 < (((rd_T60 l0 a1).f2).length : Int)
                · rw [if_pos c19] at H
                  have c19b0 : decide (x40_2 < (((rd_T60 l0 a1).f2).length : Int)) = true := decide_eq_true c19
                  clear c19
                  by_cases c20 : 0 ≤ x40_2
                  · rw [if_pos c20] at H
                    have c20b0 : decide (0 ≤ x40_2) = true := decide_eq_true c20
                    clear c20
                    by_cases c21 : x40_2 < (((rd_T60 l0 a1).f2).length : Int)
                    · rw [if_pos c21] at H
                      have c21b0 : decide (x40_2 < (((rd_T60 l0 a1).f2).length : Int)) = true := decide_eq_true c21
                      clear c21
                      by_cases c22 : (rd ((rd_T60 l0 a1).f2) x40_2) < 0
                      · rw [if_pos c22] at H
                        have c22b0 : decide ((rd ((rd_T60 l0 a1).f2) x40_2) < 0) = true := decide_eq_true c22
                        clear c22
                        obtain rfl := Option.some.inj H
                        have p104 : 0 ≤ (x40_2 : Int) := of_decide_eq_true (by first | (with_reducible assumption) | assumption)
                        have q104 : x40_2 < (((rd_T60 l0 a1).f2).length : Int) := of_decide_eq_true (by first | (with_reducible assumption) | assumption)
                        obtain ⟨ad104, e104, hx104_0⟩ := Kd.at_int HR102_2.out x40_2 p104 q104
                        cases e104
                        replace hx104_0 := (HB.out.cell (World.block_lt_of_cell? w _ hx104_0)).trans hx104_0
                        replace p104 := eq_true p104
                        replace q104 := eq_true q104
                        go_wp2
                        repeat (go_quiet (fail); try go_wp2)
                        go_ret
                        exact ⟨by first | rfl | (simp [errW_none, errW_some] <;> rfl) | (simp [*, errW_none, errW_some] <;> rfl), by repeat (first | (with_reducible first | exact HB.out | apply below_alloc | apply pw_below_drewN | apply below_drew1 | refine below_set ?_ GE103.out) | exact HB.out)⟩
                      · rw [if_neg c22] at H
                        have c22b0 : decide ((rd ((rd_T60 l0 a1).f2) x40_2) < 0) = false := decide_eq_false c22
                        clear c22
                        by_cases c23 : (rd ((rd_T60 l0 a1).f2) x40_2) ≥ a1
                        · rw [if_pos c23] at H
                          have c23b0 : decide (a1 ≤ (rd ((rd_T60 l0 a1).f2) x40_2)) = true := decide_eq_true c23
                          clear c23
                          obtain rfl := Option.some.inj H
                          have p104 : 0 ≤ (x40_2 : Int) := of_decide_eq_true (by first | (with_reducible assumption) | assumption)
                          have q104 : x40_2 < (((rd_T60 l0 a1).f2).length : Int) := of_decide_eq_true (by first | (with_reducible assumption) | assumption)
                          obtain ⟨ad104, e104, hx104_0⟩ := Kd.at_int HR102_2.out x40_2 p104 q104
                          cases e104
                          replace hx104_0 := (HB.out.cell (World.block_lt_of_cell? w _ hx104_0)).trans hx104_0
                          replace p104 := eq_true p104
                          replace q104 := eq_true q104
                          go_wp2
                          repeat (go_quiet (fail); try go_wp2)
                          go_ret
                          exact ⟨by first | rfl | (simp [errW_none, errW_some] <;> rfl) | (simp [*, errW_none, errW_some] <;> rfl), by repeat (first | (with_reducible first | exact HB.out | apply below_alloc | apply pw_below_drewN | apply below_drew1 | refine below_set ?_ GE103.out) | exact HB.out)⟩
                        · rw [if_neg c23] at H
                          have c23b0 : decide (a1 ≤ (rd ((rd_T60 l0 a1).f2) x40_2)) = false := decide_eq_false c23
                          clear c23
                          by_cases c24 : 0 ≤ (rd ((rd_T60 l0 a1).f2) x40_2)
                          · rw [if_pos c24] at H
                            have c24b0 : decide (0 ≤ (rd ((rd_T60 l0 a1).f2) x40_2)) = true := decide_eq_true c24
                            clear c24
                            by_cases c25 : (rd ((rd_T60 l0 a1).f2) x40_2) < (l0.length : Int)
                            · rw [if_pos c25] at H
                              have c25b0 : decide ((rd ((rd_T60 l0 a1).f2) x40_2) < (l0.length : Int)) = true := decide_eq_true c25
                              clear c25
                              by_cases c26 : ((rd_T60 l0 (rd ((rd_T60 l0 a1).f2) x40_2)).f0) ≥ 0
                              · rw [if_pos c26] at H
                                have c26b0 : decide (0 ≤ ((rd_T60 l0 (rd ((rd_T60 l0 a1).f2) x40_2)).f0)) = true := decide_eq_true c26
                                clear c26
                                by_cases c27 : ((rd_T60 l0 (rd ((rd_T60 l0 a1).f2) x40_2)).f0) ≤ ((rd_T60 l0 a1).f0)
                                · rw [if_pos c27] at H
                                  have c27b0 : decide (((rd_T60 l0 (rd ((rd_T60 l0 a1).f2) x40_2)).f0) ≤ ((rd_T60 l0 a1).f0)) = true := decide_eq_true c27
                                  clear c27
                                  obtain rfl := Option.some.inj H
                                  have p104 : 0 ≤ (x40_2 : Int) := of_decide_eq_true (by first | (with_reducible assumption) | assumption)
                                  have q104 : x40_2 < (((rd_T60 l0 a1).f2).length : Int) := of_decide_eq_true (by first | (with_reducible assumption) | assumption)
                                  obtain ⟨ad104, e104, hx104_0⟩ := Kd.at_int HR102_2.out x40_2 p104 q104
                                  cases e104
                                  replace hx104_0 := (HB.out.cell (World.block_lt_of_cell? w _ hx104_0)).trans hx104_0
                                  replace p104 := eq_true p104
                                  replace q104 := eq_true q104
                                  have p105 : 0 ≤ ((rd ((rd_T60 l0 a1).f2) x40_2) : Int) := of_decide_eq_true (by first | (with_reducible assumption) | assumption)
                                  have q105 : (rd ((rd_T60 l0 a1).f2) x40_2) < (l0.length : Int) := of_decide_eq_true (by first | (with_reducible assumption) | assumption)
                                  obtain ⟨ad105, A105_2, c105_2, e105, hx105_0, hx105_1, hx105_2, hl105_2, hi105_2⟩ := at_T60 HR0.out (rd ((rd_T60 l0 a1).f2) x40_2) p105 q105
                                  obtain rfl : ad102 = ad105 := (by injection e105)
                                  replace hx105_0 := (HB.out.cell (World.block_lt_of_cell? w _ hx105_0)).trans hx105_0
                                  replace hx105_1 := (HB.out.cell (World.block_lt_of_cell? w _ hx105_1)).trans hx105_1
                                  replace hx105_2 := (HB.out.cell (World.block_lt_of_cell? w _ hx105_2)).trans hx105_2
                                  have HR105_2 := Aside0.mk hi105_2
                                  have HC105_2 := Aside0.mk hl105_2
                                  clear hi105_2 hl105_2
                                  replace p105 := eq_true p105
                                  replace q105 := eq_true q105
                                  have p106 : 0 ≤ ((rd ((rd_T60 l0 a1).f2) x40_2) : Int) := of_decide_eq_true (by first | (with_reducible assumption) | assumption)
                                  have q106 : (rd ((rd_T60 l0 a1).f2) x40_2) < (l0.length : Int) := of_decide_eq_true (by first | (with_reducible assumption) | assumption)
                                  obtain ⟨ad106, A106_2, c106_2, e106, hx106_0, hx106_1, hx106_2, hl106_2, hi106_2⟩ := at_T60 HR0.out (rd ((rd_T60 l0 a1).f2) x40_2) p106 q106
                                  obtain rfl : ad102 = ad106 := (by injection e106)
                                  replace hx106_0 := (HB.out.cell (World.block_lt_of_cell? w _ hx106_0)).trans hx106_0
                                  replace hx106_1 := (HB.out.cell (World.block_lt_of_cell? w _ hx106_1)).trans hx106_1
                                  replace hx106_2 := (HB.out.cell (World.block_lt_of_cell? w _ hx106_2)).trans hx106_2
                                  have HR106_2 := Aside0.mk hi106_2
                                  have HC106_2 := Aside0.mk hl106_2
                                  clear hi106_2 hl106_2
                                  replace p106 := eq_true p106
                                  replace q106 := eq_true q106
                                  have ea_ := Option.some.inj (hx105_2.symm.trans hx106_2)
                                  injection ea_ with ea_ en_ ec_
                                  subst ea_
                                  subst ec_
                                  clear en_
                                  have hcz28_0 : wr.cell? ⟨gb103, 0, none⟩ = some (.int .i64 ((rd_T60 l0 a1).f0)) := (blk_cell BK103.out 0).trans rfl
                                  have hcz28_1 : wr.cell? ⟨gb103, 1, none⟩ = some (.int .i64 ((rd_T60 l0 a1).f1)) := (blk_cell BK103.out 1).trans rfl
                                  have hcz28_2 : wr.cell? ⟨gb103, 2, none⟩ = some (.slice (some ad104) ((rd_T60 l0 a1).f2).length c102_2) := (blk_cell BK103.out 2).trans rfl
                                  have hfz28_0 := blk_frozen BK103.out 0
                                  have hfz28_1 := blk_frozen BK103.out 1
                                  have hfz28_2 := blk_frozen BK103.out 2
                                  go_wp2
                                  repeat (go_quiet (fail); try go_wp2)
                                  go_ret
                                  exact ⟨by first | rfl | (simp [errW_none, errW_some] <;> rfl) | (simp [*, errW_none, errW_some] <;> rfl), by repeat (first | (with_reducible first | exact HB.out | apply below_alloc | apply pw_below_drewN | apply below_drew1 | refine below_set ?_ GE103.out) | exact HB.out)⟩
                                · rw [if_neg c27] at H
                                  have c27b0 : decide (((rd_T60 l0 (rd ((rd_T60 l0 a1).f2) x40_2)).f0) ≤ ((rd_T60 l0 a1).f0)) = false := decide_eq_false c27
                                  clear c27
                                  have H' := Aside0.mk H
                                  clear H
                                  have p104 : 0 ≤ (x40_2 : Int) := of_decide_eq_true (by first | (with_reducible assumption) | assumption)
                                  have q104 : x40_2 < (((rd_T60 l0 a1).f2).length : Int) := of_decide_eq_true (by first | (with_reducible assumption) | assumption)
                                  obtain ⟨ad104, e104, hx104_0⟩ := Kd.at_int HR102_2.out x40_2 p104 q104
                                  cases e104
                                  replace hx104_0 := (HB.out.cell (World.block_lt_of_cell? w _ hx104_0)).trans hx104_0
                                  replace p104 := eq_true p104
                                  replace q104 := eq_true q104
                                  have p105 : 0 ≤ ((rd ((rd_T60 l0 a1).f2) x40_2) : Int) := of_decide_eq_true (by first | (with_reducible assumption) | assumption)
                                  have q105 : (rd ((rd_T60 l0 a1).f2) x40_2) < (l0.length : Int) := of_decide_eq_true (by first | (with_reducible assumption) | assumption)
                                  obtain ⟨ad105, A105_2, c105_2, e105, hx105_0, hx105_1, hx105_2, hl105_2, hi105_2⟩ := at_T60 HR0.out (rd ((rd_T60 l0 a1).f2) x40_2) p105 q105
                                  obtain rfl : ad102 = ad105 := (by injection e105)
                                  replace hx105_0 := (HB.out.cell (World.block_lt_of_cell? w _ hx105_0)).trans hx105_0
                                  replace hx105_1 := (HB.out.cell (World.block_lt_of_cell? w _ hx105_1)).trans hx105_1
                                  replace hx105_2 := (HB.out.cell (World.block_lt_of_cell? w _ hx105_2)).trans hx105_2
                                  have HR105_2 := Aside0.mk hi105_2
                                  have HC105_2 := Aside0.mk hl105_2
                                  clear hi105_2 hl105_2
                                  replace p105 := eq_true p105
                                  replace q105 := eq_true q105
                                  have p106 : 0 ≤ ((rd ((rd_T60 l0 a1).f2) x40_2) : Int) := of_decide_eq_true (by first | (with_reducible assumption) | assumption)
                                  have q106 : (rd ((rd_T60 l0 a1).f2) x40_2) < (l0.length : Int) := of_decide_eq_true (by first | (with_reducible assumption) | assumption)
                                  obtain ⟨ad106, A106_2, c106_2, e106, hx106_0, hx106_1, hx106_2, hl106_2, hi106_2⟩ := at_T60 HR0.out (rd ((rd_T60 l0 a1).f2) x40_2) p106 q106
                                  obtain rfl : ad102 = ad106 := (by injection e106)
                                  replace hx106_0 := (HB.out.cell (World.block_lt_of_cell? w _ hx106_0)).trans hx106_0
                                  replace hx106_1 := (HB.out.cell (World.block_lt_of_cell? w _ hx106_1)).trans hx106_1
                                  replace hx106_2 := (HB.out.cell (World.block_lt_of_cell? w _ hx106_2)).trans hx106_2
                                  have HR106_2 := Aside0.mk hi106_2
                                  have HC106_2 := Aside0.mk hl106_2
                                  clear hi106_2 hl106_2
                                  replace p106 := eq_true p106
                                  replace q106 := eq_true q106
                                  have ea_ := Option.some.inj (hx105_2.symm.trans hx106_2)
                                  injection ea_ with ea_ en_ ec_
                                  subst ea_
                                  subst ec_
                                  clear en_
                                  have hcz29_0 : wr.cell? ⟨gb103, 0, none⟩ = some (.int .i64 ((rd_T60 l0 a1).f0)) := (blk_cell BK103.out 0).trans rfl
                                  have hcz29_1 : wr.cell? ⟨gb103, 1, none⟩ = some (.int .i64 ((rd_T60 l0 a1).f1)) := (blk_cell BK103.out 1).trans rfl
                                  have hcz29_2 : wr.cell? ⟨gb103, 2, none⟩ = some (.slice (some ad104) ((rd_T60 l0 a1).f2).length c102_2) := (blk_cell BK103.out 2).trans rfl
                                  have hfz29_0 := blk_frozen BK103.out 0
                                  have hfz29_1 := blk_frozen BK103.out 1
                                  have hfz29_2 := blk_frozen BK103.out 2
                                  go_wp2
                                  repeat (go_quiet (fail); try go_wp2)
                                  go_roundg k2
                                  case measure => have := HJ4.out; have := HK2.out; omega
                                  case rel => exact ⟨(wrap64 (x40_2 + 1)), (by first | rfl | (simp; done) | (simp [*]; done)), H', ⟨by have := HJ4.out; have := HK2.out; omega⟩, ⟨by (with_reducible repeat (first | refine blk_drewN ?_ _ | refine blk_drew ?_ | refine blk_alloc ?_ _)); exact BK103.out⟩, ⟨by repeat (first | (with_reducible first | exact HB.out | apply below_alloc | apply pw_below_drewN | apply below_drew1 | refine below_set ?_ GE103.out) | exact HB.out)⟩⟩
                              · rw [if_neg c26] at H
                                have c26b0 : decide (0 ≤ ((rd_T60 l0 (rd ((rd_T60 l0 a1).f2) x40_2)).f0)) = false := decide_eq_false c26
                                clear c26
                                have H' := Aside0.mk H
                                clear H
                                have p104 : 0 ≤ (x40_2 : Int) := of_decide_eq_true (by first | (with_reducible assumption) | assumption)
                                have q104 : x40_2 < (((rd_T60 l0 a1).f2).length : Int) := of_decide_eq_true (by first | (with_reducible assumption) | assumption)
                                obtain ⟨ad104, e104, hx104_0⟩ := Kd.at_int HR102_2.out x40_2 p104 q104
                                cases e104
                                replace hx104_0 := (HB.out.cell (World.block_lt_of_cell? w _ hx104_0)).trans hx104_0
                                replace p104 := eq_true p104
                                replace q104 := eq_true q104
                                have p105 : 0 ≤ ((rd ((rd_T60 l0 a1).f2) x40_2) : Int) := of_decide_eq_true (by first | (with_reducible assumption) | assumption)
                                have q105 : (rd ((rd_T60 l0 a1).f2) x40_2) < (l0.length : Int) := of_decide_eq_true (by first | (with_reducible assumption) | assumption)
                                obtain ⟨ad105, A105_2, c105_2, e105, hx105_0, hx105_1, hx105_2, hl105_2, hi105_2⟩ := at_T60 HR0.out (rd ((rd_T60 l0 a1).f2) x40_2) p105 q105
                                obtain rfl : ad102 = ad105 := (by injection e105)
                                replace hx105_0 := (HB.out.cell (World.block_lt_of_cell? w _ hx105_0)).trans hx105_0
                                replace hx105_1 := (HB.out.cell (World.block_lt_of_cell? w _ hx105_1)).trans hx105_1
                                replace hx105_2 := (HB.out.cell (World.block_lt_of_cell? w _ hx105_2)).trans hx105_2
                                have HR105_2 := Aside0.mk hi105_2
                                have HC105_2 := Aside0.mk hl105_2
                                clear hi105_2 hl105_2
                                replace p105 := eq_true p105
                                replace q105 := eq_true q105
                                go_wp2
                                repeat (go_quiet (fail); try go_wp2)
                                go_roundg k2
                                case measure => have := HJ4.out; have := HK2.out; omega
                                case rel => exact ⟨(wrap64 (x40_2 + 1)), (by first | rfl | (simp; done) | (simp [*]; done)), H', ⟨by have := HJ4.out; have := HK2.out; omega⟩, ⟨by (with_reducible repeat (first | refine blk_drewN ?_ _ | refine blk_drew ?_ | refine blk_alloc ?_ _)); exact BK103.out⟩, ⟨by repeat (first | (with_reducible first | exact HB.out | apply below_alloc | apply pw_below_drewN | apply below_drew1 | refine below_set ?_ GE103.out) | exact HB.out)⟩⟩
                            · rw [if_neg c25] at H
                              exact absurd H (by simp)
                          · rw [if_neg c24] at H
                            exact absurd H (by simp)
                    · rw [if_neg c21] at H
                      exact absurd H (by simp)
                  · rw [if_neg c20] at H
                    exact absurd H (by simp)
                · rw [if_neg c19] at H
                  have c19b0 : decide (x40_2 < (((rd_T60 l0 a1).f2).length : Int)) = false := decide_eq_false c19
                  clear c19
                  obtain rfl := Option.some.inj H
                  go_wp2
                  repeat (go_quiet (fail); try go_wp2)
                  go_ret
                  exact ⟨by first | rfl | (simp [errW_none, errW_some] <;> rfl) | (simp [*, errW_none, errW_some] <;> rfl), by repeat (first | (with_reducible first | exact HB.out | apply below_alloc | apply pw_below_drewN | apply below_drew1 | refine below_set ?_ GE103.out) | exact HB.out)⟩
    · rw [if_neg c4] at H
      exact absurd H (by simp)
  · rw [if_neg c3] at H
    exact absurd H (by simp)

end Go.Proofs.YtopbjginpmdebaaDoor.K
namespace Go.Proofs.YtopbjginpmdebaaDoor.K
set_option linter.unusedVariables false
set_option linter.unusedSimpArgs false
open Go Go.Lib

/-- Two texts without a mark, each followed by nothing or by the mark. -/
theorem split_mark (m : UInt8) : ∀ (l l' r r' : List UInt8), (∀ x ∈ l, x ≠ m) → (∀ x ∈ l', x ≠ m) → (∀ x, r.head? = some x → x = m) → (∀ x, r'.head? = some x → x = m) → l ++ r = l' ++ r' → l = l' ∧ r = r'
  | [], [], r, r', _, _, _, _, h => ⟨rfl, h⟩
  | [], y :: l', r, r', _, h2, h3, _, h => by
    have : r.head? = some y := by rw [List.nil_append] at h; rw [h]; rfl
    exact absurd (h3 y this) (h2 y List.mem_cons_self)
  | x :: l, [], r, r', h1, _, _, h4, h => by
    have : r'.head? = some x := by rw [List.nil_append] at h; rw [← h]; rfl
    exact absurd (h4 x this) (h1 x List.mem_cons_self)
  | x :: l, y :: l', r, r', h1, h2, h3, h4, h => by
    simp only [List.cons_append, List.cons.injEq] at h
    obtain ⟨rfl, h⟩ := h
    obtain ⟨rfl, hr⟩ := split_mark m l l' r r' (fun x hx => h1 x (List.mem_cons_of_mem _ hx)) (fun x hx => h2 x (List.mem_cons_of_mem _ hx)) h3 h4 h
    exact ⟨rfl, hr⟩

/-- what a numeral's digits say -/
def valD (l : List UInt8) : Nat := l.foldl (fun a d => a * 10 + (d.toNat - 48)) 0
theorem valD_snoc (l : List UInt8) (d : UInt8) : valD (l ++ [d]) = valD l * 10 + (d.toNat - 48) := by simp [valD]
theorem digit_toNat {i : Nat} (h : i < 10) : (UInt8.ofNat (48 + i)).toNat = 48 + i := by
  rw [UInt8.toNat_ofNat']; exact Nat.mod_eq_of_lt (by omega)
theorem valD_dec (u : Nat) : valD (decDigits u) = u := by
  induction u using Nat.strongRecOn with
  | _ u ih =>
    by_cases h : u < 10
    · rw [decDigits, dif_pos h]
      show (0 * 10 + ((UInt8.ofNat (48 + u)).toNat - 48)) = u
      rw [digit_toNat h]; omega
    · rw [decDigits, dif_neg h, valD_snoc, ih (u / 10) (by omega), digit_toNat (by omega)]; omega
theorem dec_digits (u : Nat) : ∀ x ∈ decDigits u, 48 ≤ x.toNat ∧ x.toNat ≤ 57 := by
  induction u using Nat.strongRecOn with
  | _ u ih =>
    intro x hx
    by_cases h : u < 10
    · rw [decDigits, dif_pos h, List.mem_singleton] at hx
      subst hx; rw [digit_toNat h]; omega
    · rw [decDigits, dif_neg h, List.mem_append, List.mem_singleton] at hx
      rcases hx with hx | rfl
      · exact ih (u / 10) (by omega) x hx
      · rw [digit_toNat (by omega)]; omega
theorem itoa_inj {a b : Int} (h : itoa a = itoa b) : a = b := by
  unfold itoa at h
  have no45 : ∀ u l, (45 : UInt8) :: l ≠ decDigits u := by
    intro u l e
    have := dec_digits u 45 (by rw [← e]; exact List.mem_cons_self)
    have h45 : (45 : UInt8).toNat = 45 := rfl
    omega
  by_cases ha : a < 0 <;> by_cases hb : b < 0
  · rw [if_pos ha, if_pos hb] at h
    have := congrArg valD (List.cons.inj h).2
    rw [valD_dec, valD_dec] at this; omega
  · rw [if_pos ha, if_neg hb] at h; exact absurd h (no45 _ _)
  · rw [if_neg ha, if_pos hb] at h; exact absurd h.symm (no45 _ _)
  · rw [if_neg ha, if_neg hb] at h
    have := congrArg valD h
    rw [valD_dec, valD_dec] at this; omega
theorem itoa_no32 (a : Int) : ∀ x ∈ itoa a, x ≠ 32 := by
  intro x hx e
  subst e
  have h32 : (32 : UInt8).toNat = 32 := rfl
  unfold itoa at hx
  split at hx
  · rcases List.mem_cons.1 hx with h | h
    · exact absurd h (by decide)
    · have := dec_digits _ _ h; omega
  · have := dec_digits _ _ hx; omega

/-- numbers, each behind a blank -/
def spaced (l : List Int) : List UInt8 := (l.map fun x => 32 :: itoa x).flatten
theorem spaced_snoc (l : List Int) (x : Int) : spaced (l ++ [x]) = spaced l ++ 32 :: itoa x := by simp [spaced]
theorem spaced_head (l : List Int) : ∀ x, (spaced l).head? = some x → x = 32 := by
  intro x h
  cases l with
  | nil => simp [spaced] at h
  | cons a l => simp [spaced] at h; exact h.symm
theorem spaced_inj : ∀ (l l' : List Int), spaced l = spaced l' → l = l'
  | [], [], _ => rfl
  | [], b :: l', h => by simp [spaced] at h
  | a :: l, [], h => by simp [spaced] at h
  | a :: l, b :: l', h => by
    have h' : itoa a ++ spaced l = itoa b ++ spaced l' := by simpa [spaced] using h
    obtain ⟨h1, h2⟩ := split_mark 32 _ _ _ _ (itoa_no32 a) (itoa_no32 b) (spaced_head l) (spaced_head l') h'
    rw [itoa_inj h1, spaced_inj l l' h2]
/-- a node's key: its site, its value, its kids -/
def keyL (site : Int) (rest : List Int) : List UInt8 := itoa site ++ spaced rest
theorem keyL_inj {s s' : Int} {l l' : List Int} (h : keyL s l = keyL s' l') : s = s' ∧ l = l' := by
  obtain ⟨h1, h2⟩ := split_mark 32 _ _ _ _ (itoa_no32 s) (itoa_no32 s') (spaced_head l) (spaced_head l') h
  exact ⟨itoa_inj h1, spaced_inj _ _ h2⟩
end Go.Proofs.YtopbjginpmdebaaDoor.K
namespace Go.Proofs.YtopbjginpmdebaaDoor.K
set_option linter.unusedVariables false
set_option linter.unusedSimpArgs false
abbrev Nd := S60
theorem nd_ext : ∀ {n m : Nd}, n.f0 = m.f0 → n.f1 = m.f1 → n.f2 = m.f2 → n = m
  | ⟨_, _, _⟩, ⟨_, _, _⟩, rfl, rfl, rfl => rfl
instance : DecidableEq Nd := fun a b => if h : a.f0 = b.f0 ∧ a.f1 = b.f1 ∧ a.f2 = b.f2 then .isTrue (nd_ext h.1 h.2.1 h.2.2) else .isFalse (fun e => h (by subst e; exact ⟨rfl, rfl, rfl⟩))
instance : Inhabited Nd := ⟨⟨0, 0, []⟩⟩

abbrev PM := Int → Option Int
def upd (g : PM) (i v : Int) : PM := fun x => if x = i then some v else g x
def nth (u : List Nd) (i : Int) : Nd := u.getD i.toNat ⟨0, 0, []⟩
def mp (g : PM) (l : List Int) : List Int := l.map fun k => (g k).getD 0
/-- each kid lies ahead of its parent -/
def Down (u : List Nd) : Prop := ∀ i : Nat, i < u.length → ∀ k ∈ (nth u i).f2, 0 ≤ k ∧ k < i
abbrev St := PM × List Nd
def fin (u : List Nd) (i : Int) (s : St) : St := (upd s.1 i s.2.length, s.2 ++ [⟨(nth u i).f0, (nth u i).f1, mp s.1 (nth u i).f2⟩])
/-- depth first, d levels -/
def dfs (u : List Nd) : Nat → Int → St → St
  | 0, _, s => s
  | d + 1, i, s => if (s.1 i).isSome then s else fin u i ((nth u i).f2.foldl (fun s c => dfs u d c s) s)
/-- the loop with a stack, its top first; 'some none': too many nodes -/
def exL (u : List Nd) (M : Nat) : Nat → PM → List Nd → List (Int × Int) → Option (Option (List Nd))
  | 0, _, _, _ => none
  | _ + 1, _, out, [] => some (some out)
  | k + 1, g, out, (i, j) :: st =>
    if j < ((nth u i).f2.length : Int) then
      (if (g ((nth u i).f2.getD j.toNat 0)).isSome then exL u M k g out ((i, j + 1) :: st) else exL u M k g out (((nth u i).f2.getD j.toNat 0, 0) :: (i, j + 1) :: st))
    else if out.length = M then some none else exL u M k (fin u i (g, out)).1 (fin u i (g, out)).2 st

theorem foldl_congr_mem {α β : Type} (f g : β → α → β) : ∀ (l : List α) (s : β), (∀ x ∈ l, ∀ s, f s x = g s x) → l.foldl f s = l.foldl g s
  | [], _, _ => rfl
  | x :: l, s, h => by
    rw [List.foldl_cons, List.foldl_cons, h x List.mem_cons_self, foldl_congr_mem f g l _ (fun y hy => h y (List.mem_cons_of_mem _ hy))]

theorem dfs_fuel {u : List Nd} (hu : Down u) : ∀ (i : Nat), i < u.length → ∀ d s, i < d → dfs u d i s = dfs u (i + 1) i s := by
  intro i
  induction i using Nat.strongRecOn with
  | _ i ih =>
    intro hi d s hd
    obtain ⟨d, rfl⟩ : ∃ e, d = e + 1 := ⟨d - 1, by omega⟩
    simp only [dfs]
    rw [foldl_congr_mem (fun s c => dfs u d c s) (fun s c => dfs u i c s)]
    intro c hc s
    obtain ⟨h0, h1⟩ := hu i hi c hc
    obtain ⟨n, rfl⟩ : ∃ n : Nat, c = n := ⟨c.toNat, by omega⟩
    rw [ih n (by omega) (by omega) d s (by omega), ih n (by omega) (by omega) i s (by omega)]

theorem dfs_grows (u : List Nd) : ∀ d i s, s.2.length ≤ (dfs u d i s).2.length := by
  intro d
  induction d with
  | zero => intro i s; exact Nat.le_refl _
  | succ d ih =>
    intro i s
    simp only [dfs]
    split
    · exact Nat.le_refl _
    · simp only [fin, List.length_append, List.length_singleton]
      have : ∀ (l : List Int) (s : St), s.2.length ≤ (l.foldl (fun s c => dfs u d c s) s).2.length := by
        intro l
        induction l with
        | nil => intro s; exact Nat.le_refl _
        | cons c l ihl => intro s; exact Nat.le_trans (ih c s) (ihl _)
      have := this (nth u i).f2 s
      omega
theorem fold_grows (u : List Nd) (d : Nat) : ∀ (l : List Int) (s : St), s.2.length ≤ (l.foldl (fun s c => dfs u d c s) s).2.length := by
  intro l
  induction l with
  | nil => intro s; exact Nat.le_refl _
  | cons c l ihl => intro s; exact Nat.le_trans (dfs_grows u d c s) (ihl _)

/-- a node on the stack, its first kids done: what becomes of it -/
theorem exL_node {u : List Nd} (hu : Down u) (M : Nat) : ∀ (i : Nat), i < u.length → ∀ (suf pre : List Int) (s : St) (st : List (Int × Int)), (nth u i).f2 = pre ++ suf → s.2.length ≤ M →
    ∀ R, R = fin u i (suf.foldl (fun s c => dfs u i c s) s) → ∃ m, ∀ k, exL u M (k + m) s.1 s.2 ((↑i, ↑pre.length) :: st) = if R.2.length ≤ M then exL u M k R.1 R.2 st else some none := by
  intro i
  induction i using Nat.strongRecOn with
  | _ i ih =>
    intro hi suf
    induction suf with
    | nil =>
      intro pre s st he hs R hR
      rw [List.foldl_nil] at hR
      subst hR
      refine ⟨1, fun k => ?_⟩
      simp only [exL]
      rw [if_neg (by rw [he]; simp)]
      have hl : (fin u i s).2.length = s.2.length + 1 := by simp [fin]
      by_cases hM : s.2.length = M
      · rw [if_pos hM, if_neg (by rw [hl]; omega)]
      · rw [if_neg hM, if_pos (by rw [hl]; omega)]
    | cons c suf ihs =>
      intro pre s st he hs R hR
      rw [List.foldl_cons] at hR
      obtain ⟨h0, h1⟩ := hu i hi c (by rw [he]; simp)
      obtain ⟨n, rfl⟩ : ∃ n : Nat, c = n := ⟨c.toNat, by omega⟩
      have hget : (nth u i).f2.getD ((pre.length : Int)).toNat 0 = (n : Int) := by rw [he]; simp
      have hlen : ((pre.length : Int)) < ((nth u i).f2.length : Int) := by rw [he]; simp; omega
      have hnext : ((pre.length : Int) + 1) = (((pre ++ [(n : Int)]).length : Nat) : Int) := by simp
      by_cases hd : (s.1 n).isSome
      · obtain ⟨m, hm⟩ := ihs (pre ++ [(n : Int)]) s st (by rw [he]; simp) hs R (by rw [hR]; congr 2; cases i with | zero => omega | succ i => simp only [dfs]; rw [if_pos hd])
        refine ⟨m + 1, fun k => ?_⟩
        rw [← Nat.add_assoc]
        simp only [exL]
        rw [if_pos hlen, hget, if_pos hd, hnext]
        exact hm k
      · -- the kid first
        obtain ⟨m1, hm1⟩ := ih n (by omega) (by omega) (nth u n).f2 [] s ((↑i, ((pre ++ [(n : Int)]).length : Nat)) :: st) rfl hs _ rfl
        have e : dfs u i n s = fin u n ((nth u n).f2.foldl (fun s c => dfs u n c s) s) := by
          rw [dfs_fuel hu n (by omega) i s (by omega)]
          simp only [dfs]; rw [if_neg hd]
        rw [← e] at hm1
        by_cases hM : (dfs u i n s).2.length ≤ M
        · obtain ⟨m2, hm2⟩ := ihs (pre ++ [(n : Int)]) (dfs u i n s) st (by rw [he]; simp) hM R hR
          refine ⟨m2 + m1 + 1, fun k => ?_⟩
          rw [show k + (m2 + m1 + 1) = (k + m2) + m1 + 1 by omega]
          simp only [exL]
          rw [if_pos hlen, hget, if_neg hd, hnext]
          have h3 := hm1 (k + m2)
          rw [if_pos hM] at h3
          rw [show ((0 : Int)) = ((([] : List Int).length : Nat) : Int) from rfl, h3]
          exact hm2 k
        · refine ⟨m1 + 1, fun k => ?_⟩
          rw [← Nat.add_assoc]
          simp only [exL]
          rw [if_pos hlen, hget, if_neg hd, hnext]
          have h3 := hm1 k
          rw [if_neg hM] at h3
          rw [show ((0 : Int)) = ((([] : List Int).length : Nat) : Int) from rfl, h3, if_neg]
          rw [hR]
          have h4 := fold_grows u i suf (dfs u i n s)
          simp only [fin, List.length_append, List.length_singleton]
          omega
/-- Export: depth first from a root, at most M nodes -/
def expo (u : List Nd) (root : Int) : List Nd := (dfs u (root.toNat + 1) root (fun _ => none, [])).2
theorem exL_root {u : List Nd} (hu : Down u) (M : Nat) (i : Nat) (hi : i < u.length) : ∃ m, ∀ k, exL u M (k + m) (fun _ => none) [] [(↑i, 0)] = some (if (expo u i).length ≤ M then some (expo u i) else none) := by
  obtain ⟨m, hm⟩ := exL_node hu M i hi (nth u i).f2 [] (fun _ => none, []) [] rfl (Nat.zero_le _) _ rfl
  refine ⟨m + 1, fun k => ?_⟩
  have e : dfs u (i + 1) i (fun _ => none, []) = fin u i ((nth u i).f2.foldl (fun s c => dfs u i c s) (fun _ => none, [])) := by
    simp [dfs]
  have h3 := hm (k + 1)
  rw [← e] at h3
  rw [show k + (m + 1) = k + 1 + m by omega]
  rw [show ((0 : Int)) = ((([] : List Int).length : Nat) : Int) from rfl, h3]
  unfold expo
  rw [Int.toNat_natCast]
  split <;> simp [exL]
end Go.Proofs.YtopbjginpmdebaaDoor.K
namespace Go.Proofs.YtopbjginpmdebaaDoor.K
set_option linter.unusedVariables false
set_option linter.unusedSimpArgs false
/-- a node in a table: where it is, or at the end -/
def place0 (u : List Nd) (n : Nd) : List Nd × Int := if n ∈ u then (u, (u.idxOf n : Nat)) else (u ++ [n], (u.length : Nat))
def sameK (l : List Int) : Bool := l.all fun k => decide (k = l.headD 0)
def placeB (u : List Nd) (site : Int) (kids : List Int) : List Nd × Int := if sameK kids = true then (u, kids.headD 0) else place0 u ⟨site, 0, kids⟩
def lk (at_ : List Int) (c : Int) : Int := at_.getD c.toNat 0
def place1 (u : List Nd) (at_ : List Int) (n : Nd) : List Nd × Int := if n.f0 < 0 then place0 u ⟨-1, n.f1, []⟩ else placeB u n.f0 (n.f2.map (lk at_))
def imp : List Nd → List Int → List Nd → List Nd × List Int
  | u, at_, [] => (u, at_)
  | u, at_, n :: ns => imp (place1 u at_ n).1 (at_ ++ [(place1 u at_ n).2]) ns
/-- a graph's form, as far as the tables need it -/
def Fit (nodes : List Nd) : Prop := Down nodes ∧ ∀ n ∈ nodes, 0 ≤ n.f0 → n.f2 ≠ []

theorem place0_lt (u : List Nd) (n : Nd) : 0 ≤ (place0 u n).2 ∧ (place0 u n).2 < (place0 u n).1.length := by
  unfold place0
  split
  · rename_i h; exact ⟨by simp, by have := List.idxOf_lt_length_of_mem h; simpa using this⟩
  · simp; omega
theorem place0_pre (u : List Nd) (n : Nd) : u <+: (place0 u n).1 := by
  unfold place0; split
  · exact List.prefix_refl _
  · exact List.prefix_append _ _
theorem place0_len (u : List Nd) (n : Nd) : (place0 u n).1.length ≤ u.length + 1 := by
  unfold place0; split <;> simp
theorem nth_lt {u : List Nd} {i : Nat} (h : i < u.length) : nth u i = u[i] := by simp [nth, h]
theorem down_snoc {u : List Nd} {n : Nd} (hu : Down u) (hn : ∀ k ∈ n.f2, 0 ≤ k ∧ k < u.length) : Down (u ++ [n]) := by
  intro i hi k hk
  rw [nth_lt hi] at hk
  rcases Nat.lt_or_ge i u.length with h | h
  · rw [List.getElem_append_left h, ← nth_lt h] at hk
    exact hu i h k hk
  · have : i = u.length := by simp at hi; omega
    subst this
    rw [List.getElem_append_right (Nat.le_refl _)] at hk
    exact hn k (by simpa using hk)
theorem place0_down {u : List Nd} {n : Nd} (hu : Down u) (hn : ∀ k ∈ n.f2, 0 ≤ k ∧ k < u.length) : Down (place0 u n).1 := by
  unfold place0; split
  · exact hu
  · exact down_snoc hu hn
theorem place0_nodup {u : List Nd} {n : Nd} (hu : u.Nodup) : (place0 u n).1.Nodup := by
  unfold place0; split
  · exact hu
  · rename_i h
    rw [List.nodup_append]
    exact ⟨hu, by simp, by intro a ha b hb; rw [List.mem_singleton.1 hb]; rintro rfl; exact h ha⟩
theorem sameK_head {l : List Int} (h : sameK l = true) : ∀ k ∈ l, k = l.headD 0 := by
  intro k hk
  have := List.all_eq_true.1 h k hk
  simpa using this
theorem placeB_lt {u : List Nd} {s : Int} {kids : List Int} (hk : ∀ k ∈ kids, 0 ≤ k ∧ k < (u.length : Int)) (hne : kids ≠ []) : 0 ≤ (placeB u s kids).2 ∧ (placeB u s kids).2 < (placeB u s kids).1.length := by
  unfold placeB; split
  · cases kids with
    | nil => exact absurd rfl hne
    | cons a l => exact hk a List.mem_cons_self
  · exact place0_lt _ _
theorem placeB_pre (u : List Nd) (s : Int) (kids : List Int) : u <+: (placeB u s kids).1 := by
  unfold placeB; split
  · exact List.prefix_refl _
  · exact place0_pre _ _
theorem placeB_len (u : List Nd) (s : Int) (kids : List Int) : (placeB u s kids).1.length ≤ u.length + 1 := by
  unfold placeB; split
  · simp
  · exact place0_len _ _
theorem placeB_down {u : List Nd} {s : Int} {kids : List Int} (hu : Down u) (hk : ∀ k ∈ kids, 0 ≤ k ∧ k < (u.length : Int)) : Down (placeB u s kids).1 := by
  unfold placeB; split
  · exact hu
  · exact place0_down hu hk
theorem placeB_nodup {u : List Nd} {s : Int} {kids : List Int} (hu : u.Nodup) : (placeB u s kids).1.Nodup := by
  unfold placeB; split
  · exact hu
  · exact place0_nodup hu
/-- what holds while nodes are stored: the table's kids lie below, the indices so far are its own -/
structure Tbl (u : List Nd) (at_ : List Int) : Prop where
  down : Down u
  nodup : u.Nodup
  at_lt : ∀ a ∈ at_, 0 ≤ a ∧ a < (u.length : Int)
theorem lk_mem {at_ : List Int} {c : Int} (h0 : 0 ≤ c) (h1 : c < at_.length) : lk at_ c ∈ at_ := by
  unfold lk
  have h : c.toNat < at_.length := by omega
  rw [List.getD_eq_getElem?_getD, List.getElem?_eq_getElem h]
  exact List.getElem_mem h
theorem Tbl.kids {u : List Nd} {at_ : List Int} (h : Tbl u at_) {l : List Int} (hl : ∀ c ∈ l, 0 ≤ c ∧ c < (at_.length : Int)) : ∀ k ∈ l.map (lk at_), 0 ≤ k ∧ k < (u.length : Int) := by
  intro k hk
  obtain ⟨c, hc, rfl⟩ := List.mem_map.1 hk
  exact h.at_lt _ (lk_mem (hl c hc).1 (hl c hc).2)
theorem Tbl.place1 {u : List Nd} {at_ : List Int} (h : Tbl u at_) {n : Nd} (hl : ∀ c ∈ n.f2, 0 ≤ c ∧ c < (at_.length : Int)) (hne : 0 ≤ n.f0 → n.f2 ≠ []) :
    Tbl (place1 u at_ n).1 (at_ ++ [(place1 u at_ n).2]) ∧ u <+: (K.place1 u at_ n).1 ∧ (K.place1 u at_ n).1.length ≤ u.length + 1 := by
  unfold K.place1
  split
  · refine ⟨⟨place0_down h.down (by simp), place0_nodup h.nodup, ?_⟩, place0_pre _ _, place0_len _ _⟩
    intro a ha
    rcases List.mem_append.1 ha with ha | ha
    · exact ⟨(h.at_lt a ha).1, Int.lt_of_lt_of_le (h.at_lt a ha).2 (by have := (place0_pre u ⟨-1, n.f1, []⟩).length_le; omega)⟩
    · rw [List.mem_singleton.1 ha]; exact place0_lt _ _
  · have hk := h.kids hl
    refine ⟨⟨placeB_down h.down hk, placeB_nodup h.nodup, ?_⟩, placeB_pre _ _ _, placeB_len _ _ _⟩
    intro a ha
    rcases List.mem_append.1 ha with ha | ha
    · exact ⟨(h.at_lt a ha).1, Int.lt_of_lt_of_le (h.at_lt a ha).2 (by have := (placeB_pre u n.f0 (n.f2.map (lk at_))).length_le; omega)⟩
    · rw [List.mem_singleton.1 ha]
      exact placeB_lt hk (by simpa using hne (by omega))
theorem imp_snoc (ns : List Nd) (n : Nd) : ∀ (u : List Nd) (at_ : List Int), imp u at_ (ns ++ [n]) = ((place1 (imp u at_ ns).1 (imp u at_ ns).2 n).1, (imp u at_ ns).2 ++ [(place1 (imp u at_ ns).1 (imp u at_ ns).2 n).2]) := by
  induction ns with
  | nil => intro u at_; simp [imp]
  | cons m ns ih => intro u at_; simp only [List.cons_append, imp]; exact ih _ _
theorem imp_len (ns : List Nd) : ∀ (u : List Nd) (at_ : List Int), (imp u at_ ns).2.length = at_.length + ns.length := by
  induction ns with
  | nil => intro u at_; simp [imp]
  | cons m ns ih => intro u at_; simp only [imp]; rw [ih]; simp; omega
theorem down_take {ns : List Nd} (h : Down ns) (k : Nat) : Down (ns.take k) := by
  intro i hi c hc
  have hi' : i < ns.length := by simp at hi; omega
  have e : nth (ns.take k) i = nth ns i := by rw [nth_lt hi, nth_lt hi']; simp
  rw [e] at hc
  exact h i hi' c hc
theorem take_snoc' {ns : List Nd} {k : Nat} (h : k < ns.length) : ns.take (k + 1) = ns.take k ++ [nth ns k] := by
  rw [List.take_succ_eq_append_getElem h, nth_lt h]
theorem imp_tbl {ns : List Nd} (hf : Fit ns) {u : List Nd} (hu : Tbl u []) : ∀ k, k ≤ ns.length → Tbl (imp u [] (ns.take k)).1 (imp u [] (ns.take k)).2 ∧ (imp u [] (ns.take k)).1.length ≤ u.length + k ∧ u <+: (imp u [] (ns.take k)).1 := by
  intro k
  induction k with
  | zero => intro _; simpa [imp] using hu
  | succ k ih =>
    intro hk
    obtain ⟨h1, h2, h3⟩ := ih (by omega)
    rw [take_snoc' (by omega), imp_snoc]
    have hl := imp_len (ns.take k) u []
    obtain ⟨h4, h5, h6⟩ := h1.place1 (n := nth ns k) (by
      intro c hc
      have := hf.1 k (by omega) c hc
      rw [hl]; simp; omega) (hf.2 _ (by rw [nth_lt (by omega)]; exact List.getElem_mem _))
    exact ⟨h4, by simp only; omega, h3.trans h5⟩
theorem tbl_nil : Tbl [] [] := ⟨fun i hi => by simp at hi, by simp, by simp⟩
end Go.Proofs.YtopbjginpmdebaaDoor.K
namespace Go.Proofs.YtopbjginpmdebaaDoor.K
set_option linter.unusedVariables false
set_option linter.unusedSimpArgs false
/-- φ carries the nodes of u that it tells to nodes of v, kids to kids -/
structure Iso (u v : List Nd) (φ : PM) : Prop where
  inj : ∀ i j a, φ i = some a → φ j = some a → i = j
  node : ∀ i a, φ i = some a → 0 ≤ i ∧ 0 ≤ a ∧ i < u.length ∧ a < v.length ∧ nth v a = ⟨(nth u i).f0, (nth u i).f1, mp φ (nth u i).f2⟩ ∧ ∀ k ∈ (nth u i).f2, (φ k).isSome
theorem dfs_iso {u v : List Nd} {φ : PM} (h : Iso u v φ) : ∀ (d : Nat) (i a : Int) (s s' : St), φ i = some a → (∀ j b, φ j = some b → s.1 j = s'.1 b) → s.2 = s'.2 →
    (∀ j b, φ j = some b → (dfs u d i s).1 j = (dfs v d a s').1 b) ∧ (dfs u d i s).2 = (dfs v d a s').2 := by
  intro d
  induction d with
  | zero => intro i a s s' _ h1 h2; exact ⟨h1, h2⟩
  | succ d ih =>
    intro i a s s' hi h1 h2
    obtain ⟨_, _, _, _, hn, hk⟩ := h.node i a hi
    simp only [dfs]
    rw [← h1 i a hi]
    split
    · exact ⟨h1, h2⟩
    · have key : ∀ (l : List Int) (s s' : St), (∀ k ∈ l, (φ k).isSome) → (∀ j b, φ j = some b → s.1 j = s'.1 b) → s.2 = s'.2 →
          (∀ j b, φ j = some b → (l.foldl (fun s c => dfs u d c s) s).1 j = ((mp φ l).foldl (fun s c => dfs v d c s) s').1 b) ∧ (l.foldl (fun s c => dfs u d c s) s).2 = ((mp φ l).foldl (fun s c => dfs v d c s) s').2 := by
        intro l
        induction l with
        | nil => intro s s' _ h1 h2; exact ⟨h1, h2⟩
        | cons c l ihl =>
          intro s s' hk h1 h2
          obtain ⟨b, hb⟩ := Option.isSome_iff_exists.1 (hk c List.mem_cons_self)
          obtain ⟨g1, g2⟩ := ih c b s s' hb h1 h2
          have := ihl (dfs u d c s) (dfs v d b s') (fun k hk' => hk k (List.mem_cons_of_mem _ hk')) g1 g2
          simpa [mp, hb] using this
      obtain ⟨g1, g2⟩ := key (nth u i).f2 s s' hk h1 h2
      have hf : (nth v a).f2 = mp φ (nth u i).f2 := by rw [hn]
      rw [hf]
      unfold fin
      refine ⟨fun j b hj => ?_, ?_⟩
      · simp only [upd, g2]
        by_cases e : j = i
        · subst e
          have : a = b := by rw [hi] at hj; exact Option.some.inj hj
          rw [if_pos rfl, if_pos this.symm]
        · rw [if_neg e, if_neg (fun e' => e (h.inj j i a (by rw [← e']; exact hj) hi))]
          exact g1 j b hj
      · simp only [g2]
        rw [hn]
        congr 3
        show (nth u i).f2.map _ = (mp φ (nth u i).f2).map _
        rw [mp, List.map_map]
        refine List.map_congr_left fun k hk' => ?_
        obtain ⟨b, hb⟩ := Option.isSome_iff_exists.1 (hk k hk')
        simp only [Function.comp_apply, hb, Option.getD_some]
        rw [g1 k b hb]; rfl
theorem expo_iso {u v : List Nd} {φ : PM} (h : Iso u v φ) (hu : Down u) (hv : Down v) {i a : Int} (hi : φ i = some a) : expo u i = expo v a := by
  obtain ⟨h0, h1, h2, h3, _, _⟩ := h.node i a hi
  have := (dfs_iso h (i.toNat + a.toNat + 1) i a (fun _ => none, []) (fun _ => none, []) hi (fun _ _ _ => rfl) rfl).2
  obtain ⟨m, rfl⟩ : ∃ m : Nat, i = m := ⟨i.toNat, by omega⟩
  obtain ⟨n, rfl⟩ : ∃ n : Nat, a = n := ⟨a.toNat, by omega⟩
  unfold expo
  rw [dfs_fuel hu m (by omega) _ _ (by simp; omega), dfs_fuel hv n (by omega) _ _ (by simp; omega)] at this
  simpa using this

/-- what depth first search keeps: the nodes that are placed stand in the list, their kids' places in them, and the places are those of the list -/
structure Pl (u : List Nd) (s : St) : Prop where
  inj : ∀ i j a, s.1 i = some a → s.1 j = some a → i = j
  node : ∀ i a, s.1 i = some a → 0 ≤ i ∧ 0 ≤ a ∧ i < u.length ∧ a < s.2.length ∧ nth s.2 a = ⟨(nth u i).f0, (nth u i).f1, mp s.1 (nth u i).f2⟩ ∧ (∀ k ∈ (nth u i).f2, ∃ b, s.1 k = some b ∧ b < a)
  all : ∀ a : Nat, a < s.2.length → ∃ i, s.1 i = some (a : Int)
theorem nth_append_left {u v : List Nd} {a : Int} (h0 : 0 ≤ a) (h : a < u.length) : nth (u ++ v) a = nth u a := by
  unfold nth
  rw [List.getD_eq_getElem?_getD, List.getD_eq_getElem?_getD, List.getElem?_append_left (by omega)]
/-- the places so far are as they were -/
def Ext (s s' : St) : Prop := ∀ i a, s.1 i = some a → s'.1 i = some a
theorem dfs_pl {u : List Nd} (hu : Down u) : ∀ (d : Nat) (i : Nat) (s : St), i < u.length → i < d → Pl u s → Pl u (dfs u d i s) ∧ Ext s (dfs u d i s) ∧ ((dfs u d i s).1 i).isSome ∧ s.2 <+: (dfs u d i s).2 := by
  intro d
  induction d with
  | zero => intro i s _ h; omega
  | succ d ih =>
    intro i s hi hd hs
    simp only [dfs]
    split
    · rename_i h; exact ⟨hs, fun _ _ h => h, h, List.prefix_refl _⟩
    · rename_i hnone
      have key : ∀ (l : List Int) (s : St), (∀ k ∈ l, 0 ≤ k ∧ k < i) → Pl u s → Pl u (l.foldl (fun s c => dfs u d c s) s) ∧ Ext s (l.foldl (fun s c => dfs u d c s) s) ∧ (∀ k ∈ l, ((l.foldl (fun s c => dfs u d c s) s).1 k).isSome) ∧ s.2 <+: (l.foldl (fun s c => dfs u d c s) s).2 ∧ (s.1 i = none → (l.foldl (fun s c => dfs u d c s) s).1 i = none) := by
        intro l
        induction l with
        | nil => intro s _ hs; exact ⟨hs, fun _ _ h => h, by simp, List.prefix_refl _, fun h => h⟩
        | cons c l ihl =>
          intro s hl hs
          obtain ⟨c0, c1⟩ := hl c List.mem_cons_self
          obtain ⟨n, rfl⟩ : ∃ n : Nat, c = n := ⟨c.toNat, by omega⟩
          obtain ⟨p1, p2, p3, p4⟩ := ih n s (by omega) (by omega) hs
          obtain ⟨q1, q2, q3, q4, q5⟩ := ihl _ (fun k hk => hl k (List.mem_cons_of_mem _ hk)) p1
          refine ⟨q1, fun a b h => q2 a b (p2 a b h), ?_, p4.trans q4, fun h => q5 ?_⟩
          · intro k hk
            rcases List.mem_cons.1 hk with rfl | hk
            · obtain ⟨b, hb⟩ := Option.isSome_iff_exists.1 p3
              rw [List.foldl_cons, q2 _ _ hb]; rfl
            · exact q3 k hk
          · -- dfs at n < i leaves i alone
            exact dfs_low hu d n s i (by omega) (by omega) h
      obtain ⟨q1, q2, q3, q4, q5⟩ := key (nth u i).f2 s (fun k hk => hu i hi k hk) hs
      have hn : s.1 i = none := by simpa using hnone
      have hi0 := q5 hn
      generalize hT : (nth u i).f2.foldl (fun s c => dfs u d c s) s = T at q1 q2 q3 q4 q5 hi0
      have hmp : mp (upd T.1 i T.2.length) (nth u i).f2 = mp T.1 (nth u i).f2 := by
        refine List.map_congr_left fun k hk => ?_
        have := hu i hi k hk
        simp only [upd]; rw [if_neg (by omega)]
      have hmp' : ∀ j a, T.1 j = some a → mp (upd T.1 i T.2.length) (nth u j).f2 = mp T.1 (nth u j).f2 := by
        intro j a hj
        refine List.map_congr_left fun k hk => ?_
        obtain ⟨b, hb, _⟩ := (q1.node j a hj).2.2.2.2.2 k hk
        simp only [upd]; rw [if_neg]; rintro rfl; rw [hi0] at hb; cases hb
      refine ⟨⟨?_, ?_, ?_⟩, ?_, ?_, ?_⟩
      · intro j k a hj hk
        simp only [fin, upd] at hj hk
        split at hj <;> split at hk
        · omega
        · have := (q1.node k a hk).2.2.2.1; simp at hj; omega
        · have := (q1.node j a hj).2.2.2.1; simp at hk; omega
        · exact q1.inj j k a hj hk
      · intro j a hj
        simp only [fin] at hj ⊢
        by_cases e : j = i
        · subst e
          simp only [upd, if_pos, Option.some.injEq] at hj
          subst hj
          refine ⟨by omega, by omega, by omega, by simp; omega, ?_, ?_⟩
          · rw [hmp]; simp [nth]
          · intro k hk
            obtain ⟨b, hb⟩ := Option.isSome_iff_exists.1 (q3 k hk)
            have := hu i hi k hk
            refine ⟨b, by simp only [upd]; rw [if_neg (by omega)]; exact hb, (q1.node k b hb).2.2.2.1⟩
        · have hj' : T.1 j = some a := by simpa [upd, e] using hj
          obtain ⟨n1, n2, n3, n4, n5, n6⟩ := q1.node j a hj'
          refine ⟨n1, n2, n3, by simp; omega, ?_, ?_⟩
          · rw [nth_append_left n2 n4, n5, hmp' j a hj']
          · intro k hk
            obtain ⟨b, hb, hlt⟩ := n6 k hk
            refine ⟨b, ?_, hlt⟩
            simp only [upd]; rw [if_neg]; exact hb
            rintro rfl; rw [hi0] at hb; cases hb
      · intro a ha
        simp only [fin, List.length_append, List.length_singleton] at ha ⊢
        rcases Nat.lt_or_ge a T.2.length with h | h
        · obtain ⟨j, hj⟩ := q1.all a h
          refine ⟨j, ?_⟩
          simp only [upd]; rw [if_neg]; exact hj
          rintro rfl; rw [hi0] at hj; cases hj
        · exact ⟨i, by simp only [upd, if_pos]; congr 1; omega⟩
      · intro j a hj
        simp only [fin, upd]; rw [if_neg]; exact q2 j a hj
        rintro rfl; rw [hn] at hj; cases hj
      · simp [fin, upd]
      · exact q4.trans (by simp [fin])
where
  dfs_low {u : List Nd} (hu : Down u) : ∀ (d : Nat) (n : Nat) (s : St) (i : Nat), n < i → n < u.length → s.1 i = none → (dfs u d n s).1 i = none := by
    intro d
    induction d with
    | zero => intro n s i _ _ h; exact h
    | succ d ih =>
      intro n s i hni hnu h
      simp only [dfs]
      split
      · exact h
      · have key : ∀ (l : List Int) (s : St), (∀ k ∈ l, 0 ≤ k ∧ k < n) → s.1 i = none → (l.foldl (fun s c => dfs u d c s) s).1 i = none := by
          intro l
          induction l with
          | nil => intro s _ h; exact h
          | cons c l ihl =>
            intro s hl h
            obtain ⟨c0, c1⟩ := hl c List.mem_cons_self
            obtain ⟨m, rfl⟩ : ∃ m : Nat, c = m := ⟨c.toNat, by omega⟩
            exact ihl _ (fun k hk => hl k (List.mem_cons_of_mem _ hk)) (ih m s i (by omega) (by omega) h)
        simp only [fin, upd]
        rw [if_neg (by omega)]
        exact key _ s (fun k hk => hu n hnu k hk) h
theorem pl_nil (u : List Nd) : Pl u (fun _ => none, []) := ⟨fun _ _ _ h => (by cases h), fun _ _ h => (by cases h), fun a h => (by simp at h)⟩
end Go.Proofs.YtopbjginpmdebaaDoor.K
namespace Go.Proofs.YtopbjginpmdebaaDoor.K
set_option linter.unusedVariables false
set_option linter.unusedSimpArgs false
/-- a reduced list: kids below, no node twice, no branch with equal kids, leaves and branches as they are to be -/
structure Red (u : List Nd) : Prop where
  down : Down u
  nodup : u.Nodup
  thin : ∀ n ∈ u, n.f2 ≠ [] → sameK n.f2 = false
  leafy : ∀ n ∈ u, n.f0 < 0 → n.f0 = -1 ∧ n.f2 = []
  full : ∀ n ∈ u, 0 ≤ n.f0 → n.f2 ≠ [] ∧ n.f1 = 0
theorem red_nil : Red [] := ⟨fun i hi => by simp at hi, by simp, by simp, by simp, by simp⟩
theorem Red.fit {u : List Nd} (h : Red u) : Fit u := ⟨h.down, fun n hn h0 => (h.full n hn h0).1⟩
theorem nth_mem {u : List Nd} {i : Int} (h0 : 0 ≤ i) (h : i < u.length) : nth u i ∈ u := by
  unfold nth
  have h' : i.toNat < u.length := by omega
  rw [List.getD_eq_getElem?_getD, List.getElem?_eq_getElem h']
  exact List.getElem_mem h'
theorem nodup_nth {u : List Nd} (h : u.Nodup) {i j : Int} (hi : 0 ≤ i ∧ i < u.length) (hj : 0 ≤ j ∧ j < u.length) (e : nth u i = nth u j) : i = j := by
  unfold nth at e
  have hi' : i.toNat < u.length := by omega
  have hj' : j.toNat < u.length := by omega
  rw [List.getD_eq_getElem?_getD, List.getD_eq_getElem?_getD, List.getElem?_eq_getElem hi', List.getElem?_eq_getElem hj'] at e
  have e : u[i.toNat] = u[j.toNat] := e
  rw [List.nodup_iff_pairwise_ne, List.pairwise_iff_getElem] at h
  rcases Nat.lt_trichotomy i.toNat j.toNat with hlt | heq | hlt
  · exact absurd e (h _ _ hi' hj' hlt)
  · omega
  · exact absurd e.symm (h _ _ hj' hi' hlt)
theorem sameK_map {f : Int → Int} {l : List Int} (hf : ∀ x ∈ l, ∀ y ∈ l, f x = f y → x = y) (h : sameK (l.map f) = true) : sameK l = true := by
  cases l with
  | nil => rfl
  | cons a l =>
    refine List.all_eq_true.2 fun k hk => ?_
    have h1 := sameK_head h (f k) (List.mem_map_of_mem hk)
    have : k = a := hf k hk a List.mem_cons_self (by simpa using h1)
    simpa using this
theorem sameK_map' {f : Int → Int} {l : List Int} (h : sameK l = true) : sameK (l.map f) = true := by
  cases l with
  | nil => rfl
  | cons a l =>
    refine List.all_eq_true.2 fun k hk => ?_
    obtain ⟨x, hx, rfl⟩ := List.mem_map.1 hk
    have := sameK_head h x hx
    have e : x = a := by simpa using this
    simp [e]
theorem place0_nth (u : List Nd) (n : Nd) : nth (place0 u n).1 (place0 u n).2 = n := by
  unfold place0; split
  · rename_i h
    have := List.idxOf_lt_length_of_mem h
    simp [nth, this]
  · simp [nth]
theorem nth_prefix {u v : List Nd} (h : u <+: v) {a : Int} (h0 : 0 ≤ a) (h1 : a < u.length) : nth v a = nth u a := by
  obtain ⟨t, rfl⟩ := h; exact nth_append_left h0 h1
theorem Red.place0 {u : List Nd} (h : Red u) {n : Nd} (hk : ∀ k ∈ n.f2, 0 ≤ k ∧ k < (u.length : Int)) (ht : n.f2 ≠ [] → sameK n.f2 = false) (hl : n.f0 < 0 → n.f0 = -1 ∧ n.f2 = []) (hf : 0 ≤ n.f0 → n.f2 ≠ [] ∧ n.f1 = 0) : Red (place0 u n).1 := by
  refine ⟨place0_down h.down hk, place0_nodup h.nodup, ?_, ?_, ?_⟩
  all_goals
    unfold K.place0
    split
  · exact h.thin
  · intro m hm
    rcases List.mem_append.1 hm with hm | hm
    · exact h.thin m hm
    · rw [List.mem_singleton.1 hm]; exact ht
  · exact h.leafy
  · intro m hm
    rcases List.mem_append.1 hm with hm | hm
    · exact h.leafy m hm
    · rw [List.mem_singleton.1 hm]; exact hl
  · exact h.full
  · intro m hm
    rcases List.mem_append.1 hm with hm | hm
    · exact h.full m hm
    · rw [List.mem_singleton.1 hm]; exact hf
theorem Red.placeB {u : List Nd} (h : Red u) {s : Int} {kids : List Int} (hs : 0 ≤ s) (hk : ∀ k ∈ kids, 0 ≤ k ∧ k < (u.length : Int)) (hne : kids ≠ []) : Red (placeB u s kids).1 := by
  unfold K.placeB
  split
  · exact h
  · rename_i ht
    exact h.place0 hk (fun _ => by simpa using ht) (fun h' => by simp only at h'; omega) (fun _ => ⟨hne, rfl⟩)
theorem Red.place1 {u : List Nd} {at_ : List Int} (h : Red u) (ha : ∀ a ∈ at_, 0 ≤ a ∧ a < (u.length : Int)) {n : Nd} (hl : ∀ c ∈ n.f2, 0 ≤ c ∧ c < (at_.length : Int)) (hne : 0 ≤ n.f0 → n.f2 ≠ []) : Red (place1 u at_ n).1 := by
  unfold K.place1
  split
  · exact h.place0 (by simp) (by simp) (fun _ => ⟨rfl, rfl⟩) (fun h' => by simp only at h'; omega)
  · exact h.placeB (by omega) ((Tbl.mk h.down h.nodup ha).kids hl) (by simpa using hne (by omega))
theorem imp_red {ns : List Nd} (hf : Fit ns) {u : List Nd} (hu : Red u) : ∀ k, k ≤ ns.length → Red (imp u [] (ns.take k)).1 := by
  intro k
  induction k with
  | zero => intro _; simpa [imp] using hu
  | succ k ih =>
    intro hk
    have h1 := (imp_tbl hf ⟨hu.down, hu.nodup, by simp⟩ k (by omega)).1
    rw [take_snoc' (by omega), imp_snoc]
    refine (ih (by omega)).place1 h1.at_lt (fun c hc => ?_) (hf.2 _ (by rw [nth_lt (by omega)]; exact List.getElem_mem _))
    have := hf.1 k (by omega) c hc
    rw [imp_len]; simp; omega
/-- what depth first search from a root leaves -/
theorem expo_pl {u : List Nd} (hu : Down u) {r : Nat} (hr : r < u.length) : ∃ g : PM, Pl u (g, expo u r) ∧ g r = some (((expo u r).length - 1 : Nat) : Int) ∧ 0 < (expo u r).length := by
  obtain ⟨h1, _, h3, _⟩ := dfs_pl hu (r + 1) r (fun _ => none, []) hr (by omega) (pl_nil u)
  refine ⟨(dfs u (r + 1) r (fun _ => none, [])).1, by unfold expo; rw [Int.toNat_natCast]; exact h1, ?_⟩
  unfold expo; rw [Int.toNat_natCast]
  simp [dfs, fin, upd]
theorem Pl.iso {u : List Nd} {s : St} (h : Pl u s) : Iso u s.2 s.1 :=
  ⟨h.inj, fun i a hi => by
    obtain ⟨h1, h2, h3, h4, h5, h6⟩ := h.node i a hi
    exact ⟨h1, h2, h3, h4, h5, fun k hk => by obtain ⟨b, hb, _⟩ := h6 k hk; rw [hb]; rfl⟩⟩
theorem Pl.down {u : List Nd} {s : St} (h : Pl u s) : Down s.2 := by
  intro a ha k hk
  obtain ⟨i, hi⟩ := h.all a ha
  obtain ⟨_, _, _, _, h5, h6⟩ := h.node i a hi
  rw [h5] at hk
  obtain ⟨c, hc, rfl⟩ := List.mem_map.1 hk
  obtain ⟨b, hb, hlt⟩ := h6 c hc
  rw [hb]
  exact ⟨(h.node c b hb).2.1, hlt⟩
theorem mp_inj {g : PM} (hg : ∀ i j a, g i = some a → g j = some a → i = j) : ∀ (l l' : List Int), (∀ k ∈ l, (g k).isSome) → (∀ k ∈ l', (g k).isSome) → mp g l = mp g l' → l = l'
  | [], [], _, _, _ => rfl
  | [], _ :: _, _, _, h => by simp [mp] at h
  | _ :: _, [], _, _, h => by simp [mp] at h
  | a :: l, b :: l', h1, h2, h => by
    simp only [mp, List.map_cons, List.cons.injEq] at h
    obtain ⟨x, hx⟩ := Option.isSome_iff_exists.1 (h1 a List.mem_cons_self)
    obtain ⟨y, hy⟩ := Option.isSome_iff_exists.1 (h2 b List.mem_cons_self)
    have : x = y := by simpa [hx, hy] using h.1
    subst this
    rw [hg a b x hx hy, mp_inj hg l l' (fun k hk => h1 k (List.mem_cons_of_mem _ hk)) (fun k hk => h2 k (List.mem_cons_of_mem _ hk)) h.2]
theorem Iso.nodup_of {u v : List Nd} {g : PM} (h : Iso u v g) (hu : u.Nodup) (hall : ∀ a : Nat, a < v.length → ∃ i, g i = some (a : Int)) : v.Nodup := by
  rw [List.nodup_iff_pairwise_ne, List.pairwise_iff_getElem]
  intro a b ha hb hab e
  obtain ⟨i, hi⟩ := hall a ha
  obtain ⟨j, hj⟩ := hall b hb
  obtain ⟨i1, _, i3, _, i5, i6⟩ := h.node i a hi
  obtain ⟨j1, _, j3, _, j5, j6⟩ := h.node j b hj
  rw [nth_lt ha] at i5
  rw [nth_lt hb] at j5
  rw [e, j5] at i5
  simp only [S60.mk.injEq] at i5
  obtain ⟨e0, e1, e2⟩ := i5
  have e3 := mp_inj h.inj _ _ j6 i6 e2
  have : nth u i = nth u j := by
    have p : ∀ n m : Nd, n.f0 = m.f0 → n.f1 = m.f1 → n.f2 = m.f2 → n = m := by rintro ⟨⟩ ⟨⟩ rfl rfl rfl; rfl
    exact p _ _ e0.symm e1.symm e3.symm
  have := nodup_nth hu ⟨i1, i3⟩ ⟨j1, j3⟩ this
  subst this
  rw [hi] at hj
  have := Option.some.inj hj
  omega
theorem Pl.red {u : List Nd} {s : St} (h : Pl u s) (hu : Red u) : Red s.2 := by
  have hiso := h.iso
  have hnode : ∀ n ∈ s.2, ∃ i a, s.1 i = some a ∧ 0 ≤ i ∧ i < u.length ∧ n = ⟨(nth u i).f0, (nth u i).f1, mp s.1 (nth u i).f2⟩ ∧ ∀ k ∈ (nth u i).f2, (s.1 k).isSome := by
    intro n hn
    obtain ⟨a, ha, rfl⟩ := List.getElem_of_mem hn
    obtain ⟨i, hi⟩ := h.all a ha
    obtain ⟨i1, _, i3, _, i5, i6⟩ := hiso.node i a hi
    rw [nth_lt ha] at i5
    exact ⟨i, a, hi, i1, i3, i5, i6⟩
  refine ⟨h.down, hiso.nodup_of hu.nodup h.all, ?_, ?_, ?_⟩
  · intro n hn hne
    obtain ⟨i, a, hi, i1, i3, rfl, i6⟩ := hnode n hn
    have hne' : (nth u i).f2 ≠ [] := by intro e; exact hne (by simp [e, mp])
    have := hu.thin _ (nth_mem i1 i3) hne'
    cases hs : sameK (mp s.1 (nth u i).f2) with
    | false => rfl
    | true =>
      rw [sameK_map (fun x hx y hy e => ?_) hs] at this
      · cases this
      · obtain ⟨p, hp⟩ := Option.isSome_iff_exists.1 (i6 x hx)
        obtain ⟨q, hq⟩ := Option.isSome_iff_exists.1 (i6 y hy)
        have : p = q := by simpa [hp, hq] using e
        exact h.inj x y p hp (by rw [this]; exact hq)
  · intro n hn h0
    obtain ⟨i, a, hi, i1, i3, rfl, i6⟩ := hnode n hn
    obtain ⟨l1, l2⟩ := hu.leafy _ (nth_mem i1 i3) h0
    exact ⟨l1, by simp [l2, mp]⟩
  · intro n hn h0
    obtain ⟨i, a, hi, i1, i3, rfl, i6⟩ := hnode n hn
    obtain ⟨l1, l2⟩ := hu.full _ (nth_mem i1 i3) h0
    exact ⟨by simpa [mp] using l1, l2⟩
/-- a canonical list -/
structure Can (d : List Nd) : Prop where
  red : Red d
  ne : 0 < d.length
  self : expo d ((d.length - 1 : Nat) : Int) = d
theorem expo_can {u : List Nd} (hu : Red u) {r : Nat} (hr : r < u.length) : Can (expo u r) := by
  obtain ⟨g, h1, h2, h3⟩ := expo_pl hu.down hr
  exact ⟨h1.red hu, h3, (expo_iso h1.iso hu.down h1.down h2).symm⟩
/-- a reduced list brought into a table: node for node -/
theorem imp_iso {d : List Nd} (hd : Red d) {v : List Nd} (hv : Red v) : ∀ k, k ≤ d.length → Iso (d.take k) (imp v [] (d.take k)).1 (fun i => if 0 ≤ i ∧ i < k then some (lk (imp v [] (d.take k)).2 i) else none) := by
  intro k
  induction k with
  | zero => intro _; exact ⟨fun i j a h => by simp at h; omega, fun i a h => by simp at h; omega⟩
  | succ k ih =>
    intro hk
    have h0 := ih (by omega)
    obtain ⟨t1, t2, t3⟩ := imp_tbl hd.fit (u := v) ⟨hv.down, hv.nodup, by simp⟩ k (by omega)
    have hlen := imp_len (d.take k) v []
    have e := take_snoc' (ns := d) (k := k) (by omega)
    have hdn := hd.down k (by omega)
    have hmem : nth d k ∈ d := by rw [nth_lt (by omega)]; exact List.getElem_mem _
    rw [e, imp_snoc]
    generalize hI : imp v [] (d.take k) = I at h0 t1 t2 t3 hlen
    obtain ⟨u, at_⟩ := I
    simp only at h0 t1 t2 t3 hlen ⊢
    have hlen' : at_.length = k := by rw [hlen]; simp; omega
    have hlk : ∀ i : Int, 0 ≤ i → i < k → lk (at_ ++ [(place1 u at_ (nth d k)).2]) i = lk at_ i := by
      intro i i0 i1
      unfold lk
      rw [List.getD_eq_getElem?_getD, List.getD_eq_getElem?_getD, List.getElem?_append_left (by omega)]
    have hlast : lk (at_ ++ [(place1 u at_ (nth d k)).2]) k = (place1 u at_ (nth d k)).2 := by
      unfold lk
      rw [List.getD_eq_getElem?_getD, Int.toNat_natCast, List.getElem?_append_right (by omega)]
      simp [hlen']
    have hinj : ∀ x : Int, (0 ≤ x ∧ x < (k : Int)) → ∀ y : Int, (0 ≤ y ∧ y < (k : Int)) → lk at_ x = lk at_ y → x = y := by
      intro x hx y hy hxy
      exact h0.inj x y (lk at_ x) (by rw [if_pos (by omega)]) (by rw [if_pos (by omega), hxy])
    -- the new node is stored as it is
    have hp : nth (place1 u at_ (nth d k)).1 (place1 u at_ (nth d k)).2 = ⟨(nth d k).f0, (nth d k).f1, (nth d k).f2.map (lk at_)⟩ ∧ u <+: (place1 u at_ (nth d k)).1 ∧ 0 ≤ (place1 u at_ (nth d k)).2 ∧ (place1 u at_ (nth d k)).2 < (place1 u at_ (nth d k)).1.length := by
      unfold place1
      split
      · rename_i hneg
        obtain ⟨l1, l2⟩ := hd.leafy _ hmem hneg
        refine ⟨?_, place0_pre _ _, place0_lt _ _⟩
        rw [place0_nth, l1, l2]; rfl
      · rename_i hneg
        obtain ⟨l1, l2⟩ := hd.full _ hmem (by omega)
        unfold placeB
        rw [if_neg]
        · refine ⟨?_, place0_pre _ _, place0_lt _ _⟩
          rw [place0_nth, l2]
        · intro hs
          have h1 := hd.thin _ hmem l1
          rw [sameK_map (fun x hx y hy e => hinj x ?_ y ?_ e) hs] at h1
          · cases h1
          · exact hdn x hx
          · exact hdn y hy
    obtain ⟨p1, p2, p3, p4⟩ := hp
    have hnode : ∀ i : Nat, i < k → nth (d.take k ++ [nth d k]) i = nth d i ∧ nth (d.take k) i = nth d i := by
      intro i hi
      have h1 : nth (d.take k) i = nth d i := by rw [nth_lt (by simp; omega), nth_lt (by omega)]; simp
      exact ⟨by rw [nth_append_left (by omega) (by simp; omega), h1], h1⟩
    have hnk : nth (d.take k ++ [nth d k]) k = nth d k := by
      rw [← e, nth_lt (by simp; omega)]
      simp [nth_lt (show k < d.length by omega)]
    have hmpk : ∀ (l : List Int), (∀ c ∈ l, 0 ≤ c ∧ c < (k : Int)) → mp (fun i => if 0 ≤ i ∧ i < ((k + 1 : Nat) : Int) then some (lk (at_ ++ [(place1 u at_ (nth d k)).2]) i) else none) l = l.map (lk at_) := by
      intro l hl
      refine List.map_congr_left fun c hc => ?_
      have := hl c hc
      simp only
      rw [if_pos (by omega), hlk c this.1 this.2]; rfl
    have hkid : ∀ i : Nat, i < k → ∀ c ∈ (nth d i).f2, 0 ≤ c ∧ c < (k : Int) := by
      intro i hi c hc
      have := hd.down i (by omega) c hc
      omega
    have hmp0 : ∀ (l : List Int), (∀ c ∈ l, 0 ≤ c ∧ c < (k : Int)) → mp (fun i => if 0 ≤ i ∧ i < (k : Int) then some (lk at_ i) else none) l = l.map (lk at_) := by
      intro l hl
      refine List.map_congr_left fun c hc => ?_
      have := hl c hc
      simp only
      rw [if_pos (by omega)]; rfl
    have hold : ∀ i : Nat, i < k → 0 ≤ lk at_ i ∧ lk at_ i < u.length ∧ nth u (lk at_ i) = ⟨(nth d i).f0, (nth d i).f1, (nth d i).f2.map (lk at_)⟩ := by
      intro i hi
      obtain ⟨_, a2, _, a4, a5, _⟩ := h0.node i (lk at_ i) (by rw [if_pos (by omega)])
      rw [(hnode i hi).2, hmp0 _ (hkid i hi)] at a5
      exact ⟨a2, a4, a5⟩
    have hmapinj : ∀ (l l' : List Int), (∀ c ∈ l, 0 ≤ c ∧ c < (k : Int)) → (∀ c ∈ l', 0 ≤ c ∧ c < (k : Int)) → l.map (lk at_) = l'.map (lk at_) → l = l' := by
      intro l
      induction l with
      | nil => intro l' _ _ h; cases l' with
        | nil => rfl
        | cons => simp at h
      | cons a l ihl =>
        intro l' h1 h2 h
        cases l' with
        | nil => simp at h
        | cons b l' =>
          simp only [List.map_cons, List.cons.injEq] at h
          rw [hinj a (h1 a List.mem_cons_self) b (h2 b List.mem_cons_self) h.1, ihl l' (fun c hc => h1 c (List.mem_cons_of_mem _ hc)) (fun c hc => h2 c (List.mem_cons_of_mem _ hc)) h.2]
    have hnew : ∀ i : Nat, i < k → lk at_ i ≠ (place1 u at_ (nth d k)).2 := by
      intro i hi he
      obtain ⟨b1, b2, b3⟩ := hold i hi
      have h5 := nth_prefix p2 b1 b2
      rw [b3, he, p1] at h5
      simp only [S60.mk.injEq] at h5
      obtain ⟨e0, e1, e2⟩ := h5
      have e3 := hmapinj _ _ (fun c hc => hdn c hc) (hkid i hi) e2
      have p : ∀ n m : Nd, n.f0 = m.f0 → n.f1 = m.f1 → n.f2 = m.f2 → n = m := by rintro ⟨⟩ ⟨⟩ rfl rfl rfl; rfl
      have := nodup_nth hd.nodup (i := k) (j := i) ⟨by omega, by omega⟩ ⟨by omega, by omega⟩ (p _ _ e0 e1 e3)
      omega
    refine ⟨?_, ?_⟩
    · intro i j a hi hj
      by_cases h1 : 0 ≤ i ∧ i < ((k + 1 : Nat) : Int)
      · by_cases h2 : 0 ≤ j ∧ j < ((k + 1 : Nat) : Int)
        · rw [if_pos h1] at hi
          rw [if_pos h2] at hj
          have hi := Option.some.inj hi
          have hj := Option.some.inj hj
          by_cases i1 : i < k <;> by_cases j1 : j < k
          · rw [hlk i h1.1 i1] at hi; rw [hlk j h2.1 j1] at hj
            exact hinj i ⟨h1.1, i1⟩ j ⟨h2.1, j1⟩ (hi.trans hj.symm)
          · have ej : j = k := by omega
            subst ej
            rw [hlk i h1.1 i1] at hi; rw [hlast] at hj
            obtain ⟨n, rfl⟩ : ∃ n : Nat, i = n := ⟨i.toNat, by omega⟩
            exact absurd (hi.trans hj.symm) (hnew n (by omega))
          · have ei : i = k := by omega
            subst ei
            rw [hlast] at hi; rw [hlk j h2.1 j1] at hj
            obtain ⟨n, rfl⟩ : ∃ n : Nat, j = n := ⟨j.toNat, by omega⟩
            exact absurd (hj.trans hi.symm) (hnew n (by omega))
          · omega
        · rw [if_neg h2] at hj; cases hj
      · rw [if_neg h1] at hi; cases hi
    · intro i a hi
      by_cases h1 : 0 ≤ i ∧ i < ((k + 1 : Nat) : Int)
      · rw [if_pos h1] at hi
        have hi := Option.some.inj hi
        obtain ⟨n, rfl⟩ : ∃ n : Nat, i = n := ⟨i.toNat, by omega⟩
        by_cases i1 : n < k
        · rw [hlk n h1.1 (by omega)] at hi
          subst hi
          obtain ⟨b1, b2, b3⟩ := hold n i1
          refine ⟨h1.1, b1, by simp; omega, by have := p2.length_le; omega, ?_, ?_⟩
          · rw [(hnode n i1).1, hmpk _ (hkid n i1), nth_prefix p2 b1 b2, b3]
          · rw [(hnode n i1).1]
            intro c hc
            have := hkid n i1 c hc
            rw [if_pos (by omega)]; rfl
        · have : n = k := by omega
          subst this
          rw [hlast] at hi
          subst hi
          refine ⟨h1.1, p3, by simp; omega, p4, ?_, ?_⟩
          · rw [hnk, hmpk _ (fun c hc => hdn c hc), p1]
          · rw [hnk]
            intro c hc
            have := hdn c hc
            rw [if_pos (by omega)]; rfl
      · rw [if_neg h1] at hi; cases hi
/-- storing a canonical list and taking it out again gives it back -/
theorem imp_expo {d : List Nd} (hd : Can d) {v : List Nd} (hv : Red v) : expo (imp v [] d).1 (lk (imp v [] d).2 ((d.length - 1 : Nat) : Int)) = d := by
  have h := imp_iso hd.red hv d.length (Nat.le_refl _)
  rw [List.take_length] at h
  have := hd.ne
  have hr := imp_red hd.red.fit hv d.length (Nat.le_refl _)
  rw [List.take_length] at hr
  have := expo_iso h hd.red.down hr.down (i := ((d.length - 1 : Nat) : Int)) (a := lk (imp v [] d).2 ((d.length - 1 : Nat) : Int)) (by rw [if_pos (by omega)])
  rw [← this, hd.self]
end Go.Proofs.YtopbjginpmdebaaDoor.K
/-
  DERIVED: THE SHELF's CONTRACTS AT THIS DUMP, IN PLAIN WORDS (tools/lay-plain.mjs out of 'YtopbjginpmdebaaDoorShelf.lean', which tools/lay-shelf.mjs wrote): THE SAME DECLARATIONS UNDER THE SAME NAMES: 'import', 'namespace', 'open', 'def', 'theorem' AND NOTHING ELSE: no command of the shelf's: FOR A HAND-IN. Each laying: the table of numbers ('.._ren') and one theorem, a field a fact of the dump's own or the kernel's comparison; each contract: ONE APPLICATION.
-/
namespace Go.Proofs
open Go.Shelf
def Tryd.lays129_ren : Go.Shelf.Ren := ⟨fun | 129 => 93 | n => n, fun | 53 => 114 | 3 => 3 | 4 => 4 | 46 => 103 | 5 => 5 | 9 => 9 | n => n, fun | n => n⟩
theorem Tryd.lays129 : Go.Proofs.Lays.n129 Tryd.prog Tryd.lays129_ren := {
  mixed := by kernel_rfl
  f129 := Tryd.func93.trans (congrArg some (by kernel_rfl))
  t3 := Tryd.underlying3
  a3 := Tryd.isAgg3
  z3 := Tryd.sizeOf3
  v3 := Tryd.zeroValue3
  t4 := Tryd.underlying4
  a4 := Tryd.isAgg4
  z4 := Tryd.sizeOf4
  v4 := Tryd.zeroValue4
  t5 := Tryd.underlying5
  a5 := Tryd.isAgg5
  z5 := Tryd.sizeOf5
  v5 := Tryd.zeroValue5
  t9 := Tryd.underlying9
  a9 := Tryd.isAgg9
  z9 := Tryd.sizeOf9
  v9 := Tryd.zeroValue9
  t46 := Tryd.underlying103
  a46 := Tryd.isAgg103
  z46 := Tryd.sizeOf103
  v46 := Tryd.zeroValue103
  t53 := Tryd.underlying114
  a53 := Tryd.isAgg114
  z53 := Tryd.sizeOf114
  v53 := Tryd.zeroValue114 }
/-- bits.Len64: "Len64 returns the minimum number of bits required to represent x; the result is 0 for x == 0.": IT RETURNS 'Lib.bitLen x'; the world is as it was. ('h0', 'h1': x is a uint64.) (LAID: no walk: one application.) -/
theorem Tryd.bits_Len64 (x : Int) (w : World) (h0 : 0 ≤ x) (h1 : x ≤ 18446744073709551615) :
    Calls Tryd.prog 93 #[.int .u64 x] w fun e w' => e = .returned (.int .i64 (Lib.bitLen x.toNat)) ∧ w' = w := Any.bits_Len64 Tryd.lays129 x w h0 h1
def Tryd.lays317_ren : Go.Shelf.Ren := ⟨fun | 317 => 106 | n => n, fun | 3 => 3 | 46 => 103 | n => n, fun | n => n⟩
theorem Tryd.lays317 : Go.Proofs.Lays.n317 Tryd.prog Tryd.lays317_ren := {
  mixed := by kernel_rfl
  f317 := Tryd.func106.trans (congrArg some (by kernel_rfl))
  t3 := Tryd.underlying3
  a3 := Tryd.isAgg3
  z3 := Tryd.sizeOf3
  v3 := Tryd.zeroValue3
  t46 := Tryd.underlying103
  a46 := Tryd.isAgg103
  z46 := Tryd.sizeOf103
  v46 := Tryd.zeroValue103 }
open Go.Lib in
/-- internal/strconv.log10Pow2: "log10Pow2(x) returns ⌊log₁₀ 2**x⌋ = ⌊x * log₁₀ 2⌋.": '(x * 78913) >> 18', at an x up to 64 (a length in bits). The world is as it was. (LAID: no walk: one application.) -/
theorem Tryd.internal_strconv_log10Pow2 (x : Nat) (h : x ≤ 64) (w : World) :
    Calls Tryd.prog 106 #[.int .i64 x] w fun e w' => e = .returned (.int .i64 (Lib.l10 x)) ∧ w' = w := Any.internal_strconv_log10Pow2 Tryd.lays317 x h w
def Tryd.lays318_ren : Go.Shelf.Ren := ⟨fun | 318 => 107 | n => n, fun | 3 => 3 | 4 => 4 | n => n, fun | n => n⟩
theorem Tryd.lays318 : Go.Proofs.Lays.n318 Tryd.prog Tryd.lays318_ren := {
  mixed := by kernel_rfl
  f318 := Tryd.func107.trans (congrArg some (by kernel_rfl))
  t3 := Tryd.underlying3
  a3 := Tryd.isAgg3
  z3 := Tryd.sizeOf3
  v3 := Tryd.zeroValue3
  t4 := Tryd.underlying4
  a4 := Tryd.isAgg4
  z4 := Tryd.sizeOf4
  v4 := Tryd.zeroValue4 }
open Go.Lib in
/-- internal/strconv.bool2: "bool2 converts b to an integer: 1 for true, 0 for false." The world is as it was. (LAID: no walk: one application.) -/
theorem Tryd.internal_strconv_bool2_int (b : Bool) (w : World) :
    Calls Tryd.prog 107 #[.bool b] w fun e w' => e = .returned (.int .i64 (if b then 1 else 0)) ∧ w' = w := Any.internal_strconv_bool2_int Tryd.lays318 b w
def Tryd.lays283_ren : Go.Shelf.Ren := ⟨fun | 283 => 101 | n => n, fun | 3 => 3 | 9 => 9 | 4 => 4 | n => n, fun | n => n⟩
theorem Tryd.lays283 : Go.Proofs.Lays.n283 Tryd.prog Tryd.lays283_ren := {
  mixed := by kernel_rfl
  f283 := Tryd.func101.trans (congrArg some (by kernel_rfl))
  t3 := Tryd.underlying3
  a3 := Tryd.isAgg3
  z3 := Tryd.sizeOf3
  v3 := Tryd.zeroValue3
  t4 := Tryd.underlying4
  a4 := Tryd.isAgg4
  z4 := Tryd.sizeOf4
  v4 := Tryd.zeroValue4
  t9 := Tryd.underlying9
  a9 := Tryd.isAgg9
  z9 := Tryd.sizeOf9
  v9 := Tryd.zeroValue9 }
open Go.Lib in
/-- internal/strconv.small: "small returns the string for an i with 0 <= i < nSmalls.": i's decimal numeral. The world is as it was. (LAID: no walk: one application.) -/
theorem Tryd.internal_strconv_small (i : Nat) (h : i < 100) (w : World) :
    Calls Tryd.prog 101 #[.int .i64 i] w fun e w' => e = .returned (.string ⟨(Lib.decDigits i).toArray⟩) ∧ w' = w := Any.internal_strconv_small Tryd.lays283 i h w
def Tryd.laysM284_ren : Go.Shelf.Ren := ⟨fun | 284 => 102 | 129 => 93 | 317 => 106 | 318 => 107 | n => n, fun | 53 => 114 | 3 => 3 | 212 => 131 | 0 => 0 | 4 => 4 | 46 => 103 | 5 => 5 | 9 => 9 | n => n, fun | 17 => 0 | n => n⟩
theorem Tryd.laysM284 : Go.Proofs.LaysM.n284 Tryd.prog Tryd.laysM284_ren := {
  mixed := by kernel_rfl
  f129 := Tryd.func93.trans (congrArg some (by kernel_rfl))
  f284 := Tryd.func102.trans (congrArg some (by kernel_rfl))
  f317 := Tryd.func106.trans (congrArg some (by kernel_rfl))
  f318 := Tryd.func107.trans (congrArg some (by kernel_rfl))
  t0 := Tryd.underlying0
  a0 := Tryd.isAgg0
  z0 := Tryd.sizeOf0
  v0 := Tryd.zeroValue0
  t3 := Tryd.underlying3
  a3 := Tryd.isAgg3
  z3 := Tryd.sizeOf3
  v3 := Tryd.zeroValue3
  t4 := Tryd.underlying4
  a4 := Tryd.isAgg4
  z4 := Tryd.sizeOf4
  v4 := Tryd.zeroValue4
  t5 := Tryd.underlying5
  a5 := Tryd.isAgg5
  z5 := Tryd.sizeOf5
  v5 := Tryd.zeroValue5
  t9 := Tryd.underlying9
  a9 := Tryd.isAgg9
  z9 := Tryd.sizeOf9
  v9 := Tryd.zeroValue9
  t46 := Tryd.underlying103
  a46 := Tryd.isAgg103
  z46 := Tryd.sizeOf103
  v46 := Tryd.zeroValue103
  t53 := Tryd.underlying114
  a53 := Tryd.isAgg114
  z53 := Tryd.sizeOf114
  v53 := Tryd.zeroValue114
  t212 := Tryd.underlying131
  a212 := Tryd.isAgg131
  z212 := Tryd.sizeOf131
  v212 := Tryd.zeroValue131
  g17 := by kernel_rfl
  i0 := by kernel_rfl
  i3 := by kernel_rfl
  i4 := by kernel_rfl
  i5 := by kernel_rfl
  i9 := by kernel_rfl
  i46 := by kernel_rfl
  i53 := by kernel_rfl
  i212 := by kernel_rfl
  m17 := by kernel_rfl }
open Go.Lib in
/-- internal/strconv.numDigits, at a d that is not 0: THE NUMBER OF d's DECIMAL DIGITS. The world is as it was. (LAID: no walk: one application.) -/
theorem Tryd.internal_strconv_numDigits (u : Nat) (h1 : 1 ≤ u) (h2 : u < 18446744073709551616) (w : World) (htab : Lib.TabIs Tryd.prog w "internal/strconv.uint64pow10" .u64 Lib.pow10Tab) :
    Calls Tryd.prog 102 #[.int .u64 u] w fun e w' => e = .returned (.int .i64 (Lib.nDigits u)) ∧ w' = w := Any.internal_strconv_numDigits Tryd.laysM284 u h1 h2 w htab
def Tryd.lays285_ren : Go.Shelf.Ren := ⟨fun | 285 => 103 | n => n, fun | 37 => 99 | 53 => 114 | 3 => 3 | 4 => 4 | 51 => 112 | 9 => 9 | 5 => 5 | 0 => 0 | n => n, fun | n => n⟩
theorem Tryd.lays285 : Go.Proofs.Lays.n285 Tryd.prog Tryd.lays285_ren := {
  mixed := by kernel_rfl
  f285 := Tryd.func103.trans (congrArg some (by kernel_rfl))
  t0 := Tryd.underlying0
  a0 := Tryd.isAgg0
  z0 := Tryd.sizeOf0
  v0 := Tryd.zeroValue0
  t3 := Tryd.underlying3
  a3 := Tryd.isAgg3
  z3 := Tryd.sizeOf3
  v3 := Tryd.zeroValue3
  t4 := Tryd.underlying4
  a4 := Tryd.isAgg4
  z4 := Tryd.sizeOf4
  v4 := Tryd.zeroValue4
  t5 := Tryd.underlying5
  a5 := Tryd.isAgg5
  z5 := Tryd.sizeOf5
  v5 := Tryd.zeroValue5
  t9 := Tryd.underlying9
  a9 := Tryd.isAgg9
  z9 := Tryd.sizeOf9
  v9 := Tryd.zeroValue9
  t37 := Tryd.underlying99
  a37 := Tryd.isAgg99
  z37 := Tryd.sizeOf99
  v37 := Tryd.zeroValue99
  t51 := Tryd.underlying112
  a51 := Tryd.isAgg112
  z51 := Tryd.sizeOf112
  v51 := Tryd.zeroValue112
  t53 := Tryd.underlying114
  a53 := Tryd.isAgg114
  z53 := Tryd.sizeOf114
  v53 := Tryd.zeroValue114 }
open Go.RowKit Go.Sort Go.Lib in
/-- internal/strconv.formatBase10: "formatBase10 formats the decimal representation of u into a. The caller is responsible for ensuring that a is big enough to hold u. If a is too big, leading zeros will be filled in as needed.": THE ROW HOLDS u's DIGITS ('FmtInv .. 0 ..': every place t holds 'dg u (len - 1 - t)'); all else is as it was but for the count of draws. (LAID: no walk: one application.) -/
theorem Tryd.internal_strconv_formatBase10 (blk off cap : Nat) (u : Nat) (d : Array UInt8) (w : World) (hH : Holds (fun (b : UInt8) => Value.int .u8 (b.toNat : Int)) w blk off d) (hu : u < 10 ^ d.size) (hu64 : u < 18446744073709551616) (hsz : d.size < 4611686018427387904) :
    Calls Tryd.prog 103 #[.slice (some ⟨blk, off, none⟩) d.size cap, .int .u64 u] w fun e w' =>
      e = .returned (.tuple #[]) ∧ ∃ (n v' : Nat) (dk : Array UInt8), w' = (putRow (fun (b : UInt8) => Value.int .u8 (b.toNat : Int)) w blk off dk).drewN n ∧ FmtInv d.size u 0 v' dk := Any.internal_strconv_formatBase10 Tryd.lays285 blk off cap u d w hH hu hu64 hsz
def Tryd.lays189_ren : Go.Shelf.Ren := ⟨fun | 189 => 75 | 125 => 81 | 257 => 80 | 128 => 92 | 129 => 93 | 294 => 83 | 295 => 84 | 296 => 85 | 297 => 86 | 298 => 87 | 299 => 88 | 216 => 89 | 300 => 90 | 301 => 91 | 328 => 95 | 329 => 96 | 330 => 97 | 331 => 98 | 332 => 99 | 215 => 100 | 343 => 105 | n => n, fun | 28 => 22 | 3 => 3 | 46 => 103 | 0 => 0 | 51 => 112 | 53 => 114 | 4 => 4 | 183 => 106 | 182 => 105 | 131 => 88 | 5 => 5 | 9 => 9 | 218 => 116 | 222 => 120 | 228 => 127 | 229 => 128 | n => n, fun | n => n⟩
theorem Tryd.lays189 : Go.Proofs.Lays.n189 Tryd.prog Tryd.lays189_ren := {
  mixed := by kernel_rfl
  f125 := Tryd.func81.trans (congrArg some (by kernel_rfl))
  f128 := Tryd.func92.trans (congrArg some (by kernel_rfl))
  f129 := Tryd.func93.trans (congrArg some (by kernel_rfl))
  f189 := Tryd.func75.trans (congrArg some (by kernel_rfl))
  f215 := Tryd.func100.trans (congrArg some (by kernel_rfl))
  f216 := Tryd.func89.trans (congrArg some (by kernel_rfl))
  f257 := Tryd.func80.trans (congrArg some (by kernel_rfl))
  f294 := Tryd.func83.trans (congrArg some (by kernel_rfl))
  f295 := Tryd.func84.trans (congrArg some (by kernel_rfl))
  f296 := Tryd.func85.trans (congrArg some (by kernel_rfl))
  f297 := Tryd.func86.trans (congrArg some (by kernel_rfl))
  f298 := Tryd.func87.trans (congrArg some (by kernel_rfl))
  f299 := Tryd.func88.trans (congrArg some (by kernel_rfl))
  f300 := Tryd.func90.trans (congrArg some (by kernel_rfl))
  f301 := Tryd.func91.trans (congrArg some (by kernel_rfl))
  f328 := Tryd.func95.trans (congrArg some (by kernel_rfl))
  f329 := Tryd.func96.trans (congrArg some (by kernel_rfl))
  f330 := Tryd.func97.trans (congrArg some (by kernel_rfl))
  f331 := Tryd.func98.trans (congrArg some (by kernel_rfl))
  f332 := Tryd.func99.trans (congrArg some (by kernel_rfl))
  f343 := Tryd.func105.trans (congrArg some (by kernel_rfl))
  t0 := Tryd.underlying0
  a0 := Tryd.isAgg0
  z0 := Tryd.sizeOf0
  v0 := Tryd.zeroValue0
  t3 := Tryd.underlying3
  a3 := Tryd.isAgg3
  z3 := Tryd.sizeOf3
  v3 := Tryd.zeroValue3
  t4 := Tryd.underlying4
  a4 := Tryd.isAgg4
  z4 := Tryd.sizeOf4
  v4 := Tryd.zeroValue4
  t5 := Tryd.underlying5
  a5 := Tryd.isAgg5
  z5 := Tryd.sizeOf5
  v5 := Tryd.zeroValue5
  t9 := Tryd.underlying9
  a9 := Tryd.isAgg9
  z9 := Tryd.sizeOf9
  v9 := Tryd.zeroValue9
  t28 := Tryd.underlying22
  a28 := Tryd.isAgg22
  z28 := Tryd.sizeOf22
  v28 := Tryd.zeroValue22
  t46 := Tryd.underlying103
  a46 := Tryd.isAgg103
  z46 := Tryd.sizeOf103
  v46 := Tryd.zeroValue103
  t51 := Tryd.underlying112
  a51 := Tryd.isAgg112
  z51 := Tryd.sizeOf112
  v51 := Tryd.zeroValue112
  t53 := Tryd.underlying114
  a53 := Tryd.isAgg114
  z53 := Tryd.sizeOf114
  v53 := Tryd.zeroValue114
  t131 := Tryd.underlying88
  a131 := Tryd.isAgg88
  z131 := Tryd.sizeOf88
  v131 := Tryd.zeroValue88
  t182 := Tryd.underlying105
  a182 := Tryd.isAgg105
  z182 := Tryd.sizeOf105
  v182 := Tryd.zeroValue105
  t183 := Tryd.underlying106
  a183 := Tryd.isAgg106
  z183 := Tryd.sizeOf106
  v183 := Tryd.zeroValue106
  t218 := Tryd.underlying116
  a218 := Tryd.isAgg116
  z218 := Tryd.sizeOf116
  v218 := Tryd.zeroValue116
  t222 := Tryd.underlying120
  a222 := Tryd.isAgg120
  z222 := Tryd.sizeOf120
  v222 := Tryd.zeroValue120
  t228 := Tryd.underlying127
  a228 := Tryd.isAgg127
  z228 := Tryd.sizeOf127
  v228 := Tryd.zeroValue127
  t229 := Tryd.underlying128
  a229 := Tryd.isAgg128
  z229 := Tryd.sizeOf128
  v229 := Tryd.zeroValue128 }
open Go.Sort Go.RowKit in
theorem Tryd.slices_Sort_int (blk off cap : Nat) (zs : List Int) (w : World) (hH : Holds (Value.int .i64) w blk off zs.toArray) (hblk : blk < w.heap.size) (hsz : zs.length < 4611686018427387904) :
    Calls Tryd.prog 75 #[.slice (some ⟨blk, off, none⟩) zs.length cap] w fun e w' =>
      e = .returned (.tuple #[]) ∧ ∃ n os, w' = grow (putRow (Value.int .i64) (Sort.ahead w n) blk off (zs.mergeSort fun x y => decide (x ≤ y)).toArray) os := Any.slices_Sort_int Tryd.lays189 blk off cap zs w hH hblk hsz
def Tryd.laysM288_ren : Go.Shelf.Ren := ⟨fun | 288 => 94 | 283 => 101 | 284 => 102 | 285 => 103 | 286 => 104 | 129 => 93 | 317 => 106 | 318 => 107 | 319 => 108 | 320 => 109 | 337 => 110 | 338 => 111 | n => n, fun | 37 => 99 | 53 => 114 | 3 => 3 | 4 => 4 | 9 => 9 | 171 => 123 | 0 => 0 | 173 => 125 | 212 => 131 | 51 => 112 | 5 => 5 | 20 => 20 | 213 => 132 | 46 => 103 | 232 => 133 | 233 => 134 | n => n, fun | 17 => 0 | 18 => 1 | 19 => 2 | n => n⟩
theorem Tryd.laysM288 : Go.Proofs.LaysM.n288 Tryd.prog Tryd.laysM288_ren := {
  mixed := by kernel_rfl
  f129 := Tryd.func93.trans (congrArg some (by kernel_rfl))
  f283 := Tryd.func101.trans (congrArg some (by kernel_rfl))
  f284 := Tryd.func102.trans (congrArg some (by kernel_rfl))
  f285 := Tryd.func103.trans (congrArg some (by kernel_rfl))
  f286 := Tryd.func104.trans (congrArg some (by kernel_rfl))
  f288 := Tryd.func94.trans (congrArg some (by kernel_rfl))
  f317 := Tryd.func106.trans (congrArg some (by kernel_rfl))
  f318 := Tryd.func107.trans (congrArg some (by kernel_rfl))
  f319 := Tryd.func108.trans (congrArg some (by kernel_rfl))
  f320 := Tryd.func109.trans (congrArg some (by kernel_rfl))
  f337 := Tryd.func110.trans (congrArg some (by kernel_rfl))
  f338 := Tryd.func111.trans (congrArg some (by kernel_rfl))
  t0 := Tryd.underlying0
  a0 := Tryd.isAgg0
  z0 := Tryd.sizeOf0
  v0 := Tryd.zeroValue0
  t3 := Tryd.underlying3
  a3 := Tryd.isAgg3
  z3 := Tryd.sizeOf3
  v3 := Tryd.zeroValue3
  t4 := Tryd.underlying4
  a4 := Tryd.isAgg4
  z4 := Tryd.sizeOf4
  v4 := Tryd.zeroValue4
  t5 := Tryd.underlying5
  a5 := Tryd.isAgg5
  z5 := Tryd.sizeOf5
  v5 := Tryd.zeroValue5
  t9 := Tryd.underlying9
  a9 := Tryd.isAgg9
  z9 := Tryd.sizeOf9
  v9 := Tryd.zeroValue9
  t20 := Tryd.underlying20
  a20 := Tryd.isAgg20
  z20 := Tryd.sizeOf20
  v20 := Tryd.zeroValue20
  t37 := Tryd.underlying99
  a37 := Tryd.isAgg99
  z37 := Tryd.sizeOf99
  v37 := Tryd.zeroValue99
  t46 := Tryd.underlying103
  a46 := Tryd.isAgg103
  z46 := Tryd.sizeOf103
  v46 := Tryd.zeroValue103
  t51 := Tryd.underlying112
  a51 := Tryd.isAgg112
  z51 := Tryd.sizeOf112
  v51 := Tryd.zeroValue112
  t53 := Tryd.underlying114
  a53 := Tryd.isAgg114
  z53 := Tryd.sizeOf114
  v53 := Tryd.zeroValue114
  t171 := Tryd.underlying123
  a171 := Tryd.isAgg123
  z171 := Tryd.sizeOf123
  v171 := Tryd.zeroValue123
  t173 := Tryd.underlying125
  a173 := Tryd.isAgg125
  z173 := Tryd.sizeOf125
  v173 := Tryd.zeroValue125
  t212 := Tryd.underlying131
  a212 := Tryd.isAgg131
  z212 := Tryd.sizeOf131
  v212 := Tryd.zeroValue131
  t213 := Tryd.underlying132
  a213 := Tryd.isAgg132
  z213 := Tryd.sizeOf132
  t232 := Tryd.underlying133
  a232 := Tryd.isAgg133
  z232 := Tryd.sizeOf133
  v232 := Tryd.zeroValue133
  t233 := Tryd.underlying134
  a233 := Tryd.isAgg134
  z233 := Tryd.sizeOf134
  v233 := Tryd.zeroValue134
  g17 := by kernel_rfl
  g18 := by kernel_rfl
  g19 := by kernel_rfl
  i0 := by kernel_rfl
  i3 := by kernel_rfl
  i4 := by kernel_rfl
  i5 := by kernel_rfl
  i9 := by kernel_rfl
  i20 := by kernel_rfl
  i37 := by kernel_rfl
  i46 := by kernel_rfl
  i51 := by kernel_rfl
  i53 := by kernel_rfl
  i171 := by kernel_rfl
  i173 := by kernel_rfl
  i212 := by kernel_rfl
  i232 := by kernel_rfl
  i233 := by kernel_rfl
  m17 := by kernel_rfl
  m18 := by kernel_rfl
  m19 := by kernel_rfl }
open Go.RowKit Go.Sort Go.Lib in
/-- internal/strconv.AppendUint(dst, i, 10), i BELOW 100: WHAT COMES BACK OWNS dst's CELLS AND, BEHIND THEM, i's DECIMAL NUMERAL. No table is read. Below the call's own blocks nothing has turned. (LAID: no walk: one application.) -/
theorem Tryd.internal_strconv_AppendUint_10_small (B n u : Nat) (hu : u < 100) (sv : Value) (xs : List Value) (w : World) (hown : w.ownsRow B 5 1 sv n xs) (hBw : B ≤ w.heap.size) (hlim : n + 20 ≤ 140737488355328) :
    Calls Tryd.prog 94 #[sv, .int .u64 u, .int .i64 10] w fun e w' => ∃ v', e = .returned v' ∧ w'.ownsRow B 5 1 v' (n + (Lib.decDigits u).length) (xs ++ Lib.byteCells (Lib.decDigits u)) ∧ Below B w w' ∧ Lib.OthersKept 5 none w w' := Any.internal_strconv_AppendUint_10_small Tryd.laysM288 B n u hu sv xs w hown hBw hlim
open Go.RowKit Go.Sort Go.Lib in
/-- internal/strconv.AppendUint(dst, i, 10), i FROM 100 ON: likewise; the digits are laid in an array of the call's own and appended. (LAID: no walk: one application.) -/
theorem Tryd.internal_strconv_AppendUint_10_big (B n u : Nat) (hu : 100 ≤ u) (hu64 : u < 18446744073709551616) (sv : Value) (xs : List Value) (w : World) (hown : w.ownsRow B 5 1 sv n xs) (hBw : B ≤ w.heap.size) (hlim : n + 20 ≤ 140737488355328) (htab : Lib.TabIs Tryd.prog w "internal/strconv.uint64pow10" .u64 Lib.pow10Tab) :
    Calls Tryd.prog 94 #[sv, .int .u64 u, .int .i64 10] w fun e w' => ∃ v', e = .returned v' ∧ w'.ownsRow B 5 1 v' (n + (Lib.decDigits u).length) (xs ++ Lib.byteCells (Lib.decDigits u)) ∧ Below B w w' ∧ Lib.OthersKept 5 none w w' := Any.internal_strconv_AppendUint_10_big Tryd.laysM288 B n u hu hu64 sv xs w hown hBw hlim htab
open Go.RowKit Go.Sort Go.Lib in
/-- internal/strconv.AppendUint(dst, i, 10): the two contracts as one. NO WALK. (LAID: no walk: one application.) -/
theorem Tryd.internal_strconv_AppendUint_10 (B n u : Nat) (hu64 : u < 18446744073709551616) (sv : Value) (xs : List Value) (w : World) (hown : w.ownsRow B 5 1 sv n xs) (hBw : B ≤ w.heap.size) (hlim : n + 20 ≤ 140737488355328) (htab : Lib.TabIs Tryd.prog w "internal/strconv.uint64pow10" .u64 Lib.pow10Tab) :
    Calls Tryd.prog 94 #[sv, .int .u64 u, .int .i64 10] w fun e w' => ∃ v', e = .returned v' ∧ w'.ownsRow B 5 1 v' (n + (Lib.decDigits u).length) (xs ++ Lib.byteCells (Lib.decDigits u)) ∧ Below B w w' ∧ Lib.OthersKept 5 none w w' := Any.internal_strconv_AppendUint_10 Tryd.laysM288 B n u hu64 sv xs w hown hBw hlim htab
def Tryd.laysM249_ren : Go.Shelf.Ren := ⟨fun | 249 => 82 | 288 => 94 | 283 => 101 | 284 => 102 | 285 => 103 | 286 => 104 | 129 => 93 | 317 => 106 | 318 => 107 | 319 => 108 | 320 => 109 | 337 => 110 | 338 => 111 | n => n, fun | 37 => 99 | 2 => 2 | 3 => 3 | 53 => 114 | 4 => 4 | 9 => 9 | 171 => 123 | 0 => 0 | 173 => 125 | 212 => 131 | 51 => 112 | 5 => 5 | 20 => 20 | 213 => 132 | 46 => 103 | 232 => 133 | 233 => 134 | n => n, fun | 17 => 0 | 18 => 1 | 19 => 2 | n => n⟩
theorem Tryd.laysM249 : Go.Proofs.LaysM.n249 Tryd.prog Tryd.laysM249_ren := {
  mixed := by kernel_rfl
  f129 := Tryd.func93.trans (congrArg some (by kernel_rfl))
  f249 := Tryd.func82.trans (congrArg some (by kernel_rfl))
  f283 := Tryd.func101.trans (congrArg some (by kernel_rfl))
  f284 := Tryd.func102.trans (congrArg some (by kernel_rfl))
  f285 := Tryd.func103.trans (congrArg some (by kernel_rfl))
  f286 := Tryd.func104.trans (congrArg some (by kernel_rfl))
  f288 := Tryd.func94.trans (congrArg some (by kernel_rfl))
  f317 := Tryd.func106.trans (congrArg some (by kernel_rfl))
  f318 := Tryd.func107.trans (congrArg some (by kernel_rfl))
  f319 := Tryd.func108.trans (congrArg some (by kernel_rfl))
  f320 := Tryd.func109.trans (congrArg some (by kernel_rfl))
  f337 := Tryd.func110.trans (congrArg some (by kernel_rfl))
  f338 := Tryd.func111.trans (congrArg some (by kernel_rfl))
  t0 := Tryd.underlying0
  a0 := Tryd.isAgg0
  z0 := Tryd.sizeOf0
  v0 := Tryd.zeroValue0
  t2 := Tryd.underlying2
  a2 := Tryd.isAgg2
  z2 := Tryd.sizeOf2
  v2 := Tryd.zeroValue2
  t3 := Tryd.underlying3
  a3 := Tryd.isAgg3
  z3 := Tryd.sizeOf3
  v3 := Tryd.zeroValue3
  t4 := Tryd.underlying4
  a4 := Tryd.isAgg4
  z4 := Tryd.sizeOf4
  v4 := Tryd.zeroValue4
  t5 := Tryd.underlying5
  a5 := Tryd.isAgg5
  z5 := Tryd.sizeOf5
  v5 := Tryd.zeroValue5
  t9 := Tryd.underlying9
  a9 := Tryd.isAgg9
  z9 := Tryd.sizeOf9
  v9 := Tryd.zeroValue9
  t20 := Tryd.underlying20
  a20 := Tryd.isAgg20
  z20 := Tryd.sizeOf20
  v20 := Tryd.zeroValue20
  t37 := Tryd.underlying99
  a37 := Tryd.isAgg99
  z37 := Tryd.sizeOf99
  v37 := Tryd.zeroValue99
  t46 := Tryd.underlying103
  a46 := Tryd.isAgg103
  z46 := Tryd.sizeOf103
  v46 := Tryd.zeroValue103
  t51 := Tryd.underlying112
  a51 := Tryd.isAgg112
  z51 := Tryd.sizeOf112
  v51 := Tryd.zeroValue112
  t53 := Tryd.underlying114
  a53 := Tryd.isAgg114
  z53 := Tryd.sizeOf114
  v53 := Tryd.zeroValue114
  t171 := Tryd.underlying123
  a171 := Tryd.isAgg123
  z171 := Tryd.sizeOf123
  v171 := Tryd.zeroValue123
  t173 := Tryd.underlying125
  a173 := Tryd.isAgg125
  z173 := Tryd.sizeOf125
  v173 := Tryd.zeroValue125
  t212 := Tryd.underlying131
  a212 := Tryd.isAgg131
  z212 := Tryd.sizeOf131
  v212 := Tryd.zeroValue131
  t213 := Tryd.underlying132
  a213 := Tryd.isAgg132
  z213 := Tryd.sizeOf132
  t232 := Tryd.underlying133
  a232 := Tryd.isAgg133
  z232 := Tryd.sizeOf133
  v232 := Tryd.zeroValue133
  t233 := Tryd.underlying134
  a233 := Tryd.isAgg134
  z233 := Tryd.sizeOf134
  v233 := Tryd.zeroValue134
  g17 := by kernel_rfl
  g18 := by kernel_rfl
  g19 := by kernel_rfl
  i0 := by kernel_rfl
  i2 := by kernel_rfl
  i3 := by kernel_rfl
  i4 := by kernel_rfl
  i5 := by kernel_rfl
  i9 := by kernel_rfl
  i20 := by kernel_rfl
  i37 := by kernel_rfl
  i46 := by kernel_rfl
  i51 := by kernel_rfl
  i53 := by kernel_rfl
  i171 := by kernel_rfl
  i173 := by kernel_rfl
  i212 := by kernel_rfl
  i232 := by kernel_rfl
  i233 := by kernel_rfl
  m17 := by kernel_rfl
  m18 := by kernel_rfl
  m19 := by kernel_rfl }
open Go.RowKit Go.Sort Go.Lib in
/-- internal/strconv.AppendInt: "AppendInt appends the string form of the integer i, as generated by FormatInt, to dst and returns the extended buffer.": AT BASE 10: WHAT COMES BACK OWNS dst's CELLS AND, BEHIND THEM, i's DECIMAL NUMERAL ('Lib.itoa i': at most 20 bytes), for every int64. Below the call's own blocks nothing has turned. (LAID: no walk: one application.) -/
theorem Tryd.internal_strconv_AppendInt_10 (B n : Nat) (i : Int) (h0 : -9223372036854775808 ≤ i) (h1 : i ≤ 9223372036854775807) (sv : Value) (xs : List Value) (w : World) (hown : w.ownsRow B 5 1 sv n xs) (hBw : B ≤ w.heap.size) (hlim : n + 21 ≤ 140737488355328) (htab : Lib.TabBelow Tryd.prog B w "internal/strconv.uint64pow10" .u64 Lib.pow10Tab) :
    Calls Tryd.prog 82 #[sv, .int .i64 i, .int .i64 10] w fun e w' => ∃ v', e = .returned v' ∧ w'.ownsRow B 5 1 v' (n + (Lib.itoa i).length) (xs ++ Lib.byteCells (Lib.itoa i)) ∧ Below B w w' ∧ Lib.OthersKept 5 none w w' := Any.internal_strconv_AppendInt_10 Tryd.laysM249 B n i h0 h1 sv xs w hown hBw hlim htab
def Tryd.laysM176_ren : Go.Shelf.Ren := ⟨fun | 176 => 79 | 249 => 82 | 288 => 94 | 283 => 101 | 284 => 102 | 285 => 103 | 286 => 104 | 129 => 93 | 317 => 106 | 318 => 107 | 319 => 108 | 320 => 109 | 337 => 110 | 338 => 111 | n => n, fun | 37 => 99 | 2 => 2 | 3 => 3 | 53 => 114 | 4 => 4 | 9 => 9 | 171 => 123 | 0 => 0 | 173 => 125 | 212 => 131 | 51 => 112 | 5 => 5 | 20 => 20 | 213 => 132 | 46 => 103 | 232 => 133 | 233 => 134 | n => n, fun | 17 => 0 | 18 => 1 | 19 => 2 | n => n⟩
theorem Tryd.laysM176 : Go.Proofs.LaysM.n176 Tryd.prog Tryd.laysM176_ren := {
  mixed := by kernel_rfl
  f129 := Tryd.func93.trans (congrArg some (by kernel_rfl))
  f176 := Tryd.func79.trans (congrArg some (by kernel_rfl))
  f249 := Tryd.func82.trans (congrArg some (by kernel_rfl))
  f283 := Tryd.func101.trans (congrArg some (by kernel_rfl))
  f284 := Tryd.func102.trans (congrArg some (by kernel_rfl))
  f285 := Tryd.func103.trans (congrArg some (by kernel_rfl))
  f286 := Tryd.func104.trans (congrArg some (by kernel_rfl))
  f288 := Tryd.func94.trans (congrArg some (by kernel_rfl))
  f317 := Tryd.func106.trans (congrArg some (by kernel_rfl))
  f318 := Tryd.func107.trans (congrArg some (by kernel_rfl))
  f319 := Tryd.func108.trans (congrArg some (by kernel_rfl))
  f320 := Tryd.func109.trans (congrArg some (by kernel_rfl))
  f337 := Tryd.func110.trans (congrArg some (by kernel_rfl))
  f338 := Tryd.func111.trans (congrArg some (by kernel_rfl))
  t0 := Tryd.underlying0
  a0 := Tryd.isAgg0
  z0 := Tryd.sizeOf0
  v0 := Tryd.zeroValue0
  t2 := Tryd.underlying2
  a2 := Tryd.isAgg2
  z2 := Tryd.sizeOf2
  v2 := Tryd.zeroValue2
  t3 := Tryd.underlying3
  a3 := Tryd.isAgg3
  z3 := Tryd.sizeOf3
  v3 := Tryd.zeroValue3
  t4 := Tryd.underlying4
  a4 := Tryd.isAgg4
  z4 := Tryd.sizeOf4
  v4 := Tryd.zeroValue4
  t5 := Tryd.underlying5
  a5 := Tryd.isAgg5
  z5 := Tryd.sizeOf5
  v5 := Tryd.zeroValue5
  t9 := Tryd.underlying9
  a9 := Tryd.isAgg9
  z9 := Tryd.sizeOf9
  v9 := Tryd.zeroValue9
  t20 := Tryd.underlying20
  a20 := Tryd.isAgg20
  z20 := Tryd.sizeOf20
  v20 := Tryd.zeroValue20
  t37 := Tryd.underlying99
  a37 := Tryd.isAgg99
  z37 := Tryd.sizeOf99
  v37 := Tryd.zeroValue99
  t46 := Tryd.underlying103
  a46 := Tryd.isAgg103
  z46 := Tryd.sizeOf103
  v46 := Tryd.zeroValue103
  t51 := Tryd.underlying112
  a51 := Tryd.isAgg112
  z51 := Tryd.sizeOf112
  v51 := Tryd.zeroValue112
  t53 := Tryd.underlying114
  a53 := Tryd.isAgg114
  z53 := Tryd.sizeOf114
  v53 := Tryd.zeroValue114
  t171 := Tryd.underlying123
  a171 := Tryd.isAgg123
  z171 := Tryd.sizeOf123
  v171 := Tryd.zeroValue123
  t173 := Tryd.underlying125
  a173 := Tryd.isAgg125
  z173 := Tryd.sizeOf125
  v173 := Tryd.zeroValue125
  t212 := Tryd.underlying131
  a212 := Tryd.isAgg131
  z212 := Tryd.sizeOf131
  v212 := Tryd.zeroValue131
  t213 := Tryd.underlying132
  a213 := Tryd.isAgg132
  z213 := Tryd.sizeOf132
  t232 := Tryd.underlying133
  a232 := Tryd.isAgg133
  z232 := Tryd.sizeOf133
  v232 := Tryd.zeroValue133
  t233 := Tryd.underlying134
  a233 := Tryd.isAgg134
  z233 := Tryd.sizeOf134
  v233 := Tryd.zeroValue134
  g17 := by kernel_rfl
  g18 := by kernel_rfl
  g19 := by kernel_rfl
  i0 := by kernel_rfl
  i2 := by kernel_rfl
  i3 := by kernel_rfl
  i4 := by kernel_rfl
  i5 := by kernel_rfl
  i9 := by kernel_rfl
  i20 := by kernel_rfl
  i37 := by kernel_rfl
  i46 := by kernel_rfl
  i51 := by kernel_rfl
  i53 := by kernel_rfl
  i171 := by kernel_rfl
  i173 := by kernel_rfl
  i212 := by kernel_rfl
  i232 := by kernel_rfl
  i233 := by kernel_rfl
  m17 := by kernel_rfl
  m18 := by kernel_rfl
  m19 := by kernel_rfl }
open Go.RowKit Go.Sort Go.Lib in
/-- strconv.AppendInt: "AppendInt appends the string form of the integer i, as generated by FormatInt, to dst and returns the extended buffer.": AT BASE 10: WHAT COMES BACK OWNS dst's CELLS AND, BEHIND THEM, i's DECIMAL NUMERAL ('Lib.itoa i': at most 20 bytes), for every int64. Below the call's own blocks nothing has turned. (LAID: no walk: one application.) -/
theorem Tryd.strconv_AppendInt_10 (B n : Nat) (i : Int) (h0 : -9223372036854775808 ≤ i) (h1 : i ≤ 9223372036854775807) (sv : Value) (xs : List Value) (w : World) (hown : w.ownsRow B 5 1 sv n xs) (hBw : B ≤ w.heap.size) (hlim : n + 21 ≤ 140737488355328) (htab : Lib.TabBelow Tryd.prog B w "internal/strconv.uint64pow10" .u64 Lib.pow10Tab) :
    Calls Tryd.prog 79 #[sv, .int .i64 i, .int .i64 10] w fun e w' => ∃ v', e = .returned v' ∧ w'.ownsRow B 5 1 v' (n + (Lib.itoa i).length) (xs ++ Lib.byteCells (Lib.itoa i)) ∧ Below B w w' ∧ Lib.OthersKept 5 none w w' := Any.strconv_AppendInt_10 Tryd.laysM176 B n i h0 h1 sv xs w hown hBw hlim htab
def Tryd.lays111_ren : Go.Shelf.Ren := ⟨fun | 111 => 51 | n => n, fun | 28 => 22 | 3 => 3 | 4 => 4 | 0 => 0 | n => n, fun | n => n⟩
theorem Tryd.lays111 : Go.Proofs.Lays.n111 Tryd.prog Tryd.lays111_ren := {
  mixed := by kernel_rfl
  f111 := Tryd.func51.trans (congrArg some (by kernel_rfl))
  t0 := Tryd.underlying0
  a0 := Tryd.isAgg0
  z0 := Tryd.sizeOf0
  v0 := Tryd.zeroValue0
  t3 := Tryd.underlying3
  a3 := Tryd.isAgg3
  z3 := Tryd.sizeOf3
  v3 := Tryd.zeroValue3
  t4 := Tryd.underlying4
  a4 := Tryd.isAgg4
  z4 := Tryd.sizeOf4
  v4 := Tryd.zeroValue4
  t28 := Tryd.underlying22
  a28 := Tryd.isAgg22
  z28 := Tryd.sizeOf22
  v28 := Tryd.zeroValue22 }
open Go.RowKit Go.Lib in
/-- slices.Equal at []int: "Equal reports whether two slices are equal: the same length and all elements equal. If the lengths are different, Equal returns false. Otherwise, the elements are compared in increasing index order, and the comparison stops at the first unequal pair. Empty and nil slices are considered equal.": IT RETURNS WHETHER THE TWO LISTS OF ELEMENTS ARE ONE; the world is as it was but for the count of draws (the test 's1[i] != s2[i]' has two reads, whose order the model draws, once a round). 'xs', 'ys': what the cells behind the two addresses hold (the spare capacity too, if you have it); 'xs.take n', 'ys.take m': the elements. THE TWO SLICES MAY OVERLAP. (LAID: no walk: one application.) -/
theorem Tryd.slices_Equal_int (b1 o1 n c b2 o2 m d : Nat) (xs ys : List Int) (w : World) (hx : n ≤ xs.length) (hy : m ≤ ys.length) (hbig : n ≤ 9223372036854775807) (hbig2 : m ≤ 9223372036854775807) (hc1 : ∀ j, j < xs.length → w.cell? ⟨b1, o1 + j, none⟩ = some (.int .i64 (xs.getD j 0))) (hc2 : ∀ j, j < ys.length → w.cell? ⟨b2, o2 + j, none⟩ = some (.int .i64 (ys.getD j 0))) :
    Calls Tryd.prog 51 #[.slice (some ⟨b1, o1, none⟩) n c, .slice (some ⟨b2, o2, none⟩) m d] w fun e w' => e = .returned (.bool (xs.take n == ys.take m)) ∧ ∃ q, w' = w.drewN q := Any.slices_Equal_int Tryd.lays111 b1 o1 n c b2 o2 m d xs ys w hx hy hbig hbig2 hc1 hc2
open Go.RowKit Go.Lib in
/-- The same where the first is of length 0 (a nil one too): no cell is asked for. (LAID: no walk: one application.) -/
theorem Tryd.slices_Equal_int_empty (a1 a2 : Option Addr) (c m d : Nat) (w : World) (hbig2 : m ≤ 9223372036854775807) :
    Calls Tryd.prog 51 #[.slice a1 0 c, .slice a2 m d] w fun e w' => e = .returned (.bool (decide (m = 0))) ∧ w' = w := Any.slices_Equal_int_empty Tryd.lays111 a1 a2 c m d w hbig2
def Tryd.laysNm220_ren : Go.Shelf.Ren := ⟨fun | 20 => 76 | n => n, fun | 22 => 22 | 3 => 3 | 4 => 4 | 0 => 0 | n => n, fun | n => n⟩
theorem Tryd.laysNm220 : Go.Proofs.Lays2.n20 Tryd.prog Tryd.laysNm220_ren := {
  mixed := by kernel_rfl
  f20 := Tryd.func76.trans (congrArg some (by kernel_rfl))
  t0 := Tryd.underlying0
  a0 := Tryd.isAgg0
  z0 := Tryd.sizeOf0
  v0 := Tryd.zeroValue0
  t3 := Tryd.underlying3
  a3 := Tryd.isAgg3
  z3 := Tryd.sizeOf3
  v3 := Tryd.zeroValue3
  t4 := Tryd.underlying4
  a4 := Tryd.isAgg4
  z4 := Tryd.sizeOf4
  v4 := Tryd.zeroValue4
  t22 := Tryd.underlying22
  a22 := Tryd.isAgg22
  z22 := Tryd.sizeOf22
  v22 := Tryd.zeroValue22
  i3 := by kernel_rfl }
open Go.RowKit Go.Lib Go.Sort in
/-- slices.Compact at []int, over an array: the library's two loops are walked. (LAID: no walk: one application.) -/
theorem Tryd.slices_Compact_int_arr (blk off cap : Nat) (d : Array Int) (w : World) (hH : Holds encI w blk off d) (hsz : d.size ≤ 9223372036854775807) (hcap : d.size ≤ cap) :
    Calls Tryd.prog 76 #[.slice (some ⟨blk, off, none⟩) d.size cap] w fun e w' => e = .returned (.slice (some ⟨blk, off, none⟩) (compactUpTo d d.size).length cap) ∧ ∃ q, w' = putRow encI (Sort.ahead w q) blk off (compactUpTo d d.size ++ List.replicate (d.size - (compactUpTo d d.size).length) 0).toArray := Any.slices_Compact_int_arr Tryd.laysNm220 blk off cap d w hH hsz hcap
open Go.RowKit Go.Lib Go.Sort in
/-- slices.Compact at []int: "Compact replaces consecutive runs of equal elements with a single copy. This is like the uniq command found on Unix. Compact modifies the contents of the slice s and returns the modified slice, which may have a smaller length. Compact zeroes the elements between the new length and the original length. The result preserves the nilness of s.": IT RETURNS THE SLICE CUT TO 'Lib.compact zs'; ITS CELLS HOLD 'Lib.compact zs', THEN ZERO VALUES up to the old length; all else is as it was, but for the count of draws. IN THE WORDS OF slices.Sort's CONTRACT ('Holds', 'putRow'): so the everyday 'slices.Sort(xs); xs = slices.Compact(xs)' goes from the one contract to the other. It asks 'zs.length ≤ cap' (every slice's: the reslicing 's[:k]' looks at it). Length 0, nil: '.._empty'. (LAID: no walk: one application.) -/
theorem Tryd.slices_Compact_int (blk off cap : Nat) (zs : List Int) (w : World) (hH : Holds (Value.int .i64) w blk off zs.toArray) (hsz : zs.length ≤ 9223372036854775807) (hcap : zs.length ≤ cap) :
    Calls Tryd.prog 76 #[.slice (some ⟨blk, off, none⟩) zs.length cap] w fun e w' => e = .returned (.slice (some ⟨blk, off, none⟩) (Lib.compact zs).length cap) ∧ ∃ q, w' = putRow (Value.int .i64) (Sort.ahead w q) blk off (Lib.compact zs ++ List.replicate (zs.length - (Lib.compact zs).length) 0).toArray := Any.slices_Compact_int Tryd.laysNm220 blk off cap zs w hH hsz hcap
open Go.RowKit Go.Lib Go.Sort in
/-- The same at a slice of length 0, a nil one too: it comes back as it is. (LAID: no walk: one application.) -/
theorem Tryd.slices_Compact_int_empty (a : Option Addr) (cap : Nat) (w : World) :
    Calls Tryd.prog 76 #[.slice a 0 cap] w fun e w' => e = .returned (.slice a 0 cap) ∧ w' = w := Any.slices_Compact_int_empty Tryd.laysNm220 a cap w
end Go.Proofs
-- graph.Table: its word in memory, and what every step on it keeps
namespace Go.Proofs.YtopbjginpmdebaaDoor.K
open Go.RowKit Go.Maps Go.Proofs.YtopbjginpmdebaaDoorW.PrintWords Go.Proofs.YtopbjginpmdebaaDoorW.PrintLast Go.Proofs.YtopbjginpmdebaaDoorW.PrintMore
set_option linter.unusedVariables false
set_option linter.unusedSimpArgs false
/-- a node's key as a datum -/
def keyN (n : Nd) : Lit := .string (keyL n.f0 (n.f1 :: n.f2))
theorem keyN_inj {n m : Nd} (h : keyN n = keyN m) : n = m := by
  have h' : keyL n.f0 (n.f1 :: n.f2) = keyL m.f0 (m.f1 :: m.f2) := by
    unfold keyN at h; injection h
  obtain ⟨h1, h2⟩ := keyL_inj h'
  injection h2 with h2 h3
  exact nd_ext h1 h2 h3
theorem keyN_lit (n : Nd) : WideAt.IsKeyLit (keyN n) := trivial
/-- the index tells each node's first place -/
def SMap (w : World) (mb : Nat) (ns : List Nd) : Prop :=
  ∃ D : DataW Unit, w.ownsMap Tryd.prog 9 (plainElem Tryd.prog 3) mb ns.length D ∧
    (∀ n : Nd, Maps.has D (keyN n) = decide (n ∈ ns)) ∧ ∀ n : Nd, n ∈ ns → D.atKey (keyN n) (.lit (.int .i64 0)) = .lit (.int .i64 (ns.idxOf n : Nat))
/-- a table at block t: its nodes, its index at block mb -/
def TabS (w : World) (base t mb : Nat) (ok : Nat → Prop) (ns : List Nd) : Prop :=
  ∃ v, w.heap[t]? = some (.cells #[v, .map (some mb)] 83 (0, 0)) ∧ k60.R 60 w base ok v ns ∧ SMap w mb ns
/-- what may hold the nodes' rows -/
structure OkT (base t mb : Nat) (ok : Nat → Prop) (w : World) : Prop where
  old : ∀ k, ok k → base ≤ k ∧ k ≠ t ∧ k ≠ mb
  new : ∀ k, w.heap.size ≤ k → ok k
  ht : base ≤ t
  hmb : base ≤ mb
/-- a step on a table -/
structure Touch (w w' : World) (ok : Nat → Prop) (t mb : Nat) : Prop where
  os : w'.os = w.os
  tape : w'.tape = w.tape
  output : w'.output = w.output
  size : w.heap.size ≤ w'.heap.size
  same : ∀ k, k < w.heap.size → ¬ ok k → k ≠ t → k ≠ mb → w'.heap[k]? = w.heap[k]?
theorem Touch.refl (w : World) (ok : Nat → Prop) (t mb : Nat) : Touch w w ok t mb := ⟨rfl, rfl, rfl, Nat.le_refl _, fun _ _ _ _ _ => rfl⟩
theorem Touch.trans {a b c : World} {ok : Nat → Prop} {t mb : Nat} (h : Touch a b ok t mb) (k : Touch b c ok t mb) : Touch a c ok t mb :=
  ⟨k.os.trans h.os, k.tape.trans h.tape, k.output.trans h.output, Nat.le_trans h.size k.size, fun i hi ho ht hm => (k.same i (Nat.lt_of_lt_of_le hi h.size) ho ht hm).trans (h.same i hi ho ht hm)⟩
theorem Touch.of_below {w w' : World} (h : Below w.heap.size w w') (ok : Nat → Prop) (t mb : Nat) : Touch w w' ok t mb := ⟨h.os, h.tape, h.output, h.size, fun k hk _ _ _ => h.block k hk⟩
theorem Touch.below {base : Nat} {w w' : World} {ok : Nat → Prop} {t mb : Nat} {w0 : World} (h : Touch w w' ok t mb) (hb : base ≤ w.heap.size) (ho : OkT base t mb ok w0) : Below base w w' :=
  ⟨h.os, h.tape, h.output, h.size, fun k hk => h.same k (by omega) (fun e => by have := (ho.old k e).1; omega) (by have := ho.ht; omega) (by have := ho.hmb; omega)⟩
theorem Touch.drew {w w' : World} {ok : Nat → Prop} {t mb : Nat} (h : Touch w w' ok t mb) : Touch w w'.drew ok t mb := ⟨h.os, h.tape, h.output, h.size, h.same⟩
theorem Touch.grown {w w' : World} {row : Option Nat} {ok : Nat → Prop} {t mb : Nat} (hg : w.grownBy w' row) (hr : ∀ k, row = some k → ok k ∨ k = t ∨ k = mb) : Touch w w' ok t mb :=
  ⟨hg.os, hg.tape, hg.output, hg.size, fun k hk ho ht hm => hg.block k hk (fun e => (hr k e.symm).elim ho (fun h => h.elim ht hm))⟩
theorem Touch.set (w : World) (ok : Nat → Prop) (t mb j : Nat) (u : Value) : Touch w (w.setCell ⟨t, j, none⟩ u) ok t mb :=
  ⟨rfl, rfl, rfl, by simp [World.setCell], fun k _ _ ht _ => Below.heap_setCell w ⟨t, j, none⟩ u k ht⟩
theorem Touch.alloc {w w' : World} {ok : Nat → Prop} {t mb : Nat} (h : Touch w w' ok t mb) (o : Obj) : Touch w (w'.alloc o) ok t mb := h.trans (Touch.of_below ((Below.refl _ w').alloc (Nat.le_refl _) o) ok t mb)
theorem own_map_move {w w' : World} {mb n : Nat} {D : DataW Unit} (h : w.ownsMap Tryd.prog 9 (plainElem Tryd.prog 3) mb n D) (hm : w'.heap[mb]? = w.heap[mb]?) : w'.ownsMap Tryd.prog 9 (plainElem Tryd.prog 3) mb n D := by
  obtain ⟨es, c, h1, h2⟩ := h; exact ⟨es, c, hm.trans h1, h2⟩
theorem OkT.on {base t mb : Nat} {ok : Nat → Prop} {w w' : World} (h : OkT base t mb ok w) (hs : w.heap.size ≤ w'.heap.size) : OkT base t mb ok w' := ⟨h.old, fun k hk => h.new k (by omega), h.ht, h.hmb⟩
theorem SMap.lt {w : World} {mb : Nat} {ns : List Nd} (h : SMap w mb ns) : mb < w.heap.size := by
  obtain ⟨D, h, _⟩ := h; exact h.lt
theorem SMap.move {w w' : World} {mb : Nat} {ns : List Nd} (h : SMap w mb ns) (hm : w'.heap[mb]? = w.heap[mb]?) : SMap w' mb ns := by
  obtain ⟨D, ⟨es, c, h1, h2, h3, h4⟩, h5⟩ := h
  exact ⟨D, ⟨es, c, hm.trans h1, h2, h3, h4⟩, h5⟩
/-- a step that leaves the table's blocks alone -/
theorem TabS.move {w w' : World} {base t mb : Nat} {ok : Nat → Prop} {ns : List Nd} (h : TabS w base t mb ok ns) (hm : ∀ k, k < w.heap.size → (ok k ∨ k = t ∨ k = mb) → w'.heap[k]? = w.heap[k]?) : TabS w' base t mb ok ns := by
  obtain ⟨v, h1, h2, h3⟩ := h
  exact ⟨v, (hm t (blk_lt h1) (.inr (.inl rfl))).trans h1, Kd.R_step h2 (fun k hk hlt => hm k hlt (.inl hk)), h3.move (hm mb h3.lt (.inr (.inr rfl)))⟩
theorem TabS.below {w w' : World} {base t mb : Nat} {ok : Nat → Prop} {ns : List Nd} (h : TabS w base t mb ok ns) (hb : Below w.heap.size w w') : TabS w' base t mb ok ns := h.move fun k hk _ => hb.block k hk
/-- a new node at the end, told to the index -/
theorem SMap.put {w' : World} {mb : Nat} {ns : List Nd} {D : DataW Unit} (hD : (∀ n : Nd, Maps.has D (keyN n) = decide (n ∈ ns)) ∧ ∀ n : Nd, n ∈ ns → D.atKey (keyN n) (.lit (.int .i64 0)) = .lit (.int .i64 (ns.idxOf n : Nat)))
    (hm : IsMap D) {n : Nd} (hn : n ∉ ns) (h : w'.ownsMap Tryd.prog 9 (plainElem Tryd.prog 3) mb (ns.length + 1) (D.put (keyN n) (.lit (.int .i64 (ns.length : Nat))))) : SMap w' mb (ns ++ [n]) := by
  refine ⟨_, by rw [List.length_append]; exact h, fun m => ?_, fun m hmem => ?_⟩
  · by_cases e : m = n
    · subst e
      rw [has_put_same hm (keyN_lit m)]; simp
    · rw [has_put_other (fun h' => e (keyN_inj h')), hD.1]
      simp [e]
  · by_cases e : m = n
    · subst e
      rw [atKey_put_same hm (keyN_lit m), List.idxOf_append, if_neg hn]
      simp
    · have hm' : m ∈ ns := by
        rcases List.mem_append.1 hmem with h' | h'
        · exact h'
        · exact absurd (List.mem_singleton.1 h') e
      rw [atKey_put_other (fun h' => e (keyN_inj h')), hD.2 m hm', List.idxOf_append, if_pos hm']
end Go.Proofs.YtopbjginpmdebaaDoor.K
