/- Lemmas for: EC that ru is true for every list of numbers: the zero of a type is a value of it, and the cells of a list behind its length are the zero of its element. -/
import Derived.Test.YtggelekooacmnaaProg
import Derived.Below
import Derived.Deep.Draws
import Derived.Deep.AppendLies
import Derived.Maps.AppendAt
import Derived.OwnWalk
import Derived.Laws.BytesArg
import Derived.Laws.MakeOwn
import Derived.Laws.OwnMore
import Derived.Deep.OwnRows
import Derived.Tactics
import Derived.Lib.ConvBytes
import Derived.Laws.Slices
import Derived.WalkKit
import Derived.KernelRfl
import Derived.RowKit3
import Derived.Deep.LoopGhost
import Derived.Deep.QuietTactic
import Derived.BigQuiet
import Derived.WideLaws
import Derived.Deep.DeepCutAuto
import Derived.Deep.CutBlock
import Derived.Deep.RegionHeld3
import Derived.Laws.Rows
import Derived.Lib.AppendStr
import Derived.ArgAppend
import Derived.Laws.IdiomCopy
import Derived.OrdersHeld
import Derived.Laws.BitsLemmas
import Derived.RowKit
import Derived.Test.YtggelekooacmnaaVz1
namespace Go.Proofs.Ytggelekooacmnaa.Z
open Go.RowKit Go.Proofs.YtggelekooacmnaaW.bM Go.Proofs.YtggelekooacmnaaW.dR Go.Proofs.YtggelekooacmnaaW.eO
attribute [local go_sem] iM iN jk jl gW gX iO iP   -- for this text's walks alone
set_option linter.unusedVariables false
set_option linter.unusedSimpArgs false



def errW : Option Int → Value
  | none => .nilIface
  | some c => .iface 0 (.int .i64 c)
theorem iI : errW none = .nilIface := rfl
theorem iJ (c : Int) : errW (some c) = .iface 0 (.int .i64 c) := rfl

theorem info3 : (Try.prog.info? 3).map (fun i => (i.zero, i.size, i.bytes)) = some (some (.int .i64 0), 1, 8) := by kernel_rfl
theorem info27 : (Try.prog.info? 27).map (fun i => (i.zero, i.size, i.bytes)) = some (some (.agg #[(.int .i64 0), (.int .i64 0), (.int .i64 0), (.int .i64 0), (.slice none 0 0)]), 5, 56) := by kernel_rfl
theorem Jf : (Try.prog.info? 31).map (fun i => (i.zero, i.size, i.bytes)) = some (some (.agg #[(.int .i64 0), (.slice none 0 0)]), 2, 32) := by kernel_rfl
theorem info44 : (Try.prog.info? 44).map (fun i => (i.zero, i.size, i.bytes)) = some (some (.agg #[(.int .i64 0), (.int .i64 0), (.int .i64 0)]), 3, 24) := by kernel_rfl
-- the values' own types
/-! #### struct type 27, nested in itself -/
structure S27 where
  f0 : Int
  f1 : Int
  f2 : Int
  f3 : Int
  f4 : (List S27)
def z27 : S27 := ⟨(0 : Int), (0 : Int), (0 : Int), (0 : Int), ([] : List S27)⟩
def F27 (d : Kd S27) : Kd S27 := Kd.iso (Kd.pair (Kd.int .i64) (Kd.pair (Kd.int .i64) (Kd.pair (Kd.int .i64) (Kd.pair (Kd.int .i64) (Kd.slice 27 d))))) (fun x : S27 => (x.f0, x.f1, x.f2, x.f3, x.f4))
theorem Pf : Kd.vU F27 := Kd.TP _ (Kd.EE (Kd.Cn _) (Kd.EE (Kd.Cn _) (Kd.EE (Kd.Cn _) (Kd.EE (Kd.Cn _) (Kd.OY 27 Kd.UJ)))))
theorem sub27 : Kd.Sub F27 [27] := Kd.UK _ (Kd.GZ (Kd.sub_const _ (by decide)) (Kd.GZ (Kd.sub_const _ (by decide)) (Kd.GZ (Kd.sub_const _ (by decide)) (Kd.GZ (Kd.sub_const _ (by decide)) (Kd.Ti 27 (by decide) Kd.sub_id)))))
theorem sz27 : ∀ n, (Kd.upto F27 5 [27] n).sz = 5 := Kd.UL (fun _ => rfl)
def k27 : Kd S27 := Kd.fix F27 5 [27] sz27 (Kd.TQ sub27)
theorem G5 : Kd.Heap k27 := Kd.TW (fun _ h_ => Kd.Oy _ (Kd.xP (Kd.oI .i64) (Kd.xP (Kd.oI .i64) (Kd.xP (Kd.oI .i64) (Kd.xP (Kd.oI .i64) (Kd.O8 27 h_))))))
theorem OB {w : World} {x : S27} {cs : List Value} (h : k27.K w x cs) : ∃ A4 c4, cs = [.int .i64 x.f0, .int .i64 x.f1, .int .i64 x.f2, .int .i64 x.f3, .slice A4 x.f4.length c4] ∧ x.f4.length ≤ c4 ∧ k27.C w A4 x.f4.length x.f4 := by
  obtain ⟨n, h⟩ := h
  cases n with
  | zero => exact h.elim
  | succ n =>
    obtain ⟨_, _, rfl, rfl, ⟨_, _, rfl, rfl, ⟨_, _, rfl, rfl, ⟨_, _, rfl, rfl, ⟨A4, c4, rfl, l4, g4⟩⟩⟩⟩⟩ := h
    exact ⟨A4, c4, rfl, l4, Kd.fix_C g4⟩
theorem k27_openM {w : World} {base : Nat} {ok : Nat → Prop} {x : S27} {cs : List Value} (h : k27.M w base ok x cs) : ∃ v4, cs = [.int .i64 x.f0, .int .i64 x.f1, .int .i64 x.f2, .int .i64 x.f3, v4] ∧ k27.R 27 w base ok v4 x.f4 := by
  obtain ⟨n, h⟩ := h
  cases n with
  | zero => exact h.elim
  | succ n =>
    obtain ⟨_, _, rfl, rfl, ⟨_, _, rfl, rfl, ⟨_, _, rfl, rfl, ⟨_, _, rfl, rfl, ⟨v4, rfl, g4⟩⟩⟩⟩⟩ := h
    exact ⟨v4, rfl, Kd.fix_R g4⟩
theorem k27_mk (w : World) (x : S27) {A4 : Option Addr} {c4 : Nat} (l4 : x.f4.length ≤ c4) (g4 : k27.C w A4 x.f4.length x.f4) : k27.K w x [.int .i64 x.f0, .int .i64 x.f1, .int .i64 x.f2, .int .i64 x.f3, .slice A4 x.f4.length c4] := by
  obtain ⟨n4, q4⟩ := Kd.O0 Pf g4
  have r4 := Kd.Tn Pf sz27 (show n4 ≤ n4 by omega) q4
  exact ⟨n4 + 1, ⟨[.int .i64 x.f0], [.int .i64 x.f1, .int .i64 x.f2, .int .i64 x.f3, .slice A4 x.f4.length c4], rfl, rfl, ⟨[.int .i64 x.f1], [.int .i64 x.f2, .int .i64 x.f3, .slice A4 x.f4.length c4], rfl, rfl, ⟨[.int .i64 x.f2], [.int .i64 x.f3, .slice A4 x.f4.length c4], rfl, rfl, ⟨[.int .i64 x.f3], [.slice A4 x.f4.length c4], rfl, rfl, ⟨A4, c4, rfl, l4, r4⟩⟩⟩⟩⟩⟩
theorem Q5 (w : World) (base : Nat) (ok : Nat → Prop) (x : S27) {v4 : Value} (g4 : k27.R 27 w base ok v4 x.f4) : k27.M w base ok x [.int .i64 x.f0, .int .i64 x.f1, .int .i64 x.f2, .int .i64 x.f3, v4] := by
  obtain ⟨n4, q4⟩ := Kd.OZ Pf g4
  have r4 := Kd.Tm Pf sz27 (show n4 ≤ n4 by omega) q4
  exact ⟨n4 + 1, ⟨[.int .i64 x.f0], [.int .i64 x.f1, .int .i64 x.f2, .int .i64 x.f3, v4], rfl, rfl, ⟨[.int .i64 x.f1], [.int .i64 x.f2, .int .i64 x.f3, v4], rfl, rfl, ⟨[.int .i64 x.f2], [.int .i64 x.f3, v4], rfl, rfl, ⟨[.int .i64 x.f3], [v4], rfl, rfl, ⟨v4, rfl, r4⟩⟩⟩⟩⟩⟩
theorem Tw {W : World} {ok : Nat → Prop} {x : S27} {cs : List Value} (h : Kd.FK k27 W ok x cs) : ∃ A4 c4, cs = [.int .i64 x.f0, .int .i64 x.f1, .int .i64 x.f2, .int .i64 x.f3, .slice A4 x.f4.length c4] ∧ x.f4.length ≤ c4 ∧ Kd.F k27 W ok A4 x.f4.length x.f4 := by
  obtain ⟨A4, c4, rfl, l4, _⟩ := OB (Kd.Co h)
  exact ⟨A4, c4, rfl, l4, (fun W' hW => by obtain ⟨A4_, c4_, he, l4_, g4_⟩ := OB (h W' hW); injection (Option.some.inj (show some (Value.slice A4 x.f4.length c4) = some (Value.slice A4_ x.f4.length c4_) from congrArg (fun l => l[4]?) he)) with ha_ _ _; rw [ha_]; exact g4_)⟩
theorem FL (W : World) (ok : Nat → Prop) (x : S27) {A4 : Option Addr} {c4 : Nat} (l4 : x.f4.length ≤ c4) (g4 : Kd.F k27 W ok A4 x.f4.length x.f4) : Kd.FK k27 W ok x [.int .i64 x.f0, .int .i64 x.f1, .int .i64 x.f2, .int .i64 x.f3, .slice A4 x.f4.length c4] := fun W2 hW => k27_mk W2 x l4 (g4 W2 hW)
def aj (xs : List S27) (i : Int) : S27 := xs.getD i.toNat z27
theorem gQ {w : World} {A : Option Addr} {n : Nat} {xs : List S27} (h : Kd.C k27 w A n xs) (i : Int) (h0 : 0 ≤ i) (h1 : i < n) : ∃ ad A4 c4, A = some ad ∧ w.cell? (ad.add (i.toNat * 5)) = some (.int .i64 (aj xs i).f0) ∧ w.cell? ⟨(ad.add (i.toNat * 5)).block, (ad.add (i.toNat * 5)).off + 1, none⟩ = some (.int .i64 (aj xs i).f1) ∧ w.cell? ⟨(ad.add (i.toNat * 5)).block, (ad.add (i.toNat * 5)).off + 2, none⟩ = some (.int .i64 (aj xs i).f2) ∧ w.cell? ⟨(ad.add (i.toNat * 5)).block, (ad.add (i.toNat * 5)).off + 3, none⟩ = some (.int .i64 (aj xs i).f3) ∧ w.cell? ⟨(ad.add (i.toNat * 5)).block, (ad.add (i.toNat * 5)).off + 4, none⟩ = some (.slice A4 (aj xs i).f4.length c4) ∧ (aj xs i).f4.length ≤ c4 ∧ k27.C w A4 (aj xs i).f4.length (aj xs i).f4 := by
  obtain ⟨ad, c, e, _, hK, hc0⟩ := Kd.LZ h z27 i h0 h1
  have hc : ∀ j u, c[j]? = some u → w.cell? (ad.add (i.toNat * 5 + j)) = some u := hc0
  obtain ⟨A4, c4, rfl, l4, g4⟩ := OB hK
  exact ⟨ad, A4, c4, e, hc 0 _ rfl, by rw [← uj _ _ 1 (by omega)]; exact hc 1 _ rfl, by rw [← uj _ _ 2 (by omega)]; exact hc 2 _ rfl, by rw [← uj _ _ 3 (by omega)]; exact hc 3 _ rfl, by rw [← uj _ _ 4 (by omega)]; exact hc 4 _ rfl, l4, g4⟩

/-! #### struct type 31, nested in itself -/
structure S31 where
  f0 : Int
  f1 : (List S31)
def z31 : S31 := ⟨(0 : Int), ([] : List S31)⟩
def F31 (d : Kd S31) : Kd S31 := Kd.iso (Kd.pair (Kd.int .i64) (Kd.slice 31 d)) (fun x : S31 => (x.f0, x.f1))
theorem Pg : Kd.vU F31 := Kd.TP _ (Kd.EE (Kd.Cn _) (Kd.OY 31 Kd.UJ))
theorem sub31 : Kd.Sub F31 [31] := Kd.UK _ (Kd.GZ (Kd.sub_const _ (by decide)) (Kd.Ti 31 (by decide) Kd.sub_id))
theorem sz31 : ∀ n, (Kd.upto F31 2 [31] n).sz = 2 := Kd.UL (fun _ => rfl)
def k31 : Kd S31 := Kd.fix F31 2 [31] sz31 (Kd.TQ sub31)
theorem k31_heap : Kd.Heap k31 := Kd.TW (fun _ h_ => Kd.Oy _ (Kd.xP (Kd.oI .i64) (Kd.O8 31 h_)))
theorem OC {w : World} {x : S31} {cs : List Value} (h : k31.K w x cs) : ∃ A1 c1, cs = [.int .i64 x.f0, .slice A1 x.f1.length c1] ∧ x.f1.length ≤ c1 ∧ k31.C w A1 x.f1.length x.f1 := by
  obtain ⟨n, h⟩ := h
  cases n with
  | zero => exact h.elim
  | succ n =>
    obtain ⟨_, _, rfl, rfl, ⟨A1, c1, rfl, l1, g1⟩⟩ := h
    exact ⟨A1, c1, rfl, l1, Kd.fix_C g1⟩
theorem k31_openM {w : World} {base : Nat} {ok : Nat → Prop} {x : S31} {cs : List Value} (h : k31.M w base ok x cs) : ∃ v1, cs = [.int .i64 x.f0, v1] ∧ k31.R 31 w base ok v1 x.f1 := by
  obtain ⟨n, h⟩ := h
  cases n with
  | zero => exact h.elim
  | succ n =>
    obtain ⟨_, _, rfl, rfl, ⟨v1, rfl, g1⟩⟩ := h
    exact ⟨v1, rfl, Kd.fix_R g1⟩
theorem k31_mk (w : World) (x : S31) {A1 : Option Addr} {c1 : Nat} (l1 : x.f1.length ≤ c1) (g1 : k31.C w A1 x.f1.length x.f1) : k31.K w x [.int .i64 x.f0, .slice A1 x.f1.length c1] := by
  obtain ⟨n1, q1⟩ := Kd.O0 Pg g1
  have r1 := Kd.Tn Pg sz31 (show n1 ≤ n1 by omega) q1
  exact ⟨n1 + 1, ⟨[.int .i64 x.f0], [.slice A1 x.f1.length c1], rfl, rfl, ⟨A1, c1, rfl, l1, r1⟩⟩⟩
theorem Bh (w : World) (base : Nat) (ok : Nat → Prop) (x : S31) {v1 : Value} (g1 : k31.R 31 w base ok v1 x.f1) : k31.M w base ok x [.int .i64 x.f0, v1] := by
  obtain ⟨n1, q1⟩ := Kd.OZ Pg g1
  have r1 := Kd.Tm Pg sz31 (show n1 ≤ n1 by omega) q1
  exact ⟨n1 + 1, ⟨[.int .i64 x.f0], [v1], rfl, rfl, ⟨v1, rfl, r1⟩⟩⟩
theorem k31_openF {W : World} {ok : Nat → Prop} {x : S31} {cs : List Value} (h : Kd.FK k31 W ok x cs) : ∃ A1 c1, cs = [.int .i64 x.f0, .slice A1 x.f1.length c1] ∧ x.f1.length ≤ c1 ∧ Kd.F k31 W ok A1 x.f1.length x.f1 := by
  obtain ⟨A1, c1, rfl, l1, _⟩ := OC (Kd.Co h)
  exact ⟨A1, c1, rfl, l1, (fun W' hW => by obtain ⟨A1_, c1_, he, l1_, g1_⟩ := OC (h W' hW); injection (Option.some.inj (show some (Value.slice A1 x.f1.length c1) = some (Value.slice A1_ x.f1.length c1_) from congrArg (fun l => l[1]?) he)) with ha_ _ _; rw [ha_]; exact g1_)⟩
theorem k31_mkF (W : World) (ok : Nat → Prop) (x : S31) {A1 : Option Addr} {c1 : Nat} (l1 : x.f1.length ≤ c1) (g1 : Kd.F k31 W ok A1 x.f1.length x.f1) : Kd.FK k31 W ok x [.int .i64 x.f0, .slice A1 x.f1.length c1] := fun W2 hW => k31_mk W2 x l1 (g1 W2 hW)
def dM (xs : List S31) (i : Int) : S31 := xs.getD i.toNat z31
theorem Jg {w : World} {A : Option Addr} {n : Nat} {xs : List S31} (h : Kd.C k31 w A n xs) (i : Int) (h0 : 0 ≤ i) (h1 : i < n) : ∃ ad A1 c1, A = some ad ∧ w.cell? (ad.add (i.toNat * 2)) = some (.int .i64 (dM xs i).f0) ∧ w.cell? ⟨(ad.add (i.toNat * 2)).block, (ad.add (i.toNat * 2)).off + 1, none⟩ = some (.slice A1 (dM xs i).f1.length c1) ∧ (dM xs i).f1.length ≤ c1 ∧ k31.C w A1 (dM xs i).f1.length (dM xs i).f1 := by
  obtain ⟨ad, c, e, _, hK, hc0⟩ := Kd.LZ h z31 i h0 h1
  have hc : ∀ j u, c[j]? = some u → w.cell? (ad.add (i.toNat * 2 + j)) = some u := hc0
  obtain ⟨A1, c1, rfl, l1, g1⟩ := OC hK
  exact ⟨ad, A1, c1, e, hc 0 _ rfl, by rw [← uj _ _ 1 (by omega)]; exact hc 1 _ rfl, l1, g1⟩

/-! #### struct type 44 -/
structure S44 where
  f0 : Int
  f1 : Int
  f2 : Int
def z44 : S44 := ⟨(0 : Int), (0 : Int), (0 : Int)⟩
def k44 : Kd S44 := Kd.iso (Kd.pair (Kd.int .i64) (Kd.pair (Kd.int .i64) (Kd.int .i64))) (fun x : S44 => (x.f0, x.f1, x.f2))
theorem k44_heap : Kd.Heap k44 := Kd.Oy _ (Kd.xP (Kd.oI .i64) (Kd.xP (Kd.oI .i64) (Kd.oI .i64)))
theorem k44_open {w : World} {x : S44} {cs : List Value} (h : k44.K w x cs) : cs = [.int .i64 x.f0, .int .i64 x.f1, .int .i64 x.f2] := by
  obtain ⟨_, _, rfl, rfl, ⟨_, _, rfl, rfl, rfl⟩⟩ := h
  exact rfl
theorem k44_openM {w : World} {base : Nat} {ok : Nat → Prop} {x : S44} {cs : List Value} (h : k44.M w base ok x cs) : cs = [.int .i64 x.f0, .int .i64 x.f1, .int .i64 x.f2] := by
  obtain ⟨_, _, rfl, rfl, ⟨_, _, rfl, rfl, rfl⟩⟩ := h
  exact rfl
theorem k44_mk (w : World) (x : S44)  : k44.K w x [.int .i64 x.f0, .int .i64 x.f1, .int .i64 x.f2] := ⟨[.int .i64 x.f0], [.int .i64 x.f1, .int .i64 x.f2], rfl, rfl, ⟨[.int .i64 x.f1], [.int .i64 x.f2], rfl, rfl, rfl⟩⟩
theorem Ma (w : World) (base : Nat) (ok : Nat → Prop) (x : S44)  : k44.M w base ok x [.int .i64 x.f0, .int .i64 x.f1, .int .i64 x.f2] := ⟨[.int .i64 x.f0], [.int .i64 x.f1, .int .i64 x.f2], rfl, rfl, ⟨[.int .i64 x.f1], [.int .i64 x.f2], rfl, rfl, rfl⟩⟩
theorem k44_mkF (W : World) (ok : Nat → Prop) (x : S44) : Kd.FK k44 W ok x [.int .i64 x.f0, .int .i64 x.f1, .int .i64 x.f2] := fun W2 _ => k44_mk W2 x
def TZ (xs : List S44) (i : Int) : S44 := xs.getD i.toNat z44
theorem at_T44 {w : World} {A : Option Addr} {n : Nat} {xs : List S44} (h : Kd.C k44 w A n xs) (i : Int) (h0 : 0 ≤ i) (h1 : i < n) : ∃ ad , A = some ad ∧ w.cell? (ad.add (i.toNat * 3)) = some (.int .i64 (TZ xs i).f0) ∧ w.cell? ⟨(ad.add (i.toNat * 3)).block, (ad.add (i.toNat * 3)).off + 1, none⟩ = some (.int .i64 (TZ xs i).f1) ∧ w.cell? ⟨(ad.add (i.toNat * 3)).block, (ad.add (i.toNat * 3)).off + 2, none⟩ = some (.int .i64 (TZ xs i).f2) := by
  obtain ⟨ad, c, e, _, hK, hc0⟩ := Kd.LZ h z44 i h0 h1
  have hc : ∀ j u, c[j]? = some u → w.cell? (ad.add (i.toNat * 3 + j)) = some u := hc0
  obtain rfl := k44_open hK
  exact ⟨ad, e, hc 0 _ rfl, by rw [← uj _ _ 1 (by omega)]; exact hc 1 _ rfl, by rw [← uj _ _ 2 (by omega)]; exact hc 2 _ rfl⟩

theorem Kd.R_readsM {α : Type} {d : Kd α} {e : Nat} {W : World} {base : Nat} {ok : Nat → Prop} {A : Option Addr} {n c : Nat} {xs : List α} (h : Kd.R d e W base ok (.slice A n c) xs) :
    l6 (d.M W base (fun k => ok k ∧ some k ≠ (Value.slice A n c).ownBlock)) d.sz W A n xs := by
  obtain ⟨_, inner, ho, hr⟩ := h
  obtain ⟨A', c', he, hR⟩ := K9 ho hr rfl
  injection he with h1 h2 h3
  subst h1; subst h2
  exact hR
theorem Kd.EF {α : Type} {d : Kd α} {e : Nat} {W : World} {base g : Nat} {ok : Nat → Prop} {v : Value} {xs : List α} (h : Kd.V d e W base ok v xs) (hok : ∀ k, ok k → k ≠ g) (hn : 0 < xs.length := by first | omega | (simp_all; omega)) (hs : 0 < d.sz := by decide) : some g ≠ v.ownBlock := by
  obtain ⟨A, c, rfl, _, hF⟩ := h
  rcases A with _ | ad
  · simp [Value.ownBlock]
  · intro he
    have h1 := Kd.F_in hF rfl hn hs
    simp only [Value.ownBlock, Option.some.injEq] at he
    exact hok _ h1 he.symm

theorem Lf {w W : World} {g : Nat} {A : Option Addr} {n : Nat} {xs : List S27} {i : Int} {ad0 : Addr} {Ai : Option Addr} {m ci : Nat} (h : ∀ W_, aJ w W_ g none → Kd.C k27 W_ A n xs) (hk : aJ w W g none) (h0 : 0 ≤ i) (h1 : i < (n : Int)) (hA : A = some ad0)
    (hx : W.cell? ⟨(ad0.add (i.toNat * 5)).block, (ad0.add (i.toNat * 5)).off + 4, none⟩ = some (.slice Ai m ci)) : ∀ W_, aJ w W_ g none → Kd.C k27 W_ Ai (aj xs i).f4.length (aj xs i).f4 := by
  intro W_ hk_
  subst hA
  obtain ⟨ad, A4, c4, e, x0, x1, x2, x3, x4, l0, g0⟩ := gQ (h w (aJ.refl w g none)) i h0 h1
  have hne := Kd.ib h (by omega) (by decide)
  injection e with e; subst e
  obtain ⟨ad2, A4_, c4_, e2, y0, y1, y2, y3, y4, m0, q0⟩ := gQ (h W_ hk_) i h0 h1
  injection e2 with e2; subst e2
  have z1 := nG hk x4 (by first | (rw [add_block]; exact hne) | (show (Addr.add _ _).block ≠ _; rw [add_block]; exact hne) | exact hne)
  have z2 := nG hk_ x4 (by first | (rw [add_block]; exact hne) | (show (Addr.add _ _).block ≠ _; rw [add_block]; exact hne) | exact hne)
  have z3 := Option.some.inj (z1.symm.trans hx)
  have z4 := Option.some.inj (z2.symm.trans y4)
  injection z3 with a1 _ _
  injection z4 with b1 _ _
  rw [← a1, b1]
  exact q0

theorem bl_ {p : Prop} (h : p := by repeat (first | (with_reducible first | exact HB.out | apply dC | apply bR | apply bV | refine bI ?_ (aa.out (by assumption)) | refine bI ?_ (au.ge (aa.out (by assumption)))) | exact HB.out)) : p := h
theorem si_ {p : Prop} (h : p := by repeat (first | (with_reducible first | exact (aa.out (by assumption)) | apply au.alloc | apply au.drewN | apply au.drew | apply au.jL | apply au.jM | refine au.far ?_ (aa.out (by assumption)) _) | exact (aa.out (by assumption)))) : p := h
theorem bk_ {p : Prop} (h : p := by (with_reducible repeat (first | refine ah ?_ _ | refine ai ?_ | refine af ?_ _)); exact (aa.out (by assumption))) : p := h
theorem pR_ {p q : Prop} (h : p) (k : p → q := by intro h_; (with_reducible repeat (first | apply Kd.fQ | apply Kd.fT | apply Kd.fI)); exact h_) : q := k h
theorem pN_ {p q : Prop} (h : p) (k : p → q := by intro h_; (with_reducible repeat (first | apply Kd.bG | apply Kd.bH | apply Kd.bC)); exact h_) : q := k h
theorem pV_ {p q : Prop} (h : p) (k : p → q := by intro h_; (with_reducible repeat (first | apply Kd.jW | apply Kd.jX | apply Kd.kF)); exact h_) : q := k h
theorem pS_ {p q : Prop} (h : p) (k : p → q := by intro h_; (with_reducible repeat (first | apply Kd.S_alloc | apply Kd.S_drewN | apply Kd.S_drew)); exact h_) : q := k h
theorem pQ_ {p q : Prop} (h : p) (k : p → q := by intro h_; (with_reducible repeat (first | apply Kd.Q_alloc | apply Kd.Q_drewN | apply Kd.Q_drew)); exact h_) : q := k h
theorem re_ {p : Prop} (h : p := by first | rfl | (simp [iI, iJ] <;> rfl) | (simp [*, iI, iJ] <;> rfl)) : p := h
theorem rs_ {p : Prop} (h : p := by first | rfl | (simp; done) | (simp [*]; done)) : p := h
theorem dt_ {p : Prop} [Decidable p] (h : decide p = true := by first | (with_reducible assumption) | assumption) : p := of_decide_eq_true h
theorem gw_ {n m g : Nat} (hg : g = m) (h : n ≤ m) : aa (n ≤ g) := ⟨by rw [hg]; exact h⟩
theorem cf1_ {W : World} {g : Nat} {a_ : Value} {t : TypeId} (h : W.heap[g]? = some (.cells #[a_] t (0, 0))) : W.cell? ⟨g, 0, none⟩ = some a_ ∧ W.frozen? ⟨g, 0, none⟩ = false :=
  ⟨(aA h 0).trans rfl, fE h 0⟩
theorem iy {W : World} {g : Nat} {a_ b_ : Value} {t : TypeId} (h : W.heap[g]? = some (.cells #[a_, b_] t (0, 0))) : W.cell? ⟨g, 0, none⟩ = some a_ ∧ W.cell? ⟨g, 1, none⟩ = some b_ ∧ W.frozen? ⟨g, 0, none⟩ = false ∧ W.frozen? ⟨g, 1, none⟩ = false :=
  ⟨(aA h 0).trans rfl, (aA h 1).trans rfl, fE h 0, fE h 1⟩
theorem cf3_ {W : World} {g : Nat} {a_ b_ c_ : Value} {t : TypeId} (h : W.heap[g]? = some (.cells #[a_, b_, c_] t (0, 0))) : W.cell? ⟨g, 0, none⟩ = some a_ ∧ W.cell? ⟨g, 1, none⟩ = some b_ ∧ W.cell? ⟨g, 2, none⟩ = some c_ ∧ W.frozen? ⟨g, 0, none⟩ = false ∧ W.frozen? ⟨g, 1, none⟩ = false ∧ W.frozen? ⟨g, 2, none⟩ = false :=
  ⟨(aA h 0).trans rfl, (aA h 1).trans rfl, (aA h 2).trans rfl, fE h 0, fE h 1, fE h 2⟩
theorem cf4_ {W : World} {g : Nat} {a_ b_ c_ d_ : Value} {t : TypeId} (h : W.heap[g]? = some (.cells #[a_, b_, c_, d_] t (0, 0))) : W.cell? ⟨g, 0, none⟩ = some a_ ∧ W.cell? ⟨g, 1, none⟩ = some b_ ∧ W.cell? ⟨g, 2, none⟩ = some c_ ∧ W.cell? ⟨g, 3, none⟩ = some d_ ∧ W.frozen? ⟨g, 0, none⟩ = false ∧ W.frozen? ⟨g, 1, none⟩ = false ∧ W.frozen? ⟨g, 2, none⟩ = false ∧ W.frozen? ⟨g, 3, none⟩ = false :=
  ⟨(aA h 0).trans rfl, (aA h 1).trans rfl, (aA h 2).trans rfl, (aA h 3).trans rfl, fE h 0, fE h 1, fE h 2, fE h 3⟩
theorem bQ {W : World} {g : Nat} {a_ b_ c_ d_ e_ : Value} {t : TypeId} (h : W.heap[g]? = some (.cells #[a_, b_, c_, d_, e_] t (0, 0))) : W.cell? ⟨g, 0, none⟩ = some a_ ∧ W.cell? ⟨g, 1, none⟩ = some b_ ∧ W.cell? ⟨g, 2, none⟩ = some c_ ∧ W.cell? ⟨g, 3, none⟩ = some d_ ∧ W.cell? ⟨g, 4, none⟩ = some e_ ∧ W.frozen? ⟨g, 0, none⟩ = false ∧ W.frozen? ⟨g, 1, none⟩ = false ∧ W.frozen? ⟨g, 2, none⟩ = false ∧ W.frozen? ⟨g, 3, none⟩ = false ∧ W.frozen? ⟨g, 4, none⟩ = false :=
  ⟨(aA h 0).trans rfl, (aA h 1).trans rfl, (aA h 2).trans rfl, (aA h 3).trans rfl, (aA h 4).trans rfl, fE h 0, fE h 1, fE h 2, fE h 3, fE h 4⟩
theorem cf6_ {W : World} {g : Nat} {a_ b_ c_ d_ e_ f_ : Value} {t : TypeId} (h : W.heap[g]? = some (.cells #[a_, b_, c_, d_, e_, f_] t (0, 0))) : W.cell? ⟨g, 0, none⟩ = some a_ ∧ W.cell? ⟨g, 1, none⟩ = some b_ ∧ W.cell? ⟨g, 2, none⟩ = some c_ ∧ W.cell? ⟨g, 3, none⟩ = some d_ ∧ W.cell? ⟨g, 4, none⟩ = some e_ ∧ W.cell? ⟨g, 5, none⟩ = some f_ ∧ W.frozen? ⟨g, 0, none⟩ = false ∧ W.frozen? ⟨g, 1, none⟩ = false ∧ W.frozen? ⟨g, 2, none⟩ = false ∧ W.frozen? ⟨g, 3, none⟩ = false ∧ W.frozen? ⟨g, 4, none⟩ = false ∧ W.frozen? ⟨g, 5, none⟩ = false :=
  ⟨(aA h 0).trans rfl, (aA h 1).trans rfl, (aA h 2).trans rfl, (aA h 3).trans rfl, (aA h 4).trans rfl, (aA h 5).trans rfl, fE h 0, fE h 1, fE h 2, fE h 3, fE h 4, fE h 5⟩
def bm (n b : Nat) : Array Bool := ((List.range n).map fun i => b.testBit i).toArray
theorem pu_ {P : Program} {ops : Array Oper} {Q : Exit → Act → World → Prop} {md : Region.Mode} {S : World → Prop} {ds : List Nat} {T : Bool × List (List Nat × List Nat)} {oi : Oper} {v : Value} {fuel : Nat} {l : Array Bool} {a a' : Act} {w : World} (hT : aa (mf md ops = T)) (i n : Nat) (l' : Array Bool) (h : eG P md ops Q S ds fuel l' a' w)
    (hi : ops[i]? = some oi := by exact rfl) (hN : oi.dst = some n := by exact rfl) (hc : anyT T l.toList l'.toList i = true := by kernel_rfl) (hQ : ∀ c a w, Q (.panic c) (a.put oi.dst v) w → Q (.panic c) a w := by exact fun _ _ _ h => h) (hw : Region.wanted oi (yielded ops a.tmps) = true := by exact rfl)
    (hy : ∀ w, (execOp a.eval oi).run P w = .ok (.value v) w := by intro w'; go_simp; with_reducible rfl) (ha : a.put (some n) v = a' := by simp only [Act.put, List.setIfInBounds_toArray, List.set_cons_zero, List.set_cons_succ, eQ, fe]; rfl) : eG P md ops Q S ds (fuel + 1) l a w := Aw l' hi hN (any_of hT.out hc) hQ (Or.inl ⟨hw, hy⟩) ha h
theorem pf_ {P : Program} {ops : Array Oper} {Q : Exit → Act → World → Prop} {md : Region.Mode} {S : World → Prop} {ds : List Nat} {T : Bool × List (List Nat × List Nat)} {oi : Oper} {fuel : Nat} {l : Array Bool} {a a' : Act} {w : World} (hT : aa (mf md ops = T)) (i n : Nat) (l' : Array Bool) (h : eG P md ops Q S ds fuel l' a' w)
    (hi : ops[i]? = some oi := by exact rfl) (hN : oi.dst = some n := by exact rfl) (hc : anyT T l.toList l'.toList i = true := by kernel_rfl) (hQ : ∀ c a w, Q (.panic c) (a.put oi.dst undef) w → Q (.panic c) a w := by exact fun _ _ _ h => h) (hw : Region.wanted oi (yielded ops a.tmps) = false := by exact rfl)
    (ha : a.put (some n) undef = a' := by simp only [Act.put, List.setIfInBounds_toArray, List.set_cons_zero, List.set_cons_succ, eQ, fe]; rfl) : eG P md ops Q S ds (fuel + 1) l a w := Aw l' hi hN (any_of hT.out hc) hQ (Or.inr ⟨hw, rfl⟩) ha h
theorem ta_ {P : Program} {ops : Array Oper} {Q : Exit → Act → World → Prop} {md : Region.Mode} {S : World → Prop} {ds B : List Nat} {T : Bool × List (List Nat × List Nat)} {oi : Oper} {v : Value} {fuel : Nat} {l : Array Bool} {a a' : Act} {w : World} (hT : aa (mf md ops = T)) (hB : aa (nW T.2 B = true)) (i n : Nat) (l' : Array Bool) (hS : S w)
    (h : eG P md ops Q S ds fuel l' a' w)
    (hi : ops[i]? = some oi := by exact rfl) (hN : oi.dst = some n := by exact rfl) (hc : takeW T B ds l.toList l'.toList i = true := by kernel_rfl) (hQ : ∀ c a w, Q (.panic c) (a.put oi.dst v) w → Q (.panic c) a w := by exact fun _ _ _ h => h) (hw : Region.wanted oi (yielded ops a.tmps) = true := by exact rfl)
    (hy : ∀ w, S w → (execOp a.eval oi).run P w = .ok (.value v) w := by intro w' hs_; (repeat (obtain ⟨_, hs_⟩ := hs_)); go_simp; with_reducible rfl)
    (ha : a.put (some n) v = a' := by simp only [Act.put, List.setIfInBounds_toArray, List.set_cons_zero, List.set_cons_succ, eQ, fe]; rfl) : eG P md ops Q S ds (fuel + 1) l a w := Iy l' hi hN (TV hT.out hB.out hc) hQ (Or.inl ⟨hw, hy⟩) hS ha h
theorem kb_ {w W w1 : World} {g : Nat} {o : Obj} (h : aa (w.heap[g]? = some o)) (hb : Below W.heap.size W w1) (k : w.heap[g]? = some o → W.heap[g]? = some o := by intro h_; (with_reducible repeat (first | refine ah ?_ _ | refine ai ?_ | refine af ?_ _)); exact h_) : aa (w1.heap[g]? = some o) := ⟨dV (k h.out) hb⟩
theorem nl_ {w W : World} {g g2 : Nat} {o : Obj} (h : aa (w.heap[g]? = some o)) (hg : g2 = W.heap.size) (k : w.heap[g]? = some o → W.heap[g]? = some o := by intro h_; (with_reducible repeat (first | refine ah ?_ _ | refine ai ?_ | refine af ?_ _)); exact h_) : aa (g ≠ g2) := ⟨by rw [hg]; exact Nat.ne_of_lt (mI (k h.out))⟩
theorem ng_ {w W : World} {g g2 : Nat} {o : Obj} (h : aa (w.heap[g]? = some o)) (hg : g2 = W.heap.size) (k : w.heap[g]? = some o → W.heap[g]? = some o := by intro h_; (with_reducible repeat (first | refine ah ?_ _ | refine ai ?_ | refine af ?_ _)); exact h_) : aa (g2 ≠ g) := ⟨by rw [hg]; exact Nat.ne_of_gt (mI (k h.out))⟩
theorem hc_ {w W : World} {a : Addr} {v : Value} (hb : aa (Below w.heap.size w W)) (h : w.cell? a = some v) : W.cell? a = some v := (hb.out.cell (World.block_lt_of_cell? w _ h)).trans h
theorem cb_ {p q : Prop} (h : p) (k : p → q := by intro h_; repeat (first | exact h_ | (with_reducible refine Kd.C_alloc ?_ _) | (with_reducible refine Kd.C_drewN ?_ _) | (with_reducible refine Kd.C_drew ?_))) : q := k h
theorem mp_ {p : Prop} (h : p := by (try simp only [List.map_toArray, List.map_cons, List.map_nil]); first | done | rfl | (simp only [List.length_drop, List.length_take]; rfl)) : p := h
theorem z0_ : ((0 : Int)).toNat = 0 := rfl
end Go.Proofs.Ytggelekooacmnaa.Z
namespace Go.Proofs.Ytggelekooacmnaa.Z
open Go.RowKit Go.Proofs.YtggelekooacmnaaW.bM Go.Proofs.YtggelekooacmnaaW.dR Go.Proofs.YtggelekooacmnaaW.eO
attribute [local go_sem] iM iN jk jl gW gX iO iP   -- for this text's walks alone
set_option linter.unusedVariables false
set_option linter.unusedSimpArgs false

/-- A state of type 56 at block g of W; what its slices lead to came in by w0. -/
def au (w0 W : World) (g : Nat) (f0 : List Int) (f1 : Int) (f2 : Int) : Prop := ∃ A0 c0, W.heap[g]? = some (.cells #[.slice A0 f0.length c0, .int .i64 f1, .int .i64 f2] 56 (0, 0)) ∧ w0.heap.size ≤ g ∧ Kd.C (Kd.int .i64) w0 A0 f0.length f0
theorem au.grown {w0 W : World} {g : Nat} {f0 : List Int} {f1 : Int} {f2 : Int} {W1 : World} {row : Option Nat} (h : au w0 W g f0 f1 f2) (hw : W.grownBy W1 row) (hne : some g ≠ row) : au w0 W1 g f0 f1 f2 := by
 obtain ⟨A0, c0, hb, hg, hr0⟩ := h; exact ⟨A0, c0, iq hb hw hne, hg, hr0⟩
theorem au.own_neN {w0 W : World} {g : Nat} {f0 : List Int} {f1 : Int} {f2 : Int} {α : Type} {d : Kd α} {e : Nat} {base : Nat} {ok : Nat → Prop} {v : Value} {xs : List α} (h : au w0 W g f0 f1 f2) (ho : Kd.N d e W base ok v xs) (ht : e ≠ 56) : some g ≠ v.ownBlock := by
 obtain ⟨A0, c0, hb, hg, hr0⟩ := h; exact Kd.N_ne ho hb ht
theorem au.fresh {w0 W : World} {g : Nat} {f0 : List Int} {f1 : Int} {f2 : Int} (h : au w0 W g f0 f1 f2) : ∀ k, W.heap.size ≤ k → k ≠ g := by
 obtain ⟨A0, c0, hb, hg, hr0⟩ := h; exact Kd.dY hb
theorem au.kept {w0 W : World} {g : Nat} {f0 : List Int} {f1 : Int} {f2 : Int} {W1 : World} {S : Nat → Prop} (h : au w0 W g f0 f1 f2) (hk : Kept W W1 S) (hne : ¬ S g) : au w0 W1 g f0 f1 f2 := by
 obtain ⟨A0, c0, hb, hg, hr0⟩ := h; exact ⟨A0, c0, blk_kept hb hk hne, hg, hr0⟩
theorem au.below {w0 W : World} {g : Nat} {f0 : List Int} {f1 : Int} {f2 : Int} {W1 : World} (h : au w0 W g f0 f1 f2) (hw : Below W.heap.size W W1) : au w0 W1 g f0 f1 f2 := h.grown (I9 hw none) (by simp)
theorem au.alloc {w0 W : World} {g : Nat} {f0 : List Int} {f1 : Int} {f2 : Int} (h : au w0 W g f0 f1 f2) (o : Obj) : au w0 (W.alloc o) g f0 f1 f2 := h.below (dC (Below.refl _ _) o)
theorem au.drewN {w0 W : World} {g : Nat} {f0 : List Int} {f1 : Int} {f2 : Int} (h : au w0 W g f0 f1 f2) (m : Nat) : au w0 (W.drewN m) g f0 f1 f2 := h
theorem au.drew {w0 W : World} {g : Nat} {f0 : List Int} {f1 : Int} {f2 : Int} (h : au w0 W g f0 f1 f2) : au w0 W.drew g f0 f1 f2 := h
theorem au.at_ {w0 W : World} {g : Nat} {f0 : List Int} {f1 : Int} {f2 : Int} {w' : World} {m : Nat} (hq : W.drewN m = w') (h : au w0 W g f0 f1 f2) : au w0 w' g f0 f1 f2 := by subst hq; exact au.drewN h m
theorem au.apart {w0 W : World} {g : Nat} {f0 : List Int} {f1 : Int} {f2 : Int} {α : Type} {d : Kd α} {e : Nat} {base : Nat} {ok : Nat → Prop} {v : Value} {xs : List α} (h : au w0 W g f0 f1 f2) (ho : d.R e W base ok v xs) (ht : ∀ q, q ∈ e :: d.E → q ≠ 56) : d.R e W base (fun k => ok k ∧ k ≠ g) v xs := by
 obtain ⟨A0, c0, hb, hg, hr0⟩ := h; exact Kd.wC ho hb ht
theorem au.own_ne {w0 W : World} {g : Nat} {f0 : List Int} {f1 : Int} {f2 : Int} {α : Type} {d : Kd α} {e : Nat} {base : Nat} {ok : Nat → Prop} {v : Value} {xs : List α} (h : au w0 W g f0 f1 f2) (ho : d.R e W base ok v xs) (ht : e ≠ 56) : some g ≠ v.ownBlock := by
 obtain ⟨A0, c0, hb, hg, hr0⟩ := h; exact Kd.xB ho hb ht
theorem au.apartQ {w0 W : World} {g : Nat} {f0 : List Int} {f1 : Int} {f2 : Int} {α : Type} {d : Kd α} {e : Nat} {base : Nat} {ok : Nat → Prop} {v : Value} {xs : List α} (h : au w0 W g f0 f1 f2) (ho : d.Q e W base ok v xs) (ht : ∀ q, q ∈ e :: d.E → q ≠ 56) : d.Q e W base (fun k => ok k ∧ k ≠ g) v xs := by
 obtain ⟨A0, c0, hb, hg, hr0⟩ := h; exact Kd.Q_types ho hb ht
theorem au.own_neQ {w0 W : World} {g : Nat} {f0 : List Int} {f1 : Int} {f2 : Int} {α : Type} {d : Kd α} {e : Nat} {base : Nat} {ok : Nat → Prop} {v : Value} {xs : List α} (h : au w0 W g f0 f1 f2) (ho : d.Q e W base ok v xs) (ht : e ≠ 56) : some g ≠ v.ownBlock := by
 obtain ⟨A0, c0, hb, hg, hr0⟩ := h; exact Kd.Q_ne ho hb ht
theorem au.apartS {w0 W : World} {g : Nat} {f0 : List Int} {f1 : Int} {f2 : Int} {α : Type} {d : Kd α} {e : Nat} {base : Nat} {ok : Nat → Prop} {v : Value} {xs : List α} (h : au w0 W g f0 f1 f2) (ho : d.S e W base ok v xs) (ht : ∀ q, q ∈ e :: d.E → q ≠ 56) : d.S e W base (fun k => ok k ∧ k ≠ g) v xs := by
 obtain ⟨A0, c0, hb, hg, hr0⟩ := h; exact Kd.S_types ho hb ht
theorem au.own_neS {w0 W : World} {g : Nat} {f0 : List Int} {f1 : Int} {f2 : Int} {α : Type} {d : Kd α} {e : Nat} {base : Nat} {ok : Nat → Prop} {v : Value} {xs : List α} (h : au w0 W g f0 f1 f2) (ho : d.S e W base ok v xs) (ht : e ≠ 56) : some g ≠ v.ownBlock := by
 obtain ⟨A0, c0, hb, hg, hr0⟩ := h; exact Kd.S_ne ho hb ht
theorem au.lt {w0 W : World} {g : Nat} {f0 : List Int} {f1 : Int} {f2 : Int} (h : au w0 W g f0 f1 f2) : g < W.heap.size := by
 obtain ⟨A0, c0, hb, hg, hr0⟩ := h; exact mI hb
theorem au.ge {w0 W : World} {g : Nat} {f0 : List Int} {f1 : Int} {f2 : Int} (h : au w0 W g f0 f1 f2) : w0.heap.size ≤ g := by
 obtain ⟨A0, c0, hb, hg, hr0⟩ := h; exact hg
theorem au.ne_blk {w0 W : World} {g : Nat} {f0 : List Int} {f1 : Int} {f2 : Int} {a : Nat} {cs : Array Value} {t : TypeId} {fr : Nat × Nat} (h : au w0 W g f0 f1 f2) (hb2 : W.heap[a]? = some (.cells cs t fr)) (ht : t ≠ 56) : g ≠ a := by
 obtain ⟨A0, c0, hb, hg, hr0⟩ := h; rintro rfl
 rw [hb] at hb2; injection hb2 with hb2
 injection hb2 with _ ht2
 exact ht ht2.symm
theorem au.far {w0 W : World} {g : Nat} {f0 : List Int} {f1 : Int} {f2 : Int} {p : Addr} (h : au w0 W g f0 f1 f2) (hne : g ≠ p.block) (u : Value) : au w0 (W.setCell p u) g f0 f1 f2 := by
 obtain ⟨A0, c0, hb, hg, hr0⟩ := h; exact ⟨A0, c0, aQ hb hne u, hg, hr0⟩
theorem Tx {W : World} {g : Nat} {A0 : Option Addr} {c0 : Nat} {f0 : List Int} {f1 : Int} {f2 : Int} (h : W.heap[g]? = some (.cells #[.slice A0 f0.length c0, .int .i64 f1, .int .i64 f2] 56 (0, 0))) : W.cell? ⟨g, 0, none⟩ = some (.slice A0 f0.length c0) := (aA h 0).trans rfl
theorem Ty {W : World} {g : Nat} {A0 : Option Addr} {c0 : Nat} {f0 : List Int} {f1 : Int} {f2 : Int} (h : W.heap[g]? = some (.cells #[.slice A0 f0.length c0, .int .i64 f1, .int .i64 f2] 56 (0, 0))) : W.cell? ⟨g, 1, none⟩ = some (.int .i64 f1) := (aA h 1).trans rfl
theorem au.jL {w0 W : World} {g : Nat} {f0 : List Int} {f1 : Int} {f2 : Int} (h : au w0 W g f0 f1 f2) (x : Int) : au w0 (W.setCell ⟨g, 1, none⟩ (.int .i64 x)) g f0 x f2 := by
 obtain ⟨A0, c0, hb, hg, hr0⟩ := h; exact ⟨A0, c0, by simpa using QU hb 1 (.int .i64 x), hg, hr0⟩
theorem Tz {W : World} {g : Nat} {A0 : Option Addr} {c0 : Nat} {f0 : List Int} {f1 : Int} {f2 : Int} (h : W.heap[g]? = some (.cells #[.slice A0 f0.length c0, .int .i64 f1, .int .i64 f2] 56 (0, 0))) : W.cell? ⟨g, 2, none⟩ = some (.int .i64 f2) := (aA h 2).trans rfl
theorem au.jM {w0 W : World} {g : Nat} {f0 : List Int} {f1 : Int} {f2 : Int} (h : au w0 W g f0 f1 f2) (x : Int) : au w0 (W.setCell ⟨g, 2, none⟩ (.int .i64 x)) g f0 f1 x := by
 obtain ⟨A0, c0, hb, hg, hr0⟩ := h; exact ⟨A0, c0, by simpa using QU hb 2 (.int .i64 x), hg, hr0⟩
theorem au.new (w0 W : World) (A0 : Option Addr) (c0 : Nat) (f0 : List Int) (f1 : Int) (f2 : Int) (hB : Below w0.heap.size w0 W) (hr0 : Kd.C (Kd.int .i64) w0 A0 f0.length f0) : au w0 (W.alloc (.cells #[.slice A0 f0.length c0, .int .i64 f1, .int .i64 f2] 56)) W.heap.size f0 f1 f2 := ⟨A0, c0, by simpa using heap_alloc_new W _, hB.size, hr0⟩

/-! ### ll: function 6 -/
def ll.f (l0 : List Int) : Option (List Int × Int × Int) := if (l0.length : Int) > 1000 then (if 1000 ≤ (l0.length : Int) then (some (l0.take 1000, 0, 0)) else (none)) else (some (l0, 0, 0))
set_option maxHeartbeats 8000000 in
set_option maxRecDepth 100000 in
theorem ll.calls (A0 : Option Addr) (c0 : Nat) (l0 : List Int) (r1 : List Int) (r2 : Int) (r3 : Int) (w0 w : World) (hB : Below w0.heap.size w0 w) (hr0 : Kd.C (Kd.int .i64) w0 A0 l0.length l0) (hc0 : l0.length ≤ c0) (h : ll.f l0 = some (r1, r2, r3)) :
  Calls Try.prog 6 #[.slice A0 l0.length c0] w fun e w' => ∃ g_ : Nat, e = .returned (.pointer (some ⟨g_, 0, none⟩)) ∧ au w0 w' g_ r1 r2 r3 ∧ Below w0.heap.size w0 w' ∧ Below w.heap.size w w' := by
 have hu56 := Try.underlying56; have HR0 := aa.mk hr0; have HC0 := aa.mk hc0; clear hr0 hc0; have HBW := aa.mk (Below.refl w.heap.size w); have HW0 := aa.mk hB.size; have HB := aa.mk hB; clear hB; have H : (if (l0.length : Int) > 1000 then (if 1000 ≤ (l0.length : Int) then (some (l0.take 1000, 0, 0)) else (none)) else (some (l0, 0, 0))) = some (r1, r2, r3) := h; clear h; by_cases c2 : (l0.length : Int) > 1000
 ·rw [if_pos c2] at H; have Ag : decide (1000 < (l0.length : Int)) = true := decide_eq_true c2; have Cq : decide (1000 < l0.length) = true := decide_eq_true (by omega); clear c2; by_cases c3 : 1000 ≤ (l0.length : Int)
  ·rw [if_pos c3] at H; have lW := eq_true c3; have oJ : decide (1000 ≤ (l0.length : Int)) = true := decide_eq_true c3; clear c3; simp only [Option.some.injEq, Prod.mk.injEq] at H; obtain ⟨rfl, rfl, rfl⟩ := H; obtain ⟨i04, hi04, _, hsz4, _⟩ := info_parts info3; obtain ⟨hcut4, hA4, hC4⟩ := TI (P := Try.prog) (Value.int .i64) 0 22 3 .i64 Try.underlying22 hi04 hsz4 A0 c0 l0 1000 (by omega) (dt_) HC0.out; have HR101 := aa.mk (Kd.OW (h1 := fun _ => rfl) (hA4 _ (Kd.OX HR0.out))); have HC101 := aa.mk hC4; clear hA4 hC4 hi04 hsz4; go_enter Try.func6, Try.ntmps6; go_wp2_with (first | ((with_reducible refine bu (N := 10) rfl ?_); refine bz ?hg (N := 10) ?hd (cs := #[.slice A0 (l0.take 1000).length c0, .int .i64 0, .int .i64 0]) (t := 56) ?hr ?_; (case hd => rfl); (case hg => rfl); (case hr => first | (go_simp; done) | (go_simp; rfl)); intro gb102 hg w5 aU hb; have BK102 := aa.mk (aU); have GW102 := aa.mk ((by rw [hg]; exact (aI (by repeat (first | (with_reducible first | exact HBW.out | apply dC | apply bR | apply bV) | exact HBW.out))) : w.heap.size ≤ gb102)); have GE102 := aa.mk ((Nat.le_trans HW0.out (by rw [hg]; exact (aI (by repeat (first | (with_reducible first | exact HBW.out | apply dC | apply bR | apply bV) | exact HBW.out))) : w.heap.size ≤ gb102) : w0.heap.size ≤ gb102)); replace HBW := aa.mk (ay HBW.out hb); replace HB := aa.mk (ay bl_ hb); clear hb aU hg))
   go_ret; exact ⟨_, rfl, (show au w0 _ gb102 (l0.take 1000) 0 0 from ⟨_, _, bk_, GE102.out, HR101.out⟩), bl_, by repeat (first | (with_reducible first | exact HBW.out | apply dC | apply bR | apply bV | refine bI ?_ GW102.out) | exact HBW.out)⟩
  ·rw [if_neg c3] at H; exact absurd H (by simp)
 ·rw [if_neg c2] at H; have Ag : decide (1000 < (l0.length : Int)) = false := decide_eq_false c2; have Cq : decide (1000 < l0.length) = false := decide_eq_false (by omega); clear c2; simp only [Option.some.injEq, Prod.mk.injEq] at H; obtain ⟨rfl, rfl, rfl⟩ := H; go_enter Try.func6, Try.ntmps6; go_wp2_with (first | ((with_reducible refine bu (N := 10) rfl ?_); refine bz ?hg (N := 10) ?hd (cs := #[.slice A0 l0.length c0, .int .i64 0, .int .i64 0]) (t := 56) ?hr ?_; (case hd => rfl); (case hg => rfl); (case hr => first | (go_simp; done) | (go_simp; rfl)); intro gb103 hg w6 aU hb; have BK103 := aa.mk (aU); have GW103 := aa.mk ((by rw [hg]; exact (aI (by repeat (first | (with_reducible first | exact HBW.out | apply dC | apply bR | apply bV) | exact HBW.out))) : w.heap.size ≤ gb103)); have GE103 := aa.mk ((Nat.le_trans HW0.out (by rw [hg]; exact (aI (by repeat (first | (with_reducible first | exact HBW.out | apply dC | apply bR | apply bV) | exact HBW.out))) : w.heap.size ≤ gb103) : w0.heap.size ≤ gb103)); replace HBW := aa.mk (ay HBW.out hb); replace HB := aa.mk (ay bl_ hb); clear hb aU hg))
  go_ret; exact ⟨_, rfl, (show au w0 _ gb103 l0 0 0 from ⟨_, _, bk_, GE103.out, HR0.out⟩), bl_, by repeat (first | (with_reducible first | exact HBW.out | apply dC | apply bR | apply bV | refine bI ?_ GW103.out) | exact HBW.out)⟩

end Go.Proofs.Ytggelekooacmnaa.Z
namespace Go.Proofs.Ytggelekooacmnaa.Z
open Go.RowKit Go.Proofs.YtggelekooacmnaaW.bM Go.Proofs.YtggelekooacmnaaW.dR Go.Proofs.YtggelekooacmnaaW.eO
attribute [local go_sem] iM iN jk jl gW gX iO iP   -- for this text's walks alone
set_option linter.unusedVariables false
set_option linter.unusedSimpArgs false

/-! ### jN: function 37 -/
def jN.f (dA : List Int) (gq : Int) (iA : Int) : Option (Int × Int × Int) := if gq ≥ (dA.length : Int) then (some (0, gq, iA)) else (if 0 ≤ (wrap64 ((wrap64 (gq + 1)) - 1)) then (if (wrap64 ((wrap64 (gq + 1)) - 1)) < (dA.length : Int) then (some (rd dA (wrap64 ((wrap64 (gq + 1)) - 1)), wrap64 (gq + 1), iA)) else (none)) else (none))
set_option maxHeartbeats 8000000 in
set_option maxRecDepth 100000 in
theorem jN.calls (g : Nat) (dA : List Int) (gq : Int) (iA : Int) (r1 : Int) (r2 : Int) (r3 : Int) (w0 w : World) (hI : au w0 w g dA gq iA) (hB : Below w0.heap.size w0 w) (h : jN.f dA gq iA = some (r1, r2, r3)) :
    Calls Try.prog 37 #[.pointer (some ⟨g, 0, none⟩)] w fun e w' => e = .returned (.int .i64 r1) ∧ au w0 w' g dA r2 r3 ∧ Below w0.heap.size w0 w' ∧ aJ w w' g none := by
  have HI0 := aa.mk hI
  have HK := aa.mk (aJ.refl w g none)
  have HL := aa.mk hB.size
  clear hI
  have HW0 := aa.mk hB.size
  have HB := aa.mk hB
  clear hB
  have H : (if gq ≥ (dA.length : Int) then (some (0, gq, iA)) else (if 0 ≤ (wrap64 ((wrap64 (gq + 1)) - 1)) then (if (wrap64 ((wrap64 (gq + 1)) - 1)) < (dA.length : Int) then (some (rd dA (wrap64 ((wrap64 (gq + 1)) - 1)), wrap64 (gq + 1), iA)) else (none)) else (none))) = some (r1, r2, r3) := h
  clear h
  by_cases c2 : gq ≥ (dA.length : Int)
  · rw [if_pos c2] at H
    have Ag : decide ((dA.length : Int) ≤ gq) = true := decide_eq_true c2
    clear c2
    simp only [Option.some.injEq, Prod.mk.injEq] at H
    obtain ⟨rfl, rfl, rfl⟩ := H
    obtain ⟨ASz3_0, cSz3_0, HGz3, hgz3, HSz3_0⟩ := HI0.out
    have hcz3_0 := Tx HGz3
    have hcz3_1 := Ty HGz3
    have hcz3_2 := Tz HGz3
    have hfz3_1 := fE HGz3 1
    have hfz3_2 := fE HGz3 2
    clear HGz3 hgz3
    go_enter Try.func37, Try.ntmps37
    go_wp2
    repeat (go_quiet (fail); try go_wp2)
    go_ret
    exact ⟨by first | rfl | (simp [iI, iJ] <;> rfl) | (simp [*, iI, iJ] <;> rfl), by repeat (first | (with_reducible first | exact HI0.out | apply au.alloc | apply au.drewN | apply au.drew | apply au.jL | apply au.jM) | exact HI0.out), by repeat (first | (with_reducible first | exact HB.out | apply dC | apply bR | apply bV | refine bI ?_ (au.ge HI0.out)) | exact HB.out), by repeat (first | (with_reducible first | exact HK.out | apply aJ.fF | apply bJ | apply bN | apply bK) | exact HK.out)⟩
  · rw [if_neg c2] at H
    have Ag : decide ((dA.length : Int) ≤ gq) = false := decide_eq_false c2
    clear c2
    obtain ⟨ji4, C8⟩ : ∃ j_ : Int, (wrap64 ((wrap64 (gq + 1)) - 1)) = j_ := ⟨_, rfl⟩
    replace H : (if 0 ≤ (ji4) then (if (ji4) < (dA.length : Int) then (some (rd dA (ji4), wrap64 (gq + 1), iA)) else (none)) else (none)) = some (r1, r2, r3) := by first | (rw [C8] at H; exact H) | (simp only [C8] at H ⊢; exact H)
    have hji4w : (IntKind.i64.wrap ((wrap64 (gq + 1)) - 1)) = ji4 := (eQ _).trans C8
    by_cases c5 : 0 ≤ (ji4)
    · rw [if_pos c5] at H
      have uK : decide (0 ≤ (ji4)) = true := decide_eq_true c5
      clear c5
      by_cases c6 : (ji4) < (dA.length : Int)
      · rw [if_pos c6] at H
        have c6b0 : decide ((ji4) < (dA.length : Int)) = true := decide_eq_true c6
        clear c6
        simp only [Option.some.injEq, Prod.mk.injEq] at H
        obtain ⟨rfl, rfl, rfl⟩ := H
        obtain ⟨ASz7_0, cSz7_0, HGz7, hgz7, HSz7_0⟩ := HI0.out
        have EG := Tx HGz7
        have EH := Ty HGz7
        have Lg := Tz HGz7
        have EI := fE HGz7 1
        have Lh := fE HGz7 2
        clear HGz7 hgz7
        have p104 : 0 ≤ ((ji4) : Int) := of_decide_eq_true (by first | (with_reducible assumption) | assumption)
        have q104 : (ji4) < (dA.length : Int) := of_decide_eq_true (by first | (with_reducible assumption) | assumption)
        obtain ⟨ad104, e104, FM⟩ := Kd.qP HSz7_0 (ji4) p104 q104
        cases e104
        have Mc : ad104.block ≠ g := Nat.ne_of_lt (Nat.lt_of_lt_of_le (by have := World.block_lt_of_cell? _ _ FM; first | rwa [add_block] at this | exact this) (au.ge HI0.out))
        replace FM := kC HB.out FM
        replace FM := (cell_far (p := ⟨g, 1, none⟩) (by first | (rw [add_block]; exact Mc) | (show (Addr.add _ _).block ≠ _; rw [add_block]; exact Mc) | exact Mc) (.int .i64 (wrap64 (gq + 1)))).trans FM
        (try have hy104_0 := fun (n_ : Nat) => (show (((w.drewN n_).setCell ⟨g, 1, none⟩ (.int .i64 (wrap64 (gq + 1))))).cell? _ = some _ from FM))
        clear Mc
        replace p104 := eq_true p104
        replace q104 := eq_true q104
        go_enter Try.func37, Try.ntmps37
        go_wp2
        repeat (go_quiet (fail); try go_wp2)
        all_goals go_ret
        all_goals exact ⟨by first | rfl | (simp [iI, iJ] <;> rfl) | (simp only [← C8]; first | rfl | (simp [iI, iJ] <;> rfl)) | (simp; rw [← C8]; (first | unfold mn | unfold mx); split <;> omega) | (simp; (first | unfold mn at C8 | unfold mx at C8); split at C8 <;> omega) | (simp [*, iI, iJ] <;> rfl), by repeat (first | (with_reducible first | exact HI0.out | apply au.alloc | apply au.drewN | apply au.drew | apply au.jL | apply au.jM) | exact HI0.out), by repeat (first | (with_reducible first | exact HB.out | apply dC | apply bR | apply bV | refine bI ?_ (au.ge HI0.out)) | exact HB.out), by repeat (first | (with_reducible first | exact HK.out | apply aJ.fF | apply bJ | apply bN | apply bK) | exact HK.out)⟩
      · rw [if_neg c6] at H
        exact absurd H (by simp)
    · rw [if_neg c5] at H
      exact absurd H (by simp)

end Go.Proofs.Ytggelekooacmnaa.Z
namespace Go.Proofs.Ytggelekooacmnaa.Z
open Go.RowKit Go.Proofs.YtggelekooacmnaaW.bM Go.Proofs.YtggelekooacmnaaW.dR Go.Proofs.YtggelekooacmnaaW.eO
attribute [local go_sem] iM iN jk jl gW gX iO iP   -- for this text's walks alone
set_option linter.unusedVariables false
set_option linter.unusedSimpArgs false

/-! ### dz: function 19 -/
def dz.f (dA : List Int) (gq : Int) (iA : Int) (a1 : Int) : Option (Int × Int × Int) := if a1 < 1 then (some (0, gq, iA)) else ((jN.f dA gq iA).bind fun vV => (if a1 = 0 then (none) else (if (Int.tmod vV.1 a1) < 0 then (some (wrap64 ((Int.tmod vV.1 a1) + a1), vV.2.1, vV.2.2)) else (some (Int.tmod vV.1 a1, vV.2.1, vV.2.2)))))
set_option maxHeartbeats 8000000 in
set_option maxRecDepth 100000 in
theorem dz.calls (g : Nat) (dA : List Int) (gq : Int) (iA : Int) (a1 : Int) (r1 : Int) (r2 : Int) (r3 : Int) (w0 w : World) (hI : au w0 w g dA gq iA) (hB : Below w0.heap.size w0 w) (h : dz.f dA gq iA a1 = some (r1, r2, r3)) :
    Calls Try.prog 19 #[.pointer (some ⟨g, 0, none⟩), .int .i64 a1] w fun e w' => e = .returned (.int .i64 r1) ∧ au w0 w' g dA r2 r3 ∧ Below w0.heap.size w0 w' ∧ aJ w w' g none := by
  have HI0 := aa.mk hI
  have HK := aa.mk (aJ.refl w g none)
  have HL := aa.mk hB.size
  clear hI
  have HW0 := aa.mk hB.size
  have HB := aa.mk hB
  clear hB
  have H : (if a1 < 1 then (some (0, gq, iA)) else ((jN.f dA gq iA).bind fun vV => (if a1 = 0 then (none) else (if (Int.tmod vV.1 a1) < 0 then (some (wrap64 ((Int.tmod vV.1 a1) + a1), vV.2.1, vV.2.2)) else (some (Int.tmod vV.1 a1, vV.2.1, vV.2.2)))))) = some (r1, r2, r3) := h
  clear h
  by_cases c3 : a1 < 1
  · rw [if_pos c3] at H
    have lW : decide (a1 < 1) = true := decide_eq_true c3
    clear c3
    simp only [Option.some.injEq, Prod.mk.injEq] at H
    obtain ⟨rfl, rfl, rfl⟩ := H
    go_enter Try.func19, Try.ntmps19
    go_wp2
    go_ret
    exact ⟨by first | rfl | (simp [iI, iJ] <;> rfl) | (simp [*, iI, iJ] <;> rfl), by repeat (first | (with_reducible first | exact HI0.out | apply au.alloc | apply au.drewN | apply au.drew | apply au.jL | apply au.jM) | exact HI0.out), by repeat (first | (with_reducible first | exact HB.out | apply dC | apply bR | apply bV | refine bI ?_ (au.ge HI0.out)) | exact HB.out), by repeat (first | (with_reducible first | exact HK.out | apply aJ.fF | apply bJ | apply bN | apply bK) | exact HK.out)⟩
  · rw [if_neg c3] at H
    have lW : decide (a1 < 1) = false := decide_eq_false c3
    clear c3
    replace H := Option.bind_eq_some_iff.mp H
    obtain ⟨⟨t105, t106, t107⟩, A40, H⟩ := H
    replace H : (if a1 = 0 then (none) else (if (Int.tmod t105 a1) < 0 then (some (wrap64 ((Int.tmod t105 a1) + a1), t106, t107)) else (some (Int.tmod t105 a1, t106, t107)))) = some (r1, r2, r3) := H
    have A4 := aa.mk A40
    clear A40
    by_cases c5 : a1 = 0
    · rw [if_pos c5] at H
      exact absurd H (by simp)
    · rw [if_neg c5] at H
      have uK : (a1 == 0) = false := beq_eq_false_iff_ne.mpr c5
      have c5b1 : (a1 != 0) = true := bne_iff_ne.mpr c5
      by_cases c6 : (Int.tmod t105 a1) < 0
      · rw [if_pos c6] at H
        have c6b0 : decide ((Int.tmod t105 a1) < 0) = true := decide_eq_true c6
        clear c6
        simp only [Option.some.injEq, Prod.mk.injEq] at H
        obtain ⟨rfl, rfl, rfl⟩ := H
        go_enter Try.func19, Try.ntmps19
        go_wp2_with (first | ((with_reducible refine aZ (f := 37) rfl ?_); refine cz (some 9) rfl rfl Try.func37 (by kernel_rfl) rfl #[.pointer (some ⟨g, 0, none⟩)] rfl (by (try simp only [List.map_toArray, List.map_cons, List.map_nil]); first | done | rfl | (simp only [List.length_drop, List.length_take]; rfl)) ?_; (with_reducible refine (jN.calls g dA gq iA t105 t106 t107 w0 _ ?aX ?aY A4.out).mono ?_); (case aX => repeat (first | (with_reducible first | exact HI0.out | apply au.alloc | apply au.drewN | apply au.drew | apply au.jL | apply au.jM) | exact HI0.out)); (case aY => repeat (first | (with_reducible first | exact HB.out | apply dC | apply bR | apply bV | refine bI ?_ (au.ge HI0.out)) | exact HB.out)); rintro e w7 ⟨rfl, hi, hb, hk⟩; refine ⟨_, rfl, ?_⟩; have n0_ := aa.mk (aJ.trans (by repeat (first | (with_reducible first | exact HK.out | apply aJ.fF | apply bJ | apply bN | apply bK) | exact HK.out)) hk (.inl rfl)); have n1_ := aa.mk (hb); have n2_ := aa.mk (hi); clear HK; clear HB; clear HI0; have HK := n0_; have HB := n1_; have HI0 := n2_; clear n0_ n1_ n2_; (try clear hb); (try clear hb2); (try clear hk); (try clear hi)))
        go_ret
        exact ⟨by first | rfl | (simp [iI, iJ] <;> rfl) | (simp [*, iI, iJ] <;> rfl), by repeat (first | (with_reducible first | exact HI0.out | apply au.alloc | apply au.drewN | apply au.drew | apply au.jL | apply au.jM) | exact HI0.out), by repeat (first | (with_reducible first | exact HB.out | apply dC | apply bR | apply bV | refine bI ?_ (au.ge HI0.out)) | exact HB.out), by repeat (first | (with_reducible first | exact HK.out | apply aJ.fF | apply bJ | apply bN | apply bK) | exact HK.out)⟩
      · rw [if_neg c6] at H
        have c6b0 : decide ((Int.tmod t105 a1) < 0) = false := decide_eq_false c6
        clear c6
        simp only [Option.some.injEq, Prod.mk.injEq] at H
        obtain ⟨rfl, rfl, rfl⟩ := H
        go_enter Try.func19, Try.ntmps19
        go_wp2_with (first | ((with_reducible refine aZ (f := 37) rfl ?_); refine cz (some 9) rfl rfl Try.func37 (by kernel_rfl) rfl #[.pointer (some ⟨g, 0, none⟩)] rfl (by (try simp only [List.map_toArray, List.map_cons, List.map_nil]); first | done | rfl | (simp only [List.length_drop, List.length_take]; rfl)) ?_; (with_reducible refine (jN.calls g dA gq iA t105 t106 t107 w0 _ ?aX ?aY A4.out).mono ?_); (case aX => repeat (first | (with_reducible first | exact HI0.out | apply au.alloc | apply au.drewN | apply au.drew | apply au.jL | apply au.jM) | exact HI0.out)); (case aY => repeat (first | (with_reducible first | exact HB.out | apply dC | apply bR | apply bV | refine bI ?_ (au.ge HI0.out)) | exact HB.out)); rintro e w8 ⟨rfl, hi, hb, hk⟩; refine ⟨_, rfl, ?_⟩; have n0_ := aa.mk (aJ.trans (by repeat (first | (with_reducible first | exact HK.out | apply aJ.fF | apply bJ | apply bN | apply bK) | exact HK.out)) hk (.inl rfl)); have n1_ := aa.mk (hb); have n2_ := aa.mk (hi); clear HK; clear HB; clear HI0; have HK := n0_; have HB := n1_; have HI0 := n2_; clear n0_ n1_ n2_; (try clear hb); (try clear hb2); (try clear hk); (try clear hi)))
        go_ret
        exact ⟨by first | rfl | (simp [iI, iJ] <;> rfl) | (simp [*, iI, iJ] <;> rfl), by repeat (first | (with_reducible first | exact HI0.out | apply au.alloc | apply au.drewN | apply au.drew | apply au.jL | apply au.jM) | exact HI0.out), by repeat (first | (with_reducible first | exact HB.out | apply dC | apply bR | apply bV | refine bI ?_ (au.ge HI0.out)) | exact HB.out), by repeat (first | (with_reducible first | exact HK.out | apply aJ.fF | apply bJ | apply bN | apply bK) | exact HK.out)⟩

end Go.Proofs.Ytggelekooacmnaa.Z
namespace Go.Proofs.Ytggelekooacmnaa.Z
open Go.RowKit Go.Proofs.YtggelekooacmnaaW.bM Go.Proofs.YtggelekooacmnaaW.dR Go.Proofs.YtggelekooacmnaaW.eO
attribute [local go_sem] iM iN jk jl gW gX iO iP   -- for this text's walks alone
set_option linter.unusedVariables false
set_option linter.unusedSimpArgs false

/-! ### dK: function 18 -/
def dK.f (dA : List Int) (gq : Int) (iA : Int) (a1 : Int) (a2 : Int) : Option (Int × Int × Int) := (dz.f dA gq iA (wrap64 ((wrap64 (a2 - a1)) + 1))).bind fun KC => (some (wrap64 (a1 + KC.1), KC.2.1, KC.2.2))
set_option maxHeartbeats 8000000 in
set_option maxRecDepth 100000 in
theorem dK.calls (g : Nat) (dA : List Int) (gq : Int) (iA : Int) (a1 : Int) (a2 : Int) (r1 : Int) (r2 : Int) (r3 : Int) (w0 w : World) (hI : au w0 w g dA gq iA) (hB : Below w0.heap.size w0 w) (h : dK.f dA gq iA a1 a2 = some (r1, r2, r3)) :
    Calls Try.prog 18 #[.pointer (some ⟨g, 0, none⟩), .int .i64 a1, .int .i64 a2] w fun e w' => e = .returned (.int .i64 r1) ∧ au w0 w' g dA r2 r3 ∧ Below w0.heap.size w0 w' ∧ aJ w w' g none := by
  have HI0 := aa.mk hI
  have HK := aa.mk (aJ.refl w g none)
  have HL := aa.mk hB.size
  clear hI
  have HW0 := aa.mk hB.size
  have HB := aa.mk hB
  clear hB
  have H : ((dz.f dA gq iA (wrap64 ((wrap64 (a2 - a1)) + 1))).bind fun KC => (some (wrap64 (a1 + KC.1), KC.2.1, KC.2.2))) = some (r1, r2, r3) := h
  clear h
  replace H := Option.bind_eq_some_iff.mp H
  obtain ⟨⟨t108, t109, t110⟩, A40, H⟩ := H
  replace H : (some (wrap64 (a1 + t108), t109, t110)) = some (r1, r2, r3) := H
  have A4 := aa.mk A40
  clear A40
  simp only [Option.some.injEq, Prod.mk.injEq] at H
  obtain ⟨rfl, rfl, rfl⟩ := H
  go_enter Try.func18, Try.ntmps18
  go_wp2_with (first | ((with_reducible refine aZ (f := 19) rfl ?_); refine cz (some 13) rfl rfl Try.func19 (by kernel_rfl) rfl #[.pointer (some ⟨g, 0, none⟩), .int .i64 (wrap64 ((wrap64 (a2 - a1)) + 1))] rfl (by (try simp only [List.map_toArray, List.map_cons, List.map_nil]); first | done | rfl | (simp only [List.length_drop, List.length_take]; rfl)) ?_; (with_reducible refine (dz.calls g dA gq iA (wrap64 ((wrap64 (a2 - a1)) + 1)) t108 t109 t110 w0 _ ?aX ?aY A4.out).mono ?_); (case aX => repeat (first | (with_reducible first | exact HI0.out | apply au.alloc | apply au.drewN | apply au.drew | apply au.jL | apply au.jM) | exact HI0.out)); (case aY => repeat (first | (with_reducible first | exact HB.out | apply dC | apply bR | apply bV | refine bI ?_ (au.ge HI0.out)) | exact HB.out)); rintro e w5 ⟨rfl, hi, hb, hk⟩; refine ⟨_, rfl, ?_⟩; have n0_ := aa.mk (aJ.trans (by repeat (first | (with_reducible first | exact HK.out | apply aJ.fF | apply bJ | apply bN | apply bK) | exact HK.out)) hk (.inl rfl)); have n1_ := aa.mk (hb); have n2_ := aa.mk (hi); clear HK; clear HB; clear HI0; have HK := n0_; have HB := n1_; have HI0 := n2_; clear n0_ n1_ n2_; (try clear hb); (try clear hb2); (try clear hk); (try clear hi)))
  go_ret
  exact ⟨by first | rfl | (simp [iI, iJ] <;> rfl) | (simp [*, iI, iJ] <;> rfl), by repeat (first | (with_reducible first | exact HI0.out | apply au.alloc | apply au.drewN | apply au.drew | apply au.jL | apply au.jM) | exact HI0.out), by repeat (first | (with_reducible first | exact HB.out | apply dC | apply bR | apply bV | refine bI ?_ (au.ge HI0.out)) | exact HB.out), by repeat (first | (with_reducible first | exact HK.out | apply aJ.fF | apply bJ | apply bN | apply bK) | exact HK.out)⟩

end Go.Proofs.Ytggelekooacmnaa.Z
namespace Go.Proofs.Ytggelekooacmnaa.Z
open Go.RowKit Go.Proofs.YtggelekooacmnaaW.bM Go.Proofs.YtggelekooacmnaaW.dR Go.Proofs.YtggelekooacmnaaW.eO
attribute [local go_sem] iM iN jk jl gW gX iO iP   -- for this text's walks alone
set_option linter.unusedVariables false
set_option linter.unusedSimpArgs false

/-! ### av: function 7 -/
mutual
def av.j0 : Nat → Int → Int → List Int → Int → Int → Option (Int × Int × Int × Int × (List (S27)) × Int × Int)
 | 0, _, _, _, _, _ => none
 | k + 1, x1, x5, x1000, oC, oD => if x5 = 0 then (some (1, 0, 0, 0, ([] : List (S27)), oC, oD)) else (if x5 = 1 then (av.j1 k x1 x5 (x5 == 1) x1000 oC oD) else (av.j1 k x1 x5 (x5 == 2) x1000 oC oD))
def av.j1 : Nat → Int → Int → Bool → List Int → Int → Int → Option (Int × Int × Int × Int × (List (S27)) × Int × Int)
 | 0, _, _, _, _, _, _ => none
 | k + 1, x1, x15, x19, x1000, oC, oD => if x19 = true then ((dK.f x1000 oC oD (-2) 3).bind fun Fw => ((dz.f x1000 Fw.2.1 Fw.2.2 4).bind fun Cr => (some (2, Fw.1, wrap64 (Fw.1 + Cr.1), 0, ([] : List (S27)), Cr.2.1, Cr.2.2)))) else (if x15 = 3 then (av.j2 k x1 (x15 == 3) x1000 oC oD) else (av.j2 k x1 (x15 == 4) x1000 oC oD))
def av.j2 : Nat → Int → Bool → List Int → Int → Int → Option (Int × Int × Int × Int × (List (S27)) × Int × Int)
 | 0, _, _, _, _, _ => none
 | k + 1, x1, x30, x1000, oC, oD => if x30 = true then ((dK.f x1000 oC oD 2 3).bind fun KD => (av.l0 k x1 KD.1 x1000 KD.2.1 KD.2.2 5 0 0 0 ([] : List (S27)))) else ((dK.f x1000 oC oD 1 2).bind fun KE => ((av.f k x1000 KE.2.1 KE.2.2 1).bind fun nQ => (some (6, 0, 0, KE.1, (([(⟨nQ.1, nQ.2.1, nQ.2.2.1, nQ.2.2.2.1, nQ.2.2.2.2.1⟩ : S27)] : List (S27))), nQ.2.2.2.2.2.1, nQ.2.2.2.2.2.2))))
def av.l0 : Nat → Int → Int → List Int → Int → Int → Int → Int → Int → Int → List (S27) → Option (Int × Int × Int × Int × (List (S27)) × Int × Int)
 | 0, _, _, _, _, _, _, _, _, _, _ => none
 | k + 1, x1, x8, x1000, oC, oD, UQ, UR, UT, UU, Q6 => if x8 > 0 then ((av.f k x1000 oC oD (wrap64 (x1 - 1))).bind fun KF => (if Q6.length < 2513169434916 then (av.l0 k x1 (wrap64 (x8 - 1)) x1000 KF.2.2.2.2.2.1 KF.2.2.2.2.2.2 UQ UR UT UU (Q6 ++ [(⟨KF.1, KF.2.1, KF.2.2.1, KF.2.2.2.1, KF.2.2.2.2.1⟩ : S27)])) else (none))) else (some (UQ, UR, UT, UU, Q6, oC, oD))
def av.f : Nat → List Int → Int → Int → Int → Option (Int × Int × Int × Int × (List (S27)) × Int × Int)
 | 0, _, _, _, _ => none
 | k + 1, dA, gq, iA, a1 => (dz.f dA gq iA 6).bind fun Cs => (if a1 ≤ 1 then ((dz.f dA Cs.2.1 Cs.2.2 3).bind fun Ct => (av.j0 k a1 Ct.1 dA Ct.2.1 Ct.2.2)) else (av.j0 k a1 Cs.1 dA Cs.2.1 Cs.2.2))
end
theorem av.iU : ∀ k, (∀ y0 y1 y2 y3, LeO (av.f k y0 y1 y2 y3) (av.f (k + 1) y0 y1 y2 y3)) ∧ (∀ y0 y1 y2 y3 y4, LeO (av.j0 k y0 y1 y2 y3 y4) (av.j0 (k + 1) y0 y1 y2 y3 y4)) ∧ (∀ y0 y1 y2 y3 y4 y5, LeO (av.j1 k y0 y1 y2 y3 y4 y5) (av.j1 (k + 1) y0 y1 y2 y3 y4 y5)) ∧ (∀ y0 y1 y2 y3 y4, LeO (av.j2 k y0 y1 y2 y3 y4) (av.j2 (k + 1) y0 y1 y2 y3 y4)) ∧ (∀ y0 y1 y2 y3 y4 y5 y6 y7 y8 y9, LeO (av.l0 k y0 y1 y2 y3 y4 y5 y6 y7 y8 y9) (av.l0 (k + 1) y0 y1 y2 y3 y4 y5 y6 y7 y8 y9))
 | 0 => ⟨fun _ _ _ _ r h => by simp [av.f] at h, fun _ _ _ _ _ r h => by simp [av.j0] at h, fun _ _ _ _ _ _ r h => by simp [av.j1] at h, fun _ _ _ _ _ r h => by simp [av.j2] at h, fun _ _ _ _ _ _ _ _ _ _ r h => by simp [av.l0] at h⟩
 | k + 1 => by
  obtain ⟨ih0, ih1, ih2, ih3, ih4⟩ := av.iU k; refine ⟨?_, ?_, ?_, ?_, ?_⟩
  ·intro y0 y1 y2 y3; unfold av.f; repeat' first
   | (with_reducible exact ih0 _ _ _ _)
   | (with_reducible exact ih1 _ _ _ _ _)
   | (with_reducible exact ih2 _ _ _ _ _ _)
   | (with_reducible exact ih3 _ _ _ _ _)
   | (with_reducible exact ih4 _ _ _ _ _ _ _ _ _ _)
   | (with_reducible exact LeO.refl _)
   | (with_reducible exact LeO.none _)
   | (with_reducible refine LeO.ite ?_ ?_)
   | (with_reducible refine LeO.bind ?_ (fun _ => ?_))
   | exact ih0 _ _ _ _
   | exact ih1 _ _ _ _ _
   | exact ih2 _ _ _ _ _ _
   | exact ih3 _ _ _ _ _
   | exact ih4 _ _ _ _ _ _ _ _ _ _
   | exact LeO.none _
   | refine LeO.ite ?_ ?_
   | refine LeO.bind ?_ (fun _ => ?_)
  ·intro y0 y1 y2 y3 y4; unfold av.j0; repeat' first
   | (with_reducible exact ih0 _ _ _ _)
   | (with_reducible exact ih1 _ _ _ _ _)
   | (with_reducible exact ih2 _ _ _ _ _ _)
   | (with_reducible exact ih3 _ _ _ _ _)
   | (with_reducible exact ih4 _ _ _ _ _ _ _ _ _ _)
   | (with_reducible exact LeO.refl _)
   | (with_reducible exact LeO.none _)
   | (with_reducible refine LeO.ite ?_ ?_)
   | (with_reducible refine LeO.bind ?_ (fun _ => ?_))
   | exact ih0 _ _ _ _
   | exact ih1 _ _ _ _ _
   | exact ih2 _ _ _ _ _ _
   | exact ih3 _ _ _ _ _
   | exact ih4 _ _ _ _ _ _ _ _ _ _
   | exact LeO.none _
   | refine LeO.ite ?_ ?_
   | refine LeO.bind ?_ (fun _ => ?_)
  ·intro y0 y1 y2 y3 y4 y5; unfold av.j1; repeat' first
   | (with_reducible exact ih0 _ _ _ _)
   | (with_reducible exact ih1 _ _ _ _ _)
   | (with_reducible exact ih2 _ _ _ _ _ _)
   | (with_reducible exact ih3 _ _ _ _ _)
   | (with_reducible exact ih4 _ _ _ _ _ _ _ _ _ _)
   | (with_reducible exact LeO.refl _)
   | (with_reducible exact LeO.none _)
   | (with_reducible refine LeO.ite ?_ ?_)
   | (with_reducible refine LeO.bind ?_ (fun _ => ?_))
   | exact ih0 _ _ _ _
   | exact ih1 _ _ _ _ _
   | exact ih2 _ _ _ _ _ _
   | exact ih3 _ _ _ _ _
   | exact ih4 _ _ _ _ _ _ _ _ _ _
   | exact LeO.none _
   | refine LeO.ite ?_ ?_
   | refine LeO.bind ?_ (fun _ => ?_)
  ·intro y0 y1 y2 y3 y4; unfold av.j2; repeat' first
   | (with_reducible exact ih0 _ _ _ _)
   | (with_reducible exact ih1 _ _ _ _ _)
   | (with_reducible exact ih2 _ _ _ _ _ _)
   | (with_reducible exact ih3 _ _ _ _ _)
   | (with_reducible exact ih4 _ _ _ _ _ _ _ _ _ _)
   | (with_reducible exact LeO.refl _)
   | (with_reducible exact LeO.none _)
   | (with_reducible refine LeO.ite ?_ ?_)
   | (with_reducible refine LeO.bind ?_ (fun _ => ?_))
   | exact ih0 _ _ _ _
   | exact ih1 _ _ _ _ _
   | exact ih2 _ _ _ _ _ _
   | exact ih3 _ _ _ _ _
   | exact ih4 _ _ _ _ _ _ _ _ _ _
   | exact LeO.none _
   | refine LeO.ite ?_ ?_
   | refine LeO.bind ?_ (fun _ => ?_)
  ·intro y0 y1 y2 y3 y4 y5 y6 y7 y8 y9; unfold av.l0; repeat' first
   | (with_reducible exact ih0 _ _ _ _)
   | (with_reducible exact ih1 _ _ _ _ _)
   | (with_reducible exact ih2 _ _ _ _ _ _)
   | (with_reducible exact ih3 _ _ _ _ _)
   | (with_reducible exact ih4 _ _ _ _ _ _ _ _ _ _)
   | (with_reducible exact LeO.refl _)
   | (with_reducible exact LeO.none _)
   | (with_reducible refine LeO.ite ?_ ?_)
   | (with_reducible refine LeO.bind ?_ (fun _ => ?_))
   | exact ih0 _ _ _ _
   | exact ih1 _ _ _ _ _
   | exact ih2 _ _ _ _ _ _
   | exact ih3 _ _ _ _ _
   | exact ih4 _ _ _ _ _ _ _ _ _ _
   | exact LeO.none _
   | refine LeO.ite ?_ ?_
   | refine LeO.bind ?_ (fun _ => ?_)
theorem av.mono : ∀ a0 a1 a2 a3 k, LeO (av.f k a0 a1 a2 a3) (av.f (k + 1) a0 a1 a2 a3) := by
 intro a0 a1 a2 a3 k; obtain ⟨ih0, ih1, ih2, ih3, ih4⟩ := av.iU k; exact ih0 a0 a1 a2 a3
def av.T17 : Bool × List (List Nat × List Nat) := (true, [([], []), ([0], [0]), ([], []), ([], []), ([3], [3]), ([2, 4], [2, 4]), ([5], [5]), ([1, 6, 5], [1, 6]), ([0, 1, 2, 3, 4, 5, 6, 7], []), ([8, 7, 7, 0, 1, 2, 3, 4, 5, 6, 7], [7, 8])])
def av.B17 : List Nat := [0, 1, 0, 0, 8, 28, 60, 127, 255, 511]
theorem av.tab17 : mf .any (opsOf Try.f7 17) = av.T17 := by kernel_rfl
theorem av.bits17 : nW av.T17.2 av.B17 = true := by kernel_rfl
set_option maxHeartbeats 8000000 in
set_option maxRecDepth 100000 in
theorem av.calls (k : Nat) : ∀ (g : Nat) (dA : List Int) (gq : Int) (iA : Int) (a1 : Int) (r1 : Int) (r2 : Int) (r3 : Int) (r4 : Int) (r5 : List (S27)) (r6 : Int) (r7 : Int) (w0 w : World) (hI : au w0 w g dA gq iA) (hB : Below w0.heap.size w0 w) (h : av.f k dA gq iA a1 = some (r1, r2, r3, r4, r5, r6, r7)),
  Calls Try.prog 7 #[.pointer (some ⟨g, 0, none⟩), .int .i64 a1] w fun e w' => ∃ v4_ : Value, e = .returned (.agg #[.int .i64 r1, .int .i64 r2, .int .i64 r3, .int .i64 r4, v4_]) ∧ Kd.N k27 27 w' w.heap.size (fun k_ => (w.heap.size ≤ k_)) v4_ r5 ∧ au w0 w' g dA r6 r7 ∧ Below w0.heap.size w0 w' ∧ aJ w w' g none := by
 induction k using Nat.strongRecOn with
 | _ k ih =>
 intro g dA gq iA a1 r1 r2 r3 r4 r5 r6 r7 w0 w hI hB h; cases k with
 | zero => exact absurd h (by simp [av.f])
 | succ k =>
 simp only [av.f] at h; have rY := Try.underlying27; have HI0 := aa.mk hI; have HK := aa.mk (aJ.refl w g none); have HL := aa.mk hB.size; clear hI; have HW0 := aa.mk hB.size; have HB := aa.mk hB; clear hB; have H : ((dz.f dA gq iA 6).bind fun Cs => (if a1 ≤ 1 then ((dz.f dA Cs.2.1 Cs.2.2 3).bind fun Ct => (av.j0 k a1 Ct.1 dA Ct.2.1 Ct.2.2)) else (av.j0 k a1 Cs.1 dA Cs.2.1 Cs.2.2))) = some (r1, r2, r3, r4, r5, r6, r7) := h; clear h; replace H := Option.bind_eq_some_iff.mp H; obtain ⟨⟨t112, t113, t114⟩, A30, H⟩ := H; replace H : (if a1 ≤ 1 then ((dz.f dA t113 t114 3).bind fun Ct => (av.j0 k a1 Ct.1 dA Ct.2.1 Ct.2.2)) else (av.j0 k a1 t112 dA t113 t114)) = some (r1, r2, r3, r4, r5, r6, r7) := H; have A3 := aa.mk A30; clear A30; have HC4 := aa.mk H; clear H; go_enter Try.func7, Try.ntmps7; go_upto_if 12 with (first | ((with_reducible refine bu (N := 4) rfl ?_); refine bz ?hg (N := 4) ?hd (cs := #[.int .i64 0, .int .i64 0, .int .i64 0, .int .i64 0, .slice none 0 0]) (t := 27) ?hr ?_; (case hd => rfl); (case hg => rfl); (case hr => first | (go_simp; done) | (go_simp; rfl)); intro iQ hg w5 aU hb; have kX := aa.mk (aU); have kN := aa.mk ((by rw [hg]; exact (jh (w := w) (g := g) (row := none) (by repeat (first | (with_reducible first | exact HK.out | apply aJ.fF | apply bJ | apply bN | apply bK) | exact HK.out))) : w.heap.size ≤ iQ)); have IB := aa.mk ((Nat.le_trans HW0.out (by rw [hg]; exact (jh (w := w) (g := g) (row := none) (by repeat (first | (with_reducible first | exact HK.out | apply aJ.fF | apply bJ | apply bN | apply bK) | exact HK.out))) : w.heap.size ≤ iQ) : w0.heap.size ≤ iQ)); have sJ := aa.mk ((by rw [hg]; exact Nat.ne_of_lt (au.lt (show au w0 _ g dA gq iA from si_)) : g ≠ iQ)); have sK := aa.mk ((by rw [hg]; exact Nat.ne_of_gt (au.lt (show au w0 _ g dA gq iA from si_)) : iQ ≠ g)); replace HI0 := aa.mk (au.below si_ hb); replace HK := aa.mk (aJ.trans (by repeat (first | (with_reducible first | exact HK.out | apply aJ.fF | apply bJ | apply bN | apply bK) | exact HK.out)) (aJ.of_below hb g none) (.inl rfl)); replace HB := aa.mk (ay bl_ hb); clear hb aU hg) | ((with_reducible refine aZ (f := 19) rfl ?_); refine cz (some 10) rfl rfl Try.func19 (by kernel_rfl) rfl #[.pointer (some ⟨g, 0, none⟩), .int .i64 6] rfl mp_ ?_; (with_reducible refine (dz.calls g dA gq iA 6 t112 t113 t114 w0 _ ?aX ?aY A3.out).mono ?_); (case aX => repeat (first | (with_reducible first | exact HI0.out | apply au.alloc | apply au.drewN | apply au.drew | apply au.jL | apply au.jM | refine au.far ?_ sJ.out _) | exact HI0.out)); (case aY => repeat (first | (with_reducible first | exact HB.out | apply dC | apply bR | apply bV | refine bI ?_ (au.ge HI0.out) | refine bI ?_ IB.out) | exact HB.out)); rintro e w6 ⟨rfl, hi, hb, hk⟩; refine ⟨_, rfl, ?_⟩; replace kX := aa.mk (aJ.blk hk (g' := iQ) (o := .cells #[.int .i64 0, .int .i64 0, .int .i64 0, .int .i64 0, .slice none 0 0] 27 (0, 0)) bk_ sK.out (by simp)); replace HK := aa.mk (aJ.trans (by repeat (first | (with_reducible first | exact HK.out | apply aJ.fF | apply bJ | apply bN | apply bK | refine bn ?_ kN.out _) | exact HK.out)) hk (.inl rfl)); replace HB := aa.mk (hb); replace HI0 := aa.mk (hi); (try clear hb); (try clear hb2); (try clear hk); (try clear hi)))
 (try simp only [Act.put, List.setIfInBounds_toArray, List.set_cons_zero, List.set_cons_succ])
 go_cut [5] (fun v5 wc => ∃ (kq : Nat) (p8 : Int) (nH : Int) (nI : Int), v5 = .int .i64 p8 ∧ aa (av.j0 kq a1 p8 dA nH nI = some (r1, r2, r3, r4, r5, r6, r7)) ∧ aa (kq ≤ k) ∧ aa (wc.heap[iQ]? = some (.cells #[.int .i64 0, .int .i64 0, .int .i64 0, .int .i64 0, (.slice none 0 0)] 27 (0, 0))) ∧ aa (au w0 wc g dA nH nI) ∧ aa (aJ w wc g none) ∧ aa (Below w0.heap.size w0 wc))
 case first =>
  have H := HC4.out; clear HC4; by_cases c7 : a1 ≤ 1
  ·rw [if_pos c7] at H; have uL : decide (a1 ≤ 1) = true := decide_eq_true c7; clear c7; (first | rw [uL] | (simp only [eQ, fe]; rw [uL]) | skip)
   replace H := Option.bind_eq_some_iff.mp H; obtain ⟨⟨t115, t116, t117⟩, A80, H⟩ := H; replace H : (av.j0 k a1 t115 dA t116 t117) = some (r1, r2, r3, r4, r5, r6, r7) := H; have A8 := aa.mk A80; clear A80; have H' := aa.mk H; clear H; go_wp2_with (first | ((with_reducible refine aZ (f := 19) rfl ?_); refine cz (some 14) rfl rfl Try.func19 (by kernel_rfl) rfl #[.pointer (some ⟨g, 0, none⟩), .int .i64 3] rfl mp_ ?_; (with_reducible refine (dz.calls g dA t113 t114 3 t115 t116 t117 w0 _ ?aX ?aY A8.out).mono ?_); (case aX => repeat (first | (with_reducible first | exact HI0.out | apply au.alloc | apply au.drewN | apply au.drew | apply au.jL | apply au.jM | refine au.far ?_ sJ.out _) | exact HI0.out)); (case aY => repeat (first | (with_reducible first | exact HB.out | apply dC | apply bR | apply bV | refine bI ?_ (au.ge HI0.out) | refine bI ?_ IB.out) | exact HB.out)); rintro e w9 ⟨rfl, hi, hb, hk⟩; refine ⟨_, rfl, ?_⟩; replace kX := aa.mk (aJ.blk hk (g' := iQ) (o := .cells #[.int .i64 0, .int .i64 0, .int .i64 0, .int .i64 0, .slice none 0 0] 27 (0, 0)) bk_ sK.out (by simp)); replace HK := aa.mk (aJ.trans (by repeat (first | (with_reducible first | exact HK.out | apply aJ.fF | apply bJ | apply bN | apply bK | refine bn ?_ kN.out _) | exact HK.out)) hk (.inl rfl)); replace HB := aa.mk (hb); replace HI0 := aa.mk (hi); (try clear hb); (try clear hb2); (try clear hk); (try clear hi)))
   go_meet
   case rel => exact ⟨_, (t115), (t116), (t117), rs_, H', ⟨by first | omega | exact Nat.le_refl _⟩, ⟨bk_⟩, ⟨si_⟩, ⟨by repeat (first | (with_reducible first | exact HK.out | apply aJ.fF | apply bJ | apply bN | apply bK | refine bn ?_ kN.out _) | exact HK.out)⟩, ⟨bl_⟩⟩
  ·rw [if_neg c7] at H; have uL : decide (a1 ≤ 1) = false := decide_eq_false c7; clear c7; (first | rw [uL] | (simp only [eQ, fe]; rw [uL]) | skip)
   have H' := aa.mk H; clear H; go_wp2; go_meet
   case rel => exact ⟨_, (t112), (t113), (t114), rs_, H', ⟨by first | omega | exact Nat.le_refl _⟩, ⟨bk_⟩, ⟨si_⟩, ⟨by repeat (first | (with_reducible first | exact HK.out | apply aJ.fF | apply bJ | apply bN | apply bK | refine bn ?_ kN.out _) | exact HK.out)⟩, ⟨bl_⟩⟩
 case rest =>
  clear HC4; (try clear c1); (try clear p2); (try clear c7); (try clear uL); obtain ⟨kq, p8, nH, nI, rfl, HA, HJ3, kX, HI0, HK, HB⟩ := hcut; cases kq with
  | zero => exact absurd HA.out (by simp [av.j0])
  | succ kj3 =>
   have H := HA.out; clear HA; simp only [av.j0] at H; by_cases c10 : p8 = 0
   ·rw [if_pos c10] at H; have r9 : (p8 == 0) = true := beq_iff_eq.mpr c10; have Md : (p8 != 0) = false := bne_eq_false_iff_eq.mpr c10; clear c10; simp only [Option.some.injEq, Prod.mk.injEq] at H; obtain ⟨rfl, rfl, rfl, rfl, rfl, rfl, rfl⟩ := H; have hnb11 := sK.out; have hnc11 := sJ.out; obtain ⟨nY, nZ, uM, uN, uO, og, oh, uP, uQ, uR⟩ := bQ kX.out; go_wp2; refine bodyPost_ret (results_cell_row rfl _ _ iQ 27 #[.int .i64 1, .int .i64 0, .int .i64 0, .int .i64 0, .slice none 0 0] (0, 0) _ rfl (by (with_reducible repeat (first | refine ah ?_ _ | refine ai ?_ | refine af ?_ _)); refine aW (cs := #[.int .i64 1, .int .i64 0, .int .i64 0, .int .i64 0, .slice none 0 0]) ?_ 4 _ rfl; (with_reducible repeat (first | refine ah ?_ _ | refine ai ?_ | refine af ?_ _)); refine aW (cs := #[.int .i64 1, .int .i64 0, .int .i64 0, .int .i64 0, .slice none 0 0]) ?_ 3 _ rfl; (with_reducible repeat (first | refine ah ?_ _ | refine ai ?_ | refine af ?_ _)); refine aW (cs := #[.int .i64 1, .int .i64 0, .int .i64 0, .int .i64 0, .slice none 0 0]) ?_ 2 _ rfl; (with_reducible repeat (first | refine ah ?_ _ | refine ai ?_ | refine af ?_ _)); refine aW (cs := #[.int .i64 1, .int .i64 0, .int .i64 0, .int .i64 0, .slice none 0 0]) ?_ 1 _ rfl; (with_reducible repeat (first | refine ah ?_ _ | refine ai ?_ | refine af ?_ _)); refine aW (cs := #[.int .i64 0, .int .i64 0, .int .i64 0, .int .i64 0, .slice none 0 0]) ?_ 0 _ rfl; (with_reducible repeat (first | refine ah ?_ _ | refine ai ?_ | refine af ?_ _)); exact kX.out) Try.underlying27 rfl (by kernel_rfl)) rfl ?_
    exact ⟨_, re_, by first | exact Kd.jv _ _ _ _ _ | exact Kd.kV _ _ _ _ _ | exact Kd.jZ _ _ _ _ _ | exact Kd.kT _ _ _ _ _ | exact Kd.kU _ _ _ _ _, si_, bl_, by repeat (first | (with_reducible first | exact HK.out | apply aJ.fF | apply bJ | apply bN | apply bK | refine bn ?_ kN.out _) | exact HK.out)⟩
   ·rw [if_neg c10] at H; have r9 : (p8 == 0) = false := beq_eq_false_iff_ne.mpr c10; have Md : (p8 != 0) = true := bne_iff_ne.mpr c10; have HC13 := aa.mk H; clear H; go_upto_if 19 with (fail)
    go_cut [19] (fun v19 wc => ∃ (kq : Nat) (Ph : Bool), v19 = .bool Ph ∧ aa (av.j1 kq a1 p8 Ph dA nH nI = some (r1, r2, r3, r4, r5, r6, r7)) ∧ aa (kq ≤ kj3) ∧ aa (wc.heap[iQ]? = some (.cells #[.int .i64 0, .int .i64 0, .int .i64 0, .int .i64 0, (.slice none 0 0)] 27 (0, 0))) ∧ aa (au w0 wc g dA nH nI) ∧ aa (aJ w wc g none) ∧ aa (Below w0.heap.size w0 wc))
    case first =>
     have H := HC13.out; clear HC13; by_cases c14 : p8 = 1
     ·rw [if_pos c14] at H; have xJ : (p8 == 1) = true := beq_iff_eq.mpr c14; have Ej : (p8 != 1) = false := bne_eq_false_iff_eq.mpr c14; clear c14; (first | rw [xJ] | (simp only [eQ, fe]; rw [xJ]) | skip)
      have H' := aa.mk H; clear H; go_wp2; go_meet
      case rel => exact ⟨_, ((p8 == 1)), rs_, H', ⟨by have := HJ3.out; first | omega | exact Nat.le_refl _⟩, ⟨bk_⟩, ⟨si_⟩, ⟨by repeat (first | (with_reducible first | exact HK.out | apply aJ.fF | apply bJ | apply bN | apply bK | refine bn ?_ kN.out _) | exact HK.out)⟩, ⟨bl_⟩⟩
     ·rw [if_neg c14] at H; have xJ : (p8 == 1) = false := beq_eq_false_iff_ne.mpr c14; have Ej : (p8 != 1) = true := bne_iff_ne.mpr c14; (first | rw [xJ] | (simp only [eQ, fe]; rw [xJ]) | skip)
      have H' := aa.mk H; clear H; go_wp2; go_meet
      case rel => exact ⟨_, ((p8 == 2)), rs_, H', ⟨by have := HJ3.out; first | omega | exact Nat.le_refl _⟩, ⟨bk_⟩, ⟨si_⟩, ⟨by repeat (first | (with_reducible first | exact HK.out | apply aJ.fF | apply bJ | apply bN | apply bK | refine bn ?_ kN.out _) | exact HK.out)⟩, ⟨bl_⟩⟩
    case rest =>
     clear HC13; (try clear c1); (try clear p2); (try clear c7); (try clear uL); (try clear c10); (try clear r9); (try clear Md); (try clear c11); (try clear c14); (try clear xJ); (try clear Ej); (try clear nY nZ uM uN uO og oh uP uQ uR); (try clear p2); obtain ⟨kq, Ph, rfl, HA, HJ12, kX, HI0, HK, HB⟩ := hcut; cases kq with
     | zero => exact absurd HA.out (by simp [av.j1])
     | succ kj12 =>
      have H := HA.out; clear HA; simp only [av.j1] at H; by_cases c15 : Ph = true
      ·subst c15; have H1 : ((dK.f dA nH nI (-2) 3).bind fun Fw => ((dz.f dA Fw.2.1 Fw.2.2 4).bind fun Cr => (some (2, Fw.1, wrap64 (Fw.1 + Cr.1), 0, ([] : List (S27)), Cr.2.1, Cr.2.2)))) = some (r1, r2, r3, r4, r5, r6, r7) := by rw [if_pos rfl] at H; exact H
       clear H; have H := H1; clear H1; replace H := Option.bind_eq_some_iff.mp H; obtain ⟨⟨E8, t119, t120⟩, A160, H⟩ := H; replace H : ((dz.f dA t119 t120 4).bind fun Cr => (some (2, E8, wrap64 (E8 + Cr.1), 0, ([] : List (S27)), Cr.2.1, Cr.2.2))) = some (r1, r2, r3, r4, r5, r6, r7) := H; have A16 := aa.mk A160; clear A160; replace H := Option.bind_eq_some_iff.mp H; obtain ⟨⟨t121, t122, t123⟩, A170, H⟩ := H; replace H : (some (2, E8, wrap64 (E8 + t121), 0, ([] : List (S27)), t122, t123)) = some (r1, r2, r3, r4, r5, r6, r7) := H; have A17 := aa.mk A170; clear A170; simp only [Option.some.injEq, Prod.mk.injEq] at H; obtain ⟨rfl, rfl, rfl, rfl, rfl, rfl, rfl⟩ := H; go_wp2_with (first | ((with_reducible refine aZ (f := 18) rfl ?_); refine cz (some 23) rfl rfl Try.func18 (by kernel_rfl) rfl #[.pointer (some ⟨g, 0, none⟩), .int .i64 (-2), .int .i64 3] rfl mp_ ?_; (with_reducible refine (dK.calls g dA nH nI (-2) 3 E8 t119 t120 w0 _ ?aX ?aY A16.out).mono ?_); (case aX => repeat (first | (with_reducible first | exact HI0.out | apply au.alloc | apply au.drewN | apply au.drew | apply au.jL | apply au.jM | refine au.far ?_ sJ.out _) | exact HI0.out)); (case aY => repeat (first | (with_reducible first | exact HB.out | apply dC | apply bR | apply bV | refine bI ?_ (au.ge HI0.out) | refine bI ?_ IB.out) | exact HB.out)); rintro e w18 ⟨rfl, hi, hb, hk⟩; refine ⟨_, rfl, ?_⟩; replace kX := aa.mk (aJ.blk hk (g' := iQ) (o := .cells #[.int .i64 0, .int .i64 0, .int .i64 0, .int .i64 0, .slice none 0 0] 27 (0, 0)) bk_ sK.out (by simp)); replace HK := aa.mk (aJ.trans (by repeat (first | (with_reducible first | exact HK.out | apply aJ.fF | apply bJ | apply bN | apply bK | refine bn ?_ kN.out _) | exact HK.out)) hk (.inl rfl)); replace HB := aa.mk (hb); replace HI0 := aa.mk (hi); (try clear hb); (try clear hb2); (try clear hk); (try clear hi)) | ((with_reducible refine aZ (f := 19) rfl ?_); refine cz (some 27) rfl rfl Try.func19 (by kernel_rfl) rfl #[.pointer (some ⟨g, 0, none⟩), .int .i64 4] rfl mp_ ?_; (with_reducible refine (dz.calls g dA t119 t120 4 t121 t122 t123 w0 _ ?aX ?aY A17.out).mono ?_); (case aX => repeat (first | (with_reducible first | exact HI0.out | apply au.alloc | apply au.drewN | apply au.drew | apply au.jL | apply au.jM | refine au.far ?_ sJ.out _) | exact HI0.out)); (case aY => repeat (first | (with_reducible first | exact HB.out | apply dC | apply bR | apply bV | refine bI ?_ (au.ge HI0.out) | refine bI ?_ IB.out) | exact HB.out)); rintro e w19 ⟨rfl, hi, hb, hk⟩; refine ⟨_, rfl, ?_⟩; replace kX := aa.mk (aJ.blk hk (g' := iQ) (o := .cells #[.int .i64 0, .int .i64 0, .int .i64 0, .int .i64 0, .slice none 0 0] 27 (0, 0)) bk_ sK.out (by simp)); replace HK := aa.mk (aJ.trans (by repeat (first | (with_reducible first | exact HK.out | apply aJ.fF | apply bJ | apply bN | apply bK | refine bn ?_ kN.out _) | exact HK.out)) hk (.inl rfl)); replace HB := aa.mk (hb); replace HI0 := aa.mk (hi); (try clear hb); (try clear hb2); (try clear hk); (try clear hi); have hnb20 := sK.out; have hnc20 := sJ.out; obtain ⟨sM, sN, sO, sP, sQ, sS, sU, sV, sW, sZ⟩ := bQ kX.out))
       refine bodyPost_ret (results_cell_row rfl _ _ iQ 27 #[.int .i64 2, .int .i64 E8, .int .i64 (wrap64 (E8 + t121)), .int .i64 0, .slice none 0 0] (0, 0) _ rfl (by (with_reducible repeat (first | refine ah ?_ _ | refine ai ?_ | refine af ?_ _)); refine aW (cs := #[.int .i64 2, .int .i64 E8, .int .i64 (wrap64 (E8 + t121)), .int .i64 0, .slice none 0 0]) ?_ 4 _ rfl; (with_reducible repeat (first | refine ah ?_ _ | refine ai ?_ | refine af ?_ _)); refine aW (cs := #[.int .i64 2, .int .i64 E8, .int .i64 (wrap64 (E8 + t121)), .int .i64 0, .slice none 0 0]) ?_ 3 _ rfl; (with_reducible repeat (first | refine ah ?_ _ | refine ai ?_ | refine af ?_ _)); refine aW (cs := #[.int .i64 2, .int .i64 E8, .int .i64 0, .int .i64 0, .slice none 0 0]) ?_ 2 _ rfl; (with_reducible repeat (first | refine ah ?_ _ | refine ai ?_ | refine af ?_ _)); refine aW (cs := #[.int .i64 2, .int .i64 0, .int .i64 0, .int .i64 0, .slice none 0 0]) ?_ 1 _ rfl; (with_reducible repeat (first | refine ah ?_ _ | refine ai ?_ | refine af ?_ _)); refine aW (cs := #[.int .i64 0, .int .i64 0, .int .i64 0, .int .i64 0, .slice none 0 0]) ?_ 0 _ rfl; (with_reducible repeat (first | refine ah ?_ _ | refine ai ?_ | refine af ?_ _)); exact kX.out) Try.underlying27 rfl (by kernel_rfl)) rfl ?_
       exact ⟨_, re_, by first | exact Kd.jv _ _ _ _ _ | exact Kd.kV _ _ _ _ _ | exact Kd.jZ _ _ _ _ _ | exact Kd.kT _ _ _ _ _ | exact Kd.kU _ _ _ _ _, si_, bl_, by repeat (first | (with_reducible first | exact HK.out | apply aJ.fF | apply bJ | apply bN | apply bK | refine bn ?_ kN.out _) | exact HK.out)⟩
      ·replace c15 := Bool.eq_false_iff.mpr c15; subst c15; have H1 : (if p8 = 3 then (av.j2 kj12 a1 (p8 == 3) dA nH nI) else (av.j2 kj12 a1 (p8 == 4) dA nH nI)) = some (r1, r2, r3, r4, r5, r6, r7) := by rw [if_neg (show ¬ (false = true) by decide)] at H; exact H
       clear H; have H := H1; clear H1; have HC22 := aa.mk H; clear H; go_upto_if 30 with (fail)
       go_cut [30] (fun v30 wc => ∃ (kq : Nat) (Pj : Bool), v30 = .bool Pj ∧ aa (av.j2 kq a1 Pj dA nH nI = some (r1, r2, r3, r4, r5, r6, r7)) ∧ aa (kq ≤ kj12) ∧ aa (wc.heap[iQ]? = some (.cells #[.int .i64 0, .int .i64 0, .int .i64 0, .int .i64 0, (.slice none 0 0)] 27 (0, 0))) ∧ aa (au w0 wc g dA nH nI) ∧ aa (aJ w wc g none) ∧ aa (Below w0.heap.size w0 wc))
       case first =>
        have H := HC22.out; clear HC22; by_cases c23 : p8 = 3
        ·rw [if_pos c23] at H; have uH : (p8 == 3) = true := beq_iff_eq.mpr c23; have Cu : (p8 != 3) = false := bne_eq_false_iff_eq.mpr c23; clear c23; (first | rw [uH] | (simp only [eQ, fe]; rw [uH]) | skip)
         have H' := aa.mk H; clear H; go_wp2; go_meet
         case rel => exact ⟨_, ((p8 == 3)), rs_, H', ⟨by have := HJ3.out; have := HJ12.out; first | omega | exact Nat.le_refl _⟩, ⟨bk_⟩, ⟨si_⟩, ⟨by repeat (first | (with_reducible first | exact HK.out | apply aJ.fF | apply bJ | apply bN | apply bK | refine bn ?_ kN.out _) | exact HK.out)⟩, ⟨bl_⟩⟩
        ·rw [if_neg c23] at H; have uH : (p8 == 3) = false := beq_eq_false_iff_ne.mpr c23; have Cu : (p8 != 3) = true := bne_iff_ne.mpr c23; (first | rw [uH] | (simp only [eQ, fe]; rw [uH]) | skip)
         have H' := aa.mk H; clear H; go_wp2; go_meet
         case rel => exact ⟨_, ((p8 == 4)), rs_, H', ⟨by have := HJ3.out; have := HJ12.out; first | omega | exact Nat.le_refl _⟩, ⟨bk_⟩, ⟨si_⟩, ⟨by repeat (first | (with_reducible first | exact HK.out | apply aJ.fF | apply bJ | apply bN | apply bK | refine bn ?_ kN.out _) | exact HK.out)⟩, ⟨bl_⟩⟩
       case rest =>
        clear HC22; (try clear c1); (try clear c2); (try clear p2); (try clear p6); (try clear c7); (try clear uL); (try clear c10); (try clear r9); (try clear Md); (try clear c11); (try clear c14); (try clear xJ); (try clear Ej); (try clear c15); (try clear c18); (try clear c19); (try clear c20); (try clear c23); (try clear uH); (try clear Cu); (try clear nY nZ uM uN uO og oh uP uQ uR); (try clear sM sN sO sP sQ sS sU sV sW sZ); (try clear p2); obtain ⟨kq, Pj, rfl, HA, HJ21, kX, HI0, HK, HB⟩ := hcut; cases kq with
        | zero => exact absurd HA.out (by simp [av.j2])
        | succ kj21 =>
         have H := HA.out; clear HA; simp only [av.j2] at H; by_cases c24 : Pj = true
         ·subst c24; have H1 : ((dK.f dA nH nI 2 3).bind fun KD => (av.l0 kj21 a1 KD.1 dA KD.2.1 KD.2.2 5 0 0 0 ([] : List (S27)))) = some (r1, r2, r3, r4, r5, r6, r7) := by rw [if_pos rfl] at H; exact H
          clear H; have H := H1; clear H1; replace H := Option.bind_eq_some_iff.mp H; obtain ⟨⟨t125, t126, t127⟩, A250, H⟩ := H; replace H : (av.l0 kj21 a1 t125 dA t126 t127 5 0 0 0 ([] : List (S27))) = some (r1, r2, r3, r4, r5, r6, r7) := H; have A25 := aa.mk A250; clear A250; have H' := aa.mk H; clear H; go_wp2_with (first | ((with_reducible refine bu (N := 7) rfl ?_); refine bz ?hg (N := 7) ?hd (cs := #[.int .i64 0, .int .i64 0, .int .i64 0, .int .i64 0, .slice none 0 0]) (t := 27) ?hr ?_; (case hd => rfl); (case hg => rfl); (case hr => first | (go_simp; done) | (go_simp; rfl)); intro mP hg w26 aU hb; have kP := aa.mk (aU); have El := aa.mk ((by rw [hg]; exact (jh (w := w) (g := g) (row := none) (by repeat (first | (with_reducible first | exact HK.out | apply aJ.fF | apply bJ | apply bN | apply bK | refine bn ?_ kN.out _) | exact HK.out))) : w.heap.size ≤ mP)); have GE124 := aa.mk ((Nat.le_trans HW0.out (by rw [hg]; exact (jh (w := w) (g := g) (row := none) (by repeat (first | (with_reducible first | exact HK.out | apply aJ.fF | apply bJ | apply bN | apply bK | refine bn ?_ kN.out _) | exact HK.out))) : w.heap.size ≤ mP) : w0.heap.size ≤ mP)); have uo := nl_ kX hg; have Li := ng_ kX hg; have Me := aa.mk ((by rw [hg]; exact Nat.ne_of_lt (au.lt (show au w0 _ g dA nH nI from si_)) : g ≠ mP)); have Mf := aa.mk ((by rw [hg]; exact Nat.ne_of_gt (au.lt (show au w0 _ g dA nH nI from si_)) : mP ≠ g)); replace kX := kb_ kX hb; replace HI0 := aa.mk (au.below si_ hb); replace HK := aa.mk (aJ.trans (by repeat (first | (with_reducible first | exact HK.out | apply aJ.fF | apply bJ | apply bN | apply bK | refine bn ?_ kN.out _) | exact HK.out)) (aJ.of_below hb g none) (.inl rfl)); replace HB := aa.mk (ay bl_ hb); clear hb aU hg; have Pk := Li.out; have Pm := uo.out; have hnb28 := Mf.out; have hnc28 := Me.out; obtain ⟨qx, qy, wF, wG, wH, qz, qA, wI, wJ, wK⟩ := bQ kP.out) | ((with_reducible refine aZ (f := 18) rfl ?_); refine cz (some 35) rfl rfl Try.func18 (by kernel_rfl) rfl #[.pointer (some ⟨g, 0, none⟩), .int .i64 2, .int .i64 3] rfl mp_ ?_; (with_reducible refine (dK.calls g dA nH nI 2 3 t125 t126 t127 w0 _ ?aX ?aY A25.out).mono ?_); (case aX => repeat (first | (with_reducible first | exact HI0.out | apply au.alloc | apply au.drewN | apply au.drew | apply au.jL | apply au.jM | refine au.far ?_ sJ.out _ | refine au.far ?_ Me.out _) | exact HI0.out)); (case aY => repeat (first | (with_reducible first | exact HB.out | apply dC | apply bR | apply bV | refine bI ?_ (au.ge HI0.out) | refine bI ?_ IB.out | refine bI ?_ GE124.out) | exact HB.out)); rintro e w30 ⟨rfl, hi, hb, hk⟩; refine ⟨_, rfl, ?_⟩; replace kX := aa.mk (aJ.blk hk (g' := iQ) (o := .cells #[.int .i64 0, .int .i64 0, .int .i64 0, .int .i64 0, .slice none 0 0] 27 (0, 0)) (by (with_reducible repeat (first | refine ah ?_ _ | refine ai ?_ | refine af ?_ _)); refine aQ ?_ uo.out _; (with_reducible repeat (first | refine ah ?_ _ | refine ai ?_ | refine af ?_ _)); refine aQ ?_ uo.out _; (with_reducible repeat (first | refine ah ?_ _ | refine ai ?_ | refine af ?_ _)); refine aQ ?_ uo.out _; (with_reducible repeat (first | refine ah ?_ _ | refine ai ?_ | refine af ?_ _)); refine aQ ?_ uo.out _; (with_reducible repeat (first | refine ah ?_ _ | refine ai ?_ | refine af ?_ _)); refine aQ ?_ uo.out _; (with_reducible repeat (first | refine ah ?_ _ | refine ai ?_ | refine af ?_ _)); exact kX.out) sK.out (by simp)); replace kP := aa.mk (aJ.blk hk (g' := mP) (o := .cells #[.int .i64 5, .int .i64 0, .int .i64 0, .int .i64 0, .slice none 0 0] 27 (0, 0)) (by (with_reducible repeat (first | refine ah ?_ _ | refine ai ?_ | refine af ?_ _)); refine aW (cs := #[.int .i64 5, .int .i64 0, .int .i64 0, .int .i64 0, .slice none 0 0]) ?_ 4 _ rfl; (with_reducible repeat (first | refine ah ?_ _ | refine ai ?_ | refine af ?_ _)); refine aW (cs := #[.int .i64 5, .int .i64 0, .int .i64 0, .int .i64 0, .slice none 0 0]) ?_ 3 _ rfl; (with_reducible repeat (first | refine ah ?_ _ | refine ai ?_ | refine af ?_ _)); refine aW (cs := #[.int .i64 5, .int .i64 0, .int .i64 0, .int .i64 0, .slice none 0 0]) ?_ 2 _ rfl; (with_reducible repeat (first | refine ah ?_ _ | refine ai ?_ | refine af ?_ _)); refine aW (cs := #[.int .i64 5, .int .i64 0, .int .i64 0, .int .i64 0, .slice none 0 0]) ?_ 1 _ rfl; (with_reducible repeat (first | refine ah ?_ _ | refine ai ?_ | refine af ?_ _)); refine aW (cs := #[.int .i64 0, .int .i64 0, .int .i64 0, .int .i64 0, .slice none 0 0]) ?_ 0 _ rfl; (with_reducible repeat (first | refine ah ?_ _ | refine ai ?_ | refine af ?_ _)); exact kP.out) Mf.out (by simp)); replace HK := aa.mk (aJ.trans (by repeat (first | (with_reducible first | exact HK.out | apply aJ.fF | apply bJ | apply bN | apply bK | refine bn ?_ kN.out _ | refine bn ?_ El.out _) | exact HK.out)) hk (.inl rfl)); replace HB := aa.mk (hb); replace HI0 := aa.mk (hi); (try clear hb); (try clear hb2); (try clear hk); (try clear hi)))
          go_loopg [8] kj21 (fun kq v8 w' => ∃ (x8_4 : Int) (Mg : Int) (Mh : Int) (rz : List (S27)) (oK : Value), v8 = .int .i64 x8_4 ∧ aa (av.l0 kq a1 x8_4 dA Mg Mh 5 0 0 0 rz = some (r1, r2, r3, r4, r5, r6, r7)) ∧ aa (kq ≤ kj21) ∧ aa (Kd.N k27 27 w' w.heap.size (fun k_ => (w.heap.size ≤ k_) ∧ k_ ≠ iQ ∧ k_ ≠ mP ∧ k_ ≠ g) oK rz) ∧ aa (w'.heap[iQ]? = some (.cells #[.int .i64 0, .int .i64 0, .int .i64 0, .int .i64 0, (.slice none 0 0)] 27 (0, 0))) ∧ aa (w'.heap[mP]? = some (.cells #[.int .i64 5, .int .i64 0, .int .i64 0, .int .i64 0, oK] 27 (0, 0))) ∧ aa (au w0 w' g dA Mg Mh) ∧ aa (aJ w w' g none) ∧ aa (Below w0.heap.size w0 w'))
          case atStart => exact ⟨(t125), (t126), (t127), (([] : List (S27))), (.slice none 0 0), rs_, H', ⟨Nat.le_refl _⟩, ⟨by first | exact Kd.jv _ _ _ _ _ | exact Kd.kV _ _ _ _ _ | exact Kd.jZ _ _ _ _ _ | exact Kd.kT _ _ _ _ _ | exact Kd.kU _ _ _ _ _⟩, ⟨bk_⟩, ⟨bk_⟩, ⟨si_⟩, ⟨by repeat (first | (with_reducible first | exact HK.out | apply aJ.fF | apply bJ | apply bN | apply bK | refine bn ?_ kN.out _ | refine bn ?_ El.out _) | exact HK.out)⟩, ⟨bl_⟩⟩
          case round =>
           clear H'; (try clear c1); (try clear c2); (try clear p2); (try clear p6); (try clear c7); (try clear uL); (try clear c10); (try clear r9); (try clear Md); (try clear c11); (try clear c14); (try clear xJ); (try clear Ej); (try clear c15); (try clear c18); (try clear c19); (try clear c20); (try clear c23); (try clear uH); (try clear Cu); (try clear c24); (try clear c27); (try clear c28); (try clear nY nZ uM uN uO og oh uP uQ uR); (try clear sM sN sO sP sQ sS sU sV sW sZ); (try clear qx qy wF wG wH qz qA wI wJ wK); (try clear p2); (try clear p6); obtain ⟨x8_4, Mg, Mh, rz, oK, rfl, HA, HK4, mQ, kX, kP, HI0, HK, HB⟩ := hrel; cases gk with
           | zero => exact absurd HA.out (by simp [av.l0])
           | succ k4 =>
            have H := HA.out; clear HA; simp only [av.l0] at H; by_cases c31 : x8_4 > 0
            ·rw [if_pos c31] at H; have Fx : decide (0 < x8_4) = true := decide_eq_true c31; clear c31; replace H := Option.bind_eq_some_iff.mp H; obtain ⟨⟨t128, t129, t130, t131, t132, t135, t136⟩, A320, H⟩ := H; replace H : (if rz.length < 2513169434916 then (av.l0 k4 a1 (wrap64 (x8_4 - 1)) dA t135 t136 5 0 0 0 (rz ++ [(⟨t128, t129, t130, t131, t132⟩ : S27)])) else (none)) = some (r1, r2, r3, r4, r5, r6, r7) := H; have A32 := aa.mk A320; clear A320; by_cases c33 : rz.length < 2513169434916
             ·rw [if_pos c33] at H; have LMc33 := aa.mk c33; clear c33; obtain ⟨y137, Pn⟩ : ∃ y_ : List (S27), y_ = (rz ++ [(⟨t128, t129, t130, t131, t132⟩ : S27)]) := ⟨_, rfl⟩; replace H : (av.l0 k4 a1 (wrap64 (x8_4 - 1)) dA t135 t136 5 0 0 0 y137) = some (r1, r2, r3, r4, r5, r6, r7) := by first | (rw [Pn]; with_reducible exact H) | (have H2_ := (Option.bind_some _ _).symm.trans H; rw [Pn]; with_reducible exact H2_) | (have H2_ := (Option.bind_some _ _).symm.trans H; with_reducible exact H2_) | with_reducible exact H | (rw [Pn]; exact H) | exact H
              have Ny137 := aa.mk Pn; clear Pn; have H' := aa.mk H; clear H; try go_wp2
              replace mQ := aa.mk (Kd.bC mQ.out); replace kX := aa.mk (ai kX.out); replace kP := aa.mk (ai kP.out); replace HI0 := aa.mk (au.drew HI0.out); replace HK := aa.mk (bN HK.out); replace HB := aa.mk (bV HB.out); refine qQ (n := 10) (S := fun w' => w'.cell? ⟨mP, 0, none⟩ = some (.int .i64 5) ∧ w'.cell? ⟨mP, 1, none⟩ = some (.int .i64 0) ∧ w'.cell? ⟨mP, 2, none⟩ = some (.int .i64 0) ∧ w'.cell? ⟨mP, 3, none⟩ = some (.int .i64 0) ∧ w'.cell? ⟨mP, 4, none⟩ = some (oK)) (ds := [9]) #[false, false, false, false, false, false, false, false, false, false] (by kernel_rfl) rfl rfl ⟨(aA kP.out 0).trans rfl, (aA kP.out 1).trans rfl, (aA kP.out 2).trans rfl, (aA kP.out 3).trans rfl, (aA kP.out 4).trans rfl⟩ (fun hHeld => ?_); refine mO av.tab17 av.bits17 (fun HT_ HW_ => ?_)
              generalize wr.drew = w34 at mQ kX kP HI0 HK HB hHeld ⊢
              refine pu_ HT_ 0 40 (bm 10 1) ?_
              refine pu_ HT_ 2 42 (bm 10 5) ?_
              refine pu_ HT_ 3 43 (bm 10 13) ?_
              refine pu_ HT_ 4 44 (bm 10 29) ?_
              refine ta_ HT_ HW_ 1 41 (bm 10 31) hHeld ?_
              refine qJ (i := 5) (N := some 45) #[true, true, true, true, true, true, false, false, false, false] rfl rfl (kL HT_.out (by kernel_rfl)) (by decide) (fun K hK => ?_)
              refine xI Try.func7 (by kernel_rfl) rfl #[.pointer (some ⟨g, 0, none⟩), .int .i64 (wrap64 (a1 - 1))] (by rfl) rfl rfl mp_ ?_
              with_reducible refine (ih k4 (by have := HJ3.out; have := HJ12.out; have := HJ21.out; have := HK4.out; omega) g dA Mg Mh (wrap64 (a1 - 1)) t128 t129 t130 t131 t132 t135 t136 w0 _ ?aX ?aY A32.out).mono ?_
              (case aX => repeat (first | (with_reducible first | exact HI0.out | apply au.alloc | apply au.drewN | apply au.drew | apply au.jL | apply au.jM | refine au.far ?_ sJ.out _ | refine au.far ?_ Me.out _) | exact HI0.out))
              (case aY => repeat (first | (with_reducible first | exact HB.out | apply dC | apply bR | apply bV | refine bI ?_ (au.ge HI0.out) | refine bI ?_ IB.out | refine bI ?_ GE124.out) | exact HB.out))
              rintro e w35 ⟨v133, rfl, ho0, hi, hb, hk⟩
              refine ⟨_, rfl, ?_⟩
              have HO134 := aa.mk (Kd.nX (Kd.aK (ok' := fun k_ => (w.heap.size ≤ k_) ∧ some k_ ≠ (oK : Value).ownBlock ∧ k_ ≠ iQ ∧ k_ ≠ mP ∧ k_ ≠ g) ho0 (fun k_ hk_ => ⟨(Nat.le_trans (jh (w := w) (g := g) (row := none) (by repeat (first | (with_reducible first | exact HK.out | apply aJ.fF | apply bJ | apply bN | apply bK | refine bn ?_ kN.out _ | refine bn ?_ El.out _) | exact HK.out))) hk_), (Kd.fresh' (Kd.mZ (pN_ mQ.out)) k_ hk_), (Kd.dY (g := iQ) (o := .cells #[.int .i64 0, .int .i64 0, .int .i64 0, .int .i64 0, .slice none 0 0] 27 (0, 0)) bk_ k_ hk_), (Kd.dY (g := mP) (o := .cells #[.int .i64 5, .int .i64 0, .int .i64 0, .int .i64 0, oK] 27 (0, 0)) bk_ k_ hk_), (au.fresh si_ k_ hk_)⟩)) (jh (w := w) (g := g) (row := none) (by repeat (first | (with_reducible first | exact HK.out | apply aJ.fF | apply bJ | apply bN | apply bK | refine bn ?_ kN.out _ | refine bn ?_ El.out _) | exact HK.out)))); replace mQ := aa.mk (Kd.aK (Kd.uJ (Kd.uI (Kd.aK (ok := fun k_ => (((w.heap.size ≤ k_)) ∧ (k_ ≠ iQ ∧ (k_ ≠ mP ∧ k_ ≠ g)))) (pN_ mQ.out) (fun k_ hk_ => (⟨hk_, hk_.2.2.2⟩ : _ ∧ k_ ≠ g))) hk) (by first | exact Kd.eP ho0 | exact Kd.eZ ho0 | exact Kd.eP (Kd.S_N ho0))) (fun _ h_ => h_.1)); replace kX := aa.mk (aJ.blk hk (g' := iQ) (o := .cells #[.int .i64 0, .int .i64 0, .int .i64 0, .int .i64 0, .slice none 0 0] 27 (0, 0)) bk_ sK.out (by simp)); replace kP := aa.mk (aJ.blk hk (g' := mP) (o := .cells #[.int .i64 5, .int .i64 0, .int .i64 0, .int .i64 0, oK] 27 (0, 0)) bk_ Mf.out (by simp)); replace HK := aa.mk (aJ.trans (by repeat (first | (with_reducible first | exact HK.out | apply aJ.fF | apply bJ | apply bN | apply bK | refine bn ?_ kN.out _ | refine bn ?_ El.out _) | exact HK.out)) hk (.inl rfl)); replace HB := aa.mk (hb); replace HI0 := aa.mk (hi); (try clear hb)
              (try clear hb2)
              (try clear hk)
              (try clear hi)
              (try clear ho0)
              obtain ⟨Ao37, co37, eo37⟩ := Kd.lK HO134.out; (first | subst eo37 | (injection eo37 with f1_ f2_ f3_; have f4_ := f1_.symm; have f5_ := f3_.symm; clear f1_ f2_ f3_; subst f4_; subst f5_))
              refine hK.out _ _ ⟨(aA kP.out 0).trans rfl, (aA kP.out 1).trans rfl, (aA kP.out 2).trans rfl, (aA kP.out 3).trans rfl, (aA kP.out 4).trans rfl⟩ (fun hHeld => ?_)
              clear hK K; refine iH (a' := ?_) ?_ ?_
              rotate_left
              ·show Act.put _ (some 45) _ = _
               simp only [Act.put, List.setIfInBounds_toArray, List.set_cons_zero, List.set_cons_succ, eQ, fe]; rfl
              refine qJ (i := 6) (N := some 46) #[true, true, true, true, true, true, true, false, false, false] rfl rfl (kL HT_.out (by kernel_rfl)) (by decide) (fun K hK => ?_)
              refine O6 (w1 := ?_) (v := ?_) (by rfl) rfl ?_ ?_
              rotate_left 2
              ·go_simp; constructor
               ·rfl
               ·rfl
              refine hK.out _ _ ⟨(aA (af kP.out _) 0).trans rfl, (aA (af kP.out _) 1).trans rfl, (aA (af kP.out _) 2).trans rfl, (aA (af kP.out _) 3).trans rfl, (aA (af kP.out _) 4).trans rfl⟩ (fun hHeld => ?_)
              clear hK K; refine iH (a' := ?_) ?_ ?_
              rotate_left
              ·show Act.put _ (some 46) _ = _
               simp only [Act.put, List.setIfInBounds_toArray, List.set_cons_zero, List.set_cons_succ, eQ, fe]; rfl
              refine qJ (i := 7) (N := some 47) #[true, true, true, true, true, true, true, true, false, false] rfl rfl (kL HT_.out (by kernel_rfl)) (by decide) (fun K hK => ?_)
              refine Kd.TL k27 w.heap.size (by rfl) (.tmp 41) (.tmp 46) 25 27 (.agg #[(.int .i64 0), (.int .i64 0), (.int .i64 0), (.int .i64 0), (.slice none 0 0)]) 56 rfl Try.underlying25 info27 rfl (by decide) (by omega) oK rz (⟨t128, t129, t130, t131, t132⟩ : S27) [.int .i64 t128, .int .i64 t129, .int .i64 t130, .int .i64 t131, .slice Ao37 t132.length co37] (fun k_ => (w.heap.size ≤ k_) ∧ k_ ≠ iQ ∧ k_ ≠ mP ∧ k_ ≠ g) (fun k_ => ((fun k_ => (w.heap.size ≤ k_) ∧ k_ ≠ iQ ∧ k_ ≠ mP ∧ k_ ≠ g)) k_ ∧ some k_ ≠ (oK : Value).ownBlock) rfl rfl ?aP (fun _ hk => hk) ?aF ?aO (Below.refl _ _) ?aS ?aL ?_
              (case aP => exact (FL _ _ (⟨t128, t129, t130, t131, t132⟩ : S27) (Kd.gJ (Kd.aK (ok' := (fun k_ => ((fun k_ => (w.heap.size ≤ k_) ∧ k_ ≠ iQ ∧ k_ ≠ mP ∧ k_ ≠ g)) k_ ∧ some k_ ≠ (oK : Value).ownBlock)) (HO134.out) (fun k_ hk => ⟨⟨hk.1, ⟨hk.2.2.1, ⟨hk.2.2.2.1, hk.2.2.2.2⟩⟩⟩, hk.2.1⟩))).2.1 (Kd.N_F (Kd.aK (ok' := (fun k_ => ((fun k_ => (w.heap.size ≤ k_) ∧ k_ ≠ iQ ∧ k_ ≠ mP ∧ k_ ≠ g)) k_ ∧ some k_ ≠ (oK : Value).ownBlock)) (HO134.out) (fun k_ hk => ⟨⟨hk.1, ⟨hk.2.2.1, ⟨hk.2.2.2.1, hk.2.2.2.2⟩⟩⟩, hk.2.1⟩)))))
              (case aF => exact (fun k_ hk => ⟨(Nat.le_trans (jh (w := w) (g := g) (row := none) (by repeat (first | (with_reducible first | exact HK.out | apply aJ.fF | apply bJ | apply bN | apply bK | refine bn ?_ kN.out _ | refine bn ?_ El.out _) | exact HK.out))) hk), Kd.dY (g := iQ) (o := .cells #[.int .i64 0, .int .i64 0, .int .i64 0, .int .i64 0, .slice none 0 0] 27 (0, 0)) bk_ k_ hk, Kd.dY (g := mP) (o := .cells #[.int .i64 5, .int .i64 0, .int .i64 0, .int .i64 0, oK] 27 (0, 0)) bk_ k_ hk, au.fresh si_ k_ hk⟩))
              (case aO => exact (by (with_reducible repeat (first | apply Kd.bG | apply Kd.bH | apply Kd.bC)); exact Kd.aK mQ.out (fun _ hk => ⟨hk.1.1, ⟨hk.1.2.1, ⟨hk.1.2.2.1, hk.1.2.2.2⟩⟩⟩)))
              (case aS => exact (jh (w := w) (g := g) (row := none) (by repeat (first | (with_reducible first | exact HK.out | apply aJ.fF | apply bJ | apply bN | apply bK | refine bn ?_ kN.out _ | refine bn ?_ El.out _) | exact HK.out))))
              (case aL => have := LMc33.out; omega)
              intro v138 w36 ho hb hg hat; rw [← Ny137.out] at ho; have HO139 := aa.mk (ho); replace kX := aa.mk (iq (g := iQ) (o := .cells #[.int .i64 0, .int .i64 0, .int .i64 0, .int .i64 0, .slice none 0 0] 27 (0, 0)) bk_ hg (Kd.N_away mQ.out (fun _ hk => hk.1.2.1))); replace kP := aa.mk (iq (g := mP) (o := .cells #[.int .i64 5, .int .i64 0, .int .i64 0, .int .i64 0, oK] 27 (0, 0)) bk_ hg (Kd.N_away mQ.out (fun _ hk => hk.1.2.2.1))); replace HI0 := aa.mk (au.grown si_ hg (au.own_neN HI0.out mQ.out (by decide))); replace HB := aa.mk (xN bl_ HL.out hb); replace HK := aa.mk (aJ.trans (by repeat (first | (with_reducible first | exact HK.out | apply aJ.fF | apply bJ | apply bN | apply bK | refine bn ?_ kN.out _ | refine bn ?_ El.out _) | exact HK.out)) (aJ.AR hg g) (Kd.N_base2 mQ.out)); clear mQ HO134; clear ho hb hg hat; obtain ⟨Ao38, co38, eo38⟩ := Kd.lK HO139.out; (first | subst eo38 | (injection eo38 with f1_ f2_ f3_; have f4_ := f1_.symm; have f5_ := f3_.symm; clear f1_ f2_ f3_; subst f4_; subst f5_))
              refine hK.out _ _ ⟨(aA kP.out 0).trans rfl, (aA kP.out 1).trans rfl, (aA kP.out 2).trans rfl, (aA kP.out 3).trans rfl, (aA kP.out 4).trans rfl⟩ (fun hHeld => ?_)
              clear hK K; refine iH (a' := ?_) ?_ ?_
              rotate_left
              ·show Act.put _ (some 47) _ = _
               simp only [Act.put, List.setIfInBounds_toArray, List.set_cons_zero, List.set_cons_succ, eQ, fe]; rfl
              refine pu_ HT_ 8 48 (bm 10 511) ?_
              refine Kw (i := 9) (N := none) #[true, true, true, true, true, true, true, true, true, true] rfl rfl (kL HT_.out (by kernel_rfl)) (by decide) (fun K hK => ?_)
              have hs39 : w36.cell? ⟨mP, 4, none⟩ = some (oK) := (aA kP.out 4).trans rfl; have hfs39 := fE kP.out 4; have hns39_0 := uo.out; have hms39_0 := Li.out; refine Kz (w1 := ?_) (by rfl) rfl ?_ ?_
              rotate_left
              ·go_simp; rfl
              refine hK.out _ _ ?_
              clear hK K; refine uG (qp HT_.out (by kernel_rfl)) ?_
              try go_wp2
              go_roundg k4
              case measure => have := HJ3.out; have := HJ12.out; have := HJ21.out; have := HK4.out; omega
              case rel => exact ⟨(wrap64 (x8_4 - 1)), (t135), (t136), (y137), (.slice Ao38 y137.length co38), rs_, H', ⟨by have := HJ3.out; have := HJ12.out; have := HJ21.out; have := HK4.out; omega⟩, ⟨by (with_reducible repeat (first | apply Kd.bG | apply Kd.bH | apply Kd.bC)); exact Kd.aK (Kd.bq (p := ⟨mP, 4, none⟩) (Kd.aK HO139.out (fun k_ hk => (⟨hk, by first | exact hk.2.2.1 | exact hk.1 | exact hk.2 | exact hk.1.1 | exact hk.1.2⟩ : _ ∧ k_ ≠ mP))) (fun _ hk => hk.2) (.slice Ao38 y137.length co38)) (fun _ hk => ⟨hk.1.1, ⟨hk.1.2.1, ⟨hk.1.2.2.1, hk.1.2.2.2⟩⟩⟩)⟩, ⟨by (with_reducible repeat (first | refine ah ?_ _ | refine ai ?_ | refine af ?_ _)); refine aQ ?_ uo.out _; (with_reducible repeat (first | refine ah ?_ _ | refine ai ?_ | refine af ?_ _)); exact kX.out⟩, ⟨by (with_reducible repeat (first | refine ah ?_ _ | refine ai ?_ | refine af ?_ _)); refine aW (cs := #[.int .i64 5, .int .i64 0, .int .i64 0, .int .i64 0, oK]) ?_ 4 _ rfl; (with_reducible repeat (first | refine ah ?_ _ | refine ai ?_ | refine af ?_ _)); exact kP.out⟩, ⟨si_⟩, ⟨by repeat (first | (with_reducible first | exact HK.out | apply aJ.fF | apply bJ | apply bN | apply bK | refine bn ?_ kN.out _ | refine bn ?_ El.out _) | exact HK.out)⟩, ⟨bl_⟩⟩
             ·rw [if_neg c33] at H; exact absurd H (by simp)
            ·rw [if_neg c31] at H; have Fx : decide (0 < x8_4) = false := decide_eq_false c31; clear c31; simp only [Option.some.injEq, Prod.mk.injEq] at H; obtain ⟨rfl, rfl, rfl, rfl, rfl, rfl, rfl⟩ := H; have hnb40 := Li.out; have hnc40 := uo.out; have hnb41 := Mf.out; have hnc41 := Me.out; obtain ⟨C9, Da, Mi, Mj, Mk, Db, Dc, Ml, Mm, Mo⟩ := bQ kP.out; have hnb43 := sK.out; have hnc43 := sJ.out; obtain ⟨Q7, Q8, hcz44_2, hcz44_3, hcz44_4, Q9, Ra, hfz44_2, hfz44_3, hfz44_4⟩ := bQ kX.out; obtain ⟨dB, dw, eo45⟩ := Kd.lK mQ.out; subst eo45; go_wp2; refine bodyPost_ret (results_cell_row rfl _ _ iQ 27 #[.int .i64 5, .int .i64 0, .int .i64 0, .int .i64 0, .slice dB rz.length dw] (0, 0) _ rfl (by (with_reducible repeat (first | refine ah ?_ _ | refine ai ?_ | refine af ?_ _)); refine aW (cs := #[.int .i64 5, .int .i64 0, .int .i64 0, .int .i64 0, .slice none 0 0]) ?_ 4 _ rfl; (with_reducible repeat (first | refine ah ?_ _ | refine ai ?_ | refine af ?_ _)); refine aW (cs := #[.int .i64 5, .int .i64 0, .int .i64 0, .int .i64 0, .slice none 0 0]) ?_ 3 _ rfl; (with_reducible repeat (first | refine ah ?_ _ | refine ai ?_ | refine af ?_ _)); refine aW (cs := #[.int .i64 5, .int .i64 0, .int .i64 0, .int .i64 0, .slice none 0 0]) ?_ 2 _ rfl; (with_reducible repeat (first | refine ah ?_ _ | refine ai ?_ | refine af ?_ _)); refine aW (cs := #[.int .i64 5, .int .i64 0, .int .i64 0, .int .i64 0, .slice none 0 0]) ?_ 1 _ rfl; (with_reducible repeat (first | refine ah ?_ _ | refine ai ?_ | refine af ?_ _)); refine aW (cs := #[.int .i64 0, .int .i64 0, .int .i64 0, .int .i64 0, .slice none 0 0]) ?_ 0 _ rfl; (with_reducible repeat (first | refine ah ?_ _ | refine ai ?_ | refine af ?_ _)); exact kX.out) Try.underlying27 rfl (by kernel_rfl)) rfl ?_
             exact ⟨_, re_, by (with_reducible repeat (first | apply Kd.bG | apply Kd.bH | apply Kd.bC)); exact Kd.aK (Kd.bq (p := ⟨iQ, 4, none⟩) (Kd.bq (p := ⟨iQ, 3, none⟩) (Kd.bq (p := ⟨iQ, 2, none⟩) (Kd.bq (p := ⟨iQ, 1, none⟩) (Kd.bq (p := ⟨iQ, 0, none⟩) (Kd.aK mQ.out (fun k_ hk => (⟨hk, by first | exact hk.2.1 | exact hk.1 | exact hk.2 | exact hk.1.1 | exact hk.1.2⟩ : _ ∧ k_ ≠ iQ))) (fun _ hk => hk.2) (.int .i64 5)) (fun _ hk => hk.2) (.int .i64 0)) (fun _ hk => hk.2) (.int .i64 0)) (fun _ hk => hk.2) (.int .i64 0)) (fun _ hk => hk.2) (.slice dB rz.length dw)) (fun _ hk => hk.1.1), si_, bl_, by repeat (first | (with_reducible first | exact HK.out | apply aJ.fF | apply bJ | apply bN | apply bK | refine bn ?_ kN.out _ | refine bn ?_ El.out _) | exact HK.out)⟩
         ·replace c24 := Bool.eq_false_iff.mpr c24; subst c24; have H1 : ((dK.f dA nH nI 1 2).bind fun KE => ((av.f kj21 dA KE.2.1 KE.2.2 1).bind fun nQ => (some (6, 0, 0, KE.1, (([(⟨nQ.1, nQ.2.1, nQ.2.2.1, nQ.2.2.2.1, nQ.2.2.2.2.1⟩ : S27)] : List (S27))), nQ.2.2.2.2.2.1, nQ.2.2.2.2.2.2)))) = some (r1, r2, r3, r4, r5, r6, r7) := by rw [if_neg (show ¬ (false = true) by decide)] at H; exact H
          clear H; have H := H1; clear H1; replace H := Option.bind_eq_some_iff.mp H; obtain ⟨⟨t140, t141, t142⟩, A460, H⟩ := H; replace H : ((av.f kj21 dA t141 t142 1).bind fun nQ => (some (6, 0, 0, t140, (([(⟨nQ.1, nQ.2.1, nQ.2.2.1, nQ.2.2.2.1, nQ.2.2.2.2.1⟩ : S27)] : List (S27))), nQ.2.2.2.2.2.1, nQ.2.2.2.2.2.2))) = some (r1, r2, r3, r4, r5, r6, r7) := H; have A46 := aa.mk A460; clear A460; replace H := Option.bind_eq_some_iff.mp H; obtain ⟨⟨t143, t144, t145, t146, t147, t150, t151⟩, A470, H⟩ := H; replace H : (some (6, 0, 0, t140, (([(⟨t143, t144, t145, t146, t147⟩ : S27)] : List (S27))), t150, t151)) = some (r1, r2, r3, r4, r5, r6, r7) := H; have A47 := aa.mk A470; clear A470; obtain ⟨y152, hy152⟩ : ∃ y_ : List (S27), y_ = (([(⟨t143, t144, t145, t146, t147⟩ : S27)] : List (S27))) := ⟨_, rfl⟩; replace H : (some (6, 0, 0, t140, y152, t150, t151)) = some (r1, r2, r3, r4, r5, r6, r7) := by first | (rw [hy152]; with_reducible exact H) | (have H2_ := (Option.bind_some _ _).symm.trans H; rw [hy152]; with_reducible exact H2_) | (have H2_ := (Option.bind_some _ _).symm.trans H; with_reducible exact H2_) | with_reducible exact H | (rw [hy152]; exact H) | exact H
          have Ny152 := aa.mk hy152; clear hy152; simp only [Option.some.injEq, Prod.mk.injEq] at H; obtain ⟨rfl, rfl, rfl, rfl, rfl, rfl, rfl⟩ := H; go_wp2_with (first | ((with_reducible refine aZ (f := 18) rfl ?_); refine cz (some 51) rfl rfl Try.func18 (by kernel_rfl) rfl #[.pointer (some ⟨g, 0, none⟩), .int .i64 1, .int .i64 2] rfl mp_ ?_; (with_reducible refine (dK.calls g dA nH nI 1 2 t140 t141 t142 w0 _ ?aX ?aY A46.out).mono ?_); (case aX => repeat (first | (with_reducible first | exact HI0.out | apply au.alloc | apply au.drewN | apply au.drew | apply au.jL | apply au.jM | refine au.far ?_ sJ.out _) | exact HI0.out)); (case aY => repeat (first | (with_reducible first | exact HB.out | apply dC | apply bR | apply bV | refine bI ?_ (au.ge HI0.out) | refine bI ?_ IB.out) | exact HB.out)); rintro e w48 ⟨rfl, hi, hb, hk⟩; refine ⟨_, rfl, ?_⟩; replace kX := aa.mk (aJ.blk hk (g' := iQ) (o := .cells #[.int .i64 0, .int .i64 0, .int .i64 0, .int .i64 0, .slice none 0 0] 27 (0, 0)) bk_ sK.out (by simp)); replace HK := aa.mk (aJ.trans (by repeat (first | (with_reducible first | exact HK.out | apply aJ.fF | apply bJ | apply bN | apply bK | refine bn ?_ kN.out _) | exact HK.out)) hk (.inl rfl)); replace HB := aa.mk (hb); replace HI0 := aa.mk (hi); (try clear hb); (try clear hb2); (try clear hk); (try clear hi)) | ((with_reducible refine aZ (f := 7) rfl ?_); refine cz (some 53) rfl rfl Try.func7 (by kernel_rfl) rfl #[.pointer (some ⟨g, 0, none⟩), .int .i64 1] rfl mp_ ?_; (with_reducible refine (ih kj21 (by have := HJ3.out; have := HJ12.out; have := HJ21.out; omega) g dA t141 t142 1 t143 t144 t145 t146 t147 t150 t151 w0 _ ?aX ?aY A47.out).mono ?_); (case aX => repeat (first | (with_reducible first | exact HI0.out | apply au.alloc | apply au.drewN | apply au.drew | apply au.jL | apply au.jM | refine au.far ?_ sJ.out _) | exact HI0.out)); (case aY => repeat (first | (with_reducible first | exact HB.out | apply dC | apply bR | apply bV | refine bI ?_ (au.ge HI0.out) | refine bI ?_ IB.out) | exact HB.out)); rintro e w49 ⟨v148, rfl, ho0, hi, hb, hk⟩; refine ⟨_, rfl, ?_⟩; have HO149 := aa.mk (Kd.nX (Kd.aK (ok' := fun k_ => (w.heap.size ≤ k_) ∧ k_ ≠ iQ ∧ k_ ≠ g) ho0 (fun k_ hk_ => ⟨(Nat.le_trans (jh (w := w) (g := g) (row := none) (by repeat (first | (with_reducible first | exact HK.out | apply aJ.fF | apply bJ | apply bN | apply bK | refine bn ?_ kN.out _) | exact HK.out))) hk_), (Kd.dY (g := iQ) (o := .cells #[.int .i64 0, .int .i64 0, .int .i64 0, .int .i64 0, .slice none 0 0] 27 (0, 0)) bk_ k_ hk_), (au.fresh si_ k_ hk_)⟩)) (jh (w := w) (g := g) (row := none) (by repeat (first | (with_reducible first | exact HK.out | apply aJ.fF | apply bJ | apply bN | apply bK | refine bn ?_ kN.out _) | exact HK.out)))); replace kX := aa.mk (aJ.blk hk (g' := iQ) (o := .cells #[.int .i64 0, .int .i64 0, .int .i64 0, .int .i64 0, .slice none 0 0] 27 (0, 0)) bk_ sK.out (by simp)); replace HK := aa.mk (aJ.trans (by repeat (first | (with_reducible first | exact HK.out | apply aJ.fF | apply bJ | apply bN | apply bK | refine bn ?_ kN.out _) | exact HK.out)) hk (.inl rfl)); replace HB := aa.mk (hb); replace HI0 := aa.mk (hi); (try clear hb); (try clear hb2); (try clear hk); (try clear hi); (try clear ho0); obtain ⟨Ao50, co50, eo50⟩ := Kd.lK HO149.out; subst eo50) | ((with_reducible refine bu (N := 54) rfl ?_); refine Kd.N_lit k27 _ 27 ?hg (N' := 54) ?hd (xs := ([(⟨t143, t144, t145, t146, t147⟩ : S27)] : List (S27))) (inner := [.int .i64 t143, .int .i64 t144, .int .i64 t145, .int .i64 t146, .slice Ao50 t147.length co50]) (ok := (fun k_ => (w.heap.size ≤ k_) ∧ k_ ≠ iQ ∧ k_ ≠ g)) (okp := (fun k_ => (w.heap.size ≤ k_) ∧ k_ ≠ iQ ∧ k_ ≠ g)) ?hr ?hp (fun _ hk => hk) ((show ∀ k_, w49.heap.size ≤ k_ → (fun k_ => (w.heap.size ≤ k_) ∧ k_ ≠ iQ ∧ k_ ≠ g) k_ from fun k_ hk => ⟨(Nat.le_trans (jh (w := w) (g := g) (row := none) (by repeat (first | (with_reducible first | exact HK.out | apply aJ.fF | apply bJ | apply bN | apply bK | refine bn ?_ kN.out _) | exact HK.out))) hk), Kd.dY (g := iQ) (o := .cells #[.int .i64 0, .int .i64 0, .int .i64 0, .int .i64 0, .slice none 0 0] 27 (0, 0)) bk_ k_ hk, au.fresh si_ k_ hk⟩) _ (Nat.le_refl _)) (Below.refl _ _) (Nat.le_refl _) (by simp) ?_; (case hd => rfl); (case hg => rfl); (case hr => first | (go_simp; done) | (go_simp; rfl)); (case hp => exact (dP.c5 (show Kd.FK k27 _ _ (⟨t143, t144, t145, t146, t147⟩ : S27) [.int .i64 t143, .int .i64 t144, .int .i64 t145, .int .i64 t146, .slice Ao50 t147.length co50] from (FL _ _ (⟨t143, t144, t145, t146, t147⟩ : S27) (Kd.gJ (Kd.aK (ok' := (fun k_ => (w.heap.size ≤ k_) ∧ k_ ≠ iQ ∧ k_ ≠ g)) (HO149.out) (fun k_ hk => ⟨hk.1, ⟨hk.2.1, hk.2.2⟩⟩))).2.1 (Kd.N_F (Kd.aK (ok' := (fun k_ => (w.heap.size ≤ k_) ∧ k_ ≠ iQ ∧ k_ ≠ g)) (HO149.out) (fun k_ hk => ⟨hk.1, ⟨hk.2.1, hk.2.2⟩⟩))))) (dP.none _ _))); intro v153 w51 p9 hb hg_ jw; clear hg_ jw; (first | rw [← Ny152.out] at p9 | (simp only [Int.reduceToNat] at p9; rw [← Ny152.out] at p9)); have HO154 := aa.mk (Kd.nX p9 (jh (w := w) (g := g) (row := none) (by repeat (first | (with_reducible first | exact HK.out | apply aJ.fF | apply bJ | apply bN | apply bK | refine bn ?_ kN.out _) | exact HK.out)))); replace kX := kb_ kX hb; replace HI0 := aa.mk (au.below si_ hb); replace HK := aa.mk (aJ.trans (by repeat (first | (with_reducible first | exact HK.out | apply aJ.fF | apply bJ | apply bN | apply bK | refine bn ?_ kN.out _) | exact HK.out)) (aJ.of_below hb g none) (.inl rfl)); replace HB := aa.mk (ay bl_ hb); clear HO149; clear hb p9; obtain ⟨Ao53, co53, E9⟩ := Kd.lK HO154.out; subst E9; have hnb54 := sK.out; have hnc54 := sJ.out; obtain ⟨Rb, Rc, Re, Rf, Rh, Ri, Rj, Rk, Rl, Rm⟩ := bQ kX.out))
          refine bodyPost_ret (results_cell_row rfl _ _ iQ 27 #[.int .i64 6, .int .i64 0, .int .i64 0, .int .i64 t140, .slice Ao53 y152.length co53] (0, 0) _ rfl (by (with_reducible repeat (first | refine ah ?_ _ | refine ai ?_ | refine af ?_ _)); refine aW (cs := #[.int .i64 6, .int .i64 0, .int .i64 0, .int .i64 t140, .slice none 0 0]) ?_ 4 _ rfl; (with_reducible repeat (first | refine ah ?_ _ | refine ai ?_ | refine af ?_ _)); refine aW (cs := #[.int .i64 6, .int .i64 0, .int .i64 0, .int .i64 0, .slice none 0 0]) ?_ 3 _ rfl; (with_reducible repeat (first | refine ah ?_ _ | refine ai ?_ | refine af ?_ _)); refine aW (cs := #[.int .i64 6, .int .i64 0, .int .i64 0, .int .i64 0, .slice none 0 0]) ?_ 2 _ rfl; (with_reducible repeat (first | refine ah ?_ _ | refine ai ?_ | refine af ?_ _)); refine aW (cs := #[.int .i64 6, .int .i64 0, .int .i64 0, .int .i64 0, .slice none 0 0]) ?_ 1 _ rfl; (with_reducible repeat (first | refine ah ?_ _ | refine ai ?_ | refine af ?_ _)); refine aW (cs := #[.int .i64 0, .int .i64 0, .int .i64 0, .int .i64 0, .slice none 0 0]) ?_ 0 _ rfl; (with_reducible repeat (first | refine ah ?_ _ | refine ai ?_ | refine af ?_ _)); exact kX.out) Try.underlying27 rfl (by kernel_rfl)) rfl ?_
          exact ⟨_, re_, by (with_reducible repeat (first | apply Kd.bG | apply Kd.bH | apply Kd.bC)); exact Kd.aK (Kd.bq (p := ⟨iQ, 4, none⟩) (Kd.bq (p := ⟨iQ, 3, none⟩) (Kd.bq (p := ⟨iQ, 2, none⟩) (Kd.bq (p := ⟨iQ, 1, none⟩) (Kd.bq (p := ⟨iQ, 0, none⟩) (Kd.aK HO154.out (fun k_ hk => (⟨hk, by first | exact hk.2.1 | exact hk.1 | exact hk.2 | exact hk.1.1 | exact hk.1.2⟩ : _ ∧ k_ ≠ iQ))) (fun _ hk => hk.2) (.int .i64 6)) (fun _ hk => hk.2) (.int .i64 0)) (fun _ hk => hk.2) (.int .i64 0)) (fun _ hk => hk.2) (.int .i64 t140)) (fun _ hk => hk.2) (.slice Ao53 y152.length co53)) (fun _ hk => hk.1.1), si_, bl_, by repeat (first | (with_reducible first | exact HK.out | apply aJ.fF | apply bJ | apply bN | apply bK | refine bn ?_ kN.out _) | exact HK.out)⟩

end Go.Proofs.Ytggelekooacmnaa.Z
namespace Go.Proofs.Ytggelekooacmnaa.Z
open Go.RowKit Go.Proofs.YtggelekooacmnaaW.bM Go.Proofs.YtggelekooacmnaaW.dR Go.Proofs.YtggelekooacmnaaW.eO
attribute [local go_sem] iM iN jk jl gW gX iO iP   -- for this text's walks alone
set_option linter.unusedVariables false
set_option linter.unusedSimpArgs false

/-! ### jC: function 25 -/
def jC.f (dA : List Int) (gq : Int) (iA : Int) (l1 : List Int) : Option (Int × Int × Int) := (dz.f dA gq iA (l1.length : Int)).bind fun Cv => (if 0 ≤ Cv.1 then (if Cv.1 < (l1.length : Int) then (some (rd l1 Cv.1, Cv.2.1, Cv.2.2)) else (none)) else (none))
set_option maxHeartbeats 8000000 in
set_option maxRecDepth 100000 in
theorem jC.calls (g : Nat) (dA : List Int) (gq : Int) (iA : Int) (A1 : Option Addr) (c1 : Nat) (l1 : List Int) (r1 : Int) (r2 : Int) (r3 : Int) (w0 w : World) (hI : au w0 w g dA gq iA) (hB : Below w0.heap.size w0 w) (hr1 : Kd.C (Kd.int .i64) w A1 l1.length l1) (hc1 : l1.length ≤ c1) (hf1 : ∀ ad, A1 = some ad → 0 < l1.length → ad.block ≠ g) (h : jC.f dA gq iA l1 = some (r1, r2, r3)) :
    Calls Try.prog 25 #[.pointer (some ⟨g, 0, none⟩), .slice A1 l1.length c1] w fun e w' => e = .returned (.int .i64 r1) ∧ au w0 w' g dA r2 r3 ∧ Below w0.heap.size w0 w' ∧ aJ w w' g none := by
  have HR1 := aa.mk hr1
  have HC1 := aa.mk hc1
  clear hr1 hc1
  have HI0 := aa.mk hI
  have HK := aa.mk (aJ.refl w g none)
  have HL := aa.mk hB.size
  clear hI
  have HW0 := aa.mk hB.size
  have HB := aa.mk hB
  clear hB
  have H : ((dz.f dA gq iA (l1.length : Int)).bind fun Cv => (if 0 ≤ Cv.1 then (if Cv.1 < (l1.length : Int) then (some (rd l1 Cv.1, Cv.2.1, Cv.2.2)) else (none)) else (none))) = some (r1, r2, r3) := h
  clear h
  replace H := Option.bind_eq_some_iff.mp H
  obtain ⟨⟨G6, t156, t157⟩, A30, H⟩ := H
  replace H : (if 0 ≤ G6 then (if G6 < (l1.length : Int) then (some (rd l1 G6, t156, t157)) else (none)) else (none)) = some (r1, r2, r3) := H
  have A3 := aa.mk A30
  clear A30
  by_cases c4 : 0 ≤ G6
  · rw [if_pos c4] at H
    have nz : decide (0 ≤ G6) = true := decide_eq_true c4
    clear c4
    by_cases c5 : G6 < (l1.length : Int)
    · rw [if_pos c5] at H
      have uK : decide (G6 < (l1.length : Int)) = true := decide_eq_true c5
      clear c5
      simp only [Option.some.injEq, Prod.mk.injEq] at H
      obtain ⟨rfl, rfl, rfl⟩ := H
      go_enter Try.func25, Try.ntmps25
      go_wp2_with (first | ((with_reducible refine aZ (f := 19) rfl ?_); refine cz (some 9) rfl rfl Try.func19 (by kernel_rfl) rfl #[.pointer (some ⟨g, 0, none⟩), .int .i64 (l1.length : Int)] rfl (by (try simp only [List.map_toArray, List.map_cons, List.map_nil]); first | done | rfl | (simp only [List.length_drop, List.length_take]; rfl)) ?_; (with_reducible refine (dz.calls g dA gq iA (l1.length : Int) G6 t156 t157 w0 _ ?aX ?aY A3.out).mono ?_); (case aX => repeat (first | (with_reducible first | exact HI0.out | apply au.alloc | apply au.drewN | apply au.drew | apply au.jL | apply au.jM) | exact HI0.out)); (case aY => repeat (first | (with_reducible first | exact HB.out | apply dC | apply bR | apply bV | refine bI ?_ (au.ge HI0.out)) | exact HB.out)); rintro e w6 ⟨rfl, hi, hb, hk⟩; refine ⟨_, rfl, ?_⟩; have n0_ := aa.mk (aJ.trans (by repeat (first | (with_reducible first | exact HK.out | apply aJ.fF | apply bJ | apply bN | apply bK) | exact HK.out)) hk (.inl rfl)); have n1_ := aa.mk (hb); have n2_ := aa.mk (hi); clear HK; clear HB; clear HI0; have HK := n0_; have HB := n1_; have HI0 := n2_; clear n0_ n1_ n2_; (try clear hb); (try clear hb2); (try clear hk); (try clear hi); have p158 : 0 ≤ (G6 : Int) := of_decide_eq_true (by first | (with_reducible assumption) | assumption); have q158 : G6 < (l1.length : Int) := of_decide_eq_true (by first | (with_reducible assumption) | assumption); obtain ⟨ad158, e158, UW⟩ := Kd.qP HR1.out G6 p158 q158; cases e158; replace UW := nG HK.out UW (by first | (rw [add_block]; exact hf1 _ rfl (by omega)) | exact hf1 _ rfl (by omega) | exact hf1 ad158 rfl (by omega)); replace p158 := eq_true p158; replace q158 := eq_true q158))
      go_ret
      exact ⟨by first | rfl | (simp [iI, iJ] <;> rfl) | (simp [*, iI, iJ] <;> rfl), by repeat (first | (with_reducible first | exact HI0.out | apply au.alloc | apply au.drewN | apply au.drew | apply au.jL | apply au.jM) | exact HI0.out), by repeat (first | (with_reducible first | exact HB.out | apply dC | apply bR | apply bV | refine bI ?_ (au.ge HI0.out)) | exact HB.out), by repeat (first | (with_reducible first | exact HK.out | apply aJ.fF | apply bJ | apply bN | apply bK) | exact HK.out)⟩
    · rw [if_neg c5] at H
      exact absurd H (by simp)
  · rw [if_neg c4] at H
    exact absurd H (by simp)

end Go.Proofs.Ytggelekooacmnaa.Z
namespace Go.Proofs.Ytggelekooacmnaa.Z
open Go.RowKit Go.Proofs.YtggelekooacmnaaW.bM Go.Proofs.YtggelekooacmnaaW.dR Go.Proofs.YtggelekooacmnaaW.eO
attribute [local go_sem] iM iN jk jl gW gX iO iP   -- for this text's walks alone
set_option linter.unusedVariables false
set_option linter.unusedSimpArgs false

/-! ### aC: function 8 -/
mutual
def aC.j2 : Nat → List Int → Int → Int → Int → List (S31) → Option (Int × (List (S31)) × Int × Int)
 | 0, _, _, _, _, _ => none
 | k + 1, x1000, oC, oD, wL, rD => (dz.f x1000 oC oD 24).bind fun IC => (if IC.1 = 0 then ((jC.f x1000 IC.2.1 IC.2.2 (([(-1), 1, 1000] : List Int))).bind fun Cw => (some (wrap64 (wL + Cw.1), rD, Cw.2.1, Cw.2.2))) else (if IC.1 = 1 then (if ([] : List (S31)).length + rD.length < 4398046511104 then ((some (([] : List (S31)) ++ rD : List (S31))).bind fun G7 => (if G7.length < 4398046511104 then (some (wL, (G7 ++ [(⟨0, ([] : List (S31))⟩ : S31)]), IC.2.1, IC.2.2)) else (none))) else (none)) else (some (wL, rD, IC.2.1, IC.2.2))))
def aC.l0 : Nat → Int → List Int → Int → Int → Int → Int → Int → Int → List (S27) → Int → List (S31) → Option (Int × (List (S31)) × Int × Int)
 | 0, _, _, _, _, _, _, _, _, _, _, _ => none
 | k + 1, x6, x1000, oC, oD, Rn, Ro, Rp, Rq, om, wL, rD => if x6 < (om.length : Int) then (if 0 ≤ x6 then ((aC.f k x1000 oC oD ((aj om x6).f0) ((aj om x6).f1) ((aj om x6).f2) ((aj om x6).f3) ((aj om x6).f4)).bind fun bt163 => (if rD.length < 4398046511104 then (aC.l0 k (wrap64 (x6 + 1)) x1000 bt163.2.2.1 bt163.2.2.2 Rn Ro Rp Rq om wL (rD ++ [(⟨bt163.1, bt163.2.1⟩ : S31)])) else (none))) else (none)) else (aC.j2 k x1000 oC oD wL rD)
def aC.l1 : Nat → Int → List Int → Int → Int → Int → Int → Int → Int → List (S27) → Int → List (S31) → Option (Int × (List (S31)) × Int × Int)
 | 0, _, _, _, _, _, _, _, _, _, _, _ => none
 | k + 1, x7, x1000, oC, oD, Rn, Ro, Rp, Rq, om, wL, rD => if x7 > 0 then (if (om.length : Int) > 0 then (if 0 < (om.length : Int) then ((aC.f k x1000 oC oD ((aj om 0).f0) ((aj om 0).f1) ((aj om 0).f2) ((aj om 0).f3) ((aj om 0).f4)).bind fun bt176 => (if rD.length < 4398046511104 then (aC.l1 k (wrap64 (x7 - 1)) x1000 bt176.2.2.1 bt176.2.2.2 Rn Ro Rp Rq om wL (rD ++ [(⟨bt176.1, bt176.2.1⟩ : S31)])) else (none))) else (none)) else (aC.j2 k x1000 oC oD wL rD)) else (aC.j2 k x1000 oC oD wL rD)
def aC.f : Nat → List Int → Int → Int → Int → Int → Int → Int → List (S27) → Option (Int × (List (S31)) × Int × Int)
 | 0, _, _, _, _, _, _, _, _ => none
 | k + 1, dA, gq, iA, dS, lv, mM, ng, gT => if dS = 5 then (aC.l0 k 0 dA gq iA dS lv mM ng gT 0 ([] : List (S31))) else (if dS = 6 then ((dz.f dA gq iA (wrap64 (ng + 1))).bind fun KG => (aC.l1 k KG.1 dA KG.2.1 KG.2.2 dS lv mM ng gT 0 ([] : List (S31)))) else (if dS = 1 then ((dz.f dA gq iA 2).bind fun KH => (aC.j2 k dA KH.2.1 KH.2.2 KH.1 ([] : List (S31)))) else (if dS = 2 then ((dK.f dA gq iA lv (mn mM (wrap64 (lv + 5)))).bind fun Cx => (aC.j2 k dA Cx.2.1 Cx.2.2 Cx.1 ([] : List (S31)))) else ((dz.f dA gq iA 4).bind fun KI => (aC.j2 k dA KI.2.1 KI.2.2 KI.1 ([] : List (S31)))))))
end
theorem aC.iU : ∀ k, (∀ y0 y1 y2 y3 y4 y5 y6 y7, LeO (aC.f k y0 y1 y2 y3 y4 y5 y6 y7) (aC.f (k + 1) y0 y1 y2 y3 y4 y5 y6 y7)) ∧ (∀ y0 y1 y2 y3 y4, LeO (aC.j2 k y0 y1 y2 y3 y4) (aC.j2 (k + 1) y0 y1 y2 y3 y4)) ∧ (∀ y0 y1 y2 y3 y4 y5 y6 y7 y8 y9 y10, LeO (aC.l0 k y0 y1 y2 y3 y4 y5 y6 y7 y8 y9 y10) (aC.l0 (k + 1) y0 y1 y2 y3 y4 y5 y6 y7 y8 y9 y10)) ∧ (∀ y0 y1 y2 y3 y4 y5 y6 y7 y8 y9 y10, LeO (aC.l1 k y0 y1 y2 y3 y4 y5 y6 y7 y8 y9 y10) (aC.l1 (k + 1) y0 y1 y2 y3 y4 y5 y6 y7 y8 y9 y10))
 | 0 => ⟨fun _ _ _ _ _ _ _ _ r h => by simp [aC.f] at h, fun _ _ _ _ _ r h => by simp [aC.j2] at h, fun _ _ _ _ _ _ _ _ _ _ _ r h => by simp [aC.l0] at h, fun _ _ _ _ _ _ _ _ _ _ _ r h => by simp [aC.l1] at h⟩
 | k + 1 => by
  obtain ⟨ih0, ih1, ih2, ih3⟩ := aC.iU k; refine ⟨?_, ?_, ?_, ?_⟩
  ·intro y0 y1 y2 y3 y4 y5 y6 y7; unfold aC.f; repeat' first
   | (with_reducible exact ih0 _ _ _ _ _ _ _ _)
   | (with_reducible exact ih1 _ _ _ _ _)
   | (with_reducible exact ih2 _ _ _ _ _ _ _ _ _ _ _)
   | (with_reducible exact ih3 _ _ _ _ _ _ _ _ _ _ _)
   | (with_reducible exact LeO.refl _)
   | (with_reducible exact LeO.none _)
   | (with_reducible refine LeO.ite ?_ ?_)
   | (with_reducible refine LeO.bind ?_ (fun _ => ?_))
   | exact ih0 _ _ _ _ _ _ _ _
   | exact ih1 _ _ _ _ _
   | exact ih2 _ _ _ _ _ _ _ _ _ _ _
   | exact ih3 _ _ _ _ _ _ _ _ _ _ _
   | exact LeO.none _
   | refine LeO.ite ?_ ?_
   | refine LeO.bind ?_ (fun _ => ?_)
  ·intro y0 y1 y2 y3 y4; unfold aC.j2; repeat' first
   | (with_reducible exact ih0 _ _ _ _ _ _ _ _)
   | (with_reducible exact ih1 _ _ _ _ _)
   | (with_reducible exact ih2 _ _ _ _ _ _ _ _ _ _ _)
   | (with_reducible exact ih3 _ _ _ _ _ _ _ _ _ _ _)
   | (with_reducible exact LeO.refl _)
   | (with_reducible exact LeO.none _)
   | (with_reducible refine LeO.ite ?_ ?_)
   | (with_reducible refine LeO.bind ?_ (fun _ => ?_))
   | exact ih0 _ _ _ _ _ _ _ _
   | exact ih1 _ _ _ _ _
   | exact ih2 _ _ _ _ _ _ _ _ _ _ _
   | exact ih3 _ _ _ _ _ _ _ _ _ _ _
   | exact LeO.none _
   | refine LeO.ite ?_ ?_
   | refine LeO.bind ?_ (fun _ => ?_)
  ·intro y0 y1 y2 y3 y4 y5 y6 y7 y8 y9 y10; unfold aC.l0; repeat' first
   | (with_reducible exact ih0 _ _ _ _ _ _ _ _)
   | (with_reducible exact ih1 _ _ _ _ _)
   | (with_reducible exact ih2 _ _ _ _ _ _ _ _ _ _ _)
   | (with_reducible exact ih3 _ _ _ _ _ _ _ _ _ _ _)
   | (with_reducible exact LeO.refl _)
   | (with_reducible exact LeO.none _)
   | (with_reducible refine LeO.ite ?_ ?_)
   | (with_reducible refine LeO.bind ?_ (fun _ => ?_))
   | exact ih0 _ _ _ _ _ _ _ _
   | exact ih1 _ _ _ _ _
   | exact ih2 _ _ _ _ _ _ _ _ _ _ _
   | exact ih3 _ _ _ _ _ _ _ _ _ _ _
   | exact LeO.none _
   | refine LeO.ite ?_ ?_
   | refine LeO.bind ?_ (fun _ => ?_)
  ·intro y0 y1 y2 y3 y4 y5 y6 y7 y8 y9 y10; unfold aC.l1; repeat' first
   | (with_reducible exact ih0 _ _ _ _ _ _ _ _)
   | (with_reducible exact ih1 _ _ _ _ _)
   | (with_reducible exact ih2 _ _ _ _ _ _ _ _ _ _ _)
   | (with_reducible exact ih3 _ _ _ _ _ _ _ _ _ _ _)
   | (with_reducible exact LeO.refl _)
   | (with_reducible exact LeO.none _)
   | (with_reducible refine LeO.ite ?_ ?_)
   | (with_reducible refine LeO.bind ?_ (fun _ => ?_))
   | exact ih0 _ _ _ _ _ _ _ _
   | exact ih1 _ _ _ _ _
   | exact ih2 _ _ _ _ _ _ _ _ _ _ _
   | exact ih3 _ _ _ _ _ _ _ _ _ _ _
   | exact LeO.none _
   | refine LeO.ite ?_ ?_
   | refine LeO.bind ?_ (fun _ => ?_)
theorem aC.mono : ∀ a0 a1 a2 a3 a4 a5 a6 a7 k, LeO (aC.f k a0 a1 a2 a3 a4 a5 a6 a7) (aC.f (k + 1) a0 a1 a2 a3 a4 a5 a6 a7) := by
 intro a0 a1 a2 a3 a4 a5 a6 a7 k; obtain ⟨ih0, ih1, ih2, ih3⟩ := aC.iU k; exact ih0 a0 a1 a2 a3 a4 a5 a6 a7
def aC.T8 : Bool × List (List Nat × List Nat) := (true, [([], []), ([0], [0]), ([], []), ([], []), ([3], [3]), ([], []), ([4, 5], [4, 5]), ([6], [6]), ([2, 7], [2, 7]), ([8], [8]), ([1, 9, 8], [1, 9]), ([0, 1, 2, 3, 4, 5, 6, 7, 8, 9, 10], []), ([11, 10, 10, 0, 1, 2, 3, 4, 5, 6, 7, 8, 9, 10], [10, 11])])
def aC.B8 : List Nat := [0, 1, 0, 0, 8, 0, 56, 120, 252, 508, 1023, 2047, 4095]
theorem aC.tab8 : mf .any (opsOf Try.f8 8) = aC.T8 := by kernel_rfl
theorem aC.bits8 : nW aC.T8.2 aC.B8 = true := by kernel_rfl
def aC.T13 : Bool × List (List Nat × List Nat) := (true, [([], []), ([0], [0]), ([], []), ([], []), ([3], [3]), ([4], [4]), ([5], [5]), ([2, 6], [2, 6]), ([7], [7]), ([1, 8, 7], [1, 8]), ([0, 1, 2, 3, 4, 5, 6, 7, 8, 9], []), ([10, 9, 9, 0, 1, 2, 3, 4, 5, 6, 7, 8, 9], [9, 10])])
def aC.B13 : List Nat := [0, 1, 0, 0, 8, 24, 56, 124, 252, 511, 1023, 2047]
theorem aC.tab13 : mf .any (opsOf Try.f8 13) = aC.T13 := by kernel_rfl
theorem aC.bits13 : nW aC.T13.2 aC.B13 = true := by kernel_rfl
def aC.T20 : Bool × List (List Nat × List Nat) := (true, [([], []), ([0], [0]), ([], []), ([], []), ([2, 3], [2, 3]), ([1, 4], [1, 4]), ([0, 1, 2, 3, 4, 5], []), ([6, 5, 4, 0, 1, 2, 3, 4, 5], [5, 6])])
def aC.B20 : List Nat := [0, 1, 0, 0, 12, 31, 63, 127]
theorem aC.tab20 : mf .any (opsOf Try.f8 20) = aC.T20 := by kernel_rfl
theorem aC.bits20 : nW aC.T20.2 aC.B20 = true := by kernel_rfl
set_option maxHeartbeats 8000000 in
set_option maxRecDepth 100000 in
theorem aC.calls (k : Nat) : ∀ (g : Nat) (dA : List Int) (gq : Int) (iA : Int) (dS : Int) (lv : Int) (mM : Int) (ng : Int) (A1_4 : Option Addr) (Ah : Nat) (gT : List (S27)) (r1 : Int) (r2 : List (S31)) (r3 : Int) (r4 : Int) (w0 w : World) (hI : au w0 w g dA gq iA) (hB : Below w0.heap.size w0 w) (hr1_4 : ∀ W_, aJ w W_ g none → Kd.C k27 W_ A1_4 gT.length gT) (hc1_4 : gT.length ≤ Ah) (h : aC.f k dA gq iA dS lv mM ng gT = some (r1, r2, r3, r4)),
  Calls Try.prog 8 #[.pointer (some ⟨g, 0, none⟩), .agg #[.int .i64 dS, .int .i64 lv, .int .i64 mM, .int .i64 ng, .slice A1_4 gT.length Ah]] w fun e w' => ∃ v1_ : Value, e = .returned (.agg #[.int .i64 r1, v1_]) ∧ Kd.R k31 31 w' w.heap.size (fun _ => True) v1_ r2 ∧ au w0 w' g dA r3 r4 ∧ Below w0.heap.size w0 w' ∧ aJ w w' g none := by
 induction k using Nat.strongRecOn with
 | _ k ih =>
 intro g dA gq iA dS lv mM ng A1_4 Ah gT r1 r2 r3 r4 w0 w hI hB hr1_4 hc1_4 h; cases k with
 | zero => exact absurd h (by simp [aC.f])
 | succ k =>
 simp only [aC.f] at h; have rY := Try.underlying27; have hu31 := Try.underlying31; have iF := aa.mk hr1_4; have HC1_4 := aa.mk hc1_4; clear hr1_4 hc1_4; have HI0 := aa.mk hI; have HK := aa.mk (aJ.refl w g none); have HL := aa.mk hB.size; clear hI; have HW0 := aa.mk hB.size; have HB := aa.mk hB; clear hB; have H : (if dS = 5 then (aC.l0 k 0 dA gq iA dS lv mM ng gT 0 ([] : List (S31))) else (if dS = 6 then ((dz.f dA gq iA (wrap64 (ng + 1))).bind fun KG => (aC.l1 k KG.1 dA KG.2.1 KG.2.2 dS lv mM ng gT 0 ([] : List (S31)))) else (if dS = 1 then ((dz.f dA gq iA 2).bind fun KH => (aC.j2 k dA KH.2.1 KH.2.2 KH.1 ([] : List (S31)))) else (if dS = 2 then ((dK.f dA gq iA lv (mn mM (wrap64 (lv + 5)))).bind fun Cx => (aC.j2 k dA Cx.2.1 Cx.2.2 Cx.1 ([] : List (S31)))) else ((dz.f dA gq iA 4).bind fun KI => (aC.j2 k dA KI.2.1 KI.2.2 KI.1 ([] : List (S31)))))))) = some (r1, r2, r3, r4) := h; clear h; have HC3 := aa.mk H; clear H; go_enter Try.func8, Try.ntmps8; go_upto_block 0 with (first | ((with_reducible refine bu (N := 3) rfl ?_); (try (refine dx (by rfl) ?_; dsimp only)); refine bz ?hg (N := 3) ?hd (cs := #[.int .i64 dS, .int .i64 lv, .int .i64 mM, .int .i64 ng, .slice A1_4 gT.length Ah]) (t := 27) ?hr ?_; (case hd => rfl); (case hg => rfl); (case hr => first | (go_simp; done) | (go_simp; rfl)); intro nu hg w4 aU hb; have gy := aa.mk (aU); have lC := aa.mk ((by rw [hg]; exact (jh (w := w) (g := g) (row := none) (by repeat (first | (with_reducible first | exact HK.out | apply aJ.fF | apply bJ | apply bN | apply bK) | exact HK.out))) : w.heap.size ≤ nu)); have Mq := aa.mk ((Nat.le_trans HW0.out (by rw [hg]; exact (jh (w := w) (g := g) (row := none) (by repeat (first | (with_reducible first | exact HK.out | apply aJ.fF | apply bJ | apply bN | apply bK) | exact HK.out))) : w.heap.size ≤ nu) : w0.heap.size ≤ nu)); have rE := aa.mk ((by rw [hg]; exact Nat.ne_of_lt (au.lt (show au w0 _ g dA gq iA from si_)) : g ≠ nu)); have rF := aa.mk ((by rw [hg]; exact Nat.ne_of_gt (au.lt (show au w0 _ g dA gq iA from si_)) : nu ≠ g)); replace HI0 := aa.mk (au.below si_ hb); replace HK := aa.mk (aJ.trans (by repeat (first | (with_reducible first | exact HK.out | apply aJ.fF | apply bJ | apply bN | apply bK) | exact HK.out)) (aJ.of_below hb g none) (.inl rfl)); replace HB := aa.mk (ay bl_ hb); clear hb aU hg) | ((with_reducible refine bu (N := 4) rfl ?_); (try (refine dx (by rfl) ?_; dsimp only)); refine bz ?hg (N := 4) ?hd (cs := #[.int .i64 0, .slice none 0 0]) (t := 31) ?hr ?_; (case hd => rfl); (case hg => rfl); (case hr => first | (go_simp; done) | (go_simp; rfl)); intro iL hg w5 aU hb; have jy := aa.mk (aU); have jI := aa.mk ((by rw [hg]; exact (jh (w := w) (g := g) (row := none) (by repeat (first | (with_reducible first | exact HK.out | apply aJ.fF | apply bJ | apply bN | apply bK | refine bn ?_ lC.out _) | exact HK.out))) : w.heap.size ≤ iL)); have Em := aa.mk ((Nat.le_trans HW0.out (by rw [hg]; exact (jh (w := w) (g := g) (row := none) (by repeat (first | (with_reducible first | exact HK.out | apply aJ.fF | apply bJ | apply bN | apply bK | refine bn ?_ lC.out _) | exact HK.out))) : w.heap.size ≤ iL) : w0.heap.size ≤ iL)); have xS := nl_ gy hg; have xU := ng_ gy hg; have rG := aa.mk ((by rw [hg]; exact Nat.ne_of_lt (au.lt (show au w0 _ g dA gq iA from si_)) : g ≠ iL)); have rH := aa.mk ((by rw [hg]; exact Nat.ne_of_gt (au.lt (show au w0 _ g dA gq iA from si_)) : iL ≠ g)); replace HI0 := aa.mk (au.below si_ hb); replace gy := kb_ gy hb; replace HK := aa.mk (aJ.trans (by repeat (first | (with_reducible first | exact HK.out | apply aJ.fF | apply bJ | apply bN | apply bK | refine bn ?_ lC.out _) | exact HK.out)) (aJ.of_below hb g none) (.inl rfl)); replace HB := aa.mk (ay bl_ hb); clear hb aU hg) | ((with_reducible refine bu (N := 5) rfl ?_); (try (refine dx (by rfl) ?_; dsimp only)); refine bz ?hg (N := 5) ?hd (cs := #[.int .i64 0, .slice none 0 0]) (t := 31) ?hr ?_; (case hd => rfl); (case hg => rfl); (case hr => first | (go_simp; done) | (go_simp; rfl)); intro ik hg w6 aU hb; have gF := aa.mk (aU); have j5 := aa.mk ((by rw [hg]; exact (jh (w := w) (g := g) (row := none) (by repeat (first | (with_reducible first | exact HK.out | apply aJ.fF | apply bJ | apply bN | apply bK | refine bn ?_ lC.out _ | refine bn ?_ jI.out _) | exact HK.out))) : w.heap.size ≤ ik)); have En := aa.mk ((Nat.le_trans HW0.out (by rw [hg]; exact (jh (w := w) (g := g) (row := none) (by repeat (first | (with_reducible first | exact HK.out | apply aJ.fF | apply bJ | apply bN | apply bK | refine bn ?_ lC.out _ | refine bn ?_ jI.out _) | exact HK.out))) : w.heap.size ≤ ik) : w0.heap.size ≤ ik)); have nJ := nl_ gy hg; have qa := ng_ gy hg; have lL := nl_ jy hg; have uq := ng_ jy hg; have oo := aa.mk ((by rw [hg]; exact Nat.ne_of_lt (au.lt (show au w0 _ g dA gq iA from si_)) : g ≠ ik)); have oq := aa.mk ((by rw [hg]; exact Nat.ne_of_gt (au.lt (show au w0 _ g dA gq iA from si_)) : ik ≠ g)); replace HI0 := aa.mk (au.below si_ hb); replace gy := kb_ gy hb; replace jy := kb_ jy hb; replace HK := aa.mk (aJ.trans (by repeat (first | (with_reducible first | exact HK.out | apply aJ.fF | apply bJ | apply bN | apply bK | refine bn ?_ lC.out _ | refine bn ?_ jI.out _) | exact HK.out)) (aJ.of_below hb g none) (.inl rfl)); replace HB := aa.mk (ay bl_ hb); clear hb aU hg; have hnb7 := xS.out; have hnc7 := xU.out; have hnb8 := nJ.out; have hnc8 := qa.out; have hnb9 := rF.out; have hnc9 := rE.out; obtain ⟨qB, qC, rJ, rM, rO, qD, qE, rP, rQ, rR⟩ := bQ gy.out))
 (try simp only [Act.put, List.setIfInBounds_toArray, List.set_cons_zero, List.set_cons_succ])
 go_cut [] (fun wc => ∃ (kq : Nat) (yL : Int) (yM : Int) (iD : Int) (jQ : List (S31)) (iK : Value), aa (aC.j2 kq dA yL yM iD jQ = some (r1, r2, r3, r4)) ∧ aa (kq ≤ k) ∧ aa (Kd.R k31 31 wc w.heap.size (fun k_ => k_ ≠ iL ∧ k_ ≠ ik) iK jQ) ∧ aa (wc.heap[iL]? = some (.cells #[.int .i64 0, (.slice none 0 0)] 31 (0, 0))) ∧ aa (wc.heap[ik]? = some (.cells #[.int .i64 iD, iK] 31 (0, 0))) ∧ aa (au w0 wc g dA yL yM) ∧ aa (aJ w wc g none) ∧ aa (Below w0.heap.size w0 wc))
 case first =>
  have H := HC3.out; clear HC3; by_cases c11 : dS = 5
  ·rw [if_pos c11] at H; have Ay : (dS == 5) = true := beq_iff_eq.mpr c11; have c11b1 : (dS != 5) = false := bne_eq_false_iff_eq.mpr c11; clear c11; (first | rw [Ay] | (simp only [eQ, fe]; rw [Ay]) | skip)
   have H' := aa.mk H; clear H; go_wp2; go_loopg [6] k (fun kq v6 w' => ∃ (ig : Int) (qF : Int) (qG : Int) (ku : List (S31)) (iK : Value), v6 = .int .i64 ig ∧ aa (aC.l0 kq ig dA qF qG dS lv mM ng gT 0 ku = some (r1, r2, r3, r4)) ∧ aa (kq ≤ k) ∧ aa (Kd.R k31 31 w' w.heap.size (fun k_ => k_ ≠ iL ∧ k_ ≠ ik) iK ku) ∧ aa (w'.heap[nu]? = some (.cells #[.int .i64 dS, .int .i64 lv, .int .i64 mM, .int .i64 ng, (.slice A1_4 gT.length Ah)] 27 (0, 0))) ∧ aa (w'.heap[iL]? = some (.cells #[.int .i64 0, (.slice none 0 0)] 31 (0, 0))) ∧ aa (w'.heap[ik]? = some (.cells #[.int .i64 0, iK] 31 (0, 0))) ∧ aa (au w0 w' g dA qF qG) ∧ aa (aJ w w' g none) ∧ aa (Below w0.heap.size w0 w'))
   case atStart => exact ⟨(0), (gq), (iA), (([] : List (S31))), (.slice none 0 0), rs_, H', ⟨Nat.le_refl _⟩, ⟨by first | exact Kd.jv _ _ _ _ _ | exact Kd.kV _ _ _ _ _ | exact Kd.jZ _ _ _ _ _ | exact Kd.kT _ _ _ _ _ | exact Kd.kU _ _ _ _ _⟩, ⟨bk_⟩, ⟨bk_⟩, ⟨bk_⟩, ⟨si_⟩, ⟨by repeat (first | (with_reducible first | exact HK.out | apply aJ.fF | apply bJ | apply bN | apply bK | refine bn ?_ lC.out _ | refine bn ?_ jI.out _ | refine bn ?_ j5.out _) | exact HK.out)⟩, ⟨bl_⟩⟩
   case round =>
    clear H'; (try clear c1); (try clear p2); (try clear p6); (try clear c7); (try clear c8); (try clear c9); (try clear c11); (try clear Ay); (try clear c11b1); (try clear qB qC rJ rM rO qD qE rP rQ rR); obtain ⟨ig, qF, qG, ku, iK, rfl, HA, HK1, dX, gy, jy, gF, HI0, HK, HB⟩ := hrel; cases gk with
    | zero => exact absurd HA.out (by simp [aC.l0])
    | succ k1 =>
     have H := HA.out; clear HA; simp only [aC.l0] at H; by_cases c12 : ig < (gT.length : Int)
     ·rw [if_pos c12] at H; have uu : decide (ig < (gT.length : Int)) = true := decide_eq_true c12; clear c12; by_cases c13 : 0 ≤ ig
      ·rw [if_pos c13] at H; have uw : decide (0 ≤ ig) = true := decide_eq_true c13; clear c13; replace H := Option.bind_eq_some_iff.mp H; obtain ⟨⟨t163, t164, t167, t168⟩, A140, H⟩ := H; replace H : (if ku.length < 4398046511104 then (aC.l0 k1 (wrap64 (ig + 1)) dA t167 t168 dS lv mM ng gT 0 (ku ++ [(⟨t163, t164⟩ : S31)])) else (none)) = some (r1, r2, r3, r4) := H; have A14 := aa.mk A140; clear A140; by_cases c15 : ku.length < 4398046511104
       ·rw [if_pos c15] at H; have LMc15 := aa.mk c15; clear c15; obtain ⟨y169, Po⟩ : ∃ y_ : List (S31), y_ = (ku ++ [(⟨t163, t164⟩ : S31)]) := ⟨_, rfl⟩; replace H : (aC.l0 k1 (wrap64 (ig + 1)) dA t167 t168 dS lv mM ng gT 0 y169) = some (r1, r2, r3, r4) := by first | (rw [Po]; with_reducible exact H) | (have H2_ := (Option.bind_some _ _).symm.trans H; rw [Po]; with_reducible exact H2_) | (have H2_ := (Option.bind_some _ _).symm.trans H; with_reducible exact H2_) | with_reducible exact H | (rw [Po]; exact H) | exact H
        have Ny169 := aa.mk Po; clear Po; have H' := aa.mk H; clear H; have Mr := xS.out; have Ms := xU.out; have hnb17 := nJ.out; have hnc17 := qa.out; have hnb18 := rF.out; have hnc18 := rE.out; obtain ⟨Jh, Ji, Rt, Ru, Rv, Jj, Jk, Rw, Rx, Ry⟩ := bQ gy.out; try go_wp2
        replace dX := aa.mk (Kd.fI dX.out); replace gy := aa.mk (ai gy.out); replace jy := aa.mk (ai jy.out); replace gF := aa.mk (ai gF.out); replace HI0 := aa.mk (au.drew HI0.out); replace HK := aa.mk (bN HK.out); replace HB := aa.mk (bV HB.out); have p162 : 0 ≤ (ig : Int) := dt_; have q162 : ig < (gT.length : Int) := dt_; obtain ⟨pK, A162_4, c162_4, e162, Jl, Jm, Jn, Jo, FN, UX, Rz⟩ := gQ (Kd.O9 iF.out HK.out) ig p162 q162; have hw162_4 := FN; have hw162_3 := Jo; have hw162_2 := Jn; have hw162_1 := Jm; have hw162_0 := Jl; replace Rz := Lf iF.out HK.out p162 q162 e162 FN; cases e162; have OD := (show (⟨(pK.add ((ig).toNat * 5)).block, (pK.add ((ig).toNat * 5)).off + 4, none⟩ : Addr).block ≠ g from by first | (rw [add_block]; exact Kd.ib iF.out (by omega) (by decide)) | (show (Addr.add _ _).block ≠ _; rw [add_block]; exact Kd.ib iF.out (by omega) (by decide)) | exact Kd.ib iF.out (by omega) (by decide) | (dsimp only; exact Kd.ib iF.out (by omega) (by decide))); have hlt162_4 := (Kd.wD iF.out (by omega) (by decide)); have OE := (show (⟨(pK.add ((ig).toNat * 5)).block, (pK.add ((ig).toNat * 5)).off + 3, none⟩ : Addr).block ≠ g from by first | (rw [add_block]; exact Kd.ib iF.out (by omega) (by decide)) | (show (Addr.add _ _).block ≠ _; rw [add_block]; exact Kd.ib iF.out (by omega) (by decide)) | exact Kd.ib iF.out (by omega) (by decide) | (dsimp only; exact Kd.ib iF.out (by omega) (by decide))); have hlt162_3 := (Kd.wD iF.out (by omega) (by decide)); have OG := (show (⟨(pK.add ((ig).toNat * 5)).block, (pK.add ((ig).toNat * 5)).off + 2, none⟩ : Addr).block ≠ g from by first | (rw [add_block]; exact Kd.ib iF.out (by omega) (by decide)) | (show (Addr.add _ _).block ≠ _; rw [add_block]; exact Kd.ib iF.out (by omega) (by decide)) | exact Kd.ib iF.out (by omega) (by decide) | (dsimp only; exact Kd.ib iF.out (by omega) (by decide))); have hlt162_2 := (Kd.wD iF.out (by omega) (by decide)); have OH := (show (⟨(pK.add ((ig).toNat * 5)).block, (pK.add ((ig).toNat * 5)).off + 1, none⟩ : Addr).block ≠ g from by first | (rw [add_block]; exact Kd.ib iF.out (by omega) (by decide)) | (show (Addr.add _ _).block ≠ _; rw [add_block]; exact Kd.ib iF.out (by omega) (by decide)) | exact Kd.ib iF.out (by omega) (by decide) | (dsimp only; exact Kd.ib iF.out (by omega) (by decide))); have hlt162_1 := (Kd.wD iF.out (by omega) (by decide)); have OI := (show ((pK.add ((ig).toNat * 5)) : Addr).block ≠ g from by first | (rw [add_block]; exact Kd.ib iF.out (by omega) (by decide)) | (show (Addr.add _ _).block ≠ _; rw [add_block]; exact Kd.ib iF.out (by omega) (by decide)) | exact Kd.ib iF.out (by omega) (by decide) | (dsimp only; exact Kd.ib iF.out (by omega) (by decide)))
        have hlt162_0 := (Kd.wD iF.out (by omega) (by decide)); have UY := aa.mk Rz; have HC162_4 := aa.mk UX; clear Rz UX; replace p162 := eq_true p162; replace q162 := eq_true q162; refine qQ (n := 13) (S := fun w' => w'.cell? ⟨ik, 0, none⟩ = some (.int .i64 0) ∧ w'.cell? ⟨ik, 1, none⟩ = some (iK) ∧ w'.cell? ⟨nu, 0, none⟩ = some (.int .i64 dS) ∧ w'.cell? ⟨nu, 1, none⟩ = some (.int .i64 lv) ∧ w'.cell? ⟨nu, 2, none⟩ = some (.int .i64 mM) ∧ w'.cell? ⟨nu, 3, none⟩ = some (.int .i64 ng) ∧ w'.cell? ⟨nu, 4, none⟩ = some (.slice (some pK) gT.length Ah) ∧ w'.cell? (pK.add ((ig).toNat * 5)) = some (.int .i64 ((aj gT ig).f0)) ∧ w'.cell? ⟨(pK.add ((ig).toNat * 5)).block, (pK.add ((ig).toNat * 5)).off + 1, none⟩ = some (.int .i64 ((aj gT ig).f1)) ∧ w'.cell? ⟨(pK.add ((ig).toNat * 5)).block, (pK.add ((ig).toNat * 5)).off + 2, none⟩ = some (.int .i64 ((aj gT ig).f2)) ∧ w'.cell? ⟨(pK.add ((ig).toNat * 5)).block, (pK.add ((ig).toNat * 5)).off + 3, none⟩ = some (.int .i64 ((aj gT ig).f3)) ∧ w'.cell? ⟨(pK.add ((ig).toNat * 5)).block, (pK.add ((ig).toNat * 5)).off + 4, none⟩ = some (.slice A162_4 ((aj gT ig).f4).length c162_4)) (ds := [10, 12]) #[false, false, false, false, false, false, false, false, false, false, false, false, false] (by kernel_rfl) rfl rfl ⟨(aA gF.out 0).trans rfl, (aA gF.out 1).trans rfl, (aA gy.out 0).trans rfl, (aA gy.out 1).trans rfl, (aA gy.out 2).trans rfl, (aA gy.out 3).trans rfl, (aA gy.out 4).trans rfl, Jl, Jm, Jn, Jo, FN⟩ (fun hHeld => ?_); refine mO aC.tab8 aC.bits8 (fun HT_ HW_ => ?_)
        generalize wr.drew = w20 at dX gy jy gF HI0 HK HB UY Jl Jm Jn Jo FN hHeld ⊢
        refine pu_ HT_ 0 22 (bm 13 1) ?_
        refine pu_ HT_ 2 24 (bm 13 5) ?_
        refine pu_ HT_ 3 25 (bm 13 13) ?_
        refine pu_ HT_ 5 27 (bm 13 45) ?_
        refine ta_ HT_ HW_ 1 23 (bm 13 47) hHeld ?_
        refine ta_ HT_ HW_ 4 26 (bm 13 63) hHeld ?_
        refine pu_ HT_ 6 28 (bm 13 127) ?_
        refine ta_ HT_ HW_ 7 29 (bm 13 255) hHeld ?_
        refine qJ (i := 8) (N := some 30) #[true, true, true, true, true, true, true, true, true, false, false, false, false] rfl rfl (kL HT_.out (by kernel_rfl)) (by decide) (fun K hK => ?_)
        refine xI Try.func8 (by kernel_rfl) rfl #[.pointer (some ⟨g, 0, none⟩), .agg #[.int .i64 ((aj gT ig).f0), .int .i64 ((aj gT ig).f1), .int .i64 ((aj gT ig).f2), .int .i64 ((aj gT ig).f3), .slice A162_4 ((aj gT ig).f4).length c162_4]] (by rfl) rfl rfl mp_ ?_
        with_reducible refine (ih k1 (by have := HK1.out; omega) g dA qF qG ((aj gT ig).f0) ((aj gT ig).f1) ((aj gT ig).f2) ((aj gT ig).f3) _ _ ((aj gT ig).f4) t163 t164 t167 t168 w0 _ ?aX ?aY ?gz ?gL A14.out).mono ?_
        (case aX => repeat (first | (with_reducible first | exact HI0.out | apply au.alloc | apply au.drewN | apply au.drew | apply au.jL | apply au.jM | refine au.far ?_ rE.out _ | refine au.far ?_ rG.out _ | refine au.far ?_ oo.out _) | exact HI0.out))
        (case aY => repeat (first | (with_reducible first | exact HB.out | apply dC | apply bR | apply bV | refine bI ?_ (au.ge HI0.out) | refine bI ?_ Mq.out | refine bI ?_ Em.out | refine bI ?_ En.out) | exact HB.out))
        (case gz => exact Kd.Ot UY.out (by repeat (first | (with_reducible first | exact HK.out | apply aJ.fF | apply bJ | apply bN | apply bK | refine bn ?_ lC.out _ | refine bn ?_ jI.out _ | refine bn ?_ j5.out _) | exact HK.out)))
        (case gL => exact HC162_4.out)
        rintro e w21 ⟨v165, rfl, ho0, hi, hb, hk⟩
        have HS7_ := nG hk (hHeld.2.2.2.2.2.2.2.1) (by first | (rw [add_block]; exact OI) | (show (Addr.add _ _).block ≠ _; rw [add_block]; exact OI) | exact OI); have HS8_ := nG hk (hHeld.2.2.2.2.2.2.2.2.1) (by first | (rw [add_block]; exact OH) | (show (Addr.add _ _).block ≠ _; rw [add_block]; exact OH) | exact OH); have HS9_ := nG hk (hHeld.2.2.2.2.2.2.2.2.2.1) (by first | (rw [add_block]; exact OG) | (show (Addr.add _ _).block ≠ _; rw [add_block]; exact OG) | exact OG); have HS10_ := nG hk (hHeld.2.2.2.2.2.2.2.2.2.2.1) (by first | (rw [add_block]; exact OE) | (show (Addr.add _ _).block ≠ _; rw [add_block]; exact OE) | exact OE); have HS11_ := nG hk (hHeld.2.2.2.2.2.2.2.2.2.2.2) (by first | (rw [add_block]; exact OD) | (show (Addr.add _ _).block ≠ _; rw [add_block]; exact OD) | exact OD); refine ⟨_, rfl, ?_⟩
        have HO166 := aa.mk (Kd.gm (Kd.pX (Kd.pX (Kd.oH ho0 (Kd.ou (pR_ dX.out))) (g := iL) (o := .cells #[.int .i64 0, .slice none 0 0] 31 (0, 0)) bk_) (g := ik) (o := .cells #[.int .i64 0, iK] 31 (0, 0)) bk_) (jh (w := w) (g := g) (row := none) (by repeat (first | (with_reducible first | exact HK.out | apply aJ.fF | apply bJ | apply bN | apply bK | refine bn ?_ lC.out _ | refine bn ?_ jI.out _ | refine bn ?_ j5.out _) | exact HK.out)))); replace dX := aa.mk (Kd.dn (Kd.R_told (Kd.R_oldK (au.apart (show au w0 _ g dA qF qG from si_) (pR_ dX.out) (by decide)) hk) (Kd.eZ ho0)) (fun _ h_ => h_.1)); replace gy := aa.mk (aJ.blk hk (g' := nu) (o := .cells #[.int .i64 dS, .int .i64 lv, .int .i64 mM, .int .i64 ng, .slice (some pK) gT.length Ah] 27 (0, 0)) bk_ rF.out (by simp)); replace jy := aa.mk (aJ.blk hk (g' := iL) (o := .cells #[.int .i64 0, .slice none 0 0] 31 (0, 0)) bk_ rH.out (by simp)); replace gF := aa.mk (aJ.blk hk (g' := ik) (o := .cells #[.int .i64 0, iK] 31 (0, 0)) bk_ oq.out (by simp)); replace HK := aa.mk (aJ.trans (by repeat (first | (with_reducible first | exact HK.out | apply aJ.fF | apply bJ | apply bN | apply bK | refine bn ?_ lC.out _ | refine bn ?_ jI.out _ | refine bn ?_ j5.out _) | exact HK.out)) hk (.inl rfl)); replace HB := aa.mk (hb); replace HI0 := aa.mk (hi); (try clear hb)
        (try clear hb2)
        (try clear hk)
        (try clear hi)
        (try clear ho0)
        obtain ⟨Fa, Fb, eo23⟩ := Kd.fH HO166.out; (first | subst eo23 | (injection eo23 with f1_ f2_ f3_; have f4_ := f1_.symm; have f5_ := f3_.symm; clear f1_ f2_ f3_; subst f4_; subst f5_))
        refine hK.out _ _ ⟨(aA gF.out 0).trans rfl, (aA gF.out 1).trans rfl, (aA gy.out 0).trans rfl, (aA gy.out 1).trans rfl, (aA gy.out 2).trans rfl, (aA gy.out 3).trans rfl, (aA gy.out 4).trans rfl, HS7_, HS8_, HS9_, HS10_, HS11_⟩ (fun hHeld => ?_)
        clear hK K; refine iH (a' := ?_) ?_ ?_
        rotate_left
        ·show Act.put _ (some 30) _ = _
         simp only [Act.put, List.setIfInBounds_toArray, List.set_cons_zero, List.set_cons_succ, eQ, fe]; rfl
        refine qJ (i := 9) (N := some 31) #[true, true, true, true, true, true, true, true, true, true, false, false, false] rfl rfl (kL HT_.out (by kernel_rfl)) (by decide) (fun K hK => ?_)
        refine O6 (w1 := ?_) (v := ?_) (by rfl) rfl ?_ ?_
        rotate_left 2
        ·go_simp; constructor
         ·rfl
         ·rfl
        refine hK.out _ _ ⟨(aA (af gF.out _) 0).trans rfl, (aA (af gF.out _) 1).trans rfl, (aA (af gy.out _) 0).trans rfl, (aA (af gy.out _) 1).trans rfl, (aA (af gy.out _) 2).trans rfl, (aA (af gy.out _) 3).trans rfl, (aA (af gy.out _) 4).trans rfl, (World.cell?_alloc_lt _ _ _ (World.block_lt_of_cell? _ _ (hHeld.2.2.2.2.2.2.2.1))).trans (hHeld.2.2.2.2.2.2.2.1), (World.cell?_alloc_lt _ _ _ (World.block_lt_of_cell? _ _ (hHeld.2.2.2.2.2.2.2.2.1))).trans (hHeld.2.2.2.2.2.2.2.2.1), (World.cell?_alloc_lt _ _ _ (World.block_lt_of_cell? _ _ (hHeld.2.2.2.2.2.2.2.2.2.1))).trans (hHeld.2.2.2.2.2.2.2.2.2.1), (World.cell?_alloc_lt _ _ _ (World.block_lt_of_cell? _ _ (hHeld.2.2.2.2.2.2.2.2.2.2.1))).trans (hHeld.2.2.2.2.2.2.2.2.2.2.1), (World.cell?_alloc_lt _ _ _ (World.block_lt_of_cell? _ _ (hHeld.2.2.2.2.2.2.2.2.2.2.2))).trans (hHeld.2.2.2.2.2.2.2.2.2.2.2)⟩ (fun hHeld => ?_)
        clear hK K; refine iH (a' := ?_) ?_ ?_
        rotate_left
        ·show Act.put _ (some 31) _ = _
         simp only [Act.put, List.setIfInBounds_toArray, List.set_cons_zero, List.set_cons_succ, eQ, fe]; rfl
        refine Kw (i := 10) (N := some 32) #[true, true, true, true, true, true, true, true, true, true, true, false, false] rfl rfl (kL HT_.out (by kernel_rfl)) (by decide) (fun K hK => ?_)
        refine Kd.Av k31 w.heap.size (by rfl) (.tmp 23) (.tmp 31) 29 31 (.agg #[(.int .i64 0), (.slice none 0 0)]) 32 rfl Try.underlying29 Jf rfl (by decide) (by omega) iK ku (⟨t163, t164⟩ : S31) [.int .i64 t163, .slice Fa t164.length Fb] (fun k_ => k_ ≠ iL ∧ k_ ≠ ik) (fun k_ => ((fun k_ => k_ ≠ iL ∧ k_ ≠ ik)) k_ ∧ some k_ ≠ (iK : Value).ownBlock) rfl rfl ?aP (fun _ hk => hk) ?aF ?aO (Below.refl _ _) ?aS ?aL ?_
        (case aP => exact Bh _ _ _ (⟨t163, t164⟩ : S31) (Kd.dn (HO166.out) (fun k_ hk => ⟨⟨hk.1.2, hk.2⟩, hk.1.1.2⟩)))
        (case aF => exact (fun k_ hk => ⟨Kd.dY (g := iL) (o := .cells #[.int .i64 0, .slice none 0 0] 31 (0, 0)) bk_ k_ hk, Kd.dY (g := ik) (o := .cells #[.int .i64 0, iK] 31 (0, 0)) bk_ k_ hk⟩))
        (case aO => exact (by (with_reducible repeat (first | apply Kd.fQ | apply Kd.fT | apply Kd.fI)); exact Kd.dn dX.out (fun _ hk => ⟨hk.1.1, hk.1.2⟩)))
        (case aS => exact (jh (w := w) (g := g) (row := none) (by repeat (first | (with_reducible first | exact HK.out | apply aJ.fF | apply bJ | apply bN | apply bK | refine bn ?_ lC.out _ | refine bn ?_ jI.out _ | refine bn ?_ j5.out _) | exact HK.out))))
        (case aL => have := LMc15.out; omega)
        intro v170 w22 ho hb hg hat; rw [← Ny169.out] at ho; have HO171 := aa.mk (ho); replace gy := aa.mk (iq (g := nu) (o := .cells #[.int .i64 dS, .int .i64 lv, .int .i64 mM, .int .i64 ng, .slice (some pK) gT.length Ah] 27 (0, 0)) bk_ hg (Kd.xB dX.out gy.out (by decide))); replace jy := aa.mk (iq (g := iL) (o := .cells #[.int .i64 0, .slice none 0 0] 31 (0, 0)) bk_ hg (Kd.xM dX.out (fun _ hk => hk.1.1))); replace gF := aa.mk (iq (g := ik) (o := .cells #[.int .i64 0, iK] 31 (0, 0)) bk_ hg (Kd.xM dX.out (fun _ hk => hk.1.2))); replace HI0 := aa.mk (au.grown si_ hg (au.own_ne HI0.out dX.out (by decide))); replace HB := aa.mk (xN bl_ HL.out hb); replace HK := aa.mk (aJ.trans (by repeat (first | (with_reducible first | exact HK.out | apply aJ.fF | apply bJ | apply bN | apply bK | refine bn ?_ lC.out _ | refine bn ?_ jI.out _ | refine bn ?_ j5.out _) | exact HK.out)) (aJ.AR hg g) (Kd.L6 dX.out)); clear dX HO166; clear ho hb hg hat; obtain ⟨Fe, De, eo24⟩ := Kd.fH HO171.out; (first | subst eo24 | (injection eo24 with f1_ f2_ f3_; have f4_ := f1_.symm; have f5_ := f3_.symm; clear f1_ f2_ f3_; subst f4_; subst f5_))
        refine hK.out _ _ ?_
        clear hK K; refine iH (a' := ?_) ?_ ?_
        rotate_left
        ·show Act.put _ (some 32) _ = _
         simp only [Act.put, List.setIfInBounds_toArray, List.set_cons_zero, List.set_cons_succ, eQ, fe]; rfl
        refine pu_ HT_ 11 33 (bm 13 4095) ?_
        refine Kw (i := 12) (N := none) #[true, true, true, true, true, true, true, true, true, true, true, true, true] rfl rfl (kL HT_.out (by kernel_rfl)) (by decide) (fun K hK => ?_)
        have hs25 : w22.cell? ⟨ik, 1, none⟩ = some (iK) := (aA gF.out 1).trans rfl; have hfs25 := fE gF.out 1; have hns25_0 := nJ.out; have hns25_1 := lL.out; have hms25_0 := qa.out; have hms25_1 := uq.out; refine Kz (w1 := ?_) (by rfl) rfl ?_ ?_
        rotate_left
        ·go_simp; rfl
        refine hK.out _ _ ?_
        clear hK K; refine uG (qp HT_.out (by kernel_rfl)) ?_
        try go_wp2
        go_roundg k1
        case measure => have := HK1.out; omega
        case rel => exact ⟨(wrap64 (ig + 1)), (t167), (t168), (y169), (.slice Fe y169.length De), rs_, H', ⟨by have := HK1.out; omega⟩, ⟨by (with_reducible repeat (first | apply Kd.fQ | apply Kd.fT | apply Kd.fI)); exact Kd.dn (Kd.fB (p := ⟨ik, 1, none⟩) (Kd.dn HO171.out (fun k_ hk => (⟨hk, by first | exact hk.2 | exact hk.1 | exact hk.2 | exact hk.1.1 | exact hk.1.2⟩ : _ ∧ k_ ≠ ik))) (fun _ hk => hk.2) (.slice Fe y169.length De)) (fun _ hk => ⟨hk.1.1, hk.1.2⟩)⟩, ⟨by (with_reducible repeat (first | refine ah ?_ _ | refine ai ?_ | refine af ?_ _)); refine aQ ?_ nJ.out _; (with_reducible repeat (first | refine ah ?_ _ | refine ai ?_ | refine af ?_ _)); exact gy.out⟩, ⟨by (with_reducible repeat (first | refine ah ?_ _ | refine ai ?_ | refine af ?_ _)); refine aQ ?_ lL.out _; (with_reducible repeat (first | refine ah ?_ _ | refine ai ?_ | refine af ?_ _)); exact jy.out⟩, ⟨by (with_reducible repeat (first | refine ah ?_ _ | refine ai ?_ | refine af ?_ _)); refine aW (cs := #[.int .i64 0, iK]) ?_ 1 _ rfl; (with_reducible repeat (first | refine ah ?_ _ | refine ai ?_ | refine af ?_ _)); exact gF.out⟩, ⟨si_⟩, ⟨by repeat (first | (with_reducible first | exact HK.out | apply aJ.fF | apply bJ | apply bN | apply bK | refine bn ?_ lC.out _ | refine bn ?_ jI.out _ | refine bn ?_ j5.out _) | exact HK.out)⟩, ⟨bl_⟩⟩
       ·rw [if_neg c15] at H; exact absurd H (by simp)
      ·rw [if_neg c13] at H; exact absurd H (by simp)
     ·rw [if_neg c12] at H; have uu : decide (ig < (gT.length : Int)) = false := decide_eq_false c12; clear c12; have H' := aa.mk H; clear H; have hnb26 := xS.out; have hnc26 := xU.out; have Pk := nJ.out; have Pm := qa.out; have hnb28 := rF.out; have hnc28 := rE.out; obtain ⟨qx, qy, wF, wG, wH, qz, qA, wI, wJ, wK⟩ := bQ gy.out; go_wp2; go_meet
      case rel => exact ⟨_, (qF), (qG), (0), (ku), (iK), H', ⟨by have := HK1.out; first | omega | exact Nat.le_refl _⟩, ⟨pR_ dX.out⟩, ⟨bk_⟩, ⟨bk_⟩, ⟨si_⟩, ⟨by repeat (first | (with_reducible first | exact HK.out | apply aJ.fF | apply bJ | apply bN | apply bK | refine bn ?_ lC.out _ | refine bn ?_ jI.out _ | refine bn ?_ j5.out _) | exact HK.out)⟩, ⟨bl_⟩⟩
  ·rw [if_neg c11] at H; have Ay : (dS == 5) = false := beq_eq_false_iff_ne.mpr c11; have c11b1 : (dS != 5) = true := bne_iff_ne.mpr c11; (first | rw [Ay] | (simp only [eQ, fe]; rw [Ay]) | skip)
   by_cases c30 : dS = 6
   ·rw [if_pos c30] at H; have c30b0 : (dS == 6) = true := beq_iff_eq.mpr c30; have c30b1 : (dS != 6) = false := bne_eq_false_iff_eq.mpr c30; clear c30; replace H := Option.bind_eq_some_iff.mp H; obtain ⟨⟨t172, t173, t174⟩, A310, H⟩ := H; replace H : (aC.l1 k t172 dA t173 t174 dS lv mM ng gT 0 ([] : List (S31))) = some (r1, r2, r3, r4) := H; have A31 := aa.mk A310; clear A310; have H' := aa.mk H; clear H; have hnb32 := xS.out; have hnc32 := xU.out; have hnb33 := nJ.out; have hnc33 := qa.out; have hnb34 := rF.out; have hnc34 := rE.out; obtain ⟨wM, wN, wO, wP, wQ, wR, wS, wT, wU, wV⟩ := bQ gy.out; go_wp2_with (first | ((with_reducible refine aZ (f := 19) rfl ?_); refine cz (some 40) rfl rfl Try.func19 (by kernel_rfl) rfl #[.pointer (some ⟨g, 0, none⟩), .int .i64 (wrap64 (ng + 1))] rfl mp_ ?_; (with_reducible refine (dz.calls g dA gq iA (wrap64 (ng + 1)) t172 t173 t174 w0 _ ?aX ?aY A31.out).mono ?_); (case aX => repeat (first | (with_reducible first | exact HI0.out | apply au.alloc | apply au.drewN | apply au.drew | apply au.jL | apply au.jM | refine au.far ?_ rE.out _ | refine au.far ?_ rG.out _ | refine au.far ?_ oo.out _) | exact HI0.out)); (case aY => repeat (first | (with_reducible first | exact HB.out | apply dC | apply bR | apply bV | refine bI ?_ (au.ge HI0.out) | refine bI ?_ Mq.out | refine bI ?_ Em.out | refine bI ?_ En.out) | exact HB.out)); rintro e w36 ⟨rfl, hi, hb, hk⟩; refine ⟨_, rfl, ?_⟩; replace gy := aa.mk (aJ.blk hk (g' := nu) (o := .cells #[.int .i64 dS, .int .i64 lv, .int .i64 mM, .int .i64 ng, .slice A1_4 gT.length Ah] 27 (0, 0)) bk_ rF.out (by simp)); replace jy := aa.mk (aJ.blk hk (g' := iL) (o := .cells #[.int .i64 0, .slice none 0 0] 31 (0, 0)) bk_ rH.out (by simp)); replace gF := aa.mk (aJ.blk hk (g' := ik) (o := .cells #[.int .i64 0, .slice none 0 0] 31 (0, 0)) bk_ oq.out (by simp)); replace HK := aa.mk (aJ.trans (by repeat (first | (with_reducible first | exact HK.out | apply aJ.fF | apply bJ | apply bN | apply bK | refine bn ?_ lC.out _ | refine bn ?_ jI.out _ | refine bn ?_ j5.out _) | exact HK.out)) hk (.inl rfl)); replace HB := aa.mk (hb); replace HI0 := aa.mk (hi); (try clear hb); (try clear hb2); (try clear hk); (try clear hi)))
    go_loopg [7] k (fun kq v7 w' => ∃ (x7_1 : Int) (qF : Int) (qG : Int) (ku : List (S31)) (iK : Value), v7 = .int .i64 x7_1 ∧ aa (aC.l1 kq x7_1 dA qF qG dS lv mM ng gT 0 ku = some (r1, r2, r3, r4)) ∧ aa (kq ≤ k) ∧ aa (Kd.R k31 31 w' w.heap.size (fun k_ => k_ ≠ iL ∧ k_ ≠ ik) iK ku) ∧ aa (w'.heap[nu]? = some (.cells #[.int .i64 dS, .int .i64 lv, .int .i64 mM, .int .i64 ng, (.slice A1_4 gT.length Ah)] 27 (0, 0))) ∧ aa (w'.heap[iL]? = some (.cells #[.int .i64 0, (.slice none 0 0)] 31 (0, 0))) ∧ aa (w'.heap[ik]? = some (.cells #[.int .i64 0, iK] 31 (0, 0))) ∧ aa (au w0 w' g dA qF qG) ∧ aa (aJ w w' g none) ∧ aa (Below w0.heap.size w0 w'))
    case atStart => exact ⟨(t172), (t173), (t174), (([] : List (S31))), (.slice none 0 0), rs_, H', ⟨Nat.le_refl _⟩, ⟨by first | exact Kd.jv _ _ _ _ _ | exact Kd.kV _ _ _ _ _ | exact Kd.jZ _ _ _ _ _ | exact Kd.kT _ _ _ _ _ | exact Kd.kU _ _ _ _ _⟩, ⟨bk_⟩, ⟨bk_⟩, ⟨bk_⟩, ⟨si_⟩, ⟨by repeat (first | (with_reducible first | exact HK.out | apply aJ.fF | apply bJ | apply bN | apply bK | refine bn ?_ lC.out _ | refine bn ?_ jI.out _ | refine bn ?_ j5.out _) | exact HK.out)⟩, ⟨bl_⟩⟩
    case round =>
     clear H'; (try clear c1); (try clear p1); (try clear q1); (try clear hx1); (try clear c2); (try clear p2); (try clear c3); (try clear p6); (try clear c7); (try clear c8); (try clear c9); (try clear c11); (try clear Ay); (try clear c11b1); (try clear c12); (try clear uu); (try clear c13); (try clear uw); (try clear c15); (try clear c16); (try clear p16); (try clear q16); (try clear hx16); (try clear c17); (try clear c18); (try clear c19); (try clear c26); (try clear c27); (try clear c28); (try clear c30); (try clear c30b0); (try clear c30b1); (try clear c32); (try clear c33); (try clear c34); (try clear qB qC rJ rM rO qD qE rP rQ rR); (try clear Jh Ji Rt Ru Rv Jj Jk Rw Rx Ry); (try clear qx qy wF wG wH qz qA wI wJ wK); (try clear wM wN wO wP wQ wR wS wT wU wV); (try clear Jl); (try clear Jm); (try clear Jn); (try clear Jo); (try clear FN); (try clear p162); (try clear p2); (try clear p6); (try clear q162); obtain ⟨x7_1, qF, qG, ku, iK, rfl, HA, HK1, dX, gy, jy, gF, HI0, HK, HB⟩ := hrel; cases gk with
     | zero => exact absurd HA.out (by simp [aC.l1])
     | succ k1 =>
      have H := HA.out; clear HA; simp only [aC.l1] at H; by_cases c37 : x7_1 > 0
      ·rw [if_pos c37] at H; have Pp : decide (0 < x7_1) = true := decide_eq_true c37; clear c37; by_cases c38 : (gT.length : Int) > 0
       ·rw [if_pos c38] at H; have Pq : decide (0 < (gT.length : Int)) = true := decide_eq_true c38; have c38b1 : decide (0 < gT.length) = true := decide_eq_true (by omega); clear c38; by_cases c39 : 0 < (gT.length : Int)
        ·rw [if_pos c39] at H; have IE : decide (0 < (gT.length : Int)) = true := decide_eq_true c39; have Mt : decide (0 < gT.length) = true := decide_eq_true (by omega); clear c39; replace H := Option.bind_eq_some_iff.mp H; obtain ⟨⟨t176, t177, t180, t181⟩, A400, H⟩ := H; replace H : (if ku.length < 4398046511104 then (aC.l1 k1 (wrap64 (x7_1 - 1)) dA t180 t181 dS lv mM ng gT 0 (ku ++ [(⟨t176, t177⟩ : S31)])) else (none)) = some (r1, r2, r3, r4) := H; have A40 := aa.mk A400; clear A400; by_cases c41 : ku.length < 4398046511104
         ·rw [if_pos c41] at H; have LMc41 := aa.mk c41; clear c41; obtain ⟨y182, Ps⟩ : ∃ y_ : List (S31), y_ = (ku ++ [(⟨t176, t177⟩ : S31)]) := ⟨_, rfl⟩; replace H : (aC.l1 k1 (wrap64 (x7_1 - 1)) dA t180 t181 dS lv mM ng gT 0 y182) = some (r1, r2, r3, r4) := by first | (rw [Ps]; with_reducible exact H) | (have H2_ := (Option.bind_some _ _).symm.trans H; rw [Ps]; with_reducible exact H2_) | (have H2_ := (Option.bind_some _ _).symm.trans H; with_reducible exact H2_) | with_reducible exact H | (rw [Ps]; exact H) | exact H
          have Ny182 := aa.mk Ps; clear Ps; have H' := aa.mk H; clear H; have hnb42 := xS.out; have hnc42 := xU.out; have hnb43 := nJ.out; have hnc43 := qa.out; have hnb44 := rF.out; have hnc44 := rE.out; obtain ⟨hcz45_0, hcz45_1, hcz45_2, hcz45_3, hcz45_4, hfz45_0, hfz45_1, hfz45_2, hfz45_3, hfz45_4⟩ := bQ gy.out; try go_wp2
          replace dX := aa.mk (Kd.fI dX.out); replace gy := aa.mk (ai gy.out); replace jy := aa.mk (ai jy.out); replace gF := aa.mk (ai gF.out); replace HI0 := aa.mk (au.drew HI0.out); replace HK := aa.mk (bN HK.out); replace HB := aa.mk (bV HB.out); have p175 : 0 ≤ (0 : Int) := (by omega); have q175 : 0 < (gT.length : Int) := dt_; obtain ⟨pM, A175_4, c175_4, e175, Jp, Jq, Jr, Js, FO, UZ, RA⟩ := gQ (Kd.O9 iF.out HK.out) 0 p175 q175; have hw175_4 := FO; (try simp only [z0_, Nat.zero_mul, Addr.add_zero'] at hw175_4)
          have hw175_3 := Js; (try simp only [z0_, Nat.zero_mul, Addr.add_zero'] at hw175_3)
          have hw175_2 := Jr; (try simp only [z0_, Nat.zero_mul, Addr.add_zero'] at hw175_2)
          have hw175_1 := Jq; (try simp only [z0_, Nat.zero_mul, Addr.add_zero'] at hw175_1)
          have hw175_0 := Jp; (try simp only [z0_, Nat.zero_mul, Addr.add_zero'] at hw175_0)
          replace RA := Lf iF.out HK.out p175 q175 e175 FO; cases e175; have OJ := (show (⟨pM.block, pM.off + 4, none⟩ : Addr).block ≠ g from by first | (rw [add_block]; exact Kd.ib iF.out (by omega) (by decide)) | (show (Addr.add _ _).block ≠ _; rw [add_block]; exact Kd.ib iF.out (by omega) (by decide)) | exact Kd.ib iF.out (by omega) (by decide) | (dsimp only; exact Kd.ib iF.out (by omega) (by decide))); have hlt175_4 := (Kd.wD iF.out (by omega) (by decide)); have OL := (show (⟨pM.block, pM.off + 3, none⟩ : Addr).block ≠ g from by first | (rw [add_block]; exact Kd.ib iF.out (by omega) (by decide)) | (show (Addr.add _ _).block ≠ _; rw [add_block]; exact Kd.ib iF.out (by omega) (by decide)) | exact Kd.ib iF.out (by omega) (by decide) | (dsimp only; exact Kd.ib iF.out (by omega) (by decide))); have hlt175_3 := (Kd.wD iF.out (by omega) (by decide)); have OM := (show (⟨pM.block, pM.off + 2, none⟩ : Addr).block ≠ g from by first | (rw [add_block]; exact Kd.ib iF.out (by omega) (by decide)) | (show (Addr.add _ _).block ≠ _; rw [add_block]; exact Kd.ib iF.out (by omega) (by decide)) | exact Kd.ib iF.out (by omega) (by decide) | (dsimp only; exact Kd.ib iF.out (by omega) (by decide))); have hlt175_2 := (Kd.wD iF.out (by omega) (by decide)); have OO := (show (⟨pM.block, pM.off + 1, none⟩ : Addr).block ≠ g from by first | (rw [add_block]; exact Kd.ib iF.out (by omega) (by decide)) | (show (Addr.add _ _).block ≠ _; rw [add_block]; exact Kd.ib iF.out (by omega) (by decide)) | exact Kd.ib iF.out (by omega) (by decide) | (dsimp only; exact Kd.ib iF.out (by omega) (by decide))); have hlt175_1 := (Kd.wD iF.out (by omega) (by decide)); have OP := (show (pM : Addr).block ≠ g from by first | (rw [add_block]; exact Kd.ib iF.out (by omega) (by decide)) | (show (Addr.add _ _).block ≠ _; rw [add_block]; exact Kd.ib iF.out (by omega) (by decide)) | exact Kd.ib iF.out (by omega) (by decide) | (dsimp only; exact Kd.ib iF.out (by omega) (by decide))); have hlt175_0 := (Kd.wD iF.out (by omega) (by decide)); have qi175 : (0 < gT.length) = True := eq_true (by omega); (try simp only [z0_, Nat.zero_mul, Addr.add_zero'] at Jp Jq Jr Js FO)
          have U0 := aa.mk RA; have HC175_4 := aa.mk UZ; clear RA UZ; replace p175 := eq_true p175; replace q175 := eq_true q175; refine qQ (n := 12) (S := fun w' => w'.cell? ⟨ik, 0, none⟩ = some (.int .i64 0) ∧ w'.cell? ⟨ik, 1, none⟩ = some (iK) ∧ w'.cell? ⟨nu, 0, none⟩ = some (.int .i64 dS) ∧ w'.cell? ⟨nu, 1, none⟩ = some (.int .i64 lv) ∧ w'.cell? ⟨nu, 2, none⟩ = some (.int .i64 mM) ∧ w'.cell? ⟨nu, 3, none⟩ = some (.int .i64 ng) ∧ w'.cell? ⟨nu, 4, none⟩ = some (.slice (some pM) gT.length Ah) ∧ w'.cell? pM = some (.int .i64 ((aj gT 0).f0)) ∧ w'.cell? ⟨pM.block, pM.off + 1, none⟩ = some (.int .i64 ((aj gT 0).f1)) ∧ w'.cell? ⟨pM.block, pM.off + 2, none⟩ = some (.int .i64 ((aj gT 0).f2)) ∧ w'.cell? ⟨pM.block, pM.off + 3, none⟩ = some (.int .i64 ((aj gT 0).f3)) ∧ w'.cell? ⟨pM.block, pM.off + 4, none⟩ = some (.slice A175_4 ((aj gT 0).f4).length c175_4)) (ds := [9, 11]) #[false, false, false, false, false, false, false, false, false, false, false, false] (by kernel_rfl) rfl rfl ⟨(aA gF.out 0).trans rfl, (aA gF.out 1).trans rfl, (aA gy.out 0).trans rfl, (aA gy.out 1).trans rfl, (aA gy.out 2).trans rfl, (aA gy.out 3).trans rfl, (aA gy.out 4).trans rfl, Jp, Jq, Jr, Js, FO⟩ (fun hHeld => ?_); refine mO aC.tab13 aC.bits13 (fun HT_ HW_ => ?_)
          generalize wr.drew = w46 at dX gy jy gF HI0 HK HB U0 Jp Jq Jr Js FO hHeld ⊢
          refine pu_ HT_ 0 51 (bm 12 1) ?_
          refine pu_ HT_ 2 53 (bm 12 5) ?_
          refine pu_ HT_ 3 54 (bm 12 13) ?_
          refine ta_ HT_ HW_ 1 52 (bm 12 15) hHeld ?_
          refine ta_ HT_ HW_ 4 55 (bm 12 31) hHeld ?_
          refine pu_ HT_ 5 56 (bm 12 63) ?_
          refine ta_ HT_ HW_ 6 57 (bm 12 127) hHeld ?_
          refine qJ (i := 7) (N := some 58) #[true, true, true, true, true, true, true, true, false, false, false, false] rfl rfl (kL HT_.out (by kernel_rfl)) (by decide) (fun K hK => ?_)
          refine xI Try.func8 (by kernel_rfl) rfl #[.pointer (some ⟨g, 0, none⟩), .agg #[.int .i64 ((aj gT 0).f0), .int .i64 ((aj gT 0).f1), .int .i64 ((aj gT 0).f2), .int .i64 ((aj gT 0).f3), .slice A175_4 ((aj gT 0).f4).length c175_4]] (by rfl) rfl rfl mp_ ?_
          with_reducible refine (ih k1 (by have := HK1.out; omega) g dA qF qG ((aj gT 0).f0) ((aj gT 0).f1) ((aj gT 0).f2) ((aj gT 0).f3) _ _ ((aj gT 0).f4) t176 t177 t180 t181 w0 _ ?aX ?aY ?gz ?gL A40.out).mono ?_
          (case aX => repeat (first | (with_reducible first | exact HI0.out | apply au.alloc | apply au.drewN | apply au.drew | apply au.jL | apply au.jM | refine au.far ?_ rE.out _ | refine au.far ?_ rG.out _ | refine au.far ?_ oo.out _) | exact HI0.out))
          (case aY => repeat (first | (with_reducible first | exact HB.out | apply dC | apply bR | apply bV | refine bI ?_ (au.ge HI0.out) | refine bI ?_ Mq.out | refine bI ?_ Em.out | refine bI ?_ En.out) | exact HB.out))
          (case gz => exact Kd.Ot U0.out (by repeat (first | (with_reducible first | exact HK.out | apply aJ.fF | apply bJ | apply bN | apply bK | refine bn ?_ lC.out _ | refine bn ?_ jI.out _ | refine bn ?_ j5.out _) | exact HK.out)))
          (case gL => exact HC175_4.out)
          rintro e w47 ⟨v178, rfl, ho0, hi, hb, hk⟩
          have HS7_ := nG hk (hHeld.2.2.2.2.2.2.2.1) (by first | (rw [add_block]; exact OP) | (show (Addr.add _ _).block ≠ _; rw [add_block]; exact OP) | exact OP); have HS8_ := nG hk (hHeld.2.2.2.2.2.2.2.2.1) (by first | (rw [add_block]; exact OO) | (show (Addr.add _ _).block ≠ _; rw [add_block]; exact OO) | exact OO); have HS9_ := nG hk (hHeld.2.2.2.2.2.2.2.2.2.1) (by first | (rw [add_block]; exact OM) | (show (Addr.add _ _).block ≠ _; rw [add_block]; exact OM) | exact OM); have HS10_ := nG hk (hHeld.2.2.2.2.2.2.2.2.2.2.1) (by first | (rw [add_block]; exact OL) | (show (Addr.add _ _).block ≠ _; rw [add_block]; exact OL) | exact OL); have HS11_ := nG hk (hHeld.2.2.2.2.2.2.2.2.2.2.2) (by first | (rw [add_block]; exact OJ) | (show (Addr.add _ _).block ≠ _; rw [add_block]; exact OJ) | exact OJ); refine ⟨_, rfl, ?_⟩
          have HO179 := aa.mk (Kd.gm (Kd.pX (Kd.pX (Kd.oH ho0 (Kd.ou (pR_ dX.out))) (g := iL) (o := .cells #[.int .i64 0, .slice none 0 0] 31 (0, 0)) bk_) (g := ik) (o := .cells #[.int .i64 0, iK] 31 (0, 0)) bk_) (jh (w := w) (g := g) (row := none) (by repeat (first | (with_reducible first | exact HK.out | apply aJ.fF | apply bJ | apply bN | apply bK | refine bn ?_ lC.out _ | refine bn ?_ jI.out _ | refine bn ?_ j5.out _) | exact HK.out)))); replace dX := aa.mk (Kd.dn (Kd.R_told (Kd.R_oldK (au.apart (show au w0 _ g dA qF qG from si_) (pR_ dX.out) (by decide)) hk) (Kd.eZ ho0)) (fun _ h_ => h_.1)); replace gy := aa.mk (aJ.blk hk (g' := nu) (o := .cells #[.int .i64 dS, .int .i64 lv, .int .i64 mM, .int .i64 ng, .slice (some pM) gT.length Ah] 27 (0, 0)) bk_ rF.out (by simp)); replace jy := aa.mk (aJ.blk hk (g' := iL) (o := .cells #[.int .i64 0, .slice none 0 0] 31 (0, 0)) bk_ rH.out (by simp)); replace gF := aa.mk (aJ.blk hk (g' := ik) (o := .cells #[.int .i64 0, iK] 31 (0, 0)) bk_ oq.out (by simp)); replace HK := aa.mk (aJ.trans (by repeat (first | (with_reducible first | exact HK.out | apply aJ.fF | apply bJ | apply bN | apply bK | refine bn ?_ lC.out _ | refine bn ?_ jI.out _ | refine bn ?_ j5.out _) | exact HK.out)) hk (.inl rfl)); replace HB := aa.mk (hb); replace HI0 := aa.mk (hi); (try clear hb)
          (try clear hb2)
          (try clear hk)
          (try clear hi)
          (try clear ho0)
          obtain ⟨Ao49, co49, eo49⟩ := Kd.fH HO179.out; (first | subst eo49 | (injection eo49 with f1_ f2_ f3_; have f4_ := f1_.symm; have f5_ := f3_.symm; clear f1_ f2_ f3_; subst f4_; subst f5_))
          refine hK.out _ _ ⟨(aA gF.out 0).trans rfl, (aA gF.out 1).trans rfl, (aA gy.out 0).trans rfl, (aA gy.out 1).trans rfl, (aA gy.out 2).trans rfl, (aA gy.out 3).trans rfl, (aA gy.out 4).trans rfl, HS7_, HS8_, HS9_, HS10_, HS11_⟩ (fun hHeld => ?_)
          clear hK K; refine iH (a' := ?_) ?_ ?_
          rotate_left
          ·show Act.put _ (some 58) _ = _
           simp only [Act.put, List.setIfInBounds_toArray, List.set_cons_zero, List.set_cons_succ, eQ, fe]; rfl
          refine qJ (i := 8) (N := some 59) #[true, true, true, true, true, true, true, true, true, false, false, false] rfl rfl (kL HT_.out (by kernel_rfl)) (by decide) (fun K hK => ?_)
          refine O6 (w1 := ?_) (v := ?_) (by rfl) rfl ?_ ?_
          rotate_left 2
          ·go_simp; constructor
           ·rfl
           ·rfl
          refine hK.out _ _ ⟨(aA (af gF.out _) 0).trans rfl, (aA (af gF.out _) 1).trans rfl, (aA (af gy.out _) 0).trans rfl, (aA (af gy.out _) 1).trans rfl, (aA (af gy.out _) 2).trans rfl, (aA (af gy.out _) 3).trans rfl, (aA (af gy.out _) 4).trans rfl, (World.cell?_alloc_lt _ _ _ (World.block_lt_of_cell? _ _ (hHeld.2.2.2.2.2.2.2.1))).trans (hHeld.2.2.2.2.2.2.2.1), (World.cell?_alloc_lt _ _ _ (World.block_lt_of_cell? _ _ (hHeld.2.2.2.2.2.2.2.2.1))).trans (hHeld.2.2.2.2.2.2.2.2.1), (World.cell?_alloc_lt _ _ _ (World.block_lt_of_cell? _ _ (hHeld.2.2.2.2.2.2.2.2.2.1))).trans (hHeld.2.2.2.2.2.2.2.2.2.1), (World.cell?_alloc_lt _ _ _ (World.block_lt_of_cell? _ _ (hHeld.2.2.2.2.2.2.2.2.2.2.1))).trans (hHeld.2.2.2.2.2.2.2.2.2.2.1), (World.cell?_alloc_lt _ _ _ (World.block_lt_of_cell? _ _ (hHeld.2.2.2.2.2.2.2.2.2.2.2))).trans (hHeld.2.2.2.2.2.2.2.2.2.2.2)⟩ (fun hHeld => ?_)
          clear hK K; refine iH (a' := ?_) ?_ ?_
          rotate_left
          ·show Act.put _ (some 59) _ = _
           simp only [Act.put, List.setIfInBounds_toArray, List.set_cons_zero, List.set_cons_succ, eQ, fe]; rfl
          refine Kw (i := 9) (N := some 60) #[true, true, true, true, true, true, true, true, true, true, false, false] rfl rfl (kL HT_.out (by kernel_rfl)) (by decide) (fun K hK => ?_)
          refine Kd.Av k31 w.heap.size (by rfl) (.tmp 52) (.tmp 59) 29 31 (.agg #[(.int .i64 0), (.slice none 0 0)]) 32 rfl Try.underlying29 Jf rfl (by decide) (by omega) iK ku (⟨t176, t177⟩ : S31) [.int .i64 t176, .slice Ao49 t177.length co49] (fun k_ => k_ ≠ iL ∧ k_ ≠ ik) (fun k_ => ((fun k_ => k_ ≠ iL ∧ k_ ≠ ik)) k_ ∧ some k_ ≠ (iK : Value).ownBlock) rfl rfl ?aP (fun _ hk => hk) ?aF ?aO (Below.refl _ _) ?aS ?aL ?_
          (case aP => exact Bh _ _ _ (⟨t176, t177⟩ : S31) (Kd.dn (HO179.out) (fun k_ hk => ⟨⟨hk.1.2, hk.2⟩, hk.1.1.2⟩)))
          (case aF => exact (fun k_ hk => ⟨Kd.dY (g := iL) (o := .cells #[.int .i64 0, .slice none 0 0] 31 (0, 0)) bk_ k_ hk, Kd.dY (g := ik) (o := .cells #[.int .i64 0, iK] 31 (0, 0)) bk_ k_ hk⟩))
          (case aO => exact (by (with_reducible repeat (first | apply Kd.fQ | apply Kd.fT | apply Kd.fI)); exact Kd.dn dX.out (fun _ hk => ⟨hk.1.1, hk.1.2⟩)))
          (case aS => exact (jh (w := w) (g := g) (row := none) (by repeat (first | (with_reducible first | exact HK.out | apply aJ.fF | apply bJ | apply bN | apply bK | refine bn ?_ lC.out _ | refine bn ?_ jI.out _ | refine bn ?_ j5.out _) | exact HK.out))))
          (case aL => have := LMc41.out; omega)
          intro v183 w48 ho hb hg hat; rw [← Ny182.out] at ho; have HO184 := aa.mk (ho); replace gy := aa.mk (iq (g := nu) (o := .cells #[.int .i64 dS, .int .i64 lv, .int .i64 mM, .int .i64 ng, .slice (some pM) gT.length Ah] 27 (0, 0)) bk_ hg (Kd.xB dX.out gy.out (by decide))); replace jy := aa.mk (iq (g := iL) (o := .cells #[.int .i64 0, .slice none 0 0] 31 (0, 0)) bk_ hg (Kd.xM dX.out (fun _ hk => hk.1.1))); replace gF := aa.mk (iq (g := ik) (o := .cells #[.int .i64 0, iK] 31 (0, 0)) bk_ hg (Kd.xM dX.out (fun _ hk => hk.1.2))); replace HI0 := aa.mk (au.grown si_ hg (au.own_ne HI0.out dX.out (by decide))); replace HB := aa.mk (xN bl_ HL.out hb); replace HK := aa.mk (aJ.trans (by repeat (first | (with_reducible first | exact HK.out | apply aJ.fF | apply bJ | apply bN | apply bK | refine bn ?_ lC.out _ | refine bn ?_ jI.out _ | refine bn ?_ j5.out _) | exact HK.out)) (aJ.AR hg g) (Kd.L6 dX.out)); clear dX HO179; clear ho hb hg hat; obtain ⟨Ao50, co50, eo50⟩ := Kd.fH HO184.out; (first | subst eo50 | (injection eo50 with f1_ f2_ f3_; have f4_ := f1_.symm; have f5_ := f3_.symm; clear f1_ f2_ f3_; subst f4_; subst f5_))
          refine hK.out _ _ ?_
          clear hK K; refine iH (a' := ?_) ?_ ?_
          rotate_left
          ·show Act.put _ (some 60) _ = _
           simp only [Act.put, List.setIfInBounds_toArray, List.set_cons_zero, List.set_cons_succ, eQ, fe]; rfl
          refine pu_ HT_ 10 61 (bm 12 2047) ?_
          refine Kw (i := 11) (N := none) #[true, true, true, true, true, true, true, true, true, true, true, true] rfl rfl (kL HT_.out (by kernel_rfl)) (by decide) (fun K hK => ?_)
          have hs51 : w48.cell? ⟨ik, 1, none⟩ = some (iK) := (aA gF.out 1).trans rfl; have hfs51 := fE gF.out 1; have hns51_0 := nJ.out; have hns51_1 := lL.out; have hms51_0 := qa.out; have hms51_1 := uq.out; refine Kz (w1 := ?_) (by rfl) rfl ?_ ?_
          rotate_left
          ·go_simp; rfl
          refine hK.out _ _ ?_
          clear hK K; refine uG (qp HT_.out (by kernel_rfl)) ?_
          try go_wp2
          go_roundg k1
          case measure => have := HK1.out; omega
          case rel => exact ⟨(wrap64 (x7_1 - 1)), (t180), (t181), (y182), (.slice Ao50 y182.length co50), rs_, H', ⟨by have := HK1.out; omega⟩, ⟨by (with_reducible repeat (first | apply Kd.fQ | apply Kd.fT | apply Kd.fI)); exact Kd.dn (Kd.fB (p := ⟨ik, 1, none⟩) (Kd.dn HO184.out (fun k_ hk => (⟨hk, by first | exact hk.2 | exact hk.1 | exact hk.2 | exact hk.1.1 | exact hk.1.2⟩ : _ ∧ k_ ≠ ik))) (fun _ hk => hk.2) (.slice Ao50 y182.length co50)) (fun _ hk => ⟨hk.1.1, hk.1.2⟩)⟩, ⟨by (with_reducible repeat (first | refine ah ?_ _ | refine ai ?_ | refine af ?_ _)); refine aQ ?_ nJ.out _; (with_reducible repeat (first | refine ah ?_ _ | refine ai ?_ | refine af ?_ _)); exact gy.out⟩, ⟨by (with_reducible repeat (first | refine ah ?_ _ | refine ai ?_ | refine af ?_ _)); refine aQ ?_ lL.out _; (with_reducible repeat (first | refine ah ?_ _ | refine ai ?_ | refine af ?_ _)); exact jy.out⟩, ⟨by (with_reducible repeat (first | refine ah ?_ _ | refine ai ?_ | refine af ?_ _)); refine aW (cs := #[.int .i64 0, iK]) ?_ 1 _ rfl; (with_reducible repeat (first | refine ah ?_ _ | refine ai ?_ | refine af ?_ _)); exact gF.out⟩, ⟨si_⟩, ⟨by repeat (first | (with_reducible first | exact HK.out | apply aJ.fF | apply bJ | apply bN | apply bK | refine bn ?_ lC.out _ | refine bn ?_ jI.out _ | refine bn ?_ j5.out _) | exact HK.out)⟩, ⟨bl_⟩⟩
         ·rw [if_neg c41] at H; exact absurd H (by simp)
        ·rw [if_neg c39] at H; exact absurd H (by simp)
       ·rw [if_neg c38] at H; have Pq : decide (0 < (gT.length : Int)) = false := decide_eq_false c38; have c38b1 : decide (0 < gT.length) = false := decide_eq_false (by omega); clear c38; have H' := aa.mk H; clear H; have hnb52 := xS.out; have hnc52 := xU.out; have hnb53 := nJ.out; have hnc53 := qa.out; have hnb54 := rF.out; have hnc54 := rE.out; obtain ⟨Rb, Rc, Re, Rf, Rh, Ri, Rj, Rk, Rl, Rm⟩ := bQ gy.out; go_wp2; go_meet
        case rel => exact ⟨_, (qF), (qG), (0), (ku), (iK), H', ⟨by have := HK1.out; first | omega | exact Nat.le_refl _⟩, ⟨pR_ dX.out⟩, ⟨bk_⟩, ⟨bk_⟩, ⟨si_⟩, ⟨by repeat (first | (with_reducible first | exact HK.out | apply aJ.fF | apply bJ | apply bN | apply bK | refine bn ?_ lC.out _ | refine bn ?_ jI.out _ | refine bn ?_ j5.out _) | exact HK.out)⟩, ⟨bl_⟩⟩
      ·rw [if_neg c37] at H; have Pp : decide (0 < x7_1) = false := decide_eq_false c37; clear c37; have H' := aa.mk H; clear H; go_wp2; go_meet
       case rel => exact ⟨_, (qF), (qG), (0), (ku), (iK), H', ⟨by have := HK1.out; first | omega | exact Nat.le_refl _⟩, ⟨pR_ dX.out⟩, ⟨bk_⟩, ⟨bk_⟩, ⟨si_⟩, ⟨by repeat (first | (with_reducible first | exact HK.out | apply aJ.fF | apply bJ | apply bN | apply bK | refine bn ?_ lC.out _ | refine bn ?_ jI.out _ | refine bn ?_ j5.out _) | exact HK.out)⟩, ⟨bl_⟩⟩
   ·rw [if_neg c30] at H; have c30b0 : (dS == 6) = false := beq_eq_false_iff_ne.mpr c30; have c30b1 : (dS != 6) = true := bne_iff_ne.mpr c30; by_cases c56 : dS = 1
    ·rw [if_pos c56] at H; have c56b0 : (dS == 1) = true := beq_iff_eq.mpr c56; have c56b1 : (dS != 1) = false := bne_eq_false_iff_eq.mpr c56; clear c56; replace H := Option.bind_eq_some_iff.mp H; obtain ⟨⟨t185, t186, t187⟩, A570, H⟩ := H; replace H : (aC.j2 k dA t186 t187 t185 ([] : List (S31))) = some (r1, r2, r3, r4) := H; have A57 := aa.mk A570; clear A570; have H' := aa.mk H; clear H; go_wp2_with (first | ((with_reducible refine aZ (f := 19) rfl ?_); refine cz (some 65) rfl rfl Try.func19 (by kernel_rfl) rfl #[.pointer (some ⟨g, 0, none⟩), .int .i64 2] rfl mp_ ?_; (with_reducible refine (dz.calls g dA gq iA 2 t185 t186 t187 w0 _ ?aX ?aY A57.out).mono ?_); (case aX => repeat (first | (with_reducible first | exact HI0.out | apply au.alloc | apply au.drewN | apply au.drew | apply au.jL | apply au.jM | refine au.far ?_ rE.out _ | refine au.far ?_ rG.out _ | refine au.far ?_ oo.out _) | exact HI0.out)); (case aY => repeat (first | (with_reducible first | exact HB.out | apply dC | apply bR | apply bV | refine bI ?_ (au.ge HI0.out) | refine bI ?_ Mq.out | refine bI ?_ Em.out | refine bI ?_ En.out) | exact HB.out)); rintro e w58 ⟨rfl, hi, hb, hk⟩; refine ⟨_, rfl, ?_⟩; replace gy := aa.mk (aJ.blk hk (g' := nu) (o := .cells #[.int .i64 dS, .int .i64 lv, .int .i64 mM, .int .i64 ng, .slice A1_4 gT.length Ah] 27 (0, 0)) bk_ rF.out (by simp)); replace jy := aa.mk (aJ.blk hk (g' := iL) (o := .cells #[.int .i64 0, .slice none 0 0] 31 (0, 0)) bk_ rH.out (by simp)); replace gF := aa.mk (aJ.blk hk (g' := ik) (o := .cells #[.int .i64 0, .slice none 0 0] 31 (0, 0)) bk_ oq.out (by simp)); replace HK := aa.mk (aJ.trans (by repeat (first | (with_reducible first | exact HK.out | apply aJ.fF | apply bJ | apply bN | apply bK | refine bn ?_ lC.out _ | refine bn ?_ jI.out _ | refine bn ?_ j5.out _) | exact HK.out)) hk (.inl rfl)); replace HB := aa.mk (hb); replace HI0 := aa.mk (hi); (try clear hb); (try clear hb2); (try clear hk); (try clear hi); have hnb59 := qa.out; have hnc59 := nJ.out; have hnb60 := uq.out; have hnc60 := lL.out; have hnb61 := oq.out; have hnc61 := oo.out; obtain ⟨Df, Dg, Dh, Di⟩ := iy gF.out))
     go_meet
     case rel => exact ⟨_, (t186), (t187), (t185), (([] : List (S31))), (.slice none 0 0), H', ⟨by first | omega | exact Nat.le_refl _⟩, ⟨by first | exact Kd.jv _ _ _ _ _ | exact Kd.kV _ _ _ _ _ | exact Kd.jZ _ _ _ _ _ | exact Kd.kT _ _ _ _ _ | exact Kd.kU _ _ _ _ _⟩, ⟨by (with_reducible repeat (first | refine ah ?_ _ | refine ai ?_ | refine af ?_ _)); refine aQ ?_ lL.out _; (with_reducible repeat (first | refine ah ?_ _ | refine ai ?_ | refine af ?_ _)); exact jy.out⟩, ⟨by (with_reducible repeat (first | refine ah ?_ _ | refine ai ?_ | refine af ?_ _)); refine aW (cs := #[.int .i64 0, .slice none 0 0]) ?_ 0 _ rfl; (with_reducible repeat (first | refine ah ?_ _ | refine ai ?_ | refine af ?_ _)); exact gF.out⟩, ⟨si_⟩, ⟨by repeat (first | (with_reducible first | exact HK.out | apply aJ.fF | apply bJ | apply bN | apply bK | refine bn ?_ lC.out _ | refine bn ?_ jI.out _ | refine bn ?_ j5.out _) | exact HK.out)⟩, ⟨bl_⟩⟩
    ·rw [if_neg c56] at H; have c56b0 : (dS == 1) = false := beq_eq_false_iff_ne.mpr c56; have c56b1 : (dS != 1) = true := bne_iff_ne.mpr c56; by_cases c63 : dS = 2
     ·rw [if_pos c63] at H; have Pt : (dS == 2) = true := beq_iff_eq.mpr c63; have Pv : (dS != 2) = false := bne_eq_false_iff_eq.mpr c63; clear c63; obtain ⟨ji64, hji64⟩ : ∃ j_ : Int, (mn mM (wrap64 (lv + 5))) = j_ := ⟨_, rfl⟩; replace H : ((dK.f dA gq iA lv (ji64)).bind fun Cx => (aC.j2 k dA Cx.2.1 Cx.2.2 Cx.1 ([] : List (S31)))) = some (r1, r2, r3, r4) := by first | (rw [hji64] at H; exact H) | (simp only [hji64] at H ⊢; exact H)
      have hji64_ : (if (wrap64 (lv + 5)) < mM then (wrap64 (lv + 5)) else mM) = ji64 := hji64; replace H := Option.bind_eq_some_iff.mp H; obtain ⟨⟨t188, t189, t190⟩, A650, H⟩ := H; replace H : (aC.j2 k dA t189 t190 t188 ([] : List (S31))) = some (r1, r2, r3, r4) := H; have A65 := aa.mk A650; clear A650; have H' := aa.mk H; clear H; have hnb66 := xS.out; have hnc66 := xU.out; have hnb67 := nJ.out; have hnc67 := qa.out; have hnb68 := rF.out; have hnc68 := rE.out; obtain ⟨Mv, Mw, U1, U2, U3, Mx, MB, U4, U5, U6⟩ := bQ gy.out; go_wp2_with (first | ((with_reducible refine aZ (f := 18) rfl ?_); refine cz (some 78) rfl rfl Try.func18 (by kernel_rfl) rfl #[.pointer (some ⟨g, 0, none⟩), .int .i64 lv, .int .i64 ji64] rfl (by (try simp only [List.map_toArray, List.map_cons, List.map_nil]); first | done | (simp only [hji64]; rfl) | rfl | (simp only [List.length_drop, List.length_take]; rfl)) ?_; (with_reducible refine (dK.calls g dA gq iA lv ji64 t188 t189 t190 w0 _ ?aX ?aY A65.out).mono ?_); (case aX => repeat (first | (with_reducible first | exact HI0.out | apply au.alloc | apply au.drewN | apply au.drew | apply au.jL | apply au.jM | refine au.far ?_ rE.out _ | refine au.far ?_ rG.out _ | refine au.far ?_ oo.out _) | exact HI0.out)); (case aY => repeat (first | (with_reducible first | exact HB.out | apply dC | apply bR | apply bV | refine bI ?_ (au.ge HI0.out) | refine bI ?_ Mq.out | refine bI ?_ Em.out | refine bI ?_ En.out) | exact HB.out)); rintro e w70 ⟨rfl, hi, hb, hk⟩; refine ⟨_, rfl, ?_⟩; replace gy := aa.mk (aJ.blk hk (g' := nu) (o := .cells #[.int .i64 dS, .int .i64 lv, .int .i64 mM, .int .i64 ng, .slice A1_4 gT.length Ah] 27 (0, 0)) bk_ rF.out (by simp)); replace jy := aa.mk (aJ.blk hk (g' := iL) (o := .cells #[.int .i64 0, .slice none 0 0] 31 (0, 0)) bk_ rH.out (by simp)); replace gF := aa.mk (aJ.blk hk (g' := ik) (o := .cells #[.int .i64 0, .slice none 0 0] 31 (0, 0)) bk_ oq.out (by simp)); replace HK := aa.mk (aJ.trans (by repeat (first | (with_reducible first | exact HK.out | apply aJ.fF | apply bJ | apply bN | apply bK | refine bn ?_ lC.out _ | refine bn ?_ jI.out _ | refine bn ?_ j5.out _) | exact HK.out)) hk (.inl rfl)); replace HB := aa.mk (hb); replace HI0 := aa.mk (hi); (try clear hb); (try clear hb2); (try clear hk); (try clear hi); have hnb71 := uq.out; have hnc71 := lL.out; have hnb72 := oq.out; have hnc72 := oo.out; obtain ⟨U7, U8, U9, Va⟩ := iy gF.out))
      go_meet
      case rel => exact ⟨_, (t189), (t190), (t188), (([] : List (S31))), (.slice none 0 0), H', ⟨by first | omega | exact Nat.le_refl _⟩, ⟨by first | exact Kd.jv _ _ _ _ _ | exact Kd.kV _ _ _ _ _ | exact Kd.jZ _ _ _ _ _ | exact Kd.kT _ _ _ _ _ | exact Kd.kU _ _ _ _ _⟩, ⟨by (with_reducible repeat (first | refine ah ?_ _ | refine ai ?_ | refine af ?_ _)); refine aQ ?_ lL.out _; (with_reducible repeat (first | refine ah ?_ _ | refine ai ?_ | refine af ?_ _)); exact jy.out⟩, ⟨by (with_reducible repeat (first | refine ah ?_ _ | refine ai ?_ | refine af ?_ _)); refine aW (cs := #[.int .i64 0, .slice none 0 0]) ?_ 0 _ rfl; (with_reducible repeat (first | refine ah ?_ _ | refine ai ?_ | refine af ?_ _)); exact gF.out⟩, ⟨si_⟩, ⟨by repeat (first | (with_reducible first | exact HK.out | apply aJ.fF | apply bJ | apply bN | apply bK | refine bn ?_ lC.out _ | refine bn ?_ jI.out _ | refine bn ?_ j5.out _) | exact HK.out)⟩, ⟨bl_⟩⟩
     ·rw [if_neg c63] at H; have Pt : (dS == 2) = false := beq_eq_false_iff_ne.mpr c63; have Pv : (dS != 2) = true := bne_iff_ne.mpr c63; replace H := Option.bind_eq_some_iff.mp H; obtain ⟨⟨t191, t192, t193⟩, A740, H⟩ := H; replace H : (aC.j2 k dA t192 t193 t191 ([] : List (S31))) = some (r1, r2, r3, r4) := H; have A74 := aa.mk A740; clear A740; have H' := aa.mk H; clear H; go_wp2_with (first | ((with_reducible refine aZ (f := 19) rfl ?_); refine cz (some 11) rfl rfl Try.func19 (by kernel_rfl) rfl #[.pointer (some ⟨g, 0, none⟩), .int .i64 4] rfl mp_ ?_; (with_reducible refine (dz.calls g dA gq iA 4 t191 t192 t193 w0 _ ?aX ?aY A74.out).mono ?_); (case aX => repeat (first | (with_reducible first | exact HI0.out | apply au.alloc | apply au.drewN | apply au.drew | apply au.jL | apply au.jM | refine au.far ?_ rE.out _ | refine au.far ?_ rG.out _ | refine au.far ?_ oo.out _) | exact HI0.out)); (case aY => repeat (first | (with_reducible first | exact HB.out | apply dC | apply bR | apply bV | refine bI ?_ (au.ge HI0.out) | refine bI ?_ Mq.out | refine bI ?_ Em.out | refine bI ?_ En.out) | exact HB.out)); rintro e w75 ⟨rfl, hi, hb, hk⟩; refine ⟨_, rfl, ?_⟩; replace gy := aa.mk (aJ.blk hk (g' := nu) (o := .cells #[.int .i64 dS, .int .i64 lv, .int .i64 mM, .int .i64 ng, .slice A1_4 gT.length Ah] 27 (0, 0)) bk_ rF.out (by simp)); replace jy := aa.mk (aJ.blk hk (g' := iL) (o := .cells #[.int .i64 0, .slice none 0 0] 31 (0, 0)) bk_ rH.out (by simp)); replace gF := aa.mk (aJ.blk hk (g' := ik) (o := .cells #[.int .i64 0, .slice none 0 0] 31 (0, 0)) bk_ oq.out (by simp)); replace HK := aa.mk (aJ.trans (by repeat (first | (with_reducible first | exact HK.out | apply aJ.fF | apply bJ | apply bN | apply bK | refine bn ?_ lC.out _ | refine bn ?_ jI.out _ | refine bn ?_ j5.out _) | exact HK.out)) hk (.inl rfl)); replace HB := aa.mk (hb); replace HI0 := aa.mk (hi); (try clear hb); (try clear hb2); (try clear hk); (try clear hi); have hnb76 := qa.out; have hnc76 := nJ.out; have hnb77 := uq.out; have hnc77 := lL.out; have hnb78 := oq.out; have hnc78 := oo.out; obtain ⟨hcz79_0, hcz79_1, hfz79_0, hfz79_1⟩ := iy gF.out))
      go_meet
      case rel => exact ⟨_, (t192), (t193), (t191), (([] : List (S31))), (.slice none 0 0), H', ⟨by first | omega | exact Nat.le_refl _⟩, ⟨by first | exact Kd.jv _ _ _ _ _ | exact Kd.kV _ _ _ _ _ | exact Kd.jZ _ _ _ _ _ | exact Kd.kT _ _ _ _ _ | exact Kd.kU _ _ _ _ _⟩, ⟨by (with_reducible repeat (first | refine ah ?_ _ | refine ai ?_ | refine af ?_ _)); refine aQ ?_ lL.out _; (with_reducible repeat (first | refine ah ?_ _ | refine ai ?_ | refine af ?_ _)); exact jy.out⟩, ⟨by (with_reducible repeat (first | refine ah ?_ _ | refine ai ?_ | refine af ?_ _)); refine aW (cs := #[.int .i64 0, .slice none 0 0]) ?_ 0 _ rfl; (with_reducible repeat (first | refine ah ?_ _ | refine ai ?_ | refine af ?_ _)); exact gF.out⟩, ⟨si_⟩, ⟨by repeat (first | (with_reducible first | exact HK.out | apply aJ.fF | apply bJ | apply bN | apply bK | refine bn ?_ lC.out _ | refine bn ?_ jI.out _ | refine bn ?_ j5.out _) | exact HK.out)⟩, ⟨bl_⟩⟩
 case rest =>
  clear HC3; (try clear c1); (try clear p1); (try clear q1); (try clear hx1); (try clear qi1); (try clear c2); (try clear p2); (try clear c3); (try clear c4); (try clear c5); (try clear c6); (try clear p6); (try clear c7); (try clear c8); (try clear c9); (try clear c11); (try clear Ay); (try clear c11b1); (try clear c12); (try clear uu); (try clear c13); (try clear uw); (try clear c15); (try clear c16); (try clear p16); (try clear q16); (try clear hx16); (try clear c17); (try clear p17); (try clear q17); (try clear hx17); (try clear qi17); (try clear c18); (try clear c19); (try clear c26); (try clear c27); (try clear c28); (try clear c30); (try clear c30b0); (try clear c30b1); (try clear c32); (try clear c33); (try clear c34); (try clear c37); (try clear Pp); (try clear c38); (try clear Pq); (try clear c38b1); (try clear c39); (try clear IE); (try clear Mt); (try clear c41); (try clear c42); (try clear c43); (try clear c44); (try clear c52); (try clear c53); (try clear c54); (try clear c56); (try clear c56b0); (try clear c56b1); (try clear c59); (try clear c60); (try clear c61); (try clear c63); (try clear Pt); (try clear Pv); (try clear p64); (try clear c66); (try clear c67); (try clear c68); (try clear c71); (try clear c72); (try clear c76); (try clear c77); (try clear c78); (try clear qB qC rJ rM rO qD qE rP rQ rR); (try clear Jh Ji Rt Ru Rv Jj Jk Rw Rx Ry); (try clear qx qy wF wG wH qz qA wI wJ wK); (try clear wM wN wO wP wQ wR wS wT wU wV); (try clear hcz45_0 hcz45_1 hcz45_2 hcz45_3 hcz45_4 hfz45_0 hfz45_1 hfz45_2 hfz45_3 hfz45_4); (try clear Rb Rc Re Rf Rh Ri Rj Rk Rl Rm); (try clear Df Dg Dh Di); (try clear Mv Mw U1 U2 U3 Mx MB U4 U5 U6); (try clear U7 U8 U9 Va); (try clear hcz79_0 hcz79_1 hfz79_0 hfz79_1); (try clear Jl); (try clear Jm); (try clear Jn); (try clear Jo); (try clear FN); (try clear Jp); (try clear Jq); (try clear Jr); (try clear Js); (try clear FO); (try clear p1); (try clear p16); (try clear p162); (try clear p175); (try clear p2); (try clear p6); (try clear q1); (try clear q16); (try clear q162); (try clear q175); obtain ⟨kq, yL, yM, iD, jQ, iK, HA, HJ2, dX, jy, gF, HI0, HK, HB⟩ := hcut; cases kq with
  | zero => exact absurd HA.out (by simp [aC.j2])
  | succ kj2 =>
   have H := HA.out; clear HA; simp only [aC.j2] at H; replace H := Option.bind_eq_some_iff.mp H; obtain ⟨⟨t194, Ff, t196⟩, A800, H⟩ := H; replace H : (if t194 = 0 then ((jC.f dA Ff t196 (([(-1), 1, 1000] : List Int))).bind fun Cw => (some (wrap64 (iD + Cw.1), jQ, Cw.2.1, Cw.2.2))) else (if t194 = 1 then (if ([] : List (S31)).length + jQ.length < 4398046511104 then ((some (([] : List (S31)) ++ jQ : List (S31))).bind fun G7 => (if G7.length < 4398046511104 then (some (iD, (G7 ++ [(⟨0, ([] : List (S31))⟩ : S31)]), Ff, t196)) else (none))) else (none)) else (some (iD, jQ, Ff, t196)))) = some (r1, r2, r3, r4) := H; have A80 := aa.mk A800; clear A800; by_cases c81 : t194 = 0
   ·rw [if_pos c81] at H; have c81b0 : (t194 == 0) = true := beq_iff_eq.mpr c81; have c81b1 : (t194 != 0) = false := bne_eq_false_iff_eq.mpr c81; clear c81; obtain ⟨y197, Pw⟩ : ∃ y_ : List Int, y_ = (([(-1), 1, 1000] : List Int)) := ⟨_, rfl⟩; replace H : ((jC.f dA Ff t196 y197).bind fun Cw => (some (wrap64 (iD + Cw.1), jQ, Cw.2.1, Cw.2.2))) = some (r1, r2, r3, r4) := by first | (rw [Pw]; with_reducible exact H) | (have H2_ := (Option.bind_some _ _).symm.trans H; rw [Pw]; with_reducible exact H2_) | (have H2_ := (Option.bind_some _ _).symm.trans H; with_reducible exact H2_) | with_reducible exact H | (rw [Pw]; exact H) | exact H
    have Ny197 := aa.mk Pw; clear Pw; replace H := Option.bind_eq_some_iff.mp H; obtain ⟨⟨t200, t201, t202⟩, A820, H⟩ := H; replace H : (some (wrap64 (iD + t200), jQ, t201, t202)) = some (r1, r2, r3, r4) := H; have A82 := aa.mk A820; clear A820; simp only [Option.some.injEq, Prod.mk.injEq] at H; obtain ⟨rfl, rfl, rfl, rfl⟩ := H; try go_wp2_with (first | ((with_reducible refine aZ (f := 19) rfl ?_); refine cz (some 81) rfl rfl Try.func19 (by kernel_rfl) rfl #[.pointer (some ⟨g, 0, none⟩), .int .i64 24] rfl mp_ ?_; (with_reducible refine (dz.calls g dA yL yM 24 t194 Ff t196 w0 _ ?aX ?aY A80.out).mono ?_); (case aX => repeat (first | (with_reducible first | exact HI0.out | apply au.alloc | apply au.drewN | apply au.drew | apply au.jL | apply au.jM | refine au.far ?_ rG.out _ | refine au.far ?_ oo.out _) | exact HI0.out)); (case aY => repeat (first | (with_reducible first | exact HB.out | apply dC | apply bR | apply bV | refine bI ?_ (au.ge HI0.out) | refine bI ?_ Em.out | refine bI ?_ En.out) | exact HB.out)); rintro e w83 ⟨rfl, hi, hb, hk⟩; refine ⟨_, rfl, ?_⟩; replace dX := aa.mk (Kd.dn (Kd.Ja (au.apart (show au w0 _ g dA yL yM from si_) (pR_ dX.out) (by decide)) hk (fun _ h => h.2)) (fun _ h => h.1)); replace jy := aa.mk (aJ.blk hk (g' := iL) (o := .cells #[.int .i64 0, .slice none 0 0] 31 (0, 0)) bk_ rH.out (by simp)); replace gF := aa.mk (aJ.blk hk (g' := ik) (o := .cells #[.int .i64 iD, iK] 31 (0, 0)) bk_ oq.out (by simp)); replace HK := aa.mk (aJ.trans (by repeat (first | (with_reducible first | exact HK.out | apply aJ.fF | apply bJ | apply bN | apply bK | refine bn ?_ jI.out _ | refine bn ?_ j5.out _) | exact HK.out)) hk (.inl rfl)); replace HB := aa.mk (hb); replace HI0 := aa.mk (hi); (try clear hb); (try clear hb2); (try clear hk); (try clear hi)))
    replace dX := aa.mk (Kd.fI dX.out); replace jy := aa.mk (ai jy.out); replace gF := aa.mk (ai gF.out); replace HI0 := aa.mk (au.drew HI0.out); replace HK := aa.mk (bN HK.out); replace HB := aa.mk (bV HB.out); refine qQ (n := 8) (S := fun w' => w'.cell? ⟨ik, 0, none⟩ = some (.int .i64 iD) ∧ w'.cell? ⟨ik, 1, none⟩ = some (iK)) (ds := [7]) #[false, false, false, false, false, false, false, false] (by kernel_rfl) rfl rfl ⟨(aA gF.out 0).trans rfl, (aA gF.out 1).trans rfl⟩ (fun hHeld => ?_); refine mO aC.tab20 aC.bits20 (fun HT_ HW_ => ?_)
    generalize w83.drew = w84 at dX jy gF HI0 HK HB hHeld ⊢
    refine pu_ HT_ 0 84 (bm 8 1) ?_
    refine pu_ HT_ 2 86 (bm 8 5) ?_
    refine ta_ HT_ HW_ 1 85 (bm 8 7) hHeld ?_
    refine qJ (i := 3) (N := some 87) #[true, true, true, true, false, false, false, false] rfl rfl (kL HT_.out (by kernel_rfl)) (by decide) (fun K hK => ?_)
    refine Kd.O3 (Kd.int .i64) _ 3 ?hg (N := 87) ?hd (xs := ([(-1), 1, 1000] : List Int)) (inner := [.int .i64 (-1), .int .i64 1, .int .i64 1000]) (ok := fun _ => True) (okp := fun _ => True) ?hr ?hp (fun _ hk => hk) trivial (Below.refl _ _) (Nat.le_refl _) (by simp) ?_; (case hd => rfl); (case hg => rfl); (case hr => first | (go_simp; done) | (go_simp; rfl)); (case hp => exact (dP.one (show Kd.M (Kd.int .i64) _ _ _ (-1) [.int .i64 (-1)] from rfl) (dP.one (show Kd.M (Kd.int .i64) _ _ _ 1 [.int .i64 1] from rfl) (dP.one (show Kd.M (Kd.int .i64) _ _ _ 1000 [.int .i64 1000] from rfl) (dP.none _ _)))))
    intro v198 w85 ho86 hb hg_ jw; clear hg_ jw; (first | rw [← Ny197.out] at ho86 | (simp only [Int.reduceToNat] at ho86; rw [← Ny197.out] at ho86))
    have MC := aa.mk (Kd.gm ho86 (jh (w := w) (g := g) (row := none) (by repeat (first | (with_reducible first | exact HK.out | apply aJ.fF | apply bJ | apply bN | apply bK | refine bn ?_ jI.out _ | refine bn ?_ j5.out _) | exact HK.out)))); replace dX := aa.mk (Kd.dQ (pR_ dX.out) hb); replace jy := kb_ jy hb; replace gF := kb_ gF hb; replace HI0 := aa.mk (au.below si_ hb); replace HK := aa.mk (aJ.trans (by repeat (first | (with_reducible first | exact HK.out | apply aJ.fF | apply bJ | apply bN | apply bK | refine bn ?_ jI.out _ | refine bn ?_ j5.out _) | exact HK.out)) (aJ.of_below hb g none) (.inl rfl)); replace HB := aa.mk (ay bl_ hb); clear hb ho86; obtain ⟨Ao87, co87, eo87⟩ := Kd.fH MC.out; (first | subst eo87 | (injection eo87 with f1_ f2_ f3_; have f4_ := f1_.symm; have f5_ := f3_.symm; clear f1_ f2_ f3_; subst f4_; subst f5_))
    refine hK.out _ _ ⟨(aA gF.out 0).trans rfl, (aA gF.out 1).trans rfl⟩ (fun hHeld => ?_)
    clear hK K; refine iH (a' := ?_) ?_ ?_
    rotate_left
    ·show Act.put _ (some 87) _ = _
     simp only [Act.put, List.setIfInBounds_toArray, List.set_cons_zero, List.set_cons_succ, eQ, fe]; rfl
    refine qJ (i := 4) (N := some 88) #[true, true, true, true, true, false, false, false] rfl rfl (kL HT_.out (by kernel_rfl)) (by decide) (fun K hK => ?_)
    refine xI Try.func25 (by kernel_rfl) rfl #[.pointer (some ⟨g, 0, none⟩), .slice Ao87 y197.length co87] (by rfl) rfl rfl mp_ ?_
    with_reducible refine (jC.calls g dA Ff t196 _ _ y197 t200 t201 t202 w0 _ ?aX ?aY ?gz ?gL ?side5 A82.out).mono ?_
    (case aX => repeat (first | (with_reducible first | exact HI0.out | apply au.alloc | apply au.drewN | apply au.drew | apply au.jL | apply au.jM | refine au.far ?_ rG.out _ | refine au.far ?_ oo.out _) | exact HI0.out))
    (case aY => repeat (first | (with_reducible first | exact HB.out | apply dC | apply bR | apply bV | refine bI ?_ (au.ge HI0.out) | refine bI ?_ Em.out | refine bI ?_ En.out) | exact HB.out))
    (case gz => exact cb_ ((Kd.eu MC.out).2.2))
    (case gL => exact (Kd.eu MC.out).2.1)
    (case side5 => exact XA (au.own_ne HI0.out MC.out (by decide)))
    rintro e w88 ⟨rfl, hi, hb, hk⟩
    refine ⟨_, rfl, ?_⟩
    replace dX := aa.mk (Kd.dn (Kd.Ja (au.apart (show au w0 _ g dA Ff t196 from si_) (pR_ dX.out) (by decide)) hk (fun _ h => h.2)) (fun _ h => h.1)); replace jy := aa.mk (aJ.blk hk (g' := iL) (o := .cells #[.int .i64 0, .slice none 0 0] 31 (0, 0)) bk_ rH.out (by simp)); replace gF := aa.mk (aJ.blk hk (g' := ik) (o := .cells #[.int .i64 iD, iK] 31 (0, 0)) bk_ oq.out (by simp)); replace MC := aa.mk (Kd.dn (Kd.Ja (au.apart (show au w0 _ g dA Ff t196 from si_) (pR_ MC.out) (by decide)) hk (fun _ h => h.2)) (fun _ h => h.1)); replace HK := aa.mk (aJ.trans (by repeat (first | (with_reducible first | exact HK.out | apply aJ.fF | apply bJ | apply bN | apply bK | refine bn ?_ jI.out _ | refine bn ?_ j5.out _) | exact HK.out)) hk (.inl rfl)); replace HB := aa.mk (hb); replace HI0 := aa.mk (hi); (try clear hb)
    (try clear hb2)
    (try clear hk)
    (try clear hi)
    refine hK.out _ _ ⟨(aA gF.out 0).trans rfl, (aA gF.out 1).trans rfl⟩ (fun hHeld => ?_)
    clear hK K; refine iH (a' := ?_) ?_ ?_
    rotate_left
    ·show Act.put _ (some 88) _ = _
     simp only [Act.put, List.setIfInBounds_toArray, List.set_cons_zero, List.set_cons_succ, eQ, fe]; rfl
    refine pu_ HT_ 5 89 (bm 8 63) ?_
    refine pu_ HT_ 6 90 (bm 8 127) ?_
    refine Kw (i := 7) (N := none) #[true, true, true, true, true, true, true, true] rfl rfl (kL HT_.out (by kernel_rfl)) (by decide) (fun K hK => ?_)
    have hs89 : w88.cell? ⟨ik, 0, none⟩ = some (.int .i64 iD) := (aA gF.out 0).trans rfl; have hfs89 := fE gF.out 0; have hns89_0 := lL.out; have hms89_0 := uq.out; refine Kz (w1 := ?_) (by rfl) rfl ?_ ?_
    rotate_left
    ·go_simp; rfl
    refine hK.out _ _ ?_
    clear hK K; refine uG (qp HT_.out (by kernel_rfl)) ?_
    have hnb90 := uq.out; have hnc90 := lL.out; have hnb91 := oq.out; have hnc91 := oo.out; obtain ⟨hcz92_0, hcz92_1, hfz92_0, hfz92_1⟩ := iy gF.out; have hnb93 := rH.out; have hnc93 := rG.out; obtain ⟨hcz94_0, hcz94_1, hfz94_0, hfz94_1⟩ := iy jy.out; obtain ⟨Ao95, co95, eo95⟩ := Kd.fH dX.out; subst eo95; try go_wp2
    refine bodyPost_ret (results_cell_row rfl _ _ iL 31 #[.int .i64 (wrap64 (iD + t200)), .slice Ao95 jQ.length co95] (0, 0) _ rfl (by (with_reducible repeat (first | refine ah ?_ _ | refine ai ?_ | refine af ?_ _)); refine aW (cs := #[.int .i64 (wrap64 (iD + t200)), .slice none 0 0]) ?_ 1 _ rfl; (with_reducible repeat (first | refine ah ?_ _ | refine ai ?_ | refine af ?_ _)); refine aW (cs := #[.int .i64 0, .slice none 0 0]) ?_ 0 _ rfl; (with_reducible repeat (first | refine ah ?_ _ | refine ai ?_ | refine af ?_ _)); refine aQ ?_ lL.out _; (with_reducible repeat (first | refine ah ?_ _ | refine ai ?_ | refine af ?_ _)); exact jy.out) Try.underlying31 rfl (by kernel_rfl)) rfl ?_
    exact ⟨_, re_, by (with_reducible repeat (first | apply Kd.fQ | apply Kd.fT | apply Kd.fI)); exact Kd.dn (Kd.fB (p := ⟨iL, 1, none⟩) (Kd.fB (p := ⟨iL, 0, none⟩) (Kd.fB (p := ⟨ik, 0, none⟩) (Kd.dn (Kd.dn dX.out (fun k_ hk => (⟨hk, by first | exact hk.2 | exact hk.1 | exact hk.2 | exact hk.1.1 | exact hk.1.2⟩ : _ ∧ k_ ≠ ik))) (fun k_ hk => (⟨hk, by first | exact hk.1.1 | exact hk.1 | exact hk.2 | exact hk.1.1 | exact hk.1.2⟩ : _ ∧ k_ ≠ iL))) (fun _ hk => hk.1.2) (.int .i64 (wrap64 (iD + t200)))) (fun _ hk => hk.2) (.int .i64 (wrap64 (iD + t200)))) (fun _ hk => hk.2) (.slice Ao95 jQ.length co95)) (fun _ hk => trivial), si_, bl_, by repeat (first | (with_reducible first | exact HK.out | apply aJ.fF | apply bJ | apply bN | apply bK | refine bn ?_ jI.out _ | refine bn ?_ j5.out _) | exact HK.out)⟩
   ·rw [if_neg c81] at H; have c81b0 : (t194 == 0) = false := beq_eq_false_iff_ne.mpr c81; have c81b1 : (t194 != 0) = true := bne_iff_ne.mpr c81; by_cases c96 : t194 = 1
    ·rw [if_pos c96] at H; have c96b0 : (t194 == 1) = true := beq_iff_eq.mpr c96; have c96b1 : (t194 != 1) = false := bne_eq_false_iff_eq.mpr c96; clear c96; by_cases c97 : ([] : List (S31)).length + jQ.length < 4398046511104
     ·rw [if_pos c97] at H; have LMc97 := aa.mk c97; clear c97; obtain ⟨G7, Px⟩ : ∃ y_ : List (S31), y_ = (([] : List (S31)) ++ jQ) := ⟨_, rfl⟩; replace H : (if G7.length < 4398046511104 then (some (iD, (G7 ++ [(⟨0, ([] : List (S31))⟩ : S31)]), Ff, t196)) else (none)) = some (r1, r2, r3, r4) := by first | (rw [Px]; with_reducible exact H) | (have H2_ := (Option.bind_some _ _).symm.trans H; rw [Px]; with_reducible exact H2_) | (have H2_ := (Option.bind_some _ _).symm.trans H; with_reducible exact H2_) | with_reducible exact H | (rw [Px]; exact H) | exact H
      have Ny203 := aa.mk Px; clear Px; by_cases c98 : G7.length < 4398046511104
      ·rw [if_pos c98] at H; have LMc98 := aa.mk c98; clear c98; obtain ⟨y206, Py⟩ : ∃ y_ : List (S31), y_ = (G7 ++ [(⟨0, ([] : List (S31))⟩ : S31)]) := ⟨_, rfl⟩; replace H : (some (iD, y206, Ff, t196)) = some (r1, r2, r3, r4) := by first | (rw [Py]; with_reducible exact H) | (have H2_ := (Option.bind_some _ _).symm.trans H; rw [Py]; with_reducible exact H2_) | (have H2_ := (Option.bind_some _ _).symm.trans H; with_reducible exact H2_) | with_reducible exact H | (rw [Py]; exact H) | exact H
       have Ny206 := aa.mk Py; clear Py; simp only [Option.some.injEq, Prod.mk.injEq] at H; obtain ⟨rfl, rfl, rfl, rfl⟩ := H; go_wp2_with (first | ((with_reducible refine aZ (f := 19) rfl ?_); refine cz (some 81) rfl rfl Try.func19 (by kernel_rfl) rfl #[.pointer (some ⟨g, 0, none⟩), .int .i64 24] rfl mp_ ?_; (with_reducible refine (dz.calls g dA yL yM 24 t194 Ff t196 w0 _ ?aX ?aY A80.out).mono ?_); (case aX => repeat (first | (with_reducible first | exact HI0.out | apply au.alloc | apply au.drewN | apply au.drew | apply au.jL | apply au.jM | refine au.far ?_ rG.out _ | refine au.far ?_ oo.out _) | exact HI0.out)); (case aY => repeat (first | (with_reducible first | exact HB.out | apply dC | apply bR | apply bV | refine bI ?_ (au.ge HI0.out) | refine bI ?_ Em.out | refine bI ?_ En.out) | exact HB.out)); rintro e w99 ⟨rfl, hi, hb, hk⟩; refine ⟨_, rfl, ?_⟩; replace dX := aa.mk (Kd.dn (Kd.Ja (au.apart (show au w0 _ g dA yL yM from si_) (pR_ dX.out) (by decide)) hk (fun _ h => h.2)) (fun _ h => h.1)); replace jy := aa.mk (aJ.blk hk (g' := iL) (o := .cells #[.int .i64 0, .slice none 0 0] 31 (0, 0)) bk_ rH.out (by simp)); replace gF := aa.mk (aJ.blk hk (g' := ik) (o := .cells #[.int .i64 iD, iK] 31 (0, 0)) bk_ oq.out (by simp)); replace HK := aa.mk (aJ.trans (by repeat (first | (with_reducible first | exact HK.out | apply aJ.fF | apply bJ | apply bN | apply bK | refine bn ?_ jI.out _ | refine bn ?_ j5.out _) | exact HK.out)) hk (.inl rfl)); replace HB := aa.mk (hb); replace HI0 := aa.mk (hi); (try clear hb); (try clear hb2); (try clear hk); (try clear hi); have hnb100 := uq.out; have hnc100 := lL.out; have hnb101 := oq.out; have hnc101 := oo.out; obtain ⟨hcz102_0, hcz102_1, hfz102_0, hfz102_1⟩ := iy gF.out; obtain ⟨Pz, PD, eo104⟩ := Kd.fH dX.out; subst eo104) | ((with_reducible refine xQ (b := .append) (xs := #[.const (.slice none 0 0), .tmp 94]) rfl ?_); (try (refine dx (by rfl) ?_; dsimp only)); at_builtin; refine Kd.E5 k31 w.heap.size rfl (.const (.slice none 0 0)) (.tmp 94) 29 31 (.agg #[(.int .i64 0), (.slice none 0 0)]) 32 rfl Try.underlying29 Jf rfl (by decide) (by omega) (.slice none 0 0) ([] : List (S31)) jQ _ _ _ (fun k_ => k_ ≠ iL ∧ k_ ≠ ik) (fun k_ => ((fun k_ => k_ ≠ iL ∧ k_ ≠ ik)) k_ ∧ some k_ ≠ (.slice Pz jQ.length PD : Value).ownBlock) rfl rfl ?aO ?aR (fun _ _ h => h) (fun _ hk => ⟨hk.1, by simp [Value.ownBlock]⟩) ?aF (Below.refl _ _) ?aS ?aL ?_; (case aR => exact Kd.R_readsM (Kd.dn (dX.out) (fun k_ hk => ⟨hk.1, hk.2⟩))); (case aF => exact (fun k_ hk => ⟨Kd.dY (g := iL) (o := .cells #[.int .i64 0, .slice none 0 0] 31 (0, 0)) bk_ k_ hk, Kd.dY (g := ik) (o := .cells #[.int .i64 iD, .slice Pz jQ.length PD] 31 (0, 0)) bk_ k_ hk⟩)); (case aO => exact ((Kd.jv _ _ _ _ (fun k_ => k_ ≠ iL ∧ k_ ≠ ik)))); (case aS => exact (jh (w := w) (g := g) (row := none) (by repeat (first | (with_reducible first | exact HK.out | apply aJ.fF | apply bJ | apply bN | apply bK | refine bn ?_ jI.out _ | refine bn ?_ j5.out _) | exact HK.out)))); (case aL => have := LMc97.out; have hlx_ := (Kd.eu dX.out).1; omega); intro v204 w103 ho hb hg hat; rw [← Ny203.out] at ho; have ME := aa.mk (ho); replace jy := aa.mk (iq (g := iL) (o := .cells #[.int .i64 0, .slice none 0 0] 31 (0, 0)) bk_ hg (by simp [Value.ownBlock])); replace gF := aa.mk (iq (g := ik) (o := .cells #[.int .i64 iD, .slice Pz jQ.length PD] 31 (0, 0)) bk_ hg (by simp [Value.ownBlock])); replace HI0 := aa.mk (au.grown si_ hg (by simp [Value.ownBlock])); replace HB := aa.mk (xN bl_ HL.out hb); replace HK := aa.mk (aJ.trans (by repeat (first | (with_reducible first | exact HK.out | apply aJ.fF | apply bJ | apply bN | apply bK | refine bn ?_ jI.out _ | refine bn ?_ j5.out _) | exact HK.out)) (aJ.AR hg g) (.inl (by simp [Value.ownBlock]))); clear dX; clear ho hb hg hat) | ((with_reducible refine xQ (b := .append) (xs := #[.tmp 95, .tmp 97]) rfl ?_); (try (refine dx (by rfl) ?_; dsimp only)); at_builtin; refine Kd.TN k31 w.heap.size rfl (.tmp 95) (.tmp 97) 29 31 (.agg #[(.int .i64 0), (.slice none 0 0)]) 32 rfl Try.underlying29 Jf rfl (by decide) (by omega) v204 G7 (⟨0, ([] : List (S31))⟩ : S31) [.int .i64 0, .slice none 0 0] (fun k_ => k_ ≠ iL ∧ k_ ≠ ik) (fun k_ => ((fun k_ => k_ ≠ iL ∧ k_ ≠ ik)) k_ ∧ some k_ ≠ (v204 : Value).ownBlock) rfl rfl ?aP (fun _ hk => hk) ?aF ?aO (Below.refl _ _) ?aS ?aL ?_; (case aP => exact Bh _ _ _ (⟨0, ([] : List (S31))⟩ : S31) (Kd.jv _ _ _ _ _)); (case aF => exact (fun k_ hk => ⟨Kd.dY (g := iL) (o := .cells #[.int .i64 0, .slice none 0 0] 31 (0, 0)) bk_ k_ hk, Kd.dY (g := ik) (o := .cells #[.int .i64 iD, .slice Pz jQ.length PD] 31 (0, 0)) bk_ k_ hk⟩)); (case aO => exact (pR_ ME.out)); (case aS => exact (jh (w := w) (g := g) (row := none) (by repeat (first | (with_reducible first | exact HK.out | apply aJ.fF | apply bJ | apply bN | apply bK | refine bn ?_ jI.out _ | refine bn ?_ j5.out _) | exact HK.out)))); (case aL => have := LMc98.out; omega); intro v207 w105 ho hb hg hat; rw [← Ny206.out] at ho; have HO208 := aa.mk (ho); replace jy := aa.mk (iq (g := iL) (o := .cells #[.int .i64 0, .slice none 0 0] 31 (0, 0)) bk_ hg (Kd.xM ME.out (fun _ hk => hk.1))); replace gF := aa.mk (iq (g := ik) (o := .cells #[.int .i64 iD, .slice Pz jQ.length PD] 31 (0, 0)) bk_ hg (Kd.xM ME.out (fun _ hk => hk.2))); replace HI0 := aa.mk (au.grown si_ hg (au.own_ne HI0.out ME.out (by decide))); replace HB := aa.mk (xN bl_ HL.out hb); replace HK := aa.mk (aJ.trans (by repeat (first | (with_reducible first | exact HK.out | apply aJ.fF | apply bJ | apply bN | apply bK | refine bn ?_ jI.out _ | refine bn ?_ j5.out _) | exact HK.out)) (aJ.AR hg g) (Kd.L6 ME.out)); clear ME; clear ho hb hg hat; obtain ⟨Ao106, co106, eo106⟩ := Kd.fH HO208.out; subst eo106; obtain ⟨hcz107_0, hcz107_1, hfz107_0, hfz107_1⟩ := iy gF.out; have hnb108 := rH.out; have hnc108 := rG.out; obtain ⟨hcz109_0, hcz109_1, hfz109_0, hfz109_1⟩ := iy jy.out))
       refine bodyPost_ret (results_cell_row rfl _ _ iL 31 #[.int .i64 iD, .slice Ao106 y206.length co106] (0, 0) _ rfl (by (with_reducible repeat (first | refine ah ?_ _ | refine ai ?_ | refine af ?_ _)); refine aW (cs := #[.int .i64 iD, .slice none 0 0]) ?_ 1 _ rfl; (with_reducible repeat (first | refine ah ?_ _ | refine ai ?_ | refine af ?_ _)); refine aW (cs := #[.int .i64 0, .slice none 0 0]) ?_ 0 _ rfl; (with_reducible repeat (first | refine ah ?_ _ | refine ai ?_ | refine af ?_ _)); refine aQ ?_ lL.out _; (with_reducible repeat (first | refine ah ?_ _ | refine ai ?_ | refine af ?_ _)); exact jy.out) Try.underlying31 rfl (by kernel_rfl)) rfl ?_
       exact ⟨_, re_, by (with_reducible repeat (first | apply Kd.fQ | apply Kd.fT | apply Kd.fI)); exact Kd.dn (Kd.fB (p := ⟨iL, 1, none⟩) (Kd.fB (p := ⟨iL, 0, none⟩) (Kd.fB (p := ⟨ik, 1, none⟩) (Kd.dn (Kd.dn HO208.out (fun k_ hk => (⟨hk, by first | exact hk.2 | exact hk.1 | exact hk.2 | exact hk.1.1 | exact hk.1.2⟩ : _ ∧ k_ ≠ ik))) (fun k_ hk => (⟨hk, by first | exact hk.1.1 | exact hk.1 | exact hk.2 | exact hk.1.1 | exact hk.1.2⟩ : _ ∧ k_ ≠ iL))) (fun _ hk => hk.1.2) (.slice Ao106 y206.length co106)) (fun _ hk => hk.2) (.int .i64 iD)) (fun _ hk => hk.2) (.slice Ao106 y206.length co106)) (fun _ hk => trivial), si_, bl_, by repeat (first | (with_reducible first | exact HK.out | apply aJ.fF | apply bJ | apply bN | apply bK | refine bn ?_ jI.out _ | refine bn ?_ j5.out _) | exact HK.out)⟩
      ·rw [if_neg c98] at H; exact absurd H (by simp)
     ·rw [if_neg c97] at H; exact absurd H (by simp)
    ·rw [if_neg c96] at H; have c96b0 : (t194 == 1) = false := beq_eq_false_iff_ne.mpr c96; have c96b1 : (t194 != 1) = true := bne_iff_ne.mpr c96; simp only [Option.some.injEq, Prod.mk.injEq] at H; obtain ⟨rfl, rfl, rfl, rfl⟩ := H; go_wp2_with (first | ((with_reducible refine aZ (f := 19) rfl ?_); refine cz (some 81) rfl rfl Try.func19 (by kernel_rfl) rfl #[.pointer (some ⟨g, 0, none⟩), .int .i64 24] rfl mp_ ?_; (with_reducible refine (dz.calls g dA yL yM 24 t194 Ff t196 w0 _ ?aX ?aY A80.out).mono ?_); (case aX => repeat (first | (with_reducible first | exact HI0.out | apply au.alloc | apply au.drewN | apply au.drew | apply au.jL | apply au.jM | refine au.far ?_ rG.out _ | refine au.far ?_ oo.out _) | exact HI0.out)); (case aY => repeat (first | (with_reducible first | exact HB.out | apply dC | apply bR | apply bV | refine bI ?_ (au.ge HI0.out) | refine bI ?_ Em.out | refine bI ?_ En.out) | exact HB.out)); rintro e w110 ⟨rfl, hi, hb, hk⟩; refine ⟨_, rfl, ?_⟩; replace dX := aa.mk (Kd.dn (Kd.Ja (au.apart (show au w0 _ g dA yL yM from si_) (pR_ dX.out) (by decide)) hk (fun _ h => h.2)) (fun _ h => h.1)); replace jy := aa.mk (aJ.blk hk (g' := iL) (o := .cells #[.int .i64 0, .slice none 0 0] 31 (0, 0)) bk_ rH.out (by simp)); replace gF := aa.mk (aJ.blk hk (g' := ik) (o := .cells #[.int .i64 iD, iK] 31 (0, 0)) bk_ oq.out (by simp)); replace HK := aa.mk (aJ.trans (by repeat (first | (with_reducible first | exact HK.out | apply aJ.fF | apply bJ | apply bN | apply bK | refine bn ?_ jI.out _ | refine bn ?_ j5.out _) | exact HK.out)) hk (.inl rfl)); replace HB := aa.mk (hb); replace HI0 := aa.mk (hi); (try clear hb); (try clear hb2); (try clear hk); (try clear hi); have hnb111 := uq.out; have hnc111 := lL.out; have hnb112 := oq.out; have hnc112 := oo.out; obtain ⟨hcz113_0, hcz113_1, hfz113_0, hfz113_1⟩ := iy gF.out; have hnb114 := rH.out; have hnc114 := rG.out; obtain ⟨hcz115_0, hcz115_1, hfz115_0, hfz115_1⟩ := iy jy.out; obtain ⟨Ao116, co116, eo116⟩ := Kd.fH dX.out; subst eo116))
     refine bodyPost_ret (results_cell_row rfl _ _ iL 31 #[.int .i64 iD, .slice Ao116 jQ.length co116] (0, 0) _ rfl (by (with_reducible repeat (first | refine ah ?_ _ | refine ai ?_ | refine af ?_ _)); refine aW (cs := #[.int .i64 iD, .slice none 0 0]) ?_ 1 _ rfl; (with_reducible repeat (first | refine ah ?_ _ | refine ai ?_ | refine af ?_ _)); refine aW (cs := #[.int .i64 0, .slice none 0 0]) ?_ 0 _ rfl; (with_reducible repeat (first | refine ah ?_ _ | refine ai ?_ | refine af ?_ _)); exact jy.out) Try.underlying31 rfl (by kernel_rfl)) rfl ?_
     exact ⟨_, re_, by (with_reducible repeat (first | apply Kd.fQ | apply Kd.fT | apply Kd.fI)); exact Kd.dn (Kd.fB (p := ⟨iL, 1, none⟩) (Kd.fB (p := ⟨iL, 0, none⟩) (Kd.dn dX.out (fun k_ hk => (⟨hk, by first | exact hk.1 | exact hk.1 | exact hk.2 | exact hk.1.1 | exact hk.1.2⟩ : _ ∧ k_ ≠ iL))) (fun _ hk => hk.2) (.int .i64 iD)) (fun _ hk => hk.2) (.slice Ao116 jQ.length co116)) (fun _ hk => trivial), si_, bl_, by repeat (first | (with_reducible first | exact HK.out | apply aJ.fF | apply bJ | apply bN | apply bK | refine bn ?_ jI.out _ | refine bn ?_ j5.out _) | exact HK.out)⟩

end Go.Proofs.Ytggelekooacmnaa.Z
namespace Go.Proofs.Ytggelekooacmnaa.Z
open Go.RowKit Go.Proofs.YtggelekooacmnaaW.bM Go.Proofs.YtggelekooacmnaaW.dR Go.Proofs.YtggelekooacmnaaW.eO
attribute [local go_sem] iM iN jk jl gW gX iO iP   -- for this text's walks alone
set_option linter.unusedVariables false
set_option linter.unusedSimpArgs false

/-! ### aN: function 14 -/
mutual
def aN.j0 : Nat → Int → Bool → Int → Int → Int → Int → List (S27) → Option ((List (S44)))
 | 0, _, _, _, _, _, _, _ => none
 | k + 1, x8, x21, Dj, FP, FQ, Bi, mY => if x21 = true then (some (([(⟨Dj, 0, 0⟩ : S44)] : List (S44)))) else (if x8 = 6 then (aN.l0 k (([(⟨2, 0, Bi⟩ : S44)] : List (S44))) 0 Dj FP FQ Bi mY) else (aN.l1 k ([] : List (S44)) 0 Dj FP FQ Bi mY))
def aN.l0 : Nat → List (S44) → Int → Int → Int → Int → Int → List (S27) → Option ((List (S44)))
 | 0, _, _, _, _, _, _, _ => none
 | k + 1, x3, x4, Dj, FP, FQ, Bi, mY => if x4 < Bi then (if 0 < (mY.length : Int) then ((aN.f k ((aj mY 0).f0) ((aj mY 0).f1) ((aj mY 0).f2) ((aj mY 0).f3) ((aj mY 0).f4)).bind fun t223 => (if x3.length + t223.length < 5864062014805 then (aN.l0 k (x3 ++ t223) (wrap64 (x4 + 1)) Dj FP FQ Bi mY) else (none))) else (none)) else (some x3)
def aN.l1 : Nat → List (S44) → Int → Int → Int → Int → Int → List (S27) → Option ((List (S44)))
 | 0, _, _, _, _, _, _, _ => none
 | k + 1, x5, x6, Dj, FP, FQ, Bi, mY => if x6 < (mY.length : Int) then (if 0 ≤ x6 then ((aN.f k ((aj mY x6).f0) ((aj mY x6).f1) ((aj mY x6).f2) ((aj mY x6).f3) ((aj mY x6).f4)).bind fun t230 => (if x5.length + t230.length < 5864062014805 then (aN.l1 k (x5 ++ t230) (wrap64 (x6 + 1)) Dj FP FQ Bi mY) else (none))) else (none)) else (some x5)
def aN.f : Nat → Int → Int → Int → Int → List (S27) → Option ((List (S44)))
 | 0, _, _, _, _, _ => none
 | k + 1, ak, aG, aH, aD, ag => if ak = 1 then (some (([(⟨1, 0, 1⟩ : S44)] : List (S44)))) else (if ak = 2 then (some (([(⟨2, aG, aH⟩ : S44)] : List (S44)))) else (if ak = 3 then (aN.j0 k ak (ak == 3) ak aG aH aD ag) else (aN.j0 k ak (ak == 4) ak aG aH aD ag)))
end
theorem aN.iU : ∀ k, (∀ y0 y1 y2 y3 y4, LeO (aN.f k y0 y1 y2 y3 y4) (aN.f (k + 1) y0 y1 y2 y3 y4)) ∧ (∀ y0 y1 y2 y3 y4 y5 y6, LeO (aN.j0 k y0 y1 y2 y3 y4 y5 y6) (aN.j0 (k + 1) y0 y1 y2 y3 y4 y5 y6)) ∧ (∀ y0 y1 y2 y3 y4 y5 y6, LeO (aN.l0 k y0 y1 y2 y3 y4 y5 y6) (aN.l0 (k + 1) y0 y1 y2 y3 y4 y5 y6)) ∧ (∀ y0 y1 y2 y3 y4 y5 y6, LeO (aN.l1 k y0 y1 y2 y3 y4 y5 y6) (aN.l1 (k + 1) y0 y1 y2 y3 y4 y5 y6))
 | 0 => ⟨fun _ _ _ _ _ r h => by simp [aN.f] at h, fun _ _ _ _ _ _ _ r h => by simp [aN.j0] at h, fun _ _ _ _ _ _ _ r h => by simp [aN.l0] at h, fun _ _ _ _ _ _ _ r h => by simp [aN.l1] at h⟩
 | k + 1 => by
  obtain ⟨ih0, ih1, ih2, ih3⟩ := aN.iU k; refine ⟨?_, ?_, ?_, ?_⟩
  ·intro y0 y1 y2 y3 y4; unfold aN.f; repeat' first
   | (with_reducible exact ih0 _ _ _ _ _)
   | (with_reducible exact ih1 _ _ _ _ _ _ _)
   | (with_reducible exact ih2 _ _ _ _ _ _ _)
   | (with_reducible exact ih3 _ _ _ _ _ _ _)
   | (with_reducible exact LeO.refl _)
   | (with_reducible exact LeO.none _)
   | (with_reducible refine LeO.ite ?_ ?_)
   | (with_reducible refine LeO.bind ?_ (fun _ => ?_))
   | exact ih0 _ _ _ _ _
   | exact ih1 _ _ _ _ _ _ _
   | exact ih2 _ _ _ _ _ _ _
   | exact ih3 _ _ _ _ _ _ _
   | exact LeO.none _
   | refine LeO.ite ?_ ?_
   | refine LeO.bind ?_ (fun _ => ?_)
  ·intro y0 y1 y2 y3 y4 y5 y6; unfold aN.j0; repeat' first
   | (with_reducible exact ih0 _ _ _ _ _)
   | (with_reducible exact ih1 _ _ _ _ _ _ _)
   | (with_reducible exact ih2 _ _ _ _ _ _ _)
   | (with_reducible exact ih3 _ _ _ _ _ _ _)
   | (with_reducible exact LeO.refl _)
   | (with_reducible exact LeO.none _)
   | (with_reducible refine LeO.ite ?_ ?_)
   | (with_reducible refine LeO.bind ?_ (fun _ => ?_))
   | exact ih0 _ _ _ _ _
   | exact ih1 _ _ _ _ _ _ _
   | exact ih2 _ _ _ _ _ _ _
   | exact ih3 _ _ _ _ _ _ _
   | exact LeO.none _
   | refine LeO.ite ?_ ?_
   | refine LeO.bind ?_ (fun _ => ?_)
  ·intro y0 y1 y2 y3 y4 y5 y6; unfold aN.l0; repeat' first
   | (with_reducible exact ih0 _ _ _ _ _)
   | (with_reducible exact ih1 _ _ _ _ _ _ _)
   | (with_reducible exact ih2 _ _ _ _ _ _ _)
   | (with_reducible exact ih3 _ _ _ _ _ _ _)
   | (with_reducible exact LeO.refl _)
   | (with_reducible exact LeO.none _)
   | (with_reducible refine LeO.ite ?_ ?_)
   | (with_reducible refine LeO.bind ?_ (fun _ => ?_))
   | exact ih0 _ _ _ _ _
   | exact ih1 _ _ _ _ _ _ _
   | exact ih2 _ _ _ _ _ _ _
   | exact ih3 _ _ _ _ _ _ _
   | exact LeO.none _
   | refine LeO.ite ?_ ?_
   | refine LeO.bind ?_ (fun _ => ?_)
  ·intro y0 y1 y2 y3 y4 y5 y6; unfold aN.l1; repeat' first
   | (with_reducible exact ih0 _ _ _ _ _)
   | (with_reducible exact ih1 _ _ _ _ _ _ _)
   | (with_reducible exact ih2 _ _ _ _ _ _ _)
   | (with_reducible exact ih3 _ _ _ _ _ _ _)
   | (with_reducible exact LeO.refl _)
   | (with_reducible exact LeO.none _)
   | (with_reducible refine LeO.ite ?_ ?_)
   | (with_reducible refine LeO.bind ?_ (fun _ => ?_))
   | exact ih0 _ _ _ _ _
   | exact ih1 _ _ _ _ _ _ _
   | exact ih2 _ _ _ _ _ _ _
   | exact ih3 _ _ _ _ _ _ _
   | exact LeO.none _
   | refine LeO.ite ?_ ?_
   | refine LeO.bind ?_ (fun _ => ?_)
theorem aN.mono : ∀ a0 a1 a2 a3 a4 k, LeO (aN.f k a0 a1 a2 a3 a4) (aN.f (k + 1) a0 a1 a2 a3 a4) := by
 intro a0 a1 a2 a3 a4 k; obtain ⟨ih0, ih1, ih2, ih3⟩ := aN.iU k; exact ih0 a0 a1 a2 a3 a4
set_option maxHeartbeats 8000000 in
set_option maxRecDepth 100000 in
theorem aN.calls (k : Nat) : ∀ (ak : Int) (aG : Int) (aH : Int) (aD : Int) (bL : Option Addr) (bF : Nat) (ag : List (S27)) (r : List (S44)) (w : World) (gM : Kd.C k27 w bL ag.length ag) (gN : ag.length ≤ bF) (h : aN.f k ak aG aH aD ag = some r),
  Calls Try.prog 14 #[.agg #[.int .i64 ak, .int .i64 aG, .int .i64 aH, .int .i64 aD, .slice bL ag.length bF]] w fun e w' => ∃ v0_ : Value, e = .returned (v0_) ∧ Kd.R k44 44 w' w.heap.size (fun _ => True) v0_ r ∧ Below w.heap.size w w' := by
 induction k using Nat.strongRecOn with
 | _ k ih =>
 intro ak aG aH aD bL bF ag r w gM gN h; cases k with
 | zero => exact absurd h (by simp [aN.f])
 | succ k =>
 simp only [aN.f] at h; have rY := Try.underlying27; have hu44 := Try.underlying44; have dH := aa.mk gM; have fq := aa.mk gN; clear gM gN; have HB := aa.mk (Below.refl w.heap.size w); have H : (if ak = 1 then (some (([(⟨1, 0, 1⟩ : S44)] : List (S44)))) else (if ak = 2 then (some (([(⟨2, aG, aH⟩ : S44)] : List (S44)))) else (if ak = 3 then (aN.j0 k ak (ak == 3) ak aG aH aD ag) else (aN.j0 k ak (ak == 4) ak aG aH aD ag)))) = some r := h; clear h; by_cases c2 : ak = 1
 ·rw [if_pos c2] at H; have Ag : (ak == 1) = true := beq_iff_eq.mpr c2; have Cq : (ak != 1) = false := bne_eq_false_iff_eq.mpr c2; clear c2; obtain ⟨y210, PE⟩ : ∃ y_ : List (S44), y_ = (([(⟨1, 0, 1⟩ : S44)] : List (S44))) := ⟨_, rfl⟩; replace H : (some y210) = some r := by first | (rw [PE]; with_reducible exact H) | (have H2_ := (Option.bind_some _ _).symm.trans H; rw [PE]; with_reducible exact H2_) | (have H2_ := (Option.bind_some _ _).symm.trans H; with_reducible exact H2_) | with_reducible exact H | (rw [PE]; exact H) | exact H
  have Ny210 := aa.mk PE; clear PE; obtain rfl := Option.some.inj H; go_enter Try.func14, Try.ntmps14; go_wp2_with (first | ((with_reducible refine bu (N := 1) rfl ?_); refine bz ?hg (N := 1) ?hd (cs := #[.int .i64 ak, .int .i64 aG, .int .i64 aH, .int .i64 aD, .slice bL ag.length bF]) (t := 27) ?hr ?_; (case hd => rfl); (case hg => rfl); (case hr => first | (go_simp; done) | (go_simp; rfl)); intro Eo hg w3 aU hb; have lD := aa.mk (aU); have PG : aa (w.heap.size ≤ Eo) := gw_ hg (aI bl_); have GE209 := PG; replace HB := aa.mk (ay bl_ hb); clear hb aU hg; obtain ⟨xV, xW, xX, xY, xZ, yc, yf, yg, yh, yj⟩ := bQ lD.out) | ((with_reducible refine bu (N := 12) rfl ?_); refine Kd.um k44 _ 44 ?hg (N := 12) ?hd (xs := ([(⟨1, 0, 1⟩ : S44)] : List (S44))) (inner := [.int .i64 1, .int .i64 0, .int .i64 1]) (ok := fun _ => True) (okp := fun _ => True) ?hr ?hp (fun _ hk => hk) trivial (Below.refl _ _) (Nat.le_refl _) (by simp) ?_; (case hd => rfl); (case hg => rfl); (case hr => first | (go_simp; done) | (go_simp; rfl)); (case hp => exact (dP.c3 (show Kd.M k44 _ _ _ (⟨1, 0, 1⟩ : S44) [.int .i64 1, .int .i64 0, .int .i64 1] from (Ma _ _ _ (⟨1, 0, 1⟩ : S44) )) (dP.none _ _))); intro v211 w5 ho6 hb hg_ jw; clear hg_ jw; (first | rw [← Ny210.out] at ho6 | (simp only [Int.reduceToNat] at ho6; rw [← Ny210.out] at ho6)); have HO212 := aa.mk (Kd.gm ho6 (aI bl_)); replace lD := kb_ lD hb; replace HB := aa.mk (ay bl_ hb); clear hb ho6))
  go_ret; exact ⟨_, re_, pR_ HO212.out, bl_⟩
 ·rw [if_neg c2] at H; have Ag : (ak == 1) = false := beq_eq_false_iff_ne.mpr c2; have Cq : (ak != 1) = true := bne_iff_ne.mpr c2; by_cases c7 : ak = 2
  ·rw [if_pos c7] at H; have uL : (ak == 2) = true := beq_iff_eq.mpr c7; have c7b1 : (ak != 2) = false := bne_eq_false_iff_eq.mpr c7; clear c7; obtain ⟨y213, PH⟩ : ∃ y_ : List (S44), y_ = (([(⟨2, aG, aH⟩ : S44)] : List (S44))) := ⟨_, rfl⟩; replace H : (some y213) = some r := by first | (rw [PH]; with_reducible exact H) | (have H2_ := (Option.bind_some _ _).symm.trans H; rw [PH]; with_reducible exact H2_) | (have H2_ := (Option.bind_some _ _).symm.trans H; with_reducible exact H2_) | with_reducible exact H | (rw [PH]; exact H) | exact H
   have Ny213 := aa.mk PH; clear PH; obtain rfl := Option.some.inj H; go_enter Try.func14, Try.ntmps14; go_wp2_with (first | ((with_reducible refine bu (N := 1) rfl ?_); refine bz ?hg (N := 1) ?hd (cs := #[.int .i64 ak, .int .i64 aG, .int .i64 aH, .int .i64 aD, .slice bL ag.length bF]) (t := 27) ?hr ?_; (case hd => rfl); (case hg => rfl); (case hr => first | (go_simp; done) | (go_simp; rfl)); intro Eo hg w8 aU hb; have lD := aa.mk (aU); have PG : aa (w.heap.size ≤ Eo) := gw_ hg (aI bl_); have GE209 := PG; replace HB := aa.mk (ay bl_ hb); clear hb aU hg; obtain ⟨EJ, EK, EL, EM, EN, EO, EP, ER, ES, ET⟩ := bQ lD.out) | ((with_reducible refine bu (N := 20) rfl ?_); refine Kd.um k44 _ 44 ?hg (N := 20) ?hd (xs := ([(⟨2, aG, aH⟩ : S44)] : List (S44))) (inner := [.int .i64 2, .int .i64 aG, .int .i64 aH]) (ok := fun _ => True) (okp := fun _ => True) ?hr ?hp (fun _ hk => hk) trivial (Below.refl _ _) (Nat.le_refl _) (by simp) ?_; (case hd => rfl); (case hg => rfl); (case hr => first | (go_simp; done) | (go_simp; rfl)); (case hp => exact (dP.c3 (show Kd.M k44 _ _ _ (⟨2, aG, aH⟩ : S44) [.int .i64 2, .int .i64 aG, .int .i64 aH] from (Ma _ _ _ (⟨2, aG, aH⟩ : S44) )) (dP.none _ _))); intro v214 w10 ho11 hb hg_ jw; clear hg_ jw; (first | rw [← Ny213.out] at ho11 | (simp only [Int.reduceToNat] at ho11; rw [← Ny213.out] at ho11)); have HO215 := aa.mk (Kd.gm ho11 (aI bl_)); replace lD := kb_ lD hb; replace HB := aa.mk (ay bl_ hb); clear hb ho11))
   go_ret; exact ⟨_, re_, pR_ HO215.out, bl_⟩
  ·rw [if_neg c7] at H; have uL : (ak == 2) = false := beq_eq_false_iff_ne.mpr c7; have c7b1 : (ak != 2) = true := bne_iff_ne.mpr c7; have HC12 := aa.mk H; clear H; go_enter Try.func14, Try.ntmps14; go_upto_if 21 with (first | ((with_reducible refine bu (N := 1) rfl ?_); refine bz ?hg (N := 1) ?hd (cs := #[.int .i64 ak, .int .i64 aG, .int .i64 aH, .int .i64 aD, .slice bL ag.length bF]) (t := 27) ?hr ?_; (case hd => rfl); (case hg => rfl); (case hr => first | (go_simp; done) | (go_simp; rfl)); intro Eo hg w13 aU hb; have lD := aa.mk (aU); have PG : aa (w.heap.size ≤ Eo) := gw_ hg (aI bl_); have GE209 := PG; replace HB := aa.mk (ay bl_ hb); clear hb aU hg; obtain ⟨mg, mh, mi, mo, mq, mr, mD, mE, mF, mG⟩ := bQ lD.out))
   (try simp only [Act.put, List.setIfInBounds_toArray, List.set_cons_zero, List.set_cons_succ])
   go_cut [21] (fun v21 wc => ∃ (kq : Nat) (PI : Bool), v21 = .bool PI ∧ aa (aN.j0 kq ak PI ak aG aH aD ag = some r) ∧ aa (kq ≤ k) ∧ aa (wc.heap[Eo]? = some (.cells #[.int .i64 ak, .int .i64 aG, .int .i64 aH, .int .i64 aD, (.slice bL ag.length bF)] 27 (0, 0))) ∧ aa (Below w.heap.size w wc))
   case first =>
    have H := HC12.out; clear HC12; by_cases c15 : ak = 3
    ·rw [if_pos c15] at H; have si : (ak == 3) = true := beq_iff_eq.mpr c15; have Ep : (ak != 3) = false := bne_eq_false_iff_eq.mpr c15; clear c15; (first | rw [si] | (simp only [eQ, fe]; rw [si]) | skip)
     have H' := aa.mk H; clear H; go_wp2; go_meet
     case rel => exact ⟨_, ((ak == 3)), rs_, H', ⟨by first | omega | exact Nat.le_refl _⟩, ⟨bk_⟩, ⟨bl_⟩⟩
    ·rw [if_neg c15] at H; have si : (ak == 3) = false := beq_eq_false_iff_ne.mpr c15; have Ep : (ak != 3) = true := bne_iff_ne.mpr c15; (first | rw [si] | (simp only [eQ, fe]; rw [si]) | skip)
     have H' := aa.mk H; clear H; go_wp2; go_meet
     case rel => exact ⟨_, ((ak == 4)), rs_, H', ⟨by first | omega | exact Nat.le_refl _⟩, ⟨bk_⟩, ⟨bl_⟩⟩
   case rest =>
    clear HC12; (try clear c1); (try clear c2); (try clear Ag); (try clear Cq); (try clear p2); (try clear c3); (try clear c7); (try clear uL); (try clear c7b1); (try clear c14); (try clear c15); (try clear si); (try clear Ep); (try clear mg mh mi mo mq mr mD mE mF mG); (try clear xV xW xX xY xZ yc yf yg yh yj); (try clear EJ EK EL EM EN EO EP ER ES ET); obtain ⟨kq, PI, rfl, HA, HJ11, lD, HB⟩ := hcut; cases kq with
    | zero => exact absurd HA.out (by simp [aN.j0])
    | succ kj11 =>
     have H := HA.out; clear HA; simp only [aN.j0] at H; by_cases c16 : PI = true
     ·subst c16; have H1 : (some (([(⟨ak, 0, 0⟩ : S44)] : List (S44)))) = some r := by rw [if_pos rfl] at H; exact H
      clear H; have H := H1; clear H1; obtain ⟨y216, PK⟩ : ∃ y_ : List (S44), y_ = (([(⟨ak, 0, 0⟩ : S44)] : List (S44))) := ⟨_, rfl⟩; replace H : (some y216) = some r := by first | (rw [PK]; with_reducible exact H) | (have H2_ := (Option.bind_some _ _).symm.trans H; rw [PK]; with_reducible exact H2_) | (have H2_ := (Option.bind_some _ _).symm.trans H; with_reducible exact H2_) | with_reducible exact H | (rw [PK]; exact H) | exact H
      have Ny216 := aa.mk PK; clear PK; obtain rfl := Option.some.inj H; obtain ⟨FR, FT, FU, FV, FW, FX, FY, FZ, F3, F4⟩ := bQ lD.out; go_wp2_with (first | ((with_reducible refine bu (N := 27) rfl ?_); refine Kd.um k44 _ 44 ?hg (N := 27) ?hd (xs := ([(⟨ak, 0, 0⟩ : S44)] : List (S44))) (inner := [.int .i64 ak, .int .i64 0, .int .i64 0]) (ok := fun _ => True) (okp := fun _ => True) ?hr ?hp (fun _ hk => hk) trivial (Below.refl _ _) (Nat.le_refl _) (by simp) ?_; (case hd => rfl); (case hg => rfl); (case hr => first | (go_simp; done) | (go_simp; rfl)); (case hp => exact (dP.c3 (show Kd.M k44 _ _ _ (⟨ak, 0, 0⟩ : S44) [.int .i64 ak, .int .i64 0, .int .i64 0] from (Ma _ _ _ (⟨ak, 0, 0⟩ : S44) )) (dP.none _ _))); intro v217 w18 ho19 hb hg_ jw; clear hg_ jw; (first | rw [← Ny216.out] at ho19 | (simp only [Int.reduceToNat] at ho19; rw [← Ny216.out] at ho19)); have HO218 := aa.mk (Kd.gm ho19 (aI bl_)); replace lD := kb_ lD hb; replace HB := aa.mk (ay bl_ hb); clear hb ho19))
      go_ret; exact ⟨_, re_, pR_ HO218.out, bl_⟩
     ·replace c16 := Bool.eq_false_iff.mpr c16; subst c16; have H1 : (if ak = 6 then (aN.l0 kj11 (([(⟨2, 0, aD⟩ : S44)] : List (S44))) 0 ak aG aH aD ag) else (aN.l1 kj11 ([] : List (S44)) 0 ak aG aH aD ag)) = some r := by rw [if_neg (show ¬ (false = true) by decide)] at H; exact H
      clear H; have H := H1; clear H1; by_cases c20 : ak = 6
      ·rw [if_pos c20] at H; have Az : (ak == 6) = true := beq_iff_eq.mpr c20; have MF : (ak != 6) = false := bne_eq_false_iff_eq.mpr c20; clear c20; obtain ⟨y219, PL⟩ : ∃ y_ : List (S44), y_ = (([(⟨2, 0, aD⟩ : S44)] : List (S44))) := ⟨_, rfl⟩; replace H : (aN.l0 kj11 y219 0 ak aG aH aD ag) = some r := by first | (rw [PL]; with_reducible exact H) | (have H2_ := (Option.bind_some _ _).symm.trans H; rw [PL]; with_reducible exact H2_) | (have H2_ := (Option.bind_some _ _).symm.trans H; with_reducible exact H2_) | with_reducible exact H | (rw [PL]; exact H) | exact H
       have Ny219 := aa.mk PL; clear PL; have H' := aa.mk H; clear H; obtain ⟨sM, sN, sO, sP, sQ, sS, sU, sV, sW, sZ⟩ := bQ lD.out; go_wp2_with (first | ((with_reducible refine bu (N := 33) rfl ?_); refine Kd.um k44 _ 44 ?hg (N := 33) ?hd (xs := ([(⟨2, 0, aD⟩ : S44)] : List (S44))) (inner := [.int .i64 2, .int .i64 0, .int .i64 aD]) (ok := fun _ => True) (okp := fun _ => True) ?hr ?hp (fun _ hk => hk) trivial (Below.refl _ _) (Nat.le_refl _) (by simp) ?_; (case hd => rfl); (case hg => rfl); (case hr => first | (go_simp; done) | (go_simp; rfl)); (case hp => exact (dP.c3 (show Kd.M k44 _ _ _ (⟨2, 0, aD⟩ : S44) [.int .i64 2, .int .i64 0, .int .i64 aD] from (Ma _ _ _ (⟨2, 0, aD⟩ : S44) )) (dP.none _ _))); intro v220 w22 ho23 hb hg_ jw; clear hg_ jw; (first | rw [← Ny219.out] at ho23 | (simp only [Int.reduceToNat] at ho23; rw [← Ny219.out] at ho23)); have HO221 := aa.mk (Kd.gm ho23 (aI bl_)); replace lD := kb_ lD hb; replace HB := aa.mk (ay bl_ hb); clear hb ho23))
       go_loopg [3, 4] kj11 (fun kq v3 v4 w' => ∃ (x3_2 : List (S44)) (x4_2 : Int), v4 = .int .i64 x4_2 ∧ aa (aN.l0 kq x3_2 x4_2 ak aG aH aD ag = some r) ∧ aa (kq ≤ kj11) ∧ aa (Kd.R k44 44 w' w.heap.size (fun _ => True) v3 x3_2) ∧ aa (w'.heap[Eo]? = some (.cells #[.int .i64 ak, .int .i64 aG, .int .i64 aH, .int .i64 aD, (.slice bL ag.length bF)] 27 (0, 0))) ∧ aa (Below w.heap.size w w'))
       case atStart => exact ⟨(y219), (0), rs_, H', ⟨Nat.le_refl _⟩, ⟨pR_ HO221.out⟩, ⟨bk_⟩, ⟨bl_⟩⟩
       case round =>
        clear H'; (try clear c1); (try clear c2); (try clear Ag); (try clear Cq); (try clear p2); (try clear c3); (try clear c7); (try clear uL); (try clear c7b1); (try clear c14); (try clear c15); (try clear si); (try clear Ep); (try clear c16); (try clear c20); (try clear Az); (try clear MF); (try clear mg mh mi mo mq mr mD mE mF mG); (try clear FR FT FU FV FW FX FY FZ F3 F4); (try clear sM sN sO sP sQ sS sU sV sW sZ); (try clear xV xW xX xY xZ yc yf yg yh yj); (try clear EJ EK EL EM EN EO EP ER ES ET); (try clear p2); obtain ⟨x3_2, x4_2, rfl, HA, HK2, HO_3, lD, HB⟩ := hrel; cases gk with
        | zero => exact absurd HA.out (by simp [aN.l0])
        | succ k2 =>
         have H := HA.out; clear HA; simp only [aN.l0] at H; by_cases c24 : x4_2 < aD
         ·rw [if_pos c24] at H; have xK : decide (x4_2 < aD) = true := decide_eq_true c24; clear c24; by_cases c25 : 0 < (ag.length : Int)
          ·rw [if_pos c25] at H; have KJ : decide (0 < (ag.length : Int)) = true := decide_eq_true c25; have c25b1 : decide (0 < ag.length) = true := decide_eq_true (by omega); clear c25; replace H := Option.bind_eq_some_iff.mp H; obtain ⟨t223, A260, H⟩ := H; replace H : (if x3_2.length + t223.length < 5864062014805 then (aN.l0 k2 (x3_2 ++ t223) (wrap64 (x4_2 + 1)) ak aG aH aD ag) else (none)) = some r := H; have A26 := aa.mk A260; clear A260; by_cases c27 : x3_2.length + t223.length < 5864062014805
           ·rw [if_pos c27] at H; have LMc27 := aa.mk c27; clear c27; obtain ⟨y226, PM⟩ : ∃ y_ : List (S44), y_ = (x3_2 ++ t223) := ⟨_, rfl⟩; replace H : (aN.l0 k2 y226 (wrap64 (x4_2 + 1)) ak aG aH aD ag) = some r := by first | (rw [PM]; with_reducible exact H) | (have H2_ := (Option.bind_some _ _).symm.trans H; rw [PM]; with_reducible exact H2_) | (have H2_ := (Option.bind_some _ _).symm.trans H; with_reducible exact H2_) | with_reducible exact H | (rw [PM]; exact H) | exact H
            have Ny226 := aa.mk PM; clear PM; have H' := aa.mk H; clear H; obtain ⟨nK, nL, oL, oM, oN, nM, nN, oO, oP, oQ⟩ := bQ lD.out; have p222 : 0 ≤ (0 : Int) := (by omega); have q222 : 0 < (ag.length : Int) := dt_; obtain ⟨ad222, A222_4, c222_4, e222, MG, MH, MI, MJ, MK, Vb, Vd⟩ := gQ dH.out 0 p222 q222; cases e222; have qi222 : (0 < ag.length) = True := eq_true (by omega); (try simp only [z0_, Nat.zero_mul, Addr.add_zero'] at MG MH MI MJ MK)
            replace MG := hc_ HB MG; replace MH := hc_ HB MH; replace MI := hc_ HB MI; replace MJ := hc_ HB MJ; replace MK := hc_ HB MK; have HR222_4 := aa.mk Vd; have HC222_4 := aa.mk Vb; clear Vd Vb; replace p222 := eq_true p222; replace q222 := eq_true q222; go_wp2_with (first | ((with_reducible refine aZ (f := 14) rfl ?_); refine cz (some 45) rfl rfl Try.func14 (by kernel_rfl) rfl #[.agg #[.int .i64 ((aj ag 0).f0), .int .i64 ((aj ag 0).f1), .int .i64 ((aj ag 0).f2), .int .i64 ((aj ag 0).f3), .slice A222_4 ((aj ag 0).f4).length c222_4]] rfl mp_ ?_; (with_reducible refine (ih k2 (by have := HJ11.out; have := HK2.out; omega) ((aj ag 0).f0) ((aj ag 0).f1) ((aj ag 0).f2) ((aj ag 0).f3) _ _ ((aj ag 0).f4) t223 _ ?aX ?aY A26.out).mono ?_); (case aX => exact cb_ (Kd.bX HR222_4.out HB.out)); (case aY => exact HC222_4.out); rintro e w29 ⟨v224, rfl, ho0, hb⟩; refine ⟨_, rfl, ?_⟩; have PN := aa.mk (Kd.gm (Kd.oH ho0 (Kd.ou (pR_ HO_3.out))) (aI bl_)); replace HO_3 := aa.mk (Kd.mK (pR_ HO_3.out) (Kd.eZ ho0) hb); replace lD := kb_ lD hb; replace HB := aa.mk (ay bl_ hb); (try clear hb); (try clear hb2); (try clear hk); (try clear hi); (try clear ho0); obtain ⟨Ao31, co31, eo31⟩ := Kd.fH PN.out; subst eo31) | ((with_reducible refine xQ (b := .append) (xs := #[.tmp 40, .tmp 45]) rfl ?_); at_builtin; refine Kd.E5 k44 (w0 := w) w.heap.size rfl (.tmp 40) (.tmp 45) 40 44 (.agg #[(.int .i64 0), (.int .i64 0), (.int .i64 0)]) 24 rfl Try.underlying40 info44 rfl (by decide) (by omega) u3 x3_2 t223 _ _ _ (fun k_ => some k_ ≠ (.slice Ao31 t223.length co31 : Value).ownBlock) (fun _ => False) rfl rfl ?aO ?aR (fun _ _ h => h) (fun _ h => h.elim) ?aF ?aB ?aS ?aL ?_; (case aR => exact cb_ ((Kd.eu PN.out).2.2)); (case aB => exact bl_); (case aF => exact (fun k_ hk => Kd.fresh' (Kd.ou (pR_ PN.out)) k_ hk)); (case aO => exact (by (with_reducible repeat (first | apply Kd.fQ | apply Kd.fT | apply Kd.fI)); exact Kd.dn HO_3.out (fun _ hk => hk.2))); (case aS => exact (aI bl_)); (case aL => have := LMc27.out; omega); intro v227 w30 ho hb hg hat; rw [← Ny226.out] at ho; have HO228 := aa.mk (ho); replace lD := aa.mk (iq (g := Eo) (o := .cells #[.int .i64 ak, .int .i64 aG, .int .i64 aH, .int .i64 aD, .slice (some ad222) ag.length bF] 27 (0, 0)) bk_ hg (Kd.xB HO_3.out lD.out (by decide))); replace PN := aa.mk (Kd.Jb (ok := (fun _ => True)) (pR_ PN.out) hg hat); replace HB := aa.mk (hb); clear HO_3; clear ho hb hg hat))
            go_roundg k2
            case measure => have := HJ11.out; have := HK2.out; omega
            case rel => exact ⟨(y226), (wrap64 (x4_2 + 1)), rs_, H', ⟨by have := HJ11.out; have := HK2.out; omega⟩, ⟨by (with_reducible repeat (first | apply Kd.fQ | apply Kd.fT | apply Kd.fI)); exact Kd.dn HO228.out (fun _ hk => trivial)⟩, ⟨bk_⟩, ⟨bl_⟩⟩
           ·rw [if_neg c27] at H; exact absurd H (by simp)
          ·rw [if_neg c25] at H; exact absurd H (by simp)
         ·rw [if_neg c24] at H; have xK : decide (x4_2 < aD) = false := decide_eq_false c24; clear c24; obtain rfl := Option.some.inj H; obtain ⟨wW, wX, F5, F6, F7, wY, wZ, F8, F9, Ga⟩ := bQ lD.out; go_wp2; go_ret; exact ⟨_, re_, pR_ HO_3.out, bl_⟩
      ·rw [if_neg c20] at H; have Az : (ak == 6) = false := beq_eq_false_iff_ne.mpr c20; have MF : (ak != 6) = true := bne_iff_ne.mpr c20; have H' := aa.mk H; clear H; go_wp2; go_loopg [5, 6] kj11 (fun kq v5 v6 w' => ∃ (x5_2 : List (S44)) (qR : Int), v6 = .int .i64 qR ∧ aa (aN.l1 kq x5_2 qR ak aG aH aD ag = some r) ∧ aa (kq ≤ kj11) ∧ aa (Kd.R k44 44 w' w.heap.size (fun _ => True) v5 x5_2) ∧ aa (w'.heap[Eo]? = some (.cells #[.int .i64 ak, .int .i64 aG, .int .i64 aH, .int .i64 aD, (.slice bL ag.length bF)] 27 (0, 0))) ∧ aa (Below w.heap.size w w'))
       case atStart => exact ⟨(([] : List (S44))), (0), rs_, H', ⟨Nat.le_refl _⟩, ⟨by first | exact Kd.jv _ _ _ _ _ | exact Kd.kV _ _ _ _ _ | exact Kd.jZ _ _ _ _ _ | exact Kd.kT _ _ _ _ _ | exact Kd.kU _ _ _ _ _⟩, ⟨bk_⟩, ⟨bl_⟩⟩
       case round =>
        clear H'; (try clear c1); (try clear c2); (try clear Ag); (try clear Cq); (try clear p2); (try clear q2); (try clear hx2); (try clear qi2); (try clear c3); (try clear p6); (try clear c7); (try clear uL); (try clear c7b1); (try clear c14); (try clear c15); (try clear si); (try clear Ep); (try clear c16); (try clear c20); (try clear Az); (try clear MF); (try clear c22); (try clear p22); (try clear q22); (try clear hx22); (try clear qi22); (try clear c24); (try clear xK); (try clear c25); (try clear KJ); (try clear c25b1); (try clear c27); (try clear mg mh mi mo mq mr mD mE mF mG); (try clear FR FT FU FV FW FX FY FZ F3 F4); (try clear sM sN sO sP sQ sS sU sV sW sZ); (try clear nK nL oL oM oN nM nN oO oP oQ); (try clear wW wX F5 F6 F7 wY wZ F8 F9 Ga); (try clear xV xW xX xY xZ yc yf yg yh yj); (try clear EJ EK EL EM EN EO EP ER ES ET); (try clear MG); (try clear MH); (try clear MI); (try clear MJ); (try clear MK); (try clear p2); (try clear p222); (try clear q222); obtain ⟨x5_2, qR, rfl, HA, HK2, qL, lD, HB⟩ := hrel; cases gk with
        | zero => exact absurd HA.out (by simp [aN.l1])
        | succ k2 =>
         have H := HA.out; clear HA; simp only [aN.l1] at H; by_cases c33 : qR < (ag.length : Int)
         ·rw [if_pos c33] at H; have yN : decide (qR < (ag.length : Int)) = true := decide_eq_true c33; clear c33; by_cases c34 : 0 ≤ qR
          ·rw [if_pos c34] at H; have KL : decide (0 ≤ qR) = true := decide_eq_true c34; clear c34; replace H := Option.bind_eq_some_iff.mp H; obtain ⟨t230, A350, H⟩ := H; replace H : (if x5_2.length + t230.length < 5864062014805 then (aN.l1 k2 (x5_2 ++ t230) (wrap64 (qR + 1)) ak aG aH aD ag) else (none)) = some r := H; have A35 := aa.mk A350; clear A350; by_cases c36 : x5_2.length + t230.length < 5864062014805
           ·rw [if_pos c36] at H; have LMc36 := aa.mk c36; clear c36; obtain ⟨y233, PO⟩ : ∃ y_ : List (S44), y_ = (x5_2 ++ t230) := ⟨_, rfl⟩; replace H : (aN.l1 k2 y233 (wrap64 (qR + 1)) ak aG aH aD ag) = some r := by first | (rw [PO]; with_reducible exact H) | (have H2_ := (Option.bind_some _ _).symm.trans H; rw [PO]; with_reducible exact H2_) | (have H2_ := (Option.bind_some _ _).symm.trans H; with_reducible exact H2_) | with_reducible exact H | (rw [PO]; exact H) | exact H
            have Ny233 := aa.mk PO; clear PO; have H' := aa.mk H; clear H; obtain ⟨yO, yP, yQ, yR, yS, yT, yU, yV, yX, yY⟩ := bQ lD.out; have p229 : 0 ≤ (qR : Int) := dt_; have q229 : qR < (ag.length : Int) := dt_; obtain ⟨ad229, A229_4, c229_4, e229, Ve, Vf, Vg, Vh, Vi, Vj, Vk⟩ := gQ dH.out qR p229 q229; cases e229; replace Ve := hc_ HB Ve; replace Vf := hc_ HB Vf; replace Vg := hc_ HB Vg; replace Vh := hc_ HB Vh; replace Vi := hc_ HB Vi; have HR229_4 := aa.mk Vk; have HC229_4 := aa.mk Vj; clear Vk Vj; replace p229 := eq_true p229; replace q229 := eq_true q229; go_wp2_with (first | ((with_reducible refine aZ (f := 14) rfl ?_); refine cz (some 61) rfl rfl Try.func14 (by kernel_rfl) rfl #[.agg #[.int .i64 ((aj ag qR).f0), .int .i64 ((aj ag qR).f1), .int .i64 ((aj ag qR).f2), .int .i64 ((aj ag qR).f3), .slice A229_4 ((aj ag qR).f4).length c229_4]] rfl mp_ ?_; (with_reducible refine (ih k2 (by have := HJ11.out; have := HK2.out; omega) ((aj ag qR).f0) ((aj ag qR).f1) ((aj ag qR).f2) ((aj ag qR).f3) _ _ ((aj ag qR).f4) t230 _ ?aX ?aY A35.out).mono ?_); (case aX => exact cb_ (Kd.bX HR229_4.out HB.out)); (case aY => exact HC229_4.out); rintro e w38 ⟨v231, rfl, ho0, hb⟩; refine ⟨_, rfl, ?_⟩; have PQ := aa.mk (Kd.gm (Kd.oH ho0 (Kd.ou (pR_ qL.out))) (aI bl_)); replace qL := aa.mk (Kd.mK (pR_ qL.out) (Kd.eZ ho0) hb); replace lD := kb_ lD hb; replace HB := aa.mk (ay bl_ hb); (try clear hb); (try clear hb2); (try clear hk); (try clear hi); (try clear ho0); obtain ⟨Ao40, co40, eo40⟩ := Kd.fH PQ.out; subst eo40) | ((with_reducible refine xQ (b := .append) (xs := #[.tmp 55, .tmp 61]) rfl ?_); at_builtin; refine Kd.E5 k44 (w0 := w) w.heap.size rfl (.tmp 55) (.tmp 61) 40 44 (.agg #[(.int .i64 0), (.int .i64 0), (.int .i64 0)]) 24 rfl Try.underlying40 info44 rfl (by decide) (by omega) u5 x5_2 t230 _ _ _ (fun k_ => some k_ ≠ (.slice Ao40 t230.length co40 : Value).ownBlock) (fun _ => False) rfl rfl ?aO ?aR (fun _ _ h => h) (fun _ h => h.elim) ?aF ?aB ?aS ?aL ?_; (case aR => exact cb_ ((Kd.eu PQ.out).2.2)); (case aB => exact bl_); (case aF => exact (fun k_ hk => Kd.fresh' (Kd.ou (pR_ PQ.out)) k_ hk)); (case aO => exact (by (with_reducible repeat (first | apply Kd.fQ | apply Kd.fT | apply Kd.fI)); exact Kd.dn qL.out (fun _ hk => hk.2))); (case aS => exact (aI bl_)); (case aL => have := LMc36.out; omega); intro v234 w39 ho hb hg hat; rw [← Ny233.out] at ho; have HO235 := aa.mk (ho); replace lD := aa.mk (iq (g := Eo) (o := .cells #[.int .i64 ak, .int .i64 aG, .int .i64 aH, .int .i64 aD, .slice (some ad229) ag.length bF] 27 (0, 0)) bk_ hg (Kd.xB qL.out lD.out (by decide))); replace PQ := aa.mk (Kd.Jb (ok := (fun _ => True)) (pR_ PQ.out) hg hat); replace HB := aa.mk (hb); clear qL; clear ho hb hg hat))
            go_roundg k2
            case measure => have := HJ11.out; have := HK2.out; omega
            case rel => exact ⟨(y233), (wrap64 (qR + 1)), rs_, H', ⟨by have := HJ11.out; have := HK2.out; omega⟩, ⟨by (with_reducible repeat (first | apply Kd.fQ | apply Kd.fT | apply Kd.fI)); exact Kd.dn HO235.out (fun _ hk => trivial)⟩, ⟨bk_⟩, ⟨bl_⟩⟩
           ·rw [if_neg c36] at H; exact absurd H (by simp)
          ·rw [if_neg c34] at H; exact absurd H (by simp)
         ·rw [if_neg c33] at H; have yN : decide (qR < (ag.length : Int)) = false := decide_eq_false c33; clear c33; obtain rfl := Option.some.inj H; obtain ⟨hcz41_0, hcz41_1, hcz41_2, hcz41_3, hcz41_4, hfz41_0, hfz41_1, hfz41_2, hfz41_3, hfz41_4⟩ := bQ lD.out; go_wp2; go_ret; exact ⟨_, re_, pR_ qL.out, bl_⟩

end Go.Proofs.Ytggelekooacmnaa.Z
namespace Go.Proofs.Ytggelekooacmnaa.Z
open Go.RowKit Go.Proofs.YtggelekooacmnaaW.bM Go.Proofs.YtggelekooacmnaaW.dR Go.Proofs.YtggelekooacmnaaW.eO
attribute [local go_sem] iM iN jk jl gW gX iO iP   -- for this text's walks alone
set_option linter.unusedVariables false
set_option linter.unusedSimpArgs false

/-! ### bO: function 35 -/
mutual
def bO.l0 : Nat → Int → Int → Int → Int → Int → Int → Int → List (S27) → Option (Int)
 | 0, _, _, _, _, _, _, _, _ => none
 | k + 1, x1, x5, x6, x237000, x237001, x237002, x237003, Dk => if x6 < (Dk.length : Int) then (if 0 ≤ x6 then ((bO.f k ((aj Dk x6).f0) ((aj Dk x6).f1) ((aj Dk x6).f2) ((aj Dk x6).f3) ((aj Dk x6).f4) (wrap64 (x1 - 1))).bind fun t238 => (bO.l0 k x1 (mx x5 t238) (wrap64 (x6 + 1)) x237000 x237001 x237002 x237003 Dk)) else (none)) else (some (mn (wrap64 (x5 + 1)) x1))
def bO.f : Nat → Int → Int → Int → Int → List (S27) → Int → Option (Int)
 | 0, _, _, _, _, _, _ => none
 | k + 1, ak, aG, aH, aD, ag, a1 => if a1 > 1 then (bO.l0 k a1 0 0 ak aG aH aD ag) else (if (ag.length : Int) > 0 then (some a1) else (some (mn (0 + 1) a1)))
end
theorem bO.iU : ∀ k, (∀ y0 y1 y2 y3 y4 y5, LeO (bO.f k y0 y1 y2 y3 y4 y5) (bO.f (k + 1) y0 y1 y2 y3 y4 y5)) ∧ (∀ y0 y1 y2 y3 y4 y5 y6 y7, LeO (bO.l0 k y0 y1 y2 y3 y4 y5 y6 y7) (bO.l0 (k + 1) y0 y1 y2 y3 y4 y5 y6 y7))
 | 0 => ⟨fun _ _ _ _ _ _ r h => by simp [bO.f] at h, fun _ _ _ _ _ _ _ _ r h => by simp [bO.l0] at h⟩
 | k + 1 => by
  obtain ⟨ih0, ih1⟩ := bO.iU k; refine ⟨?_, ?_⟩
  ·intro y0 y1 y2 y3 y4 y5; unfold bO.f; repeat' first
   | (with_reducible exact ih0 _ _ _ _ _ _)
   | (with_reducible exact ih1 _ _ _ _ _ _ _ _)
   | (with_reducible exact LeO.refl _)
   | (with_reducible exact LeO.none _)
   | (with_reducible refine LeO.ite ?_ ?_)
   | (with_reducible refine LeO.bind ?_ (fun _ => ?_))
   | exact ih0 _ _ _ _ _ _
   | exact ih1 _ _ _ _ _ _ _ _
   | exact LeO.none _
   | refine LeO.ite ?_ ?_
   | refine LeO.bind ?_ (fun _ => ?_)
  ·intro y0 y1 y2 y3 y4 y5 y6 y7; unfold bO.l0; repeat' first
   | (with_reducible exact ih0 _ _ _ _ _ _)
   | (with_reducible exact ih1 _ _ _ _ _ _ _ _)
   | (with_reducible exact LeO.refl _)
   | (with_reducible exact LeO.none _)
   | (with_reducible refine LeO.ite ?_ ?_)
   | (with_reducible refine LeO.bind ?_ (fun _ => ?_))
   | exact ih0 _ _ _ _ _ _
   | exact ih1 _ _ _ _ _ _ _ _
   | exact LeO.none _
   | refine LeO.ite ?_ ?_
   | refine LeO.bind ?_ (fun _ => ?_)
theorem bO.mono : ∀ a0 a1 a2 a3 a4 a5 k, LeO (bO.f k a0 a1 a2 a3 a4 a5) (bO.f (k + 1) a0 a1 a2 a3 a4 a5) := by
 intro a0 a1 a2 a3 a4 a5 k; obtain ⟨ih0, ih1⟩ := bO.iU k; exact ih0 a0 a1 a2 a3 a4 a5
set_option maxHeartbeats 8000000 in
set_option maxRecDepth 100000 in
theorem bO.calls (k : Nat) : ∀ (ak : Int) (aG : Int) (aH : Int) (aD : Int) (bL : Option Addr) (bF : Nat) (ag : List (S27)) (a1 : Int) (r : Int) (w : World) (gM : Kd.C k27 w bL ag.length ag) (gN : ag.length ≤ bF) (h : bO.f k ak aG aH aD ag a1 = some r),
  Calls Try.prog 35 #[.agg #[.int .i64 ak, .int .i64 aG, .int .i64 aH, .int .i64 aD, .slice bL ag.length bF], .int .i64 a1] w fun e w' => e = .returned (.int .i64 r) ∧ Below w.heap.size w w' := by
 induction k using Nat.strongRecOn with
 | _ k ih =>
 intro ak aG aH aD bL bF ag a1 r w gM gN h; cases k with
 | zero => exact absurd h (by simp [bO.f])
 | succ k =>
 simp only [bO.f] at h; have rY := Try.underlying27; have dH := aa.mk gM; have fq := aa.mk gN; clear gM gN; have HB := aa.mk (Below.refl w.heap.size w); have H : (if a1 > 1 then (bO.l0 k a1 0 0 ak aG aH aD ag) else (if (ag.length : Int) > 0 then (some a1) else (some (mn (0 + 1) a1)))) = some r := h; clear h; by_cases c3 : a1 > 1
 ·rw [if_pos c3] at H; have lW : decide (1 < a1) = true := decide_eq_true c3; clear c3; have H' := aa.mk H; clear H; go_enter Try.func35, Try.ntmps35; go_wp2_with (first | ((with_reducible refine bu (N := 2) rfl ?_); refine bz ?hg (N := 2) ?hd (cs := #[.int .i64 ak, .int .i64 aG, .int .i64 aH, .int .i64 aD, .slice bL ag.length bF]) (t := 27) ?hr ?_; (case hd => rfl); (case hg => rfl); (case hr => first | (go_simp; done) | (go_simp; rfl)); intro ML hg w4 aU hb; have Fy := aa.mk (aU); have PR : aa (w.heap.size ≤ ML) := gw_ hg (aI bl_); have GE236 := PR; replace HB := aa.mk (ay bl_ hb); clear hb aU hg))
  go_loopg [5, 6] k (fun kq v5 v6 w' => ∃ (jA : Int) (ig : Int), v5 = .int .i64 jA ∧ v6 = .int .i64 ig ∧ aa (bO.l0 kq a1 jA ig ak aG aH aD ag = some r) ∧ aa (kq ≤ k) ∧ aa (w'.heap[ML]? = some (.cells #[.int .i64 ak, .int .i64 aG, .int .i64 aH, .int .i64 aD, (.slice bL ag.length bF)] 27 (0, 0))) ∧ aa (Below w.heap.size w w'))
  case atStart => exact ⟨(0), (0), rs_, rs_, H', ⟨Nat.le_refl _⟩, ⟨bk_⟩, ⟨bl_⟩⟩
  case round =>
   clear H'; (try clear p2); (try clear c3); (try clear lW); obtain ⟨jA, ig, rfl, rfl, HA, HK1, Fy, HB⟩ := hrel; cases gk with
   | zero => exact absurd HA.out (by simp [bO.l0])
   | succ k1 =>
    have H := HA.out; clear HA; simp only [bO.l0] at H; by_cases c5 : ig < (ag.length : Int)
    ·rw [if_pos c5] at H; have uK : decide (ig < (ag.length : Int)) = true := decide_eq_true c5; clear c5; by_cases c6 : 0 ≤ ig
     ·rw [if_pos c6] at H; have c6b0 : decide (0 ≤ ig) = true := decide_eq_true c6; clear c6; replace H := Option.bind_eq_some_iff.mp H; obtain ⟨t238, A70, H⟩ := H; replace H : (bO.l0 k1 a1 (mx jA t238) (wrap64 (ig + 1)) ak aG aH aD ag) = some r := H; have A7 := aa.mk A70; clear A70; obtain ⟨ji8, G8⟩ : ∃ j_ : Int, (mx jA t238) = j_ := ⟨_, rfl⟩; replace H : (bO.l0 k1 a1 ji8 (wrap64 (ig + 1)) ak aG aH aD ag) = some r := by first | (rw [G8] at H; exact H) | (simp only [G8] at H ⊢; exact H)
      (try rw [G8] at A7)
      have hji8_ : (if jA < t238 then t238 else jA) = ji8 := G8; have H' := aa.mk H; clear H; obtain ⟨EJ, EK, EL, EM, EN, EO, EP, ER, ES, ET⟩ := bQ Fy.out; have p237 : 0 ≤ (ig : Int) := dt_; have q237 : ig < (ag.length : Int) := dt_; obtain ⟨ad237, A237_4, c237_4, e237, Vl, Vm, Vn, Vo, Vp, Vq, Vr⟩ := gQ dH.out ig p237 q237; cases e237; replace Vl := hc_ HB Vl; replace Vm := hc_ HB Vm; replace Vn := hc_ HB Vn; replace Vo := hc_ HB Vo; replace Vp := hc_ HB Vp; have HR237_4 := aa.mk Vr; have HC237_4 := aa.mk Vq; clear Vr Vq; replace p237 := eq_true p237; replace q237 := eq_true q237; go_wp2_with (first | ((with_reducible refine aZ (f := 35) rfl ?_); refine cz (some 24) rfl rfl Try.func35 (by kernel_rfl) rfl #[.agg #[.int .i64 ((aj ag ig).f0), .int .i64 ((aj ag ig).f1), .int .i64 ((aj ag ig).f2), .int .i64 ((aj ag ig).f3), .slice A237_4 ((aj ag ig).f4).length c237_4], .int .i64 (wrap64 (a1 - 1))] rfl mp_ ?_; (with_reducible refine (ih k1 (by have := HK1.out; omega) ((aj ag ig).f0) ((aj ag ig).f1) ((aj ag ig).f2) ((aj ag ig).f3) _ _ ((aj ag ig).f4) (wrap64 (a1 - 1)) t238 _ ?aX ?aY A7.out).mono ?_); (case aX => exact cb_ (Kd.bX HR237_4.out HB.out)); (case aY => exact HC237_4.out); rintro e w10 ⟨rfl, hb⟩; refine ⟨_, rfl, ?_⟩; replace Fy := kb_ Fy hb; replace HB := aa.mk (ay bl_ hb); (try clear hb); (try clear hb2); (try clear hk); (try clear hi)))
      go_roundg k1
      case measure => have := HK1.out; omega
      case rel => exact ⟨(ji8), (wrap64 (ig + 1)), (by first | rfl | (simp; done) | (simp only [← G8] <;> (first | rfl | simp)) | (simp [*]; done)), rs_, H', ⟨by have := HK1.out; omega⟩, ⟨bk_⟩, ⟨bl_⟩⟩
     ·rw [if_neg c6] at H; exact absurd H (by simp)
    ·rw [if_neg c5] at H; have uK : decide (ig < (ag.length : Int)) = false := decide_eq_false c5; clear c5; obtain ⟨ji11, IG⟩ : ∃ j_ : Int, (mn (wrap64 (jA + 1)) a1) = j_ := ⟨_, rfl⟩; replace H : (some ji11) = some r := by first | (rw [IG] at H; exact H) | (simp only [IG] at H ⊢; exact H)
     have hji11_ : (if a1 < (wrap64 (jA + 1)) then a1 else (wrap64 (jA + 1))) = ji11 := IG; obtain rfl := Option.some.inj H; obtain ⟨nY, nZ, uM, uN, uO, og, oh, uP, uQ, uR⟩ := bQ Fy.out; go_wp2; all_goals go_ret
     all_goals exact ⟨by first | rfl | (simp [iI, iJ] <;> rfl) | (simp only [← IG]; first | rfl | (simp [iI, iJ] <;> rfl)) | (simp; rw [← IG]; (first | unfold mn | unfold mx); split <;> omega) | (simp; (first | unfold mn at IG | unfold mx at IG); split at IG <;> omega) | (simp [*, iI, iJ] <;> rfl), bl_⟩
 ·rw [if_neg c3] at H; have lW : decide (1 < a1) = false := decide_eq_false c3; clear c3; by_cases c13 : (ag.length : Int) > 0
  ·rw [if_pos c13] at H; have uw : decide (0 < (ag.length : Int)) = true := decide_eq_true c13; have c13b1 : decide (0 < ag.length) = true := decide_eq_true (by omega); clear c13; obtain rfl := Option.some.inj H; go_enter Try.func35, Try.ntmps35; go_wp2_with (first | ((with_reducible refine bu (N := 2) rfl ?_); refine bz ?hg (N := 2) ?hd (cs := #[.int .i64 ak, .int .i64 aG, .int .i64 aH, .int .i64 aD, .slice bL ag.length bF]) (t := 27) ?hr ?_; (case hd => rfl); (case hg => rfl); (case hr => first | (go_simp; done) | (go_simp; rfl)); intro ML hg w14 aU hb; have Fy := aa.mk (aU); have PR : aa (w.heap.size ≤ ML) := gw_ hg (aI bl_); have GE236 := PR; replace HB := aa.mk (ay bl_ hb); clear hb aU hg; obtain ⟨Dl, Dm, Dn, Dp, Dq, Dr, Dt, Du, Dv, Dw⟩ := bQ Fy.out))
   go_ret; exact ⟨re_, bl_⟩
  ·rw [if_neg c13] at H; have uw : decide (0 < (ag.length : Int)) = false := decide_eq_false c13; have c13b1 : decide (0 < ag.length) = false := decide_eq_false (by omega); clear c13; obtain ⟨ji16, Fz⟩ : ∃ j_ : Int, (mn (0 + 1) a1) = j_ := ⟨_, rfl⟩; replace H : (some ji16) = some r := by first | (rw [Fz] at H; exact H) | (simp only [Fz] at H ⊢; exact H)
   (try (have hji16h : ji16 ≤ 1 := by (rw [← Fz]; unfold mn; (repeat' split) <;> omega)))
   (try (have hji16g : ji16 ≤ 64 := by omega))
   have hji16_ : (if a1 < (0 + 1) then a1 else (0 + 1)) = ji16 := Fz; obtain rfl := Option.some.inj H; go_enter Try.func35, Try.ntmps35; go_wp2_with (first | ((with_reducible refine bu (N := 2) rfl ?_); refine bz ?hg (N := 2) ?hd (cs := #[.int .i64 ak, .int .i64 aG, .int .i64 aH, .int .i64 aD, .slice bL ag.length bF]) (t := 27) ?hr ?_; (case hd => rfl); (case hg => rfl); (case hr => first | (go_simp; done) | (go_simp; rfl)); intro ML hg w17 aU hb; have Fy := aa.mk (aU); have PR : aa (w.heap.size ≤ ML) := gw_ hg (aI bl_); have GE236 := PR; replace HB := aa.mk (ay bl_ hb); clear hb aU hg; obtain ⟨oU, oV, xc, xe, xg, oW, oZ, xh, xk, xm⟩ := bQ Fy.out))
   all_goals go_ret
   all_goals exact ⟨by first | rfl | (simp [iI, iJ] <;> rfl) | (simp only [← Fz]; first | rfl | (simp [iI, iJ] <;> rfl)) | (simp; rw [← Fz]; (first | unfold mn | unfold mx); split <;> omega) | (simp; (first | unfold mn at Fz | unfold mx at Fz); split at Fz <;> omega) | (simp [*, iI, iJ] <;> rfl), bl_⟩

end Go.Proofs.Ytggelekooacmnaa.Z
