/- Lemmas for: Proved: the tied card of exactppllaw19.DiagramUnique (for every input the law returns true). Conditions: none beyond the given row. -/
import Derived.Test.YtopbjginpmdebaaDoorProg
import Derived.Below
import Derived.Deep.Draws
import Derived.Deep.AppendLies
import Derived.Maps.AppendAt
import Derived.OwnWalk
import Derived.Laws.BytesArg
import Derived.Laws.MakeOwn
import Derived.Laws.OwnMore
import Derived.Deep.OwnRows
import Derived.Tactics
import Derived.Lib.ConvBytes
import Derived.Laws.Slices
import Derived.WalkKit
import Derived.KernelRfl
import Derived.RowKit3
import Derived.Deep.LoopGhost
import Derived.Deep.QuietTactic
import Derived.BigQuiet
import Derived.WideLaws
import Derived.Deep.DeepCutAuto
import Derived.Deep.CutBlock
import Derived.Deep.RegionHeld3
import Derived.Laws.Rows
import Derived.Lib.AppendStr
import Derived.ArgAppend
import Derived.Laws.IdiomCopy
import Derived.OrdersHeld
import Derived.Laws.BitsLemmas
import Derived.RowKit
import Derived.Lib.ItoaLen
import Derived.Test.YtopbjginpmdebaaDoorUn1
namespace Go.Proofs.YtopbjginpmdebaaDoor.K
open Go.RowKit Go.Proofs.YtopbjginpmdebaaDoorW.PrintWords Go.Proofs.YtopbjginpmdebaaDoorW.PrintLast Go.Proofs.YtopbjginpmdebaaDoorW.PrintMore
attribute [local go_sem] max2_int min2_int max_two min_two max_three min_three max_four min_four   -- for this text's walks alone
set_option linter.unusedVariables false
set_option linter.unusedSimpArgs false



def errW : Option Int → Value
  | none => .nilIface
  | some c => .iface 0 (.int .i64 c)
theorem errW_none : errW none = .nilIface := rfl
theorem errW_some (c : Int) : errW (some c) = .iface 0 (.int .i64 c) := rfl

theorem info3 : (Tryd.prog.info? 3).map (fun i => (i.zero, i.size, i.bytes)) = some (some (.int .i64 0), 1, 8) := by kernel_rfl
theorem info22 : (Tryd.prog.info? 22).map (fun i => (i.zero, i.size, i.bytes)) = some (some (.slice none 0 0), 1, 24) := by kernel_rfl
theorem info31 : (Tryd.prog.info? 31).map (fun i => (i.zero, i.size, i.bytes)) = some (some (.agg #[(.slice none 0 0)]), 1, 24) := by kernel_rfl
theorem info60 : (Tryd.prog.info? 60).map (fun i => (i.zero, i.size, i.bytes)) = some (some (.agg #[(.int .i64 0), (.int .i64 0), (.slice none 0 0)]), 3, 40) := by kernel_rfl
-- the values' own types
def rd_L1 (xs : List (List Int)) (i : Int) : (List Int) := xs.getD i.toNat ([] : List Int)
theorem at_L1 {w : World} {A : Option Addr} {n : Nat} {xs : List (List Int)} (h : Kd.C (Kd.slice 3 (Kd.int .i64)) w A n xs) (i : Int) (h0 : 0 ≤ i) (h1 : i < n) : ∃ ad A0 c0, A = some ad ∧ w.cell? (ad.add i.toNat) = some (.slice A0 (rd_L1 xs i).length c0) ∧ (rd_L1 xs i).length ≤ c0 ∧ (Kd.int .i64).C w A0 (rd_L1 xs i).length (rd_L1 xs i) := by
  obtain ⟨ad, c, e, _, hK, hc0⟩ := Kd.C_get h ([] : List Int) i h0 h1
  have hc : ∀ j u, c[j]? = some u → w.cell? (ad.add (i.toNat * 1 + j)) = some u := hc0
  obtain ⟨A0, c0, rfl, l0, g0⟩ := hK
  exact ⟨ad, A0, c0, e, by have hq := hc 0 _ rfl; rwa [Nat.mul_one, Nat.add_zero] at hq, l0, g0⟩

/-! #### struct type 60 -/
structure S60 where
  f0 : Int
  f1 : Int
  f2 : (List Int)
def z60 : S60 := ⟨(0 : Int), (0 : Int), ([] : List Int)⟩
def k60 : Kd S60 := Kd.iso (Kd.pair (Kd.int .i64) (Kd.pair (Kd.int .i64) (Kd.slice 3 (Kd.int .i64)))) (fun x : S60 => (x.f0, x.f1, x.f2))
theorem k60_open {w : World} {x : S60} {cs : List Value} (h : k60.K w x cs) : ∃ A2 c2, cs = [.int .i64 x.f0, .int .i64 x.f1, .slice A2 x.f2.length c2] ∧ x.f2.length ≤ c2 ∧ (Kd.int .i64).C w A2 x.f2.length x.f2 := by
  obtain ⟨_, _, rfl, rfl, ⟨_, _, rfl, rfl, ⟨A2, c2, rfl, l2, g2⟩⟩⟩ := h
  exact ⟨A2, c2, rfl, l2, g2⟩
theorem k60_openM {w : World} {base : Nat} {ok : Nat → Prop} {x : S60} {cs : List Value} (h : k60.M w base ok x cs) : ∃ v2, cs = [.int .i64 x.f0, .int .i64 x.f1, v2] ∧ (Kd.int .i64).R 3 w base ok v2 x.f2 := by
  obtain ⟨_, _, rfl, rfl, ⟨_, _, rfl, rfl, ⟨v2, rfl, g2⟩⟩⟩ := h
  exact ⟨v2, rfl, g2⟩
theorem k60_mk (w : World) (x : S60) {A2 : Option Addr} {c2 : Nat} (l2 : x.f2.length ≤ c2) (g2 : (Kd.int .i64).C w A2 x.f2.length x.f2) : k60.K w x [.int .i64 x.f0, .int .i64 x.f1, .slice A2 x.f2.length c2] := ⟨[.int .i64 x.f0], [.int .i64 x.f1, .slice A2 x.f2.length c2], rfl, rfl, ⟨[.int .i64 x.f1], [.slice A2 x.f2.length c2], rfl, rfl, ⟨A2, c2, rfl, l2, g2⟩⟩⟩
theorem k60_mkM (w : World) (base : Nat) (ok : Nat → Prop) (x : S60) {v2 : Value} (g2 : (Kd.int .i64).R 3 w base ok v2 x.f2) : k60.M w base ok x [.int .i64 x.f0, .int .i64 x.f1, v2] := ⟨[.int .i64 x.f0], [.int .i64 x.f1, v2], rfl, rfl, ⟨[.int .i64 x.f1], [v2], rfl, rfl, ⟨v2, rfl, g2⟩⟩⟩
theorem k60_openF {W : World} {ok : Nat → Prop} {x : S60} {cs : List Value} (h : Kd.FK k60 W ok x cs) : ∃ A2 c2, cs = [.int .i64 x.f0, .int .i64 x.f1, .slice A2 x.f2.length c2] ∧ x.f2.length ≤ c2 ∧ Kd.F (Kd.int .i64) W ok A2 x.f2.length x.f2 := by
  obtain ⟨A2, c2, rfl, l2, _⟩ := k60_open (Kd.FK_now h)
  exact ⟨A2, c2, rfl, l2, (fun W' hW => by obtain ⟨A2_, c2_, he, l2_, g2_⟩ := k60_open (h W' hW); injection (Option.some.inj (show some (Value.slice A2 x.f2.length c2) = some (Value.slice A2_ x.f2.length c2_) from congrArg (fun l => l[2]?) he)) with ha_ _ _; rw [ha_]; exact g2_)⟩
theorem k60_mkF (W : World) (ok : Nat → Prop) (x : S60) {A2 : Option Addr} {c2 : Nat} (l2 : x.f2.length ≤ c2) (g2 : Kd.F (Kd.int .i64) W ok A2 x.f2.length x.f2) : Kd.FK k60 W ok x [.int .i64 x.f0, .int .i64 x.f1, .slice A2 x.f2.length c2] := fun W2 hW => k60_mk W2 x l2 (g2 W2 hW)
def rd_T60 (xs : List S60) (i : Int) : S60 := xs.getD i.toNat z60
theorem at_T60 {w : World} {A : Option Addr} {n : Nat} {xs : List S60} (h : Kd.C k60 w A n xs) (i : Int) (h0 : 0 ≤ i) (h1 : i < n) : ∃ ad A2 c2, A = some ad ∧ w.cell? (ad.add (i.toNat * 3)) = some (.int .i64 (rd_T60 xs i).f0) ∧ w.cell? ⟨(ad.add (i.toNat * 3)).block, (ad.add (i.toNat * 3)).off + 1, none⟩ = some (.int .i64 (rd_T60 xs i).f1) ∧ w.cell? ⟨(ad.add (i.toNat * 3)).block, (ad.add (i.toNat * 3)).off + 2, none⟩ = some (.slice A2 (rd_T60 xs i).f2.length c2) ∧ (rd_T60 xs i).f2.length ≤ c2 ∧ (Kd.int .i64).C w A2 (rd_T60 xs i).f2.length (rd_T60 xs i).f2 := by
  obtain ⟨ad, c, e, _, hK, hc0⟩ := Kd.C_get h z60 i h0 h1
  have hc : ∀ j u, c[j]? = some u → w.cell? (ad.add (i.toNat * 3 + j)) = some u := hc0
  obtain ⟨A2, c2, rfl, l2, g2⟩ := k60_open hK
  exact ⟨ad, A2, c2, e, hc 0 _ rfl, by rw [← add_field _ _ 1 (by omega)]; exact hc 1 _ rfl, by rw [← add_field _ _ 2 (by omega)]; exact hc 2 _ rfl, l2, g2⟩

def rd_L4 (xs : List (List S60)) (i : Int) : (List S60) := xs.getD i.toNat ([] : List S60)
theorem at_L4 {w : World} {A : Option Addr} {n : Nat} {xs : List (List S60)} (h : Kd.C (Kd.slice 60 k60) w A n xs) (i : Int) (h0 : 0 ≤ i) (h1 : i < n) : ∃ ad A0 c0, A = some ad ∧ w.cell? (ad.add i.toNat) = some (.slice A0 (rd_L4 xs i).length c0) ∧ (rd_L4 xs i).length ≤ c0 ∧ k60.C w A0 (rd_L4 xs i).length (rd_L4 xs i) := by
  obtain ⟨ad, c, e, _, hK, hc0⟩ := Kd.C_get h ([] : List S60) i h0 h1
  have hc : ∀ j u, c[j]? = some u → w.cell? (ad.add (i.toNat * 1 + j)) = some u := hc0
  obtain ⟨A0, c0, rfl, l0, g0⟩ := hK
  exact ⟨ad, A0, c0, e, by have hq := hc 0 _ rfl; rwa [Nat.mul_one, Nat.add_zero] at hq, l0, g0⟩

/-! #### struct type 31 -/
structure S31 where
  f0 : (List S60)
def z31 : S31 := ⟨([] : List S60)⟩
def k31 : Kd S31 := Kd.iso (Kd.slice 60 k60) (fun x : S31 => x.f0)
theorem k31_open {w : World} {x : S31} {cs : List Value} (h : k31.K w x cs) : ∃ A0 c0, cs = [.slice A0 x.f0.length c0] ∧ x.f0.length ≤ c0 ∧ k60.C w A0 x.f0.length x.f0 := by
  obtain ⟨A0, c0, rfl, l0, g0⟩ := h
  exact ⟨A0, c0, rfl, l0, g0⟩
theorem k31_openM {w : World} {base : Nat} {ok : Nat → Prop} {x : S31} {cs : List Value} (h : k31.M w base ok x cs) : ∃ v0, cs = [v0] ∧ k60.R 60 w base ok v0 x.f0 := by
  obtain ⟨v0, rfl, g0⟩ := h
  exact ⟨v0, rfl, g0⟩
theorem k31_mk (w : World) (x : S31) {A0 : Option Addr} {c0 : Nat} (l0 : x.f0.length ≤ c0) (g0 : k60.C w A0 x.f0.length x.f0) : k31.K w x [.slice A0 x.f0.length c0] := ⟨A0, c0, rfl, l0, g0⟩
theorem k31_mkM (w : World) (base : Nat) (ok : Nat → Prop) (x : S31) {v0 : Value} (g0 : k60.R 60 w base ok v0 x.f0) : k31.M w base ok x [v0] := ⟨v0, rfl, g0⟩
theorem k31_openF {W : World} {ok : Nat → Prop} {x : S31} {cs : List Value} (h : Kd.FK k31 W ok x cs) : ∃ A0 c0, cs = [.slice A0 x.f0.length c0] ∧ x.f0.length ≤ c0 ∧ Kd.F k60 W ok A0 x.f0.length x.f0 := by
  obtain ⟨A0, c0, rfl, l0, _⟩ := k31_open (Kd.FK_now h)
  exact ⟨A0, c0, rfl, l0, (fun W' hW => by obtain ⟨A0_, c0_, he, l0_, g0_⟩ := k31_open (h W' hW); injection (Option.some.inj (show some (Value.slice A0 x.f0.length c0) = some (Value.slice A0_ x.f0.length c0_) from congrArg (fun l => l[0]?) he)) with ha_ _ _; rw [ha_]; exact g0_)⟩
theorem k31_mkF (W : World) (ok : Nat → Prop) (x : S31) {A0 : Option Addr} {c0 : Nat} (l0 : x.f0.length ≤ c0) (g0 : Kd.F k60 W ok A0 x.f0.length x.f0) : Kd.FK k31 W ok x [.slice A0 x.f0.length c0] := fun W2 hW => k31_mk W2 x l0 (g0 W2 hW)
def rd_T31 (xs : List S31) (i : Int) : S31 := xs.getD i.toNat z31
theorem at_T31 {w : World} {A : Option Addr} {n : Nat} {xs : List S31} (h : Kd.C k31 w A n xs) (i : Int) (h0 : 0 ≤ i) (h1 : i < n) : ∃ ad A0 c0, A = some ad ∧ w.cell? (ad.add i.toNat) = some (.slice A0 (rd_T31 xs i).f0.length c0) ∧ (rd_T31 xs i).f0.length ≤ c0 ∧ k60.C w A0 (rd_T31 xs i).f0.length (rd_T31 xs i).f0 := by
  obtain ⟨ad, c, e, _, hK, hc0⟩ := Kd.C_get h z31 i h0 h1
  have hc : ∀ j u, c[j]? = some u → w.cell? (ad.add (i.toNat * 1 + j)) = some u := hc0
  obtain ⟨A0, c0, rfl, l0, g0⟩ := k31_open hK
  exact ⟨ad, A0, c0, e, by have hq := hc 0 _ rfl; rwa [Nat.mul_one, Nat.add_zero] at hq, l0, g0⟩

theorem Kd.R_readsM {α : Type} {d : Kd α} {e : Nat} {W : World} {base : Nat} {ok : Nat → Prop} {A : Option Addr} {n c : Nat} {xs : List α} (h : Kd.R d e W base ok (.slice A n c) xs) :
    ReadsRow (d.M W base (fun k => ok k ∧ some k ≠ (Value.slice A n c).ownBlock)) d.sz W A n xs := by
  obtain ⟨_, inner, ho, hr⟩ := h
  obtain ⟨A', c', he, hR⟩ := own_reads_row ho hr rfl
  injection he with h1 h2 h3
  subst h1; subst h2
  exact hR
theorem Kd.V_away {α : Type} {d : Kd α} {e : Nat} {W : World} {base g : Nat} {ok : Nat → Prop} {v : Value} {xs : List α} (h : Kd.V d e W base ok v xs) (hok : ∀ k, ok k → k ≠ g) (hn : 0 < xs.length := by first | omega | (simp_all; omega)) (hs : 0 < d.sz := by decide) : some g ≠ v.ownBlock := by
  obtain ⟨A, c, rfl, _, hF⟩ := h
  rcases A with _ | ad
  · simp [Value.ownBlock]
  · intro he
    have h1 := Kd.F_in hF rfl hn hs
    simp only [Value.ownBlock, Option.some.injEq] at he
    exact hok _ h1 he.symm

theorem bl_ {p : Prop} (h : p := by repeat (first | (with_reducible first | exact HB.out | apply below_alloc | apply pw_below_drewN | apply below_drew1 | refine below_set ?_ (Aside0.out (by assumption)) | refine below_set ?_ (IsS58.ge (Aside0.out (by assumption)))) | exact HB.out)) : p := h
theorem si_ {p : Prop} (h : p := by repeat (first | (with_reducible first | exact (Aside0.out (by assumption)) | apply IsS58.alloc | apply IsS58.drewN | apply IsS58.drew | apply IsS58.set_1 | apply IsS58.set_2 | refine IsS58.far ?_ (Aside0.out (by assumption)) _) | exact (Aside0.out (by assumption)))) : p := h
theorem bk_ {p : Prop} (h : p := by (with_reducible repeat (first | refine blk_drewN ?_ _ | refine blk_drew ?_ | refine blk_alloc ?_ _)); exact (Aside0.out (by assumption))) : p := h
theorem pR_ {p q : Prop} (h : p) (k : p → q := by intro h_; (with_reducible repeat (first | apply Kd.R_alloc | apply Kd.R_drewN | apply Kd.R_drew)); exact h_) : q := k h
theorem pN_ {p q : Prop} (h : p) (k : p → q := by intro h_; (with_reducible repeat (first | apply Kd.N_alloc | apply Kd.N_drewN | apply Kd.N_drew)); exact h_) : q := k h
theorem pV_ {p q : Prop} (h : p) (k : p → q := by intro h_; (with_reducible repeat (first | apply Kd.V_alloc | apply Kd.V_drewN | apply Kd.V_drew)); exact h_) : q := k h
theorem pS_ {p q : Prop} (h : p) (k : p → q := by intro h_; (with_reducible repeat (first | apply Kd.S_alloc | apply Kd.S_drewN | apply Kd.S_drew)); exact h_) : q := k h
theorem pQ_ {p q : Prop} (h : p) (k : p → q := by intro h_; (with_reducible repeat (first | apply Kd.Q_alloc | apply Kd.Q_drewN | apply Kd.Q_drew)); exact h_) : q := k h
theorem re_ {p : Prop} (h : p := by first | rfl | (simp [errW_none, errW_some] <;> rfl) | (simp [*, errW_none, errW_some] <;> rfl)) : p := h
theorem rs_ {p : Prop} (h : p := by first | rfl | (simp; done) | (simp [*]; done)) : p := h
theorem dt_ {p : Prop} [Decidable p] (h : decide p = true := by first | (with_reducible assumption) | assumption) : p := of_decide_eq_true h
theorem gw_ {n m g : Nat} (hg : g = m) (h : n ≤ m) : Aside0 (n ≤ g) := ⟨by rw [hg]; exact h⟩
theorem cf1_ {W : World} {g : Nat} {a_ : Value} {t : TypeId} (h : W.heap[g]? = some (.cells #[a_] t (0, 0))) : W.cell? ⟨g, 0, none⟩ = some a_ ∧ W.frozen? ⟨g, 0, none⟩ = false :=
  ⟨(blk_cell h 0).trans rfl, blk_frozen h 0⟩
theorem cf2_ {W : World} {g : Nat} {a_ b_ : Value} {t : TypeId} (h : W.heap[g]? = some (.cells #[a_, b_] t (0, 0))) : W.cell? ⟨g, 0, none⟩ = some a_ ∧ W.cell? ⟨g, 1, none⟩ = some b_ ∧ W.frozen? ⟨g, 0, none⟩ = false ∧ W.frozen? ⟨g, 1, none⟩ = false :=
  ⟨(blk_cell h 0).trans rfl, (blk_cell h 1).trans rfl, blk_frozen h 0, blk_frozen h 1⟩
theorem cf3_ {W : World} {g : Nat} {a_ b_ c_ : Value} {t : TypeId} (h : W.heap[g]? = some (.cells #[a_, b_, c_] t (0, 0))) : W.cell? ⟨g, 0, none⟩ = some a_ ∧ W.cell? ⟨g, 1, none⟩ = some b_ ∧ W.cell? ⟨g, 2, none⟩ = some c_ ∧ W.frozen? ⟨g, 0, none⟩ = false ∧ W.frozen? ⟨g, 1, none⟩ = false ∧ W.frozen? ⟨g, 2, none⟩ = false :=
  ⟨(blk_cell h 0).trans rfl, (blk_cell h 1).trans rfl, (blk_cell h 2).trans rfl, blk_frozen h 0, blk_frozen h 1, blk_frozen h 2⟩
theorem cf4_ {W : World} {g : Nat} {a_ b_ c_ d_ : Value} {t : TypeId} (h : W.heap[g]? = some (.cells #[a_, b_, c_, d_] t (0, 0))) : W.cell? ⟨g, 0, none⟩ = some a_ ∧ W.cell? ⟨g, 1, none⟩ = some b_ ∧ W.cell? ⟨g, 2, none⟩ = some c_ ∧ W.cell? ⟨g, 3, none⟩ = some d_ ∧ W.frozen? ⟨g, 0, none⟩ = false ∧ W.frozen? ⟨g, 1, none⟩ = false ∧ W.frozen? ⟨g, 2, none⟩ = false ∧ W.frozen? ⟨g, 3, none⟩ = false :=
  ⟨(blk_cell h 0).trans rfl, (blk_cell h 1).trans rfl, (blk_cell h 2).trans rfl, (blk_cell h 3).trans rfl, blk_frozen h 0, blk_frozen h 1, blk_frozen h 2, blk_frozen h 3⟩
theorem cf5_ {W : World} {g : Nat} {a_ b_ c_ d_ e_ : Value} {t : TypeId} (h : W.heap[g]? = some (.cells #[a_, b_, c_, d_, e_] t (0, 0))) : W.cell? ⟨g, 0, none⟩ = some a_ ∧ W.cell? ⟨g, 1, none⟩ = some b_ ∧ W.cell? ⟨g, 2, none⟩ = some c_ ∧ W.cell? ⟨g, 3, none⟩ = some d_ ∧ W.cell? ⟨g, 4, none⟩ = some e_ ∧ W.frozen? ⟨g, 0, none⟩ = false ∧ W.frozen? ⟨g, 1, none⟩ = false ∧ W.frozen? ⟨g, 2, none⟩ = false ∧ W.frozen? ⟨g, 3, none⟩ = false ∧ W.frozen? ⟨g, 4, none⟩ = false :=
  ⟨(blk_cell h 0).trans rfl, (blk_cell h 1).trans rfl, (blk_cell h 2).trans rfl, (blk_cell h 3).trans rfl, (blk_cell h 4).trans rfl, blk_frozen h 0, blk_frozen h 1, blk_frozen h 2, blk_frozen h 3, blk_frozen h 4⟩
theorem cf6_ {W : World} {g : Nat} {a_ b_ c_ d_ e_ f_ : Value} {t : TypeId} (h : W.heap[g]? = some (.cells #[a_, b_, c_, d_, e_, f_] t (0, 0))) : W.cell? ⟨g, 0, none⟩ = some a_ ∧ W.cell? ⟨g, 1, none⟩ = some b_ ∧ W.cell? ⟨g, 2, none⟩ = some c_ ∧ W.cell? ⟨g, 3, none⟩ = some d_ ∧ W.cell? ⟨g, 4, none⟩ = some e_ ∧ W.cell? ⟨g, 5, none⟩ = some f_ ∧ W.frozen? ⟨g, 0, none⟩ = false ∧ W.frozen? ⟨g, 1, none⟩ = false ∧ W.frozen? ⟨g, 2, none⟩ = false ∧ W.frozen? ⟨g, 3, none⟩ = false ∧ W.frozen? ⟨g, 4, none⟩ = false ∧ W.frozen? ⟨g, 5, none⟩ = false :=
  ⟨(blk_cell h 0).trans rfl, (blk_cell h 1).trans rfl, (blk_cell h 2).trans rfl, (blk_cell h 3).trans rfl, (blk_cell h 4).trans rfl, (blk_cell h 5).trans rfl, blk_frozen h 0, blk_frozen h 1, blk_frozen h 2, blk_frozen h 3, blk_frozen h 4, blk_frozen h 5⟩
def bm (n b : Nat) : Array Bool := ((List.range n).map fun i => b.testBit i).toArray
theorem pu_ {P : Program} {ops : Array Oper} {Q : Exit → Act → World → Prop} {md : Region.Mode} {S : World → Prop} {ds : List Nat} {T : Bool × List (List Nat × List Nat)} {oi : Oper} {v : Value} {fuel : Nat} {l : Array Bool} {a a' : Act} {w : World} (hT : Aside0 (rtab md ops = T)) (i n : Nat) (l' : Array Bool) (h : wpAnyLast P md ops Q S ds fuel l' a' w)
    (hi : ops[i]? = some oi := by exact rfl) (hN : oi.dst = some n := by exact rfl) (hc : anyT T l.toList l'.toList i = true := by kernel_rfl) (hQ : ∀ c a w, Q (.panic c) (a.put oi.dst v) w → Q (.panic c) a w := by exact fun _ _ _ h => h) (hw : Region.wanted oi (yielded ops a.tmps) = true := by exact rfl)
    (hy : ∀ w, (execOp a.eval oi).run P w = .ok (.value v) w := by intro w'; go_simp; with_reducible rfl) (ha : a.put (some n) v = a' := by simp only [Act.put, List.setIfInBounds_toArray, List.set_cons_zero, List.set_cons_succ, i64_w, i32_w]; rfl) : wpAnyLast P md ops Q S ds (fuel + 1) l a w := pure_ l' hi hN (any_of hT.out hc) hQ (Or.inl ⟨hw, hy⟩) ha h
theorem pf_ {P : Program} {ops : Array Oper} {Q : Exit → Act → World → Prop} {md : Region.Mode} {S : World → Prop} {ds : List Nat} {T : Bool × List (List Nat × List Nat)} {oi : Oper} {fuel : Nat} {l : Array Bool} {a a' : Act} {w : World} (hT : Aside0 (rtab md ops = T)) (i n : Nat) (l' : Array Bool) (h : wpAnyLast P md ops Q S ds fuel l' a' w)
    (hi : ops[i]? = some oi := by exact rfl) (hN : oi.dst = some n := by exact rfl) (hc : anyT T l.toList l'.toList i = true := by kernel_rfl) (hQ : ∀ c a w, Q (.panic c) (a.put oi.dst undef) w → Q (.panic c) a w := by exact fun _ _ _ h => h) (hw : Region.wanted oi (yielded ops a.tmps) = false := by exact rfl)
    (ha : a.put (some n) undef = a' := by simp only [Act.put, List.setIfInBounds_toArray, List.set_cons_zero, List.set_cons_succ, i64_w, i32_w]; rfl) : wpAnyLast P md ops Q S ds (fuel + 1) l a w := pure_ l' hi hN (any_of hT.out hc) hQ (Or.inr ⟨hw, rfl⟩) ha h
theorem ta_ {P : Program} {ops : Array Oper} {Q : Exit → Act → World → Prop} {md : Region.Mode} {S : World → Prop} {ds B : List Nat} {T : Bool × List (List Nat × List Nat)} {oi : Oper} {v : Value} {fuel : Nat} {l : Array Bool} {a a' : Act} {w : World} (hT : Aside0 (rtab md ops = T)) (hB : Aside0 (waitsOk T.2 B = true)) (i n : Nat) (l' : Array Bool) (hS : S w)
    (h : wpAnyLast P md ops Q S ds fuel l' a' w)
    (hi : ops[i]? = some oi := by exact rfl) (hN : oi.dst = some n := by exact rfl) (hc : takeW T B ds l.toList l'.toList i = true := by kernel_rfl) (hQ : ∀ c a w, Q (.panic c) (a.put oi.dst v) w → Q (.panic c) a w := by exact fun _ _ _ h => h) (hw : Region.wanted oi (yielded ops a.tmps) = true := by exact rfl)
    (hy : ∀ w, S w → (execOp a.eval oi).run P w = .ok (.value v) w := by intro w' hs_; (repeat (obtain ⟨_, hs_⟩ := hs_)); go_simp; with_reducible rfl)
    (ha : a.put (some n) v = a' := by simp only [Act.put, List.setIfInBounds_toArray, List.set_cons_zero, List.set_cons_succ, i64_w, i32_w]; rfl) : wpAnyLast P md ops Q S ds (fuel + 1) l a w := take_ l' hi hN (take_ofW hT.out hB.out hc) hQ (Or.inl ⟨hw, hy⟩) hS ha h
end Go.Proofs.YtopbjginpmdebaaDoor.K
namespace Go.Proofs.YtopbjginpmdebaaDoor.K
open Go.RowKit Go.Proofs.YtopbjginpmdebaaDoorW.PrintWords Go.Proofs.YtopbjginpmdebaaDoorW.PrintLast Go.Proofs.YtopbjginpmdebaaDoorW.PrintMore
attribute [local go_sem] max2_int min2_int max_two min_two max_three min_three max_four min_four   -- for this text's walks alone
set_option linter.unusedVariables false
set_option linter.unusedSimpArgs false

/-! ### exactpplref07_SameInts: function 41 -/
def exactpplref07_SameInts.l0 : Nat → List Int → List Int → Int → Option (Bool)
 | 0, _, _, _ => none
 | k + 1, x0, x1, x5 => if x5 < (x0.length : Int) then (if 0 ≤ x5 then (if x5 < (x1.length : Int) then (if (rd x0 x5) = (rd x1 x5) then (exactpplref07_SameInts.l0 k x0 x1 (wrap64 (x5 + 1))) else (some false)) else (none)) else (none)) else (some true)
def exactpplref07_SameInts.f (k : Nat) (l0 : List Int) (l1 : List Int) : Option (Bool) := if (l0.length : Int) = (l1.length : Int) then (exactpplref07_SameInts.l0 k l0 l1 0) else (some false)
theorem exactpplref07_SameInts.mono_l : ∀ k, (∀ y0 y1 y2, LeO (exactpplref07_SameInts.l0 k y0 y1 y2) (exactpplref07_SameInts.l0 (k + 1) y0 y1 y2))
 | 0 => fun _ _ _ r h => by simp [exactpplref07_SameInts.l0] at h
 | k + 1 => by
  have ih0 := exactpplref07_SameInts.mono_l k
  ·intro y0 y1 y2
   unfold exactpplref07_SameInts.l0
   repeat' first
   | (with_reducible exact ih0 _ _ _)
   | (with_reducible exact LeO.refl _)
   | (with_reducible exact LeO.none _)
   | (with_reducible refine LeO.ite ?_ ?_)
   | (with_reducible refine LeO.bind ?_ (fun _ => ?_))
   | exact ih0 _ _ _
   | exact LeO.none _
   | refine LeO.ite ?_ ?_
   | refine LeO.bind ?_ (fun _ => ?_)
theorem exactpplref07_SameInts.mono : ∀ a0 a1 k, LeO (exactpplref07_SameInts.f k a0 a1) (exactpplref07_SameInts.f (k + 1) a0 a1) := by
 intro a0 a1 k
 have ih0 := exactpplref07_SameInts.mono_l k
 unfold exactpplref07_SameInts.f
 repeat' first
   | (with_reducible exact ih0 _ _ _)
   | (with_reducible exact LeO.refl _)
   | (with_reducible exact LeO.none _)
   | (with_reducible refine LeO.ite ?_ ?_)
   | (with_reducible refine LeO.bind ?_ (fun _ => ?_))
   | exact ih0 _ _ _
   | exact LeO.none _
   | refine LeO.ite ?_ ?_
   | refine LeO.bind ?_ (fun _ => ?_)
set_option maxHeartbeats 8000000 in
set_option maxRecDepth 100000 in
theorem exactpplref07_SameInts.calls (k : Nat) (A0 : Option Addr) (c0 : Nat) (l0 : List Int) (A1 : Option Addr) (c1 : Nat) (l1 : List Int) (r : Bool) (w : World) (hr0 : Kd.C (Kd.int .i64) w A0 l0.length l0) (hc0 : l0.length ≤ c0) (hr1 : Kd.C (Kd.int .i64) w A1 l1.length l1) (hc1 : l1.length ≤ c1) (h : exactpplref07_SameInts.f k l0 l1 = some r) :
  Calls Tryd.prog 41 #[.slice A0 l0.length c0, .slice A1 l1.length c1] w fun e w' => e = .returned (.bool r) ∧ Drawn0 w w' := by
 have HR0 := Aside0.mk hr0
 have HC0 := Aside0.mk hc0
 clear hr0 hc0
 have HR1 := Aside0.mk hr1
 have HC1 := Aside0.mk hc1
 clear hr1 hc1
 have H : (if (l0.length : Int) = (l1.length : Int) then (exactpplref07_SameInts.l0 k l0 l1 0) else (some false)) = some r := h
 clear h
 by_cases c3 : (l0.length : Int) = (l1.length : Int)
 ·rw [if_pos c3] at H
  have c3b0 : ((l0.length : Int) == (l1.length : Int)) = true := beq_iff_eq.mpr c3
  have c3b1 : ((l0.length : Int) != (l1.length : Int)) = false := bne_eq_false_iff_eq.mpr c3
  have c3b2 : (l0.length == l1.length) = true := by first | simpa using c3 | (simp at c3 ⊢; omega)
  clear c3
  have H' := Aside0.mk H
  clear H
  go_enter Tryd.func41, Tryd.ntmps41
  go_wp2
  repeat (go_quiet (fail); try go_wp2)
  go_loopg [5] k (fun kq v5 w' => ∃ (x5_1 : Int), v5 = .int .i64 x5_1 ∧ Aside0 (exactpplref07_SameInts.l0 kq l0 l1 x5_1 = some r) ∧ Aside0 (kq ≤ k) ∧ Drawn0 w w')
  case atStart => exact ⟨(0), rs_, H', ⟨Nat.le_refl _⟩, by repeat (first | exact Drawn0.refl _ | apply Drawn0.step)⟩
  case round =>
   clear H'
   try clear c1
   try clear p2
   try clear c3
   try clear c3b0
   try clear c3b1
   try clear c3b2
   obtain ⟨x5_1, rfl, HA, HK1, ⟨m1, rfl⟩⟩ := hrel
   cases gk with
   | zero => exact absurd HA.out (by simp [exactpplref07_SameInts.l0])
   | succ k1 =>
    have H := HA.out
    clear HA
    simp only [exactpplref07_SameInts.l0] at H
    by_cases c4 : x5_1 < (l0.length : Int)
    ·rw [if_pos c4] at H
     have c4b0 : decide (x5_1 < (l0.length : Int)) = true := decide_eq_true c4
     clear c4
     by_cases c5 : 0 ≤ x5_1
     ·rw [if_pos c5] at H
      have c5b0 : decide (0 ≤ x5_1) = true := decide_eq_true c5
      clear c5
      by_cases c6 : x5_1 < (l1.length : Int)
      ·rw [if_pos c6] at H
       have c6b0 : decide (x5_1 < (l1.length : Int)) = true := decide_eq_true c6
       clear c6
       by_cases c7 : (rd l0 x5_1) = (rd l1 x5_1)
       ·rw [if_pos c7] at H
        have c7b0 : ((rd l0 x5_1) == (rd l1 x5_1)) = true := beq_iff_eq.mpr c7
        have c7b1 : ((rd l0 x5_1) != (rd l1 x5_1)) = false := bne_eq_false_iff_eq.mpr c7
        clear c7
        have H' := Aside0.mk H
        clear H
        have p132 : 0 ≤ (x5_1 : Int) := dt_
        have q132 : x5_1 < (l0.length : Int) := dt_
        obtain ⟨ad132, e132, hx132_0⟩ := Kd.at_int HR0.out x5_1 p132 q132
        cases e132
        replace p132 := eq_true p132
        replace q132 := eq_true q132
        have p133 : 0 ≤ (x5_1 : Int) := dt_
        have q133 : x5_1 < (l1.length : Int) := dt_
        obtain ⟨ad133, e133, hx133_0⟩ := Kd.at_int HR1.out x5_1 p133 q133
        cases e133
        replace p133 := eq_true p133
        replace q133 := eq_true q133
        go_wp2
        repeat (go_quiet (fail); try go_wp2)
        go_roundg k1
        case measure => have := HK1.out; omega
        case rel => exact ⟨(wrap64 (x5_1 + 1)), rs_, H', ⟨by have := HK1.out; omega⟩, by repeat (first | exact Drawn0.refl _ | apply Drawn0.step)⟩
       ·rw [if_neg c7] at H
        have c7b0 : ((rd l0 x5_1) == (rd l1 x5_1)) = false := beq_eq_false_iff_ne.mpr c7
        have c7b1 : ((rd l0 x5_1) != (rd l1 x5_1)) = true := bne_iff_ne.mpr c7
        obtain rfl := Option.some.inj H
        have p132 : 0 ≤ (x5_1 : Int) := dt_
        have q132 : x5_1 < (l0.length : Int) := dt_
        obtain ⟨ad132, e132, hx132_0⟩ := Kd.at_int HR0.out x5_1 p132 q132
        cases e132
        replace p132 := eq_true p132
        replace q132 := eq_true q132
        have p133 : 0 ≤ (x5_1 : Int) := dt_
        have q133 : x5_1 < (l1.length : Int) := dt_
        obtain ⟨ad133, e133, hx133_0⟩ := Kd.at_int HR1.out x5_1 p133 q133
        cases e133
        replace p133 := eq_true p133
        replace q133 := eq_true q133
        go_wp2
        repeat (go_quiet (fail); try go_wp2)
        go_ret
        exact ⟨by first | rfl | (simp; done) | (simp [*]; done), by repeat (first | exact Drawn0.refl _ | apply Drawn0.step)⟩
      ·rw [if_neg c6] at H
       exact absurd H (by simp)
     ·rw [if_neg c5] at H
      exact absurd H (by simp)
    ·rw [if_neg c4] at H
     have c4b0 : decide (x5_1 < (l0.length : Int)) = false := decide_eq_false c4
     clear c4
     obtain rfl := Option.some.inj H
     go_wp2
     repeat (go_quiet (fail); try go_wp2)
     go_ret
     exact ⟨by first | rfl | (simp; done) | (simp [*]; done), by repeat (first | exact Drawn0.refl _ | apply Drawn0.step)⟩
 ·rw [if_neg c3] at H
  have c3b0 : ((l0.length : Int) == (l1.length : Int)) = false := beq_eq_false_iff_ne.mpr c3
  have c3b1 : ((l0.length : Int) != (l1.length : Int)) = true := bne_iff_ne.mpr c3
  have c3b2 : (l0.length == l1.length) = false := by first | simpa using c3 | (simp at c3 ⊢; omega)
  obtain rfl := Option.some.inj H
  go_enter Tryd.func41, Tryd.ntmps41
  go_wp2
  repeat (go_quiet (fail); try go_wp2)
  go_ret
  exact ⟨by first | rfl | (simp; done) | (simp [*]; done), by repeat (first | exact Drawn0.refl _ | apply Drawn0.step)⟩

end Go.Proofs.YtopbjginpmdebaaDoor.K
namespace Go.Proofs.YtopbjginpmdebaaDoor.K
open Go.RowKit Go.Proofs.YtopbjginpmdebaaDoorW.PrintWords Go.Proofs.YtopbjginpmdebaaDoorW.PrintLast Go.Proofs.YtopbjginpmdebaaDoorW.PrintMore
attribute [local go_sem] max2_int min2_int max_two min_two max_three min_three max_four min_four   -- for this text's walks alone
set_option linter.unusedVariables false
set_option linter.unusedSimpArgs false

/-! ### exactpplref19_SameNode: function 49 -/
def exactpplref19_SameNode.f (k : Nat) (a0_0 : Int) (a0_1 : Int) (l0_2 : List Int) (a1_0 : Int) (a1_1 : Int) (l1_2 : List Int) : Option (Bool) := if a0_0 = a1_0 then (if a0_1 = a1_1 then ((exactpplref07_SameInts.f k l0_2 l1_2).bind fun t136 => (some t136)) else (some false)) else (some false)
theorem exactpplref19_SameNode.mono : ∀ a0 a1 a2 a3 a4 a5 k, LeO (exactpplref19_SameNode.f k a0 a1 a2 a3 a4 a5) (exactpplref19_SameNode.f (k + 1) a0 a1 a2 a3 a4 a5) := by
 intro a0 a1 a2 a3 a4 a5 k
 unfold exactpplref19_SameNode.f
 repeat' first
   | (with_reducible exact exactpplref07_SameInts.mono _ _ _)
   | (with_reducible exact LeO.refl _)
   | (with_reducible exact LeO.none _)
   | (with_reducible refine LeO.ite ?_ ?_)
   | (with_reducible refine LeO.bind ?_ (fun _ => ?_))
   | exact exactpplref07_SameInts.mono _ _ _
   | exact LeO.none _
   | refine LeO.ite ?_ ?_
   | refine LeO.bind ?_ (fun _ => ?_)
set_option maxHeartbeats 8000000 in
set_option maxRecDepth 100000 in
theorem exactpplref19_SameNode.calls (k : Nat) (a0_0 : Int) (a0_1 : Int) (A0_2 : Option Addr) (c0_2 : Nat) (l0_2 : List Int) (a1_0 : Int) (a1_1 : Int) (A1_2 : Option Addr) (c1_2 : Nat) (l1_2 : List Int) (r : Bool) (w : World) (hr0_2 : Kd.C (Kd.int .i64) w A0_2 l0_2.length l0_2) (hc0_2 : l0_2.length ≤ c0_2) (hr1_2 : Kd.C (Kd.int .i64) w A1_2 l1_2.length l1_2) (hc1_2 : l1_2.length ≤ c1_2) (h : exactpplref19_SameNode.f k a0_0 a0_1 l0_2 a1_0 a1_1 l1_2 = some r) :
  Calls Tryd.prog 49 #[.agg #[.int .i64 a0_0, .int .i64 a0_1, .slice A0_2 l0_2.length c0_2], .agg #[.int .i64 a1_0, .int .i64 a1_1, .slice A1_2 l1_2.length c1_2]] w fun e w' => e = .returned (.bool r) ∧ Below w.heap.size w w' := by
 have hu60 := Tryd.underlying60
 have HR0_2 := Aside0.mk hr0_2
 have HC0_2 := Aside0.mk hc0_2
 clear hr0_2 hc0_2
 have HR1_2 := Aside0.mk hr1_2
 have HC1_2 := Aside0.mk hc1_2
 clear hr1_2 hc1_2
 have HB := Aside0.mk (Below.refl w.heap.size w)
 have H : (if a0_0 = a1_0 then (if a0_1 = a1_1 then ((exactpplref07_SameInts.f k l0_2 l1_2).bind fun t136 => (some t136)) else (some false)) else (some false)) = some r := h
 clear h
 by_cases c3 : a0_0 = a1_0
 ·rw [if_pos c3] at H
  have c3b0 : (a0_0 == a1_0) = true := beq_iff_eq.mpr c3
  have c3b1 : (a0_0 != a1_0) = false := bne_eq_false_iff_eq.mpr c3
  clear c3
  by_cases c4 : a0_1 = a1_1
  ·rw [if_pos c4] at H
   have c4b0 : (a0_1 == a1_1) = true := beq_iff_eq.mpr c4
   have c4b1 : (a0_1 != a1_1) = false := bne_eq_false_iff_eq.mpr c4
   clear c4
   replace H := Option.bind_eq_some_iff.mp H
   obtain ⟨t136, A50, H⟩ := H
   replace H : (some t136) = some r := H
   have A5 := Aside0.mk A50
   clear A50
   obtain rfl := Option.some.inj H
   go_enter Tryd.func49, Tryd.ntmps49
   go_wp2_with (first | ((with_reducible refine gate_dst (N := 2) rfl ?_); refine box_event ?hg (N := 2) ?hd (cs := #[.int .i64 a0_0, .int .i64 a0_1, .slice A0_2 l0_2.length c0_2]) (t := 60) ?hr ?_; (case hd => rfl); (case hg => rfl); (case hr => first | (go_simp; done) | (go_simp; rfl)); intro gb134 hg w6 hbox hb; have BK134 := Aside0.mk (hbox); have GW134 : Aside0 (w.heap.size ≤ gb134) := gw_ hg (below_size bl_); have GE134 := GW134; replace HB := Aside0.mk (below_step bl_ hb); clear hb hbox hg) | ((with_reducible refine gate_dst (N := 3) rfl ?_); refine box_event ?hg (N := 3) ?hd (cs := #[.int .i64 a1_0, .int .i64 a1_1, .slice A1_2 l1_2.length c1_2]) (t := 60) ?hr ?_; (case hd => rfl); (case hg => rfl); (case hr => first | (go_simp; done) | (go_simp; rfl)); intro gb135 hg w7 hbox hb; have BK135 := Aside0.mk (hbox); have GW135 : Aside0 (w.heap.size ≤ gb135) := gw_ hg (below_size bl_); have GE135 := GW135; have NB134_135 := Aside0.mk ((by rw [hg]; exact Nat.ne_of_lt (blk_lt (g := gb134) (o := .cells #[.int .i64 a0_0, .int .i64 a0_1, .slice A0_2 l0_2.length c0_2] 60 (0, 0)) bk_) : gb134 ≠ gb135)); have NB135_134 := Aside0.mk ((by rw [hg]; exact Nat.ne_of_gt (blk_lt (g := gb134) (o := .cells #[.int .i64 a0_0, .int .i64 a0_1, .slice A0_2 l0_2.length c0_2] 60 (0, 0)) bk_) : gb135 ≠ gb134)); replace BK134 := Aside0.mk (blk_below (g := gb134) (o := .cells #[.int .i64 a0_0, .int .i64 a0_1, .slice A0_2 l0_2.length c0_2] 60 (0, 0)) bk_ hb); replace HB := Aside0.mk (below_step bl_ hb); clear hb hbox hg; have hnb8 := NB134_135.out; have hnc8 := NB135_134.out; obtain ⟨hcz9_0, hcz9_1, hcz9_2, hfz9_0, hfz9_1, hfz9_2⟩ := cf3_ BK134.out; obtain ⟨hcz10_0, hcz10_1, hcz10_2, hfz10_0, hfz10_1, hfz10_2⟩ := cf3_ BK135.out) | (go_at_call 41; (with_reducible refine (exactpplref07_SameInts.calls k _ _ l0_2 _ _ l1_2 t136 _ ?side1 ?side2 ?side3 ?side4 A5.out).mono ?_); (case side1 => repeat (first | exact (Kd.C_below HR0_2.out HB.out) | (with_reducible refine Kd.C_alloc ?_ _) | (with_reducible refine Kd.C_drewN ?_ _) | (with_reducible refine Kd.C_drew ?_))); (case side2 => exact HC0_2.out); (case side3 => repeat (first | exact (Kd.C_below HR1_2.out HB.out) | (with_reducible refine Kd.C_alloc ?_ _) | (with_reducible refine Kd.C_drewN ?_ _) | (with_reducible refine Kd.C_drew ?_))); (case side4 => exact HC1_2.out); rintro e w' ⟨rfl, ⟨nd, rfl⟩⟩))
   go_ret
   exact ⟨re_, bl_⟩
  ·rw [if_neg c4] at H
   have c4b0 : (a0_1 == a1_1) = false := beq_eq_false_iff_ne.mpr c4
   have c4b1 : (a0_1 != a1_1) = true := bne_iff_ne.mpr c4
   obtain rfl := Option.some.inj H
   go_enter Tryd.func49, Tryd.ntmps49
   go_wp2_with (first | ((with_reducible refine gate_dst (N := 2) rfl ?_); refine box_event ?hg (N := 2) ?hd (cs := #[.int .i64 a0_0, .int .i64 a0_1, .slice A0_2 l0_2.length c0_2]) (t := 60) ?hr ?_; (case hd => rfl); (case hg => rfl); (case hr => first | (go_simp; done) | (go_simp; rfl)); intro gb134 hg w11 hbox hb; have BK134 := Aside0.mk (hbox); have GW134 : Aside0 (w.heap.size ≤ gb134) := gw_ hg (below_size bl_); have GE134 := GW134; replace HB := Aside0.mk (below_step bl_ hb); clear hb hbox hg) | ((with_reducible refine gate_dst (N := 3) rfl ?_); refine box_event ?hg (N := 3) ?hd (cs := #[.int .i64 a1_0, .int .i64 a1_1, .slice A1_2 l1_2.length c1_2]) (t := 60) ?hr ?_; (case hd => rfl); (case hg => rfl); (case hr => first | (go_simp; done) | (go_simp; rfl)); intro gb135 hg w12 hbox hb; have BK135 := Aside0.mk (hbox); have GW135 : Aside0 (w.heap.size ≤ gb135) := gw_ hg (below_size bl_); have GE135 := GW135; have NB134_135 := Aside0.mk ((by rw [hg]; exact Nat.ne_of_lt (blk_lt (g := gb134) (o := .cells #[.int .i64 a0_0, .int .i64 a0_1, .slice A0_2 l0_2.length c0_2] 60 (0, 0)) bk_) : gb134 ≠ gb135)); have NB135_134 := Aside0.mk ((by rw [hg]; exact Nat.ne_of_gt (blk_lt (g := gb134) (o := .cells #[.int .i64 a0_0, .int .i64 a0_1, .slice A0_2 l0_2.length c0_2] 60 (0, 0)) bk_) : gb135 ≠ gb134)); replace BK134 := Aside0.mk (blk_below (g := gb134) (o := .cells #[.int .i64 a0_0, .int .i64 a0_1, .slice A0_2 l0_2.length c0_2] 60 (0, 0)) bk_ hb); replace HB := Aside0.mk (below_step bl_ hb); clear hb hbox hg; have hnb13 := NB134_135.out; have hnc13 := NB135_134.out; obtain ⟨hcz14_0, hcz14_1, hcz14_2, hfz14_0, hfz14_1, hfz14_2⟩ := cf3_ BK134.out; obtain ⟨hcz15_0, hcz15_1, hcz15_2, hfz15_0, hfz15_1, hfz15_2⟩ := cf3_ BK135.out))
   go_ret
   exact ⟨re_, bl_⟩
 ·rw [if_neg c3] at H
  have c3b0 : (a0_0 == a1_0) = false := beq_eq_false_iff_ne.mpr c3
  have c3b1 : (a0_0 != a1_0) = true := bne_iff_ne.mpr c3
  obtain rfl := Option.some.inj H
  go_enter Tryd.func49, Tryd.ntmps49
  go_wp2_with (first | ((with_reducible refine gate_dst (N := 2) rfl ?_); refine box_event ?hg (N := 2) ?hd (cs := #[.int .i64 a0_0, .int .i64 a0_1, .slice A0_2 l0_2.length c0_2]) (t := 60) ?hr ?_; (case hd => rfl); (case hg => rfl); (case hr => first | (go_simp; done) | (go_simp; rfl)); intro gb134 hg w16 hbox hb; have BK134 := Aside0.mk (hbox); have GW134 : Aside0 (w.heap.size ≤ gb134) := gw_ hg (below_size bl_); have GE134 := GW134; replace HB := Aside0.mk (below_step bl_ hb); clear hb hbox hg) | ((with_reducible refine gate_dst (N := 3) rfl ?_); refine box_event ?hg (N := 3) ?hd (cs := #[.int .i64 a1_0, .int .i64 a1_1, .slice A1_2 l1_2.length c1_2]) (t := 60) ?hr ?_; (case hd => rfl); (case hg => rfl); (case hr => first | (go_simp; done) | (go_simp; rfl)); intro gb135 hg w17 hbox hb; have BK135 := Aside0.mk (hbox); have GW135 : Aside0 (w.heap.size ≤ gb135) := gw_ hg (below_size bl_); have GE135 := GW135; have NB134_135 := Aside0.mk ((by rw [hg]; exact Nat.ne_of_lt (blk_lt (g := gb134) (o := .cells #[.int .i64 a0_0, .int .i64 a0_1, .slice A0_2 l0_2.length c0_2] 60 (0, 0)) bk_) : gb134 ≠ gb135)); have NB135_134 := Aside0.mk ((by rw [hg]; exact Nat.ne_of_gt (blk_lt (g := gb134) (o := .cells #[.int .i64 a0_0, .int .i64 a0_1, .slice A0_2 l0_2.length c0_2] 60 (0, 0)) bk_) : gb135 ≠ gb134)); replace BK134 := Aside0.mk (blk_below (g := gb134) (o := .cells #[.int .i64 a0_0, .int .i64 a0_1, .slice A0_2 l0_2.length c0_2] 60 (0, 0)) bk_ hb); replace HB := Aside0.mk (below_step bl_ hb); clear hb hbox hg; have hnb18 := NB134_135.out; have hnc18 := NB135_134.out; obtain ⟨hcz19_0, hcz19_1, hcz19_2, hfz19_0, hfz19_1, hfz19_2⟩ := cf3_ BK134.out; obtain ⟨hcz20_0, hcz20_1, hcz20_2, hfz20_0, hfz20_1, hfz20_2⟩ := cf3_ BK135.out))
  go_ret
  exact ⟨re_, bl_⟩

end Go.Proofs.YtopbjginpmdebaaDoor.K
namespace Go.Proofs.YtopbjginpmdebaaDoor.K
open Go.RowKit Go.Proofs.YtopbjginpmdebaaDoorW.PrintWords Go.Proofs.YtopbjginpmdebaaDoorW.PrintLast Go.Proofs.YtopbjginpmdebaaDoorW.PrintMore
attribute [local go_sem] max2_int min2_int max_two min_two max_three min_three max_four min_four   -- for this text's walks alone
set_option linter.unusedVariables false
set_option linter.unusedSimpArgs false

/-! ### exactpplref19_Same: function 20 -/
def exactpplref19_Same.l0 : Nat → Int → List (S60) → List (S60) → Option (Bool)
 | 0, _, _, _ => none
 | k + 1, x5, x138000, x139000 => if x5 < (x138000.length : Int) then (if 0 ≤ x5 then (if x5 < (x139000.length : Int) then ((exactpplref19_SameNode.f k ((rd_T60 x138000 x5).f0) ((rd_T60 x138000 x5).f1) ((rd_T60 x138000 x5).f2) ((rd_T60 x139000 x5).f0) ((rd_T60 x139000 x5).f1) ((rd_T60 x139000 x5).f2)).bind fun t141 => (if t141 = true then (exactpplref19_Same.l0 k (wrap64 (x5 + 1)) x138000 x139000) else (some false))) else (none)) else (none)) else (some true)
def exactpplref19_Same.f (k : Nat) (l0_0 : List (S60)) (l1_0 : List (S60)) : Option (Bool) := if (l0_0.length : Int) = (l1_0.length : Int) then (exactpplref19_Same.l0 k 0 l0_0 l1_0) else (some false)
theorem exactpplref19_Same.mono_l : ∀ k, (∀ y0 y1 y2, LeO (exactpplref19_Same.l0 k y0 y1 y2) (exactpplref19_Same.l0 (k + 1) y0 y1 y2))
 | 0 => fun _ _ _ r h => by simp [exactpplref19_Same.l0] at h
 | k + 1 => by
  have ih0 := exactpplref19_Same.mono_l k
  ·intro y0 y1 y2
   unfold exactpplref19_Same.l0
   repeat' first
   | (with_reducible exact ih0 _ _ _)
   | (with_reducible exact exactpplref19_SameNode.mono _ _ _ _ _ _ _)
   | (with_reducible exact LeO.refl _)
   | (with_reducible exact LeO.none _)
   | (with_reducible refine LeO.ite ?_ ?_)
   | (with_reducible refine LeO.bind ?_ (fun _ => ?_))
   | exact ih0 _ _ _
   | exact exactpplref19_SameNode.mono _ _ _ _ _ _ _
   | exact LeO.none _
   | refine LeO.ite ?_ ?_
   | refine LeO.bind ?_ (fun _ => ?_)
theorem exactpplref19_Same.mono : ∀ a0 a1 k, LeO (exactpplref19_Same.f k a0 a1) (exactpplref19_Same.f (k + 1) a0 a1) := by
 intro a0 a1 k
 have ih0 := exactpplref19_Same.mono_l k
 unfold exactpplref19_Same.f
 repeat' first
   | (with_reducible exact ih0 _ _ _)
   | (with_reducible exact exactpplref19_SameNode.mono _ _ _ _ _ _ _)
   | (with_reducible exact LeO.refl _)
   | (with_reducible exact LeO.none _)
   | (with_reducible refine LeO.ite ?_ ?_)
   | (with_reducible refine LeO.bind ?_ (fun _ => ?_))
   | exact ih0 _ _ _
   | exact exactpplref19_SameNode.mono _ _ _ _ _ _ _
   | exact LeO.none _
   | refine LeO.ite ?_ ?_
   | refine LeO.bind ?_ (fun _ => ?_)
def exactpplref19_Same.T6 : Bool × List (List Nat × List Nat) := (true, [([], []), ([0], [0]), ([], []), ([1, 2], [1, 2]), ([3], [3]), ([], []), ([5], [5]), ([], []), ([6, 7], [6, 7]), ([8], [8]), ([4, 9], [4, 9]), ([10], [10])])
def exactpplref19_Same.B6 : List Nat := [0, 1, 0, 7, 15, 0, 32, 0, 224, 480, 1023, 2047]
theorem exactpplref19_Same.tab6 : rtab .any (opsOf Tryd.f20 6) = exactpplref19_Same.T6 := by kernel_rfl
theorem exactpplref19_Same.bits6 : waitsOk exactpplref19_Same.T6.2 exactpplref19_Same.B6 = true := by kernel_rfl
set_option maxHeartbeats 8000000 in
set_option maxRecDepth 100000 in
theorem exactpplref19_Same.calls (k : Nat) (A0_0 : Option Addr) (c0_0 : Nat) (l0_0 : List (S60)) (A1_0 : Option Addr) (c1_0 : Nat) (l1_0 : List (S60)) (r : Bool) (w : World) (hr0_0 : Kd.C k60 w A0_0 l0_0.length l0_0) (hc0_0 : l0_0.length ≤ c0_0) (hr1_0 : Kd.C k60 w A1_0 l1_0.length l1_0) (hc1_0 : l1_0.length ≤ c1_0) (h : exactpplref19_Same.f k l0_0 l1_0 = some r) :
  Calls Tryd.prog 20 #[.agg #[.slice A0_0 l0_0.length c0_0], .agg #[.slice A1_0 l1_0.length c1_0]] w fun e w' => e = .returned (.bool r) ∧ Below w.heap.size w w' := by
 have hu31 := Tryd.underlying31
 have hu60 := Tryd.underlying60
 have HR0_0 := Aside0.mk hr0_0
 have HC0_0 := Aside0.mk hc0_0
 clear hr0_0 hc0_0
 have HR1_0 := Aside0.mk hr1_0
 have HC1_0 := Aside0.mk hc1_0
 clear hr1_0 hc1_0
 have HB := Aside0.mk (Below.refl w.heap.size w)
 have H : (if (l0_0.length : Int) = (l1_0.length : Int) then (exactpplref19_Same.l0 k 0 l0_0 l1_0) else (some false)) = some r := h
 clear h
 by_cases c3 : (l0_0.length : Int) = (l1_0.length : Int)
 ·rw [if_pos c3] at H
  have c3b0 : ((l0_0.length : Int) == (l1_0.length : Int)) = true := beq_iff_eq.mpr c3
  have c3b1 : ((l0_0.length : Int) != (l1_0.length : Int)) = false := bne_eq_false_iff_eq.mpr c3
  have c3b2 : (l0_0.length == l1_0.length) = true := by first | simpa using c3 | (simp at c3 ⊢; omega)
  clear c3
  have H' := Aside0.mk H
  clear H
  go_enter Tryd.func20, Tryd.ntmps20
  go_wp2_with (first | ((with_reducible refine gate_dst (N := 2) rfl ?_); refine box_event ?hg (N := 2) ?hd (cs := #[.slice A0_0 l0_0.length c0_0]) (t := 31) ?hr ?_; (case hd => rfl); (case hg => rfl); (case hr => first | (go_simp; done) | (go_simp; rfl)); intro gb137 hg w4 hbox hb; have BK137 := Aside0.mk (hbox); have GW137 : Aside0 (w.heap.size ≤ gb137) := gw_ hg (below_size bl_); have GE137 := GW137; replace HB := Aside0.mk (below_step bl_ hb); clear hb hbox hg) | ((with_reducible refine gate_dst (N := 3) rfl ?_); refine box_event ?hg (N := 3) ?hd (cs := #[.slice A1_0 l1_0.length c1_0]) (t := 31) ?hr ?_; (case hd => rfl); (case hg => rfl); (case hr => first | (go_simp; done) | (go_simp; rfl)); intro gb138 hg w5 hbox hb; have BK138 := Aside0.mk (hbox); have GW138 : Aside0 (w.heap.size ≤ gb138) := gw_ hg (below_size bl_); have GE138 := GW138; have NB137_138 := Aside0.mk ((by rw [hg]; exact Nat.ne_of_lt (blk_lt (g := gb137) (o := .cells #[.slice A0_0 l0_0.length c0_0] 31 (0, 0)) bk_) : gb137 ≠ gb138)); have NB138_137 := Aside0.mk ((by rw [hg]; exact Nat.ne_of_gt (blk_lt (g := gb137) (o := .cells #[.slice A0_0 l0_0.length c0_0] 31 (0, 0)) bk_) : gb138 ≠ gb137)); replace BK137 := Aside0.mk (blk_below (g := gb137) (o := .cells #[.slice A0_0 l0_0.length c0_0] 31 (0, 0)) bk_ hb); replace HB := Aside0.mk (below_step bl_ hb); clear hb hbox hg; have hnb6 := NB137_138.out; have hnc6 := NB138_137.out; obtain ⟨hcz7_0, hfz7_0⟩ := cf1_ BK137.out; obtain ⟨hcz8_0, hfz8_0⟩ := cf1_ BK138.out))
  go_loopg [5] k (fun kq v5 w' => ∃ (x5_1 : Int), v5 = .int .i64 x5_1 ∧ Aside0 (exactpplref19_Same.l0 kq x5_1 l0_0 l1_0 = some r) ∧ Aside0 (kq ≤ k) ∧ Aside0 (w'.heap[gb137]? = some (.cells #[(.slice A0_0 l0_0.length c0_0)] 31 (0, 0))) ∧ Aside0 (w'.heap[gb138]? = some (.cells #[(.slice A1_0 l1_0.length c1_0)] 31 (0, 0))) ∧ Aside0 (Below w.heap.size w w'))
  case atStart => exact ⟨(0), rs_, H', ⟨Nat.le_refl _⟩, ⟨bk_⟩, ⟨bk_⟩, ⟨bl_⟩⟩
  case round =>
   clear H'
   try clear c1
   try clear c2
   try clear p2
   try clear c3
   try clear c3b0
   try clear c3b1
   try clear c3b2
   try clear c6
   try clear hcz7_0 hfz7_0
   try clear hcz8_0 hfz8_0
   obtain ⟨x5_1, rfl, HA, HK1, BK137, BK138, HB⟩ := hrel
   cases gk with
   | zero => exact absurd HA.out (by simp [exactpplref19_Same.l0])
   | succ k1 =>
    have H := HA.out
    clear HA
    simp only [exactpplref19_Same.l0] at H
    by_cases c9 : x5_1 < (l0_0.length : Int)
    ·rw [if_pos c9] at H
     have c9b0 : decide (x5_1 < (l0_0.length : Int)) = true := decide_eq_true c9
     clear c9
     by_cases c10 : 0 ≤ x5_1
     ·rw [if_pos c10] at H
      have c10b0 : decide (0 ≤ x5_1) = true := decide_eq_true c10
      clear c10
      by_cases c11 : x5_1 < (l1_0.length : Int)
      ·rw [if_pos c11] at H
       have c11b0 : decide (x5_1 < (l1_0.length : Int)) = true := decide_eq_true c11
       clear c11
       replace H := Option.bind_eq_some_iff.mp H
       obtain ⟨t141, A120, H⟩ := H
       replace H : (if t141 = true then (exactpplref19_Same.l0 k1 (wrap64 (x5_1 + 1)) l0_0 l1_0) else (some false)) = some r := H
       have A12 := Aside0.mk A120
       clear A120
       by_cases c13 : t141 = true
       ·subst c13
        have H1 : (exactpplref19_Same.l0 k1 (wrap64 (x5_1 + 1)) l0_0 l1_0) = some r := by rw [if_pos rfl] at H; exact H
        clear H
        have H := H1
        clear H1
        have H' := Aside0.mk H
        clear H
        have hnb14 := NB137_138.out
        have hnc14 := NB138_137.out
        obtain ⟨hcz15_0, hfz15_0⟩ := cf1_ BK137.out
        try go_wp2
        replace BK137 := Aside0.mk (blk_drew BK137.out)
        replace BK138 := Aside0.mk (blk_drew BK138.out)
        replace HB := Aside0.mk (below_drew1 HB.out)
        have p139 : 0 ≤ (x5_1 : Int) := dt_
        have q139 : x5_1 < (l0_0.length : Int) := dt_
        obtain ⟨ad139, A139_2, c139_2, e139, hx139_0, hx139_1, hx139_2, hl139_2, hi139_2⟩ := at_T60 HR0_0.out x5_1 p139 q139
        have hw139_2 := hx139_2
        have hw139_1 := hx139_1
        have hw139_0 := hx139_0
        cases e139
        replace hx139_0 := (HB.out.cell (World.block_lt_of_cell? w _ hx139_0)).trans hx139_0
        replace hx139_1 := (HB.out.cell (World.block_lt_of_cell? w _ hx139_1)).trans hx139_1
        replace hx139_2 := (HB.out.cell (World.block_lt_of_cell? w _ hx139_2)).trans hx139_2
        have HR139_2 := Aside0.mk hi139_2
        have HC139_2 := Aside0.mk hl139_2
        clear hi139_2 hl139_2
        replace p139 := eq_true p139
        replace q139 := eq_true q139
        have p140 : 0 ≤ (x5_1 : Int) := dt_
        have q140 : x5_1 < (l1_0.length : Int) := dt_
        obtain ⟨ad140, A140_2, c140_2, e140, hx140_0, hx140_1, hx140_2, hl140_2, hi140_2⟩ := at_T60 HR1_0.out x5_1 p140 q140
        have hw140_2 := hx140_2
        have hw140_1 := hx140_1
        have hw140_0 := hx140_0
        cases e140
        replace hx140_0 := (HB.out.cell (World.block_lt_of_cell? w _ hx140_0)).trans hx140_0
        replace hx140_1 := (HB.out.cell (World.block_lt_of_cell? w _ hx140_1)).trans hx140_1
        replace hx140_2 := (HB.out.cell (World.block_lt_of_cell? w _ hx140_2)).trans hx140_2
        have HR140_2 := Aside0.mk hi140_2
        have HC140_2 := Aside0.mk hl140_2
        clear hi140_2 hl140_2
        replace p140 := eq_true p140
        replace q140 := eq_true q140
        refine start_ (n := 12) (S := fun w' => w'.cell? ⟨gb137, 0, none⟩ = some (.slice (some ad139) l0_0.length c0_0) ∧ w'.cell? ⟨gb138, 0, none⟩ = some (.slice (some ad140) l1_0.length c1_0) ∧ w'.cell? (ad139.add ((x5_1).toNat * 3)) = some (.int .i64 ((rd_T60 l0_0 x5_1).f0)) ∧ w'.cell? ⟨(ad139.add ((x5_1).toNat * 3)).block, (ad139.add ((x5_1).toNat * 3)).off + 1, none⟩ = some (.int .i64 ((rd_T60 l0_0 x5_1).f1)) ∧ w'.cell? ⟨(ad139.add ((x5_1).toNat * 3)).block, (ad139.add ((x5_1).toNat * 3)).off + 2, none⟩ = some (.slice A139_2 ((rd_T60 l0_0 x5_1).f2).length c139_2) ∧ w'.cell? (ad140.add ((x5_1).toNat * 3)) = some (.int .i64 ((rd_T60 l1_0 x5_1).f0)) ∧ w'.cell? ⟨(ad140.add ((x5_1).toNat * 3)).block, (ad140.add ((x5_1).toNat * 3)).off + 1, none⟩ = some (.int .i64 ((rd_T60 l1_0 x5_1).f1)) ∧ w'.cell? ⟨(ad140.add ((x5_1).toNat * 3)).block, (ad140.add ((x5_1).toNat * 3)).off + 2, none⟩ = some (.slice A140_2 ((rd_T60 l1_0 x5_1).f2).length c140_2)) (ds := []) #[false, false, false, false, false, false, false, false, false, false, false, false] (by kernel_rfl) rfl rfl ⟨(blk_cell BK137.out 0).trans rfl, (blk_cell BK138.out 0).trans rfl, ((HB.out.cell (World.block_lt_of_cell? w _ hw139_0)).trans hw139_0), ((HB.out.cell (World.block_lt_of_cell? w _ hw139_1)).trans hw139_1), ((HB.out.cell (World.block_lt_of_cell? w _ hw139_2)).trans hw139_2), ((HB.out.cell (World.block_lt_of_cell? w _ hw140_0)).trans hw140_0), ((HB.out.cell (World.block_lt_of_cell? w _ hw140_1)).trans hw140_1), ((HB.out.cell (World.block_lt_of_cell? w _ hw140_2)).trans hw140_2)⟩ (fun hHeld => ?_); refine with_tabW exactpplref19_Same.tab6 exactpplref19_Same.bits6 (fun HT_ HW_ => ?_)
        generalize wr.drew = w16 at BK137 BK138 HB HR139_2 HR140_2 hx139_0 hx139_1 hx139_2 hx140_0 hx140_1 hx140_2 hHeld ⊢
        refine pu_ HT_ 0 20 (bm 12 1) ?_
        refine pu_ HT_ 2 22 (bm 12 5) ?_
        refine pu_ HT_ 5 25 (bm 12 37) ?_
        refine pu_ HT_ 7 27 (bm 12 165) ?_
        refine ta_ HT_ HW_ 1 21 (bm 12 167) hHeld ?_
        refine pu_ HT_ 3 23 (bm 12 175) ?_
        refine ta_ HT_ HW_ 4 24 (bm 12 191) hHeld ?_
        refine ta_ HT_ HW_ 6 26 (bm 12 255) hHeld ?_
        refine pu_ HT_ 8 28 (bm 12 511) ?_
        refine ta_ HT_ HW_ 9 29 (bm 12 1023) hHeld ?_
        refine one_ (i := 10) (N := some 30) #[true, true, true, true, true, true, true, true, true, true, true, false] rfl rfl (one_of HT_.out (by kernel_rfl)) (by decide) (fun K hK => ?_)
        refine goes_ Tryd.func49 (by kernel_rfl) rfl #[.agg #[.int .i64 ((rd_T60 l0_0 x5_1).f0), .int .i64 ((rd_T60 l0_0 x5_1).f1), .slice A139_2 ((rd_T60 l0_0 x5_1).f2).length c139_2], .agg #[.int .i64 ((rd_T60 l1_0 x5_1).f0), .int .i64 ((rd_T60 l1_0 x5_1).f1), .slice A140_2 ((rd_T60 l1_0 x5_1).f2).length c140_2]] (by rfl) rfl rfl (by (try simp only [List.map_toArray, List.map_cons, List.map_nil]); first | done | rfl | (simp only [List.length_drop, List.length_take]; rfl)) ?_
        with_reducible refine (exactpplref19_SameNode.calls k1 ((rd_T60 l0_0 x5_1).f0) ((rd_T60 l0_0 x5_1).f1) _ _ ((rd_T60 l0_0 x5_1).f2) ((rd_T60 l1_0 x5_1).f0) ((rd_T60 l1_0 x5_1).f1) _ _ ((rd_T60 l1_0 x5_1).f2) true _ ?side1 ?side2 ?side3 ?side4 A12.out).mono ?_
        (case side1 => repeat (first | exact (Kd.C_below HR139_2.out HB.out) | (with_reducible refine Kd.C_alloc ?_ _) | (with_reducible refine Kd.C_drewN ?_ _) | (with_reducible refine Kd.C_drew ?_)))
        (case side2 => exact HC139_2.out)
        (case side3 => repeat (first | exact (Kd.C_below HR140_2.out HB.out) | (with_reducible refine Kd.C_alloc ?_ _) | (with_reducible refine Kd.C_drewN ?_ _) | (with_reducible refine Kd.C_drew ?_)))
        (case side4 => exact HC140_2.out)
        rintro e w17 ⟨rfl, hb⟩
        refine ⟨_, rfl, ?_⟩
        replace BK137 := Aside0.mk (blk_below (g := gb137) (o := .cells #[.slice (some ad139) l0_0.length c0_0] 31 (0, 0)) bk_ hb)
        replace BK138 := Aside0.mk (blk_below (g := gb138) (o := .cells #[.slice (some ad140) l1_0.length c1_0] 31 (0, 0)) bk_ hb)
        replace HB := Aside0.mk (below_step bl_ hb)
        (try clear hb)
        (try clear hb2)
        (try clear hk)
        (try clear hi)
        refine hK.out _ _ ⟨(blk_cell BK137.out 0).trans rfl, (blk_cell BK138.out 0).trans rfl, ((HB.out.cell (World.block_lt_of_cell? w _ hw139_0)).trans hw139_0), ((HB.out.cell (World.block_lt_of_cell? w _ hw139_1)).trans hw139_1), ((HB.out.cell (World.block_lt_of_cell? w _ hw139_2)).trans hw139_2), ((HB.out.cell (World.block_lt_of_cell? w _ hw140_0)).trans hw140_0), ((HB.out.cell (World.block_lt_of_cell? w _ hw140_1)).trans hw140_1), ((HB.out.cell (World.block_lt_of_cell? w _ hw140_2)).trans hw140_2)⟩ (fun hHeld => ?_)
        clear hK K
        refine norm_ (a' := ?_) ?_ ?_
        rotate_left
        ·show Act.put _ (some 30) _ = _
         simp only [Act.put, List.setIfInBounds_toArray, List.set_cons_zero, List.set_cons_succ, i64_w, i32_w]
         rfl
        refine pu_ HT_ 11 31 #[true, true, true, true, true, true, true, true, true, true, true, true] ?_
        refine done_ (done_of HT_.out (by kernel_rfl)) ?_
        try go_wp2
        go_roundg k1
        case measure => have := HK1.out; omega
        case rel => exact ⟨(wrap64 (x5_1 + 1)), rs_, H', ⟨by have := HK1.out; omega⟩, ⟨bk_⟩, ⟨bk_⟩, ⟨bl_⟩⟩
       ·replace c13 := Bool.eq_false_iff.mpr c13
        subst c13
        have H1 : (some false) = some r := by rw [if_neg (show ¬ (false = true) by decide)] at H; exact H
        clear H
        have H := H1
        clear H1
        obtain rfl := Option.some.inj H
        have hnb18 := NB137_138.out
        have hnc18 := NB138_137.out
        obtain ⟨hcz19_0, hfz19_0⟩ := cf1_ BK137.out
        try go_wp2
        replace BK137 := Aside0.mk (blk_drew BK137.out)
        replace BK138 := Aside0.mk (blk_drew BK138.out)
        replace HB := Aside0.mk (below_drew1 HB.out)
        have p139 : 0 ≤ (x5_1 : Int) := dt_
        have q139 : x5_1 < (l0_0.length : Int) := dt_
        obtain ⟨ad139, A139_2, c139_2, e139, hx139_0, hx139_1, hx139_2, hl139_2, hi139_2⟩ := at_T60 HR0_0.out x5_1 p139 q139
        have hw139_2 := hx139_2
        have hw139_1 := hx139_1
        have hw139_0 := hx139_0
        cases e139
        replace hx139_0 := (HB.out.cell (World.block_lt_of_cell? w _ hx139_0)).trans hx139_0
        replace hx139_1 := (HB.out.cell (World.block_lt_of_cell? w _ hx139_1)).trans hx139_1
        replace hx139_2 := (HB.out.cell (World.block_lt_of_cell? w _ hx139_2)).trans hx139_2
        have HR139_2 := Aside0.mk hi139_2
        have HC139_2 := Aside0.mk hl139_2
        clear hi139_2 hl139_2
        replace p139 := eq_true p139
        replace q139 := eq_true q139
        have p140 : 0 ≤ (x5_1 : Int) := dt_
        have q140 : x5_1 < (l1_0.length : Int) := dt_
        obtain ⟨ad140, A140_2, c140_2, e140, hx140_0, hx140_1, hx140_2, hl140_2, hi140_2⟩ := at_T60 HR1_0.out x5_1 p140 q140
        have hw140_2 := hx140_2
        have hw140_1 := hx140_1
        have hw140_0 := hx140_0
        cases e140
        replace hx140_0 := (HB.out.cell (World.block_lt_of_cell? w _ hx140_0)).trans hx140_0
        replace hx140_1 := (HB.out.cell (World.block_lt_of_cell? w _ hx140_1)).trans hx140_1
        replace hx140_2 := (HB.out.cell (World.block_lt_of_cell? w _ hx140_2)).trans hx140_2
        have HR140_2 := Aside0.mk hi140_2
        have HC140_2 := Aside0.mk hl140_2
        clear hi140_2 hl140_2
        replace p140 := eq_true p140
        replace q140 := eq_true q140
        refine start_ (n := 12) (S := fun w' => w'.cell? ⟨gb137, 0, none⟩ = some (.slice (some ad139) l0_0.length c0_0) ∧ w'.cell? ⟨gb138, 0, none⟩ = some (.slice (some ad140) l1_0.length c1_0) ∧ w'.cell? (ad139.add ((x5_1).toNat * 3)) = some (.int .i64 ((rd_T60 l0_0 x5_1).f0)) ∧ w'.cell? ⟨(ad139.add ((x5_1).toNat * 3)).block, (ad139.add ((x5_1).toNat * 3)).off + 1, none⟩ = some (.int .i64 ((rd_T60 l0_0 x5_1).f1)) ∧ w'.cell? ⟨(ad139.add ((x5_1).toNat * 3)).block, (ad139.add ((x5_1).toNat * 3)).off + 2, none⟩ = some (.slice A139_2 ((rd_T60 l0_0 x5_1).f2).length c139_2) ∧ w'.cell? (ad140.add ((x5_1).toNat * 3)) = some (.int .i64 ((rd_T60 l1_0 x5_1).f0)) ∧ w'.cell? ⟨(ad140.add ((x5_1).toNat * 3)).block, (ad140.add ((x5_1).toNat * 3)).off + 1, none⟩ = some (.int .i64 ((rd_T60 l1_0 x5_1).f1)) ∧ w'.cell? ⟨(ad140.add ((x5_1).toNat * 3)).block, (ad140.add ((x5_1).toNat * 3)).off + 2, none⟩ = some (.slice A140_2 ((rd_T60 l1_0 x5_1).f2).length c140_2)) (ds := []) #[false, false, false, false, false, false, false, false, false, false, false, false] (by kernel_rfl) rfl rfl ⟨(blk_cell BK137.out 0).trans rfl, (blk_cell BK138.out 0).trans rfl, ((HB.out.cell (World.block_lt_of_cell? w _ hw139_0)).trans hw139_0), ((HB.out.cell (World.block_lt_of_cell? w _ hw139_1)).trans hw139_1), ((HB.out.cell (World.block_lt_of_cell? w _ hw139_2)).trans hw139_2), ((HB.out.cell (World.block_lt_of_cell? w _ hw140_0)).trans hw140_0), ((HB.out.cell (World.block_lt_of_cell? w _ hw140_1)).trans hw140_1), ((HB.out.cell (World.block_lt_of_cell? w _ hw140_2)).trans hw140_2)⟩ (fun hHeld => ?_); refine with_tabW exactpplref19_Same.tab6 exactpplref19_Same.bits6 (fun HT_ HW_ => ?_)
        generalize wr.drew = w20 at BK137 BK138 HB HR139_2 HR140_2 hx139_0 hx139_1 hx139_2 hx140_0 hx140_1 hx140_2 hHeld ⊢
        refine pu_ HT_ 0 20 (bm 12 1) ?_
        refine pu_ HT_ 2 22 (bm 12 5) ?_
        refine pu_ HT_ 5 25 (bm 12 37) ?_
        refine pu_ HT_ 7 27 (bm 12 165) ?_
        refine ta_ HT_ HW_ 1 21 (bm 12 167) hHeld ?_
        refine pu_ HT_ 3 23 (bm 12 175) ?_
        refine ta_ HT_ HW_ 4 24 (bm 12 191) hHeld ?_
        refine ta_ HT_ HW_ 6 26 (bm 12 255) hHeld ?_
        refine pu_ HT_ 8 28 (bm 12 511) ?_
        refine ta_ HT_ HW_ 9 29 (bm 12 1023) hHeld ?_
        refine one_ (i := 10) (N := some 30) #[true, true, true, true, true, true, true, true, true, true, true, false] rfl rfl (one_of HT_.out (by kernel_rfl)) (by decide) (fun K hK => ?_)
        refine goes_ Tryd.func49 (by kernel_rfl) rfl #[.agg #[.int .i64 ((rd_T60 l0_0 x5_1).f0), .int .i64 ((rd_T60 l0_0 x5_1).f1), .slice A139_2 ((rd_T60 l0_0 x5_1).f2).length c139_2], .agg #[.int .i64 ((rd_T60 l1_0 x5_1).f0), .int .i64 ((rd_T60 l1_0 x5_1).f1), .slice A140_2 ((rd_T60 l1_0 x5_1).f2).length c140_2]] (by rfl) rfl rfl (by (try simp only [List.map_toArray, List.map_cons, List.map_nil]); first | done | rfl | (simp only [List.length_drop, List.length_take]; rfl)) ?_
        with_reducible refine (exactpplref19_SameNode.calls k1 ((rd_T60 l0_0 x5_1).f0) ((rd_T60 l0_0 x5_1).f1) _ _ ((rd_T60 l0_0 x5_1).f2) ((rd_T60 l1_0 x5_1).f0) ((rd_T60 l1_0 x5_1).f1) _ _ ((rd_T60 l1_0 x5_1).f2) false _ ?side1 ?side2 ?side3 ?side4 A12.out).mono ?_
        (case side1 => repeat (first | exact (Kd.C_below HR139_2.out HB.out) | (with_reducible refine Kd.C_alloc ?_ _) | (with_reducible refine Kd.C_drewN ?_ _) | (with_reducible refine Kd.C_drew ?_)))
        (case side2 => exact HC139_2.out)
        (case side3 => repeat (first | exact (Kd.C_below HR140_2.out HB.out) | (with_reducible refine Kd.C_alloc ?_ _) | (with_reducible refine Kd.C_drewN ?_ _) | (with_reducible refine Kd.C_drew ?_)))
        (case side4 => exact HC140_2.out)
        rintro e w21 ⟨rfl, hb⟩
        refine ⟨_, rfl, ?_⟩
        replace BK137 := Aside0.mk (blk_below (g := gb137) (o := .cells #[.slice (some ad139) l0_0.length c0_0] 31 (0, 0)) bk_ hb)
        replace BK138 := Aside0.mk (blk_below (g := gb138) (o := .cells #[.slice (some ad140) l1_0.length c1_0] 31 (0, 0)) bk_ hb)
        replace HB := Aside0.mk (below_step bl_ hb)
        (try clear hb)
        (try clear hb2)
        (try clear hk)
        (try clear hi)
        refine hK.out _ _ ⟨(blk_cell BK137.out 0).trans rfl, (blk_cell BK138.out 0).trans rfl, ((HB.out.cell (World.block_lt_of_cell? w _ hw139_0)).trans hw139_0), ((HB.out.cell (World.block_lt_of_cell? w _ hw139_1)).trans hw139_1), ((HB.out.cell (World.block_lt_of_cell? w _ hw139_2)).trans hw139_2), ((HB.out.cell (World.block_lt_of_cell? w _ hw140_0)).trans hw140_0), ((HB.out.cell (World.block_lt_of_cell? w _ hw140_1)).trans hw140_1), ((HB.out.cell (World.block_lt_of_cell? w _ hw140_2)).trans hw140_2)⟩ (fun hHeld => ?_)
        clear hK K
        refine norm_ (a' := ?_) ?_ ?_
        rotate_left
        ·show Act.put _ (some 30) _ = _
         simp only [Act.put, List.setIfInBounds_toArray, List.set_cons_zero, List.set_cons_succ, i64_w, i32_w]
         rfl
        refine pu_ HT_ 11 31 #[true, true, true, true, true, true, true, true, true, true, true, true] ?_
        refine done_ (done_of HT_.out (by kernel_rfl)) ?_
        try go_wp2
        go_ret
        exact ⟨re_, bl_⟩
      ·rw [if_neg c11] at H
       exact absurd H (by simp)
     ·rw [if_neg c10] at H
      exact absurd H (by simp)
    ·rw [if_neg c9] at H
     have c9b0 : decide (x5_1 < (l0_0.length : Int)) = false := decide_eq_false c9
     clear c9
     obtain rfl := Option.some.inj H
     have hnb22 := NB137_138.out
     have hnc22 := NB138_137.out
     obtain ⟨hcz23_0, hfz23_0⟩ := cf1_ BK137.out
     go_wp2
     go_ret
     exact ⟨re_, bl_⟩
 ·rw [if_neg c3] at H
  have c3b0 : ((l0_0.length : Int) == (l1_0.length : Int)) = false := beq_eq_false_iff_ne.mpr c3
  have c3b1 : ((l0_0.length : Int) != (l1_0.length : Int)) = true := bne_iff_ne.mpr c3
  have c3b2 : (l0_0.length == l1_0.length) = false := by first | simpa using c3 | (simp at c3 ⊢; omega)
  obtain rfl := Option.some.inj H
  go_enter Tryd.func20, Tryd.ntmps20
  go_wp2_with (first | ((with_reducible refine gate_dst (N := 2) rfl ?_); refine box_event ?hg (N := 2) ?hd (cs := #[.slice A0_0 l0_0.length c0_0]) (t := 31) ?hr ?_; (case hd => rfl); (case hg => rfl); (case hr => first | (go_simp; done) | (go_simp; rfl)); intro gb137 hg w24 hbox hb; have BK137 := Aside0.mk (hbox); have GW137 : Aside0 (w.heap.size ≤ gb137) := gw_ hg (below_size bl_); have GE137 := GW137; replace HB := Aside0.mk (below_step bl_ hb); clear hb hbox hg) | ((with_reducible refine gate_dst (N := 3) rfl ?_); refine box_event ?hg (N := 3) ?hd (cs := #[.slice A1_0 l1_0.length c1_0]) (t := 31) ?hr ?_; (case hd => rfl); (case hg => rfl); (case hr => first | (go_simp; done) | (go_simp; rfl)); intro gb138 hg w25 hbox hb; have BK138 := Aside0.mk (hbox); have GW138 : Aside0 (w.heap.size ≤ gb138) := gw_ hg (below_size bl_); have GE138 := GW138; have NB137_138 := Aside0.mk ((by rw [hg]; exact Nat.ne_of_lt (blk_lt (g := gb137) (o := .cells #[.slice A0_0 l0_0.length c0_0] 31 (0, 0)) bk_) : gb137 ≠ gb138)); have NB138_137 := Aside0.mk ((by rw [hg]; exact Nat.ne_of_gt (blk_lt (g := gb137) (o := .cells #[.slice A0_0 l0_0.length c0_0] 31 (0, 0)) bk_) : gb138 ≠ gb137)); replace BK137 := Aside0.mk (blk_below (g := gb137) (o := .cells #[.slice A0_0 l0_0.length c0_0] 31 (0, 0)) bk_ hb); replace HB := Aside0.mk (below_step bl_ hb); clear hb hbox hg; have hnb26 := NB137_138.out; have hnc26 := NB138_137.out; obtain ⟨hcz27_0, hfz27_0⟩ := cf1_ BK137.out; obtain ⟨hcz28_0, hfz28_0⟩ := cf1_ BK138.out))
  go_ret
  exact ⟨re_, bl_⟩

end Go.Proofs.YtopbjginpmdebaaDoor.K
namespace Go.Proofs.YtopbjginpmdebaaDoor.K
open Go.RowKit Go.Proofs.YtopbjginpmdebaaDoorW.PrintWords Go.Proofs.YtopbjginpmdebaaDoorW.PrintLast Go.Proofs.YtopbjginpmdebaaDoorW.PrintMore
attribute [local go_sem] max2_int min2_int max_two min_two max_three min_three max_four min_four   -- for this text's walks alone
set_option linter.unusedVariables false
set_option linter.unusedSimpArgs false

/-- A state of type 58 at block g of W; what its slices lead to came in by w0. -/
def IsS58 (w0 W : World) (g : Nat) (f0 : List Int) (f1 : Int) (f2 : Int) : Prop := ∃ A0 c0, W.heap[g]? = some (.cells #[.slice A0 f0.length c0, .int .i64 f1, .int .i64 f2] 58 (0, 0)) ∧ w0.heap.size ≤ g ∧ Kd.C (Kd.int .i64) w0 A0 f0.length f0
theorem IsS58.grown {w0 W : World} {g : Nat} {f0 : List Int} {f1 : Int} {f2 : Int} {W1 : World} {row : Option Nat} (h : IsS58 w0 W g f0 f1 f2) (hw : W.grownBy W1 row) (hne : some g ≠ row) : IsS58 w0 W1 g f0 f1 f2 := by
 obtain ⟨A0, c0, hb, hg, hr0⟩ := h
 exact ⟨A0, c0, blk_grown hb hw hne, hg, hr0⟩
theorem IsS58.own_neN {w0 W : World} {g : Nat} {f0 : List Int} {f1 : Int} {f2 : Int} {α : Type} {d : Kd α} {e : Nat} {base : Nat} {ok : Nat → Prop} {v : Value} {xs : List α} (h : IsS58 w0 W g f0 f1 f2) (ho : Kd.N d e W base ok v xs) (ht : e ≠ 58) : some g ≠ v.ownBlock := by
 obtain ⟨A0, c0, hb, hg, hr0⟩ := h
 exact Kd.N_ne ho hb ht
theorem IsS58.fresh {w0 W : World} {g : Nat} {f0 : List Int} {f1 : Int} {f2 : Int} (h : IsS58 w0 W g f0 f1 f2) : ∀ k, W.heap.size ≤ k → k ≠ g := by
 obtain ⟨A0, c0, hb, hg, hr0⟩ := h
 exact Kd.freshB hb
theorem IsS58.kept {w0 W : World} {g : Nat} {f0 : List Int} {f1 : Int} {f2 : Int} {W1 : World} {S : Nat → Prop} (h : IsS58 w0 W g f0 f1 f2) (hk : Kept W W1 S) (hne : ¬ S g) : IsS58 w0 W1 g f0 f1 f2 := by
 obtain ⟨A0, c0, hb, hg, hr0⟩ := h
 exact ⟨A0, c0, blk_kept hb hk hne, hg, hr0⟩
theorem IsS58.below {w0 W : World} {g : Nat} {f0 : List Int} {f1 : Int} {f2 : Int} {W1 : World} (h : IsS58 w0 W g f0 f1 f2) (hw : Below W.heap.size W W1) : IsS58 w0 W1 g f0 f1 f2 := h.grown (grown_of_below hw none) (by simp)
theorem IsS58.alloc {w0 W : World} {g : Nat} {f0 : List Int} {f1 : Int} {f2 : Int} (h : IsS58 w0 W g f0 f1 f2) (o : Obj) : IsS58 w0 (W.alloc o) g f0 f1 f2 := h.below (below_alloc (Below.refl _ _) o)
theorem IsS58.drewN {w0 W : World} {g : Nat} {f0 : List Int} {f1 : Int} {f2 : Int} (h : IsS58 w0 W g f0 f1 f2) (m : Nat) : IsS58 w0 (W.drewN m) g f0 f1 f2 := h
theorem IsS58.drew {w0 W : World} {g : Nat} {f0 : List Int} {f1 : Int} {f2 : Int} (h : IsS58 w0 W g f0 f1 f2) : IsS58 w0 W.drew g f0 f1 f2 := h
theorem IsS58.at_ {w0 W : World} {g : Nat} {f0 : List Int} {f1 : Int} {f2 : Int} {w' : World} {m : Nat} (hq : W.drewN m = w') (h : IsS58 w0 W g f0 f1 f2) : IsS58 w0 w' g f0 f1 f2 := by subst hq; exact IsS58.drewN h m
theorem IsS58.apart {w0 W : World} {g : Nat} {f0 : List Int} {f1 : Int} {f2 : Int} {α : Type} {d : Kd α} {e : Nat} {base : Nat} {ok : Nat → Prop} {v : Value} {xs : List α} (h : IsS58 w0 W g f0 f1 f2) (ho : d.R e W base ok v xs) (ht : ∀ q, q ∈ e :: d.E → q ≠ 58) : d.R e W base (fun k => ok k ∧ k ≠ g) v xs := by
 obtain ⟨A0, c0, hb, hg, hr0⟩ := h
 exact Kd.R_types ho hb ht
theorem IsS58.own_ne {w0 W : World} {g : Nat} {f0 : List Int} {f1 : Int} {f2 : Int} {α : Type} {d : Kd α} {e : Nat} {base : Nat} {ok : Nat → Prop} {v : Value} {xs : List α} (h : IsS58 w0 W g f0 f1 f2) (ho : d.R e W base ok v xs) (ht : e ≠ 58) : some g ≠ v.ownBlock := by
 obtain ⟨A0, c0, hb, hg, hr0⟩ := h
 exact Kd.R_ne ho hb ht
theorem IsS58.apartQ {w0 W : World} {g : Nat} {f0 : List Int} {f1 : Int} {f2 : Int} {α : Type} {d : Kd α} {e : Nat} {base : Nat} {ok : Nat → Prop} {v : Value} {xs : List α} (h : IsS58 w0 W g f0 f1 f2) (ho : d.Q e W base ok v xs) (ht : ∀ q, q ∈ e :: d.E → q ≠ 58) : d.Q e W base (fun k => ok k ∧ k ≠ g) v xs := by
 obtain ⟨A0, c0, hb, hg, hr0⟩ := h
 exact Kd.Q_types ho hb ht
theorem IsS58.own_neQ {w0 W : World} {g : Nat} {f0 : List Int} {f1 : Int} {f2 : Int} {α : Type} {d : Kd α} {e : Nat} {base : Nat} {ok : Nat → Prop} {v : Value} {xs : List α} (h : IsS58 w0 W g f0 f1 f2) (ho : d.Q e W base ok v xs) (ht : e ≠ 58) : some g ≠ v.ownBlock := by
 obtain ⟨A0, c0, hb, hg, hr0⟩ := h
 exact Kd.Q_ne ho hb ht
theorem IsS58.apartS {w0 W : World} {g : Nat} {f0 : List Int} {f1 : Int} {f2 : Int} {α : Type} {d : Kd α} {e : Nat} {base : Nat} {ok : Nat → Prop} {v : Value} {xs : List α} (h : IsS58 w0 W g f0 f1 f2) (ho : d.S e W base ok v xs) (ht : ∀ q, q ∈ e :: d.E → q ≠ 58) : d.S e W base (fun k => ok k ∧ k ≠ g) v xs := by
 obtain ⟨A0, c0, hb, hg, hr0⟩ := h
 exact Kd.S_types ho hb ht
theorem IsS58.own_neS {w0 W : World} {g : Nat} {f0 : List Int} {f1 : Int} {f2 : Int} {α : Type} {d : Kd α} {e : Nat} {base : Nat} {ok : Nat → Prop} {v : Value} {xs : List α} (h : IsS58 w0 W g f0 f1 f2) (ho : d.S e W base ok v xs) (ht : e ≠ 58) : some g ≠ v.ownBlock := by
 obtain ⟨A0, c0, hb, hg, hr0⟩ := h
 exact Kd.S_ne ho hb ht
theorem IsS58.lt {w0 W : World} {g : Nat} {f0 : List Int} {f1 : Int} {f2 : Int} (h : IsS58 w0 W g f0 f1 f2) : g < W.heap.size := by
 obtain ⟨A0, c0, hb, hg, hr0⟩ := h
 exact blk_lt hb
theorem IsS58.ge {w0 W : World} {g : Nat} {f0 : List Int} {f1 : Int} {f2 : Int} (h : IsS58 w0 W g f0 f1 f2) : w0.heap.size ≤ g := by
 obtain ⟨A0, c0, hb, hg, hr0⟩ := h
 exact hg
theorem IsS58.ne_blk {w0 W : World} {g : Nat} {f0 : List Int} {f1 : Int} {f2 : Int} {a : Nat} {cs : Array Value} {t : TypeId} {fr : Nat × Nat} (h : IsS58 w0 W g f0 f1 f2) (hb2 : W.heap[a]? = some (.cells cs t fr)) (ht : t ≠ 58) : g ≠ a := by
 obtain ⟨A0, c0, hb, hg, hr0⟩ := h
 rintro rfl
 rw [hb] at hb2
 injection hb2 with hb2
 injection hb2 with _ ht2
 exact ht ht2.symm
theorem IsS58.far {w0 W : World} {g : Nat} {f0 : List Int} {f1 : Int} {f2 : Int} {p : Addr} (h : IsS58 w0 W g f0 f1 f2) (hne : g ≠ p.block) (u : Value) : IsS58 w0 (W.setCell p u) g f0 f1 f2 := by
 obtain ⟨A0, c0, hb, hg, hr0⟩ := h
 exact ⟨A0, c0, blk_far hb hne u, hg, hr0⟩
theorem cellS58_0 {W : World} {g : Nat} {A0 : Option Addr} {c0 : Nat} {f0 : List Int} {f1 : Int} {f2 : Int} (h : W.heap[g]? = some (.cells #[.slice A0 f0.length c0, .int .i64 f1, .int .i64 f2] 58 (0, 0))) : W.cell? ⟨g, 0, none⟩ = some (.slice A0 f0.length c0) := (blk_cell h 0).trans rfl
theorem cellS58_1 {W : World} {g : Nat} {A0 : Option Addr} {c0 : Nat} {f0 : List Int} {f1 : Int} {f2 : Int} (h : W.heap[g]? = some (.cells #[.slice A0 f0.length c0, .int .i64 f1, .int .i64 f2] 58 (0, 0))) : W.cell? ⟨g, 1, none⟩ = some (.int .i64 f1) := (blk_cell h 1).trans rfl
theorem IsS58.set_1 {w0 W : World} {g : Nat} {f0 : List Int} {f1 : Int} {f2 : Int} (h : IsS58 w0 W g f0 f1 f2) (x : Int) : IsS58 w0 (W.setCell ⟨g, 1, none⟩ (.int .i64 x)) g f0 x f2 := by
 obtain ⟨A0, c0, hb, hg, hr0⟩ := h
 exact ⟨A0, c0, by simpa using blk_set hb 1 (.int .i64 x), hg, hr0⟩
theorem cellS58_2 {W : World} {g : Nat} {A0 : Option Addr} {c0 : Nat} {f0 : List Int} {f1 : Int} {f2 : Int} (h : W.heap[g]? = some (.cells #[.slice A0 f0.length c0, .int .i64 f1, .int .i64 f2] 58 (0, 0))) : W.cell? ⟨g, 2, none⟩ = some (.int .i64 f2) := (blk_cell h 2).trans rfl
theorem IsS58.set_2 {w0 W : World} {g : Nat} {f0 : List Int} {f1 : Int} {f2 : Int} (h : IsS58 w0 W g f0 f1 f2) (x : Int) : IsS58 w0 (W.setCell ⟨g, 2, none⟩ (.int .i64 x)) g f0 f1 x := by
 obtain ⟨A0, c0, hb, hg, hr0⟩ := h
 exact ⟨A0, c0, by simpa using blk_set hb 2 (.int .i64 x), hg, hr0⟩
theorem IsS58.new (w0 W : World) (A0 : Option Addr) (c0 : Nat) (f0 : List Int) (f1 : Int) (f2 : Int) (hB : Below w0.heap.size w0 W) (hr0 : Kd.C (Kd.int .i64) w0 A0 f0.length f0) : IsS58 w0 (W.alloc (.cells #[.slice A0 f0.length c0, .int .i64 f1, .int .i64 f2] 58)) W.heap.size f0 f1 f2 := ⟨A0, c0, by simpa using heap_alloc_new W _, hB.size, hr0⟩

/-! ### exactpplmake_New: function 15 -/
def exactpplmake_New.f (l0 : List Int) : Option (List Int × Int × Int) := if (l0.length : Int) > 1000 then (if 1000 ≤ (l0.length : Int) then (some (l0.take 1000, 0, 0)) else (none)) else (some (l0, 0, 0))
set_option maxHeartbeats 8000000 in
set_option maxRecDepth 100000 in
theorem exactpplmake_New.calls (A0 : Option Addr) (c0 : Nat) (l0 : List Int) (r1 : List Int) (r2 : Int) (r3 : Int) (w0 w : World) (hB : Below w0.heap.size w0 w) (hr0 : Kd.C (Kd.int .i64) w0 A0 l0.length l0) (hc0 : l0.length ≤ c0) (h : exactpplmake_New.f l0 = some (r1, r2, r3)) :
  Calls Tryd.prog 15 #[.slice A0 l0.length c0] w fun e w' => ∃ g_ : Nat, e = .returned (.pointer (some ⟨g_, 0, none⟩)) ∧ IsS58 w0 w' g_ r1 r2 r3 ∧ Below w0.heap.size w0 w' ∧ Below w.heap.size w w' := by
 have hu58 := Tryd.underlying58
 have HR0 := Aside0.mk hr0
 have HC0 := Aside0.mk hc0
 clear hr0 hc0
 have HBW := Aside0.mk (Below.refl w.heap.size w)
 have HW0 := Aside0.mk hB.size
 have HB := Aside0.mk hB
 clear hB
 have H : (if (l0.length : Int) > 1000 then (if 1000 ≤ (l0.length : Int) then (some (l0.take 1000, 0, 0)) else (none)) else (some (l0, 0, 0))) = some (r1, r2, r3) := h
 clear h
 by_cases c2 : (l0.length : Int) > 1000
 ·rw [if_pos c2] at H
  have c2b0 : decide (1000 < (l0.length : Int)) = true := decide_eq_true c2
  have c2b1 : decide (1000 < l0.length) = true := decide_eq_true (by omega)
  clear c2
  by_cases c3 : 1000 ≤ (l0.length : Int)
  ·rw [if_pos c3] at H
   have c3b0 := eq_true c3
   have c3b1 : decide (1000 ≤ (l0.length : Int)) = true := decide_eq_true c3
   clear c3
   simp only [Option.some.injEq, Prod.mk.injEq] at H
   obtain ⟨rfl, rfl, rfl⟩ := H
   obtain ⟨i04, hi04, _, hsz4, _⟩ := info_parts info3
   obtain ⟨hcut4, hA4, hC4⟩ := print_take_of (P := Tryd.prog) (Value.int .i64) 0 22 3 .i64 Tryd.underlying22 hi04 hsz4 A0 c0 l0 1000 (by omega) (dt_) HC0.out
   have HR226 := Aside0.mk (Kd.C_of_reads (h1 := fun _ => rfl) (hA4 _ (Kd.reads_of_C HR0.out)))
   have HC226 := Aside0.mk hC4
   clear hA4 hC4 hi04 hsz4
   go_enter Tryd.func15, Tryd.ntmps15
   go_wp2_with (first | ((with_reducible refine gate_dst (N := 10) rfl ?_); refine box_event ?hg (N := 10) ?hd (cs := #[.slice A0 (l0.take 1000).length c0, .int .i64 0, .int .i64 0]) (t := 58) ?hr ?_; (case hd => rfl); (case hg => rfl); (case hr => first | (go_simp; done) | (go_simp; rfl)); intro gb227 hg w5 hbox hb; have BK227 := Aside0.mk (hbox); have GW227 := Aside0.mk ((by rw [hg]; exact (below_size (by repeat (first | (with_reducible first | exact HBW.out | apply below_alloc | apply pw_below_drewN | apply below_drew1) | exact HBW.out))) : w.heap.size ≤ gb227)); have GE227 := Aside0.mk ((Nat.le_trans HW0.out (by rw [hg]; exact (below_size (by repeat (first | (with_reducible first | exact HBW.out | apply below_alloc | apply pw_below_drewN | apply below_drew1) | exact HBW.out))) : w.heap.size ≤ gb227) : w0.heap.size ≤ gb227)); replace HBW := Aside0.mk (below_step HBW.out hb); replace HB := Aside0.mk (below_step bl_ hb); clear hb hbox hg))
   go_ret
   exact ⟨_, rfl, (show IsS58 w0 _ gb227 (l0.take 1000) 0 0 from ⟨_, _, bk_, GE227.out, HR226.out⟩), bl_, by repeat (first | (with_reducible first | exact HBW.out | apply below_alloc | apply pw_below_drewN | apply below_drew1 | refine below_set ?_ GW227.out) | exact HBW.out)⟩
  ·rw [if_neg c3] at H
   exact absurd H (by simp)
 ·rw [if_neg c2] at H
  have c2b0 : decide (1000 < (l0.length : Int)) = false := decide_eq_false c2
  have c2b1 : decide (1000 < l0.length) = false := decide_eq_false (by omega)
  clear c2
  simp only [Option.some.injEq, Prod.mk.injEq] at H
  obtain ⟨rfl, rfl, rfl⟩ := H
  go_enter Tryd.func15, Tryd.ntmps15
  go_wp2_with (first | ((with_reducible refine gate_dst (N := 10) rfl ?_); refine box_event ?hg (N := 10) ?hd (cs := #[.slice A0 l0.length c0, .int .i64 0, .int .i64 0]) (t := 58) ?hr ?_; (case hd => rfl); (case hg => rfl); (case hr => first | (go_simp; done) | (go_simp; rfl)); intro gb228 hg w6 hbox hb; have BK228 := Aside0.mk (hbox); have GW228 := Aside0.mk ((by rw [hg]; exact (below_size (by repeat (first | (with_reducible first | exact HBW.out | apply below_alloc | apply pw_below_drewN | apply below_drew1) | exact HBW.out))) : w.heap.size ≤ gb228)); have GE228 := Aside0.mk ((Nat.le_trans HW0.out (by rw [hg]; exact (below_size (by repeat (first | (with_reducible first | exact HBW.out | apply below_alloc | apply pw_below_drewN | apply below_drew1) | exact HBW.out))) : w.heap.size ≤ gb228) : w0.heap.size ≤ gb228)); replace HBW := Aside0.mk (below_step HBW.out hb); replace HB := Aside0.mk (below_step bl_ hb); clear hb hbox hg))
  go_ret
  exact ⟨_, rfl, (show IsS58 w0 _ gb228 l0 0 0 from ⟨_, _, bk_, GE228.out, HR0.out⟩), bl_, by repeat (first | (with_reducible first | exact HBW.out | apply below_alloc | apply pw_below_drewN | apply below_drew1 | refine below_set ?_ GW228.out) | exact HBW.out)⟩

end Go.Proofs.YtopbjginpmdebaaDoor.K
namespace Go.Proofs.YtopbjginpmdebaaDoor.K
open Go.RowKit Go.Proofs.YtopbjginpmdebaaDoorW.PrintWords Go.Proofs.YtopbjginpmdebaaDoorW.PrintLast Go.Proofs.YtopbjginpmdebaaDoorW.PrintMore
attribute [local go_sem] max2_int min2_int max_two min_two max_three min_three max_four min_four   -- for this text's walks alone
set_option linter.unusedVariables false
set_option linter.unusedSimpArgs false

/-! ### exactpplmake_Src_Raw: function 54 -/
def exactpplmake_Src_Raw.f (s0_0 : List Int) (s0_1 : Int) (s0_2 : Int) : Option (Int × Int × Int) := if s0_1 ≥ (s0_0.length : Int) then (some (0, s0_1, s0_2)) else (if 0 ≤ (wrap64 ((wrap64 (s0_1 + 1)) - 1)) then (if (wrap64 ((wrap64 (s0_1 + 1)) - 1)) < (s0_0.length : Int) then (some (rd s0_0 (wrap64 ((wrap64 (s0_1 + 1)) - 1)), wrap64 (s0_1 + 1), s0_2)) else (none)) else (none))
set_option maxHeartbeats 8000000 in
set_option maxRecDepth 100000 in
theorem exactpplmake_Src_Raw.calls (g : Nat) (s0_0 : List Int) (s0_1 : Int) (s0_2 : Int) (r1 : Int) (r2 : Int) (r3 : Int) (w0 w : World) (hI : IsS58 w0 w g s0_0 s0_1 s0_2) (hB : Below w0.heap.size w0 w) (h : exactpplmake_Src_Raw.f s0_0 s0_1 s0_2 = some (r1, r2, r3)) :
  Calls Tryd.prog 54 #[.pointer (some ⟨g, 0, none⟩)] w fun e w' => e = .returned (.int .i64 r1) ∧ IsS58 w0 w' g s0_0 r2 r3 ∧ Below w0.heap.size w0 w' ∧ KeepBut w w' g none := by
 have HI0 := Aside0.mk hI
 have HK := Aside0.mk (KeepBut.refl w g none)
 have HL := Aside0.mk hB.size
 clear hI
 have HW0 := Aside0.mk hB.size
 have HB := Aside0.mk hB
 clear hB
 have H : (if s0_1 ≥ (s0_0.length : Int) then (some (0, s0_1, s0_2)) else (if 0 ≤ (wrap64 ((wrap64 (s0_1 + 1)) - 1)) then (if (wrap64 ((wrap64 (s0_1 + 1)) - 1)) < (s0_0.length : Int) then (some (rd s0_0 (wrap64 ((wrap64 (s0_1 + 1)) - 1)), wrap64 (s0_1 + 1), s0_2)) else (none)) else (none))) = some (r1, r2, r3) := h
 clear h
 by_cases c2 : s0_1 ≥ (s0_0.length : Int)
 ·rw [if_pos c2] at H
  have c2b0 : decide ((s0_0.length : Int) ≤ s0_1) = true := decide_eq_true c2
  clear c2
  simp only [Option.some.injEq, Prod.mk.injEq] at H
  obtain ⟨rfl, rfl, rfl⟩ := H
  obtain ⟨ASz3_0, cSz3_0, HGz3, hgz3, HSz3_0⟩ := HI0.out
  have hcz3_0 := cellS58_0 HGz3
  have hcz3_1 := cellS58_1 HGz3
  have hcz3_2 := cellS58_2 HGz3
  have hfz3_1 := blk_frozen HGz3 1
  have hfz3_2 := blk_frozen HGz3 2
  clear HGz3 hgz3
  go_enter Tryd.func54, Tryd.ntmps54
  go_wp2
  repeat (go_quiet (fail); try go_wp2)
  go_ret
  exact ⟨re_, si_, bl_, by repeat (first | (with_reducible first | exact HK.out | apply KeepBut.set_ | apply keep_drewN | apply keep_drew | apply keep_alloc) | exact HK.out)⟩
 ·rw [if_neg c2] at H
  have c2b0 : decide ((s0_0.length : Int) ≤ s0_1) = false := decide_eq_false c2
  clear c2
  obtain ⟨ji4, hji4⟩ : ∃ j_ : Int, (wrap64 ((wrap64 (s0_1 + 1)) - 1)) = j_ := ⟨_, rfl⟩
  replace H : (if 0 ≤ (ji4) then (if (ji4) < (s0_0.length : Int) then (some (rd s0_0 (ji4), wrap64 (s0_1 + 1), s0_2)) else (none)) else (none)) = some (r1, r2, r3) := by first | (rw [hji4] at H; exact H) | (simp only [hji4] at H ⊢; exact H)
  have hji4w : (IntKind.i64.wrap ((wrap64 (s0_1 + 1)) - 1)) = ji4 := (i64_w _).trans hji4
  by_cases c5 : 0 ≤ (ji4)
  ·rw [if_pos c5] at H
   have c5b0 : decide (0 ≤ (ji4)) = true := decide_eq_true c5
   clear c5
   by_cases c6 : (ji4) < (s0_0.length : Int)
   ·rw [if_pos c6] at H
    have c6b0 : decide ((ji4) < (s0_0.length : Int)) = true := decide_eq_true c6
    clear c6
    simp only [Option.some.injEq, Prod.mk.injEq] at H
    obtain ⟨rfl, rfl, rfl⟩ := H
    obtain ⟨ASz7_0, cSz7_0, HGz7, hgz7, HSz7_0⟩ := HI0.out
    have hcz7_0 := cellS58_0 HGz7
    have hcz7_1 := cellS58_1 HGz7
    have hcz7_2 := cellS58_2 HGz7
    have hfz7_1 := blk_frozen HGz7 1
    have hfz7_2 := blk_frozen HGz7 2
    clear HGz7 hgz7
    have p229 : 0 ≤ ((ji4) : Int) := dt_
    have q229 : (ji4) < (s0_0.length : Int) := dt_
    obtain ⟨ad229, e229, hx229_0⟩ := Kd.at_int HSz7_0 (ji4) p229 q229
    cases e229
    have hn229_0 : ad229.block ≠ g := Nat.ne_of_lt (Nat.lt_of_lt_of_le (by have := World.block_lt_of_cell? _ _ hx229_0; first | rwa [add_block] at this | exact this) (IsS58.ge HI0.out))
    replace hx229_0 := pw_cell_below HB.out hx229_0
    replace hx229_0 := (cell_far (p := ⟨g, 1, none⟩) (by first | (rw [add_block]; exact hn229_0) | (show (Addr.add _ _).block ≠ _; rw [add_block]; exact hn229_0) | exact hn229_0) (.int .i64 (wrap64 (s0_1 + 1)))).trans hx229_0
    (try have hy229_0 := fun (n_ : Nat) => (show (((w.drewN n_).setCell ⟨g, 1, none⟩ (.int .i64 (wrap64 (s0_1 + 1))))).cell? _ = some _ from hx229_0))
    clear hn229_0
    replace p229 := eq_true p229
    replace q229 := eq_true q229
    go_enter Tryd.func54, Tryd.ntmps54
    go_wp2
    repeat (go_quiet (fail); try go_wp2)
    all_goals go_ret
    all_goals exact ⟨by first | rfl | (simp [errW_none, errW_some] <;> rfl) | (simp only [← hji4]; first | rfl | (simp [errW_none, errW_some] <;> rfl)) | (simp; rw [← hji4]; (first | unfold mn | unfold mx); split <;> omega) | (simp; (first | unfold mn at hji4 | unfold mx at hji4); split at hji4 <;> omega) | (simp [*, errW_none, errW_some] <;> rfl), si_, bl_, by repeat (first | (with_reducible first | exact HK.out | apply KeepBut.set_ | apply keep_drewN | apply keep_drew | apply keep_alloc) | exact HK.out)⟩
   ·rw [if_neg c6] at H
    exact absurd H (by simp)
  ·rw [if_neg c5] at H
   exact absurd H (by simp)

end Go.Proofs.YtopbjginpmdebaaDoor.K
namespace Go.Proofs.YtopbjginpmdebaaDoor.K
open Go.RowKit Go.Proofs.YtopbjginpmdebaaDoorW.PrintWords Go.Proofs.YtopbjginpmdebaaDoorW.PrintLast Go.Proofs.YtopbjginpmdebaaDoorW.PrintMore
attribute [local go_sem] max2_int min2_int max_two min_two max_three min_three max_four min_four   -- for this text's walks alone
set_option linter.unusedVariables false
set_option linter.unusedSimpArgs false

/-! ### exactpplmake_Src_N: function 23 -/
def exactpplmake_Src_N.f (s0_0 : List Int) (s0_1 : Int) (s0_2 : Int) (a1 : Int) : Option (Int × Int × Int) := if a1 < 1 then (some (0, s0_1, s0_2)) else ((exactpplmake_Src_Raw.f s0_0 s0_1 s0_2).bind fun bt230 => (if a1 = 0 then (none) else (if (Int.tmod bt230.1 a1) < 0 then (some (wrap64 ((Int.tmod bt230.1 a1) + a1), bt230.2.1, bt230.2.2)) else (some (Int.tmod bt230.1 a1, bt230.2.1, bt230.2.2)))))
set_option maxHeartbeats 8000000 in
set_option maxRecDepth 100000 in
theorem exactpplmake_Src_N.calls (g : Nat) (s0_0 : List Int) (s0_1 : Int) (s0_2 : Int) (a1 : Int) (r1 : Int) (r2 : Int) (r3 : Int) (w0 w : World) (hI : IsS58 w0 w g s0_0 s0_1 s0_2) (hB : Below w0.heap.size w0 w) (h : exactpplmake_Src_N.f s0_0 s0_1 s0_2 a1 = some (r1, r2, r3)) :
  Calls Tryd.prog 23 #[.pointer (some ⟨g, 0, none⟩), .int .i64 a1] w fun e w' => e = .returned (.int .i64 r1) ∧ IsS58 w0 w' g s0_0 r2 r3 ∧ Below w0.heap.size w0 w' ∧ KeepBut w w' g none := by
 have HI0 := Aside0.mk hI
 have HK := Aside0.mk (KeepBut.refl w g none)
 have HL := Aside0.mk hB.size
 clear hI
 have HW0 := Aside0.mk hB.size
 have HB := Aside0.mk hB
 clear hB
 have H : (if a1 < 1 then (some (0, s0_1, s0_2)) else ((exactpplmake_Src_Raw.f s0_0 s0_1 s0_2).bind fun bt230 => (if a1 = 0 then (none) else (if (Int.tmod bt230.1 a1) < 0 then (some (wrap64 ((Int.tmod bt230.1 a1) + a1), bt230.2.1, bt230.2.2)) else (some (Int.tmod bt230.1 a1, bt230.2.1, bt230.2.2)))))) = some (r1, r2, r3) := h
 clear h
 by_cases c3 : a1 < 1
 ·rw [if_pos c3] at H
  have c3b0 : decide (a1 < 1) = true := decide_eq_true c3
  clear c3
  simp only [Option.some.injEq, Prod.mk.injEq] at H
  obtain ⟨rfl, rfl, rfl⟩ := H
  go_enter Tryd.func23, Tryd.ntmps23
  go_wp2
  go_ret
  exact ⟨re_, si_, bl_, by repeat (first | (with_reducible first | exact HK.out | apply KeepBut.set_ | apply keep_drewN | apply keep_drew | apply keep_alloc) | exact HK.out)⟩
 ·rw [if_neg c3] at H
  have c3b0 : decide (a1 < 1) = false := decide_eq_false c3
  clear c3
  replace H := Option.bind_eq_some_iff.mp H
  obtain ⟨⟨t230, t231, t232⟩, A40, H⟩ := H
  replace H : (if a1 = 0 then (none) else (if (Int.tmod t230 a1) < 0 then (some (wrap64 ((Int.tmod t230 a1) + a1), t231, t232)) else (some (Int.tmod t230 a1, t231, t232)))) = some (r1, r2, r3) := H
  have A4 := Aside0.mk A40
  clear A40
  by_cases c5 : a1 = 0
  ·rw [if_pos c5] at H
   exact absurd H (by simp)
  ·rw [if_neg c5] at H
   have c5b0 : (a1 == 0) = false := beq_eq_false_iff_ne.mpr c5
   have c5b1 : (a1 != 0) = true := bne_iff_ne.mpr c5
   by_cases c6 : (Int.tmod t230 a1) < 0
   ·rw [if_pos c6] at H
    have c6b0 : decide ((Int.tmod t230 a1) < 0) = true := decide_eq_true c6
    clear c6
    simp only [Option.some.injEq, Prod.mk.injEq] at H
    obtain ⟨rfl, rfl, rfl⟩ := H
    go_enter Tryd.func23, Tryd.ntmps23
    go_wp2_with (first | ((with_reducible refine gate_callee (f := 54) rfl ?_); refine goesL_ (some 9) rfl rfl Tryd.func54 (by kernel_rfl) rfl #[.pointer (some ⟨g, 0, none⟩)] rfl (by (try simp only [List.map_toArray, List.map_cons, List.map_nil]); first | done | rfl | (simp only [List.length_drop, List.length_take]; rfl)) ?_; (with_reducible refine (exactpplmake_Src_Raw.calls g s0_0 s0_1 s0_2 t230 t231 t232 w0 _ ?side1 ?side2 A4.out).mono ?_); (case side1 => repeat (first | (with_reducible first | exact HI0.out | apply IsS58.alloc | apply IsS58.drewN | apply IsS58.drew | apply IsS58.set_1 | apply IsS58.set_2) | exact HI0.out)); (case side2 => repeat (first | (with_reducible first | exact HB.out | apply below_alloc | apply pw_below_drewN | apply below_drew1 | refine below_set ?_ (IsS58.ge HI0.out)) | exact HB.out)); rintro e w7 ⟨rfl, hi, hb, hk⟩; refine ⟨_, rfl, ?_⟩; replace HK := Aside0.mk (KeepBut.trans (by repeat (first | (with_reducible first | exact HK.out | apply KeepBut.set_ | apply keep_drewN | apply keep_drew | apply keep_alloc) | exact HK.out)) hk (.inl rfl)); replace HB := Aside0.mk (hb); replace HI0 := Aside0.mk (hi); (try clear hb); (try clear hb2); (try clear hk); (try clear hi)))
    go_ret
    exact ⟨re_, si_, bl_, by repeat (first | (with_reducible first | exact HK.out | apply KeepBut.set_ | apply keep_drewN | apply keep_drew | apply keep_alloc) | exact HK.out)⟩
   ·rw [if_neg c6] at H
    have c6b0 : decide ((Int.tmod t230 a1) < 0) = false := decide_eq_false c6
    clear c6
    simp only [Option.some.injEq, Prod.mk.injEq] at H
    obtain ⟨rfl, rfl, rfl⟩ := H
    go_enter Tryd.func23, Tryd.ntmps23
    go_wp2_with (first | ((with_reducible refine gate_callee (f := 54) rfl ?_); refine goesL_ (some 9) rfl rfl Tryd.func54 (by kernel_rfl) rfl #[.pointer (some ⟨g, 0, none⟩)] rfl (by (try simp only [List.map_toArray, List.map_cons, List.map_nil]); first | done | rfl | (simp only [List.length_drop, List.length_take]; rfl)) ?_; (with_reducible refine (exactpplmake_Src_Raw.calls g s0_0 s0_1 s0_2 t230 t231 t232 w0 _ ?side1 ?side2 A4.out).mono ?_); (case side1 => repeat (first | (with_reducible first | exact HI0.out | apply IsS58.alloc | apply IsS58.drewN | apply IsS58.drew | apply IsS58.set_1 | apply IsS58.set_2) | exact HI0.out)); (case side2 => repeat (first | (with_reducible first | exact HB.out | apply below_alloc | apply pw_below_drewN | apply below_drew1 | refine below_set ?_ (IsS58.ge HI0.out)) | exact HB.out)); rintro e w8 ⟨rfl, hi, hb, hk⟩; refine ⟨_, rfl, ?_⟩; replace HK := Aside0.mk (KeepBut.trans (by repeat (first | (with_reducible first | exact HK.out | apply KeepBut.set_ | apply keep_drewN | apply keep_drew | apply keep_alloc) | exact HK.out)) hk (.inl rfl)); replace HB := Aside0.mk (hb); replace HI0 := Aside0.mk (hi); (try clear hb); (try clear hb2); (try clear hk); (try clear hi)))
    go_ret
    exact ⟨re_, si_, bl_, by repeat (first | (with_reducible first | exact HK.out | apply KeepBut.set_ | apply keep_drewN | apply keep_drew | apply keep_alloc) | exact HK.out)⟩

end Go.Proofs.YtopbjginpmdebaaDoor.K
namespace Go.Proofs.YtopbjginpmdebaaDoor.K
open Go.RowKit Go.Proofs.YtopbjginpmdebaaDoorW.PrintWords Go.Proofs.YtopbjginpmdebaaDoorW.PrintLast Go.Proofs.YtopbjginpmdebaaDoorW.PrintMore
attribute [local go_sem] max2_int min2_int max_two min_two max_three min_three max_four min_four   -- for this text's walks alone
set_option linter.unusedVariables false
set_option linter.unusedSimpArgs false

/-! ### exactpplmake_Src_Range: function 25 -/
def exactpplmake_Src_Range.f (s0_0 : List Int) (s0_1 : Int) (s0_2 : Int) (a1 : Int) (a2 : Int) : Option (Int × Int × Int) := (exactpplmake_Src_N.f s0_0 s0_1 s0_2 (wrap64 ((wrap64 (a2 - a1)) + 1))).bind fun bt233 => (some (wrap64 (a1 + bt233.1), bt233.2.1, bt233.2.2))
set_option maxHeartbeats 8000000 in
set_option maxRecDepth 100000 in
theorem exactpplmake_Src_Range.calls (g : Nat) (s0_0 : List Int) (s0_1 : Int) (s0_2 : Int) (a1 : Int) (a2 : Int) (r1 : Int) (r2 : Int) (r3 : Int) (w0 w : World) (hI : IsS58 w0 w g s0_0 s0_1 s0_2) (hB : Below w0.heap.size w0 w) (h : exactpplmake_Src_Range.f s0_0 s0_1 s0_2 a1 a2 = some (r1, r2, r3)) :
  Calls Tryd.prog 25 #[.pointer (some ⟨g, 0, none⟩), .int .i64 a1, .int .i64 a2] w fun e w' => e = .returned (.int .i64 r1) ∧ IsS58 w0 w' g s0_0 r2 r3 ∧ Below w0.heap.size w0 w' ∧ KeepBut w w' g none := by
 have HI0 := Aside0.mk hI
 have HK := Aside0.mk (KeepBut.refl w g none)
 have HL := Aside0.mk hB.size
 clear hI
 have HW0 := Aside0.mk hB.size
 have HB := Aside0.mk hB
 clear hB
 have H : ((exactpplmake_Src_N.f s0_0 s0_1 s0_2 (wrap64 ((wrap64 (a2 - a1)) + 1))).bind fun bt233 => (some (wrap64 (a1 + bt233.1), bt233.2.1, bt233.2.2))) = some (r1, r2, r3) := h
 clear h
 replace H := Option.bind_eq_some_iff.mp H
 obtain ⟨⟨t233, t234, t235⟩, A40, H⟩ := H
 replace H : (some (wrap64 (a1 + t233), t234, t235)) = some (r1, r2, r3) := H
 have A4 := Aside0.mk A40
 clear A40
 simp only [Option.some.injEq, Prod.mk.injEq] at H
 obtain ⟨rfl, rfl, rfl⟩ := H
 go_enter Tryd.func25, Tryd.ntmps25
 go_wp2_with (first | ((with_reducible refine gate_callee (f := 23) rfl ?_); refine goesL_ (some 13) rfl rfl Tryd.func23 (by kernel_rfl) rfl #[.pointer (some ⟨g, 0, none⟩), .int .i64 (wrap64 ((wrap64 (a2 - a1)) + 1))] rfl (by (try simp only [List.map_toArray, List.map_cons, List.map_nil]); first | done | rfl | (simp only [List.length_drop, List.length_take]; rfl)) ?_; (with_reducible refine (exactpplmake_Src_N.calls g s0_0 s0_1 s0_2 (wrap64 ((wrap64 (a2 - a1)) + 1)) t233 t234 t235 w0 _ ?side1 ?side2 A4.out).mono ?_); (case side1 => repeat (first | (with_reducible first | exact HI0.out | apply IsS58.alloc | apply IsS58.drewN | apply IsS58.drew | apply IsS58.set_1 | apply IsS58.set_2) | exact HI0.out)); (case side2 => repeat (first | (with_reducible first | exact HB.out | apply below_alloc | apply pw_below_drewN | apply below_drew1 | refine below_set ?_ (IsS58.ge HI0.out)) | exact HB.out)); rintro e w5 ⟨rfl, hi, hb, hk⟩; refine ⟨_, rfl, ?_⟩; replace HK := Aside0.mk (KeepBut.trans (by repeat (first | (with_reducible first | exact HK.out | apply KeepBut.set_ | apply keep_drewN | apply keep_drew | apply keep_alloc) | exact HK.out)) hk (.inl rfl)); replace HB := Aside0.mk (hb); replace HI0 := Aside0.mk (hi); (try clear hb); (try clear hb2); (try clear hk); (try clear hi)))
 go_ret
 exact ⟨re_, si_, bl_, by repeat (first | (with_reducible first | exact HK.out | apply KeepBut.set_ | apply keep_drewN | apply keep_drew | apply keep_alloc) | exact HK.out)⟩

end Go.Proofs.YtopbjginpmdebaaDoor.K
namespace Go.Proofs.YtopbjginpmdebaaDoor.K
open Go.RowKit Go.Proofs.YtopbjginpmdebaaDoorW.PrintWords Go.Proofs.YtopbjginpmdebaaDoorW.PrintLast Go.Proofs.YtopbjginpmdebaaDoorW.PrintMore
attribute [local go_sem] max2_int min2_int max_two min_two max_three min_three max_four min_four   -- for this text's walks alone
set_option linter.unusedVariables false
set_option linter.unusedSimpArgs false

/-! ### exactpplmake_Width: function 42 -/
def exactpplmake_Width.f (a0 : Int) : Option (Int) := some (wrap64 (2 + (Int.tmod a0 2)))
set_option maxHeartbeats 8000000 in
set_option maxRecDepth 100000 in
theorem exactpplmake_Width.calls (a0 : Int) (r : Int) (w : World) (h : exactpplmake_Width.f a0 = some r) :
    Calls Tryd.prog 42 #[.int .i64 a0] w fun e w' => e = .returned (.int .i64 r) ∧ Drawn0 w w' := by
  have H : (some (wrap64 (2 + (Int.tmod a0 2)))) = some r := h
  clear h
  obtain rfl := Option.some.inj H
  go_enter Tryd.func42, Tryd.ntmps42
  go_wp2
  go_ret
  exact ⟨by first | rfl | (simp; done) | (simp [*]; done), by repeat (first | exact Drawn0.refl _ | apply Drawn0.step)⟩

end Go.Proofs.YtopbjginpmdebaaDoor.K
namespace Go.Proofs.YtopbjginpmdebaaDoor.K
open Go.RowKit Go.Proofs.YtopbjginpmdebaaDoorW.PrintWords Go.Proofs.YtopbjginpmdebaaDoorW.PrintLast Go.Proofs.YtopbjginpmdebaaDoorW.PrintMore
attribute [local go_sem] max2_int min2_int max_two min_two max_three min_three max_four min_four   -- for this text's walks alone
set_option linter.unusedVariables false
set_option linter.unusedSimpArgs false

/-! ### exactpplref19_Const: function 33 -/
def exactpplref19_Const.f (a0 : Int) : Option ((List (S60))) := some (([(⟨(-1), a0, ([] : List Int)⟩ : S60)] : List (S60)))
set_option maxHeartbeats 8000000 in
set_option maxRecDepth 100000 in
theorem exactpplref19_Const.calls (a0 : Int) (r : List (S60)) (w : World) (h : exactpplref19_Const.f a0 = some r) :
  Calls Tryd.prog 33 #[.int .i64 a0] w fun e w' => ∃ v0_ : Value, e = .returned (.agg #[v0_]) ∧ Kd.S k60 60 w' w.heap.size (fun _ => True) v0_ r ∧ Below w.heap.size w w' := by
 have hu31 := Tryd.underlying31
 have hu60 := Tryd.underlying60
 have HB := Aside0.mk (Below.refl w.heap.size w)
 have H : (some (([(⟨(-1), a0, ([] : List Int)⟩ : S60)] : List (S60)))) = some r := h
 clear h
 obtain ⟨y332, hy332⟩ : ∃ y_ : List (S60), y_ = (([(⟨(-1), a0, ([] : List Int)⟩ : S60)] : List (S60))) := ⟨_, rfl⟩
 replace H : (some y332) = some r := by first | (rw [hy332]; with_reducible exact H) | (have H2_ := (Option.bind_some _ _).symm.trans H; rw [hy332]; with_reducible exact H2_) | (have H2_ := (Option.bind_some _ _).symm.trans H; with_reducible exact H2_) | with_reducible exact H | (rw [hy332]; exact H) | exact H
 have Ny332 := Aside0.mk hy332
 clear hy332
 obtain rfl := Option.some.inj H
 go_enter Tryd.func33, Tryd.ntmps33
 go_wp2_with (first | ((with_reducible refine gate_dst (N := 2) rfl ?_); refine box_event ?hg (N := 2) ?hd (cs := #[.slice none 0 0]) (t := 31) ?hr ?_; (case hd => rfl); (case hg => rfl); (case hr => first | (go_simp; done) | (go_simp; rfl)); intro gb331 hg w2 hbox hb; have BK331 := Aside0.mk (hbox); have GW331 : Aside0 (w.heap.size ≤ gb331) := gw_ hg (below_size bl_); have GE331 := GW331; replace HB := Aside0.mk (below_step bl_ hb); clear hb hbox hg) | ((with_reducible refine gate_dst (N := 5) rfl ?_); refine Kd.S_lit k60 _ 60 ?hg (N := 5) ?hd (xs := ([(⟨(-1), a0, ([] : List Int)⟩ : S60)] : List (S60))) (inner := [.int .i64 (-1), .int .i64 a0, .slice none 0 0]) (ok := fun _ => True) (okp := fun _ => True) ?hr ?hp (fun _ hk => hk) trivial (Below.refl _ _) (Nat.le_refl _) (by simp) ?_; (case hd => rfl); (case hg => rfl); (case hr => first | (go_simp; done) | (go_simp; rfl)); (case hp => exact (Reps.c3 (show Kd.M k60 _ _ _ (⟨(-1), a0, ([] : List Int)⟩ : S60) [.int .i64 (-1), .int .i64 a0, .slice none 0 0] from (k60_mkM _ _ _ (⟨(-1), a0, ([] : List Int)⟩ : S60) (Kd.R_nil _ _ _ _ _))) (Reps.none _ _))); intro v333 w3 ho4 hb hg_ hnew_; clear hg_ hnew_; (first | rw [← Ny332.out] at ho4 | (simp only [Int.reduceToNat] at ho4; rw [← Ny332.out] at ho4)); have HO334 := Aside0.mk (Kd.S_lower ho4 (below_size bl_)); replace BK331 := Aside0.mk (blk_below (g := gb331) (o := .cells #[.slice none 0 0] 31 (0, 0)) bk_ hb); replace HB := Aside0.mk (below_step bl_ hb); clear hb ho4; obtain ⟨Ao5, co5, eo5⟩ := Kd.S_slice HO334.out; subst eo5; obtain ⟨hcz6_0, hfz6_0⟩ := cf1_ BK331.out))
 refine bodyPost_ret (results_cell_row rfl _ _ gb331 31 #[.slice Ao5 y332.length co5] (0, 0) _ rfl (by (with_reducible repeat (first | refine blk_drewN ?_ _ | refine blk_drew ?_ | refine blk_alloc ?_ _)); refine blk_put (cs := #[.slice none 0 0]) ?_ 0 _ rfl; (with_reducible repeat (first | refine blk_drewN ?_ _ | refine blk_drew ?_ | refine blk_alloc ?_ _)); exact BK331.out) Tryd.underlying31 rfl (by kernel_rfl)) rfl ?_
 exact ⟨_, re_, by (with_reducible repeat (first | apply Kd.S_alloc | apply Kd.S_drewN | apply Kd.S_drew)); exact Kd.S_mono (Kd.S_far (p := ⟨gb331, 0, none⟩) (Kd.S_types HO334.out BK331.out (by decide)) (fun _ hk => hk.2) (.slice Ao5 y332.length co5)) (fun _ hk => trivial), bl_⟩

end Go.Proofs.YtopbjginpmdebaaDoor.K
namespace Go.Proofs.YtopbjginpmdebaaDoor.K
open Go.RowKit Go.Proofs.YtopbjginpmdebaaDoorW.PrintWords Go.Proofs.YtopbjginpmdebaaDoorW.PrintLast Go.Proofs.YtopbjginpmdebaaDoorW.PrintMore
attribute [local go_sem] max2_int min2_int max_two min_two max_three min_three max_four min_four   -- for this text's walks alone
set_option linter.unusedVariables false
set_option linter.unusedSimpArgs false

/-! ### exactpplref19_IsBranch: function 55 -/
def exactpplref19_IsBranch.f (a0_0 : Int) (a0_1 : Int) (l0_2 : List Int) : Option (Bool) := some (a0_0 != (-1))
set_option maxHeartbeats 8000000 in
set_option maxRecDepth 100000 in
theorem exactpplref19_IsBranch.calls (a0_0 : Int) (a0_1 : Int) (A0_2 : Option Addr) (c0_2 : Nat) (l0_2 : List Int) (r : Bool) (w : World) (hr0_2 : Kd.C (Kd.int .i64) w A0_2 l0_2.length l0_2) (hc0_2 : l0_2.length ≤ c0_2) (h : exactpplref19_IsBranch.f a0_0 a0_1 l0_2 = some r) :
  Calls Tryd.prog 55 #[.agg #[.int .i64 a0_0, .int .i64 a0_1, .slice A0_2 l0_2.length c0_2]] w fun e w' => e = .returned (.bool r) ∧ Below w.heap.size w w' := by
 have hu60 := Tryd.underlying60
 have HR0_2 := Aside0.mk hr0_2
 have HC0_2 := Aside0.mk hc0_2
 clear hr0_2 hc0_2
 have HB := Aside0.mk (Below.refl w.heap.size w)
 have H : (some (a0_0 != (-1))) = some r := h
 clear h
 obtain rfl := Option.some.inj H
 go_enter Tryd.func55, Tryd.ntmps55
 go_wp2_with (first | ((with_reducible refine gate_dst (N := 1) rfl ?_); refine box_event ?hg (N := 1) ?hd (cs := #[.int .i64 a0_0, .int .i64 a0_1, .slice A0_2 l0_2.length c0_2]) (t := 60) ?hr ?_; (case hd => rfl); (case hg => rfl); (case hr => first | (go_simp; done) | (go_simp; rfl)); intro gb144 hg w2 hbox hb; have BK144 := Aside0.mk (hbox); have GW144 : Aside0 (w.heap.size ≤ gb144) := gw_ hg (below_size bl_); have GE144 := GW144; replace HB := Aside0.mk (below_step bl_ hb); clear hb hbox hg; obtain ⟨hcz3_0, hcz3_1, hcz3_2, hfz3_0, hfz3_1, hfz3_2⟩ := cf3_ BK144.out))
 go_ret
 exact ⟨re_, bl_⟩

end Go.Proofs.YtopbjginpmdebaaDoor.K
namespace Go.Proofs.YtopbjginpmdebaaDoor.K
open Go.RowKit Go.Proofs.YtopbjginpmdebaaDoorW.PrintWords Go.Proofs.YtopbjginpmdebaaDoorW.PrintLast Go.Proofs.YtopbjginpmdebaaDoorW.PrintMore
attribute [local go_sem] max2_int min2_int max_two min_two max_three min_three max_four min_four   -- for this text's walks alone
set_option linter.unusedVariables false
set_option linter.unusedSimpArgs false

/-! ### exactpplref19_sound: function 77 -/
mutual
def exactpplref19_sound.j0 : Nat → List (S60) → Int → Bool → Int → Int → List Int → Option (Bool)
 | 0, _, _, _, _, _, _ => none
 | k + 1, x0, x1, x54, x147000, x147001, x147002 => if x54 = true then (some false) else (exactpplref19_sound.l0 k x0 x1 0 x147000 x147001 x147002)
def exactpplref19_sound.l0 : Nat → List (S60) → Int → Int → Int → Int → List Int → Option (Bool)
 | 0, _, _, _, _, _, _ => none
 | k + 1, x0, x1, x6, x147000, x147001, x147002 => if x6 < (x147002.length : Int) then (if 0 ≤ x6 then (if (rd x147002 x6) < 0 then (some false) else (if (rd x147002 x6) ≥ x1 then (some false) else (if 0 ≤ (rd x147002 x6) then (if (rd x147002 x6) < (x0.length : Int) then ((exactpplref19_IsBranch.f ((rd_T60 x0 (rd x147002 x6)).f0) ((rd_T60 x0 (rd x147002 x6)).f1) ((rd_T60 x0 (rd x147002 x6)).f2)).bind fun t150 => (if t150 = true then (if ((rd_T60 x0 (rd x147002 x6)).f0) ≤ x147000 then (some false) else (exactpplref19_sound.l0 k x0 x1 (wrap64 (x6 + 1)) x147000 x147001 x147002)) else (exactpplref19_sound.l0 k x0 x1 (wrap64 (x6 + 1)) x147000 x147001 x147002))) else (none)) else (none)))) else (none)) else (exactpplref19_sound.l1 k x0 x1 0 x147000 x147001 x147002)
def exactpplref19_sound.l1 : Nat → List (S60) → Int → Int → Int → Int → List Int → Option (Bool)
 | 0, _, _, _, _, _, _ => none
 | k + 1, x0, x1, x8, x147000, x147001, x147002 => if x8 < x1 then (if 0 ≤ x8 then (if x8 < (x0.length : Int) then (if ((rd_T60 x0 x8).f0) = x147000 then (if (((rd_T60 x0 x8).f2).length : Int) = (x147002.length : Int) then (exactpplref19_sound.l1 k x0 x1 (wrap64 (x8 + 1)) x147000 x147001 x147002) else (some false)) else (exactpplref19_sound.l1 k x0 x1 (wrap64 (x8 + 1)) x147000 x147001 x147002)) else (none)) else (none)) else (some true)
end
def exactpplref19_sound.f (k : Nat) (l0 : List (S60)) (a1 : Int) : Option (Bool) := if 0 ≤ a1 then (if a1 < (l0.length : Int) then ((exactpplref19_IsBranch.f ((rd_T60 l0 a1).f0) ((rd_T60 l0 a1).f1) ((rd_T60 l0 a1).f2)).bind fun t147 => (if t147 = true then (if ((rd_T60 l0 a1).f0) < 0 then (exactpplref19_sound.j0 k l0 a1 true ((rd_T60 l0 a1).f0) ((rd_T60 l0 a1).f1) ((rd_T60 l0 a1).f2)) else (if ((rd_T60 l0 a1).f0) ≥ 64 then (exactpplref19_sound.j0 k l0 a1 true ((rd_T60 l0 a1).f0) ((rd_T60 l0 a1).f1) ((rd_T60 l0 a1).f2)) else (if ((rd_T60 l0 a1).f1) = 0 then (if (((rd_T60 l0 a1).f2).length : Int) < 1 then (exactpplref19_sound.j0 k l0 a1 true ((rd_T60 l0 a1).f0) ((rd_T60 l0 a1).f1) ((rd_T60 l0 a1).f2)) else (exactpplref19_sound.j0 k l0 a1 (decide ((((rd_T60 l0 a1).f2).length : Int) > 16)) ((rd_T60 l0 a1).f0) ((rd_T60 l0 a1).f1) ((rd_T60 l0 a1).f2))) else (exactpplref19_sound.j0 k l0 a1 true ((rd_T60 l0 a1).f0) ((rd_T60 l0 a1).f1) ((rd_T60 l0 a1).f2))))) else (if (((rd_T60 l0 a1).f2).length : Int) = 0 then (if ((rd_T60 l0 a1).f1) ≥ (-1073741824) then (some (decide (((rd_T60 l0 a1).f1) ≤ 1073741824))) else (some false)) else (some false)))) else (none)) else (none)
theorem exactpplref19_sound.mono_l : ∀ k, (∀ y0 y1 y2 y3 y4 y5, LeO (exactpplref19_sound.j0 k y0 y1 y2 y3 y4 y5) (exactpplref19_sound.j0 (k + 1) y0 y1 y2 y3 y4 y5)) ∧ (∀ y0 y1 y2 y3 y4 y5, LeO (exactpplref19_sound.l0 k y0 y1 y2 y3 y4 y5) (exactpplref19_sound.l0 (k + 1) y0 y1 y2 y3 y4 y5)) ∧ (∀ y0 y1 y2 y3 y4 y5, LeO (exactpplref19_sound.l1 k y0 y1 y2 y3 y4 y5) (exactpplref19_sound.l1 (k + 1) y0 y1 y2 y3 y4 y5))
 | 0 => ⟨fun _ _ _ _ _ _ r h => by simp [exactpplref19_sound.j0] at h, fun _ _ _ _ _ _ r h => by simp [exactpplref19_sound.l0] at h, fun _ _ _ _ _ _ r h => by simp [exactpplref19_sound.l1] at h⟩
 | k + 1 => by
  obtain ⟨ih0, ih1, ih2⟩ := exactpplref19_sound.mono_l k
  refine ⟨?_, ?_, ?_⟩
  ·intro y0 y1 y2 y3 y4 y5
   unfold exactpplref19_sound.j0
   repeat' first
   | (with_reducible exact ih0 _ _ _ _ _ _)
   | (with_reducible exact ih1 _ _ _ _ _ _)
   | (with_reducible exact ih2 _ _ _ _ _ _)
   | (with_reducible exact LeO.refl _)
   | (with_reducible exact LeO.none _)
   | (with_reducible refine LeO.ite ?_ ?_)
   | (with_reducible refine LeO.bind ?_ (fun _ => ?_))
   | exact ih0 _ _ _ _ _ _
   | exact ih1 _ _ _ _ _ _
   | exact ih2 _ _ _ _ _ _
   | exact LeO.none _
   | refine LeO.ite ?_ ?_
   | refine LeO.bind ?_ (fun _ => ?_)
  ·intro y0 y1 y2 y3 y4 y5
   unfold exactpplref19_sound.l0
   repeat' first
   | (with_reducible exact ih0 _ _ _ _ _ _)
   | (with_reducible exact ih1 _ _ _ _ _ _)
   | (with_reducible exact ih2 _ _ _ _ _ _)
   | (with_reducible exact LeO.refl _)
   | (with_reducible exact LeO.none _)
   | (with_reducible refine LeO.ite ?_ ?_)
   | (with_reducible refine LeO.bind ?_ (fun _ => ?_))
   | exact ih0 _ _ _ _ _ _
   | exact ih1 _ _ _ _ _ _
   | exact ih2 _ _ _ _ _ _
   | exact LeO.none _
   | refine LeO.ite ?_ ?_
   | refine LeO.bind ?_ (fun _ => ?_)
  ·intro y0 y1 y2 y3 y4 y5
   unfold exactpplref19_sound.l1
   repeat' first
   | (with_reducible exact ih0 _ _ _ _ _ _)
   | (with_reducible exact ih1 _ _ _ _ _ _)
   | (with_reducible exact ih2 _ _ _ _ _ _)
   | (with_reducible exact LeO.refl _)
   | (with_reducible exact LeO.none _)
   | (with_reducible refine LeO.ite ?_ ?_)
   | (with_reducible refine LeO.bind ?_ (fun _ => ?_))
   | exact ih0 _ _ _ _ _ _
   | exact ih1 _ _ _ _ _ _
   | exact ih2 _ _ _ _ _ _
   | exact LeO.none _
   | refine LeO.ite ?_ ?_
   | refine LeO.bind ?_ (fun _ => ?_)
theorem exactpplref19_sound.mono : ∀ a0 a1 k, LeO (exactpplref19_sound.f k a0 a1) (exactpplref19_sound.f (k + 1) a0 a1) := by
 intro a0 a1 k
 obtain ⟨ih0, ih1, ih2⟩ := exactpplref19_sound.mono_l k
 unfold exactpplref19_sound.f
 repeat' first
   | (with_reducible exact ih0 _ _ _ _ _ _)
   | (with_reducible exact ih1 _ _ _ _ _ _)
   | (with_reducible exact ih2 _ _ _ _ _ _)
   | (with_reducible exact LeO.refl _)
   | (with_reducible exact LeO.none _)
   | (with_reducible refine LeO.ite ?_ ?_)
   | (with_reducible refine LeO.bind ?_ (fun _ => ?_))
   | exact ih0 _ _ _ _ _ _
   | exact ih1 _ _ _ _ _ _
   | exact ih2 _ _ _ _ _ _
   | exact LeO.none _
   | refine LeO.ite ?_ ?_
   | refine LeO.bind ?_ (fun _ => ?_)
def exactpplref19_sound.T10 : Bool × List (List Nat × List Nat) := (true, [([], []), ([0], [0]), ([1], [1]), ([2], [2]), ([2], [2]), ([3, 4, 2], [2, 3, 4]), ([2, 5], [2, 5]), ([6, 2], [6]), ([7], [7]), ([7], [7]), ([8, 9, 7], [7, 8, 9]), ([10, 7], [7, 10]), ([11, 7, 7], [7, 11]), ([12, 12, 7], [7, 12]), ([13], [13]), ([13], [13]), ([14, 15, 13], [13, 14, 15]), ([16, 13], [13, 16]), ([17, 13], [13, 17]), ([13], [13]), ([19, 13], [13, 19]), ([18, 20, 13], [13, 18, 20]), ([13, 21, 7], [7, 13, 21]), ([7, 22], [7, 22])])
def exactpplref19_sound.B10 : List Nat := [0, 1, 3, 7, 7, 31, 63, 127, 255, 255, 1023, 2047, 4095, 8191, 16383, 16383, 65535, 131071, 262143, 16383, 540671, 2097151, 4194303, 8388607]
theorem exactpplref19_sound.tab10 : rtab .any (opsOf Tryd.f77 10) = exactpplref19_sound.T10 := by kernel_rfl
theorem exactpplref19_sound.bits10 : waitsOk exactpplref19_sound.T10.2 exactpplref19_sound.B10 = true := by kernel_rfl
def exactpplref19_sound.T15 : Bool × List (List Nat × List Nat) := (true, [([], []), ([], []), ([0, 1], [0, 1]), ([2], [2]), ([3], [3]), ([], []), ([5], [5]), ([4, 6], [4, 6]), ([7], [7]), ([8], [8]), ([8], [8]), ([9, 10, 8], [8, 9, 10]), ([11, 8], [8, 11]), ([12, 8], [8, 12]), ([13, 8], [8, 13]), ([8], [8]), ([15, 8], [8, 15]), ([16, 8], [8, 16]), ([14, 17, 8], [8, 14, 17]), ([8, 18], [8, 18])])
def exactpplref19_sound.B15 : List Nat := [0, 0, 3, 7, 15, 0, 32, 127, 255, 511, 511, 2047, 4095, 8191, 16383, 511, 33279, 98815, 262143, 524287]
theorem exactpplref19_sound.tab15 : rtab .any (opsOf Tryd.f77 15) = exactpplref19_sound.T15 := by kernel_rfl
theorem exactpplref19_sound.bits15 : waitsOk exactpplref19_sound.T15.2 exactpplref19_sound.B15 = true := by kernel_rfl
set_option maxHeartbeats 8000000 in
set_option maxRecDepth 100000 in
theorem exactpplref19_sound.calls (k : Nat) (A0 : Option Addr) (c0 : Nat) (l0 : List (S60)) (a1 : Int) (r : Bool) (w : World) (hr0 : Kd.C k60 w A0 l0.length l0) (hc0 : l0.length ≤ c0) (h : exactpplref19_sound.f k l0 a1 = some r) :
  Calls Tryd.prog 77 #[.slice A0 l0.length c0, .int .i64 a1] w fun e w' => e = .returned (.bool r) ∧ Below w.heap.size w w' := by
 have hu60 := Tryd.underlying60
 have HR0 := Aside0.mk hr0
 have HC0 := Aside0.mk hc0
 clear hr0 hc0
 have HB := Aside0.mk (Below.refl w.heap.size w)
 have H : (if 0 ≤ a1 then (if a1 < (l0.length : Int) then ((exactpplref19_IsBranch.f ((rd_T60 l0 a1).f0) ((rd_T60 l0 a1).f1) ((rd_T60 l0 a1).f2)).bind fun t147 => (if t147 = true then (if ((rd_T60 l0 a1).f0) < 0 then (exactpplref19_sound.j0 k l0 a1 true ((rd_T60 l0 a1).f0) ((rd_T60 l0 a1).f1) ((rd_T60 l0 a1).f2)) else (if ((rd_T60 l0 a1).f0) ≥ 64 then (exactpplref19_sound.j0 k l0 a1 true ((rd_T60 l0 a1).f0) ((rd_T60 l0 a1).f1) ((rd_T60 l0 a1).f2)) else (if ((rd_T60 l0 a1).f1) = 0 then (if (((rd_T60 l0 a1).f2).length : Int) < 1 then (exactpplref19_sound.j0 k l0 a1 true ((rd_T60 l0 a1).f0) ((rd_T60 l0 a1).f1) ((rd_T60 l0 a1).f2)) else (exactpplref19_sound.j0 k l0 a1 (decide ((((rd_T60 l0 a1).f2).length : Int) > 16)) ((rd_T60 l0 a1).f0) ((rd_T60 l0 a1).f1) ((rd_T60 l0 a1).f2))) else (exactpplref19_sound.j0 k l0 a1 true ((rd_T60 l0 a1).f0) ((rd_T60 l0 a1).f1) ((rd_T60 l0 a1).f2))))) else (if (((rd_T60 l0 a1).f2).length : Int) = 0 then (if ((rd_T60 l0 a1).f1) ≥ (-1073741824) then (some (decide (((rd_T60 l0 a1).f1) ≤ 1073741824))) else (some false)) else (some false)))) else (none)) else (none)) = some r := h
 clear h
 by_cases c3 : 0 ≤ a1
 ·rw [if_pos c3] at H
  have c3b0 : decide (0 ≤ a1) = true := decide_eq_true c3
  clear c3
  by_cases c4 : a1 < (l0.length : Int)
  ·rw [if_pos c4] at H
   have c4b0 : decide (a1 < (l0.length : Int)) = true := decide_eq_true c4
   clear c4
   replace H := Option.bind_eq_some_iff.mp H
   obtain ⟨t147, A50, H⟩ := H
   replace H : (if t147 = true then (if ((rd_T60 l0 a1).f0) < 0 then (exactpplref19_sound.j0 k l0 a1 true ((rd_T60 l0 a1).f0) ((rd_T60 l0 a1).f1) ((rd_T60 l0 a1).f2)) else (if ((rd_T60 l0 a1).f0) ≥ 64 then (exactpplref19_sound.j0 k l0 a1 true ((rd_T60 l0 a1).f0) ((rd_T60 l0 a1).f1) ((rd_T60 l0 a1).f2)) else (if ((rd_T60 l0 a1).f1) = 0 then (if (((rd_T60 l0 a1).f2).length : Int) < 1 then (exactpplref19_sound.j0 k l0 a1 true ((rd_T60 l0 a1).f0) ((rd_T60 l0 a1).f1) ((rd_T60 l0 a1).f2)) else (exactpplref19_sound.j0 k l0 a1 (decide ((((rd_T60 l0 a1).f2).length : Int) > 16)) ((rd_T60 l0 a1).f0) ((rd_T60 l0 a1).f1) ((rd_T60 l0 a1).f2))) else (exactpplref19_sound.j0 k l0 a1 true ((rd_T60 l0 a1).f0) ((rd_T60 l0 a1).f1) ((rd_T60 l0 a1).f2))))) else (if (((rd_T60 l0 a1).f2).length : Int) = 0 then (if ((rd_T60 l0 a1).f1) ≥ (-1073741824) then (some (decide (((rd_T60 l0 a1).f1) ≤ 1073741824))) else (some false)) else (some false))) = some r := H
   have A5 := Aside0.mk A50
   clear A50
   by_cases c6 : t147 = true
   ·subst c6
    have H1 : (if ((rd_T60 l0 a1).f0) < 0 then (exactpplref19_sound.j0 k l0 a1 true ((rd_T60 l0 a1).f0) ((rd_T60 l0 a1).f1) ((rd_T60 l0 a1).f2)) else (if ((rd_T60 l0 a1).f0) ≥ 64 then (exactpplref19_sound.j0 k l0 a1 true ((rd_T60 l0 a1).f0) ((rd_T60 l0 a1).f1) ((rd_T60 l0 a1).f2)) else (if ((rd_T60 l0 a1).f1) = 0 then (if (((rd_T60 l0 a1).f2).length : Int) < 1 then (exactpplref19_sound.j0 k l0 a1 true ((rd_T60 l0 a1).f0) ((rd_T60 l0 a1).f1) ((rd_T60 l0 a1).f2)) else (exactpplref19_sound.j0 k l0 a1 (decide ((((rd_T60 l0 a1).f2).length : Int) > 16)) ((rd_T60 l0 a1).f0) ((rd_T60 l0 a1).f1) ((rd_T60 l0 a1).f2))) else (exactpplref19_sound.j0 k l0 a1 true ((rd_T60 l0 a1).f0) ((rd_T60 l0 a1).f1) ((rd_T60 l0 a1).f2))))) = some r := by rw [if_pos rfl] at H; exact H
    clear H
    have H := H1
    clear H1
    have HC7 := Aside0.mk H
    clear H
    have p145 : 0 ≤ (a1 : Int) := dt_
    have q145 : a1 < (l0.length : Int) := dt_
    obtain ⟨ad145, A145_2, c145_2, e145, hx145_0, hx145_1, hx145_2, hl145_2, hi145_2⟩ := at_T60 HR0.out a1 p145 q145
    cases e145
    have HR145_2 := Aside0.mk hi145_2
    have HC145_2 := Aside0.mk hl145_2
    clear hi145_2 hl145_2
    replace p145 := eq_true p145
    replace q145 := eq_true q145
    go_enter Tryd.func77, Tryd.ntmps77
    go_upto_region 4 with (first | ((with_reducible refine gate_dst (N := 5) rfl ?_); (try (refine gate_guard (by rfl) ?_; dsimp only)); refine box_event ?hg (N := 5) ?hd (cs := #[.int .i64 0, .int .i64 0, .slice none 0 0]) (t := 60) ?hr ?_; (case hd => rfl); (case hg => rfl); (case hr => first | (go_simp; done) | (go_simp; rfl)); intro gb146 hg w8 hbox hb; have BK146 := Aside0.mk (hbox); have GW146 : Aside0 (w.heap.size ≤ gb146) := gw_ hg (below_size bl_); have GE146 := GW146; replace HB := Aside0.mk (below_step bl_ hb); clear hb hbox hg; obtain ⟨hcz9_0, hcz9_1, hcz9_2, hfz9_0, hfz9_1, hfz9_2⟩ := cf3_ BK146.out) | ((with_reducible refine gate_callee (f := 55) rfl ?_); refine goesL_ (some 14) rfl rfl Tryd.func55 (by kernel_rfl) rfl #[.agg #[.int .i64 ((rd_T60 l0 a1).f0), .int .i64 ((rd_T60 l0 a1).f1), .slice A145_2 ((rd_T60 l0 a1).f2).length c145_2]] rfl (by (try simp only [List.map_toArray, List.map_cons, List.map_nil]); first | done | rfl | (simp only [List.length_drop, List.length_take]; rfl)) ?_; (with_reducible refine (exactpplref19_IsBranch.calls ((rd_T60 l0 a1).f0) ((rd_T60 l0 a1).f1) _ _ ((rd_T60 l0 a1).f2) true _ ?side1 ?side2 A5.out).mono ?_); (case side1 => exact Kd.C_below HR145_2.out bl_); (case side2 => exact HC145_2.out); rintro e w10 ⟨rfl, hb⟩; refine ⟨_, rfl, ?_⟩; replace BK146 := Aside0.mk (blk_below (g := gb146) (o := .cells #[.int .i64 ((rd_T60 l0 a1).f0), .int .i64 ((rd_T60 l0 a1).f1), .slice A145_2 ((rd_T60 l0 a1).f2).length c145_2] 60 (0, 0)) (by (with_reducible repeat (first | refine blk_drewN ?_ _ | refine blk_drew ?_ | refine blk_alloc ?_ _)); refine blk_put (cs := #[.int .i64 ((rd_T60 l0 a1).f0), .int .i64 ((rd_T60 l0 a1).f1), .slice none 0 0]) ?_ 2 _ rfl; (with_reducible repeat (first | refine blk_drewN ?_ _ | refine blk_drew ?_ | refine blk_alloc ?_ _)); refine blk_put (cs := #[.int .i64 ((rd_T60 l0 a1).f0), .int .i64 0, .slice none 0 0]) ?_ 1 _ rfl; (with_reducible repeat (first | refine blk_drewN ?_ _ | refine blk_drew ?_ | refine blk_alloc ?_ _)); refine blk_put (cs := #[.int .i64 0, .int .i64 0, .slice none 0 0]) ?_ 0 _ rfl; (with_reducible repeat (first | refine blk_drewN ?_ _ | refine blk_drew ?_ | refine blk_alloc ?_ _)); exact BK146.out) hb); replace HB := Aside0.mk (below_step bl_ hb); (try clear hb); (try clear hb2); (try clear hk); (try clear hi)))
    (try simp only [Act.put, List.setIfInBounds_toArray, List.set_cons_zero, List.set_cons_succ])
    go_cut [54] (fun v54 wc => ∃ (kq : Nat) (x54_6 : Bool), v54 = .bool x54_6 ∧ Aside0 (exactpplref19_sound.j0 kq l0 a1 x54_6 ((rd_T60 l0 a1).f0) ((rd_T60 l0 a1).f1) ((rd_T60 l0 a1).f2) = some r) ∧ Aside0 (kq ≤ k) ∧ Aside0 (wc.heap[gb146]? = some (.cells #[.int .i64 ((rd_T60 l0 a1).f0), .int .i64 ((rd_T60 l0 a1).f1), (.slice A145_2 ((rd_T60 l0 a1).f2).length c145_2)] 60 (0, 0))) ∧ Aside0 (Below w.heap.size w wc))
    case first =>
     have H := HC7.out
     clear HC7
     by_cases c11 : ((rd_T60 l0 a1).f0) < 0
     ·rw [if_pos c11] at H
      have c11b0 : decide (((rd_T60 l0 a1).f0) < 0) = true := decide_eq_true c11
      clear c11
      (first | rw [c11b0] | (simp only [i64_w, i32_w]; rw [c11b0]) | skip)
      have H' := Aside0.mk H
      clear H
      obtain ⟨hcz12_0, hcz12_1, hcz12_2, hfz12_0, hfz12_1, hfz12_2⟩ := cf3_ BK146.out
      go_wp2
      go_meet
      case rel => exact ⟨_, (true), rs_, H', ⟨by first | omega | exact Nat.le_refl _⟩, ⟨bk_⟩, ⟨bl_⟩⟩
     ·rw [if_neg c11] at H
      have c11b0 : decide (((rd_T60 l0 a1).f0) < 0) = false := decide_eq_false c11
      clear c11
      (first | rw [c11b0] | (simp only [i64_w, i32_w]; rw [c11b0]) | skip)
      by_cases c13 : ((rd_T60 l0 a1).f0) ≥ 64
      ·rw [if_pos c13] at H
       have c13b0 : decide (64 ≤ ((rd_T60 l0 a1).f0)) = true := decide_eq_true c13
       clear c13
       have H' := Aside0.mk H
       clear H
       obtain ⟨hcz14_0, hcz14_1, hcz14_2, hfz14_0, hfz14_1, hfz14_2⟩ := cf3_ BK146.out
       go_wp2
       go_meet
       case rel => exact ⟨_, (true), rs_, H', ⟨by first | omega | exact Nat.le_refl _⟩, ⟨bk_⟩, ⟨bl_⟩⟩
      ·rw [if_neg c13] at H
       have c13b0 : decide (64 ≤ ((rd_T60 l0 a1).f0)) = false := decide_eq_false c13
       clear c13
       by_cases c15 : ((rd_T60 l0 a1).f1) = 0
       ·rw [if_pos c15] at H
        have c15b0 : (((rd_T60 l0 a1).f1) == 0) = true := beq_iff_eq.mpr c15
        have c15b1 : (((rd_T60 l0 a1).f1) != 0) = false := bne_eq_false_iff_eq.mpr c15
        clear c15
        by_cases c16 : (((rd_T60 l0 a1).f2).length : Int) < 1
        ·rw [if_pos c16] at H
         have c16b0 : decide ((((rd_T60 l0 a1).f2).length : Int) < 1) = true := decide_eq_true c16
         have c16b1 : decide (((rd_T60 l0 a1).f2).length < 1) = true := decide_eq_true (by omega)
         clear c16
         have H' := Aside0.mk H
         clear H
         obtain ⟨hcz17_0, hcz17_1, hcz17_2, hfz17_0, hfz17_1, hfz17_2⟩ := cf3_ BK146.out
         go_wp2
         go_meet
         case rel => exact ⟨_, (true), rs_, H', ⟨by first | omega | exact Nat.le_refl _⟩, ⟨bk_⟩, ⟨bl_⟩⟩
        ·rw [if_neg c16] at H
         have c16b0 : decide ((((rd_T60 l0 a1).f2).length : Int) < 1) = false := decide_eq_false c16
         have c16b1 : decide (((rd_T60 l0 a1).f2).length < 1) = false := decide_eq_false (by omega)
         clear c16
         have H' := Aside0.mk H
         clear H
         obtain ⟨hcz18_0, hcz18_1, hcz18_2, hfz18_0, hfz18_1, hfz18_2⟩ := cf3_ BK146.out
         go_wp2
         go_meet
         case rel => exact ⟨_, (decide ((((rd_T60 l0 a1).f2).length : Int) > 16)), rs_, H', ⟨by first | omega | exact Nat.le_refl _⟩, ⟨bk_⟩, ⟨bl_⟩⟩
       ·rw [if_neg c15] at H
        have c15b0 : (((rd_T60 l0 a1).f1) == 0) = false := beq_eq_false_iff_ne.mpr c15
        have c15b1 : (((rd_T60 l0 a1).f1) != 0) = true := bne_iff_ne.mpr c15
        have H' := Aside0.mk H
        clear H
        obtain ⟨hcz19_0, hcz19_1, hcz19_2, hfz19_0, hfz19_1, hfz19_2⟩ := cf3_ BK146.out
        go_wp2
        go_meet
        case rel => exact ⟨_, (true), rs_, H', ⟨by first | omega | exact Nat.le_refl _⟩, ⟨bk_⟩, ⟨bl_⟩⟩
    case rest =>
     clear HC7
     try clear c1
     try clear p1
     try clear q1
     try clear hx1
     try clear p2
     try clear c3
     try clear c3b0
     try clear c4
     try clear c4b0
     try clear c5
     try clear c6
     try clear c7
     try clear c11
     try clear c11b0
     try clear c13
     try clear c13b0
     try clear c14
     try clear p14
     try clear q14
     try clear hx14
     try clear c15
     try clear c15b0
     try clear c15b1
     try clear c16
     try clear c16b0
     try clear c16b1
     try clear hcz12_0 hcz12_1 hcz12_2 hfz12_0 hfz12_1 hfz12_2
     try clear hcz14_0 hcz14_1 hcz14_2 hfz14_0 hfz14_1 hfz14_2
     try clear hcz17_0 hcz17_1 hcz17_2 hfz17_0 hfz17_1 hfz17_2
     try clear hcz18_0 hcz18_1 hcz18_2 hfz18_0 hfz18_1 hfz18_2
     try clear hcz19_0 hcz19_1 hcz19_2 hfz19_0 hfz19_1 hfz19_2
     try clear hcz9_0 hcz9_1 hcz9_2 hfz9_0 hfz9_1 hfz9_2
     try clear hx145_0
     try clear hx145_1
     try clear hx145_2
     try clear p145
     try clear q145
     obtain ⟨kq, x54_6, rfl, HA, HJ6, BK146, HB⟩ := hcut
     cases kq with
     | zero => exact absurd HA.out (by simp [exactpplref19_sound.j0])
     | succ kj6 =>
      have H := HA.out
      clear HA
      simp only [exactpplref19_sound.j0] at H
      by_cases c20 : x54_6 = true
      ·subst c20
       have H1 : (some false) = some r := by rw [if_pos rfl] at H; exact H
       clear H
       have H := H1
       clear H1
       obtain rfl := Option.some.inj H
       go_wp2
       go_ret
       exact ⟨re_, bl_⟩
      ·replace c20 := Bool.eq_false_iff.mpr c20
       subst c20
       have H1 : (exactpplref19_sound.l0 kj6 l0 a1 0 ((rd_T60 l0 a1).f0) ((rd_T60 l0 a1).f1) ((rd_T60 l0 a1).f2)) = some r := by rw [if_neg (show ¬ (false = true) by decide)] at H; exact H
       clear H
       have H := H1
       clear H1
       have H' := Aside0.mk H
       clear H
       go_wp2
       go_loopg [6] kj6 (fun kq v6 w' => ∃ (x6_2 : Int), v6 = .int .i64 x6_2 ∧ Aside0 (exactpplref19_sound.l0 kq l0 a1 x6_2 ((rd_T60 l0 a1).f0) ((rd_T60 l0 a1).f1) ((rd_T60 l0 a1).f2) = some r) ∧ Aside0 (kq ≤ kj6) ∧ Aside0 (w'.heap[gb146]? = some (.cells #[.int .i64 ((rd_T60 l0 a1).f0), .int .i64 ((rd_T60 l0 a1).f1), (.slice A145_2 ((rd_T60 l0 a1).f2).length c145_2)] 60 (0, 0))) ∧ Aside0 (Below w.heap.size w w'))
       case atStart => exact ⟨(0), rs_, H', ⟨Nat.le_refl _⟩, ⟨bk_⟩, ⟨bl_⟩⟩
       case round =>
        clear H'
        try clear c1
        try clear p1
        try clear q1
        try clear hx1
        try clear c2
        try clear p2
        try clear c3
        try clear c3b0
        try clear c4
        try clear c4b0
        try clear c5
        try clear c6
        try clear c7
        try clear c11
        try clear c11b0
        try clear c13
        try clear c13b0
        try clear c14
        try clear p14
        try clear q14
        try clear hx14
        try clear c15
        try clear c15b0
        try clear c15b1
        try clear c16
        try clear c16b0
        try clear c16b1
        try clear c20
        try clear hcz12_0 hcz12_1 hcz12_2 hfz12_0 hfz12_1 hfz12_2
        try clear hcz14_0 hcz14_1 hcz14_2 hfz14_0 hfz14_1 hfz14_2
        try clear hcz17_0 hcz17_1 hcz17_2 hfz17_0 hfz17_1 hfz17_2
        try clear hcz18_0 hcz18_1 hcz18_2 hfz18_0 hfz18_1 hfz18_2
        try clear hcz19_0 hcz19_1 hcz19_2 hfz19_0 hfz19_1 hfz19_2
        try clear hcz9_0 hcz9_1 hcz9_2 hfz9_0 hfz9_1 hfz9_2
        try clear hx145_0
        try clear hx145_1
        try clear hx145_2
        try clear p1
        try clear p14
        try clear p145
        try clear p2
        try clear q1
        try clear q14
        try clear q145
        obtain ⟨x6_2, rfl, HA, HK2, BK146, HB⟩ := hrel
        cases gk with
        | zero => exact absurd HA.out (by simp [exactpplref19_sound.l0])
        | succ k2 =>
         have H := HA.out
         clear HA
         simp only [exactpplref19_sound.l0] at H
         by_cases c21 : x6_2 < (((rd_T60 l0 a1).f2).length : Int)
         ·rw [if_pos c21] at H
          have c21b0 : decide (x6_2 < (((rd_T60 l0 a1).f2).length : Int)) = true := decide_eq_true c21
          clear c21
          by_cases c22 : 0 ≤ x6_2
          ·rw [if_pos c22] at H
           have c22b0 : decide (0 ≤ x6_2) = true := decide_eq_true c22
           clear c22
           by_cases c23 : (rd ((rd_T60 l0 a1).f2) x6_2) < 0
           ·rw [if_pos c23] at H
            have c23b0 : decide ((rd ((rd_T60 l0 a1).f2) x6_2) < 0) = true := decide_eq_true c23
            clear c23
            obtain rfl := Option.some.inj H
            obtain ⟨hcz24_0, hcz24_1, hcz24_2, hfz24_0, hfz24_1, hfz24_2⟩ := cf3_ BK146.out
            have p148 : 0 ≤ (x6_2 : Int) := dt_
            have q148 : x6_2 < (((rd_T60 l0 a1).f2).length : Int) := dt_
            obtain ⟨ad148, e148, hx148_0⟩ := Kd.at_int HR145_2.out x6_2 p148 q148
            cases e148
            replace hx148_0 := (HB.out.cell (World.block_lt_of_cell? w _ hx148_0)).trans hx148_0
            replace p148 := eq_true p148
            replace q148 := eq_true q148
            try go_wp2
            replace BK146 := Aside0.mk (blk_drew BK146.out)
            replace HB := Aside0.mk (below_drew1 HB.out)
            refine start_ (n := 24) (S := fun w' => True) (ds := []) #[false, false, false, false, false, false, false, false, false, false, false, false, false, false, false, false, false, false, false, false, false, false, false, false] (by kernel_rfl) rfl rfl trivial (fun hHeld => ?_); refine with_tabW exactpplref19_sound.tab10 exactpplref19_sound.bits10 (fun HT_ HW_ => ?_)
            generalize wr.drew = w25 at BK146 HB hHeld ⊢
            refine pu_ HT_ 0 67 (bm 24 1) ?_
            refine pu_ HT_ 1 68 (bm 24 3) ?_
            refine pu_ HT_ 2 69 (bm 24 7) ?_
            refine pf_ HT_ 3 70 (bm 24 15) ?_
            refine pf_ HT_ 4 71 (bm 24 31) ?_
            refine pf_ HT_ 5 72 (bm 24 63) ?_
            refine pu_ HT_ 6 73 (bm 24 127) ?_
            refine pu_ HT_ 7 74 (bm 24 255) ?_
            refine pf_ HT_ 8 75 (bm 24 511) ?_
            refine pf_ HT_ 9 76 (bm 24 1023) ?_
            refine pf_ HT_ 10 77 (bm 24 2047) ?_
            refine pf_ HT_ 11 78 (bm 24 4095) ?_
            refine pf_ HT_ 12 79 (bm 24 8191) ?_
            refine pf_ HT_ 13 80 (bm 24 16383) ?_
            refine pf_ HT_ 14 81 (bm 24 32767) ?_
            refine pf_ HT_ 15 82 (bm 24 65535) ?_
            refine pf_ HT_ 16 83 (bm 24 131071) ?_
            refine pf_ HT_ 17 84 (bm 24 262143) ?_
            refine pf_ HT_ 18 85 (bm 24 524287) ?_
            refine pf_ HT_ 19 86 (bm 24 1048575) ?_
            refine pf_ HT_ 20 87 (bm 24 2097151) ?_
            refine pf_ HT_ 21 88 (bm 24 4194303) ?_
            refine pf_ HT_ 22 89 (bm 24 8388607) ?_
            refine pu_ HT_ 23 90 #[true, true, true, true, true, true, true, true, true, true, true, true, true, true, true, true, true, true, true, true, true, true, true, true] ?_
            refine done_ (done_of HT_.out (by kernel_rfl)) ?_
            try go_wp2
            go_ret
            exact ⟨re_, bl_⟩
           ·rw [if_neg c23] at H
            have c23b0 : decide ((rd ((rd_T60 l0 a1).f2) x6_2) < 0) = false := decide_eq_false c23
            clear c23
            by_cases c26 : (rd ((rd_T60 l0 a1).f2) x6_2) ≥ a1
            ·rw [if_pos c26] at H
             have c26b0 : decide (a1 ≤ (rd ((rd_T60 l0 a1).f2) x6_2)) = true := decide_eq_true c26
             clear c26
             obtain rfl := Option.some.inj H
             obtain ⟨hcz27_0, hcz27_1, hcz27_2, hfz27_0, hfz27_1, hfz27_2⟩ := cf3_ BK146.out
             have p148 : 0 ≤ (x6_2 : Int) := dt_
             have q148 : x6_2 < (((rd_T60 l0 a1).f2).length : Int) := dt_
             obtain ⟨ad148, e148, hx148_0⟩ := Kd.at_int HR145_2.out x6_2 p148 q148
             cases e148
             replace hx148_0 := (HB.out.cell (World.block_lt_of_cell? w _ hx148_0)).trans hx148_0
             replace p148 := eq_true p148
             replace q148 := eq_true q148
             try go_wp2
             replace BK146 := Aside0.mk (blk_drew BK146.out)
             replace HB := Aside0.mk (below_drew1 HB.out)
             refine start_ (n := 24) (S := fun w' => True) (ds := []) #[false, false, false, false, false, false, false, false, false, false, false, false, false, false, false, false, false, false, false, false, false, false, false, false] (by kernel_rfl) rfl rfl trivial (fun hHeld => ?_); refine with_tabW exactpplref19_sound.tab10 exactpplref19_sound.bits10 (fun HT_ HW_ => ?_)
             generalize wr.drew = w28 at BK146 HB hHeld ⊢
             refine pu_ HT_ 0 67 (bm 24 1) ?_
             refine pu_ HT_ 1 68 (bm 24 3) ?_
             refine pu_ HT_ 2 69 (bm 24 7) ?_
             refine pu_ HT_ 3 70 (bm 24 15) ?_
             refine pu_ HT_ 4 71 (bm 24 31) ?_
             refine pu_ HT_ 5 72 (bm 24 63) ?_
             refine pu_ HT_ 6 73 (bm 24 127) ?_
             refine pu_ HT_ 7 74 (bm 24 255) ?_
             refine pf_ HT_ 8 75 (bm 24 511) ?_
             refine pf_ HT_ 9 76 (bm 24 1023) ?_
             refine pf_ HT_ 10 77 (bm 24 2047) ?_
             refine pf_ HT_ 11 78 (bm 24 4095) ?_
             refine pf_ HT_ 12 79 (bm 24 8191) ?_
             refine pf_ HT_ 13 80 (bm 24 16383) ?_
             refine pf_ HT_ 14 81 (bm 24 32767) ?_
             refine pf_ HT_ 15 82 (bm 24 65535) ?_
             refine pf_ HT_ 16 83 (bm 24 131071) ?_
             refine pf_ HT_ 17 84 (bm 24 262143) ?_
             refine pf_ HT_ 18 85 (bm 24 524287) ?_
             refine pf_ HT_ 19 86 (bm 24 1048575) ?_
             refine pf_ HT_ 20 87 (bm 24 2097151) ?_
             refine pf_ HT_ 21 88 (bm 24 4194303) ?_
             refine pf_ HT_ 22 89 (bm 24 8388607) ?_
             refine pu_ HT_ 23 90 #[true, true, true, true, true, true, true, true, true, true, true, true, true, true, true, true, true, true, true, true, true, true, true, true] ?_
             refine done_ (done_of HT_.out (by kernel_rfl)) ?_
             try go_wp2
             go_ret
             exact ⟨re_, bl_⟩
            ·rw [if_neg c26] at H
             have c26b0 : decide (a1 ≤ (rd ((rd_T60 l0 a1).f2) x6_2)) = false := decide_eq_false c26
             clear c26
             by_cases c29 : 0 ≤ (rd ((rd_T60 l0 a1).f2) x6_2)
             ·rw [if_pos c29] at H
              have c29b0 : decide (0 ≤ (rd ((rd_T60 l0 a1).f2) x6_2)) = true := decide_eq_true c29
              clear c29
              by_cases c30 : (rd ((rd_T60 l0 a1).f2) x6_2) < (l0.length : Int)
              ·rw [if_pos c30] at H
               have c30b0 : decide ((rd ((rd_T60 l0 a1).f2) x6_2) < (l0.length : Int)) = true := decide_eq_true c30
               clear c30
               replace H := Option.bind_eq_some_iff.mp H
               obtain ⟨t150, A310, H⟩ := H
               replace H : (if t150 = true then (if ((rd_T60 l0 (rd ((rd_T60 l0 a1).f2) x6_2)).f0) ≤ ((rd_T60 l0 a1).f0) then (some false) else (exactpplref19_sound.l0 k2 l0 a1 (wrap64 (x6_2 + 1)) ((rd_T60 l0 a1).f0) ((rd_T60 l0 a1).f1) ((rd_T60 l0 a1).f2))) else (exactpplref19_sound.l0 k2 l0 a1 (wrap64 (x6_2 + 1)) ((rd_T60 l0 a1).f0) ((rd_T60 l0 a1).f1) ((rd_T60 l0 a1).f2))) = some r := H
               have A31 := Aside0.mk A310
               clear A310
               by_cases c32 : t150 = true
               ·subst c32
                have H1 : (if ((rd_T60 l0 (rd ((rd_T60 l0 a1).f2) x6_2)).f0) ≤ ((rd_T60 l0 a1).f0) then (some false) else (exactpplref19_sound.l0 k2 l0 a1 (wrap64 (x6_2 + 1)) ((rd_T60 l0 a1).f0) ((rd_T60 l0 a1).f1) ((rd_T60 l0 a1).f2))) = some r := by rw [if_pos rfl] at H; exact H
                clear H
                have H := H1
                clear H1
                by_cases c33 : ((rd_T60 l0 (rd ((rd_T60 l0 a1).f2) x6_2)).f0) ≤ ((rd_T60 l0 a1).f0)
                ·rw [if_pos c33] at H
                 have c33b0 : decide (((rd_T60 l0 (rd ((rd_T60 l0 a1).f2) x6_2)).f0) ≤ ((rd_T60 l0 a1).f0)) = true := decide_eq_true c33
                 clear c33
                 obtain rfl := Option.some.inj H
                 obtain ⟨hcz34_0, hcz34_1, hcz34_2, hfz34_0, hfz34_1, hfz34_2⟩ := cf3_ BK146.out
                 have p148 : 0 ≤ (x6_2 : Int) := dt_
                 have q148 : x6_2 < (((rd_T60 l0 a1).f2).length : Int) := dt_
                 obtain ⟨ad148, e148, hx148_0⟩ := Kd.at_int HR145_2.out x6_2 p148 q148
                 cases e148
                 replace hx148_0 := (HB.out.cell (World.block_lt_of_cell? w _ hx148_0)).trans hx148_0
                 replace p148 := eq_true p148
                 replace q148 := eq_true q148
                 try go_wp2
                 replace BK146 := Aside0.mk (blk_drew BK146.out)
                 replace HB := Aside0.mk (below_drew1 HB.out)
                 have p149 : 0 ≤ ((rd ((rd_T60 l0 a1).f2) x6_2) : Int) := dt_
                 have q149 : (rd ((rd_T60 l0 a1).f2) x6_2) < (l0.length : Int) := dt_
                 obtain ⟨ad149, A149_2, c149_2, e149, hx149_0, hx149_1, hx149_2, hl149_2, hi149_2⟩ := at_T60 HR0.out (rd ((rd_T60 l0 a1).f2) x6_2) p149 q149
                 have hw149_2 := hx149_2
                 have hw149_1 := hx149_1
                 have hw149_0 := hx149_0
                 obtain rfl : ad145 = ad149 := (by injection e149)
                 replace hx149_0 := (HB.out.cell (World.block_lt_of_cell? w _ hx149_0)).trans hx149_0
                 replace hx149_1 := (HB.out.cell (World.block_lt_of_cell? w _ hx149_1)).trans hx149_1
                 replace hx149_2 := (HB.out.cell (World.block_lt_of_cell? w _ hx149_2)).trans hx149_2
                 have HR149_2 := Aside0.mk hi149_2
                 have HC149_2 := Aside0.mk hl149_2
                 clear hi149_2 hl149_2
                 replace p149 := eq_true p149
                 replace q149 := eq_true q149
                 have p151 : 0 ≤ ((rd ((rd_T60 l0 a1).f2) x6_2) : Int) := dt_
                 have q151 : (rd ((rd_T60 l0 a1).f2) x6_2) < (l0.length : Int) := dt_
                 obtain ⟨ad151, A151_2, c151_2, e151, hx151_0, hx151_1, hx151_2, hl151_2, hi151_2⟩ := at_T60 HR0.out (rd ((rd_T60 l0 a1).f2) x6_2) p151 q151
                 have hw151_2 := hx151_2
                 have hw151_1 := hx151_1
                 have hw151_0 := hx151_0
                 obtain rfl : ad145 = ad151 := (by injection e151)
                 replace hx151_0 := (HB.out.cell (World.block_lt_of_cell? w _ hx151_0)).trans hx151_0
                 replace hx151_1 := (HB.out.cell (World.block_lt_of_cell? w _ hx151_1)).trans hx151_1
                 replace hx151_2 := (HB.out.cell (World.block_lt_of_cell? w _ hx151_2)).trans hx151_2
                 have HR151_2 := Aside0.mk hi151_2
                 have HC151_2 := Aside0.mk hl151_2
                 clear hi151_2 hl151_2
                 replace p151 := eq_true p151
                 replace q151 := eq_true q151
                 refine start_ (n := 24) (S := fun w' => w'.cell? ⟨gb146, 0, none⟩ = some (.int .i64 ((rd_T60 l0 a1).f0)) ∧ w'.cell? ⟨gb146, 1, none⟩ = some (.int .i64 ((rd_T60 l0 a1).f1)) ∧ w'.cell? ⟨gb146, 2, none⟩ = some (.slice (some ad148) ((rd_T60 l0 a1).f2).length c145_2) ∧ w'.cell? (ad145.add (((rd ((rd_T60 l0 a1).f2) x6_2)).toNat * 3)) = some (.int .i64 ((rd_T60 l0 (rd ((rd_T60 l0 a1).f2) x6_2)).f0)) ∧ w'.cell? ⟨(ad145.add (((rd ((rd_T60 l0 a1).f2) x6_2)).toNat * 3)).block, (ad145.add (((rd ((rd_T60 l0 a1).f2) x6_2)).toNat * 3)).off + 1, none⟩ = some (.int .i64 ((rd_T60 l0 (rd ((rd_T60 l0 a1).f2) x6_2)).f1)) ∧ w'.cell? ⟨(ad145.add (((rd ((rd_T60 l0 a1).f2) x6_2)).toNat * 3)).block, (ad145.add (((rd ((rd_T60 l0 a1).f2) x6_2)).toNat * 3)).off + 2, none⟩ = some (.slice A149_2 ((rd_T60 l0 (rd ((rd_T60 l0 a1).f2) x6_2)).f2).length c149_2) ∧ w'.cell? (ad145.add (((rd ((rd_T60 l0 a1).f2) x6_2)).toNat * 3)) = some (.int .i64 ((rd_T60 l0 (rd ((rd_T60 l0 a1).f2) x6_2)).f0)) ∧ w'.cell? ⟨(ad145.add (((rd ((rd_T60 l0 a1).f2) x6_2)).toNat * 3)).block, (ad145.add (((rd ((rd_T60 l0 a1).f2) x6_2)).toNat * 3)).off + 1, none⟩ = some (.int .i64 ((rd_T60 l0 (rd ((rd_T60 l0 a1).f2) x6_2)).f1)) ∧ w'.cell? ⟨(ad145.add (((rd ((rd_T60 l0 a1).f2) x6_2)).toNat * 3)).block, (ad145.add (((rd ((rd_T60 l0 a1).f2) x6_2)).toNat * 3)).off + 2, none⟩ = some (.slice A151_2 ((rd_T60 l0 (rd ((rd_T60 l0 a1).f2) x6_2)).f2).length c151_2)) (ds := []) #[false, false, false, false, false, false, false, false, false, false, false, false, false, false, false, false, false, false, false, false, false, false, false, false] (by kernel_rfl) rfl rfl ⟨(blk_cell BK146.out 0).trans rfl, (blk_cell BK146.out 1).trans rfl, (blk_cell BK146.out 2).trans rfl, ((HB.out.cell (World.block_lt_of_cell? w _ hw149_0)).trans hw149_0), ((HB.out.cell (World.block_lt_of_cell? w _ hw149_1)).trans hw149_1), ((HB.out.cell (World.block_lt_of_cell? w _ hw149_2)).trans hw149_2), ((HB.out.cell (World.block_lt_of_cell? w _ hw151_0)).trans hw151_0), ((HB.out.cell (World.block_lt_of_cell? w _ hw151_1)).trans hw151_1), ((HB.out.cell (World.block_lt_of_cell? w _ hw151_2)).trans hw151_2)⟩ (fun hHeld => ?_); refine with_tabW exactpplref19_sound.tab10 exactpplref19_sound.bits10 (fun HT_ HW_ => ?_)
                 generalize wr.drew = w35 at BK146 HB HR149_2 HR151_2 hx149_0 hx149_1 hx149_2 hx151_0 hx151_1 hx151_2 hHeld ⊢
                 refine pu_ HT_ 0 67 (bm 24 1) ?_
                 refine pu_ HT_ 1 68 (bm 24 3) ?_
                 refine pu_ HT_ 2 69 (bm 24 7) ?_
                 refine pu_ HT_ 3 70 (bm 24 15) ?_
                 refine pu_ HT_ 4 71 (bm 24 31) ?_
                 refine pu_ HT_ 5 72 (bm 24 63) ?_
                 refine pu_ HT_ 6 73 (bm 24 127) ?_
                 refine pu_ HT_ 7 74 (bm 24 255) ?_
                 refine pu_ HT_ 8 75 (bm 24 511) ?_
                 refine pu_ HT_ 9 76 (bm 24 1023) ?_
                 refine pu_ HT_ 10 77 (bm 24 2047) ?_
                 refine ta_ HT_ HW_ 11 78 (bm 24 4095) hHeld ?_
                 refine one_ (i := 12) (N := some 79) #[true, true, true, true, true, true, true, true, true, true, true, true, true, false, false, false, false, false, false, false, false, false, false, false] rfl rfl (one_of HT_.out (by kernel_rfl)) (by decide) (fun K hK => ?_)
                 refine goes_ Tryd.func55 (by kernel_rfl) rfl #[.agg #[.int .i64 ((rd_T60 l0 (rd ((rd_T60 l0 a1).f2) x6_2)).f0), .int .i64 ((rd_T60 l0 (rd ((rd_T60 l0 a1).f2) x6_2)).f1), .slice A149_2 ((rd_T60 l0 (rd ((rd_T60 l0 a1).f2) x6_2)).f2).length c149_2]] (by rfl) rfl rfl (by (try simp only [List.map_toArray, List.map_cons, List.map_nil]); first | done | rfl | (simp only [List.length_drop, List.length_take]; rfl)) ?_
                 with_reducible refine (exactpplref19_IsBranch.calls ((rd_T60 l0 (rd ((rd_T60 l0 a1).f2) x6_2)).f0) ((rd_T60 l0 (rd ((rd_T60 l0 a1).f2) x6_2)).f1) _ _ ((rd_T60 l0 (rd ((rd_T60 l0 a1).f2) x6_2)).f2) true _ ?side1 ?side2 A31.out).mono ?_
                 (case side1 => repeat (first | exact (Kd.C_below HR149_2.out HB.out) | (with_reducible refine Kd.C_alloc ?_ _) | (with_reducible refine Kd.C_drewN ?_ _) | (with_reducible refine Kd.C_drew ?_)))
                 (case side2 => exact HC149_2.out)
                 rintro e w36 ⟨rfl, hb⟩
                 refine ⟨_, rfl, ?_⟩
                 replace BK146 := Aside0.mk (blk_below (g := gb146) (o := .cells #[.int .i64 ((rd_T60 l0 a1).f0), .int .i64 ((rd_T60 l0 a1).f1), .slice (some ad148) ((rd_T60 l0 a1).f2).length c145_2] 60 (0, 0)) bk_ hb)
                 replace HB := Aside0.mk (below_step bl_ hb)
                 (try clear hb)
                 (try clear hb2)
                 (try clear hk)
                 (try clear hi)
                 refine hK.out _ _ ⟨(blk_cell BK146.out 0).trans rfl, (blk_cell BK146.out 1).trans rfl, (blk_cell BK146.out 2).trans rfl, ((HB.out.cell (World.block_lt_of_cell? w _ hw149_0)).trans hw149_0), ((HB.out.cell (World.block_lt_of_cell? w _ hw149_1)).trans hw149_1), ((HB.out.cell (World.block_lt_of_cell? w _ hw149_2)).trans hw149_2), ((HB.out.cell (World.block_lt_of_cell? w _ hw151_0)).trans hw151_0), ((HB.out.cell (World.block_lt_of_cell? w _ hw151_1)).trans hw151_1), ((HB.out.cell (World.block_lt_of_cell? w _ hw151_2)).trans hw151_2)⟩ (fun hHeld => ?_)
                 clear hK K
                 refine norm_ (a' := ?_) ?_ ?_
                 rotate_left
                 ·show Act.put _ (some 79) _ = _
                  simp only [Act.put, List.setIfInBounds_toArray, List.set_cons_zero, List.set_cons_succ, i64_w, i32_w]
                  rfl
                 refine pu_ HT_ 13 80 (bm 24 16383) ?_
                 refine pu_ HT_ 14 81 (bm 24 32767) ?_
                 refine pu_ HT_ 15 82 (bm 24 65535) ?_
                 refine pu_ HT_ 16 83 (bm 24 131071) ?_
                 refine pu_ HT_ 17 84 (bm 24 262143) ?_
                 refine pu_ HT_ 19 86 (bm 24 786431) ?_
                 refine ta_ HT_ HW_ 18 85 (bm 24 1048575) hHeld ?_
                 refine ta_ HT_ HW_ 20 87 (bm 24 2097151) hHeld ?_
                 refine pu_ HT_ 21 88 (bm 24 4194303) ?_
                 refine pu_ HT_ 22 89 (bm 24 8388607) ?_
                 refine pu_ HT_ 23 90 #[true, true, true, true, true, true, true, true, true, true, true, true, true, true, true, true, true, true, true, true, true, true, true, true] ?_
                 refine done_ (done_of HT_.out (by kernel_rfl)) ?_
                 try go_wp2
                 go_ret
                 exact ⟨re_, bl_⟩
                ·rw [if_neg c33] at H
                 have c33b0 : decide (((rd_T60 l0 (rd ((rd_T60 l0 a1).f2) x6_2)).f0) ≤ ((rd_T60 l0 a1).f0)) = false := decide_eq_false c33
                 clear c33
                 have H' := Aside0.mk H
                 clear H
                 obtain ⟨hcz37_0, hcz37_1, hcz37_2, hfz37_0, hfz37_1, hfz37_2⟩ := cf3_ BK146.out
                 have p148 : 0 ≤ (x6_2 : Int) := dt_
                 have q148 : x6_2 < (((rd_T60 l0 a1).f2).length : Int) := dt_
                 obtain ⟨ad148, e148, hx148_0⟩ := Kd.at_int HR145_2.out x6_2 p148 q148
                 cases e148
                 replace hx148_0 := (HB.out.cell (World.block_lt_of_cell? w _ hx148_0)).trans hx148_0
                 replace p148 := eq_true p148
                 replace q148 := eq_true q148
                 try go_wp2
                 replace BK146 := Aside0.mk (blk_drew BK146.out)
                 replace HB := Aside0.mk (below_drew1 HB.out)
                 have p149 : 0 ≤ ((rd ((rd_T60 l0 a1).f2) x6_2) : Int) := dt_
                 have q149 : (rd ((rd_T60 l0 a1).f2) x6_2) < (l0.length : Int) := dt_
                 obtain ⟨ad149, A149_2, c149_2, e149, hx149_0, hx149_1, hx149_2, hl149_2, hi149_2⟩ := at_T60 HR0.out (rd ((rd_T60 l0 a1).f2) x6_2) p149 q149
                 have hw149_2 := hx149_2
                 have hw149_1 := hx149_1
                 have hw149_0 := hx149_0
                 obtain rfl : ad145 = ad149 := (by injection e149)
                 replace hx149_0 := (HB.out.cell (World.block_lt_of_cell? w _ hx149_0)).trans hx149_0
                 replace hx149_1 := (HB.out.cell (World.block_lt_of_cell? w _ hx149_1)).trans hx149_1
                 replace hx149_2 := (HB.out.cell (World.block_lt_of_cell? w _ hx149_2)).trans hx149_2
                 have HR149_2 := Aside0.mk hi149_2
                 have HC149_2 := Aside0.mk hl149_2
                 clear hi149_2 hl149_2
                 replace p149 := eq_true p149
                 replace q149 := eq_true q149
                 have p151 : 0 ≤ ((rd ((rd_T60 l0 a1).f2) x6_2) : Int) := dt_
                 have q151 : (rd ((rd_T60 l0 a1).f2) x6_2) < (l0.length : Int) := dt_
                 obtain ⟨ad151, A151_2, c151_2, e151, hx151_0, hx151_1, hx151_2, hl151_2, hi151_2⟩ := at_T60 HR0.out (rd ((rd_T60 l0 a1).f2) x6_2) p151 q151
                 have hw151_2 := hx151_2
                 have hw151_1 := hx151_1
                 have hw151_0 := hx151_0
                 obtain rfl : ad145 = ad151 := (by injection e151)
                 replace hx151_0 := (HB.out.cell (World.block_lt_of_cell? w _ hx151_0)).trans hx151_0
                 replace hx151_1 := (HB.out.cell (World.block_lt_of_cell? w _ hx151_1)).trans hx151_1
                 replace hx151_2 := (HB.out.cell (World.block_lt_of_cell? w _ hx151_2)).trans hx151_2
                 have HR151_2 := Aside0.mk hi151_2
                 have HC151_2 := Aside0.mk hl151_2
                 clear hi151_2 hl151_2
                 replace p151 := eq_true p151
                 replace q151 := eq_true q151
                 refine start_ (n := 24) (S := fun w' => w'.cell? ⟨gb146, 0, none⟩ = some (.int .i64 ((rd_T60 l0 a1).f0)) ∧ w'.cell? ⟨gb146, 1, none⟩ = some (.int .i64 ((rd_T60 l0 a1).f1)) ∧ w'.cell? ⟨gb146, 2, none⟩ = some (.slice (some ad148) ((rd_T60 l0 a1).f2).length c145_2) ∧ w'.cell? (ad145.add (((rd ((rd_T60 l0 a1).f2) x6_2)).toNat * 3)) = some (.int .i64 ((rd_T60 l0 (rd ((rd_T60 l0 a1).f2) x6_2)).f0)) ∧ w'.cell? ⟨(ad145.add (((rd ((rd_T60 l0 a1).f2) x6_2)).toNat * 3)).block, (ad145.add (((rd ((rd_T60 l0 a1).f2) x6_2)).toNat * 3)).off + 1, none⟩ = some (.int .i64 ((rd_T60 l0 (rd ((rd_T60 l0 a1).f2) x6_2)).f1)) ∧ w'.cell? ⟨(ad145.add (((rd ((rd_T60 l0 a1).f2) x6_2)).toNat * 3)).block, (ad145.add (((rd ((rd_T60 l0 a1).f2) x6_2)).toNat * 3)).off + 2, none⟩ = some (.slice A149_2 ((rd_T60 l0 (rd ((rd_T60 l0 a1).f2) x6_2)).f2).length c149_2) ∧ w'.cell? (ad145.add (((rd ((rd_T60 l0 a1).f2) x6_2)).toNat * 3)) = some (.int .i64 ((rd_T60 l0 (rd ((rd_T60 l0 a1).f2) x6_2)).f0)) ∧ w'.cell? ⟨(ad145.add (((rd ((rd_T60 l0 a1).f2) x6_2)).toNat * 3)).block, (ad145.add (((rd ((rd_T60 l0 a1).f2) x6_2)).toNat * 3)).off + 1, none⟩ = some (.int .i64 ((rd_T60 l0 (rd ((rd_T60 l0 a1).f2) x6_2)).f1)) ∧ w'.cell? ⟨(ad145.add (((rd ((rd_T60 l0 a1).f2) x6_2)).toNat * 3)).block, (ad145.add (((rd ((rd_T60 l0 a1).f2) x6_2)).toNat * 3)).off + 2, none⟩ = some (.slice A151_2 ((rd_T60 l0 (rd ((rd_T60 l0 a1).f2) x6_2)).f2).length c151_2)) (ds := []) #[false, false, false, false, false, false, false, false, false, false, false, false, false, false, false, false, false, false, false, false, false, false, false, false] (by kernel_rfl) rfl rfl ⟨(blk_cell BK146.out 0).trans rfl, (blk_cell BK146.out 1).trans rfl, (blk_cell BK146.out 2).trans rfl, ((HB.out.cell (World.block_lt_of_cell? w _ hw149_0)).trans hw149_0), ((HB.out.cell (World.block_lt_of_cell? w _ hw149_1)).trans hw149_1), ((HB.out.cell (World.block_lt_of_cell? w _ hw149_2)).trans hw149_2), ((HB.out.cell (World.block_lt_of_cell? w _ hw151_0)).trans hw151_0), ((HB.out.cell (World.block_lt_of_cell? w _ hw151_1)).trans hw151_1), ((HB.out.cell (World.block_lt_of_cell? w _ hw151_2)).trans hw151_2)⟩ (fun hHeld => ?_); refine with_tabW exactpplref19_sound.tab10 exactpplref19_sound.bits10 (fun HT_ HW_ => ?_)
                 generalize wr.drew = w38 at BK146 HB HR149_2 HR151_2 hx149_0 hx149_1 hx149_2 hx151_0 hx151_1 hx151_2 hHeld ⊢
                 refine pu_ HT_ 0 67 (bm 24 1) ?_
                 refine pu_ HT_ 1 68 (bm 24 3) ?_
                 refine pu_ HT_ 2 69 (bm 24 7) ?_
                 refine pu_ HT_ 3 70 (bm 24 15) ?_
                 refine pu_ HT_ 4 71 (bm 24 31) ?_
                 refine pu_ HT_ 5 72 (bm 24 63) ?_
                 refine pu_ HT_ 6 73 (bm 24 127) ?_
                 refine pu_ HT_ 7 74 (bm 24 255) ?_
                 refine pu_ HT_ 8 75 (bm 24 511) ?_
                 refine pu_ HT_ 9 76 (bm 24 1023) ?_
                 refine pu_ HT_ 10 77 (bm 24 2047) ?_
                 refine ta_ HT_ HW_ 11 78 (bm 24 4095) hHeld ?_
                 refine one_ (i := 12) (N := some 79) #[true, true, true, true, true, true, true, true, true, true, true, true, true, false, false, false, false, false, false, false, false, false, false, false] rfl rfl (one_of HT_.out (by kernel_rfl)) (by decide) (fun K hK => ?_)
                 refine goes_ Tryd.func55 (by kernel_rfl) rfl #[.agg #[.int .i64 ((rd_T60 l0 (rd ((rd_T60 l0 a1).f2) x6_2)).f0), .int .i64 ((rd_T60 l0 (rd ((rd_T60 l0 a1).f2) x6_2)).f1), .slice A149_2 ((rd_T60 l0 (rd ((rd_T60 l0 a1).f2) x6_2)).f2).length c149_2]] (by rfl) rfl rfl (by (try simp only [List.map_toArray, List.map_cons, List.map_nil]); first | done | rfl | (simp only [List.length_drop, List.length_take]; rfl)) ?_
                 with_reducible refine (exactpplref19_IsBranch.calls ((rd_T60 l0 (rd ((rd_T60 l0 a1).f2) x6_2)).f0) ((rd_T60 l0 (rd ((rd_T60 l0 a1).f2) x6_2)).f1) _ _ ((rd_T60 l0 (rd ((rd_T60 l0 a1).f2) x6_2)).f2) true _ ?side1 ?side2 A31.out).mono ?_
                 (case side1 => repeat (first | exact (Kd.C_below HR149_2.out HB.out) | (with_reducible refine Kd.C_alloc ?_ _) | (with_reducible refine Kd.C_drewN ?_ _) | (with_reducible refine Kd.C_drew ?_)))
                 (case side2 => exact HC149_2.out)
                 rintro e w39 ⟨rfl, hb⟩
                 refine ⟨_, rfl, ?_⟩
                 replace BK146 := Aside0.mk (blk_below (g := gb146) (o := .cells #[.int .i64 ((rd_T60 l0 a1).f0), .int .i64 ((rd_T60 l0 a1).f1), .slice (some ad148) ((rd_T60 l0 a1).f2).length c145_2] 60 (0, 0)) bk_ hb)
                 replace HB := Aside0.mk (below_step bl_ hb)
                 (try clear hb)
                 (try clear hb2)
                 (try clear hk)
                 (try clear hi)
                 refine hK.out _ _ ⟨(blk_cell BK146.out 0).trans rfl, (blk_cell BK146.out 1).trans rfl, (blk_cell BK146.out 2).trans rfl, ((HB.out.cell (World.block_lt_of_cell? w _ hw149_0)).trans hw149_0), ((HB.out.cell (World.block_lt_of_cell? w _ hw149_1)).trans hw149_1), ((HB.out.cell (World.block_lt_of_cell? w _ hw149_2)).trans hw149_2), ((HB.out.cell (World.block_lt_of_cell? w _ hw151_0)).trans hw151_0), ((HB.out.cell (World.block_lt_of_cell? w _ hw151_1)).trans hw151_1), ((HB.out.cell (World.block_lt_of_cell? w _ hw151_2)).trans hw151_2)⟩ (fun hHeld => ?_)
                 clear hK K
                 refine norm_ (a' := ?_) ?_ ?_
                 rotate_left
                 ·show Act.put _ (some 79) _ = _
                  simp only [Act.put, List.setIfInBounds_toArray, List.set_cons_zero, List.set_cons_succ, i64_w, i32_w]
                  rfl
                 refine pu_ HT_ 13 80 (bm 24 16383) ?_
                 refine pu_ HT_ 14 81 (bm 24 32767) ?_
                 refine pu_ HT_ 15 82 (bm 24 65535) ?_
                 refine pu_ HT_ 16 83 (bm 24 131071) ?_
                 refine pu_ HT_ 17 84 (bm 24 262143) ?_
                 refine pu_ HT_ 19 86 (bm 24 786431) ?_
                 refine ta_ HT_ HW_ 18 85 (bm 24 1048575) hHeld ?_
                 refine ta_ HT_ HW_ 20 87 (bm 24 2097151) hHeld ?_
                 refine pu_ HT_ 21 88 (bm 24 4194303) ?_
                 refine pu_ HT_ 22 89 (bm 24 8388607) ?_
                 refine pu_ HT_ 23 90 #[true, true, true, true, true, true, true, true, true, true, true, true, true, true, true, true, true, true, true, true, true, true, true, true] ?_
                 refine done_ (done_of HT_.out (by kernel_rfl)) ?_
                 try go_wp2
                 go_roundg k2
                 case measure => have := HJ6.out; have := HK2.out; omega
                 case rel => exact ⟨(wrap64 (x6_2 + 1)), rs_, H', ⟨by have := HJ6.out; have := HK2.out; omega⟩, ⟨bk_⟩, ⟨bl_⟩⟩
               ·replace c32 := Bool.eq_false_iff.mpr c32
                subst c32
                have H1 : (exactpplref19_sound.l0 k2 l0 a1 (wrap64 (x6_2 + 1)) ((rd_T60 l0 a1).f0) ((rd_T60 l0 a1).f1) ((rd_T60 l0 a1).f2)) = some r := by rw [if_neg (show ¬ (false = true) by decide)] at H; exact H
                clear H
                have H := H1
                clear H1
                have H' := Aside0.mk H
                clear H
                obtain ⟨hcz40_0, hcz40_1, hcz40_2, hfz40_0, hfz40_1, hfz40_2⟩ := cf3_ BK146.out
                have p148 : 0 ≤ (x6_2 : Int) := dt_
                have q148 : x6_2 < (((rd_T60 l0 a1).f2).length : Int) := dt_
                obtain ⟨ad148, e148, hx148_0⟩ := Kd.at_int HR145_2.out x6_2 p148 q148
                cases e148
                replace hx148_0 := (HB.out.cell (World.block_lt_of_cell? w _ hx148_0)).trans hx148_0
                replace p148 := eq_true p148
                replace q148 := eq_true q148
                try go_wp2
                replace BK146 := Aside0.mk (blk_drew BK146.out)
                replace HB := Aside0.mk (below_drew1 HB.out)
                have p149 : 0 ≤ ((rd ((rd_T60 l0 a1).f2) x6_2) : Int) := dt_
                have q149 : (rd ((rd_T60 l0 a1).f2) x6_2) < (l0.length : Int) := dt_
                obtain ⟨ad149, A149_2, c149_2, e149, hx149_0, hx149_1, hx149_2, hl149_2, hi149_2⟩ := at_T60 HR0.out (rd ((rd_T60 l0 a1).f2) x6_2) p149 q149
                have hw149_2 := hx149_2
                have hw149_1 := hx149_1
                have hw149_0 := hx149_0
                obtain rfl : ad145 = ad149 := (by injection e149)
                replace hx149_0 := (HB.out.cell (World.block_lt_of_cell? w _ hx149_0)).trans hx149_0
                replace hx149_1 := (HB.out.cell (World.block_lt_of_cell? w _ hx149_1)).trans hx149_1
                replace hx149_2 := (HB.out.cell (World.block_lt_of_cell? w _ hx149_2)).trans hx149_2
                have HR149_2 := Aside0.mk hi149_2
                have HC149_2 := Aside0.mk hl149_2
                clear hi149_2 hl149_2
                replace p149 := eq_true p149
                replace q149 := eq_true q149
                refine start_ (n := 24) (S := fun w' => w'.cell? (ad145.add (((rd ((rd_T60 l0 a1).f2) x6_2)).toNat * 3)) = some (.int .i64 ((rd_T60 l0 (rd ((rd_T60 l0 a1).f2) x6_2)).f0)) ∧ w'.cell? ⟨(ad145.add (((rd ((rd_T60 l0 a1).f2) x6_2)).toNat * 3)).block, (ad145.add (((rd ((rd_T60 l0 a1).f2) x6_2)).toNat * 3)).off + 1, none⟩ = some (.int .i64 ((rd_T60 l0 (rd ((rd_T60 l0 a1).f2) x6_2)).f1)) ∧ w'.cell? ⟨(ad145.add (((rd ((rd_T60 l0 a1).f2) x6_2)).toNat * 3)).block, (ad145.add (((rd ((rd_T60 l0 a1).f2) x6_2)).toNat * 3)).off + 2, none⟩ = some (.slice A149_2 ((rd_T60 l0 (rd ((rd_T60 l0 a1).f2) x6_2)).f2).length c149_2)) (ds := []) #[false, false, false, false, false, false, false, false, false, false, false, false, false, false, false, false, false, false, false, false, false, false, false, false] (by kernel_rfl) rfl rfl ⟨((HB.out.cell (World.block_lt_of_cell? w _ hw149_0)).trans hw149_0), ((HB.out.cell (World.block_lt_of_cell? w _ hw149_1)).trans hw149_1), ((HB.out.cell (World.block_lt_of_cell? w _ hw149_2)).trans hw149_2)⟩ (fun hHeld => ?_); refine with_tabW exactpplref19_sound.tab10 exactpplref19_sound.bits10 (fun HT_ HW_ => ?_)
                generalize wr.drew = w41 at BK146 HB HR149_2 hx149_0 hx149_1 hx149_2 hHeld ⊢
                refine pu_ HT_ 0 67 (bm 24 1) ?_
                refine pu_ HT_ 1 68 (bm 24 3) ?_
                refine pu_ HT_ 2 69 (bm 24 7) ?_
                refine pu_ HT_ 3 70 (bm 24 15) ?_
                refine pu_ HT_ 4 71 (bm 24 31) ?_
                refine pu_ HT_ 5 72 (bm 24 63) ?_
                refine pu_ HT_ 6 73 (bm 24 127) ?_
                refine pu_ HT_ 7 74 (bm 24 255) ?_
                refine pu_ HT_ 8 75 (bm 24 511) ?_
                refine pu_ HT_ 9 76 (bm 24 1023) ?_
                refine pu_ HT_ 10 77 (bm 24 2047) ?_
                refine ta_ HT_ HW_ 11 78 (bm 24 4095) hHeld ?_
                refine one_ (i := 12) (N := some 79) #[true, true, true, true, true, true, true, true, true, true, true, true, true, false, false, false, false, false, false, false, false, false, false, false] rfl rfl (one_of HT_.out (by kernel_rfl)) (by decide) (fun K hK => ?_)
                refine goes_ Tryd.func55 (by kernel_rfl) rfl #[.agg #[.int .i64 ((rd_T60 l0 (rd ((rd_T60 l0 a1).f2) x6_2)).f0), .int .i64 ((rd_T60 l0 (rd ((rd_T60 l0 a1).f2) x6_2)).f1), .slice A149_2 ((rd_T60 l0 (rd ((rd_T60 l0 a1).f2) x6_2)).f2).length c149_2]] (by rfl) rfl rfl (by (try simp only [List.map_toArray, List.map_cons, List.map_nil]); first | done | rfl | (simp only [List.length_drop, List.length_take]; rfl)) ?_
                with_reducible refine (exactpplref19_IsBranch.calls ((rd_T60 l0 (rd ((rd_T60 l0 a1).f2) x6_2)).f0) ((rd_T60 l0 (rd ((rd_T60 l0 a1).f2) x6_2)).f1) _ _ ((rd_T60 l0 (rd ((rd_T60 l0 a1).f2) x6_2)).f2) false _ ?side1 ?side2 A31.out).mono ?_
                (case side1 => repeat (first | exact (Kd.C_below HR149_2.out HB.out) | (with_reducible refine Kd.C_alloc ?_ _) | (with_reducible refine Kd.C_drewN ?_ _) | (with_reducible refine Kd.C_drew ?_)))
                (case side2 => exact HC149_2.out)
                rintro e w42 ⟨rfl, hb⟩
                refine ⟨_, rfl, ?_⟩
                replace BK146 := Aside0.mk (blk_below (g := gb146) (o := .cells #[.int .i64 ((rd_T60 l0 a1).f0), .int .i64 ((rd_T60 l0 a1).f1), .slice (some ad148) ((rd_T60 l0 a1).f2).length c145_2] 60 (0, 0)) bk_ hb)
                replace HB := Aside0.mk (below_step bl_ hb)
                (try clear hb)
                (try clear hb2)
                (try clear hk)
                (try clear hi)
                refine hK.out _ _ ⟨((HB.out.cell (World.block_lt_of_cell? w _ hw149_0)).trans hw149_0), ((HB.out.cell (World.block_lt_of_cell? w _ hw149_1)).trans hw149_1), ((HB.out.cell (World.block_lt_of_cell? w _ hw149_2)).trans hw149_2)⟩ (fun hHeld => ?_)
                clear hK K
                refine norm_ (a' := ?_) ?_ ?_
                rotate_left
                ·show Act.put _ (some 79) _ = _
                 simp only [Act.put, List.setIfInBounds_toArray, List.set_cons_zero, List.set_cons_succ, i64_w, i32_w]
                 rfl
                refine pu_ HT_ 13 80 (bm 24 16383) ?_
                refine pf_ HT_ 14 81 (bm 24 32767) ?_
                refine pf_ HT_ 15 82 (bm 24 65535) ?_
                refine pf_ HT_ 16 83 (bm 24 131071) ?_
                refine pf_ HT_ 17 84 (bm 24 262143) ?_
                refine pf_ HT_ 18 85 (bm 24 524287) ?_
                refine pf_ HT_ 19 86 (bm 24 1048575) ?_
                refine pf_ HT_ 20 87 (bm 24 2097151) ?_
                refine pf_ HT_ 21 88 (bm 24 4194303) ?_
                refine pu_ HT_ 22 89 (bm 24 8388607) ?_
                refine pu_ HT_ 23 90 #[true, true, true, true, true, true, true, true, true, true, true, true, true, true, true, true, true, true, true, true, true, true, true, true] ?_
                refine done_ (done_of HT_.out (by kernel_rfl)) ?_
                try go_wp2
                go_roundg k2
                case measure => have := HJ6.out; have := HK2.out; omega
                case rel => exact ⟨(wrap64 (x6_2 + 1)), rs_, H', ⟨by have := HJ6.out; have := HK2.out; omega⟩, ⟨bk_⟩, ⟨bl_⟩⟩
              ·rw [if_neg c30] at H
               exact absurd H (by simp)
             ·rw [if_neg c29] at H
              exact absurd H (by simp)
          ·rw [if_neg c22] at H
           exact absurd H (by simp)
         ·rw [if_neg c21] at H
          have c21b0 : decide (x6_2 < (((rd_T60 l0 a1).f2).length : Int)) = false := decide_eq_false c21
          clear c21
          have H' := Aside0.mk H
          clear H
          obtain ⟨hcz43_0, hcz43_1, hcz43_2, hfz43_0, hfz43_1, hfz43_2⟩ := cf3_ BK146.out
          go_wp2
          go_loopg [8] k2 (fun kq v8 w' => ∃ (x8_3 : Int), v8 = .int .i64 x8_3 ∧ Aside0 (exactpplref19_sound.l1 kq l0 a1 x8_3 ((rd_T60 l0 a1).f0) ((rd_T60 l0 a1).f1) ((rd_T60 l0 a1).f2) = some r) ∧ Aside0 (kq ≤ k2) ∧ Aside0 (w'.heap[gb146]? = some (.cells #[.int .i64 ((rd_T60 l0 a1).f0), .int .i64 ((rd_T60 l0 a1).f1), (.slice A145_2 ((rd_T60 l0 a1).f2).length c145_2)] 60 (0, 0))) ∧ Aside0 (Below w.heap.size w w'))
          case atStart => exact ⟨(0), rs_, H', ⟨Nat.le_refl _⟩, ⟨bk_⟩, ⟨bl_⟩⟩
          case round =>
           clear H'
           try clear c1
           try clear p1
           try clear q1
           try clear hx1
           try clear c2
           try clear p2
           try clear c3
           try clear c5
           try clear p6
           try clear c14
           try clear p14
           try clear q14
           try clear hx14
           try clear c15
           try clear p15
           try clear q15
           try clear hx15
           try clear c21
           try clear c21b0
           try clear c22
           try clear c29
           try clear c30
           try clear c32
           try clear c33
           try clear c33b0
           try clear hcz37_0 hcz37_1 hcz37_2 hfz37_0 hfz37_1 hfz37_2
           try clear hcz40_0 hcz40_1 hcz40_2 hfz40_0 hfz40_1 hfz40_2
           try clear hcz43_0 hcz43_1 hcz43_2 hfz43_0 hfz43_1 hfz43_2
           try clear hx148_0
           try clear hx149_0
           try clear hx149_1
           try clear hx149_2
           try clear hx151_0
           try clear hx151_1
           try clear hx151_2
           try clear p148
           try clear p149
           try clear p151
           try clear q148
           try clear q149
           try clear q151
           obtain ⟨x8_3, rfl, HA, HK3, BK146, HB⟩ := hrel
           cases gk with
           | zero => exact absurd HA.out (by simp [exactpplref19_sound.l1])
           | succ k3 =>
            have H := HA.out
            clear HA
            simp only [exactpplref19_sound.l1] at H
            by_cases c44 : x8_3 < a1
            ·rw [if_pos c44] at H
             have c44b0 : decide (x8_3 < a1) = true := decide_eq_true c44
             clear c44
             by_cases c45 : 0 ≤ x8_3
             ·rw [if_pos c45] at H
              have c45b0 : decide (0 ≤ x8_3) = true := decide_eq_true c45
              clear c45
              by_cases c46 : x8_3 < (l0.length : Int)
              ·rw [if_pos c46] at H
               have c46b0 : decide (x8_3 < (l0.length : Int)) = true := decide_eq_true c46
               clear c46
               by_cases c47 : ((rd_T60 l0 x8_3).f0) = ((rd_T60 l0 a1).f0)
               ·rw [if_pos c47] at H
                have c47b0 : (((rd_T60 l0 x8_3).f0) == ((rd_T60 l0 a1).f0)) = true := beq_iff_eq.mpr c47
                have c47b1 : (((rd_T60 l0 x8_3).f0) != ((rd_T60 l0 a1).f0)) = false := bne_eq_false_iff_eq.mpr c47
                clear c47
                by_cases c48 : (((rd_T60 l0 x8_3).f2).length : Int) = (((rd_T60 l0 a1).f2).length : Int)
                ·rw [if_pos c48] at H
                 have c48b0 : ((((rd_T60 l0 x8_3).f2).length : Int) == (((rd_T60 l0 a1).f2).length : Int)) = true := beq_iff_eq.mpr c48
                 have c48b1 : ((((rd_T60 l0 x8_3).f2).length : Int) != (((rd_T60 l0 a1).f2).length : Int)) = false := bne_eq_false_iff_eq.mpr c48
                 have c48b2 : (((rd_T60 l0 x8_3).f2).length == ((rd_T60 l0 a1).f2).length) = true := by first | simpa using c48 | (simp at c48 ⊢; omega)
                 clear c48
                 have H' := Aside0.mk H
                 clear H
                 try go_wp2
                 replace BK146 := Aside0.mk (blk_drew BK146.out)
                 replace HB := Aside0.mk (below_drew1 HB.out)
                 have p152 : 0 ≤ (x8_3 : Int) := dt_
                 have q152 : x8_3 < (l0.length : Int) := dt_
                 obtain ⟨ad152, A152_2, c152_2, e152, hx152_0, hx152_1, hx152_2, hl152_2, hi152_2⟩ := at_T60 HR0.out x8_3 p152 q152
                 have hw152_2 := hx152_2
                 have hw152_1 := hx152_1
                 have hw152_0 := hx152_0
                 obtain rfl : ad145 = ad152 := (by injection e152)
                 replace hx152_0 := (HB.out.cell (World.block_lt_of_cell? w _ hx152_0)).trans hx152_0
                 replace hx152_1 := (HB.out.cell (World.block_lt_of_cell? w _ hx152_1)).trans hx152_1
                 replace hx152_2 := (HB.out.cell (World.block_lt_of_cell? w _ hx152_2)).trans hx152_2
                 have HR152_2 := Aside0.mk hi152_2
                 have HC152_2 := Aside0.mk hl152_2
                 clear hi152_2 hl152_2
                 replace p152 := eq_true p152
                 replace q152 := eq_true q152
                 have p153 : 0 ≤ (x8_3 : Int) := dt_
                 have q153 : x8_3 < (l0.length : Int) := dt_
                 obtain ⟨ad153, A153_2, c153_2, e153, hx153_0, hx153_1, hx153_2, hl153_2, hi153_2⟩ := at_T60 HR0.out x8_3 p153 q153
                 have hw153_2 := hx153_2
                 have hw153_1 := hx153_1
                 have hw153_0 := hx153_0
                 obtain rfl : ad145 = ad153 := (by injection e153)
                 replace hx153_0 := (HB.out.cell (World.block_lt_of_cell? w _ hx153_0)).trans hx153_0
                 replace hx153_1 := (HB.out.cell (World.block_lt_of_cell? w _ hx153_1)).trans hx153_1
                 replace hx153_2 := (HB.out.cell (World.block_lt_of_cell? w _ hx153_2)).trans hx153_2
                 have HR153_2 := Aside0.mk hi153_2
                 have HC153_2 := Aside0.mk hl153_2
                 clear hi153_2 hl153_2
                 replace p153 := eq_true p153
                 replace q153 := eq_true q153
                 have ea_ := Option.some.inj (hx152_2.symm.trans hx153_2)
                 injection ea_ with ea_ en_ ec_
                 subst ea_
                 subst ec_
                 clear en_
                 refine start_ (n := 20) (S := fun w' => w'.cell? ⟨gb146, 0, none⟩ = some (.int .i64 ((rd_T60 l0 a1).f0)) ∧ w'.cell? ⟨gb146, 1, none⟩ = some (.int .i64 ((rd_T60 l0 a1).f1)) ∧ w'.cell? ⟨gb146, 2, none⟩ = some (.slice A145_2 ((rd_T60 l0 a1).f2).length c145_2) ∧ w'.cell? (ad145.add ((x8_3).toNat * 3)) = some (.int .i64 ((rd_T60 l0 x8_3).f0)) ∧ w'.cell? ⟨(ad145.add ((x8_3).toNat * 3)).block, (ad145.add ((x8_3).toNat * 3)).off + 1, none⟩ = some (.int .i64 ((rd_T60 l0 x8_3).f1)) ∧ w'.cell? ⟨(ad145.add ((x8_3).toNat * 3)).block, (ad145.add ((x8_3).toNat * 3)).off + 2, none⟩ = some (.slice A152_2 ((rd_T60 l0 x8_3).f2).length c152_2) ∧ w'.cell? (ad145.add ((x8_3).toNat * 3)) = some (.int .i64 ((rd_T60 l0 x8_3).f0)) ∧ w'.cell? ⟨(ad145.add ((x8_3).toNat * 3)).block, (ad145.add ((x8_3).toNat * 3)).off + 1, none⟩ = some (.int .i64 ((rd_T60 l0 x8_3).f1)) ∧ w'.cell? ⟨(ad145.add ((x8_3).toNat * 3)).block, (ad145.add ((x8_3).toNat * 3)).off + 2, none⟩ = some (.slice A152_2 ((rd_T60 l0 x8_3).f2).length c152_2)) (ds := []) #[false, false, false, false, false, false, false, false, false, false, false, false, false, false, false, false, false, false, false, false] (by kernel_rfl) rfl rfl ⟨(blk_cell BK146.out 0).trans rfl, (blk_cell BK146.out 1).trans rfl, (blk_cell BK146.out 2).trans rfl, ((HB.out.cell (World.block_lt_of_cell? w _ hw152_0)).trans hw152_0), ((HB.out.cell (World.block_lt_of_cell? w _ hw152_1)).trans hw152_1), ((HB.out.cell (World.block_lt_of_cell? w _ hw152_2)).trans hw152_2), ((HB.out.cell (World.block_lt_of_cell? w _ hw153_0)).trans hw153_0), ((HB.out.cell (World.block_lt_of_cell? w _ hw153_1)).trans hw153_1), ((HB.out.cell (World.block_lt_of_cell? w _ hw153_2)).trans hw153_2)⟩ (fun hHeld => ?_); refine with_tabW exactpplref19_sound.tab15 exactpplref19_sound.bits15 (fun HT_ HW_ => ?_)
                 generalize wr.drew = w49 at BK146 HB HR152_2 HR153_2 hx152_0 hx152_1 hx152_2 hx153_0 hx153_1 hx153_2 hHeld ⊢
                 refine pu_ HT_ 0 96 (bm 20 1) ?_
                 refine pu_ HT_ 1 97 (bm 20 3) ?_
                 refine pu_ HT_ 2 98 (bm 20 7) ?_
                 refine pu_ HT_ 3 99 (bm 20 15) ?_
                 refine pu_ HT_ 5 101 (bm 20 47) ?_
                 refine ta_ HT_ HW_ 4 100 (bm 20 63) hHeld ?_
                 refine ta_ HT_ HW_ 6 102 (bm 20 127) hHeld ?_
                 refine pu_ HT_ 7 103 (bm 20 255) ?_
                 refine pu_ HT_ 8 104 (bm 20 511) ?_
                 refine pu_ HT_ 9 105 (bm 20 1023) ?_
                 refine pu_ HT_ 10 106 (bm 20 2047) ?_
                 refine pu_ HT_ 11 107 (bm 20 4095) ?_
                 refine pu_ HT_ 12 108 (bm 20 8191) ?_
                 refine pu_ HT_ 15 111 (bm 20 40959) ?_
                 refine ta_ HT_ HW_ 13 109 (bm 20 49151) hHeld ?_
                 refine pu_ HT_ 14 110 (bm 20 65535) ?_
                 refine ta_ HT_ HW_ 16 112 (bm 20 131071) hHeld ?_
                 refine pu_ HT_ 17 113 (bm 20 262143) ?_
                 refine pu_ HT_ 18 114 (bm 20 524287) ?_
                 refine pu_ HT_ 19 115 #[true, true, true, true, true, true, true, true, true, true, true, true, true, true, true, true, true, true, true, true] ?_
                 refine done_ (done_of HT_.out (by kernel_rfl)) ?_
                 try go_wp2
                 go_roundg k3
                 case measure => have := HJ6.out; have := HK2.out; have := HK3.out; omega
                 case rel => exact ⟨(wrap64 (x8_3 + 1)), rs_, H', ⟨by have := HJ6.out; have := HK2.out; have := HK3.out; omega⟩, ⟨bk_⟩, ⟨bl_⟩⟩
                ·rw [if_neg c48] at H
                 have c48b0 : ((((rd_T60 l0 x8_3).f2).length : Int) == (((rd_T60 l0 a1).f2).length : Int)) = false := beq_eq_false_iff_ne.mpr c48
                 have c48b1 : ((((rd_T60 l0 x8_3).f2).length : Int) != (((rd_T60 l0 a1).f2).length : Int)) = true := bne_iff_ne.mpr c48
                 have c48b2 : (((rd_T60 l0 x8_3).f2).length == ((rd_T60 l0 a1).f2).length) = false := by first | simpa using c48 | (simp at c48 ⊢; omega)
                 obtain rfl := Option.some.inj H
                 try go_wp2
                 replace BK146 := Aside0.mk (blk_drew BK146.out)
                 replace HB := Aside0.mk (below_drew1 HB.out)
                 have p152 : 0 ≤ (x8_3 : Int) := dt_
                 have q152 : x8_3 < (l0.length : Int) := dt_
                 obtain ⟨ad152, A152_2, c152_2, e152, hx152_0, hx152_1, hx152_2, hl152_2, hi152_2⟩ := at_T60 HR0.out x8_3 p152 q152
                 have hw152_2 := hx152_2
                 have hw152_1 := hx152_1
                 have hw152_0 := hx152_0
                 obtain rfl : ad145 = ad152 := (by injection e152)
                 replace hx152_0 := (HB.out.cell (World.block_lt_of_cell? w _ hx152_0)).trans hx152_0
                 replace hx152_1 := (HB.out.cell (World.block_lt_of_cell? w _ hx152_1)).trans hx152_1
                 replace hx152_2 := (HB.out.cell (World.block_lt_of_cell? w _ hx152_2)).trans hx152_2
                 have HR152_2 := Aside0.mk hi152_2
                 have HC152_2 := Aside0.mk hl152_2
                 clear hi152_2 hl152_2
                 replace p152 := eq_true p152
                 replace q152 := eq_true q152
                 have p153 : 0 ≤ (x8_3 : Int) := dt_
                 have q153 : x8_3 < (l0.length : Int) := dt_
                 obtain ⟨ad153, A153_2, c153_2, e153, hx153_0, hx153_1, hx153_2, hl153_2, hi153_2⟩ := at_T60 HR0.out x8_3 p153 q153
                 have hw153_2 := hx153_2
                 have hw153_1 := hx153_1
                 have hw153_0 := hx153_0
                 obtain rfl : ad145 = ad153 := (by injection e153)
                 replace hx153_0 := (HB.out.cell (World.block_lt_of_cell? w _ hx153_0)).trans hx153_0
                 replace hx153_1 := (HB.out.cell (World.block_lt_of_cell? w _ hx153_1)).trans hx153_1
                 replace hx153_2 := (HB.out.cell (World.block_lt_of_cell? w _ hx153_2)).trans hx153_2
                 have HR153_2 := Aside0.mk hi153_2
                 have HC153_2 := Aside0.mk hl153_2
                 clear hi153_2 hl153_2
                 replace p153 := eq_true p153
                 replace q153 := eq_true q153
                 have ea_ := Option.some.inj (hx152_2.symm.trans hx153_2)
                 injection ea_ with ea_ en_ ec_
                 subst ea_
                 subst ec_
                 clear en_
                 refine start_ (n := 20) (S := fun w' => w'.cell? ⟨gb146, 0, none⟩ = some (.int .i64 ((rd_T60 l0 a1).f0)) ∧ w'.cell? ⟨gb146, 1, none⟩ = some (.int .i64 ((rd_T60 l0 a1).f1)) ∧ w'.cell? ⟨gb146, 2, none⟩ = some (.slice A145_2 ((rd_T60 l0 a1).f2).length c145_2) ∧ w'.cell? (ad145.add ((x8_3).toNat * 3)) = some (.int .i64 ((rd_T60 l0 x8_3).f0)) ∧ w'.cell? ⟨(ad145.add ((x8_3).toNat * 3)).block, (ad145.add ((x8_3).toNat * 3)).off + 1, none⟩ = some (.int .i64 ((rd_T60 l0 x8_3).f1)) ∧ w'.cell? ⟨(ad145.add ((x8_3).toNat * 3)).block, (ad145.add ((x8_3).toNat * 3)).off + 2, none⟩ = some (.slice A152_2 ((rd_T60 l0 x8_3).f2).length c152_2) ∧ w'.cell? (ad145.add ((x8_3).toNat * 3)) = some (.int .i64 ((rd_T60 l0 x8_3).f0)) ∧ w'.cell? ⟨(ad145.add ((x8_3).toNat * 3)).block, (ad145.add ((x8_3).toNat * 3)).off + 1, none⟩ = some (.int .i64 ((rd_T60 l0 x8_3).f1)) ∧ w'.cell? ⟨(ad145.add ((x8_3).toNat * 3)).block, (ad145.add ((x8_3).toNat * 3)).off + 2, none⟩ = some (.slice A152_2 ((rd_T60 l0 x8_3).f2).length c152_2)) (ds := []) #[false, false, false, false, false, false, false, false, false, false, false, false, false, false, false, false, false, false, false, false] (by kernel_rfl) rfl rfl ⟨(blk_cell BK146.out 0).trans rfl, (blk_cell BK146.out 1).trans rfl, (blk_cell BK146.out 2).trans rfl, ((HB.out.cell (World.block_lt_of_cell? w _ hw152_0)).trans hw152_0), ((HB.out.cell (World.block_lt_of_cell? w _ hw152_1)).trans hw152_1), ((HB.out.cell (World.block_lt_of_cell? w _ hw152_2)).trans hw152_2), ((HB.out.cell (World.block_lt_of_cell? w _ hw153_0)).trans hw153_0), ((HB.out.cell (World.block_lt_of_cell? w _ hw153_1)).trans hw153_1), ((HB.out.cell (World.block_lt_of_cell? w _ hw153_2)).trans hw153_2)⟩ (fun hHeld => ?_); refine with_tabW exactpplref19_sound.tab15 exactpplref19_sound.bits15 (fun HT_ HW_ => ?_)
                 generalize wr.drew = w50 at BK146 HB HR152_2 HR153_2 hx152_0 hx152_1 hx152_2 hx153_0 hx153_1 hx153_2 hHeld ⊢
                 refine pu_ HT_ 0 96 (bm 20 1) ?_
                 refine pu_ HT_ 1 97 (bm 20 3) ?_
                 refine pu_ HT_ 2 98 (bm 20 7) ?_
                 refine pu_ HT_ 3 99 (bm 20 15) ?_
                 refine pu_ HT_ 5 101 (bm 20 47) ?_
                 refine ta_ HT_ HW_ 4 100 (bm 20 63) hHeld ?_
                 refine ta_ HT_ HW_ 6 102 (bm 20 127) hHeld ?_
                 refine pu_ HT_ 7 103 (bm 20 255) ?_
                 refine pu_ HT_ 8 104 (bm 20 511) ?_
                 refine pu_ HT_ 9 105 (bm 20 1023) ?_
                 refine pu_ HT_ 10 106 (bm 20 2047) ?_
                 refine pu_ HT_ 11 107 (bm 20 4095) ?_
                 refine pu_ HT_ 12 108 (bm 20 8191) ?_
                 refine pu_ HT_ 15 111 (bm 20 40959) ?_
                 refine ta_ HT_ HW_ 13 109 (bm 20 49151) hHeld ?_
                 refine pu_ HT_ 14 110 (bm 20 65535) ?_
                 refine ta_ HT_ HW_ 16 112 (bm 20 131071) hHeld ?_
                 refine pu_ HT_ 17 113 (bm 20 262143) ?_
                 refine pu_ HT_ 18 114 (bm 20 524287) ?_
                 refine pu_ HT_ 19 115 #[true, true, true, true, true, true, true, true, true, true, true, true, true, true, true, true, true, true, true, true] ?_
                 refine done_ (done_of HT_.out (by kernel_rfl)) ?_
                 try go_wp2
                 go_ret
                 exact ⟨re_, bl_⟩
               ·rw [if_neg c47] at H
                have c47b0 : (((rd_T60 l0 x8_3).f0) == ((rd_T60 l0 a1).f0)) = false := beq_eq_false_iff_ne.mpr c47
                have c47b1 : (((rd_T60 l0 x8_3).f0) != ((rd_T60 l0 a1).f0)) = true := bne_iff_ne.mpr c47
                have H' := Aside0.mk H
                clear H
                try go_wp2
                replace BK146 := Aside0.mk (blk_drew BK146.out)
                replace HB := Aside0.mk (below_drew1 HB.out)
                have p152 : 0 ≤ (x8_3 : Int) := dt_
                have q152 : x8_3 < (l0.length : Int) := dt_
                obtain ⟨ad152, A152_2, c152_2, e152, hx152_0, hx152_1, hx152_2, hl152_2, hi152_2⟩ := at_T60 HR0.out x8_3 p152 q152
                have hw152_2 := hx152_2
                have hw152_1 := hx152_1
                have hw152_0 := hx152_0
                obtain rfl : ad145 = ad152 := (by injection e152)
                replace hx152_0 := (HB.out.cell (World.block_lt_of_cell? w _ hx152_0)).trans hx152_0
                replace hx152_1 := (HB.out.cell (World.block_lt_of_cell? w _ hx152_1)).trans hx152_1
                replace hx152_2 := (HB.out.cell (World.block_lt_of_cell? w _ hx152_2)).trans hx152_2
                have HR152_2 := Aside0.mk hi152_2
                have HC152_2 := Aside0.mk hl152_2
                clear hi152_2 hl152_2
                replace p152 := eq_true p152
                replace q152 := eq_true q152
                refine start_ (n := 20) (S := fun w' => w'.cell? ⟨gb146, 0, none⟩ = some (.int .i64 ((rd_T60 l0 a1).f0)) ∧ w'.cell? ⟨gb146, 1, none⟩ = some (.int .i64 ((rd_T60 l0 a1).f1)) ∧ w'.cell? ⟨gb146, 2, none⟩ = some (.slice A145_2 ((rd_T60 l0 a1).f2).length c145_2) ∧ w'.cell? (ad145.add ((x8_3).toNat * 3)) = some (.int .i64 ((rd_T60 l0 x8_3).f0)) ∧ w'.cell? ⟨(ad145.add ((x8_3).toNat * 3)).block, (ad145.add ((x8_3).toNat * 3)).off + 1, none⟩ = some (.int .i64 ((rd_T60 l0 x8_3).f1)) ∧ w'.cell? ⟨(ad145.add ((x8_3).toNat * 3)).block, (ad145.add ((x8_3).toNat * 3)).off + 2, none⟩ = some (.slice A152_2 ((rd_T60 l0 x8_3).f2).length c152_2)) (ds := []) #[false, false, false, false, false, false, false, false, false, false, false, false, false, false, false, false, false, false, false, false] (by kernel_rfl) rfl rfl ⟨(blk_cell BK146.out 0).trans rfl, (blk_cell BK146.out 1).trans rfl, (blk_cell BK146.out 2).trans rfl, ((HB.out.cell (World.block_lt_of_cell? w _ hw152_0)).trans hw152_0), ((HB.out.cell (World.block_lt_of_cell? w _ hw152_1)).trans hw152_1), ((HB.out.cell (World.block_lt_of_cell? w _ hw152_2)).trans hw152_2)⟩ (fun hHeld => ?_); refine with_tabW exactpplref19_sound.tab15 exactpplref19_sound.bits15 (fun HT_ HW_ => ?_)
                generalize wr.drew = w51 at BK146 HB HR152_2 hx152_0 hx152_1 hx152_2 hHeld ⊢
                refine pu_ HT_ 0 96 (bm 20 1) ?_
                refine pu_ HT_ 1 97 (bm 20 3) ?_
                refine pu_ HT_ 2 98 (bm 20 7) ?_
                refine pu_ HT_ 3 99 (bm 20 15) ?_
                refine pu_ HT_ 5 101 (bm 20 47) ?_
                refine ta_ HT_ HW_ 4 100 (bm 20 63) hHeld ?_
                refine ta_ HT_ HW_ 6 102 (bm 20 127) hHeld ?_
                refine pu_ HT_ 7 103 (bm 20 255) ?_
                refine pu_ HT_ 8 104 (bm 20 511) ?_
                refine pf_ HT_ 9 105 (bm 20 1023) ?_
                refine pf_ HT_ 10 106 (bm 20 2047) ?_
                refine pf_ HT_ 11 107 (bm 20 4095) ?_
                refine pf_ HT_ 12 108 (bm 20 8191) ?_
                refine pf_ HT_ 13 109 (bm 20 16383) ?_
                refine pf_ HT_ 14 110 (bm 20 32767) ?_
                refine pf_ HT_ 15 111 (bm 20 65535) ?_
                refine pf_ HT_ 16 112 (bm 20 131071) ?_
                refine pf_ HT_ 17 113 (bm 20 262143) ?_
                refine pf_ HT_ 18 114 (bm 20 524287) ?_
                refine pu_ HT_ 19 115 #[true, true, true, true, true, true, true, true, true, true, true, true, true, true, true, true, true, true, true, true] ?_
                refine done_ (done_of HT_.out (by kernel_rfl)) ?_
                try go_wp2
                go_roundg k3
                case measure => have := HJ6.out; have := HK2.out; have := HK3.out; omega
                case rel => exact ⟨(wrap64 (x8_3 + 1)), rs_, H', ⟨by have := HJ6.out; have := HK2.out; have := HK3.out; omega⟩, ⟨bk_⟩, ⟨bl_⟩⟩
              ·rw [if_neg c46] at H
               exact absurd H (by simp)
             ·rw [if_neg c45] at H
              exact absurd H (by simp)
            ·rw [if_neg c44] at H
             have c44b0 : decide (x8_3 < a1) = false := decide_eq_false c44
             clear c44
             obtain rfl := Option.some.inj H
             go_wp2
             go_ret
             exact ⟨re_, bl_⟩
   ·replace c6 := Bool.eq_false_iff.mpr c6
    subst c6
    have H1 : (if (((rd_T60 l0 a1).f2).length : Int) = 0 then (if ((rd_T60 l0 a1).f1) ≥ (-1073741824) then (some (decide (((rd_T60 l0 a1).f1) ≤ 1073741824))) else (some false)) else (some false)) = some r := by rw [if_neg (show ¬ (false = true) by decide)] at H; exact H
    clear H
    have H := H1
    clear H1
    by_cases c52 : (((rd_T60 l0 a1).f2).length : Int) = 0
    ·rw [if_pos c52] at H
     have c52b0 : ((((rd_T60 l0 a1).f2).length : Int) == 0) = true := beq_iff_eq.mpr c52
     have c52b1 : ((((rd_T60 l0 a1).f2).length : Int) != 0) = false := bne_eq_false_iff_eq.mpr c52
     clear c52
     by_cases c53 : ((rd_T60 l0 a1).f1) ≥ (-1073741824)
     ·rw [if_pos c53] at H
      have c53b0 : decide ((-1073741824) ≤ ((rd_T60 l0 a1).f1)) = true := decide_eq_true c53
      clear c53
      obtain rfl := Option.some.inj H
      have p145 : 0 ≤ (a1 : Int) := dt_
      have q145 : a1 < (l0.length : Int) := dt_
      obtain ⟨ad145, A145_2, c145_2, e145, hx145_0, hx145_1, hx145_2, hl145_2, hi145_2⟩ := at_T60 HR0.out a1 p145 q145
      cases e145
      have HR145_2 := Aside0.mk hi145_2
      have HC145_2 := Aside0.mk hl145_2
      clear hi145_2 hl145_2
      replace p145 := eq_true p145
      replace q145 := eq_true q145
      go_enter Tryd.func77, Tryd.ntmps77
      go_wp2_with (first | ((with_reducible refine gate_dst (N := 5) rfl ?_); (try (refine gate_guard (by rfl) ?_; dsimp only)); refine box_event ?hg (N := 5) ?hd (cs := #[.int .i64 0, .int .i64 0, .slice none 0 0]) (t := 60) ?hr ?_; (case hd => rfl); (case hg => rfl); (case hr => first | (go_simp; done) | (go_simp; rfl)); intro gb146 hg w54 hbox hb; have BK146 := Aside0.mk (hbox); have GW146 : Aside0 (w.heap.size ≤ gb146) := gw_ hg (below_size bl_); have GE146 := GW146; replace HB := Aside0.mk (below_step bl_ hb); clear hb hbox hg; obtain ⟨hcz55_0, hcz55_1, hcz55_2, hfz55_0, hfz55_1, hfz55_2⟩ := cf3_ BK146.out) | ((with_reducible refine gate_callee (f := 55) rfl ?_); refine goesL_ (some 14) rfl rfl Tryd.func55 (by kernel_rfl) rfl #[.agg #[.int .i64 ((rd_T60 l0 a1).f0), .int .i64 ((rd_T60 l0 a1).f1), .slice A145_2 ((rd_T60 l0 a1).f2).length c145_2]] rfl (by (try simp only [List.map_toArray, List.map_cons, List.map_nil]); first | done | rfl | (simp only [List.length_drop, List.length_take]; rfl)) ?_; (with_reducible refine (exactpplref19_IsBranch.calls ((rd_T60 l0 a1).f0) ((rd_T60 l0 a1).f1) _ _ ((rd_T60 l0 a1).f2) false _ ?side1 ?side2 A5.out).mono ?_); (case side1 => exact Kd.C_below HR145_2.out bl_); (case side2 => exact HC145_2.out); rintro e w56 ⟨rfl, hb⟩; refine ⟨_, rfl, ?_⟩; replace BK146 := Aside0.mk (blk_below (g := gb146) (o := .cells #[.int .i64 ((rd_T60 l0 a1).f0), .int .i64 ((rd_T60 l0 a1).f1), .slice A145_2 ((rd_T60 l0 a1).f2).length c145_2] 60 (0, 0)) (by (with_reducible repeat (first | refine blk_drewN ?_ _ | refine blk_drew ?_ | refine blk_alloc ?_ _)); refine blk_put (cs := #[.int .i64 ((rd_T60 l0 a1).f0), .int .i64 ((rd_T60 l0 a1).f1), .slice none 0 0]) ?_ 2 _ rfl; (with_reducible repeat (first | refine blk_drewN ?_ _ | refine blk_drew ?_ | refine blk_alloc ?_ _)); refine blk_put (cs := #[.int .i64 ((rd_T60 l0 a1).f0), .int .i64 0, .slice none 0 0]) ?_ 1 _ rfl; (with_reducible repeat (first | refine blk_drewN ?_ _ | refine blk_drew ?_ | refine blk_alloc ?_ _)); refine blk_put (cs := #[.int .i64 0, .int .i64 0, .slice none 0 0]) ?_ 0 _ rfl; (with_reducible repeat (first | refine blk_drewN ?_ _ | refine blk_drew ?_ | refine blk_alloc ?_ _)); exact BK146.out) hb); replace HB := Aside0.mk (below_step bl_ hb); (try clear hb); (try clear hb2); (try clear hk); (try clear hi); obtain ⟨hcz57_0, hcz57_1, hcz57_2, hfz57_0, hfz57_1, hfz57_2⟩ := cf3_ BK146.out))
      go_ret
      exact ⟨re_, bl_⟩
     ·rw [if_neg c53] at H
      have c53b0 : decide ((-1073741824) ≤ ((rd_T60 l0 a1).f1)) = false := decide_eq_false c53
      clear c53
      obtain rfl := Option.some.inj H
      have p145 : 0 ≤ (a1 : Int) := dt_
      have q145 : a1 < (l0.length : Int) := dt_
      obtain ⟨ad145, A145_2, c145_2, e145, hx145_0, hx145_1, hx145_2, hl145_2, hi145_2⟩ := at_T60 HR0.out a1 p145 q145
      cases e145
      have HR145_2 := Aside0.mk hi145_2
      have HC145_2 := Aside0.mk hl145_2
      clear hi145_2 hl145_2
      replace p145 := eq_true p145
      replace q145 := eq_true q145
      go_enter Tryd.func77, Tryd.ntmps77
      go_wp2_with (first | ((with_reducible refine gate_dst (N := 5) rfl ?_); (try (refine gate_guard (by rfl) ?_; dsimp only)); refine box_event ?hg (N := 5) ?hd (cs := #[.int .i64 0, .int .i64 0, .slice none 0 0]) (t := 60) ?hr ?_; (case hd => rfl); (case hg => rfl); (case hr => first | (go_simp; done) | (go_simp; rfl)); intro gb146 hg w58 hbox hb; have BK146 := Aside0.mk (hbox); have GW146 : Aside0 (w.heap.size ≤ gb146) := gw_ hg (below_size bl_); have GE146 := GW146; replace HB := Aside0.mk (below_step bl_ hb); clear hb hbox hg; obtain ⟨hcz59_0, hcz59_1, hcz59_2, hfz59_0, hfz59_1, hfz59_2⟩ := cf3_ BK146.out) | ((with_reducible refine gate_callee (f := 55) rfl ?_); refine goesL_ (some 14) rfl rfl Tryd.func55 (by kernel_rfl) rfl #[.agg #[.int .i64 ((rd_T60 l0 a1).f0), .int .i64 ((rd_T60 l0 a1).f1), .slice A145_2 ((rd_T60 l0 a1).f2).length c145_2]] rfl (by (try simp only [List.map_toArray, List.map_cons, List.map_nil]); first | done | rfl | (simp only [List.length_drop, List.length_take]; rfl)) ?_; (with_reducible refine (exactpplref19_IsBranch.calls ((rd_T60 l0 a1).f0) ((rd_T60 l0 a1).f1) _ _ ((rd_T60 l0 a1).f2) false _ ?side1 ?side2 A5.out).mono ?_); (case side1 => exact Kd.C_below HR145_2.out bl_); (case side2 => exact HC145_2.out); rintro e w60 ⟨rfl, hb⟩; refine ⟨_, rfl, ?_⟩; replace BK146 := Aside0.mk (blk_below (g := gb146) (o := .cells #[.int .i64 ((rd_T60 l0 a1).f0), .int .i64 ((rd_T60 l0 a1).f1), .slice A145_2 ((rd_T60 l0 a1).f2).length c145_2] 60 (0, 0)) (by (with_reducible repeat (first | refine blk_drewN ?_ _ | refine blk_drew ?_ | refine blk_alloc ?_ _)); refine blk_put (cs := #[.int .i64 ((rd_T60 l0 a1).f0), .int .i64 ((rd_T60 l0 a1).f1), .slice none 0 0]) ?_ 2 _ rfl; (with_reducible repeat (first | refine blk_drewN ?_ _ | refine blk_drew ?_ | refine blk_alloc ?_ _)); refine blk_put (cs := #[.int .i64 ((rd_T60 l0 a1).f0), .int .i64 0, .slice none 0 0]) ?_ 1 _ rfl; (with_reducible repeat (first | refine blk_drewN ?_ _ | refine blk_drew ?_ | refine blk_alloc ?_ _)); refine blk_put (cs := #[.int .i64 0, .int .i64 0, .slice none 0 0]) ?_ 0 _ rfl; (with_reducible repeat (first | refine blk_drewN ?_ _ | refine blk_drew ?_ | refine blk_alloc ?_ _)); exact BK146.out) hb); replace HB := Aside0.mk (below_step bl_ hb); (try clear hb); (try clear hb2); (try clear hk); (try clear hi); obtain ⟨hcz61_0, hcz61_1, hcz61_2, hfz61_0, hfz61_1, hfz61_2⟩ := cf3_ BK146.out))
      go_ret
      exact ⟨re_, bl_⟩
    ·rw [if_neg c52] at H
     have c52b0 : ((((rd_T60 l0 a1).f2).length : Int) == 0) = false := beq_eq_false_iff_ne.mpr c52
     have c52b1 : ((((rd_T60 l0 a1).f2).length : Int) != 0) = true := bne_iff_ne.mpr c52
     have c52b2 : ¬ (((rd_T60 l0 a1).f2) = []) := fun h_ => c52 (by rw [h_]; rfl)
     obtain rfl := Option.some.inj H
     have p145 : 0 ≤ (a1 : Int) := dt_
     have q145 : a1 < (l0.length : Int) := dt_
     obtain ⟨ad145, A145_2, c145_2, e145, hx145_0, hx145_1, hx145_2, hl145_2, hi145_2⟩ := at_T60 HR0.out a1 p145 q145
     cases e145
     have HR145_2 := Aside0.mk hi145_2
     have HC145_2 := Aside0.mk hl145_2
     clear hi145_2 hl145_2
     replace p145 := eq_true p145
     replace q145 := eq_true q145
     go_enter Tryd.func77, Tryd.ntmps77
     go_wp2_with (first | ((with_reducible refine gate_dst (N := 5) rfl ?_); (try (refine gate_guard (by rfl) ?_; dsimp only)); refine box_event ?hg (N := 5) ?hd (cs := #[.int .i64 0, .int .i64 0, .slice none 0 0]) (t := 60) ?hr ?_; (case hd => rfl); (case hg => rfl); (case hr => first | (go_simp; done) | (go_simp; rfl)); intro gb146 hg w62 hbox hb; have BK146 := Aside0.mk (hbox); have GW146 : Aside0 (w.heap.size ≤ gb146) := gw_ hg (below_size bl_); have GE146 := GW146; replace HB := Aside0.mk (below_step bl_ hb); clear hb hbox hg; obtain ⟨hcz63_0, hcz63_1, hcz63_2, hfz63_0, hfz63_1, hfz63_2⟩ := cf3_ BK146.out) | ((with_reducible refine gate_callee (f := 55) rfl ?_); refine goesL_ (some 14) rfl rfl Tryd.func55 (by kernel_rfl) rfl #[.agg #[.int .i64 ((rd_T60 l0 a1).f0), .int .i64 ((rd_T60 l0 a1).f1), .slice A145_2 ((rd_T60 l0 a1).f2).length c145_2]] rfl (by (try simp only [List.map_toArray, List.map_cons, List.map_nil]); first | done | rfl | (simp only [List.length_drop, List.length_take]; rfl)) ?_; (with_reducible refine (exactpplref19_IsBranch.calls ((rd_T60 l0 a1).f0) ((rd_T60 l0 a1).f1) _ _ ((rd_T60 l0 a1).f2) false _ ?side1 ?side2 A5.out).mono ?_); (case side1 => exact Kd.C_below HR145_2.out bl_); (case side2 => exact HC145_2.out); rintro e w64 ⟨rfl, hb⟩; refine ⟨_, rfl, ?_⟩; replace BK146 := Aside0.mk (blk_below (g := gb146) (o := .cells #[.int .i64 ((rd_T60 l0 a1).f0), .int .i64 ((rd_T60 l0 a1).f1), .slice A145_2 ((rd_T60 l0 a1).f2).length c145_2] 60 (0, 0)) (by (with_reducible repeat (first | refine blk_drewN ?_ _ | refine blk_drew ?_ | refine blk_alloc ?_ _)); refine blk_put (cs := #[.int .i64 ((rd_T60 l0 a1).f0), .int .i64 ((rd_T60 l0 a1).f1), .slice none 0 0]) ?_ 2 _ rfl; (with_reducible repeat (first | refine blk_drewN ?_ _ | refine blk_drew ?_ | refine blk_alloc ?_ _)); refine blk_put (cs := #[.int .i64 ((rd_T60 l0 a1).f0), .int .i64 0, .slice none 0 0]) ?_ 1 _ rfl; (with_reducible repeat (first | refine blk_drewN ?_ _ | refine blk_drew ?_ | refine blk_alloc ?_ _)); refine blk_put (cs := #[.int .i64 0, .int .i64 0, .slice none 0 0]) ?_ 0 _ rfl; (with_reducible repeat (first | refine blk_drewN ?_ _ | refine blk_drew ?_ | refine blk_alloc ?_ _)); exact BK146.out) hb); replace HB := Aside0.mk (below_step bl_ hb); (try clear hb); (try clear hb2); (try clear hk); (try clear hi); obtain ⟨hcz65_0, hcz65_1, hcz65_2, hfz65_0, hfz65_1, hfz65_2⟩ := cf3_ BK146.out))
     go_ret
     exact ⟨re_, bl_⟩
  ·rw [if_neg c4] at H
   exact absurd H (by simp)
 ·rw [if_neg c3] at H
  exact absurd H (by simp)

end Go.Proofs.YtopbjginpmdebaaDoor.K
namespace Go.Proofs.YtopbjginpmdebaaDoor.K
open Go.RowKit Go.Proofs.YtopbjginpmdebaaDoorW.PrintWords Go.Proofs.YtopbjginpmdebaaDoorW.PrintLast Go.Proofs.YtopbjginpmdebaaDoorW.PrintMore
attribute [local go_sem] max2_int min2_int max_two min_two max_three min_three max_four min_four   -- for this text's walks alone
set_option linter.unusedVariables false
set_option linter.unusedSimpArgs false

/-! ### exactpplref19_Graph: function 67 -/
def exactpplref19_Graph.l0 : Nat → List (S60) → Int → Option (Bool)
 | 0, _, _ => none
 | k + 1, x0, x3 => if x3 < (x0.length : Int) then ((exactpplref19_sound.f k x0 x3).bind fun t154 => (if t154 = true then (exactpplref19_Graph.l0 k x0 (wrap64 (x3 + 1))) else (some false))) else (some (decide ((x0.length : Int) > 0)))
def exactpplref19_Graph.f (k : Nat) (l0 : List (S60)) : Option (Bool) := exactpplref19_Graph.l0 k l0 0
theorem exactpplref19_Graph.mono_l : ∀ k, (∀ y0 y1, LeO (exactpplref19_Graph.l0 k y0 y1) (exactpplref19_Graph.l0 (k + 1) y0 y1))
 | 0 => fun _ _ r h => by simp [exactpplref19_Graph.l0] at h
 | k + 1 => by
  have ih0 := exactpplref19_Graph.mono_l k
  ·intro y0 y1
   unfold exactpplref19_Graph.l0
   repeat' first
   | (with_reducible exact ih0 _ _)
   | (with_reducible exact exactpplref19_sound.mono _ _ _)
   | (with_reducible exact LeO.refl _)
   | (with_reducible exact LeO.none _)
   | (with_reducible refine LeO.ite ?_ ?_)
   | (with_reducible refine LeO.bind ?_ (fun _ => ?_))
   | exact ih0 _ _
   | exact exactpplref19_sound.mono _ _ _
   | exact LeO.none _
   | refine LeO.ite ?_ ?_
   | refine LeO.bind ?_ (fun _ => ?_)
theorem exactpplref19_Graph.mono : ∀ a0 k, LeO (exactpplref19_Graph.f k a0) (exactpplref19_Graph.f (k + 1) a0) := by
 intro a0 k
 have ih0 := exactpplref19_Graph.mono_l k
 unfold exactpplref19_Graph.f
 repeat' first
   | (with_reducible exact ih0 _ _)
   | (with_reducible exact exactpplref19_sound.mono _ _ _)
   | (with_reducible exact LeO.refl _)
   | (with_reducible exact LeO.none _)
   | (with_reducible refine LeO.ite ?_ ?_)
   | (with_reducible refine LeO.bind ?_ (fun _ => ?_))
   | exact ih0 _ _
   | exact exactpplref19_sound.mono _ _ _
   | exact LeO.none _
   | refine LeO.ite ?_ ?_
   | refine LeO.bind ?_ (fun _ => ?_)
set_option maxHeartbeats 8000000 in
set_option maxRecDepth 100000 in
theorem exactpplref19_Graph.calls (k : Nat) (A0 : Option Addr) (c0 : Nat) (l0 : List (S60)) (r : Bool) (w : World) (hr0 : Kd.C k60 w A0 l0.length l0) (hc0 : l0.length ≤ c0) (h : exactpplref19_Graph.f k l0 = some r) :
  Calls Tryd.prog 67 #[.slice A0 l0.length c0] w fun e w' => e = .returned (.bool r) ∧ Below w.heap.size w w' := by
 have HR0 := Aside0.mk hr0
 have HC0 := Aside0.mk hc0
 clear hr0 hc0
 have HB := Aside0.mk (Below.refl w.heap.size w)
 have H : (exactpplref19_Graph.l0 k l0 0) = some r := h
 clear h
 have H' := Aside0.mk H
 clear H
 go_enter Tryd.func67, Tryd.ntmps67
 go_wp2
 go_loopg [3] k (fun kq v3 w' => ∃ (x3_1 : Int), v3 = .int .i64 x3_1 ∧ Aside0 (exactpplref19_Graph.l0 kq l0 x3_1 = some r) ∧ Aside0 (kq ≤ k) ∧ Aside0 (Below w.heap.size w w'))
 case atStart => exact ⟨(0), rs_, H', ⟨Nat.le_refl _⟩, ⟨bl_⟩⟩
 case round =>
  clear H'
  obtain ⟨x3_1, rfl, HA, HK1, HB⟩ := hrel
  cases gk with
  | zero => exact absurd HA.out (by simp [exactpplref19_Graph.l0])
  | succ k1 =>
   have H := HA.out
   clear HA
   simp only [exactpplref19_Graph.l0] at H
   by_cases c2 : x3_1 < (l0.length : Int)
   ·rw [if_pos c2] at H
    have c2b0 : decide (x3_1 < (l0.length : Int)) = true := decide_eq_true c2
    clear c2
    replace H := Option.bind_eq_some_iff.mp H
    obtain ⟨t154, A30, H⟩ := H
    replace H : (if t154 = true then (exactpplref19_Graph.l0 k1 l0 (wrap64 (x3_1 + 1))) else (some false)) = some r := H
    have A3 := Aside0.mk A30
    clear A30
    by_cases c4 : t154 = true
    ·subst c4
     have H1 : (exactpplref19_Graph.l0 k1 l0 (wrap64 (x3_1 + 1))) = some r := by rw [if_pos rfl] at H; exact H
     clear H
     have H := H1
     clear H1
     have H' := Aside0.mk H
     clear H
     go_wp2_with (first | ((with_reducible refine gate_callee (f := 77) rfl ?_); refine goesL_ (some 12) rfl rfl Tryd.func77 (by kernel_rfl) rfl #[.slice A0 l0.length c0, .int .i64 x3_1] rfl (by (try simp only [List.map_toArray, List.map_cons, List.map_nil]); first | done | rfl | (simp only [List.length_drop, List.length_take]; rfl)) ?_; (with_reducible refine (exactpplref19_sound.calls k1 _ _ l0 x3_1 true _ ?side1 ?side2 A3.out).mono ?_); (case side1 => repeat (first | exact (Kd.C_below HR0.out HB.out) | (with_reducible refine Kd.C_alloc ?_ _) | (with_reducible refine Kd.C_drewN ?_ _) | (with_reducible refine Kd.C_drew ?_))); (case side2 => exact HC0.out); rintro e w5 ⟨rfl, hb⟩; refine ⟨_, rfl, ?_⟩; replace HB := Aside0.mk (below_step bl_ hb); (try clear hb); (try clear hb2); (try clear hk); (try clear hi)))
     go_roundg k1
     case measure => have := HK1.out; omega
     case rel => exact ⟨(wrap64 (x3_1 + 1)), rs_, H', ⟨by have := HK1.out; omega⟩, ⟨bl_⟩⟩
    ·replace c4 := Bool.eq_false_iff.mpr c4
     subst c4
     have H1 : (some false) = some r := by rw [if_neg (show ¬ (false = true) by decide)] at H; exact H
     clear H
     have H := H1
     clear H1
     obtain rfl := Option.some.inj H
     go_wp2_with (first | ((with_reducible refine gate_callee (f := 77) rfl ?_); refine goesL_ (some 12) rfl rfl Tryd.func77 (by kernel_rfl) rfl #[.slice A0 l0.length c0, .int .i64 x3_1] rfl (by (try simp only [List.map_toArray, List.map_cons, List.map_nil]); first | done | rfl | (simp only [List.length_drop, List.length_take]; rfl)) ?_; (with_reducible refine (exactpplref19_sound.calls k1 _ _ l0 x3_1 false _ ?side1 ?side2 A3.out).mono ?_); (case side1 => repeat (first | exact (Kd.C_below HR0.out HB.out) | (with_reducible refine Kd.C_alloc ?_ _) | (with_reducible refine Kd.C_drewN ?_ _) | (with_reducible refine Kd.C_drew ?_))); (case side2 => exact HC0.out); rintro e w6 ⟨rfl, hb⟩; refine ⟨_, rfl, ?_⟩; replace HB := Aside0.mk (below_step bl_ hb); (try clear hb); (try clear hb2); (try clear hk); (try clear hi)))
     go_ret
     exact ⟨re_, bl_⟩
   ·rw [if_neg c2] at H
    have c2b0 : decide (x3_1 < (l0.length : Int)) = false := decide_eq_false c2
    clear c2
    obtain rfl := Option.some.inj H
    go_wp2
    go_ret
    exact ⟨re_, bl_⟩

end Go.Proofs.YtopbjginpmdebaaDoor.K
namespace Go.Proofs.YtopbjginpmdebaaDoor.K
open Go.RowKit Go.Proofs.YtopbjginpmdebaaDoorW.PrintWords Go.Proofs.YtopbjginpmdebaaDoorW.PrintLast Go.Proofs.YtopbjginpmdebaaDoorW.PrintMore
attribute [local go_sem] max2_int min2_int max_two min_two max_three min_three max_four min_four   -- for this text's walks alone
set_option linter.unusedVariables false
set_option linter.unusedSimpArgs false

/-! ### diagram_leaf: function 56 -/
def diagram_leaf.f (a0_0 : Int) (a0_1 : Int) (l0_2 : List Int) : Option (Bool) := if a0_0 = (-1) then (if (l0_2.length : Int) = 0 then (if a0_1 ≥ (-1073741824) then (some (decide (a0_1 ≤ 1073741824))) else (some false)) else (some false)) else (some false)
set_option maxHeartbeats 8000000 in
set_option maxRecDepth 100000 in
theorem diagram_leaf.calls (a0_0 : Int) (a0_1 : Int) (A0_2 : Option Addr) (c0_2 : Nat) (l0_2 : List Int) (r : Bool) (w : World) (hr0_2 : Kd.C (Kd.int .i64) w A0_2 l0_2.length l0_2) (hc0_2 : l0_2.length ≤ c0_2) (h : diagram_leaf.f a0_0 a0_1 l0_2 = some r) :
  Calls Tryd.prog 56 #[.agg #[.int .i64 a0_0, .int .i64 a0_1, .slice A0_2 l0_2.length c0_2]] w fun e w' => e = .returned (.bool r) ∧ Below w.heap.size w w' := by
 have hu60 := Tryd.underlying60
 have HR0_2 := Aside0.mk hr0_2
 have HC0_2 := Aside0.mk hc0_2
 clear hr0_2 hc0_2
 have HB := Aside0.mk (Below.refl w.heap.size w)
 have H : (if a0_0 = (-1) then (if (l0_2.length : Int) = 0 then (if a0_1 ≥ (-1073741824) then (some (decide (a0_1 ≤ 1073741824))) else (some false)) else (some false)) else (some false)) = some r := h
 clear h
 by_cases c2 : a0_0 = (-1)
 ·rw [if_pos c2] at H
  have c2b0 : (a0_0 == (-1)) = true := beq_iff_eq.mpr c2
  have c2b1 : (a0_0 != (-1)) = false := bne_eq_false_iff_eq.mpr c2
  clear c2
  by_cases c3 : (l0_2.length : Int) = 0
  ·rw [if_pos c3] at H
   have c3b0 : ((l0_2.length : Int) == 0) = true := beq_iff_eq.mpr c3
   have c3b1 : ((l0_2.length : Int) != 0) = false := bne_eq_false_iff_eq.mpr c3
   clear c3
   by_cases c4 : a0_1 ≥ (-1073741824)
   ·rw [if_pos c4] at H
    have c4b0 : decide ((-1073741824) ≤ a0_1) = true := decide_eq_true c4
    clear c4
    obtain rfl := Option.some.inj H
    go_enter Tryd.func56, Tryd.ntmps56
    go_wp2_with (first | ((with_reducible refine gate_dst (N := 1) rfl ?_); (try (refine gate_guard (by rfl) ?_; dsimp only)); refine box_event ?hg (N := 1) ?hd (cs := #[.int .i64 a0_0, .int .i64 a0_1, .slice A0_2 l0_2.length c0_2]) (t := 60) ?hr ?_; (case hd => rfl); (case hg => rfl); (case hr => first | (go_simp; done) | (go_simp; rfl)); intro gb101 hg w5 hbox hb; have BK101 := Aside0.mk (hbox); have GW101 : Aside0 (w.heap.size ≤ gb101) := gw_ hg (below_size bl_); have GE101 := GW101; replace HB := Aside0.mk (below_step bl_ hb); clear hb hbox hg; obtain ⟨hcz6_0, hcz6_1, hcz6_2, hfz6_0, hfz6_1, hfz6_2⟩ := cf3_ BK101.out))
    go_ret
    exact ⟨re_, bl_⟩
   ·rw [if_neg c4] at H
    have c4b0 : decide ((-1073741824) ≤ a0_1) = false := decide_eq_false c4
    clear c4
    obtain rfl := Option.some.inj H
    go_enter Tryd.func56, Tryd.ntmps56
    go_wp2_with (first | ((with_reducible refine gate_dst (N := 1) rfl ?_); (try (refine gate_guard (by rfl) ?_; dsimp only)); refine box_event ?hg (N := 1) ?hd (cs := #[.int .i64 a0_0, .int .i64 a0_1, .slice A0_2 l0_2.length c0_2]) (t := 60) ?hr ?_; (case hd => rfl); (case hg => rfl); (case hr => first | (go_simp; done) | (go_simp; rfl)); intro gb101 hg w7 hbox hb; have BK101 := Aside0.mk (hbox); have GW101 : Aside0 (w.heap.size ≤ gb101) := gw_ hg (below_size bl_); have GE101 := GW101; replace HB := Aside0.mk (below_step bl_ hb); clear hb hbox hg; obtain ⟨hcz8_0, hcz8_1, hcz8_2, hfz8_0, hfz8_1, hfz8_2⟩ := cf3_ BK101.out))
    go_ret
    exact ⟨re_, bl_⟩
  ·rw [if_neg c3] at H
   have c3b0 : ((l0_2.length : Int) == 0) = false := beq_eq_false_iff_ne.mpr c3
   have c3b1 : ((l0_2.length : Int) != 0) = true := bne_iff_ne.mpr c3
   have c3b2 : ¬ (l0_2 = []) := fun h_ => c3 (by rw [h_]; rfl)
   obtain rfl := Option.some.inj H
   go_enter Tryd.func56, Tryd.ntmps56
   go_wp2_with (first | ((with_reducible refine gate_dst (N := 1) rfl ?_); (try (refine gate_guard (by rfl) ?_; dsimp only)); refine box_event ?hg (N := 1) ?hd (cs := #[.int .i64 a0_0, .int .i64 a0_1, .slice A0_2 l0_2.length c0_2]) (t := 60) ?hr ?_; (case hd => rfl); (case hg => rfl); (case hr => first | (go_simp; done) | (go_simp; rfl)); intro gb101 hg w9 hbox hb; have BK101 := Aside0.mk (hbox); have GW101 : Aside0 (w.heap.size ≤ gb101) := gw_ hg (below_size bl_); have GE101 := GW101; replace HB := Aside0.mk (below_step bl_ hb); clear hb hbox hg; obtain ⟨hcz10_0, hcz10_1, hcz10_2, hfz10_0, hfz10_1, hfz10_2⟩ := cf3_ BK101.out))
   go_ret
   exact ⟨re_, bl_⟩
 ·rw [if_neg c2] at H
  have c2b0 : (a0_0 == (-1)) = false := beq_eq_false_iff_ne.mpr c2
  have c2b1 : (a0_0 != (-1)) = true := bne_iff_ne.mpr c2
  obtain rfl := Option.some.inj H
  go_enter Tryd.func56, Tryd.ntmps56
  go_wp2_with (first | ((with_reducible refine gate_dst (N := 1) rfl ?_); (try (refine gate_guard (by rfl) ?_; dsimp only)); refine box_event ?hg (N := 1) ?hd (cs := #[.int .i64 a0_0, .int .i64 a0_1, .slice A0_2 l0_2.length c0_2]) (t := 60) ?hr ?_; (case hd => rfl); (case hg => rfl); (case hr => first | (go_simp; done) | (go_simp; rfl)); intro gb101 hg w11 hbox hb; have BK101 := Aside0.mk (hbox); have GW101 : Aside0 (w.heap.size ≤ gb101) := gw_ hg (below_size bl_); have GE101 := GW101; replace HB := Aside0.mk (below_step bl_ hb); clear hb hbox hg; obtain ⟨hcz12_0, hcz12_1, hcz12_2, hfz12_0, hfz12_1, hfz12_2⟩ := cf3_ BK101.out))
  go_ret
  exact ⟨re_, bl_⟩

end Go.Proofs.YtopbjginpmdebaaDoor.K
namespace Go.Proofs.YtopbjginpmdebaaDoor.K
open Go.RowKit Go.Proofs.YtopbjginpmdebaaDoorW.PrintWords Go.Proofs.YtopbjginpmdebaaDoorW.PrintLast Go.Proofs.YtopbjginpmdebaaDoorW.PrintMore
attribute [local go_sem] max2_int min2_int max_two min_two max_three min_three max_four min_four   -- for this text's walks alone
set_option linter.unusedVariables false
set_option linter.unusedSimpArgs false

/-! ### diagram_branch: function 69 -/
mutual
def diagram_branch.j0 : Nat → List (S60) → Int → Bool → Int → Int → List Int → Option (Bool)
 | 0, _, _, _, _, _, _ => none
 | k + 1, x0, x1, x36, x104000, x104001, x104002 => if x36 = true then (some false) else (diagram_branch.l0 k x0 x1 x104002 (x104002.length : Int) 0 x104000 x104001 x104002)
def diagram_branch.l0 : Nat → List (S60) → Int → List Int → Int → Int → Int → Int → List Int → Option (Bool)
 | 0, _, _, _, _, _, _, _, _ => none
 | k + 1, x0, x1, x38, x39, x40, x104000, x104001, x104002 => if x40 < x39 then (if 0 ≤ x40 then (if x40 < (x38.length : Int) then (if (rd x38 x40) < 0 then (some false) else (if (rd x38 x40) ≥ x1 then (some false) else (if 0 ≤ (rd x38 x40) then (if (rd x38 x40) < (x0.length : Int) then (if ((rd_T60 x0 (rd x38 x40)).f0) ≥ 0 then (if ((rd_T60 x0 (rd x38 x40)).f0) ≤ x104000 then (some false) else (diagram_branch.l0 k x0 x1 x38 x39 (wrap64 (x40 + 1)) x104000 x104001 x104002)) else (diagram_branch.l0 k x0 x1 x38 x39 (wrap64 (x40 + 1)) x104000 x104001 x104002)) else (none)) else (none)))) else (none)) else (none)) else (some true)
end
def diagram_branch.f (k : Nat) (l0 : List (S60)) (a1 : Int) : Option (Bool) := if 0 ≤ a1 then (if a1 < (l0.length : Int) then (if ((rd_T60 l0 a1).f0) < 0 then (diagram_branch.j0 k l0 a1 true ((rd_T60 l0 a1).f0) ((rd_T60 l0 a1).f1) ((rd_T60 l0 a1).f2)) else (if ((rd_T60 l0 a1).f0) ≥ 64 then (diagram_branch.j0 k l0 a1 true ((rd_T60 l0 a1).f0) ((rd_T60 l0 a1).f1) ((rd_T60 l0 a1).f2)) else (if ((rd_T60 l0 a1).f1) = 0 then (if (((rd_T60 l0 a1).f2).length : Int) < 1 then (diagram_branch.j0 k l0 a1 true ((rd_T60 l0 a1).f0) ((rd_T60 l0 a1).f1) ((rd_T60 l0 a1).f2)) else (diagram_branch.j0 k l0 a1 (decide ((((rd_T60 l0 a1).f2).length : Int) > 16)) ((rd_T60 l0 a1).f0) ((rd_T60 l0 a1).f1) ((rd_T60 l0 a1).f2))) else (diagram_branch.j0 k l0 a1 true ((rd_T60 l0 a1).f0) ((rd_T60 l0 a1).f1) ((rd_T60 l0 a1).f2))))) else (none)) else (none)
theorem diagram_branch.mono_l : ∀ k, (∀ y0 y1 y2 y3 y4 y5, LeO (diagram_branch.j0 k y0 y1 y2 y3 y4 y5) (diagram_branch.j0 (k + 1) y0 y1 y2 y3 y4 y5)) ∧ (∀ y0 y1 y2 y3 y4 y5 y6 y7, LeO (diagram_branch.l0 k y0 y1 y2 y3 y4 y5 y6 y7) (diagram_branch.l0 (k + 1) y0 y1 y2 y3 y4 y5 y6 y7))
 | 0 => ⟨fun _ _ _ _ _ _ r h => by simp [diagram_branch.j0] at h, fun _ _ _ _ _ _ _ _ r h => by simp [diagram_branch.l0] at h⟩
 | k + 1 => by
  obtain ⟨ih0, ih1⟩ := diagram_branch.mono_l k
  refine ⟨?_, ?_⟩
  ·intro y0 y1 y2 y3 y4 y5
   unfold diagram_branch.j0
   repeat' first
   | (with_reducible exact ih0 _ _ _ _ _ _)
   | (with_reducible exact ih1 _ _ _ _ _ _ _ _)
   | (with_reducible exact LeO.refl _)
   | (with_reducible exact LeO.none _)
   | (with_reducible refine LeO.ite ?_ ?_)
   | (with_reducible refine LeO.bind ?_ (fun _ => ?_))
   | exact ih0 _ _ _ _ _ _
   | exact ih1 _ _ _ _ _ _ _ _
   | exact LeO.none _
   | refine LeO.ite ?_ ?_
   | refine LeO.bind ?_ (fun _ => ?_)
  ·intro y0 y1 y2 y3 y4 y5 y6 y7
   unfold diagram_branch.l0
   repeat' first
   | (with_reducible exact ih0 _ _ _ _ _ _)
   | (with_reducible exact ih1 _ _ _ _ _ _ _ _)
   | (with_reducible exact LeO.refl _)
   | (with_reducible exact LeO.none _)
   | (with_reducible refine LeO.ite ?_ ?_)
   | (with_reducible refine LeO.bind ?_ (fun _ => ?_))
   | exact ih0 _ _ _ _ _ _
   | exact ih1 _ _ _ _ _ _ _ _
   | exact LeO.none _
   | refine LeO.ite ?_ ?_
   | refine LeO.bind ?_ (fun _ => ?_)
theorem diagram_branch.mono : ∀ a0 a1 k, LeO (diagram_branch.f k a0 a1) (diagram_branch.f (k + 1) a0 a1) := by
 intro a0 a1 k
 obtain ⟨ih0, ih1⟩ := diagram_branch.mono_l k
 unfold diagram_branch.f
 repeat' first
   | (with_reducible exact ih0 _ _ _ _ _ _)
   | (with_reducible exact ih1 _ _ _ _ _ _ _ _)
   | (with_reducible exact LeO.refl _)
   | (with_reducible exact LeO.none _)
   | (with_reducible refine LeO.ite ?_ ?_)
   | (with_reducible refine LeO.bind ?_ (fun _ => ?_))
   | exact ih0 _ _ _ _ _ _
   | exact ih1 _ _ _ _ _ _ _ _
   | exact LeO.none _
   | refine LeO.ite ?_ ?_
   | refine LeO.bind ?_ (fun _ => ?_)
set_option maxHeartbeats 8000000 in
set_option maxRecDepth 100000 in
theorem diagram_branch.calls (k : Nat) (A0 : Option Addr) (c0 : Nat) (l0 : List (S60)) (a1 : Int) (r : Bool) (w : World) (hr0 : Kd.C k60 w A0 l0.length l0) (hc0 : l0.length ≤ c0) (h : diagram_branch.f k l0 a1 = some r) :
  Calls Tryd.prog 69 #[.slice A0 l0.length c0, .int .i64 a1] w fun e w' => e = .returned (.bool r) ∧ Below w.heap.size w w' := by
 have hu60 := Tryd.underlying60
 have HR0 := Aside0.mk hr0
 have HC0 := Aside0.mk hc0
 clear hr0 hc0
 have HB := Aside0.mk (Below.refl w.heap.size w)
 have H : (if 0 ≤ a1 then (if a1 < (l0.length : Int) then (if ((rd_T60 l0 a1).f0) < 0 then (diagram_branch.j0 k l0 a1 true ((rd_T60 l0 a1).f0) ((rd_T60 l0 a1).f1) ((rd_T60 l0 a1).f2)) else (if ((rd_T60 l0 a1).f0) ≥ 64 then (diagram_branch.j0 k l0 a1 true ((rd_T60 l0 a1).f0) ((rd_T60 l0 a1).f1) ((rd_T60 l0 a1).f2)) else (if ((rd_T60 l0 a1).f1) = 0 then (if (((rd_T60 l0 a1).f2).length : Int) < 1 then (diagram_branch.j0 k l0 a1 true ((rd_T60 l0 a1).f0) ((rd_T60 l0 a1).f1) ((rd_T60 l0 a1).f2)) else (diagram_branch.j0 k l0 a1 (decide ((((rd_T60 l0 a1).f2).length : Int) > 16)) ((rd_T60 l0 a1).f0) ((rd_T60 l0 a1).f1) ((rd_T60 l0 a1).f2))) else (diagram_branch.j0 k l0 a1 true ((rd_T60 l0 a1).f0) ((rd_T60 l0 a1).f1) ((rd_T60 l0 a1).f2))))) else (none)) else (none)) = some r := h
 clear h
 by_cases c3 : 0 ≤ a1
 ·rw [if_pos c3] at H
  have c3b0 : decide (0 ≤ a1) = true := decide_eq_true c3
  clear c3
  by_cases c4 : a1 < (l0.length : Int)
  ·rw [if_pos c4] at H
   have c4b0 : decide (a1 < (l0.length : Int)) = true := decide_eq_true c4
   clear c4
   have HC5 := Aside0.mk H
   clear H
   have p102 : 0 ≤ (a1 : Int) := dt_
   have q102 : a1 < (l0.length : Int) := dt_
   obtain ⟨ad102, A102_2, c102_2, e102, hx102_0, hx102_1, hx102_2, hl102_2, hi102_2⟩ := at_T60 HR0.out a1 p102 q102
   cases e102
   have HR102_2 := Aside0.mk hi102_2
   have HC102_2 := Aside0.mk hl102_2
   clear hi102_2 hl102_2
   replace p102 := eq_true p102
   replace q102 := eq_true q102
   go_enter Tryd.func69, Tryd.ntmps69
   go_upto_region 2 with (first | ((with_reducible refine gate_dst (N := 5) rfl ?_); (try (refine gate_guard (by rfl) ?_; dsimp only)); refine box_event ?hg (N := 5) ?hd (cs := #[.int .i64 0, .int .i64 0, .slice none 0 0]) (t := 60) ?hr ?_; (case hd => rfl); (case hg => rfl); (case hr => first | (go_simp; done) | (go_simp; rfl)); intro gb103 hg w6 hbox hb; have BK103 := Aside0.mk (hbox); have GW103 : Aside0 (w.heap.size ≤ gb103) := gw_ hg (below_size bl_); have GE103 := GW103; replace HB := Aside0.mk (below_step bl_ hb); clear hb hbox hg; obtain ⟨hcz7_0, hcz7_1, hcz7_2, hfz7_0, hfz7_1, hfz7_2⟩ := cf3_ BK103.out))
   repeat (go_quiet (first | ((with_reducible refine gate_dst (N := 5) rfl ?_); (try (refine gate_guard (by rfl) ?_; dsimp only)); refine box_event ?hg (N := 5) ?hd (cs := #[.int .i64 0, .int .i64 0, .slice none 0 0]) (t := 60) ?hr ?_; (case hd => rfl); (case hg => rfl); (case hr => first | (go_simp; done) | (go_simp; rfl)); intro gb103 hg w6 hbox hb; have BK103 := Aside0.mk (hbox); have GW103 : Aside0 (w.heap.size ≤ gb103) := gw_ hg (below_size bl_); have GE103 := GW103; replace HB := Aside0.mk (below_step bl_ hb); clear hb hbox hg; obtain ⟨hcz7_0, hcz7_1, hcz7_2, hfz7_0, hfz7_1, hfz7_2⟩ := cf3_ BK103.out)); go_upto_region 2 with (first | ((with_reducible refine gate_dst (N := 5) rfl ?_); (try (refine gate_guard (by rfl) ?_; dsimp only)); refine box_event ?hg (N := 5) ?hd (cs := #[.int .i64 0, .int .i64 0, .slice none 0 0]) (t := 60) ?hr ?_; (case hd => rfl); (case hg => rfl); (case hr => first | (go_simp; done) | (go_simp; rfl)); intro gb103 hg w6 hbox hb; have BK103 := Aside0.mk (hbox); have GW103 : Aside0 (w.heap.size ≤ gb103) := gw_ hg (below_size bl_); have GE103 := GW103; replace HB := Aside0.mk (below_step bl_ hb); clear hb hbox hg; obtain ⟨hcz7_0, hcz7_1, hcz7_2, hfz7_0, hfz7_1, hfz7_2⟩ := cf3_ BK103.out)))
   (try simp only [Act.put, List.setIfInBounds_toArray, List.set_cons_zero, List.set_cons_succ])
   go_cut [36] (fun v36 wc => ∃ (kq : Nat) (x36_4 : Bool), v36 = .bool x36_4 ∧ Aside0 (diagram_branch.j0 kq l0 a1 x36_4 ((rd_T60 l0 a1).f0) ((rd_T60 l0 a1).f1) ((rd_T60 l0 a1).f2) = some r) ∧ Aside0 (kq ≤ k) ∧ Aside0 (wc.heap[gb103]? = some (.cells #[.int .i64 ((rd_T60 l0 a1).f0), .int .i64 ((rd_T60 l0 a1).f1), (.slice A102_2 ((rd_T60 l0 a1).f2).length c102_2)] 60 (0, 0))) ∧ Aside0 (Below w.heap.size w wc))
   case first =>
    have H := HC5.out
    clear HC5
    by_cases c8 : ((rd_T60 l0 a1).f0) < 0
    ·rw [if_pos c8] at H
     have c8b0 : decide (((rd_T60 l0 a1).f0) < 0) = true := decide_eq_true c8
     clear c8
     (first | rw [c8b0] | (simp only [i64_w, i32_w]; rw [c8b0]) | skip)
     have H' := Aside0.mk H
     clear H
     obtain ⟨hcz9_0, hcz9_1, hcz9_2, hfz9_0, hfz9_1, hfz9_2⟩ := cf3_ BK103.out
     go_wp2
     repeat (go_quiet (fail); try go_wp2)
     go_meet
     case rel => exact ⟨_, (true), rs_, H', ⟨by first | omega | exact Nat.le_refl _⟩, ⟨by (with_reducible repeat (first | refine blk_drewN ?_ _ | refine blk_drew ?_ | refine blk_alloc ?_ _)); refine blk_put (cs := #[.int .i64 ((rd_T60 l0 a1).f0), .int .i64 ((rd_T60 l0 a1).f1), .slice none 0 0]) ?_ 2 _ rfl; (with_reducible repeat (first | refine blk_drewN ?_ _ | refine blk_drew ?_ | refine blk_alloc ?_ _)); refine blk_put (cs := #[.int .i64 ((rd_T60 l0 a1).f0), .int .i64 0, .slice none 0 0]) ?_ 1 _ rfl; (with_reducible repeat (first | refine blk_drewN ?_ _ | refine blk_drew ?_ | refine blk_alloc ?_ _)); refine blk_put (cs := #[.int .i64 0, .int .i64 0, .slice none 0 0]) ?_ 0 _ rfl; (with_reducible repeat (first | refine blk_drewN ?_ _ | refine blk_drew ?_ | refine blk_alloc ?_ _)); exact BK103.out⟩, ⟨bl_⟩⟩
    ·rw [if_neg c8] at H
     have c8b0 : decide (((rd_T60 l0 a1).f0) < 0) = false := decide_eq_false c8
     clear c8
     (first | rw [c8b0] | (simp only [i64_w, i32_w]; rw [c8b0]) | skip)
     by_cases c10 : ((rd_T60 l0 a1).f0) ≥ 64
     ·rw [if_pos c10] at H
      have c10b0 : decide (64 ≤ ((rd_T60 l0 a1).f0)) = true := decide_eq_true c10
      clear c10
      have H' := Aside0.mk H
      clear H
      obtain ⟨hcz11_0, hcz11_1, hcz11_2, hfz11_0, hfz11_1, hfz11_2⟩ := cf3_ BK103.out
      go_wp2
      repeat (go_quiet (fail); try go_wp2)
      go_meet
      case rel => exact ⟨_, (true), rs_, H', ⟨by first | omega | exact Nat.le_refl _⟩, ⟨by (with_reducible repeat (first | refine blk_drewN ?_ _ | refine blk_drew ?_ | refine blk_alloc ?_ _)); refine blk_put (cs := #[.int .i64 ((rd_T60 l0 a1).f0), .int .i64 ((rd_T60 l0 a1).f1), .slice none 0 0]) ?_ 2 _ rfl; (with_reducible repeat (first | refine blk_drewN ?_ _ | refine blk_drew ?_ | refine blk_alloc ?_ _)); refine blk_put (cs := #[.int .i64 ((rd_T60 l0 a1).f0), .int .i64 0, .slice none 0 0]) ?_ 1 _ rfl; (with_reducible repeat (first | refine blk_drewN ?_ _ | refine blk_drew ?_ | refine blk_alloc ?_ _)); refine blk_put (cs := #[.int .i64 0, .int .i64 0, .slice none 0 0]) ?_ 0 _ rfl; (with_reducible repeat (first | refine blk_drewN ?_ _ | refine blk_drew ?_ | refine blk_alloc ?_ _)); exact BK103.out⟩, ⟨bl_⟩⟩
     ·rw [if_neg c10] at H
      have c10b0 : decide (64 ≤ ((rd_T60 l0 a1).f0)) = false := decide_eq_false c10
      clear c10
      by_cases c12 : ((rd_T60 l0 a1).f1) = 0
      ·rw [if_pos c12] at H
       have c12b0 : (((rd_T60 l0 a1).f1) == 0) = true := beq_iff_eq.mpr c12
       have c12b1 : (((rd_T60 l0 a1).f1) != 0) = false := bne_eq_false_iff_eq.mpr c12
       clear c12
       by_cases c13 : (((rd_T60 l0 a1).f2).length : Int) < 1
       ·rw [if_pos c13] at H
        have c13b0 : decide ((((rd_T60 l0 a1).f2).length : Int) < 1) = true := decide_eq_true c13
        have c13b1 : decide (((rd_T60 l0 a1).f2).length < 1) = true := decide_eq_true (by omega)
        clear c13
        have H' := Aside0.mk H
        clear H
        obtain ⟨hcz14_0, hcz14_1, hcz14_2, hfz14_0, hfz14_1, hfz14_2⟩ := cf3_ BK103.out
        go_wp2
        repeat (go_quiet (fail); try go_wp2)
        go_meet
        case rel => exact ⟨_, (true), rs_, H', ⟨by first | omega | exact Nat.le_refl _⟩, ⟨by (with_reducible repeat (first | refine blk_drewN ?_ _ | refine blk_drew ?_ | refine blk_alloc ?_ _)); refine blk_put (cs := #[.int .i64 ((rd_T60 l0 a1).f0), .int .i64 ((rd_T60 l0 a1).f1), .slice none 0 0]) ?_ 2 _ rfl; (with_reducible repeat (first | refine blk_drewN ?_ _ | refine blk_drew ?_ | refine blk_alloc ?_ _)); refine blk_put (cs := #[.int .i64 ((rd_T60 l0 a1).f0), .int .i64 0, .slice none 0 0]) ?_ 1 _ rfl; (with_reducible repeat (first | refine blk_drewN ?_ _ | refine blk_drew ?_ | refine blk_alloc ?_ _)); refine blk_put (cs := #[.int .i64 0, .int .i64 0, .slice none 0 0]) ?_ 0 _ rfl; (with_reducible repeat (first | refine blk_drewN ?_ _ | refine blk_drew ?_ | refine blk_alloc ?_ _)); exact BK103.out⟩, ⟨bl_⟩⟩
       ·rw [if_neg c13] at H
        have c13b0 : decide ((((rd_T60 l0 a1).f2).length : Int) < 1) = false := decide_eq_false c13
        have c13b1 : decide (((rd_T60 l0 a1).f2).length < 1) = false := decide_eq_false (by omega)
        clear c13
        have H' := Aside0.mk H
        clear H
        obtain ⟨hcz15_0, hcz15_1, hcz15_2, hfz15_0, hfz15_1, hfz15_2⟩ := cf3_ BK103.out
        go_wp2
        repeat (go_quiet (fail); try go_wp2)
        go_meet
        case rel => exact ⟨_, (decide ((((rd_T60 l0 a1).f2).length : Int) > 16)), rs_, H', ⟨by first | omega | exact Nat.le_refl _⟩, ⟨by (with_reducible repeat (first | refine blk_drewN ?_ _ | refine blk_drew ?_ | refine blk_alloc ?_ _)); refine blk_put (cs := #[.int .i64 ((rd_T60 l0 a1).f0), .int .i64 ((rd_T60 l0 a1).f1), .slice none 0 0]) ?_ 2 _ rfl; (with_reducible repeat (first | refine blk_drewN ?_ _ | refine blk_drew ?_ | refine blk_alloc ?_ _)); refine blk_put (cs := #[.int .i64 ((rd_T60 l0 a1).f0), .int .i64 0, .slice none 0 0]) ?_ 1 _ rfl; (with_reducible repeat (first | refine blk_drewN ?_ _ | refine blk_drew ?_ | refine blk_alloc ?_ _)); refine blk_put (cs := #[.int .i64 0, .int .i64 0, .slice none 0 0]) ?_ 0 _ rfl; (with_reducible repeat (first | refine blk_drewN ?_ _ | refine blk_drew ?_ | refine blk_alloc ?_ _)); exact BK103.out⟩, ⟨bl_⟩⟩
      ·rw [if_neg c12] at H
       have c12b0 : (((rd_T60 l0 a1).f1) == 0) = false := beq_eq_false_iff_ne.mpr c12
       have c12b1 : (((rd_T60 l0 a1).f1) != 0) = true := bne_iff_ne.mpr c12
       have H' := Aside0.mk H
       clear H
       obtain ⟨hcz16_0, hcz16_1, hcz16_2, hfz16_0, hfz16_1, hfz16_2⟩ := cf3_ BK103.out
       go_wp2
       repeat (go_quiet (fail); try go_wp2)
       go_meet
       case rel => exact ⟨_, (true), rs_, H', ⟨by first | omega | exact Nat.le_refl _⟩, ⟨by (with_reducible repeat (first | refine blk_drewN ?_ _ | refine blk_drew ?_ | refine blk_alloc ?_ _)); refine blk_put (cs := #[.int .i64 ((rd_T60 l0 a1).f0), .int .i64 ((rd_T60 l0 a1).f1), .slice none 0 0]) ?_ 2 _ rfl; (with_reducible repeat (first | refine blk_drewN ?_ _ | refine blk_drew ?_ | refine blk_alloc ?_ _)); refine blk_put (cs := #[.int .i64 ((rd_T60 l0 a1).f0), .int .i64 0, .slice none 0 0]) ?_ 1 _ rfl; (with_reducible repeat (first | refine blk_drewN ?_ _ | refine blk_drew ?_ | refine blk_alloc ?_ _)); refine blk_put (cs := #[.int .i64 0, .int .i64 0, .slice none 0 0]) ?_ 0 _ rfl; (with_reducible repeat (first | refine blk_drewN ?_ _ | refine blk_drew ?_ | refine blk_alloc ?_ _)); exact BK103.out⟩, ⟨bl_⟩⟩
   case rest =>
    clear HC5
    try clear c1
    try clear p1
    try clear q1
    try clear hx1
    try clear p2
    try clear c3
    try clear c3b0
    try clear c4
    try clear c4b0
    try clear c6
    try clear c8
    try clear c8b0
    try clear c10
    try clear c10b0
    try clear p10
    try clear q10
    try clear hx10
    try clear c12
    try clear c12b0
    try clear c12b1
    try clear c13
    try clear c13b0
    try clear c13b1
    try clear hcz11_0 hcz11_1 hcz11_2 hfz11_0 hfz11_1 hfz11_2
    try clear hcz14_0 hcz14_1 hcz14_2 hfz14_0 hfz14_1 hfz14_2
    try clear hcz15_0 hcz15_1 hcz15_2 hfz15_0 hfz15_1 hfz15_2
    try clear hcz16_0 hcz16_1 hcz16_2 hfz16_0 hfz16_1 hfz16_2
    try clear hcz7_0 hcz7_1 hcz7_2 hfz7_0 hfz7_1 hfz7_2
    try clear hcz9_0 hcz9_1 hcz9_2 hfz9_0 hfz9_1 hfz9_2
    try clear hx102_0
    try clear hx102_1
    try clear hx102_2
    try clear p102
    try clear q102
    obtain ⟨kq, x36_4, rfl, HA, HJ4, BK103, HB⟩ := hcut
    cases kq with
    | zero => exact absurd HA.out (by simp [diagram_branch.j0])
    | succ kj4 =>
     have H := HA.out
     clear HA
     simp only [diagram_branch.j0] at H
     by_cases c17 : x36_4 = true
     ·subst c17
      have H1 : (some false) = some r := by rw [if_pos rfl] at H; exact H
      clear H
      have H := H1
      clear H1
      obtain rfl := Option.some.inj H
      go_wp2
      repeat (go_quiet (fail); try go_wp2)
      go_ret
      exact ⟨re_, bl_⟩
     ·replace c17 := Bool.eq_false_iff.mpr c17
      subst c17
      have H1 : (diagram_branch.l0 kj4 l0 a1 ((rd_T60 l0 a1).f2) (((rd_T60 l0 a1).f2).length : Int) 0 ((rd_T60 l0 a1).f0) ((rd_T60 l0 a1).f1) ((rd_T60 l0 a1).f2)) = some r := by rw [if_neg (show ¬ (false = true) by decide)] at H; exact H
      clear H
      have H := H1
      clear H1
      have H' := Aside0.mk H
      clear H
      obtain ⟨hcz18_0, hcz18_1, hcz18_2, hfz18_0, hfz18_1, hfz18_2⟩ := cf3_ BK103.out
      go_wp2
      repeat (go_quiet (fail); try go_wp2)
      go_loopg [40] kj4 (fun kq v40 w' => ∃ (x40_2 : Int), v40 = .int .i64 x40_2 ∧ Aside0 (diagram_branch.l0 kq l0 a1 ((rd_T60 l0 a1).f2) (((rd_T60 l0 a1).f2).length : Int) x40_2 ((rd_T60 l0 a1).f0) ((rd_T60 l0 a1).f1) ((rd_T60 l0 a1).f2) = some r) ∧ Aside0 (kq ≤ kj4) ∧ Aside0 (w'.heap[gb103]? = some (.cells #[.int .i64 ((rd_T60 l0 a1).f0), .int .i64 ((rd_T60 l0 a1).f1), (.slice A102_2 ((rd_T60 l0 a1).f2).length c102_2)] 60 (0, 0))) ∧ Aside0 (Below w.heap.size w w'))
      case atStart => exact ⟨(0), rs_, H', ⟨Nat.le_refl _⟩, ⟨bk_⟩, ⟨bl_⟩⟩
      case round =>
       clear H'
       try clear c1
       try clear p1
       try clear q1
       try clear hx1
       try clear p2
       try clear c3
       try clear c3b0
       try clear c4
       try clear c4b0
       try clear c6
       try clear c8
       try clear c8b0
       try clear c10
       try clear c10b0
       try clear p10
       try clear q10
       try clear hx10
       try clear c12
       try clear c12b0
       try clear c12b1
       try clear c13
       try clear c13b0
       try clear c13b1
       try clear c17
       try clear hcz11_0 hcz11_1 hcz11_2 hfz11_0 hfz11_1 hfz11_2
       try clear hcz14_0 hcz14_1 hcz14_2 hfz14_0 hfz14_1 hfz14_2
       try clear hcz15_0 hcz15_1 hcz15_2 hfz15_0 hfz15_1 hfz15_2
       try clear hcz16_0 hcz16_1 hcz16_2 hfz16_0 hfz16_1 hfz16_2
       try clear hcz18_0 hcz18_1 hcz18_2 hfz18_0 hfz18_1 hfz18_2
       try clear hcz7_0 hcz7_1 hcz7_2 hfz7_0 hfz7_1 hfz7_2
       try clear hcz9_0 hcz9_1 hcz9_2 hfz9_0 hfz9_1 hfz9_2
       try clear hx102_0
       try clear hx102_1
       try clear hx102_2
       try clear p1
       try clear p10
       try clear p102
       try clear p2
       try clear q1
       try clear q10
       try clear q102
       obtain ⟨x40_2, rfl, HA, HK2, BK103, HB⟩ := hrel
       cases gk with
       | zero => exact absurd HA.out (by simp [diagram_branch.l0])
       | succ k2 =>
        have H := HA.out
        clear HA
        simp only [diagram_branch.l0] at H
        by_cases c19 : x40_2 < (((rd_T60 l0 a1).f2).length : Int)
        ·rw [if_pos c19] at H
         have c19b0 : decide (x40_2 < (((rd_T60 l0 a1).f2).length : Int)) = true := decide_eq_true c19
         clear c19
         by_cases c20 : 0 ≤ x40_2
         ·rw [if_pos c20] at H
          have c20b0 : decide (0 ≤ x40_2) = true := decide_eq_true c20
          clear c20
          by_cases c21 : x40_2 < (((rd_T60 l0 a1).f2).length : Int)
          ·rw [if_pos c21] at H
           have c21b0 : decide (x40_2 < (((rd_T60 l0 a1).f2).length : Int)) = true := decide_eq_true c21
           clear c21
           by_cases c22 : (rd ((rd_T60 l0 a1).f2) x40_2) < 0
           ·rw [if_pos c22] at H
            have c22b0 : decide ((rd ((rd_T60 l0 a1).f2) x40_2) < 0) = true := decide_eq_true c22
            clear c22
            obtain rfl := Option.some.inj H
            have p104 : 0 ≤ (x40_2 : Int) := dt_
            have q104 : x40_2 < (((rd_T60 l0 a1).f2).length : Int) := dt_
            obtain ⟨ad104, e104, hx104_0⟩ := Kd.at_int HR102_2.out x40_2 p104 q104
            cases e104
            replace hx104_0 := (HB.out.cell (World.block_lt_of_cell? w _ hx104_0)).trans hx104_0
            replace p104 := eq_true p104
            replace q104 := eq_true q104
            go_wp2
            repeat (go_quiet (fail); try go_wp2)
            go_ret
            exact ⟨re_, bl_⟩
           ·rw [if_neg c22] at H
            have c22b0 : decide ((rd ((rd_T60 l0 a1).f2) x40_2) < 0) = false := decide_eq_false c22
            clear c22
            by_cases c23 : (rd ((rd_T60 l0 a1).f2) x40_2) ≥ a1
            ·rw [if_pos c23] at H
             have c23b0 : decide (a1 ≤ (rd ((rd_T60 l0 a1).f2) x40_2)) = true := decide_eq_true c23
             clear c23
             obtain rfl := Option.some.inj H
             have p104 : 0 ≤ (x40_2 : Int) := dt_
             have q104 : x40_2 < (((rd_T60 l0 a1).f2).length : Int) := dt_
             obtain ⟨ad104, e104, hx104_0⟩ := Kd.at_int HR102_2.out x40_2 p104 q104
             cases e104
             replace hx104_0 := (HB.out.cell (World.block_lt_of_cell? w _ hx104_0)).trans hx104_0
             replace p104 := eq_true p104
             replace q104 := eq_true q104
             go_wp2
             repeat (go_quiet (fail); try go_wp2)
             go_ret
             exact ⟨re_, bl_⟩
            ·rw [if_neg c23] at H
             have c23b0 : decide (a1 ≤ (rd ((rd_T60 l0 a1).f2) x40_2)) = false := decide_eq_false c23
             clear c23
             by_cases c24 : 0 ≤ (rd ((rd_T60 l0 a1).f2) x40_2)
             ·rw [if_pos c24] at H
              have c24b0 : decide (0 ≤ (rd ((rd_T60 l0 a1).f2) x40_2)) = true := decide_eq_true c24
              clear c24
              by_cases c25 : (rd ((rd_T60 l0 a1).f2) x40_2) < (l0.length : Int)
              ·rw [if_pos c25] at H
               have c25b0 : decide ((rd ((rd_T60 l0 a1).f2) x40_2) < (l0.length : Int)) = true := decide_eq_true c25
               clear c25
               by_cases c26 : ((rd_T60 l0 (rd ((rd_T60 l0 a1).f2) x40_2)).f0) ≥ 0
               ·rw [if_pos c26] at H
                have c26b0 : decide (0 ≤ ((rd_T60 l0 (rd ((rd_T60 l0 a1).f2) x40_2)).f0)) = true := decide_eq_true c26
                clear c26
                by_cases c27 : ((rd_T60 l0 (rd ((rd_T60 l0 a1).f2) x40_2)).f0) ≤ ((rd_T60 l0 a1).f0)
                ·rw [if_pos c27] at H
                 have c27b0 : decide (((rd_T60 l0 (rd ((rd_T60 l0 a1).f2) x40_2)).f0) ≤ ((rd_T60 l0 a1).f0)) = true := decide_eq_true c27
                 clear c27
                 obtain rfl := Option.some.inj H
                 have p104 : 0 ≤ (x40_2 : Int) := dt_
                 have q104 : x40_2 < (((rd_T60 l0 a1).f2).length : Int) := dt_
                 obtain ⟨ad104, e104, hx104_0⟩ := Kd.at_int HR102_2.out x40_2 p104 q104
                 cases e104
                 replace hx104_0 := (HB.out.cell (World.block_lt_of_cell? w _ hx104_0)).trans hx104_0
                 replace p104 := eq_true p104
                 replace q104 := eq_true q104
                 have p105 : 0 ≤ ((rd ((rd_T60 l0 a1).f2) x40_2) : Int) := dt_
                 have q105 : (rd ((rd_T60 l0 a1).f2) x40_2) < (l0.length : Int) := dt_
                 obtain ⟨ad105, A105_2, c105_2, e105, hx105_0, hx105_1, hx105_2, hl105_2, hi105_2⟩ := at_T60 HR0.out (rd ((rd_T60 l0 a1).f2) x40_2) p105 q105
                 obtain rfl : ad102 = ad105 := (by injection e105)
                 replace hx105_0 := (HB.out.cell (World.block_lt_of_cell? w _ hx105_0)).trans hx105_0
                 replace hx105_1 := (HB.out.cell (World.block_lt_of_cell? w _ hx105_1)).trans hx105_1
                 replace hx105_2 := (HB.out.cell (World.block_lt_of_cell? w _ hx105_2)).trans hx105_2
                 have HR105_2 := Aside0.mk hi105_2
                 have HC105_2 := Aside0.mk hl105_2
                 clear hi105_2 hl105_2
                 replace p105 := eq_true p105
                 replace q105 := eq_true q105
                 have p106 : 0 ≤ ((rd ((rd_T60 l0 a1).f2) x40_2) : Int) := dt_
                 have q106 : (rd ((rd_T60 l0 a1).f2) x40_2) < (l0.length : Int) := dt_
                 obtain ⟨ad106, A106_2, c106_2, e106, hx106_0, hx106_1, hx106_2, hl106_2, hi106_2⟩ := at_T60 HR0.out (rd ((rd_T60 l0 a1).f2) x40_2) p106 q106
                 obtain rfl : ad102 = ad106 := (by injection e106)
                 replace hx106_0 := (HB.out.cell (World.block_lt_of_cell? w _ hx106_0)).trans hx106_0
                 replace hx106_1 := (HB.out.cell (World.block_lt_of_cell? w _ hx106_1)).trans hx106_1
                 replace hx106_2 := (HB.out.cell (World.block_lt_of_cell? w _ hx106_2)).trans hx106_2
                 have HR106_2 := Aside0.mk hi106_2
                 have HC106_2 := Aside0.mk hl106_2
                 clear hi106_2 hl106_2
                 replace p106 := eq_true p106
                 replace q106 := eq_true q106
                 have ea_ := Option.some.inj (hx105_2.symm.trans hx106_2)
                 injection ea_ with ea_ en_ ec_
                 subst ea_
                 subst ec_
                 clear en_
                 obtain ⟨hcz28_0, hcz28_1, hcz28_2, hfz28_0, hfz28_1, hfz28_2⟩ := cf3_ BK103.out
                 go_wp2
                 repeat (go_quiet (fail); try go_wp2)
                 go_ret
                 exact ⟨re_, bl_⟩
                ·rw [if_neg c27] at H
                 have c27b0 : decide (((rd_T60 l0 (rd ((rd_T60 l0 a1).f2) x40_2)).f0) ≤ ((rd_T60 l0 a1).f0)) = false := decide_eq_false c27
                 clear c27
                 have H' := Aside0.mk H
                 clear H
                 have p104 : 0 ≤ (x40_2 : Int) := dt_
                 have q104 : x40_2 < (((rd_T60 l0 a1).f2).length : Int) := dt_
                 obtain ⟨ad104, e104, hx104_0⟩ := Kd.at_int HR102_2.out x40_2 p104 q104
                 cases e104
                 replace hx104_0 := (HB.out.cell (World.block_lt_of_cell? w _ hx104_0)).trans hx104_0
                 replace p104 := eq_true p104
                 replace q104 := eq_true q104
                 have p105 : 0 ≤ ((rd ((rd_T60 l0 a1).f2) x40_2) : Int) := dt_
                 have q105 : (rd ((rd_T60 l0 a1).f2) x40_2) < (l0.length : Int) := dt_
                 obtain ⟨ad105, A105_2, c105_2, e105, hx105_0, hx105_1, hx105_2, hl105_2, hi105_2⟩ := at_T60 HR0.out (rd ((rd_T60 l0 a1).f2) x40_2) p105 q105
                 obtain rfl : ad102 = ad105 := (by injection e105)
                 replace hx105_0 := (HB.out.cell (World.block_lt_of_cell? w _ hx105_0)).trans hx105_0
                 replace hx105_1 := (HB.out.cell (World.block_lt_of_cell? w _ hx105_1)).trans hx105_1
                 replace hx105_2 := (HB.out.cell (World.block_lt_of_cell? w _ hx105_2)).trans hx105_2
                 have HR105_2 := Aside0.mk hi105_2
                 have HC105_2 := Aside0.mk hl105_2
                 clear hi105_2 hl105_2
                 replace p105 := eq_true p105
                 replace q105 := eq_true q105
                 have p106 : 0 ≤ ((rd ((rd_T60 l0 a1).f2) x40_2) : Int) := dt_
                 have q106 : (rd ((rd_T60 l0 a1).f2) x40_2) < (l0.length : Int) := dt_
                 obtain ⟨ad106, A106_2, c106_2, e106, hx106_0, hx106_1, hx106_2, hl106_2, hi106_2⟩ := at_T60 HR0.out (rd ((rd_T60 l0 a1).f2) x40_2) p106 q106
                 obtain rfl : ad102 = ad106 := (by injection e106)
                 replace hx106_0 := (HB.out.cell (World.block_lt_of_cell? w _ hx106_0)).trans hx106_0
                 replace hx106_1 := (HB.out.cell (World.block_lt_of_cell? w _ hx106_1)).trans hx106_1
                 replace hx106_2 := (HB.out.cell (World.block_lt_of_cell? w _ hx106_2)).trans hx106_2
                 have HR106_2 := Aside0.mk hi106_2
                 have HC106_2 := Aside0.mk hl106_2
                 clear hi106_2 hl106_2
                 replace p106 := eq_true p106
                 replace q106 := eq_true q106
                 have ea_ := Option.some.inj (hx105_2.symm.trans hx106_2)
                 injection ea_ with ea_ en_ ec_
                 subst ea_
                 subst ec_
                 clear en_
                 obtain ⟨hcz29_0, hcz29_1, hcz29_2, hfz29_0, hfz29_1, hfz29_2⟩ := cf3_ BK103.out
                 go_wp2
                 repeat (go_quiet (fail); try go_wp2)
                 go_roundg k2
                 case measure => have := HJ4.out; have := HK2.out; omega
                 case rel => exact ⟨(wrap64 (x40_2 + 1)), rs_, H', ⟨by have := HJ4.out; have := HK2.out; omega⟩, ⟨bk_⟩, ⟨bl_⟩⟩
               ·rw [if_neg c26] at H
                have c26b0 : decide (0 ≤ ((rd_T60 l0 (rd ((rd_T60 l0 a1).f2) x40_2)).f0)) = false := decide_eq_false c26
                clear c26
                have H' := Aside0.mk H
                clear H
                have p104 : 0 ≤ (x40_2 : Int) := dt_
                have q104 : x40_2 < (((rd_T60 l0 a1).f2).length : Int) := dt_
                obtain ⟨ad104, e104, hx104_0⟩ := Kd.at_int HR102_2.out x40_2 p104 q104
                cases e104
                replace hx104_0 := (HB.out.cell (World.block_lt_of_cell? w _ hx104_0)).trans hx104_0
                replace p104 := eq_true p104
                replace q104 := eq_true q104
                have p105 : 0 ≤ ((rd ((rd_T60 l0 a1).f2) x40_2) : Int) := dt_
                have q105 : (rd ((rd_T60 l0 a1).f2) x40_2) < (l0.length : Int) := dt_
                obtain ⟨ad105, A105_2, c105_2, e105, hx105_0, hx105_1, hx105_2, hl105_2, hi105_2⟩ := at_T60 HR0.out (rd ((rd_T60 l0 a1).f2) x40_2) p105 q105
                obtain rfl : ad102 = ad105 := (by injection e105)
                replace hx105_0 := (HB.out.cell (World.block_lt_of_cell? w _ hx105_0)).trans hx105_0
                replace hx105_1 := (HB.out.cell (World.block_lt_of_cell? w _ hx105_1)).trans hx105_1
                replace hx105_2 := (HB.out.cell (World.block_lt_of_cell? w _ hx105_2)).trans hx105_2
                have HR105_2 := Aside0.mk hi105_2
                have HC105_2 := Aside0.mk hl105_2
                clear hi105_2 hl105_2
                replace p105 := eq_true p105
                replace q105 := eq_true q105
                go_wp2
                repeat (go_quiet (fail); try go_wp2)
                go_roundg k2
                case measure => have := HJ4.out; have := HK2.out; omega
                case rel => exact ⟨(wrap64 (x40_2 + 1)), rs_, H', ⟨by have := HJ4.out; have := HK2.out; omega⟩, ⟨bk_⟩, ⟨bl_⟩⟩
              ·rw [if_neg c25] at H
               exact absurd H (by simp)
             ·rw [if_neg c24] at H
              exact absurd H (by simp)
          ·rw [if_neg c21] at H
           exact absurd H (by simp)
         ·rw [if_neg c20] at H
          exact absurd H (by simp)
        ·rw [if_neg c19] at H
         have c19b0 : decide (x40_2 < (((rd_T60 l0 a1).f2).length : Int)) = false := decide_eq_false c19
         clear c19
         obtain rfl := Option.some.inj H
         go_wp2
         repeat (go_quiet (fail); try go_wp2)
         go_ret
         exact ⟨re_, bl_⟩
  ·rw [if_neg c4] at H
   exact absurd H (by simp)
 ·rw [if_neg c3] at H
  exact absurd H (by simp)

end Go.Proofs.YtopbjginpmdebaaDoor.K
namespace Go.Proofs.YtopbjginpmdebaaDoor.K
set_option linter.unusedVariables false
set_option linter.unusedSimpArgs false
open Go Go.Lib

/-- Two texts without a mark, each followed by nothing or by the mark. -/
theorem split_mark (m : UInt8) : ∀ (l l' r r' : List UInt8), (∀ x ∈ l, x ≠ m) → (∀ x ∈ l', x ≠ m) → (∀ x, r.head? = some x → x = m) → (∀ x, r'.head? = some x → x = m) → l ++ r = l' ++ r' → l = l' ∧ r = r'
  | [], [], r, r', _, _, _, _, h => ⟨rfl, h⟩
  | [], y :: l', r, r', _, h2, h3, _, h => by
    have : r.head? = some y := by rw [List.nil_append] at h; rw [h]; rfl
    exact absurd (h3 y this) (h2 y List.mem_cons_self)
  | x :: l, [], r, r', h1, _, _, h4, h => by
    have : r'.head? = some x := by rw [List.nil_append] at h; rw [← h]; rfl
    exact absurd (h4 x this) (h1 x List.mem_cons_self)
  | x :: l, y :: l', r, r', h1, h2, h3, h4, h => by
    simp only [List.cons_append, List.cons.injEq] at h
    obtain ⟨rfl, h⟩ := h
    obtain ⟨rfl, hr⟩ := split_mark m l l' r r' (fun x hx => h1 x (List.mem_cons_of_mem _ hx)) (fun x hx => h2 x (List.mem_cons_of_mem _ hx)) h3 h4 h
    exact ⟨rfl, hr⟩

/-- what a numeral's digits say -/
def valD (l : List UInt8) : Nat := l.foldl (fun a d => a * 10 + (d.toNat - 48)) 0
theorem valD_snoc (l : List UInt8) (d : UInt8) : valD (l ++ [d]) = valD l * 10 + (d.toNat - 48) := by simp [valD]
theorem digit_toNat {i : Nat} (h : i < 10) : (UInt8.ofNat (48 + i)).toNat = 48 + i := by
  rw [UInt8.toNat_ofNat']; exact Nat.mod_eq_of_lt (by omega)
theorem valD_dec (u : Nat) : valD (decDigits u) = u := by
  induction u using Nat.strongRecOn with
  | _ u ih =>
    by_cases h : u < 10
    · rw [decDigits, dif_pos h]
      show (0 * 10 + ((UInt8.ofNat (48 + u)).toNat - 48)) = u
      rw [digit_toNat h]; omega
    · rw [decDigits, dif_neg h, valD_snoc, ih (u / 10) (by omega), digit_toNat (by omega)]; omega
theorem dec_digits (u : Nat) : ∀ x ∈ decDigits u, 48 ≤ x.toNat ∧ x.toNat ≤ 57 := by
  induction u using Nat.strongRecOn with
  | _ u ih =>
    intro x hx
    by_cases h : u < 10
    · rw [decDigits, dif_pos h, List.mem_singleton] at hx
      subst hx; rw [digit_toNat h]; omega
    · rw [decDigits, dif_neg h, List.mem_append, List.mem_singleton] at hx
      rcases hx with hx | rfl
      · exact ih (u / 10) (by omega) x hx
      · rw [digit_toNat (by omega)]; omega
theorem itoa_inj {a b : Int} (h : itoa a = itoa b) : a = b := by
  unfold itoa at h
  have no45 : ∀ u l, (45 : UInt8) :: l ≠ decDigits u := by
    intro u l e
    have := dec_digits u 45 (by rw [← e]; exact List.mem_cons_self)
    have h45 : (45 : UInt8).toNat = 45 := rfl
    omega
  by_cases ha : a < 0 <;> by_cases hb : b < 0
  · rw [if_pos ha, if_pos hb] at h
    have := congrArg valD (List.cons.inj h).2
    rw [valD_dec, valD_dec] at this; omega
  · rw [if_pos ha, if_neg hb] at h; exact absurd h (no45 _ _)
  · rw [if_neg ha, if_pos hb] at h; exact absurd h.symm (no45 _ _)
  · rw [if_neg ha, if_neg hb] at h
    have := congrArg valD h
    rw [valD_dec, valD_dec] at this; omega
theorem itoa_no32 (a : Int) : ∀ x ∈ itoa a, x ≠ 32 := by
  intro x hx e
  subst e
  have h32 : (32 : UInt8).toNat = 32 := rfl
  unfold itoa at hx
  split at hx
  · rcases List.mem_cons.1 hx with h | h
    · exact absurd h (by decide)
    · have := dec_digits _ _ h; omega
  · have := dec_digits _ _ hx; omega

/-- numbers, each behind a blank -/
def spaced (l : List Int) : List UInt8 := (l.map fun x => 32 :: itoa x).flatten
theorem spaced_snoc (l : List Int) (x : Int) : spaced (l ++ [x]) = spaced l ++ 32 :: itoa x := by simp [spaced]
theorem spaced_head (l : List Int) : ∀ x, (spaced l).head? = some x → x = 32 := by
  intro x h
  cases l with
  | nil => simp [spaced] at h
  | cons a l => simp [spaced] at h; exact h.symm
theorem spaced_inj : ∀ (l l' : List Int), spaced l = spaced l' → l = l'
  | [], [], _ => rfl
  | [], b :: l', h => by simp [spaced] at h
  | a :: l, [], h => by simp [spaced] at h
  | a :: l, b :: l', h => by
    have h' : itoa a ++ spaced l = itoa b ++ spaced l' := by simpa [spaced] using h
    obtain ⟨h1, h2⟩ := split_mark 32 _ _ _ _ (itoa_no32 a) (itoa_no32 b) (spaced_head l) (spaced_head l') h'
    rw [itoa_inj h1, spaced_inj l l' h2]
/-- a node's key: its site, its value, its kids -/
def keyL (site : Int) (rest : List Int) : List UInt8 := itoa site ++ spaced rest
theorem keyL_inj {s s' : Int} {l l' : List Int} (h : keyL s l = keyL s' l') : s = s' ∧ l = l' := by
  obtain ⟨h1, h2⟩ := split_mark 32 _ _ _ _ (itoa_no32 s) (itoa_no32 s') (spaced_head l) (spaced_head l') h
  exact ⟨itoa_inj h1, spaced_inj _ _ h2⟩
end Go.Proofs.YtopbjginpmdebaaDoor.K
namespace Go.Proofs.YtopbjginpmdebaaDoor.K
set_option linter.unusedVariables false
set_option linter.unusedSimpArgs false
abbrev Nd := S60
theorem nd_ext : ∀ {n m : Nd}, n.f0 = m.f0 → n.f1 = m.f1 → n.f2 = m.f2 → n = m
  | ⟨_, _, _⟩, ⟨_, _, _⟩, rfl, rfl, rfl => rfl
instance : DecidableEq Nd := fun a b => if h : a.f0 = b.f0 ∧ a.f1 = b.f1 ∧ a.f2 = b.f2 then .isTrue (nd_ext h.1 h.2.1 h.2.2) else .isFalse (fun e => h (by subst e; exact ⟨rfl, rfl, rfl⟩))
instance : Inhabited Nd := ⟨⟨0, 0, []⟩⟩

abbrev PM := Int → Option Int
def upd (g : PM) (i v : Int) : PM := fun x => if x = i then some v else g x
def nth (u : List Nd) (i : Int) : Nd := u.getD i.toNat ⟨0, 0, []⟩
def mp (g : PM) (l : List Int) : List Int := l.map fun k => (g k).getD 0
/-- each kid lies ahead of its parent -/
def Down (u : List Nd) : Prop := ∀ i : Nat, i < u.length → ∀ k ∈ (nth u i).f2, 0 ≤ k ∧ k < i
abbrev St := PM × List Nd
def fin (u : List Nd) (i : Int) (s : St) : St := (upd s.1 i s.2.length, s.2 ++ [⟨(nth u i).f0, (nth u i).f1, mp s.1 (nth u i).f2⟩])
/-- depth first, d levels -/
def dfs (u : List Nd) : Nat → Int → St → St
  | 0, _, s => s
  | d + 1, i, s => if (s.1 i).isSome then s else fin u i ((nth u i).f2.foldl (fun s c => dfs u d c s) s)
/-- the loop with a stack, its top first; 'some none': too many nodes -/
def exL (u : List Nd) (M : Nat) : Nat → PM → List Nd → List (Int × Int) → Option (Option (List Nd))
  | 0, _, _, _ => none
  | _ + 1, _, out, [] => some (some out)
  | k + 1, g, out, (i, j) :: st =>
    if j < ((nth u i).f2.length : Int) then
      (if (g ((nth u i).f2.getD j.toNat 0)).isSome then exL u M k g out ((i, j + 1) :: st) else exL u M k g out (((nth u i).f2.getD j.toNat 0, 0) :: (i, j + 1) :: st))
    else if out.length = M then some none else exL u M k (fin u i (g, out)).1 (fin u i (g, out)).2 st

theorem foldl_congr_mem {α β : Type} (f g : β → α → β) : ∀ (l : List α) (s : β), (∀ x ∈ l, ∀ s, f s x = g s x) → l.foldl f s = l.foldl g s
  | [], _, _ => rfl
  | x :: l, s, h => by
    rw [List.foldl_cons, List.foldl_cons, h x List.mem_cons_self, foldl_congr_mem f g l _ (fun y hy => h y (List.mem_cons_of_mem _ hy))]

theorem dfs_fuel {u : List Nd} (hu : Down u) : ∀ (i : Nat), i < u.length → ∀ d s, i < d → dfs u d i s = dfs u (i + 1) i s := by
  intro i
  induction i using Nat.strongRecOn with
  | _ i ih =>
    intro hi d s hd
    obtain ⟨d, rfl⟩ : ∃ e, d = e + 1 := ⟨d - 1, by omega⟩
    simp only [dfs]
    rw [foldl_congr_mem (fun s c => dfs u d c s) (fun s c => dfs u i c s)]
    intro c hc s
    obtain ⟨h0, h1⟩ := hu i hi c hc
    obtain ⟨n, rfl⟩ : ∃ n : Nat, c = n := ⟨c.toNat, by omega⟩
    rw [ih n (by omega) (by omega) d s (by omega), ih n (by omega) (by omega) i s (by omega)]

theorem dfs_grows (u : List Nd) : ∀ d i s, s.2.length ≤ (dfs u d i s).2.length := by
  intro d
  induction d with
  | zero => intro i s; exact Nat.le_refl _
  | succ d ih =>
    intro i s
    simp only [dfs]
    split
    · exact Nat.le_refl _
    · simp only [fin, List.length_append, List.length_singleton]
      have : ∀ (l : List Int) (s : St), s.2.length ≤ (l.foldl (fun s c => dfs u d c s) s).2.length := by
        intro l
        induction l with
        | nil => intro s; exact Nat.le_refl _
        | cons c l ihl => intro s; exact Nat.le_trans (ih c s) (ihl _)
      have := this (nth u i).f2 s
      omega
theorem fold_grows (u : List Nd) (d : Nat) : ∀ (l : List Int) (s : St), s.2.length ≤ (l.foldl (fun s c => dfs u d c s) s).2.length := by
  intro l
  induction l with
  | nil => intro s; exact Nat.le_refl _
  | cons c l ihl => intro s; exact Nat.le_trans (dfs_grows u d c s) (ihl _)

/-- a node on the stack, its first kids done: what becomes of it -/
theorem exL_node {u : List Nd} (hu : Down u) (M : Nat) : ∀ (i : Nat), i < u.length → ∀ (suf pre : List Int) (s : St) (st : List (Int × Int)), (nth u i).f2 = pre ++ suf → s.2.length ≤ M →
    ∀ R, R = fin u i (suf.foldl (fun s c => dfs u i c s) s) → ∃ m, ∀ k, exL u M (k + m) s.1 s.2 ((↑i, ↑pre.length) :: st) = if R.2.length ≤ M then exL u M k R.1 R.2 st else some none := by
  intro i
  induction i using Nat.strongRecOn with
  | _ i ih =>
    intro hi suf
    induction suf with
    | nil =>
      intro pre s st he hs R hR
      rw [List.foldl_nil] at hR
      subst hR
      refine ⟨1, fun k => ?_⟩
      simp only [exL]
      rw [if_neg (by rw [he]; simp)]
      have hl : (fin u i s).2.length = s.2.length + 1 := by simp [fin]
      by_cases hM : s.2.length = M
      · rw [if_pos hM, if_neg (by rw [hl]; omega)]
      · rw [if_neg hM, if_pos (by rw [hl]; omega)]
    | cons c suf ihs =>
      intro pre s st he hs R hR
      rw [List.foldl_cons] at hR
      obtain ⟨h0, h1⟩ := hu i hi c (by rw [he]; simp)
      obtain ⟨n, rfl⟩ : ∃ n : Nat, c = n := ⟨c.toNat, by omega⟩
      have hget : (nth u i).f2.getD ((pre.length : Int)).toNat 0 = (n : Int) := by rw [he]; simp
      have hlen : ((pre.length : Int)) < ((nth u i).f2.length : Int) := by rw [he]; simp; omega
      have hnext : ((pre.length : Int) + 1) = (((pre ++ [(n : Int)]).length : Nat) : Int) := by simp
      by_cases hd : (s.1 n).isSome
      · obtain ⟨m, hm⟩ := ihs (pre ++ [(n : Int)]) s st (by rw [he]; simp) hs R (by rw [hR]; congr 2; cases i with | zero => omega | succ i => simp only [dfs]; rw [if_pos hd])
        refine ⟨m + 1, fun k => ?_⟩
        rw [← Nat.add_assoc]
        simp only [exL]
        rw [if_pos hlen, hget, if_pos hd, hnext]
        exact hm k
      · -- the kid first
        obtain ⟨m1, hm1⟩ := ih n (by omega) (by omega) (nth u n).f2 [] s ((↑i, ((pre ++ [(n : Int)]).length : Nat)) :: st) rfl hs _ rfl
        have e : dfs u i n s = fin u n ((nth u n).f2.foldl (fun s c => dfs u n c s) s) := by
          rw [dfs_fuel hu n (by omega) i s (by omega)]
          simp only [dfs]; rw [if_neg hd]
        rw [← e] at hm1
        by_cases hM : (dfs u i n s).2.length ≤ M
        · obtain ⟨m2, hm2⟩ := ihs (pre ++ [(n : Int)]) (dfs u i n s) st (by rw [he]; simp) hM R hR
          refine ⟨m2 + m1 + 1, fun k => ?_⟩
          rw [show k + (m2 + m1 + 1) = (k + m2) + m1 + 1 by omega]
          simp only [exL]
          rw [if_pos hlen, hget, if_neg hd, hnext]
          have h3 := hm1 (k + m2)
          rw [if_pos hM] at h3
          rw [show ((0 : Int)) = ((([] : List Int).length : Nat) : Int) from rfl, h3]
          exact hm2 k
        · refine ⟨m1 + 1, fun k => ?_⟩
          rw [← Nat.add_assoc]
          simp only [exL]
          rw [if_pos hlen, hget, if_neg hd, hnext]
          have h3 := hm1 k
          rw [if_neg hM] at h3
          rw [show ((0 : Int)) = ((([] : List Int).length : Nat) : Int) from rfl, h3, if_neg]
          rw [hR]
          have h4 := fold_grows u i suf (dfs u i n s)
          simp only [fin, List.length_append, List.length_singleton]
          omega
/-- Export: depth first from a root, at most M nodes -/
def expo (u : List Nd) (root : Int) : List Nd := (dfs u (root.toNat + 1) root (fun _ => none, [])).2
theorem exL_root {u : List Nd} (hu : Down u) (M : Nat) (i : Nat) (hi : i < u.length) : ∃ m, ∀ k, exL u M (k + m) (fun _ => none) [] [(↑i, 0)] = some (if (expo u i).length ≤ M then some (expo u i) else none) := by
  obtain ⟨m, hm⟩ := exL_node hu M i hi (nth u i).f2 [] (fun _ => none, []) [] rfl (Nat.zero_le _) _ rfl
  refine ⟨m + 1, fun k => ?_⟩
  have e : dfs u (i + 1) i (fun _ => none, []) = fin u i ((nth u i).f2.foldl (fun s c => dfs u i c s) (fun _ => none, [])) := by
    simp [dfs]
  have h3 := hm (k + 1)
  rw [← e] at h3
  rw [show k + (m + 1) = k + 1 + m by omega]
  rw [show ((0 : Int)) = ((([] : List Int).length : Nat) : Int) from rfl, h3]
  unfold expo
  rw [Int.toNat_natCast]
  split <;> simp [exL]
end Go.Proofs.YtopbjginpmdebaaDoor.K
namespace Go.Proofs.YtopbjginpmdebaaDoor.K
set_option linter.unusedVariables false
set_option linter.unusedSimpArgs false
/-- a node in a table: where it is, or at the end -/
def place0 (u : List Nd) (n : Nd) : List Nd × Int := if n ∈ u then (u, (u.idxOf n : Nat)) else (u ++ [n], (u.length : Nat))
def sameK (l : List Int) : Bool := l.all fun k => decide (k = l.headD 0)
def placeB (u : List Nd) (site : Int) (kids : List Int) : List Nd × Int := if sameK kids = true then (u, kids.headD 0) else place0 u ⟨site, 0, kids⟩
def lk (at_ : List Int) (c : Int) : Int := at_.getD c.toNat 0
def place1 (u : List Nd) (at_ : List Int) (n : Nd) : List Nd × Int := if n.f0 < 0 then place0 u ⟨-1, n.f1, []⟩ else placeB u n.f0 (n.f2.map (lk at_))
def imp : List Nd → List Int → List Nd → List Nd × List Int
  | u, at_, [] => (u, at_)
  | u, at_, n :: ns => imp (place1 u at_ n).1 (at_ ++ [(place1 u at_ n).2]) ns
/-- a graph's form, as far as the tables need it -/
def Fit (nodes : List Nd) : Prop := Down nodes ∧ ∀ n ∈ nodes, 0 ≤ n.f0 → n.f2 ≠ []

theorem place0_lt (u : List Nd) (n : Nd) : 0 ≤ (place0 u n).2 ∧ (place0 u n).2 < (place0 u n).1.length := by
  unfold place0
  split
  · rename_i h; exact ⟨by simp, by have := List.idxOf_lt_length_of_mem h; simpa using this⟩
  · simp; omega
theorem place0_pre (u : List Nd) (n : Nd) : u <+: (place0 u n).1 := by
  unfold place0; split
  · exact List.prefix_refl _
  · exact List.prefix_append _ _
theorem place0_len (u : List Nd) (n : Nd) : (place0 u n).1.length ≤ u.length + 1 := by
  unfold place0; split <;> simp
theorem nth_lt {u : List Nd} {i : Nat} (h : i < u.length) : nth u i = u[i] := by simp [nth, h]
theorem down_snoc {u : List Nd} {n : Nd} (hu : Down u) (hn : ∀ k ∈ n.f2, 0 ≤ k ∧ k < u.length) : Down (u ++ [n]) := by
  intro i hi k hk
  rw [nth_lt hi] at hk
  rcases Nat.lt_or_ge i u.length with h | h
  · rw [List.getElem_append_left h, ← nth_lt h] at hk
    exact hu i h k hk
  · have : i = u.length := by simp at hi; omega
    subst this
    rw [List.getElem_append_right (Nat.le_refl _)] at hk
    exact hn k (by simpa using hk)
theorem place0_down {u : List Nd} {n : Nd} (hu : Down u) (hn : ∀ k ∈ n.f2, 0 ≤ k ∧ k < u.length) : Down (place0 u n).1 := by
  unfold place0; split
  · exact hu
  · exact down_snoc hu hn
theorem place0_nodup {u : List Nd} {n : Nd} (hu : u.Nodup) : (place0 u n).1.Nodup := by
  unfold place0; split
  · exact hu
  · rename_i h
    rw [List.nodup_append]
    exact ⟨hu, by simp, by intro a ha b hb; rw [List.mem_singleton.1 hb]; rintro rfl; exact h ha⟩
theorem sameK_head {l : List Int} (h : sameK l = true) : ∀ k ∈ l, k = l.headD 0 := by
  intro k hk
  have := List.all_eq_true.1 h k hk
  simpa using this
theorem placeB_lt {u : List Nd} {s : Int} {kids : List Int} (hk : ∀ k ∈ kids, 0 ≤ k ∧ k < (u.length : Int)) (hne : kids ≠ []) : 0 ≤ (placeB u s kids).2 ∧ (placeB u s kids).2 < (placeB u s kids).1.length := by
  unfold placeB; split
  · cases kids with
    | nil => exact absurd rfl hne
    | cons a l => exact hk a List.mem_cons_self
  · exact place0_lt _ _
theorem placeB_pre (u : List Nd) (s : Int) (kids : List Int) : u <+: (placeB u s kids).1 := by
  unfold placeB; split
  · exact List.prefix_refl _
  · exact place0_pre _ _
theorem placeB_len (u : List Nd) (s : Int) (kids : List Int) : (placeB u s kids).1.length ≤ u.length + 1 := by
  unfold placeB; split
  · simp
  · exact place0_len _ _
theorem placeB_down {u : List Nd} {s : Int} {kids : List Int} (hu : Down u) (hk : ∀ k ∈ kids, 0 ≤ k ∧ k < (u.length : Int)) : Down (placeB u s kids).1 := by
  unfold placeB; split
  · exact hu
  · exact place0_down hu hk
theorem placeB_nodup {u : List Nd} {s : Int} {kids : List Int} (hu : u.Nodup) : (placeB u s kids).1.Nodup := by
  unfold placeB; split
  · exact hu
  · exact place0_nodup hu
/-- what holds while nodes are stored: the table's kids lie below, the indices so far are its own -/
structure Tbl (u : List Nd) (at_ : List Int) : Prop where
  down : Down u
  nodup : u.Nodup
  at_lt : ∀ a ∈ at_, 0 ≤ a ∧ a < (u.length : Int)
theorem lk_mem {at_ : List Int} {c : Int} (h0 : 0 ≤ c) (h1 : c < at_.length) : lk at_ c ∈ at_ := by
  unfold lk
  have h : c.toNat < at_.length := by omega
  rw [List.getD_eq_getElem?_getD, List.getElem?_eq_getElem h]
  exact List.getElem_mem h
theorem Tbl.kids {u : List Nd} {at_ : List Int} (h : Tbl u at_) {l : List Int} (hl : ∀ c ∈ l, 0 ≤ c ∧ c < (at_.length : Int)) : ∀ k ∈ l.map (lk at_), 0 ≤ k ∧ k < (u.length : Int) := by
  intro k hk
  obtain ⟨c, hc, rfl⟩ := List.mem_map.1 hk
  exact h.at_lt _ (lk_mem (hl c hc).1 (hl c hc).2)
theorem Tbl.place1 {u : List Nd} {at_ : List Int} (h : Tbl u at_) {n : Nd} (hl : ∀ c ∈ n.f2, 0 ≤ c ∧ c < (at_.length : Int)) (hne : 0 ≤ n.f0 → n.f2 ≠ []) :
    Tbl (place1 u at_ n).1 (at_ ++ [(place1 u at_ n).2]) ∧ u <+: (K.place1 u at_ n).1 ∧ (K.place1 u at_ n).1.length ≤ u.length + 1 := by
  unfold K.place1
  split
  · refine ⟨⟨place0_down h.down (by simp), place0_nodup h.nodup, ?_⟩, place0_pre _ _, place0_len _ _⟩
    intro a ha
    rcases List.mem_append.1 ha with ha | ha
    · exact ⟨(h.at_lt a ha).1, Int.lt_of_lt_of_le (h.at_lt a ha).2 (by have := (place0_pre u ⟨-1, n.f1, []⟩).length_le; omega)⟩
    · rw [List.mem_singleton.1 ha]; exact place0_lt _ _
  · have hk := h.kids hl
    refine ⟨⟨placeB_down h.down hk, placeB_nodup h.nodup, ?_⟩, placeB_pre _ _ _, placeB_len _ _ _⟩
    intro a ha
    rcases List.mem_append.1 ha with ha | ha
    · exact ⟨(h.at_lt a ha).1, Int.lt_of_lt_of_le (h.at_lt a ha).2 (by have := (placeB_pre u n.f0 (n.f2.map (lk at_))).length_le; omega)⟩
    · rw [List.mem_singleton.1 ha]
      exact placeB_lt hk (by simpa using hne (by omega))
theorem imp_snoc (ns : List Nd) (n : Nd) : ∀ (u : List Nd) (at_ : List Int), imp u at_ (ns ++ [n]) = ((place1 (imp u at_ ns).1 (imp u at_ ns).2 n).1, (imp u at_ ns).2 ++ [(place1 (imp u at_ ns).1 (imp u at_ ns).2 n).2]) := by
  induction ns with
  | nil => intro u at_; simp [imp]
  | cons m ns ih => intro u at_; simp only [List.cons_append, imp]; exact ih _ _
theorem imp_len (ns : List Nd) : ∀ (u : List Nd) (at_ : List Int), (imp u at_ ns).2.length = at_.length + ns.length := by
  induction ns with
  | nil => intro u at_; simp [imp]
  | cons m ns ih => intro u at_; simp only [imp]; rw [ih]; simp; omega
theorem down_take {ns : List Nd} (h : Down ns) (k : Nat) : Down (ns.take k) := by
  intro i hi c hc
  have hi' : i < ns.length := by simp at hi; omega
  have e : nth (ns.take k) i = nth ns i := by rw [nth_lt hi, nth_lt hi']; simp
  rw [e] at hc
  exact h i hi' c hc
theorem take_snoc' {ns : List Nd} {k : Nat} (h : k < ns.length) : ns.take (k + 1) = ns.take k ++ [nth ns k] := by
  rw [List.take_succ_eq_append_getElem h, nth_lt h]
theorem imp_tbl {ns : List Nd} (hf : Fit ns) {u : List Nd} (hu : Tbl u []) : ∀ k, k ≤ ns.length → Tbl (imp u [] (ns.take k)).1 (imp u [] (ns.take k)).2 ∧ (imp u [] (ns.take k)).1.length ≤ u.length + k ∧ u <+: (imp u [] (ns.take k)).1 := by
  intro k
  induction k with
  | zero => intro _; simpa [imp] using hu
  | succ k ih =>
    intro hk
    obtain ⟨h1, h2, h3⟩ := ih (by omega)
    rw [take_snoc' (by omega), imp_snoc]
    have hl := imp_len (ns.take k) u []
    obtain ⟨h4, h5, h6⟩ := h1.place1 (n := nth ns k) (by
      intro c hc
      have := hf.1 k (by omega) c hc
      rw [hl]; simp; omega) (hf.2 _ (by rw [nth_lt (by omega)]; exact List.getElem_mem _))
    exact ⟨h4, by simp only; omega, h3.trans h5⟩
theorem tbl_nil : Tbl [] [] := ⟨fun i hi => by simp at hi, by simp, by simp⟩
end Go.Proofs.YtopbjginpmdebaaDoor.K
namespace Go.Proofs.YtopbjginpmdebaaDoor.K
set_option linter.unusedVariables false
set_option linter.unusedSimpArgs false
/-- φ carries the nodes of u that it tells to nodes of v, kids to kids -/
structure Iso (u v : List Nd) (φ : PM) : Prop where
  inj : ∀ i j a, φ i = some a → φ j = some a → i = j
  node : ∀ i a, φ i = some a → 0 ≤ i ∧ 0 ≤ a ∧ i < u.length ∧ a < v.length ∧ nth v a = ⟨(nth u i).f0, (nth u i).f1, mp φ (nth u i).f2⟩ ∧ ∀ k ∈ (nth u i).f2, (φ k).isSome
theorem dfs_iso {u v : List Nd} {φ : PM} (h : Iso u v φ) : ∀ (d : Nat) (i a : Int) (s s' : St), φ i = some a → (∀ j b, φ j = some b → s.1 j = s'.1 b) → s.2 = s'.2 →
    (∀ j b, φ j = some b → (dfs u d i s).1 j = (dfs v d a s').1 b) ∧ (dfs u d i s).2 = (dfs v d a s').2 := by
  intro d
  induction d with
  | zero => intro i a s s' _ h1 h2; exact ⟨h1, h2⟩
  | succ d ih =>
    intro i a s s' hi h1 h2
    obtain ⟨_, _, _, _, hn, hk⟩ := h.node i a hi
    simp only [dfs]
    rw [← h1 i a hi]
    split
    · exact ⟨h1, h2⟩
    · have key : ∀ (l : List Int) (s s' : St), (∀ k ∈ l, (φ k).isSome) → (∀ j b, φ j = some b → s.1 j = s'.1 b) → s.2 = s'.2 →
          (∀ j b, φ j = some b → (l.foldl (fun s c => dfs u d c s) s).1 j = ((mp φ l).foldl (fun s c => dfs v d c s) s').1 b) ∧ (l.foldl (fun s c => dfs u d c s) s).2 = ((mp φ l).foldl (fun s c => dfs v d c s) s').2 := by
        intro l
        induction l with
        | nil => intro s s' _ h1 h2; exact ⟨h1, h2⟩
        | cons c l ihl =>
          intro s s' hk h1 h2
          obtain ⟨b, hb⟩ := Option.isSome_iff_exists.1 (hk c List.mem_cons_self)
          obtain ⟨g1, g2⟩ := ih c b s s' hb h1 h2
          have := ihl (dfs u d c s) (dfs v d b s') (fun k hk' => hk k (List.mem_cons_of_mem _ hk')) g1 g2
          simpa [mp, hb] using this
      obtain ⟨g1, g2⟩ := key (nth u i).f2 s s' hk h1 h2
      have hf : (nth v a).f2 = mp φ (nth u i).f2 := by rw [hn]
      rw [hf]
      unfold fin
      refine ⟨fun j b hj => ?_, ?_⟩
      · simp only [upd, g2]
        by_cases e : j = i
        · subst e
          have : a = b := by rw [hi] at hj; exact Option.some.inj hj
          rw [if_pos rfl, if_pos this.symm]
        · rw [if_neg e, if_neg (fun e' => e (h.inj j i a (by rw [← e']; exact hj) hi))]
          exact g1 j b hj
      · simp only [g2]
        rw [hn]
        congr 3
        show (nth u i).f2.map _ = (mp φ (nth u i).f2).map _
        rw [mp, List.map_map]
        refine List.map_congr_left fun k hk' => ?_
        obtain ⟨b, hb⟩ := Option.isSome_iff_exists.1 (hk k hk')
        simp only [Function.comp_apply, hb, Option.getD_some]
        rw [g1 k b hb]; rfl
theorem expo_iso {u v : List Nd} {φ : PM} (h : Iso u v φ) (hu : Down u) (hv : Down v) {i a : Int} (hi : φ i = some a) : expo u i = expo v a := by
  obtain ⟨h0, h1, h2, h3, _, _⟩ := h.node i a hi
  have := (dfs_iso h (i.toNat + a.toNat + 1) i a (fun _ => none, []) (fun _ => none, []) hi (fun _ _ _ => rfl) rfl).2
  obtain ⟨m, rfl⟩ : ∃ m : Nat, i = m := ⟨i.toNat, by omega⟩
  obtain ⟨n, rfl⟩ : ∃ n : Nat, a = n := ⟨a.toNat, by omega⟩
  unfold expo
  rw [dfs_fuel hu m (by omega) _ _ (by simp; omega), dfs_fuel hv n (by omega) _ _ (by simp; omega)] at this
  simpa using this

/-- what depth first search keeps: the nodes that are placed stand in the list, their kids' places in them, and the places are those of the list -/
structure Pl (u : List Nd) (s : St) : Prop where
  inj : ∀ i j a, s.1 i = some a → s.1 j = some a → i = j
  node : ∀ i a, s.1 i = some a → 0 ≤ i ∧ 0 ≤ a ∧ i < u.length ∧ a < s.2.length ∧ nth s.2 a = ⟨(nth u i).f0, (nth u i).f1, mp s.1 (nth u i).f2⟩ ∧ (∀ k ∈ (nth u i).f2, ∃ b, s.1 k = some b ∧ b < a)
  all : ∀ a : Nat, a < s.2.length → ∃ i, s.1 i = some (a : Int)
theorem nth_append_left {u v : List Nd} {a : Int} (h0 : 0 ≤ a) (h : a < u.length) : nth (u ++ v) a = nth u a := by
  unfold nth
  rw [List.getD_eq_getElem?_getD, List.getD_eq_getElem?_getD, List.getElem?_append_left (by omega)]
/-- the places so far are as they were -/
def Ext (s s' : St) : Prop := ∀ i a, s.1 i = some a → s'.1 i = some a
theorem dfs_pl {u : List Nd} (hu : Down u) : ∀ (d : Nat) (i : Nat) (s : St), i < u.length → i < d → Pl u s → Pl u (dfs u d i s) ∧ Ext s (dfs u d i s) ∧ ((dfs u d i s).1 i).isSome ∧ s.2 <+: (dfs u d i s).2 := by
  intro d
  induction d with
  | zero => intro i s _ h; omega
  | succ d ih =>
    intro i s hi hd hs
    simp only [dfs]
    split
    · rename_i h; exact ⟨hs, fun _ _ h => h, h, List.prefix_refl _⟩
    · rename_i hnone
      have key : ∀ (l : List Int) (s : St), (∀ k ∈ l, 0 ≤ k ∧ k < i) → Pl u s → Pl u (l.foldl (fun s c => dfs u d c s) s) ∧ Ext s (l.foldl (fun s c => dfs u d c s) s) ∧ (∀ k ∈ l, ((l.foldl (fun s c => dfs u d c s) s).1 k).isSome) ∧ s.2 <+: (l.foldl (fun s c => dfs u d c s) s).2 ∧ (s.1 i = none → (l.foldl (fun s c => dfs u d c s) s).1 i = none) := by
        intro l
        induction l with
        | nil => intro s _ hs; exact ⟨hs, fun _ _ h => h, by simp, List.prefix_refl _, fun h => h⟩
        | cons c l ihl =>
          intro s hl hs
          obtain ⟨c0, c1⟩ := hl c List.mem_cons_self
          obtain ⟨n, rfl⟩ : ∃ n : Nat, c = n := ⟨c.toNat, by omega⟩
          obtain ⟨p1, p2, p3, p4⟩ := ih n s (by omega) (by omega) hs
          obtain ⟨q1, q2, q3, q4, q5⟩ := ihl _ (fun k hk => hl k (List.mem_cons_of_mem _ hk)) p1
          refine ⟨q1, fun a b h => q2 a b (p2 a b h), ?_, p4.trans q4, fun h => q5 ?_⟩
          · intro k hk
            rcases List.mem_cons.1 hk with rfl | hk
            · obtain ⟨b, hb⟩ := Option.isSome_iff_exists.1 p3
              rw [List.foldl_cons, q2 _ _ hb]; rfl
            · exact q3 k hk
          · -- dfs at n < i leaves i alone
            exact dfs_low hu d n s i (by omega) (by omega) h
      obtain ⟨q1, q2, q3, q4, q5⟩ := key (nth u i).f2 s (fun k hk => hu i hi k hk) hs
      have hn : s.1 i = none := by simpa using hnone
      have hi0 := q5 hn
      generalize hT : (nth u i).f2.foldl (fun s c => dfs u d c s) s = T at q1 q2 q3 q4 q5 hi0
      have hmp : mp (upd T.1 i T.2.length) (nth u i).f2 = mp T.1 (nth u i).f2 := by
        refine List.map_congr_left fun k hk => ?_
        have := hu i hi k hk
        simp only [upd]; rw [if_neg (by omega)]
      have hmp' : ∀ j a, T.1 j = some a → mp (upd T.1 i T.2.length) (nth u j).f2 = mp T.1 (nth u j).f2 := by
        intro j a hj
        refine List.map_congr_left fun k hk => ?_
        obtain ⟨b, hb, _⟩ := (q1.node j a hj).2.2.2.2.2 k hk
        simp only [upd]; rw [if_neg]; rintro rfl; rw [hi0] at hb; cases hb
      refine ⟨⟨?_, ?_, ?_⟩, ?_, ?_, ?_⟩
      · intro j k a hj hk
        simp only [fin, upd] at hj hk
        split at hj <;> split at hk
        · omega
        · have := (q1.node k a hk).2.2.2.1; simp at hj; omega
        · have := (q1.node j a hj).2.2.2.1; simp at hk; omega
        · exact q1.inj j k a hj hk
      · intro j a hj
        simp only [fin] at hj ⊢
        by_cases e : j = i
        · subst e
          simp only [upd, if_pos, Option.some.injEq] at hj
          subst hj
          refine ⟨by omega, by omega, by omega, by simp; omega, ?_, ?_⟩
          · rw [hmp]; simp [nth]
          · intro k hk
            obtain ⟨b, hb⟩ := Option.isSome_iff_exists.1 (q3 k hk)
            have := hu i hi k hk
            refine ⟨b, by simp only [upd]; rw [if_neg (by omega)]; exact hb, (q1.node k b hb).2.2.2.1⟩
        · have hj' : T.1 j = some a := by simpa [upd, e] using hj
          obtain ⟨n1, n2, n3, n4, n5, n6⟩ := q1.node j a hj'
          refine ⟨n1, n2, n3, by simp; omega, ?_, ?_⟩
          · rw [nth_append_left n2 n4, n5, hmp' j a hj']
          · intro k hk
            obtain ⟨b, hb, hlt⟩ := n6 k hk
            refine ⟨b, ?_, hlt⟩
            simp only [upd]; rw [if_neg]; exact hb
            rintro rfl; rw [hi0] at hb; cases hb
      · intro a ha
        simp only [fin, List.length_append, List.length_singleton] at ha ⊢
        rcases Nat.lt_or_ge a T.2.length with h | h
        · obtain ⟨j, hj⟩ := q1.all a h
          refine ⟨j, ?_⟩
          simp only [upd]; rw [if_neg]; exact hj
          rintro rfl; rw [hi0] at hj; cases hj
        · exact ⟨i, by simp only [upd, if_pos]; congr 1; omega⟩
      · intro j a hj
        simp only [fin, upd]; rw [if_neg]; exact q2 j a hj
        rintro rfl; rw [hn] at hj; cases hj
      · simp [fin, upd]
      · exact q4.trans (by simp [fin])
where
  dfs_low {u : List Nd} (hu : Down u) : ∀ (d : Nat) (n : Nat) (s : St) (i : Nat), n < i → n < u.length → s.1 i = none → (dfs u d n s).1 i = none := by
    intro d
    induction d with
    | zero => intro n s i _ _ h; exact h
    | succ d ih =>
      intro n s i hni hnu h
      simp only [dfs]
      split
      · exact h
      · have key : ∀ (l : List Int) (s : St), (∀ k ∈ l, 0 ≤ k ∧ k < n) → s.1 i = none → (l.foldl (fun s c => dfs u d c s) s).1 i = none := by
          intro l
          induction l with
          | nil => intro s _ h; exact h
          | cons c l ihl =>
            intro s hl h
            obtain ⟨c0, c1⟩ := hl c List.mem_cons_self
            obtain ⟨m, rfl⟩ : ∃ m : Nat, c = m := ⟨c.toNat, by omega⟩
            exact ihl _ (fun k hk => hl k (List.mem_cons_of_mem _ hk)) (ih m s i (by omega) (by omega) h)
        simp only [fin, upd]
        rw [if_neg (by omega)]
        exact key _ s (fun k hk => hu n hnu k hk) h
theorem pl_nil (u : List Nd) : Pl u (fun _ => none, []) := ⟨fun _ _ _ h => (by cases h), fun _ _ h => (by cases h), fun a h => (by simp at h)⟩
end Go.Proofs.YtopbjginpmdebaaDoor.K
