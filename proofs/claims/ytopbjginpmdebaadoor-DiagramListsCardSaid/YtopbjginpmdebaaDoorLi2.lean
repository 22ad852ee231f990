/- Lemmas for: Proved: the tied card of exactppllaw19.DiagramLists (for every input the law returns true). Conditions: none beyond the given row. -/
import Derived.Test.YtopbjginpmdebaaDoorProg
import Derived.Below
import Derived.Deep.Draws
import Derived.Deep.AppendLies
import Derived.Maps.AppendAt
import Derived.OwnWalk
import Derived.Laws.BytesArg
import Derived.Laws.MakeOwn
import Derived.Laws.OwnMore
import Derived.Deep.OwnRows
import Derived.Tactics
import Derived.Lib.ConvBytes
import Derived.Laws.Slices
import Derived.WalkKit
import Derived.KernelRfl
import Derived.RowKit3
import Derived.Deep.LoopGhost
import Derived.Deep.QuietTactic
import Derived.BigQuiet
import Derived.WideLaws
import Derived.Deep.DeepCutAuto
import Derived.Deep.CutBlock
import Derived.Deep.RegionHeld3
import Derived.Laws.Rows
import Derived.Lib.AppendStr
import Derived.ArgAppend
import Derived.Laws.IdiomCopy
import Derived.OrdersHeld
import Derived.Laws.BitsLemmas
import Derived.RowKit
import Derived.Test.YtopbjginpmdebaaDoorLi1
namespace Go.Proofs.YtopbjginpmdebaaDoor.K
open Go.RowKit Go.Proofs.YtopbjginpmdebaaDoorW.PrintWords Go.Proofs.YtopbjginpmdebaaDoorW.PrintLast Go.Proofs.YtopbjginpmdebaaDoorW.PrintMore
attribute [local go_sem] max2_int min2_int max_two min_two max_three min_three max_four min_four   -- for this text's walks alone
set_option linter.unusedVariables false
set_option linter.unusedSimpArgs false



def errW : Option Int → Value
  | none => .nilIface
  | some c => .iface 0 (.int .i64 c)
theorem errW_none : errW none = .nilIface := rfl
theorem errW_some (c : Int) : errW (some c) = .iface 0 (.int .i64 c) := rfl

theorem info3 : (Tryd.prog.info? 3).map (fun i => (i.zero, i.size, i.bytes)) = some (some (.int .i64 0), 1, 8) := by kernel_rfl
theorem info22 : (Tryd.prog.info? 22).map (fun i => (i.zero, i.size, i.bytes)) = some (some (.slice none 0 0), 1, 24) := by kernel_rfl
theorem info31 : (Tryd.prog.info? 31).map (fun i => (i.zero, i.size, i.bytes)) = some (some (.agg #[(.slice none 0 0)]), 1, 24) := by kernel_rfl
theorem info60 : (Tryd.prog.info? 60).map (fun i => (i.zero, i.size, i.bytes)) = some (some (.agg #[(.int .i64 0), (.int .i64 0), (.slice none 0 0)]), 3, 40) := by kernel_rfl
-- the values' own types
def rd_L1 (xs : List (List Int)) (i : Int) : (List Int) := xs.getD i.toNat ([] : List Int)
theorem at_L1 {w : World} {A : Option Addr} {n : Nat} {xs : List (List Int)} (h : Kd.C (Kd.slice 3 (Kd.int .i64)) w A n xs) (i : Int) (h0 : 0 ≤ i) (h1 : i < n) : ∃ ad A0 c0, A = some ad ∧ w.cell? (ad.add i.toNat) = some (.slice A0 (rd_L1 xs i).length c0) ∧ (rd_L1 xs i).length ≤ c0 ∧ (Kd.int .i64).C w A0 (rd_L1 xs i).length (rd_L1 xs i) := by
  obtain ⟨ad, c, e, _, hK, hc0⟩ := Kd.C_get h ([] : List Int) i h0 h1
  have hc : ∀ j u, c[j]? = some u → w.cell? (ad.add (i.toNat * 1 + j)) = some u := hc0
  obtain ⟨A0, c0, rfl, l0, g0⟩ := hK
  exact ⟨ad, A0, c0, e, by have hq := hc 0 _ rfl; rwa [Nat.mul_one, Nat.add_zero] at hq, l0, g0⟩

/-! #### struct type 60 -/
structure S60 where
  f0 : Int
  f1 : Int
  f2 : (List Int)
def z60 : S60 := ⟨(0 : Int), (0 : Int), ([] : List Int)⟩
def k60 : Kd S60 := Kd.iso (Kd.pair (Kd.int .i64) (Kd.pair (Kd.int .i64) (Kd.slice 3 (Kd.int .i64)))) (fun x : S60 => (x.f0, x.f1, x.f2))
theorem k60_open {w : World} {x : S60} {cs : List Value} (h : k60.K w x cs) : ∃ A2 c2, cs = [.int .i64 x.f0, .int .i64 x.f1, .slice A2 x.f2.length c2] ∧ x.f2.length ≤ c2 ∧ (Kd.int .i64).C w A2 x.f2.length x.f2 := by
  obtain ⟨_, _, rfl, rfl, ⟨_, _, rfl, rfl, ⟨A2, c2, rfl, l2, g2⟩⟩⟩ := h
  exact ⟨A2, c2, rfl, l2, g2⟩
theorem k60_openM {w : World} {base : Nat} {ok : Nat → Prop} {x : S60} {cs : List Value} (h : k60.M w base ok x cs) : ∃ v2, cs = [.int .i64 x.f0, .int .i64 x.f1, v2] ∧ (Kd.int .i64).R 3 w base ok v2 x.f2 := by
  obtain ⟨_, _, rfl, rfl, ⟨_, _, rfl, rfl, ⟨v2, rfl, g2⟩⟩⟩ := h
  exact ⟨v2, rfl, g2⟩
theorem k60_mk (w : World) (x : S60) {A2 : Option Addr} {c2 : Nat} (l2 : x.f2.length ≤ c2) (g2 : (Kd.int .i64).C w A2 x.f2.length x.f2) : k60.K w x [.int .i64 x.f0, .int .i64 x.f1, .slice A2 x.f2.length c2] := ⟨[.int .i64 x.f0], [.int .i64 x.f1, .slice A2 x.f2.length c2], rfl, rfl, ⟨[.int .i64 x.f1], [.slice A2 x.f2.length c2], rfl, rfl, ⟨A2, c2, rfl, l2, g2⟩⟩⟩
theorem k60_mkM (w : World) (base : Nat) (ok : Nat → Prop) (x : S60) {v2 : Value} (g2 : (Kd.int .i64).R 3 w base ok v2 x.f2) : k60.M w base ok x [.int .i64 x.f0, .int .i64 x.f1, v2] := ⟨[.int .i64 x.f0], [.int .i64 x.f1, v2], rfl, rfl, ⟨[.int .i64 x.f1], [v2], rfl, rfl, ⟨v2, rfl, g2⟩⟩⟩
theorem k60_openF {W : World} {ok : Nat → Prop} {x : S60} {cs : List Value} (h : Kd.FK k60 W ok x cs) : ∃ A2 c2, cs = [.int .i64 x.f0, .int .i64 x.f1, .slice A2 x.f2.length c2] ∧ x.f2.length ≤ c2 ∧ Kd.F (Kd.int .i64) W ok A2 x.f2.length x.f2 := by
  obtain ⟨A2, c2, rfl, l2, _⟩ := k60_open (Kd.FK_now h)
  exact ⟨A2, c2, rfl, l2, (fun W' hW => by obtain ⟨A2_, c2_, he, l2_, g2_⟩ := k60_open (h W' hW); injection (Option.some.inj (show some (Value.slice A2 x.f2.length c2) = some (Value.slice A2_ x.f2.length c2_) from congrArg (fun l => l[2]?) he)) with ha_ _ _; rw [ha_]; exact g2_)⟩
theorem k60_mkF (W : World) (ok : Nat → Prop) (x : S60) {A2 : Option Addr} {c2 : Nat} (l2 : x.f2.length ≤ c2) (g2 : Kd.F (Kd.int .i64) W ok A2 x.f2.length x.f2) : Kd.FK k60 W ok x [.int .i64 x.f0, .int .i64 x.f1, .slice A2 x.f2.length c2] := fun W2 hW => k60_mk W2 x l2 (g2 W2 hW)
def rd_T60 (xs : List S60) (i : Int) : S60 := xs.getD i.toNat z60
theorem at_T60 {w : World} {A : Option Addr} {n : Nat} {xs : List S60} (h : Kd.C k60 w A n xs) (i : Int) (h0 : 0 ≤ i) (h1 : i < n) : ∃ ad A2 c2, A = some ad ∧ w.cell? (ad.add (i.toNat * 3)) = some (.int .i64 (rd_T60 xs i).f0) ∧ w.cell? ⟨(ad.add (i.toNat * 3)).block, (ad.add (i.toNat * 3)).off + 1, none⟩ = some (.int .i64 (rd_T60 xs i).f1) ∧ w.cell? ⟨(ad.add (i.toNat * 3)).block, (ad.add (i.toNat * 3)).off + 2, none⟩ = some (.slice A2 (rd_T60 xs i).f2.length c2) ∧ (rd_T60 xs i).f2.length ≤ c2 ∧ (Kd.int .i64).C w A2 (rd_T60 xs i).f2.length (rd_T60 xs i).f2 := by
  obtain ⟨ad, c, e, _, hK, hc0⟩ := Kd.C_get h z60 i h0 h1
  have hc : ∀ j u, c[j]? = some u → w.cell? (ad.add (i.toNat * 3 + j)) = some u := hc0
  obtain ⟨A2, c2, rfl, l2, g2⟩ := k60_open hK
  exact ⟨ad, A2, c2, e, hc 0 _ rfl, by rw [← add_field _ _ 1 (by omega)]; exact hc 1 _ rfl, by rw [← add_field _ _ 2 (by omega)]; exact hc 2 _ rfl, l2, g2⟩

def rd_L4 (xs : List (List S60)) (i : Int) : (List S60) := xs.getD i.toNat ([] : List S60)
theorem at_L4 {w : World} {A : Option Addr} {n : Nat} {xs : List (List S60)} (h : Kd.C (Kd.slice 60 k60) w A n xs) (i : Int) (h0 : 0 ≤ i) (h1 : i < n) : ∃ ad A0 c0, A = some ad ∧ w.cell? (ad.add i.toNat) = some (.slice A0 (rd_L4 xs i).length c0) ∧ (rd_L4 xs i).length ≤ c0 ∧ k60.C w A0 (rd_L4 xs i).length (rd_L4 xs i) := by
  obtain ⟨ad, c, e, _, hK, hc0⟩ := Kd.C_get h ([] : List S60) i h0 h1
  have hc : ∀ j u, c[j]? = some u → w.cell? (ad.add (i.toNat * 1 + j)) = some u := hc0
  obtain ⟨A0, c0, rfl, l0, g0⟩ := hK
  exact ⟨ad, A0, c0, e, by have hq := hc 0 _ rfl; rwa [Nat.mul_one, Nat.add_zero] at hq, l0, g0⟩

/-! #### struct type 31 -/
structure S31 where
  f0 : (List S60)
def z31 : S31 := ⟨([] : List S60)⟩
def k31 : Kd S31 := Kd.iso (Kd.slice 60 k60) (fun x : S31 => x.f0)
theorem k31_open {w : World} {x : S31} {cs : List Value} (h : k31.K w x cs) : ∃ A0 c0, cs = [.slice A0 x.f0.length c0] ∧ x.f0.length ≤ c0 ∧ k60.C w A0 x.f0.length x.f0 := by
  obtain ⟨A0, c0, rfl, l0, g0⟩ := h
  exact ⟨A0, c0, rfl, l0, g0⟩
theorem k31_openM {w : World} {base : Nat} {ok : Nat → Prop} {x : S31} {cs : List Value} (h : k31.M w base ok x cs) : ∃ v0, cs = [v0] ∧ k60.R 60 w base ok v0 x.f0 := by
  obtain ⟨v0, rfl, g0⟩ := h
  exact ⟨v0, rfl, g0⟩
theorem k31_mk (w : World) (x : S31) {A0 : Option Addr} {c0 : Nat} (l0 : x.f0.length ≤ c0) (g0 : k60.C w A0 x.f0.length x.f0) : k31.K w x [.slice A0 x.f0.length c0] := ⟨A0, c0, rfl, l0, g0⟩
theorem k31_mkM (w : World) (base : Nat) (ok : Nat → Prop) (x : S31) {v0 : Value} (g0 : k60.R 60 w base ok v0 x.f0) : k31.M w base ok x [v0] := ⟨v0, rfl, g0⟩
theorem k31_openF {W : World} {ok : Nat → Prop} {x : S31} {cs : List Value} (h : Kd.FK k31 W ok x cs) : ∃ A0 c0, cs = [.slice A0 x.f0.length c0] ∧ x.f0.length ≤ c0 ∧ Kd.F k60 W ok A0 x.f0.length x.f0 := by
  obtain ⟨A0, c0, rfl, l0, _⟩ := k31_open (Kd.FK_now h)
  exact ⟨A0, c0, rfl, l0, (fun W' hW => by obtain ⟨A0_, c0_, he, l0_, g0_⟩ := k31_open (h W' hW); injection (Option.some.inj (show some (Value.slice A0 x.f0.length c0) = some (Value.slice A0_ x.f0.length c0_) from congrArg (fun l => l[0]?) he)) with ha_ _ _; rw [ha_]; exact g0_)⟩
theorem k31_mkF (W : World) (ok : Nat → Prop) (x : S31) {A0 : Option Addr} {c0 : Nat} (l0 : x.f0.length ≤ c0) (g0 : Kd.F k60 W ok A0 x.f0.length x.f0) : Kd.FK k31 W ok x [.slice A0 x.f0.length c0] := fun W2 hW => k31_mk W2 x l0 (g0 W2 hW)
def rd_T31 (xs : List S31) (i : Int) : S31 := xs.getD i.toNat z31
theorem at_T31 {w : World} {A : Option Addr} {n : Nat} {xs : List S31} (h : Kd.C k31 w A n xs) (i : Int) (h0 : 0 ≤ i) (h1 : i < n) : ∃ ad A0 c0, A = some ad ∧ w.cell? (ad.add i.toNat) = some (.slice A0 (rd_T31 xs i).f0.length c0) ∧ (rd_T31 xs i).f0.length ≤ c0 ∧ k60.C w A0 (rd_T31 xs i).f0.length (rd_T31 xs i).f0 := by
  obtain ⟨ad, c, e, _, hK, hc0⟩ := Kd.C_get h z31 i h0 h1
  have hc : ∀ j u, c[j]? = some u → w.cell? (ad.add (i.toNat * 1 + j)) = some u := hc0
  obtain ⟨A0, c0, rfl, l0, g0⟩ := k31_open hK
  exact ⟨ad, A0, c0, e, by have hq := hc 0 _ rfl; rwa [Nat.mul_one, Nat.add_zero] at hq, l0, g0⟩

theorem Kd.R_readsM {α : Type} {d : Kd α} {e : Nat} {W : World} {base : Nat} {ok : Nat → Prop} {A : Option Addr} {n c : Nat} {xs : List α} (h : Kd.R d e W base ok (.slice A n c) xs) :
    ReadsRow (d.M W base (fun k => ok k ∧ some k ≠ (Value.slice A n c).ownBlock)) d.sz W A n xs := by
  obtain ⟨_, inner, ho, hr⟩ := h
  obtain ⟨A', c', he, hR⟩ := own_reads_row ho hr rfl
  injection he with h1 h2 h3
  subst h1; subst h2
  exact hR
theorem Kd.V_away {α : Type} {d : Kd α} {e : Nat} {W : World} {base g : Nat} {ok : Nat → Prop} {v : Value} {xs : List α} (h : Kd.V d e W base ok v xs) (hok : ∀ k, ok k → k ≠ g) (hn : 0 < xs.length := by first | omega | (simp_all; omega)) (hs : 0 < d.sz := by decide) : some g ≠ v.ownBlock := by
  obtain ⟨A, c, rfl, _, hF⟩ := h
  rcases A with _ | ad
  · simp [Value.ownBlock]
  · intro he
    have h1 := Kd.F_in hF rfl hn hs
    simp only [Value.ownBlock, Option.some.injEq] at he
    exact hok _ h1 he.symm

theorem bl_ {p : Prop} (h : p := by repeat (first | (with_reducible first | exact HB.out | apply below_alloc | apply pw_below_drewN | apply below_drew1 | refine below_set ?_ (Aside0.out (by assumption)) | refine below_set ?_ (IsS58.ge (Aside0.out (by assumption)))) | exact HB.out)) : p := h
theorem si_ {p : Prop} (h : p := by repeat (first | (with_reducible first | exact (Aside0.out (by assumption)) | apply IsS58.alloc | apply IsS58.drewN | apply IsS58.drew | apply IsS58.set_1 | apply IsS58.set_2 | refine IsS58.far ?_ (Aside0.out (by assumption)) _) | exact (Aside0.out (by assumption)))) : p := h
theorem bk_ {p : Prop} (h : p := by (with_reducible repeat (first | refine blk_drewN ?_ _ | refine blk_drew ?_ | refine blk_alloc ?_ _)); exact (Aside0.out (by assumption))) : p := h
theorem pR_ {p q : Prop} (h : p) (k : p → q := by intro h_; (with_reducible repeat (first | apply Kd.R_alloc | apply Kd.R_drewN | apply Kd.R_drew)); exact h_) : q := k h
theorem pN_ {p q : Prop} (h : p) (k : p → q := by intro h_; (with_reducible repeat (first | apply Kd.N_alloc | apply Kd.N_drewN | apply Kd.N_drew)); exact h_) : q := k h
theorem pV_ {p q : Prop} (h : p) (k : p → q := by intro h_; (with_reducible repeat (first | apply Kd.V_alloc | apply Kd.V_drewN | apply Kd.V_drew)); exact h_) : q := k h
theorem pS_ {p q : Prop} (h : p) (k : p → q := by intro h_; (with_reducible repeat (first | apply Kd.S_alloc | apply Kd.S_drewN | apply Kd.S_drew)); exact h_) : q := k h
theorem pQ_ {p q : Prop} (h : p) (k : p → q := by intro h_; (with_reducible repeat (first | apply Kd.Q_alloc | apply Kd.Q_drewN | apply Kd.Q_drew)); exact h_) : q := k h
theorem re_ {p : Prop} (h : p := by first | rfl | (simp [errW_none, errW_some] <;> rfl) | (simp [*, errW_none, errW_some] <;> rfl)) : p := h
theorem rs_ {p : Prop} (h : p := by first | rfl | (simp; done) | (simp [*]; done)) : p := h
theorem dt_ {p : Prop} [Decidable p] (h : decide p = true := by first | (with_reducible assumption) | assumption) : p := of_decide_eq_true h
theorem gw_ {n m g : Nat} (hg : g = m) (h : n ≤ m) : Aside0 (n ≤ g) := ⟨by rw [hg]; exact h⟩
theorem cf1_ {W : World} {g : Nat} {a_ : Value} {t : TypeId} (h : W.heap[g]? = some (.cells #[a_] t (0, 0))) : W.cell? ⟨g, 0, none⟩ = some a_ ∧ W.frozen? ⟨g, 0, none⟩ = false :=
  ⟨(blk_cell h 0).trans rfl, blk_frozen h 0⟩
theorem cf2_ {W : World} {g : Nat} {a_ b_ : Value} {t : TypeId} (h : W.heap[g]? = some (.cells #[a_, b_] t (0, 0))) : W.cell? ⟨g, 0, none⟩ = some a_ ∧ W.cell? ⟨g, 1, none⟩ = some b_ ∧ W.frozen? ⟨g, 0, none⟩ = false ∧ W.frozen? ⟨g, 1, none⟩ = false :=
  ⟨(blk_cell h 0).trans rfl, (blk_cell h 1).trans rfl, blk_frozen h 0, blk_frozen h 1⟩
theorem cf3_ {W : World} {g : Nat} {a_ b_ c_ : Value} {t : TypeId} (h : W.heap[g]? = some (.cells #[a_, b_, c_] t (0, 0))) : W.cell? ⟨g, 0, none⟩ = some a_ ∧ W.cell? ⟨g, 1, none⟩ = some b_ ∧ W.cell? ⟨g, 2, none⟩ = some c_ ∧ W.frozen? ⟨g, 0, none⟩ = false ∧ W.frozen? ⟨g, 1, none⟩ = false ∧ W.frozen? ⟨g, 2, none⟩ = false :=
  ⟨(blk_cell h 0).trans rfl, (blk_cell h 1).trans rfl, (blk_cell h 2).trans rfl, blk_frozen h 0, blk_frozen h 1, blk_frozen h 2⟩
theorem cf4_ {W : World} {g : Nat} {a_ b_ c_ d_ : Value} {t : TypeId} (h : W.heap[g]? = some (.cells #[a_, b_, c_, d_] t (0, 0))) : W.cell? ⟨g, 0, none⟩ = some a_ ∧ W.cell? ⟨g, 1, none⟩ = some b_ ∧ W.cell? ⟨g, 2, none⟩ = some c_ ∧ W.cell? ⟨g, 3, none⟩ = some d_ ∧ W.frozen? ⟨g, 0, none⟩ = false ∧ W.frozen? ⟨g, 1, none⟩ = false ∧ W.frozen? ⟨g, 2, none⟩ = false ∧ W.frozen? ⟨g, 3, none⟩ = false :=
  ⟨(blk_cell h 0).trans rfl, (blk_cell h 1).trans rfl, (blk_cell h 2).trans rfl, (blk_cell h 3).trans rfl, blk_frozen h 0, blk_frozen h 1, blk_frozen h 2, blk_frozen h 3⟩
theorem cf5_ {W : World} {g : Nat} {a_ b_ c_ d_ e_ : Value} {t : TypeId} (h : W.heap[g]? = some (.cells #[a_, b_, c_, d_, e_] t (0, 0))) : W.cell? ⟨g, 0, none⟩ = some a_ ∧ W.cell? ⟨g, 1, none⟩ = some b_ ∧ W.cell? ⟨g, 2, none⟩ = some c_ ∧ W.cell? ⟨g, 3, none⟩ = some d_ ∧ W.cell? ⟨g, 4, none⟩ = some e_ ∧ W.frozen? ⟨g, 0, none⟩ = false ∧ W.frozen? ⟨g, 1, none⟩ = false ∧ W.frozen? ⟨g, 2, none⟩ = false ∧ W.frozen? ⟨g, 3, none⟩ = false ∧ W.frozen? ⟨g, 4, none⟩ = false :=
  ⟨(blk_cell h 0).trans rfl, (blk_cell h 1).trans rfl, (blk_cell h 2).trans rfl, (blk_cell h 3).trans rfl, (blk_cell h 4).trans rfl, blk_frozen h 0, blk_frozen h 1, blk_frozen h 2, blk_frozen h 3, blk_frozen h 4⟩
theorem cf6_ {W : World} {g : Nat} {a_ b_ c_ d_ e_ f_ : Value} {t : TypeId} (h : W.heap[g]? = some (.cells #[a_, b_, c_, d_, e_, f_] t (0, 0))) : W.cell? ⟨g, 0, none⟩ = some a_ ∧ W.cell? ⟨g, 1, none⟩ = some b_ ∧ W.cell? ⟨g, 2, none⟩ = some c_ ∧ W.cell? ⟨g, 3, none⟩ = some d_ ∧ W.cell? ⟨g, 4, none⟩ = some e_ ∧ W.cell? ⟨g, 5, none⟩ = some f_ ∧ W.frozen? ⟨g, 0, none⟩ = false ∧ W.frozen? ⟨g, 1, none⟩ = false ∧ W.frozen? ⟨g, 2, none⟩ = false ∧ W.frozen? ⟨g, 3, none⟩ = false ∧ W.frozen? ⟨g, 4, none⟩ = false ∧ W.frozen? ⟨g, 5, none⟩ = false :=
  ⟨(blk_cell h 0).trans rfl, (blk_cell h 1).trans rfl, (blk_cell h 2).trans rfl, (blk_cell h 3).trans rfl, (blk_cell h 4).trans rfl, (blk_cell h 5).trans rfl, blk_frozen h 0, blk_frozen h 1, blk_frozen h 2, blk_frozen h 3, blk_frozen h 4, blk_frozen h 5⟩
def bm (n b : Nat) : Array Bool := ((List.range n).map fun i => b.testBit i).toArray
theorem pu_ {P : Program} {ops : Array Oper} {Q : Exit → Act → World → Prop} {md : Region.Mode} {S : World → Prop} {ds : List Nat} {T : Bool × List (List Nat × List Nat)} {oi : Oper} {v : Value} {fuel : Nat} {l : Array Bool} {a a' : Act} {w : World} (hT : Aside0 (rtab md ops = T)) (i n : Nat) (l' : Array Bool) (h : wpAnyLast P md ops Q S ds fuel l' a' w)
    (hi : ops[i]? = some oi := by exact rfl) (hN : oi.dst = some n := by exact rfl) (hc : anyT T l.toList l'.toList i = true := by kernel_rfl) (hQ : ∀ c a w, Q (.panic c) (a.put oi.dst v) w → Q (.panic c) a w := by exact fun _ _ _ h => h) (hw : Region.wanted oi (yielded ops a.tmps) = true := by exact rfl)
    (hy : ∀ w, (execOp a.eval oi).run P w = .ok (.value v) w := by intro w'; go_simp; with_reducible rfl) (ha : a.put (some n) v = a' := by simp only [Act.put, List.setIfInBounds_toArray, List.set_cons_zero, List.set_cons_succ, i64_w, i32_w]; rfl) : wpAnyLast P md ops Q S ds (fuel + 1) l a w := pure_ l' hi hN (any_of hT.out hc) hQ (Or.inl ⟨hw, hy⟩) ha h
theorem pf_ {P : Program} {ops : Array Oper} {Q : Exit → Act → World → Prop} {md : Region.Mode} {S : World → Prop} {ds : List Nat} {T : Bool × List (List Nat × List Nat)} {oi : Oper} {fuel : Nat} {l : Array Bool} {a a' : Act} {w : World} (hT : Aside0 (rtab md ops = T)) (i n : Nat) (l' : Array Bool) (h : wpAnyLast P md ops Q S ds fuel l' a' w)
    (hi : ops[i]? = some oi := by exact rfl) (hN : oi.dst = some n := by exact rfl) (hc : anyT T l.toList l'.toList i = true := by kernel_rfl) (hQ : ∀ c a w, Q (.panic c) (a.put oi.dst undef) w → Q (.panic c) a w := by exact fun _ _ _ h => h) (hw : Region.wanted oi (yielded ops a.tmps) = false := by exact rfl)
    (ha : a.put (some n) undef = a' := by simp only [Act.put, List.setIfInBounds_toArray, List.set_cons_zero, List.set_cons_succ, i64_w, i32_w]; rfl) : wpAnyLast P md ops Q S ds (fuel + 1) l a w := pure_ l' hi hN (any_of hT.out hc) hQ (Or.inr ⟨hw, rfl⟩) ha h
theorem ta_ {P : Program} {ops : Array Oper} {Q : Exit → Act → World → Prop} {md : Region.Mode} {S : World → Prop} {ds B : List Nat} {T : Bool × List (List Nat × List Nat)} {oi : Oper} {v : Value} {fuel : Nat} {l : Array Bool} {a a' : Act} {w : World} (hT : Aside0 (rtab md ops = T)) (hB : Aside0 (waitsOk T.2 B = true)) (i n : Nat) (l' : Array Bool) (hS : S w)
    (h : wpAnyLast P md ops Q S ds fuel l' a' w)
    (hi : ops[i]? = some oi := by exact rfl) (hN : oi.dst = some n := by exact rfl) (hc : takeW T B ds l.toList l'.toList i = true := by kernel_rfl) (hQ : ∀ c a w, Q (.panic c) (a.put oi.dst v) w → Q (.panic c) a w := by exact fun _ _ _ h => h) (hw : Region.wanted oi (yielded ops a.tmps) = true := by exact rfl)
    (hy : ∀ w, S w → (execOp a.eval oi).run P w = .ok (.value v) w := by intro w' hs_; (repeat (obtain ⟨_, hs_⟩ := hs_)); go_simp; with_reducible rfl)
    (ha : a.put (some n) v = a' := by simp only [Act.put, List.setIfInBounds_toArray, List.set_cons_zero, List.set_cons_succ, i64_w, i32_w]; rfl) : wpAnyLast P md ops Q S ds (fuel + 1) l a w := take_ l' hi hN (take_ofW hT.out hB.out hc) hQ (Or.inl ⟨hw, hy⟩) hS ha h
end Go.Proofs.YtopbjginpmdebaaDoor.K
namespace Go.Proofs.YtopbjginpmdebaaDoor.K
open Go.RowKit Go.Proofs.YtopbjginpmdebaaDoorW.PrintWords Go.Proofs.YtopbjginpmdebaaDoorW.PrintLast Go.Proofs.YtopbjginpmdebaaDoorW.PrintMore
attribute [local go_sem] max2_int min2_int max_two min_two max_three min_three max_four min_four   -- for this text's walks alone
set_option linter.unusedVariables false
set_option linter.unusedSimpArgs false

/-! ### exactpplref07_SameInts: function 41 -/
def exactpplref07_SameInts.l0 : Nat → List Int → List Int → Int → Option (Bool)
 | 0, _, _, _ => none
 | k + 1, x0, x1, x5 => if x5 < (x0.length : Int) then (if 0 ≤ x5 then (if x5 < (x1.length : Int) then (if (rd x0 x5) = (rd x1 x5) then (exactpplref07_SameInts.l0 k x0 x1 (wrap64 (x5 + 1))) else (some false)) else (none)) else (none)) else (some true)
def exactpplref07_SameInts.f (k : Nat) (l0 : List Int) (l1 : List Int) : Option (Bool) := if (l0.length : Int) = (l1.length : Int) then (exactpplref07_SameInts.l0 k l0 l1 0) else (some false)
theorem exactpplref07_SameInts.mono_l : ∀ k, (∀ y0 y1 y2, LeO (exactpplref07_SameInts.l0 k y0 y1 y2) (exactpplref07_SameInts.l0 (k + 1) y0 y1 y2))
 | 0 => fun _ _ _ r h => by simp [exactpplref07_SameInts.l0] at h
 | k + 1 => by
  have ih0 := exactpplref07_SameInts.mono_l k
  ·intro y0 y1 y2
   unfold exactpplref07_SameInts.l0
   repeat' first
   | (with_reducible exact ih0 _ _ _)
   | (with_reducible exact LeO.refl _)
   | (with_reducible exact LeO.none _)
   | (with_reducible refine LeO.ite ?_ ?_)
   | (with_reducible refine LeO.bind ?_ (fun _ => ?_))
   | exact ih0 _ _ _
   | exact LeO.none _
   | refine LeO.ite ?_ ?_
   | refine LeO.bind ?_ (fun _ => ?_)
theorem exactpplref07_SameInts.mono : ∀ a0 a1 k, LeO (exactpplref07_SameInts.f k a0 a1) (exactpplref07_SameInts.f (k + 1) a0 a1) := by
 intro a0 a1 k
 have ih0 := exactpplref07_SameInts.mono_l k
 unfold exactpplref07_SameInts.f
 repeat' first
   | (with_reducible exact ih0 _ _ _)
   | (with_reducible exact LeO.refl _)
   | (with_reducible exact LeO.none _)
   | (with_reducible refine LeO.ite ?_ ?_)
   | (with_reducible refine LeO.bind ?_ (fun _ => ?_))
   | exact ih0 _ _ _
   | exact LeO.none _
   | refine LeO.ite ?_ ?_
   | refine LeO.bind ?_ (fun _ => ?_)
set_option maxHeartbeats 8000000 in
set_option maxRecDepth 100000 in
theorem exactpplref07_SameInts.calls (k : Nat) (A0 : Option Addr) (c0 : Nat) (l0 : List Int) (A1 : Option Addr) (c1 : Nat) (l1 : List Int) (r : Bool) (w : World) (hr0 : Kd.C (Kd.int .i64) w A0 l0.length l0) (hc0 : l0.length ≤ c0) (hr1 : Kd.C (Kd.int .i64) w A1 l1.length l1) (hc1 : l1.length ≤ c1) (h : exactpplref07_SameInts.f k l0 l1 = some r) :
  Calls Tryd.prog 41 #[.slice A0 l0.length c0, .slice A1 l1.length c1] w fun e w' => e = .returned (.bool r) ∧ Drawn0 w w' := by
 have HR0 := Aside0.mk hr0
 have HC0 := Aside0.mk hc0
 clear hr0 hc0
 have HR1 := Aside0.mk hr1
 have HC1 := Aside0.mk hc1
 clear hr1 hc1
 have H : (if (l0.length : Int) = (l1.length : Int) then (exactpplref07_SameInts.l0 k l0 l1 0) else (some false)) = some r := h
 clear h
 by_cases c3 : (l0.length : Int) = (l1.length : Int)
 ·rw [if_pos c3] at H
  have c3b0 : ((l0.length : Int) == (l1.length : Int)) = true := beq_iff_eq.mpr c3
  have c3b1 : ((l0.length : Int) != (l1.length : Int)) = false := bne_eq_false_iff_eq.mpr c3
  have c3b2 : (l0.length == l1.length) = true := by first | simpa using c3 | (simp at c3 ⊢; omega)
  clear c3
  have H' := Aside0.mk H
  clear H
  go_enter Tryd.func41, Tryd.ntmps41
  go_wp2
  repeat (go_quiet (fail); try go_wp2)
  go_loopg [5] k (fun kq v5 w' => ∃ (x5_1 : Int), v5 = .int .i64 x5_1 ∧ Aside0 (exactpplref07_SameInts.l0 kq l0 l1 x5_1 = some r) ∧ Aside0 (kq ≤ k) ∧ Drawn0 w w')
  case atStart => exact ⟨(0), rs_, H', ⟨Nat.le_refl _⟩, by repeat (first | exact Drawn0.refl _ | apply Drawn0.step)⟩
  case round =>
   clear H'
   try clear c1
   try clear p2
   try clear c3
   try clear c3b0
   try clear c3b1
   try clear c3b2
   obtain ⟨x5_1, rfl, HA, HK1, ⟨m1, rfl⟩⟩ := hrel
   cases gk with
   | zero => exact absurd HA.out (by simp [exactpplref07_SameInts.l0])
   | succ k1 =>
    have H := HA.out
    clear HA
    simp only [exactpplref07_SameInts.l0] at H
    by_cases c4 : x5_1 < (l0.length : Int)
    ·rw [if_pos c4] at H
     have c4b0 : decide (x5_1 < (l0.length : Int)) = true := decide_eq_true c4
     clear c4
     by_cases c5 : 0 ≤ x5_1
     ·rw [if_pos c5] at H
      have c5b0 : decide (0 ≤ x5_1) = true := decide_eq_true c5
      clear c5
      by_cases c6 : x5_1 < (l1.length : Int)
      ·rw [if_pos c6] at H
       have c6b0 : decide (x5_1 < (l1.length : Int)) = true := decide_eq_true c6
       clear c6
       by_cases c7 : (rd l0 x5_1) = (rd l1 x5_1)
       ·rw [if_pos c7] at H
        have c7b0 : ((rd l0 x5_1) == (rd l1 x5_1)) = true := beq_iff_eq.mpr c7
        have c7b1 : ((rd l0 x5_1) != (rd l1 x5_1)) = false := bne_eq_false_iff_eq.mpr c7
        clear c7
        have H' := Aside0.mk H
        clear H
        have p132 : 0 ≤ (x5_1 : Int) := dt_
        have q132 : x5_1 < (l0.length : Int) := dt_
        obtain ⟨ad132, e132, hx132_0⟩ := Kd.at_int HR0.out x5_1 p132 q132
        cases e132
        replace p132 := eq_true p132
        replace q132 := eq_true q132
        have p133 : 0 ≤ (x5_1 : Int) := dt_
        have q133 : x5_1 < (l1.length : Int) := dt_
        obtain ⟨ad133, e133, hx133_0⟩ := Kd.at_int HR1.out x5_1 p133 q133
        cases e133
        replace p133 := eq_true p133
        replace q133 := eq_true q133
        go_wp2
        repeat (go_quiet (fail); try go_wp2)
        go_roundg k1
        case measure => have := HK1.out; omega
        case rel => exact ⟨(wrap64 (x5_1 + 1)), rs_, H', ⟨by have := HK1.out; omega⟩, by repeat (first | exact Drawn0.refl _ | apply Drawn0.step)⟩
       ·rw [if_neg c7] at H
        have c7b0 : ((rd l0 x5_1) == (rd l1 x5_1)) = false := beq_eq_false_iff_ne.mpr c7
        have c7b1 : ((rd l0 x5_1) != (rd l1 x5_1)) = true := bne_iff_ne.mpr c7
        obtain rfl := Option.some.inj H
        have p132 : 0 ≤ (x5_1 : Int) := dt_
        have q132 : x5_1 < (l0.length : Int) := dt_
        obtain ⟨ad132, e132, hx132_0⟩ := Kd.at_int HR0.out x5_1 p132 q132
        cases e132
        replace p132 := eq_true p132
        replace q132 := eq_true q132
        have p133 : 0 ≤ (x5_1 : Int) := dt_
        have q133 : x5_1 < (l1.length : Int) := dt_
        obtain ⟨ad133, e133, hx133_0⟩ := Kd.at_int HR1.out x5_1 p133 q133
        cases e133
        replace p133 := eq_true p133
        replace q133 := eq_true q133
        go_wp2
        repeat (go_quiet (fail); try go_wp2)
        go_ret
        exact ⟨by first | rfl | (simp; done) | (simp [*]; done), by repeat (first | exact Drawn0.refl _ | apply Drawn0.step)⟩
      ·rw [if_neg c6] at H
       exact absurd H (by simp)
     ·rw [if_neg c5] at H
      exact absurd H (by simp)
    ·rw [if_neg c4] at H
     have c4b0 : decide (x5_1 < (l0.length : Int)) = false := decide_eq_false c4
     clear c4
     obtain rfl := Option.some.inj H
     go_wp2
     repeat (go_quiet (fail); try go_wp2)
     go_ret
     exact ⟨by first | rfl | (simp; done) | (simp [*]; done), by repeat (first | exact Drawn0.refl _ | apply Drawn0.step)⟩
 ·rw [if_neg c3] at H
  have c3b0 : ((l0.length : Int) == (l1.length : Int)) = false := beq_eq_false_iff_ne.mpr c3
  have c3b1 : ((l0.length : Int) != (l1.length : Int)) = true := bne_iff_ne.mpr c3
  have c3b2 : (l0.length == l1.length) = false := by first | simpa using c3 | (simp at c3 ⊢; omega)
  obtain rfl := Option.some.inj H
  go_enter Tryd.func41, Tryd.ntmps41
  go_wp2
  repeat (go_quiet (fail); try go_wp2)
  go_ret
  exact ⟨by first | rfl | (simp; done) | (simp [*]; done), by repeat (first | exact Drawn0.refl _ | apply Drawn0.step)⟩

end Go.Proofs.YtopbjginpmdebaaDoor.K
namespace Go.Proofs.YtopbjginpmdebaaDoor.K
open Go.RowKit Go.Proofs.YtopbjginpmdebaaDoorW.PrintWords Go.Proofs.YtopbjginpmdebaaDoorW.PrintLast Go.Proofs.YtopbjginpmdebaaDoorW.PrintMore
attribute [local go_sem] max2_int min2_int max_two min_two max_three min_three max_four min_four   -- for this text's walks alone
set_option linter.unusedVariables false
set_option linter.unusedSimpArgs false

/-- A state of type 58 at block g of W; what its slices lead to came in by w0. -/
def IsS58 (w0 W : World) (g : Nat) (f0 : List Int) (f1 : Int) (f2 : Int) : Prop := ∃ A0 c0, W.heap[g]? = some (.cells #[.slice A0 f0.length c0, .int .i64 f1, .int .i64 f2] 58 (0, 0)) ∧ w0.heap.size ≤ g ∧ Kd.C (Kd.int .i64) w0 A0 f0.length f0
theorem IsS58.grown {w0 W : World} {g : Nat} {f0 : List Int} {f1 : Int} {f2 : Int} {W1 : World} {row : Option Nat} (h : IsS58 w0 W g f0 f1 f2) (hw : W.grownBy W1 row) (hne : some g ≠ row) : IsS58 w0 W1 g f0 f1 f2 := by
 obtain ⟨A0, c0, hb, hg, hr0⟩ := h
 exact ⟨A0, c0, blk_grown hb hw hne, hg, hr0⟩
theorem IsS58.own_neN {w0 W : World} {g : Nat} {f0 : List Int} {f1 : Int} {f2 : Int} {α : Type} {d : Kd α} {e : Nat} {base : Nat} {ok : Nat → Prop} {v : Value} {xs : List α} (h : IsS58 w0 W g f0 f1 f2) (ho : Kd.N d e W base ok v xs) (ht : e ≠ 58) : some g ≠ v.ownBlock := by
 obtain ⟨A0, c0, hb, hg, hr0⟩ := h
 exact Kd.N_ne ho hb ht
theorem IsS58.fresh {w0 W : World} {g : Nat} {f0 : List Int} {f1 : Int} {f2 : Int} (h : IsS58 w0 W g f0 f1 f2) : ∀ k, W.heap.size ≤ k → k ≠ g := by
 obtain ⟨A0, c0, hb, hg, hr0⟩ := h
 exact Kd.freshB hb
theorem IsS58.kept {w0 W : World} {g : Nat} {f0 : List Int} {f1 : Int} {f2 : Int} {W1 : World} {S : Nat → Prop} (h : IsS58 w0 W g f0 f1 f2) (hk : Kept W W1 S) (hne : ¬ S g) : IsS58 w0 W1 g f0 f1 f2 := by
 obtain ⟨A0, c0, hb, hg, hr0⟩ := h
 exact ⟨A0, c0, blk_kept hb hk hne, hg, hr0⟩
theorem IsS58.below {w0 W : World} {g : Nat} {f0 : List Int} {f1 : Int} {f2 : Int} {W1 : World} (h : IsS58 w0 W g f0 f1 f2) (hw : Below W.heap.size W W1) : IsS58 w0 W1 g f0 f1 f2 := h.grown (grown_of_below hw none) (by simp)
theorem IsS58.alloc {w0 W : World} {g : Nat} {f0 : List Int} {f1 : Int} {f2 : Int} (h : IsS58 w0 W g f0 f1 f2) (o : Obj) : IsS58 w0 (W.alloc o) g f0 f1 f2 := h.below (below_alloc (Below.refl _ _) o)
theorem IsS58.drewN {w0 W : World} {g : Nat} {f0 : List Int} {f1 : Int} {f2 : Int} (h : IsS58 w0 W g f0 f1 f2) (m : Nat) : IsS58 w0 (W.drewN m) g f0 f1 f2 := h
theorem IsS58.drew {w0 W : World} {g : Nat} {f0 : List Int} {f1 : Int} {f2 : Int} (h : IsS58 w0 W g f0 f1 f2) : IsS58 w0 W.drew g f0 f1 f2 := h
theorem IsS58.at_ {w0 W : World} {g : Nat} {f0 : List Int} {f1 : Int} {f2 : Int} {w' : World} {m : Nat} (hq : W.drewN m = w') (h : IsS58 w0 W g f0 f1 f2) : IsS58 w0 w' g f0 f1 f2 := by subst hq; exact IsS58.drewN h m
theorem IsS58.apart {w0 W : World} {g : Nat} {f0 : List Int} {f1 : Int} {f2 : Int} {α : Type} {d : Kd α} {e : Nat} {base : Nat} {ok : Nat → Prop} {v : Value} {xs : List α} (h : IsS58 w0 W g f0 f1 f2) (ho : d.R e W base ok v xs) (ht : ∀ q, q ∈ e :: d.E → q ≠ 58) : d.R e W base (fun k => ok k ∧ k ≠ g) v xs := by
 obtain ⟨A0, c0, hb, hg, hr0⟩ := h
 exact Kd.R_types ho hb ht
theorem IsS58.own_ne {w0 W : World} {g : Nat} {f0 : List Int} {f1 : Int} {f2 : Int} {α : Type} {d : Kd α} {e : Nat} {base : Nat} {ok : Nat → Prop} {v : Value} {xs : List α} (h : IsS58 w0 W g f0 f1 f2) (ho : d.R e W base ok v xs) (ht : e ≠ 58) : some g ≠ v.ownBlock := by
 obtain ⟨A0, c0, hb, hg, hr0⟩ := h
 exact Kd.R_ne ho hb ht
theorem IsS58.apartQ {w0 W : World} {g : Nat} {f0 : List Int} {f1 : Int} {f2 : Int} {α : Type} {d : Kd α} {e : Nat} {base : Nat} {ok : Nat → Prop} {v : Value} {xs : List α} (h : IsS58 w0 W g f0 f1 f2) (ho : d.Q e W base ok v xs) (ht : ∀ q, q ∈ e :: d.E → q ≠ 58) : d.Q e W base (fun k => ok k ∧ k ≠ g) v xs := by
 obtain ⟨A0, c0, hb, hg, hr0⟩ := h
 exact Kd.Q_types ho hb ht
theorem IsS58.own_neQ {w0 W : World} {g : Nat} {f0 : List Int} {f1 : Int} {f2 : Int} {α : Type} {d : Kd α} {e : Nat} {base : Nat} {ok : Nat → Prop} {v : Value} {xs : List α} (h : IsS58 w0 W g f0 f1 f2) (ho : d.Q e W base ok v xs) (ht : e ≠ 58) : some g ≠ v.ownBlock := by
 obtain ⟨A0, c0, hb, hg, hr0⟩ := h
 exact Kd.Q_ne ho hb ht
theorem IsS58.apartS {w0 W : World} {g : Nat} {f0 : List Int} {f1 : Int} {f2 : Int} {α : Type} {d : Kd α} {e : Nat} {base : Nat} {ok : Nat → Prop} {v : Value} {xs : List α} (h : IsS58 w0 W g f0 f1 f2) (ho : d.S e W base ok v xs) (ht : ∀ q, q ∈ e :: d.E → q ≠ 58) : d.S e W base (fun k => ok k ∧ k ≠ g) v xs := by
 obtain ⟨A0, c0, hb, hg, hr0⟩ := h
 exact Kd.S_types ho hb ht
theorem IsS58.own_neS {w0 W : World} {g : Nat} {f0 : List Int} {f1 : Int} {f2 : Int} {α : Type} {d : Kd α} {e : Nat} {base : Nat} {ok : Nat → Prop} {v : Value} {xs : List α} (h : IsS58 w0 W g f0 f1 f2) (ho : d.S e W base ok v xs) (ht : e ≠ 58) : some g ≠ v.ownBlock := by
 obtain ⟨A0, c0, hb, hg, hr0⟩ := h
 exact Kd.S_ne ho hb ht
theorem IsS58.lt {w0 W : World} {g : Nat} {f0 : List Int} {f1 : Int} {f2 : Int} (h : IsS58 w0 W g f0 f1 f2) : g < W.heap.size := by
 obtain ⟨A0, c0, hb, hg, hr0⟩ := h
 exact blk_lt hb
theorem IsS58.ge {w0 W : World} {g : Nat} {f0 : List Int} {f1 : Int} {f2 : Int} (h : IsS58 w0 W g f0 f1 f2) : w0.heap.size ≤ g := by
 obtain ⟨A0, c0, hb, hg, hr0⟩ := h
 exact hg
theorem IsS58.ne_blk {w0 W : World} {g : Nat} {f0 : List Int} {f1 : Int} {f2 : Int} {a : Nat} {cs : Array Value} {t : TypeId} {fr : Nat × Nat} (h : IsS58 w0 W g f0 f1 f2) (hb2 : W.heap[a]? = some (.cells cs t fr)) (ht : t ≠ 58) : g ≠ a := by
 obtain ⟨A0, c0, hb, hg, hr0⟩ := h
 rintro rfl
 rw [hb] at hb2
 injection hb2 with hb2
 injection hb2 with _ ht2
 exact ht ht2.symm
theorem IsS58.far {w0 W : World} {g : Nat} {f0 : List Int} {f1 : Int} {f2 : Int} {p : Addr} (h : IsS58 w0 W g f0 f1 f2) (hne : g ≠ p.block) (u : Value) : IsS58 w0 (W.setCell p u) g f0 f1 f2 := by
 obtain ⟨A0, c0, hb, hg, hr0⟩ := h
 exact ⟨A0, c0, blk_far hb hne u, hg, hr0⟩
theorem cellS58_0 {W : World} {g : Nat} {A0 : Option Addr} {c0 : Nat} {f0 : List Int} {f1 : Int} {f2 : Int} (h : W.heap[g]? = some (.cells #[.slice A0 f0.length c0, .int .i64 f1, .int .i64 f2] 58 (0, 0))) : W.cell? ⟨g, 0, none⟩ = some (.slice A0 f0.length c0) := (blk_cell h 0).trans rfl
theorem cellS58_1 {W : World} {g : Nat} {A0 : Option Addr} {c0 : Nat} {f0 : List Int} {f1 : Int} {f2 : Int} (h : W.heap[g]? = some (.cells #[.slice A0 f0.length c0, .int .i64 f1, .int .i64 f2] 58 (0, 0))) : W.cell? ⟨g, 1, none⟩ = some (.int .i64 f1) := (blk_cell h 1).trans rfl
theorem IsS58.set_1 {w0 W : World} {g : Nat} {f0 : List Int} {f1 : Int} {f2 : Int} (h : IsS58 w0 W g f0 f1 f2) (x : Int) : IsS58 w0 (W.setCell ⟨g, 1, none⟩ (.int .i64 x)) g f0 x f2 := by
 obtain ⟨A0, c0, hb, hg, hr0⟩ := h
 exact ⟨A0, c0, by simpa using blk_set hb 1 (.int .i64 x), hg, hr0⟩
theorem cellS58_2 {W : World} {g : Nat} {A0 : Option Addr} {c0 : Nat} {f0 : List Int} {f1 : Int} {f2 : Int} (h : W.heap[g]? = some (.cells #[.slice A0 f0.length c0, .int .i64 f1, .int .i64 f2] 58 (0, 0))) : W.cell? ⟨g, 2, none⟩ = some (.int .i64 f2) := (blk_cell h 2).trans rfl
theorem IsS58.set_2 {w0 W : World} {g : Nat} {f0 : List Int} {f1 : Int} {f2 : Int} (h : IsS58 w0 W g f0 f1 f2) (x : Int) : IsS58 w0 (W.setCell ⟨g, 2, none⟩ (.int .i64 x)) g f0 f1 x := by
 obtain ⟨A0, c0, hb, hg, hr0⟩ := h
 exact ⟨A0, c0, by simpa using blk_set hb 2 (.int .i64 x), hg, hr0⟩
theorem IsS58.new (w0 W : World) (A0 : Option Addr) (c0 : Nat) (f0 : List Int) (f1 : Int) (f2 : Int) (hB : Below w0.heap.size w0 W) (hr0 : Kd.C (Kd.int .i64) w0 A0 f0.length f0) : IsS58 w0 (W.alloc (.cells #[.slice A0 f0.length c0, .int .i64 f1, .int .i64 f2] 58)) W.heap.size f0 f1 f2 := ⟨A0, c0, by simpa using heap_alloc_new W _, hB.size, hr0⟩

/-! ### exactpplmake_New: function 15 -/
def exactpplmake_New.f (l0 : List Int) : Option (List Int × Int × Int) := if (l0.length : Int) > 1000 then (if 1000 ≤ (l0.length : Int) then (some (l0.take 1000, 0, 0)) else (none)) else (some (l0, 0, 0))
set_option maxHeartbeats 8000000 in
set_option maxRecDepth 100000 in
theorem exactpplmake_New.calls (A0 : Option Addr) (c0 : Nat) (l0 : List Int) (r1 : List Int) (r2 : Int) (r3 : Int) (w0 w : World) (hB : Below w0.heap.size w0 w) (hr0 : Kd.C (Kd.int .i64) w0 A0 l0.length l0) (hc0 : l0.length ≤ c0) (h : exactpplmake_New.f l0 = some (r1, r2, r3)) :
  Calls Tryd.prog 15 #[.slice A0 l0.length c0] w fun e w' => ∃ g_ : Nat, e = .returned (.pointer (some ⟨g_, 0, none⟩)) ∧ IsS58 w0 w' g_ r1 r2 r3 ∧ Below w0.heap.size w0 w' ∧ Below w.heap.size w w' := by
 have hu58 := Tryd.underlying58
 have HR0 := Aside0.mk hr0
 have HC0 := Aside0.mk hc0
 clear hr0 hc0
 have HBW := Aside0.mk (Below.refl w.heap.size w)
 have HW0 := Aside0.mk hB.size
 have HB := Aside0.mk hB
 clear hB
 have H : (if (l0.length : Int) > 1000 then (if 1000 ≤ (l0.length : Int) then (some (l0.take 1000, 0, 0)) else (none)) else (some (l0, 0, 0))) = some (r1, r2, r3) := h
 clear h
 by_cases c2 : (l0.length : Int) > 1000
 ·rw [if_pos c2] at H
  have c2b0 : decide (1000 < (l0.length : Int)) = true := decide_eq_true c2
  have c2b1 : decide (1000 < l0.length) = true := decide_eq_true (by omega)
  clear c2
  by_cases c3 : 1000 ≤ (l0.length : Int)
  ·rw [if_pos c3] at H
   have c3b0 := eq_true c3
   have c3b1 : decide (1000 ≤ (l0.length : Int)) = true := decide_eq_true c3
   clear c3
   simp only [Option.some.injEq, Prod.mk.injEq] at H
   obtain ⟨rfl, rfl, rfl⟩ := H
   obtain ⟨i04, hi04, _, hsz4, _⟩ := info_parts info3
   obtain ⟨hcut4, hA4, hC4⟩ := print_take_of (P := Tryd.prog) (Value.int .i64) 0 22 3 .i64 Tryd.underlying22 hi04 hsz4 A0 c0 l0 1000 (by omega) (dt_) HC0.out
   have HR226 := Aside0.mk (Kd.C_of_reads (h1 := fun _ => rfl) (hA4 _ (Kd.reads_of_C HR0.out)))
   have HC226 := Aside0.mk hC4
   clear hA4 hC4 hi04 hsz4
   go_enter Tryd.func15, Tryd.ntmps15
   go_wp2_with (first | ((with_reducible refine gate_dst (N := 10) rfl ?_); refine box_event ?hg (N := 10) ?hd (cs := #[.slice A0 (l0.take 1000).length c0, .int .i64 0, .int .i64 0]) (t := 58) ?hr ?_; (case hd => rfl); (case hg => rfl); (case hr => first | (go_simp; done) | (go_simp; rfl)); intro gb227 hg w5 hbox hb; have BK227 := Aside0.mk (hbox); have GW227 := Aside0.mk ((by rw [hg]; exact (below_size (by repeat (first | (with_reducible first | exact HBW.out | apply below_alloc | apply pw_below_drewN | apply below_drew1) | exact HBW.out))) : w.heap.size ≤ gb227)); have GE227 := Aside0.mk ((Nat.le_trans HW0.out (by rw [hg]; exact (below_size (by repeat (first | (with_reducible first | exact HBW.out | apply below_alloc | apply pw_below_drewN | apply below_drew1) | exact HBW.out))) : w.heap.size ≤ gb227) : w0.heap.size ≤ gb227)); replace HBW := Aside0.mk (below_step HBW.out hb); replace HB := Aside0.mk (below_step bl_ hb); clear hb hbox hg))
   go_ret
   exact ⟨_, rfl, (show IsS58 w0 _ gb227 (l0.take 1000) 0 0 from ⟨_, _, bk_, GE227.out, HR226.out⟩), bl_, by repeat (first | (with_reducible first | exact HBW.out | apply below_alloc | apply pw_below_drewN | apply below_drew1 | refine below_set ?_ GW227.out) | exact HBW.out)⟩
  ·rw [if_neg c3] at H
   exact absurd H (by simp)
 ·rw [if_neg c2] at H
  have c2b0 : decide (1000 < (l0.length : Int)) = false := decide_eq_false c2
  have c2b1 : decide (1000 < l0.length) = false := decide_eq_false (by omega)
  clear c2
  simp only [Option.some.injEq, Prod.mk.injEq] at H
  obtain ⟨rfl, rfl, rfl⟩ := H
  go_enter Tryd.func15, Tryd.ntmps15
  go_wp2_with (first | ((with_reducible refine gate_dst (N := 10) rfl ?_); refine box_event ?hg (N := 10) ?hd (cs := #[.slice A0 l0.length c0, .int .i64 0, .int .i64 0]) (t := 58) ?hr ?_; (case hd => rfl); (case hg => rfl); (case hr => first | (go_simp; done) | (go_simp; rfl)); intro gb228 hg w6 hbox hb; have BK228 := Aside0.mk (hbox); have GW228 := Aside0.mk ((by rw [hg]; exact (below_size (by repeat (first | (with_reducible first | exact HBW.out | apply below_alloc | apply pw_below_drewN | apply below_drew1) | exact HBW.out))) : w.heap.size ≤ gb228)); have GE228 := Aside0.mk ((Nat.le_trans HW0.out (by rw [hg]; exact (below_size (by repeat (first | (with_reducible first | exact HBW.out | apply below_alloc | apply pw_below_drewN | apply below_drew1) | exact HBW.out))) : w.heap.size ≤ gb228) : w0.heap.size ≤ gb228)); replace HBW := Aside0.mk (below_step HBW.out hb); replace HB := Aside0.mk (below_step bl_ hb); clear hb hbox hg))
  go_ret
  exact ⟨_, rfl, (show IsS58 w0 _ gb228 l0 0 0 from ⟨_, _, bk_, GE228.out, HR0.out⟩), bl_, by repeat (first | (with_reducible first | exact HBW.out | apply below_alloc | apply pw_below_drewN | apply below_drew1 | refine below_set ?_ GW228.out) | exact HBW.out)⟩

end Go.Proofs.YtopbjginpmdebaaDoor.K
namespace Go.Proofs.YtopbjginpmdebaaDoor.K
open Go.RowKit Go.Proofs.YtopbjginpmdebaaDoorW.PrintWords Go.Proofs.YtopbjginpmdebaaDoorW.PrintLast Go.Proofs.YtopbjginpmdebaaDoorW.PrintMore
attribute [local go_sem] max2_int min2_int max_two min_two max_three min_three max_four min_four   -- for this text's walks alone
set_option linter.unusedVariables false
set_option linter.unusedSimpArgs false

/-! ### exactpplmake_Src_Raw: function 54 -/
def exactpplmake_Src_Raw.f (s0_0 : List Int) (s0_1 : Int) (s0_2 : Int) : Option (Int × Int × Int) := if s0_1 ≥ (s0_0.length : Int) then (some (0, s0_1, s0_2)) else (if 0 ≤ (wrap64 ((wrap64 (s0_1 + 1)) - 1)) then (if (wrap64 ((wrap64 (s0_1 + 1)) - 1)) < (s0_0.length : Int) then (some (rd s0_0 (wrap64 ((wrap64 (s0_1 + 1)) - 1)), wrap64 (s0_1 + 1), s0_2)) else (none)) else (none))
set_option maxHeartbeats 8000000 in
set_option maxRecDepth 100000 in
theorem exactpplmake_Src_Raw.calls (g : Nat) (s0_0 : List Int) (s0_1 : Int) (s0_2 : Int) (r1 : Int) (r2 : Int) (r3 : Int) (w0 w : World) (hI : IsS58 w0 w g s0_0 s0_1 s0_2) (hB : Below w0.heap.size w0 w) (h : exactpplmake_Src_Raw.f s0_0 s0_1 s0_2 = some (r1, r2, r3)) :
  Calls Tryd.prog 54 #[.pointer (some ⟨g, 0, none⟩)] w fun e w' => e = .returned (.int .i64 r1) ∧ IsS58 w0 w' g s0_0 r2 r3 ∧ Below w0.heap.size w0 w' ∧ KeepBut w w' g none := by
 have HI0 := Aside0.mk hI
 have HK := Aside0.mk (KeepBut.refl w g none)
 have HL := Aside0.mk hB.size
 clear hI
 have HW0 := Aside0.mk hB.size
 have HB := Aside0.mk hB
 clear hB
 have H : (if s0_1 ≥ (s0_0.length : Int) then (some (0, s0_1, s0_2)) else (if 0 ≤ (wrap64 ((wrap64 (s0_1 + 1)) - 1)) then (if (wrap64 ((wrap64 (s0_1 + 1)) - 1)) < (s0_0.length : Int) then (some (rd s0_0 (wrap64 ((wrap64 (s0_1 + 1)) - 1)), wrap64 (s0_1 + 1), s0_2)) else (none)) else (none))) = some (r1, r2, r3) := h
 clear h
 by_cases c2 : s0_1 ≥ (s0_0.length : Int)
 ·rw [if_pos c2] at H
  have c2b0 : decide ((s0_0.length : Int) ≤ s0_1) = true := decide_eq_true c2
  clear c2
  simp only [Option.some.injEq, Prod.mk.injEq] at H
  obtain ⟨rfl, rfl, rfl⟩ := H
  obtain ⟨ASz3_0, cSz3_0, HGz3, hgz3, HSz3_0⟩ := HI0.out
  have hcz3_0 := cellS58_0 HGz3
  have hcz3_1 := cellS58_1 HGz3
  have hcz3_2 := cellS58_2 HGz3
  have hfz3_1 := blk_frozen HGz3 1
  have hfz3_2 := blk_frozen HGz3 2
  clear HGz3 hgz3
  go_enter Tryd.func54, Tryd.ntmps54
  go_wp2
  repeat (go_quiet (fail); try go_wp2)
  go_ret
  exact ⟨re_, si_, bl_, by repeat (first | (with_reducible first | exact HK.out | apply KeepBut.set_ | apply keep_drewN | apply keep_drew | apply keep_alloc) | exact HK.out)⟩
 ·rw [if_neg c2] at H
  have c2b0 : decide ((s0_0.length : Int) ≤ s0_1) = false := decide_eq_false c2
  clear c2
  obtain ⟨ji4, hji4⟩ : ∃ j_ : Int, (wrap64 ((wrap64 (s0_1 + 1)) - 1)) = j_ := ⟨_, rfl⟩
  replace H : (if 0 ≤ (ji4) then (if (ji4) < (s0_0.length : Int) then (some (rd s0_0 (ji4), wrap64 (s0_1 + 1), s0_2)) else (none)) else (none)) = some (r1, r2, r3) := by first | (rw [hji4] at H; exact H) | (simp only [hji4] at H ⊢; exact H)
  have hji4w : (IntKind.i64.wrap ((wrap64 (s0_1 + 1)) - 1)) = ji4 := (i64_w _).trans hji4
  by_cases c5 : 0 ≤ (ji4)
  ·rw [if_pos c5] at H
   have c5b0 : decide (0 ≤ (ji4)) = true := decide_eq_true c5
   clear c5
   by_cases c6 : (ji4) < (s0_0.length : Int)
   ·rw [if_pos c6] at H
    have c6b0 : decide ((ji4) < (s0_0.length : Int)) = true := decide_eq_true c6
    clear c6
    simp only [Option.some.injEq, Prod.mk.injEq] at H
    obtain ⟨rfl, rfl, rfl⟩ := H
    obtain ⟨ASz7_0, cSz7_0, HGz7, hgz7, HSz7_0⟩ := HI0.out
    have hcz7_0 := cellS58_0 HGz7
    have hcz7_1 := cellS58_1 HGz7
    have hcz7_2 := cellS58_2 HGz7
    have hfz7_1 := blk_frozen HGz7 1
    have hfz7_2 := blk_frozen HGz7 2
    clear HGz7 hgz7
    have p229 : 0 ≤ ((ji4) : Int) := dt_
    have q229 : (ji4) < (s0_0.length : Int) := dt_
    obtain ⟨ad229, e229, hx229_0⟩ := Kd.at_int HSz7_0 (ji4) p229 q229
    cases e229
    have hn229_0 : ad229.block ≠ g := Nat.ne_of_lt (Nat.lt_of_lt_of_le (by have := World.block_lt_of_cell? _ _ hx229_0; first | rwa [add_block] at this | exact this) (IsS58.ge HI0.out))
    replace hx229_0 := pw_cell_below HB.out hx229_0
    replace hx229_0 := (cell_far (p := ⟨g, 1, none⟩) (by first | (rw [add_block]; exact hn229_0) | (show (Addr.add _ _).block ≠ _; rw [add_block]; exact hn229_0) | exact hn229_0) (.int .i64 (wrap64 (s0_1 + 1)))).trans hx229_0
    (try have hy229_0 := fun (n_ : Nat) => (show (((w.drewN n_).setCell ⟨g, 1, none⟩ (.int .i64 (wrap64 (s0_1 + 1))))).cell? _ = some _ from hx229_0))
    clear hn229_0
    replace p229 := eq_true p229
    replace q229 := eq_true q229
    go_enter Tryd.func54, Tryd.ntmps54
    go_wp2
    repeat (go_quiet (fail); try go_wp2)
    all_goals go_ret
    all_goals exact ⟨by first | rfl | (simp [errW_none, errW_some] <;> rfl) | (simp only [← hji4]; first | rfl | (simp [errW_none, errW_some] <;> rfl)) | (simp; rw [← hji4]; (first | unfold mn | unfold mx); split <;> omega) | (simp; (first | unfold mn at hji4 | unfold mx at hji4); split at hji4 <;> omega) | (simp [*, errW_none, errW_some] <;> rfl), si_, bl_, by repeat (first | (with_reducible first | exact HK.out | apply KeepBut.set_ | apply keep_drewN | apply keep_drew | apply keep_alloc) | exact HK.out)⟩
   ·rw [if_neg c6] at H
    exact absurd H (by simp)
  ·rw [if_neg c5] at H
   exact absurd H (by simp)

end Go.Proofs.YtopbjginpmdebaaDoor.K
namespace Go.Proofs.YtopbjginpmdebaaDoor.K
open Go.RowKit Go.Proofs.YtopbjginpmdebaaDoorW.PrintWords Go.Proofs.YtopbjginpmdebaaDoorW.PrintLast Go.Proofs.YtopbjginpmdebaaDoorW.PrintMore
attribute [local go_sem] max2_int min2_int max_two min_two max_three min_three max_four min_four   -- for this text's walks alone
set_option linter.unusedVariables false
set_option linter.unusedSimpArgs false

/-! ### exactpplmake_Src_N: function 23 -/
def exactpplmake_Src_N.f (s0_0 : List Int) (s0_1 : Int) (s0_2 : Int) (a1 : Int) : Option (Int × Int × Int) := if a1 < 1 then (some (0, s0_1, s0_2)) else ((exactpplmake_Src_Raw.f s0_0 s0_1 s0_2).bind fun bt230 => (if a1 = 0 then (none) else (if (Int.tmod bt230.1 a1) < 0 then (some (wrap64 ((Int.tmod bt230.1 a1) + a1), bt230.2.1, bt230.2.2)) else (some (Int.tmod bt230.1 a1, bt230.2.1, bt230.2.2)))))
set_option maxHeartbeats 8000000 in
set_option maxRecDepth 100000 in
theorem exactpplmake_Src_N.calls (g : Nat) (s0_0 : List Int) (s0_1 : Int) (s0_2 : Int) (a1 : Int) (r1 : Int) (r2 : Int) (r3 : Int) (w0 w : World) (hI : IsS58 w0 w g s0_0 s0_1 s0_2) (hB : Below w0.heap.size w0 w) (h : exactpplmake_Src_N.f s0_0 s0_1 s0_2 a1 = some (r1, r2, r3)) :
  Calls Tryd.prog 23 #[.pointer (some ⟨g, 0, none⟩), .int .i64 a1] w fun e w' => e = .returned (.int .i64 r1) ∧ IsS58 w0 w' g s0_0 r2 r3 ∧ Below w0.heap.size w0 w' ∧ KeepBut w w' g none := by
 have HI0 := Aside0.mk hI
 have HK := Aside0.mk (KeepBut.refl w g none)
 have HL := Aside0.mk hB.size
 clear hI
 have HW0 := Aside0.mk hB.size
 have HB := Aside0.mk hB
 clear hB
 have H : (if a1 < 1 then (some (0, s0_1, s0_2)) else ((exactpplmake_Src_Raw.f s0_0 s0_1 s0_2).bind fun bt230 => (if a1 = 0 then (none) else (if (Int.tmod bt230.1 a1) < 0 then (some (wrap64 ((Int.tmod bt230.1 a1) + a1), bt230.2.1, bt230.2.2)) else (some (Int.tmod bt230.1 a1, bt230.2.1, bt230.2.2)))))) = some (r1, r2, r3) := h
 clear h
 by_cases c3 : a1 < 1
 ·rw [if_pos c3] at H
  have c3b0 : decide (a1 < 1) = true := decide_eq_true c3
  clear c3
  simp only [Option.some.injEq, Prod.mk.injEq] at H
  obtain ⟨rfl, rfl, rfl⟩ := H
  go_enter Tryd.func23, Tryd.ntmps23
  go_wp2
  go_ret
  exact ⟨re_, si_, bl_, by repeat (first | (with_reducible first | exact HK.out | apply KeepBut.set_ | apply keep_drewN | apply keep_drew | apply keep_alloc) | exact HK.out)⟩
 ·rw [if_neg c3] at H
  have c3b0 : decide (a1 < 1) = false := decide_eq_false c3
  clear c3
  replace H := Option.bind_eq_some_iff.mp H
  obtain ⟨⟨t230, t231, t232⟩, A40, H⟩ := H
  replace H : (if a1 = 0 then (none) else (if (Int.tmod t230 a1) < 0 then (some (wrap64 ((Int.tmod t230 a1) + a1), t231, t232)) else (some (Int.tmod t230 a1, t231, t232)))) = some (r1, r2, r3) := H
  have A4 := Aside0.mk A40
  clear A40
  by_cases c5 : a1 = 0
  ·rw [if_pos c5] at H
   exact absurd H (by simp)
  ·rw [if_neg c5] at H
   have c5b0 : (a1 == 0) = false := beq_eq_false_iff_ne.mpr c5
   have c5b1 : (a1 != 0) = true := bne_iff_ne.mpr c5
   by_cases c6 : (Int.tmod t230 a1) < 0
   ·rw [if_pos c6] at H
    have c6b0 : decide ((Int.tmod t230 a1) < 0) = true := decide_eq_true c6
    clear c6
    simp only [Option.some.injEq, Prod.mk.injEq] at H
    obtain ⟨rfl, rfl, rfl⟩ := H
    go_enter Tryd.func23, Tryd.ntmps23
    go_wp2_with (first | ((with_reducible refine gate_callee (f := 54) rfl ?_); refine goesL_ (some 9) rfl rfl Tryd.func54 (by kernel_rfl) rfl #[.pointer (some ⟨g, 0, none⟩)] rfl (by (try simp only [List.map_toArray, List.map_cons, List.map_nil]); first | done | rfl | (simp only [List.length_drop, List.length_take]; rfl)) ?_; (with_reducible refine (exactpplmake_Src_Raw.calls g s0_0 s0_1 s0_2 t230 t231 t232 w0 _ ?side1 ?side2 A4.out).mono ?_); (case side1 => repeat (first | (with_reducible first | exact HI0.out | apply IsS58.alloc | apply IsS58.drewN | apply IsS58.drew | apply IsS58.set_1 | apply IsS58.set_2) | exact HI0.out)); (case side2 => repeat (first | (with_reducible first | exact HB.out | apply below_alloc | apply pw_below_drewN | apply below_drew1 | refine below_set ?_ (IsS58.ge HI0.out)) | exact HB.out)); rintro e w7 ⟨rfl, hi, hb, hk⟩; refine ⟨_, rfl, ?_⟩; replace HK := Aside0.mk (KeepBut.trans (by repeat (first | (with_reducible first | exact HK.out | apply KeepBut.set_ | apply keep_drewN | apply keep_drew | apply keep_alloc) | exact HK.out)) hk (.inl rfl)); replace HB := Aside0.mk (hb); replace HI0 := Aside0.mk (hi); (try clear hb); (try clear hb2); (try clear hk); (try clear hi)))
    go_ret
    exact ⟨re_, si_, bl_, by repeat (first | (with_reducible first | exact HK.out | apply KeepBut.set_ | apply keep_drewN | apply keep_drew | apply keep_alloc) | exact HK.out)⟩
   ·rw [if_neg c6] at H
    have c6b0 : decide ((Int.tmod t230 a1) < 0) = false := decide_eq_false c6
    clear c6
    simp only [Option.some.injEq, Prod.mk.injEq] at H
    obtain ⟨rfl, rfl, rfl⟩ := H
    go_enter Tryd.func23, Tryd.ntmps23
    go_wp2_with (first | ((with_reducible refine gate_callee (f := 54) rfl ?_); refine goesL_ (some 9) rfl rfl Tryd.func54 (by kernel_rfl) rfl #[.pointer (some ⟨g, 0, none⟩)] rfl (by (try simp only [List.map_toArray, List.map_cons, List.map_nil]); first | done | rfl | (simp only [List.length_drop, List.length_take]; rfl)) ?_; (with_reducible refine (exactpplmake_Src_Raw.calls g s0_0 s0_1 s0_2 t230 t231 t232 w0 _ ?side1 ?side2 A4.out).mono ?_); (case side1 => repeat (first | (with_reducible first | exact HI0.out | apply IsS58.alloc | apply IsS58.drewN | apply IsS58.drew | apply IsS58.set_1 | apply IsS58.set_2) | exact HI0.out)); (case side2 => repeat (first | (with_reducible first | exact HB.out | apply below_alloc | apply pw_below_drewN | apply below_drew1 | refine below_set ?_ (IsS58.ge HI0.out)) | exact HB.out)); rintro e w8 ⟨rfl, hi, hb, hk⟩; refine ⟨_, rfl, ?_⟩; replace HK := Aside0.mk (KeepBut.trans (by repeat (first | (with_reducible first | exact HK.out | apply KeepBut.set_ | apply keep_drewN | apply keep_drew | apply keep_alloc) | exact HK.out)) hk (.inl rfl)); replace HB := Aside0.mk (hb); replace HI0 := Aside0.mk (hi); (try clear hb); (try clear hb2); (try clear hk); (try clear hi)))
    go_ret
    exact ⟨re_, si_, bl_, by repeat (first | (with_reducible first | exact HK.out | apply KeepBut.set_ | apply keep_drewN | apply keep_drew | apply keep_alloc) | exact HK.out)⟩

end Go.Proofs.YtopbjginpmdebaaDoor.K
namespace Go.Proofs.YtopbjginpmdebaaDoor.K
open Go.RowKit Go.Proofs.YtopbjginpmdebaaDoorW.PrintWords Go.Proofs.YtopbjginpmdebaaDoorW.PrintLast Go.Proofs.YtopbjginpmdebaaDoorW.PrintMore
attribute [local go_sem] max2_int min2_int max_two min_two max_three min_three max_four min_four   -- for this text's walks alone
set_option linter.unusedVariables false
set_option linter.unusedSimpArgs false

/-! ### exactpplmake_Src_Range: function 25 -/
def exactpplmake_Src_Range.f (s0_0 : List Int) (s0_1 : Int) (s0_2 : Int) (a1 : Int) (a2 : Int) : Option (Int × Int × Int) := (exactpplmake_Src_N.f s0_0 s0_1 s0_2 (wrap64 ((wrap64 (a2 - a1)) + 1))).bind fun bt233 => (some (wrap64 (a1 + bt233.1), bt233.2.1, bt233.2.2))
set_option maxHeartbeats 8000000 in
set_option maxRecDepth 100000 in
theorem exactpplmake_Src_Range.calls (g : Nat) (s0_0 : List Int) (s0_1 : Int) (s0_2 : Int) (a1 : Int) (a2 : Int) (r1 : Int) (r2 : Int) (r3 : Int) (w0 w : World) (hI : IsS58 w0 w g s0_0 s0_1 s0_2) (hB : Below w0.heap.size w0 w) (h : exactpplmake_Src_Range.f s0_0 s0_1 s0_2 a1 a2 = some (r1, r2, r3)) :
  Calls Tryd.prog 25 #[.pointer (some ⟨g, 0, none⟩), .int .i64 a1, .int .i64 a2] w fun e w' => e = .returned (.int .i64 r1) ∧ IsS58 w0 w' g s0_0 r2 r3 ∧ Below w0.heap.size w0 w' ∧ KeepBut w w' g none := by
 have HI0 := Aside0.mk hI
 have HK := Aside0.mk (KeepBut.refl w g none)
 have HL := Aside0.mk hB.size
 clear hI
 have HW0 := Aside0.mk hB.size
 have HB := Aside0.mk hB
 clear hB
 have H : ((exactpplmake_Src_N.f s0_0 s0_1 s0_2 (wrap64 ((wrap64 (a2 - a1)) + 1))).bind fun bt233 => (some (wrap64 (a1 + bt233.1), bt233.2.1, bt233.2.2))) = some (r1, r2, r3) := h
 clear h
 replace H := Option.bind_eq_some_iff.mp H
 obtain ⟨⟨t233, t234, t235⟩, A40, H⟩ := H
 replace H : (some (wrap64 (a1 + t233), t234, t235)) = some (r1, r2, r3) := H
 have A4 := Aside0.mk A40
 clear A40
 simp only [Option.some.injEq, Prod.mk.injEq] at H
 obtain ⟨rfl, rfl, rfl⟩ := H
 go_enter Tryd.func25, Tryd.ntmps25
 go_wp2_with (first | ((with_reducible refine gate_callee (f := 23) rfl ?_); refine goesL_ (some 13) rfl rfl Tryd.func23 (by kernel_rfl) rfl #[.pointer (some ⟨g, 0, none⟩), .int .i64 (wrap64 ((wrap64 (a2 - a1)) + 1))] rfl (by (try simp only [List.map_toArray, List.map_cons, List.map_nil]); first | done | rfl | (simp only [List.length_drop, List.length_take]; rfl)) ?_; (with_reducible refine (exactpplmake_Src_N.calls g s0_0 s0_1 s0_2 (wrap64 ((wrap64 (a2 - a1)) + 1)) t233 t234 t235 w0 _ ?side1 ?side2 A4.out).mono ?_); (case side1 => repeat (first | (with_reducible first | exact HI0.out | apply IsS58.alloc | apply IsS58.drewN | apply IsS58.drew | apply IsS58.set_1 | apply IsS58.set_2) | exact HI0.out)); (case side2 => repeat (first | (with_reducible first | exact HB.out | apply below_alloc | apply pw_below_drewN | apply below_drew1 | refine below_set ?_ (IsS58.ge HI0.out)) | exact HB.out)); rintro e w5 ⟨rfl, hi, hb, hk⟩; refine ⟨_, rfl, ?_⟩; replace HK := Aside0.mk (KeepBut.trans (by repeat (first | (with_reducible first | exact HK.out | apply KeepBut.set_ | apply keep_drewN | apply keep_drew | apply keep_alloc) | exact HK.out)) hk (.inl rfl)); replace HB := Aside0.mk (hb); replace HI0 := Aside0.mk (hi); (try clear hb); (try clear hb2); (try clear hk); (try clear hi)))
 go_ret
 exact ⟨re_, si_, bl_, by repeat (first | (with_reducible first | exact HK.out | apply KeepBut.set_ | apply keep_drewN | apply keep_drew | apply keep_alloc) | exact HK.out)⟩

end Go.Proofs.YtopbjginpmdebaaDoor.K
namespace Go.Proofs.YtopbjginpmdebaaDoor.K
open Go.RowKit Go.Proofs.YtopbjginpmdebaaDoorW.PrintWords Go.Proofs.YtopbjginpmdebaaDoorW.PrintLast Go.Proofs.YtopbjginpmdebaaDoorW.PrintMore
attribute [local go_sem] max2_int min2_int max_two min_two max_three min_three max_four min_four   -- for this text's walks alone
set_option linter.unusedVariables false
set_option linter.unusedSimpArgs false

/-! ### exactpplmake_Src_Pick: function 32 -/
def exactpplmake_Src_Pick.f (s0_0 : List Int) (s0_1 : Int) (s0_2 : Int) (l1 : List Int) : Option (Int × Int × Int) := (exactpplmake_Src_N.f s0_0 s0_1 s0_2 (l1.length : Int)).bind fun bt236 => (if 0 ≤ bt236.1 then (if bt236.1 < (l1.length : Int) then (some (rd l1 bt236.1, bt236.2.1, bt236.2.2)) else (none)) else (none))
set_option maxHeartbeats 8000000 in
set_option maxRecDepth 100000 in
theorem exactpplmake_Src_Pick.calls (g : Nat) (s0_0 : List Int) (s0_1 : Int) (s0_2 : Int) (A1 : Option Addr) (c1 : Nat) (l1 : List Int) (r1 : Int) (r2 : Int) (r3 : Int) (w0 w : World) (hI : IsS58 w0 w g s0_0 s0_1 s0_2) (hB : Below w0.heap.size w0 w) (hr1 : Kd.C (Kd.int .i64) w A1 l1.length l1) (hc1 : l1.length ≤ c1) (hf1 : ∀ ad, A1 = some ad → 0 < l1.length → ad.block ≠ g) (h : exactpplmake_Src_Pick.f s0_0 s0_1 s0_2 l1 = some (r1, r2, r3)) :
  Calls Tryd.prog 32 #[.pointer (some ⟨g, 0, none⟩), .slice A1 l1.length c1] w fun e w' => e = .returned (.int .i64 r1) ∧ IsS58 w0 w' g s0_0 r2 r3 ∧ Below w0.heap.size w0 w' ∧ KeepBut w w' g none := by
 have HR1 := Aside0.mk hr1
 have HC1 := Aside0.mk hc1
 clear hr1 hc1
 have HI0 := Aside0.mk hI
 have HK := Aside0.mk (KeepBut.refl w g none)
 have HL := Aside0.mk hB.size
 clear hI
 have HW0 := Aside0.mk hB.size
 have HB := Aside0.mk hB
 clear hB
 have H : ((exactpplmake_Src_N.f s0_0 s0_1 s0_2 (l1.length : Int)).bind fun bt236 => (if 0 ≤ bt236.1 then (if bt236.1 < (l1.length : Int) then (some (rd l1 bt236.1, bt236.2.1, bt236.2.2)) else (none)) else (none))) = some (r1, r2, r3) := h
 clear h
 replace H := Option.bind_eq_some_iff.mp H
 obtain ⟨⟨t236, t237, t238⟩, A30, H⟩ := H
 replace H : (if 0 ≤ t236 then (if t236 < (l1.length : Int) then (some (rd l1 t236, t237, t238)) else (none)) else (none)) = some (r1, r2, r3) := H
 have A3 := Aside0.mk A30
 clear A30
 by_cases c4 : 0 ≤ t236
 ·rw [if_pos c4] at H
  have c4b0 : decide (0 ≤ t236) = true := decide_eq_true c4
  clear c4
  by_cases c5 : t236 < (l1.length : Int)
  ·rw [if_pos c5] at H
   have c5b0 : decide (t236 < (l1.length : Int)) = true := decide_eq_true c5
   clear c5
   simp only [Option.some.injEq, Prod.mk.injEq] at H
   obtain ⟨rfl, rfl, rfl⟩ := H
   go_enter Tryd.func32, Tryd.ntmps32
   go_wp2_with (first | ((with_reducible refine gate_callee (f := 23) rfl ?_); refine goesL_ (some 9) rfl rfl Tryd.func23 (by kernel_rfl) rfl #[.pointer (some ⟨g, 0, none⟩), .int .i64 (l1.length : Int)] rfl (by (try simp only [List.map_toArray, List.map_cons, List.map_nil]); first | done | rfl | (simp only [List.length_drop, List.length_take]; rfl)) ?_; (with_reducible refine (exactpplmake_Src_N.calls g s0_0 s0_1 s0_2 (l1.length : Int) t236 t237 t238 w0 _ ?side1 ?side2 A3.out).mono ?_); (case side1 => repeat (first | (with_reducible first | exact HI0.out | apply IsS58.alloc | apply IsS58.drewN | apply IsS58.drew | apply IsS58.set_1 | apply IsS58.set_2) | exact HI0.out)); (case side2 => repeat (first | (with_reducible first | exact HB.out | apply below_alloc | apply pw_below_drewN | apply below_drew1 | refine below_set ?_ (IsS58.ge HI0.out)) | exact HB.out)); rintro e w6 ⟨rfl, hi, hb, hk⟩; refine ⟨_, rfl, ?_⟩; replace HK := Aside0.mk (KeepBut.trans (by repeat (first | (with_reducible first | exact HK.out | apply KeepBut.set_ | apply keep_drewN | apply keep_drew | apply keep_alloc) | exact HK.out)) hk (.inl rfl)); replace HB := Aside0.mk (hb); replace HI0 := Aside0.mk (hi); (try clear hb); (try clear hb2); (try clear hk); (try clear hi); have p239 : 0 ≤ (t236 : Int) := dt_; have q239 : t236 < (l1.length : Int) := dt_; obtain ⟨ad239, e239, hx239_0⟩ := Kd.at_int HR1.out t236 p239 q239; cases e239; replace hx239_0 := keep_cell HK.out hx239_0 (by first | (rw [add_block]; exact hf1 _ rfl (by omega)) | exact hf1 _ rfl (by omega) | exact hf1 ad239 rfl (by omega)); replace p239 := eq_true p239; replace q239 := eq_true q239))
   go_ret
   exact ⟨re_, si_, bl_, by repeat (first | (with_reducible first | exact HK.out | apply KeepBut.set_ | apply keep_drewN | apply keep_drew | apply keep_alloc) | exact HK.out)⟩
  ·rw [if_neg c5] at H
   exact absurd H (by simp)
 ·rw [if_neg c4] at H
  exact absurd H (by simp)

end Go.Proofs.YtopbjginpmdebaaDoor.K
namespace Go.Proofs.YtopbjginpmdebaaDoor.K
open Go.RowKit Go.Proofs.YtopbjginpmdebaaDoorW.PrintWords Go.Proofs.YtopbjginpmdebaaDoorW.PrintLast Go.Proofs.YtopbjginpmdebaaDoorW.PrintMore
attribute [local go_sem] max2_int min2_int max_two min_two max_three min_three max_four min_four   -- for this text's walks alone
set_option linter.unusedVariables false
set_option linter.unusedSimpArgs false

/-! ### exactpplmake_Width: function 42 -/
def exactpplmake_Width.f (a0 : Int) : Option (Int) := some (wrap64 (2 + (Int.tmod a0 2)))
set_option maxHeartbeats 8000000 in
set_option maxRecDepth 100000 in
theorem exactpplmake_Width.calls (a0 : Int) (r : Int) (w : World) (h : exactpplmake_Width.f a0 = some r) :
    Calls Tryd.prog 42 #[.int .i64 a0] w fun e w' => e = .returned (.int .i64 r) ∧ Drawn0 w w' := by
  have H : (some (wrap64 (2 + (Int.tmod a0 2)))) = some r := h
  clear h
  obtain rfl := Option.some.inj H
  go_enter Tryd.func42, Tryd.ntmps42
  go_wp2
  go_ret
  exact ⟨by first | rfl | (simp; done) | (simp [*]; done), by repeat (first | exact Drawn0.refl _ | apply Drawn0.step)⟩

end Go.Proofs.YtopbjginpmdebaaDoor.K
namespace Go.Proofs.YtopbjginpmdebaaDoor.K
open Go.RowKit Go.Proofs.YtopbjginpmdebaaDoorW.PrintWords Go.Proofs.YtopbjginpmdebaaDoorW.PrintLast Go.Proofs.YtopbjginpmdebaaDoorW.PrintMore
attribute [local go_sem] max2_int min2_int max_two min_two max_three min_three max_four min_four   -- for this text's walks alone
set_option linter.unusedVariables false
set_option linter.unusedSimpArgs false

/-! ### exactpplmake_Src_Nodes: function 16 -/
mutual
def exactpplmake_Src_Nodes.l0 : Nat → List (S60) → Int → List Int → Int → Int → Option ((List (S60)) × Int × Int)
 | 0, _, _, _, _, _ => none
 | k + 1, x3, x4, x1000, x1001, x1002 => if x4 > 0 then ((exactpplmake_Src_Range.f x1000 x1001 x1002 (-2) 2).bind fun bt243 => (if (x3.length : Int) > 0 then ((exactpplmake_Src_N.f x1000 bt243.2.1 bt243.2.2 3).bind fun bt247 => (exactpplmake_Src_Nodes.j1 k x3 x4 (decide (bt247.1 > 0)) x1000 bt247.2.1 bt247.2.2 (-1) bt243.1)) else (exactpplmake_Src_Nodes.j1 k x3 x4 false x1000 bt243.2.1 bt243.2.2 (-1) bt243.1))) else (some (x3, x1001, x1002))
def exactpplmake_Src_Nodes.j1 : Nat → List (S60) → Int → Bool → List Int → Int → Int → Int → Int → Option ((List (S60)) × Int × Int)
 | 0, _, _, _, _, _, _, _, _ => none
 | k + 1, x3, x4, x23, x1000, x1001, x1002, x247000, x247001 => if x23 = true then ((exactpplmake_Src_N.f x1000 x1001 x1002 3).bind fun bt250 => (exactpplmake_Src_Nodes.l1 k x3 x4 0 x1000 bt250.2.1 bt250.2.2 bt250.1 0 ([] : List Int))) else (exactpplmake_Src_Nodes.j3 k x3 x4 x1000 x1001 x1002 x247000 x247001 ([] : List Int))
def exactpplmake_Src_Nodes.j3 : Nat → List (S60) → Int → List Int → Int → Int → Int → Int → List Int → Option ((List (S60)) × Int × Int)
 | 0, _, _, _, _, _, _, _, _ => none
 | k + 1, x3, x4, x1000, x1001, x1002, x247000, x247001, x247002 => (exactpplmake_Src_N.f x1000 x1001 x1002 24).bind fun bt260 => (if bt260.1 = 0 then ((exactpplmake_Src_Pick.f x1000 bt260.2.1 bt260.2.2 (([(-2), (-1), 0, 63, 64] : List Int))).bind fun bt266 => (if x3.length < 3518437208883 then (exactpplmake_Src_Nodes.l0 k (x3 ++ [(⟨bt266.1, x247001, x247002⟩ : S60)]) (wrap64 (x4 - 1)) x1000 bt266.2.1 bt266.2.2) else (none))) else (if bt260.1 = 1 then ((exactpplmake_Src_Pick.f x1000 bt260.2.1 bt260.2.2 (([1073741824, 1073741825, (-1073741824), (-1073741825)] : List Int))).bind fun bt275 => (if x3.length < 3518437208883 then (exactpplmake_Src_Nodes.l0 k (x3 ++ [(⟨x247000, bt275.1, x247002⟩ : S60)]) (wrap64 (x4 - 1)) x1000 bt275.2.1 bt275.2.2) else (none))) else (if bt260.1 = 2 then ((exactpplmake_Src_Range.f x1000 bt260.2.1 bt260.2.2 (-1) (x3.length : Int)).bind fun bt281 => (if x247002.length < 17592186044416 then (if x3.length < 3518437208883 then (exactpplmake_Src_Nodes.l0 k (x3 ++ [(⟨x247000, x247001, (x247002 ++ [bt281.1])⟩ : S60)]) (wrap64 (x4 - 1)) x1000 bt281.2.1 bt281.2.2) else (none)) else (none))) else (if x3.length < 3518437208883 then (exactpplmake_Src_Nodes.l0 k (x3 ++ [(⟨x247000, x247001, x247002⟩ : S60)]) (wrap64 (x4 - 1)) x1000 bt260.2.1 bt260.2.2) else (none)))))
def exactpplmake_Src_Nodes.l1 : Nat → List (S60) → Int → Int → List Int → Int → Int → Int → Int → List Int → Option ((List (S60)) × Int × Int)
 | 0, _, _, _, _, _, _, _, _, _ => none
 | k + 1, x3, x4, x6, x1000, x1001, x1002, x247000, x247001, x247002 => (exactpplmake_Width.f x247000).bind fun t253 => (if x6 < t253 then ((exactpplmake_Src_N.f x1000 x1001 x1002 (x3.length : Int)).bind fun bt254 => (if x247002.length < 17592186044416 then (exactpplmake_Src_Nodes.l1 k x3 x4 (wrap64 (x6 + 1)) x1000 bt254.2.1 bt254.2.2 x247000 x247001 (x247002 ++ [bt254.1])) else (none))) else (exactpplmake_Src_Nodes.j3 k x3 x4 x1000 x1001 x1002 x247000 x247001 x247002))
end
def exactpplmake_Src_Nodes.f (k : Nat) (s0_0 : List Int) (s0_1 : Int) (s0_2 : Int) : Option ((List (S60)) × Int × Int) := (exactpplmake_Src_N.f s0_0 s0_1 s0_2 9).bind fun bt240 => (exactpplmake_Src_Nodes.l0 k ([] : List (S60)) bt240.1 s0_0 bt240.2.1 bt240.2.2)
theorem exactpplmake_Src_Nodes.mono_l : ∀ k, (∀ y0 y1 y2 y3 y4, LeO (exactpplmake_Src_Nodes.l0 k y0 y1 y2 y3 y4) (exactpplmake_Src_Nodes.l0 (k + 1) y0 y1 y2 y3 y4)) ∧ (∀ y0 y1 y2 y3 y4 y5 y6 y7, LeO (exactpplmake_Src_Nodes.j1 k y0 y1 y2 y3 y4 y5 y6 y7) (exactpplmake_Src_Nodes.j1 (k + 1) y0 y1 y2 y3 y4 y5 y6 y7)) ∧ (∀ y0 y1 y2 y3 y4 y5 y6 y7, LeO (exactpplmake_Src_Nodes.j3 k y0 y1 y2 y3 y4 y5 y6 y7) (exactpplmake_Src_Nodes.j3 (k + 1) y0 y1 y2 y3 y4 y5 y6 y7)) ∧ (∀ y0 y1 y2 y3 y4 y5 y6 y7 y8, LeO (exactpplmake_Src_Nodes.l1 k y0 y1 y2 y3 y4 y5 y6 y7 y8) (exactpplmake_Src_Nodes.l1 (k + 1) y0 y1 y2 y3 y4 y5 y6 y7 y8))
 | 0 => ⟨fun _ _ _ _ _ r h => by simp [exactpplmake_Src_Nodes.l0] at h, fun _ _ _ _ _ _ _ _ r h => by simp [exactpplmake_Src_Nodes.j1] at h, fun _ _ _ _ _ _ _ _ r h => by simp [exactpplmake_Src_Nodes.j3] at h, fun _ _ _ _ _ _ _ _ _ r h => by simp [exactpplmake_Src_Nodes.l1] at h⟩
 | k + 1 => by
  obtain ⟨ih0, ih1, ih2, ih3⟩ := exactpplmake_Src_Nodes.mono_l k
  refine ⟨?_, ?_, ?_, ?_⟩
  ·intro y0 y1 y2 y3 y4
   unfold exactpplmake_Src_Nodes.l0
   repeat' first
   | (with_reducible exact ih0 _ _ _ _ _)
   | (with_reducible exact ih1 _ _ _ _ _ _ _ _)
   | (with_reducible exact ih2 _ _ _ _ _ _ _ _)
   | (with_reducible exact ih3 _ _ _ _ _ _ _ _ _)
   | (with_reducible exact LeO.refl _)
   | (with_reducible exact LeO.none _)
   | (with_reducible refine LeO.ite ?_ ?_)
   | (with_reducible refine LeO.bind ?_ (fun _ => ?_))
   | exact ih0 _ _ _ _ _
   | exact ih1 _ _ _ _ _ _ _ _
   | exact ih2 _ _ _ _ _ _ _ _
   | exact ih3 _ _ _ _ _ _ _ _ _
   | exact LeO.none _
   | refine LeO.ite ?_ ?_
   | refine LeO.bind ?_ (fun _ => ?_)
  ·intro y0 y1 y2 y3 y4 y5 y6 y7
   unfold exactpplmake_Src_Nodes.j1
   repeat' first
   | (with_reducible exact ih0 _ _ _ _ _)
   | (with_reducible exact ih1 _ _ _ _ _ _ _ _)
   | (with_reducible exact ih2 _ _ _ _ _ _ _ _)
   | (with_reducible exact ih3 _ _ _ _ _ _ _ _ _)
   | (with_reducible exact LeO.refl _)
   | (with_reducible exact LeO.none _)
   | (with_reducible refine LeO.ite ?_ ?_)
   | (with_reducible refine LeO.bind ?_ (fun _ => ?_))
   | exact ih0 _ _ _ _ _
   | exact ih1 _ _ _ _ _ _ _ _
   | exact ih2 _ _ _ _ _ _ _ _
   | exact ih3 _ _ _ _ _ _ _ _ _
   | exact LeO.none _
   | refine LeO.ite ?_ ?_
   | refine LeO.bind ?_ (fun _ => ?_)
  ·intro y0 y1 y2 y3 y4 y5 y6 y7
   unfold exactpplmake_Src_Nodes.j3
   repeat' first
   | (with_reducible exact ih0 _ _ _ _ _)
   | (with_reducible exact ih1 _ _ _ _ _ _ _ _)
   | (with_reducible exact ih2 _ _ _ _ _ _ _ _)
   | (with_reducible exact ih3 _ _ _ _ _ _ _ _ _)
   | (with_reducible exact LeO.refl _)
   | (with_reducible exact LeO.none _)
   | (with_reducible refine LeO.ite ?_ ?_)
   | (with_reducible refine LeO.bind ?_ (fun _ => ?_))
   | exact ih0 _ _ _ _ _
   | exact ih1 _ _ _ _ _ _ _ _
   | exact ih2 _ _ _ _ _ _ _ _
   | exact ih3 _ _ _ _ _ _ _ _ _
   | exact LeO.none _
   | refine LeO.ite ?_ ?_
   | refine LeO.bind ?_ (fun _ => ?_)
  ·intro y0 y1 y2 y3 y4 y5 y6 y7 y8
   unfold exactpplmake_Src_Nodes.l1
   repeat' first
   | (with_reducible exact ih0 _ _ _ _ _)
   | (with_reducible exact ih1 _ _ _ _ _ _ _ _)
   | (with_reducible exact ih2 _ _ _ _ _ _ _ _)
   | (with_reducible exact ih3 _ _ _ _ _ _ _ _ _)
   | (with_reducible exact LeO.refl _)
   | (with_reducible exact LeO.none _)
   | (with_reducible refine LeO.ite ?_ ?_)
   | (with_reducible refine LeO.bind ?_ (fun _ => ?_))
   | exact ih0 _ _ _ _ _
   | exact ih1 _ _ _ _ _ _ _ _
   | exact ih2 _ _ _ _ _ _ _ _
   | exact ih3 _ _ _ _ _ _ _ _ _
   | exact LeO.none _
   | refine LeO.ite ?_ ?_
   | refine LeO.bind ?_ (fun _ => ?_)
theorem exactpplmake_Src_Nodes.mono : ∀ a0 a1 a2 k, LeO (exactpplmake_Src_Nodes.f k a0 a1 a2) (exactpplmake_Src_Nodes.f (k + 1) a0 a1 a2) := by
 intro a0 a1 a2 k
 obtain ⟨ih0, ih1, ih2, ih3⟩ := exactpplmake_Src_Nodes.mono_l k
 unfold exactpplmake_Src_Nodes.f
 repeat' first
   | (with_reducible exact ih0 _ _ _ _ _)
   | (with_reducible exact ih1 _ _ _ _ _ _ _ _)
   | (with_reducible exact ih2 _ _ _ _ _ _ _ _)
   | (with_reducible exact ih3 _ _ _ _ _ _ _ _ _)
   | (with_reducible exact LeO.refl _)
   | (with_reducible exact LeO.none _)
   | (with_reducible refine LeO.ite ?_ ?_)
   | (with_reducible refine LeO.bind ?_ (fun _ => ?_))
   | exact ih0 _ _ _ _ _
   | exact ih1 _ _ _ _ _ _ _ _
   | exact ih2 _ _ _ _ _ _ _ _
   | exact ih3 _ _ _ _ _ _ _ _ _
   | exact LeO.none _
   | refine LeO.ite ?_ ?_
   | refine LeO.bind ?_ (fun _ => ?_)
def exactpplmake_Src_Nodes.T11 : Bool × List (List Nat × List Nat) := (true, [([], []), ([0], [0]), ([], []), ([], []), ([3], [3]), ([2, 4], [2, 4]), ([5], [5]), ([1, 6, 5], [1, 6]), ([0, 1, 2, 3, 4, 5, 6, 7], []), ([8, 7, 7, 0, 1, 2, 3, 4, 5, 6, 7], [7, 8])])
def exactpplmake_Src_Nodes.B11 : List Nat := [0, 1, 0, 0, 8, 28, 60, 127, 255, 511]
theorem exactpplmake_Src_Nodes.tab11 : rtab .any (opsOf Tryd.f16 11) = exactpplmake_Src_Nodes.T11 := by kernel_rfl
theorem exactpplmake_Src_Nodes.bits11 : waitsOk exactpplmake_Src_Nodes.T11.2 exactpplmake_Src_Nodes.B11 = true := by kernel_rfl
def exactpplmake_Src_Nodes.T18 : Bool × List (List Nat × List Nat) := (true, [([], []), ([0], [0]), ([], []), ([], []), ([3], [3]), ([2, 4], [2, 4]), ([5], [5]), ([1, 6, 5], [1, 6]), ([0, 1, 2, 3, 4, 5, 6, 7], []), ([8, 7, 7, 0, 1, 2, 3, 4, 5, 6, 7], [7, 8])])
def exactpplmake_Src_Nodes.B18 : List Nat := [0, 1, 0, 0, 8, 28, 60, 127, 255, 511]
theorem exactpplmake_Src_Nodes.tab18 : rtab .any (opsOf Tryd.f16 18) = exactpplmake_Src_Nodes.T18 := by kernel_rfl
theorem exactpplmake_Src_Nodes.bits18 : waitsOk exactpplmake_Src_Nodes.T18.2 exactpplmake_Src_Nodes.B18 = true := by kernel_rfl
set_option maxHeartbeats 8000000 in
set_option maxRecDepth 100000 in
theorem exactpplmake_Src_Nodes.calls (k : Nat) (g : Nat) (s0_0 : List Int) (s0_1 : Int) (s0_2 : Int) (r1 : List (S60)) (r2 : Int) (r3 : Int) (w0 w : World) (hI : IsS58 w0 w g s0_0 s0_1 s0_2) (hB : Below w0.heap.size w0 w) (h : exactpplmake_Src_Nodes.f k s0_0 s0_1 s0_2 = some (r1, r2, r3)) :
  Calls Tryd.prog 16 #[.pointer (some ⟨g, 0, none⟩)] w fun e w' => ∃ v0_ : Value, e = .returned (v0_) ∧ Kd.S k60 60 w' w.heap.size (fun _ => True) v0_ r1 ∧ IsS58 w0 w' g s0_0 r2 r3 ∧ Below w0.heap.size w0 w' ∧ KeepBut w w' g none := by
 have hu60 := Tryd.underlying60
 have HI0 := Aside0.mk hI
 have HK := Aside0.mk (KeepBut.refl w g none)
 have HL := Aside0.mk hB.size
 clear hI
 have HW0 := Aside0.mk hB.size
 have HB := Aside0.mk hB
 clear hB
 have H : ((exactpplmake_Src_N.f s0_0 s0_1 s0_2 9).bind fun bt240 => (exactpplmake_Src_Nodes.l0 k ([] : List (S60)) bt240.1 s0_0 bt240.2.1 bt240.2.2)) = some (r1, r2, r3) := h
 clear h
 replace H := Option.bind_eq_some_iff.mp H
 obtain ⟨⟨t240, t241, t242⟩, A20, H⟩ := H
 replace H : (exactpplmake_Src_Nodes.l0 k ([] : List (S60)) t240 s0_0 t241 t242) = some (r1, r2, r3) := H
 have A2 := Aside0.mk A20
 clear A20
 have H' := Aside0.mk H
 clear H
 go_enter Tryd.func16, Tryd.ntmps16
 go_wp2_with (first | ((with_reducible refine gate_callee (f := 23) rfl ?_); refine goesL_ (some 8) rfl rfl Tryd.func23 (by kernel_rfl) rfl #[.pointer (some ⟨g, 0, none⟩), .int .i64 9] rfl (by (try simp only [List.map_toArray, List.map_cons, List.map_nil]); first | done | rfl | (simp only [List.length_drop, List.length_take]; rfl)) ?_; (with_reducible refine (exactpplmake_Src_N.calls g s0_0 s0_1 s0_2 9 t240 t241 t242 w0 _ ?side1 ?side2 A2.out).mono ?_); (case side1 => repeat (first | (with_reducible first | exact HI0.out | apply IsS58.alloc | apply IsS58.drewN | apply IsS58.drew | apply IsS58.set_1 | apply IsS58.set_2) | exact HI0.out)); (case side2 => repeat (first | (with_reducible first | exact HB.out | apply below_alloc | apply pw_below_drewN | apply below_drew1 | refine below_set ?_ (IsS58.ge HI0.out)) | exact HB.out)); rintro e w3 ⟨rfl, hi, hb, hk⟩; refine ⟨_, rfl, ?_⟩; replace HK := Aside0.mk (KeepBut.trans (by repeat (first | (with_reducible first | exact HK.out | apply KeepBut.set_ | apply keep_drewN | apply keep_drew | apply keep_alloc) | exact HK.out)) hk (.inl rfl)); replace HB := Aside0.mk (hb); replace HI0 := Aside0.mk (hi); (try clear hb); (try clear hb2); (try clear hk); (try clear hi)))
 go_loopg [3, 4] k (fun kq v3 v4 w' => ∃ (x3_1 : List (S60)) (x4_1 : Int) (x1001_1 : Int) (x1002_1 : Int), v4 = .int .i64 x4_1 ∧ Aside0 (exactpplmake_Src_Nodes.l0 kq x3_1 x4_1 s0_0 x1001_1 x1002_1 = some (r1, r2, r3)) ∧ Aside0 (kq ≤ k) ∧ Aside0 (Kd.S k60 60 w' w.heap.size (fun _ => True) v3 x3_1) ∧ Aside0 (IsS58 w0 w' g s0_0 x1001_1 x1002_1) ∧ Aside0 (KeepBut w w' g none) ∧ Aside0 (Below w0.heap.size w0 w'))
 case atStart => exact ⟨(([] : List (S60))), (t240), (t241), (t242), rs_, H', ⟨Nat.le_refl _⟩, ⟨by first | exact Kd.S_nil _ _ _ _ _ | exact Kd.N_nil _ _ _ _ _ | exact Kd.V_nil _ _ _ _ _ | exact Kd.Q_nil _ _ _ _ _ | exact Kd.R_nil _ _ _ _ _⟩, ⟨si_⟩, ⟨by repeat (first | (with_reducible first | exact HK.out | apply KeepBut.set_ | apply keep_drewN | apply keep_drew | apply keep_alloc) | exact HK.out)⟩, ⟨bl_⟩⟩
 case round =>
  clear H'
  try clear c1
  try clear c2
  try clear p2
  obtain ⟨x3_1, x4_1, x1001_1, x1002_1, rfl, HA, HK1, HO_3, HI0, HK, HB⟩ := hrel
  cases gk with
  | zero => exact absurd HA.out (by simp [exactpplmake_Src_Nodes.l0])
  | succ k1 =>
   have H := HA.out
   clear HA
   simp only [exactpplmake_Src_Nodes.l0] at H
   by_cases c4 : x4_1 > 0
   ·rw [if_pos c4] at H
    have c4b0 : decide (0 < x4_1) = true := decide_eq_true c4
    clear c4
    replace H := Option.bind_eq_some_iff.mp H
    obtain ⟨⟨t243, t244, t245⟩, A50, H⟩ := H
    replace H : (if (x3_1.length : Int) > 0 then ((exactpplmake_Src_N.f s0_0 t244 t245 3).bind fun bt247 => (exactpplmake_Src_Nodes.j1 k1 x3_1 x4_1 (decide (bt247.1 > 0)) s0_0 bt247.2.1 bt247.2.2 (-1) t243)) else (exactpplmake_Src_Nodes.j1 k1 x3_1 x4_1 false s0_0 t244 t245 (-1) t243)) = some (r1, r2, r3) := H
    have A5 := Aside0.mk A50
    clear A50
    have HC6 := Aside0.mk H
    clear H
    go_upto_region 6 with (first | ((with_reducible refine gate_callee (f := 25) rfl ?_); refine goesL_ (some 14) rfl rfl Tryd.func25 (by kernel_rfl) rfl #[.pointer (some ⟨g, 0, none⟩), .int .i64 (-2), .int .i64 2] rfl (by (try simp only [List.map_toArray, List.map_cons, List.map_nil]); first | done | rfl | (simp only [List.length_drop, List.length_take]; rfl)) ?_; (with_reducible refine (exactpplmake_Src_Range.calls g s0_0 x1001_1 x1002_1 (-2) 2 t243 t244 t245 w0 _ ?side1 ?side2 A5.out).mono ?_); (case side1 => repeat (first | (with_reducible first | exact HI0.out | apply IsS58.alloc | apply IsS58.drewN | apply IsS58.drew | apply IsS58.set_1 | apply IsS58.set_2) | exact HI0.out)); (case side2 => repeat (first | (with_reducible first | exact HB.out | apply below_alloc | apply pw_below_drewN | apply below_drew1 | refine below_set ?_ (IsS58.ge HI0.out)) | exact HB.out)); rintro e w7 ⟨rfl, hi, hb, hk⟩; refine ⟨_, rfl, ?_⟩; replace HO_3 := Aside0.mk (Kd.S_mono (Kd.S_keep (IsS58.apartS (show IsS58 w0 _ g s0_0 x1001_1 x1002_1 from si_) (pS_ HO_3.out) (by decide)) hk (fun _ h => h.2)) (fun _ h => h.1)); replace HK := Aside0.mk (KeepBut.trans (by repeat (first | (with_reducible first | exact HK.out | apply KeepBut.set_ | apply keep_drewN | apply keep_drew | apply keep_alloc) | exact HK.out)) hk (.inl rfl)); replace HB := Aside0.mk (hb); replace HI0 := Aside0.mk (hi); (try clear hb); (try clear hb2); (try clear hk); (try clear hi)) | ((with_reducible refine gate_dst (N := 5) rfl ?_); refine box_event ?hg (N := 5) ?hd (cs := #[.int .i64 0, .int .i64 0, .slice none 0 0]) (t := 60) ?hr ?_; (case hd => rfl); (case hg => rfl); (case hr => first | (go_simp; done) | (go_simp; rfl)); intro gb246 hg w8 hbox hb; have BK246 := Aside0.mk (hbox); have GW246 := Aside0.mk ((by rw [hg]; exact (keep_size (w := w) (g := g) (row := none) (by repeat (first | (with_reducible first | exact HK.out | apply KeepBut.set_ | apply keep_drewN | apply keep_drew | apply keep_alloc) | exact HK.out))) : w.heap.size ≤ gb246)); have GE246 := Aside0.mk ((Nat.le_trans HW0.out (by rw [hg]; exact (keep_size (w := w) (g := g) (row := none) (by repeat (first | (with_reducible first | exact HK.out | apply KeepBut.set_ | apply keep_drewN | apply keep_drew | apply keep_alloc) | exact HK.out))) : w.heap.size ≤ gb246) : w0.heap.size ≤ gb246)); have NB0_246 := Aside0.mk ((by rw [hg]; exact Nat.ne_of_lt (IsS58.lt (show IsS58 w0 _ g s0_0 t244 t245 from si_)) : g ≠ gb246)); have NB246_0 := Aside0.mk ((by rw [hg]; exact Nat.ne_of_gt (IsS58.lt (show IsS58 w0 _ g s0_0 t244 t245 from si_)) : gb246 ≠ g)); replace HO_3 := Aside0.mk (Kd.S_below (Kd.S_elderB (pS_ HO_3.out) gb246 (Nat.le_of_eq hg.symm)) hb); replace HI0 := Aside0.mk (IsS58.below si_ hb); replace HK := Aside0.mk (KeepBut.trans (by repeat (first | (with_reducible first | exact HK.out | apply KeepBut.set_ | apply keep_drewN | apply keep_drew | apply keep_alloc) | exact HK.out)) (KeepBut.of_below hb g none) (.inl rfl)); replace HB := Aside0.mk (below_step bl_ hb); clear hb hbox hg; have hnb9 := NB246_0.out; have hnc9 := NB0_246.out; obtain ⟨hcz10_0, hcz10_1, hcz10_2, hfz10_0, hfz10_1, hfz10_2⟩ := cf3_ BK246.out))
    (try simp only [Act.put, List.setIfInBounds_toArray, List.set_cons_zero, List.set_cons_succ])
    go_cut [23] (fun v23 wc => ∃ (kq : Nat) (x23_5 : Bool) (x1001_5 : Int) (x1002_5 : Int), v23 = .bool x23_5 ∧ Aside0 (exactpplmake_Src_Nodes.j1 kq x3_1 x4_1 x23_5 s0_0 x1001_5 x1002_5 (-1) t243 = some (r1, r2, r3)) ∧ Aside0 (kq ≤ k1) ∧ Aside0 (Kd.S k60 60 wc w.heap.size (fun k_ => k_ ≠ gb246) u3 x3_1) ∧ Aside0 (wc.heap[gb246]? = some (.cells #[.int .i64 (-1), .int .i64 t243, (.slice none 0 0)] 60 (0, 0))) ∧ Aside0 (IsS58 w0 wc g s0_0 x1001_5 x1002_5) ∧ Aside0 (KeepBut w wc g none) ∧ Aside0 (Below w0.heap.size w0 wc))
    case first =>
     have H := HC6.out
     clear HC6
     by_cases c11 : (x3_1.length : Int) > 0
     ·rw [if_pos c11] at H
      have c11b0 : decide (0 < (x3_1.length : Int)) = true := decide_eq_true c11
      have c11b1 : decide (0 < x3_1.length) = true := decide_eq_true (by omega)
      clear c11
      (first | rw [c11b0] | (simp only [i64_w, i32_w]; rw [c11b0]) | skip)
      replace H := Option.bind_eq_some_iff.mp H
      obtain ⟨⟨t247, t248, t249⟩, A120, H⟩ := H
      replace H : (exactpplmake_Src_Nodes.j1 k1 x3_1 x4_1 (decide (t247 > 0)) s0_0 t248 t249 (-1) t243) = some (r1, r2, r3) := H
      have A12 := Aside0.mk A120
      clear A120
      have H' := Aside0.mk H
      clear H
      obtain ⟨Ao13, co13, eo13⟩ := Kd.S_slice HO_3.out
      subst eo13
      go_wp2_with (first | (go_at_call 23; (with_reducible refine (exactpplmake_Src_N.calls g s0_0 t244 t245 3 t247 t248 t249 w0 _ ?side1 ?side2 A12.out).mono ?_); (case side1 => repeat (first | (with_reducible first | exact HI0.out | apply IsS58.alloc | apply IsS58.drewN | apply IsS58.drew | apply IsS58.set_1 | apply IsS58.set_2 | refine IsS58.far ?_ NB0_246.out _) | exact HI0.out)); (case side2 => repeat (first | (with_reducible first | exact HB.out | apply below_alloc | apply pw_below_drewN | apply below_drew1 | refine below_set ?_ (IsS58.ge HI0.out) | refine below_set ?_ GE246.out) | exact HB.out)); rintro e w14 ⟨rfl, hi, hb, hk⟩; replace HO_3 := Aside0.mk (Kd.S_mono (Kd.S_keep (IsS58.apartS (show IsS58 w0 _ g s0_0 t244 t245 from si_) (by (with_reducible repeat (first | apply Kd.S_alloc | apply Kd.S_drewN | apply Kd.S_drew)); exact (Kd.S_mono (Kd.S_far (p := ⟨gb246, 2, none⟩) (Kd.S_far (p := ⟨gb246, 1, none⟩) (Kd.S_far (p := ⟨gb246, 0, none⟩) (Kd.S_mono HO_3.out (fun k_ hk => (⟨hk, by first | exact hk.2 | exact hk.1 | exact hk.2 | exact hk.1.1 | exact hk.1.2⟩ : _ ∧ k_ ≠ gb246))) (fun _ hk => hk.2) (.int .i64 (-1))) (fun _ hk => hk.2) (.int .i64 t243)) (fun _ hk => hk.2) (.slice none 0 0)) (fun _ h_ => h_.1))) (by decide)) hk (fun _ h => h.2)) (fun _ h => h.1)); replace BK246 := Aside0.mk (KeepBut.blk hk (g' := gb246) (o := .cells #[.int .i64 (-1), .int .i64 t243, .slice none 0 0] 60 (0, 0)) (by (with_reducible repeat (first | refine blk_drewN ?_ _ | refine blk_drew ?_ | refine blk_alloc ?_ _)); refine blk_put (cs := #[.int .i64 (-1), .int .i64 t243, .slice none 0 0]) ?_ 2 _ rfl; (with_reducible repeat (first | refine blk_drewN ?_ _ | refine blk_drew ?_ | refine blk_alloc ?_ _)); refine blk_put (cs := #[.int .i64 (-1), .int .i64 0, .slice none 0 0]) ?_ 1 _ rfl; (with_reducible repeat (first | refine blk_drewN ?_ _ | refine blk_drew ?_ | refine blk_alloc ?_ _)); refine blk_put (cs := #[.int .i64 0, .int .i64 0, .slice none 0 0]) ?_ 0 _ rfl; (with_reducible repeat (first | refine blk_drewN ?_ _ | refine blk_drew ?_ | refine blk_alloc ?_ _)); exact BK246.out) NB246_0.out (by simp)); replace HK := Aside0.mk (KeepBut.trans (by repeat (first | (with_reducible first | exact HK.out | apply KeepBut.set_ | apply keep_drewN | apply keep_drew | apply keep_alloc | refine keep_far ?_ GW246.out _) | exact HK.out)) hk (.inl rfl)); replace HB := Aside0.mk (hb); replace HI0 := Aside0.mk (hi); (try clear hb); (try clear hb2); (try clear hk); (try clear hi)))
      go_meet
      case rel => exact ⟨_, (decide (t247 > 0)), (t248), (t249), rs_, H', ⟨by have := HK1.out; first | omega | exact Nat.le_refl _⟩, ⟨by (with_reducible repeat (first | apply Kd.S_alloc | apply Kd.S_drewN | apply Kd.S_drew)); exact Kd.S_mono HO_3.out (fun _ hk => hk.2)⟩, ⟨bk_⟩, ⟨si_⟩, ⟨by repeat (first | (with_reducible first | exact HK.out | apply KeepBut.set_ | apply keep_drewN | apply keep_drew | apply keep_alloc | refine keep_far ?_ GW246.out _) | exact HK.out)⟩, ⟨bl_⟩⟩
     ·rw [if_neg c11] at H
      have c11b0 : decide (0 < (x3_1.length : Int)) = false := decide_eq_false c11
      have c11b1 : decide (0 < x3_1.length) = false := decide_eq_false (by omega)
      clear c11
      (first | rw [c11b0] | (simp only [i64_w, i32_w]; rw [c11b0]) | skip)
      have H' := Aside0.mk H
      clear H
      obtain ⟨Ao15, co15, eo15⟩ := Kd.S_slice HO_3.out
      subst eo15
      go_wp2
      go_meet
      case rel => exact ⟨_, (false), (t244), (t245), rs_, H', ⟨by have := HK1.out; first | omega | exact Nat.le_refl _⟩, ⟨by (with_reducible repeat (first | apply Kd.S_alloc | apply Kd.S_drewN | apply Kd.S_drew)); exact Kd.S_mono (Kd.S_far (p := ⟨gb246, 2, none⟩) (Kd.S_far (p := ⟨gb246, 1, none⟩) (Kd.S_far (p := ⟨gb246, 0, none⟩) (Kd.S_mono HO_3.out (fun k_ hk => (⟨hk, by first | exact hk.2 | exact hk.1 | exact hk.2 | exact hk.1.1 | exact hk.1.2⟩ : _ ∧ k_ ≠ gb246))) (fun _ hk => hk.2) (.int .i64 (-1))) (fun _ hk => hk.2) (.int .i64 t243)) (fun _ hk => hk.2) (.slice none 0 0)) (fun _ hk => hk.1.2)⟩, ⟨by (with_reducible repeat (first | refine blk_drewN ?_ _ | refine blk_drew ?_ | refine blk_alloc ?_ _)); refine blk_put (cs := #[.int .i64 (-1), .int .i64 t243, .slice none 0 0]) ?_ 2 _ rfl; (with_reducible repeat (first | refine blk_drewN ?_ _ | refine blk_drew ?_ | refine blk_alloc ?_ _)); refine blk_put (cs := #[.int .i64 (-1), .int .i64 0, .slice none 0 0]) ?_ 1 _ rfl; (with_reducible repeat (first | refine blk_drewN ?_ _ | refine blk_drew ?_ | refine blk_alloc ?_ _)); refine blk_put (cs := #[.int .i64 0, .int .i64 0, .slice none 0 0]) ?_ 0 _ rfl; (with_reducible repeat (first | refine blk_drewN ?_ _ | refine blk_drew ?_ | refine blk_alloc ?_ _)); exact BK246.out⟩, ⟨si_⟩, ⟨by repeat (first | (with_reducible first | exact HK.out | apply KeepBut.set_ | apply keep_drewN | apply keep_drew | apply keep_alloc | refine keep_far ?_ GW246.out _) | exact HK.out)⟩, ⟨bl_⟩⟩
    case rest =>
     clear HC6
     try clear c1
     try clear c2
     try clear p2
     try clear c4
     try clear c4b0
     try clear c9
     try clear c11
     try clear c11b0
     try clear c11b1
     try clear hcz10_0 hcz10_1 hcz10_2 hfz10_0 hfz10_1 hfz10_2
     try clear p2
     obtain ⟨kq, x23_5, x1001_5, x1002_5, rfl, HA, HJ5, HO_3, BK246, HI0, HK, HB⟩ := hcut
     cases kq with
     | zero => exact absurd HA.out (by simp [exactpplmake_Src_Nodes.j1])
     | succ kj5 =>
      have H := HA.out
      clear HA
      simp only [exactpplmake_Src_Nodes.j1] at H
      have HC16 := Aside0.mk H
      clear H
      go_upto_if 23 with (fail)
      go_cut [] (fun wc => ∃ (kq : Nat) (x1001_15 : Int) (x1002_15 : Int) (x247000_15 : Int) (x247001_15 : Int) (x247002_15 : List Int) (u247002 : Value), Aside0 (exactpplmake_Src_Nodes.j3 kq x3_1 x4_1 s0_0 x1001_15 x1002_15 x247000_15 x247001_15 x247002_15 = some (r1, r2, r3)) ∧ Aside0 (kq ≤ kj5) ∧ Aside0 (Kd.S k60 60 wc w.heap.size (fun k_ => some k_ ≠ (u247002 : Value).ownBlock ∧ k_ ≠ gb246) u3 x3_1) ∧ Aside0 (Kd.R (Kd.int .i64) 3 wc w.heap.size (fun _ => True) u247002 x247002_15) ∧ Aside0 (wc.heap[gb246]? = some (.cells #[.int .i64 x247000_15, .int .i64 x247001_15, u247002] 60 (0, 0))) ∧ Aside0 (IsS58 w0 wc g s0_0 x1001_15 x1002_15) ∧ Aside0 (KeepBut w wc g none) ∧ Aside0 (Below w0.heap.size w0 wc))
      case first =>
       have H := HC16.out
       clear HC16
       by_cases c17 : x23_5 = true
       ·subst c17
        have H1 : ((exactpplmake_Src_N.f s0_0 x1001_5 x1002_5 3).bind fun bt250 => (exactpplmake_Src_Nodes.l1 kj5 x3_1 x4_1 0 s0_0 bt250.2.1 bt250.2.2 bt250.1 0 ([] : List Int))) = some (r1, r2, r3) := by rw [if_pos rfl] at H; exact H
        clear H
        have H := H1
        clear H1
        replace H := Option.bind_eq_some_iff.mp H
        obtain ⟨⟨t250, t251, t252⟩, A180, H⟩ := H
        replace H : (exactpplmake_Src_Nodes.l1 kj5 x3_1 x4_1 0 s0_0 t251 t252 t250 0 ([] : List Int)) = some (r1, r2, r3) := H
        have A18 := Aside0.mk A180
        clear A180
        have H' := Aside0.mk H
        clear H
        go_wp2_with (first | ((with_reducible refine gate_callee (f := 23) rfl ?_); refine goesL_ (some 25) rfl rfl Tryd.func23 (by kernel_rfl) rfl #[.pointer (some ⟨g, 0, none⟩), .int .i64 3] rfl (by (try simp only [List.map_toArray, List.map_cons, List.map_nil]); first | done | rfl | (simp only [List.length_drop, List.length_take]; rfl)) ?_; (with_reducible refine (exactpplmake_Src_N.calls g s0_0 x1001_5 x1002_5 3 t250 t251 t252 w0 _ ?side1 ?side2 A18.out).mono ?_); (case side1 => repeat (first | (with_reducible first | exact HI0.out | apply IsS58.alloc | apply IsS58.drewN | apply IsS58.drew | apply IsS58.set_1 | apply IsS58.set_2 | refine IsS58.far ?_ NB0_246.out _) | exact HI0.out)); (case side2 => repeat (first | (with_reducible first | exact HB.out | apply below_alloc | apply pw_below_drewN | apply below_drew1 | refine below_set ?_ (IsS58.ge HI0.out) | refine below_set ?_ GE246.out) | exact HB.out)); rintro e w19 ⟨rfl, hi, hb, hk⟩; refine ⟨_, rfl, ?_⟩; replace HO_3 := Aside0.mk (Kd.S_mono (Kd.S_keep (IsS58.apartS (show IsS58 w0 _ g s0_0 x1001_5 x1002_5 from si_) (pS_ HO_3.out) (by decide)) hk (fun _ h => h.2)) (fun _ h => h.1)); replace BK246 := Aside0.mk (KeepBut.blk hk (g' := gb246) (o := .cells #[.int .i64 (-1), .int .i64 t243, .slice none 0 0] 60 (0, 0)) bk_ NB246_0.out (by simp)); replace HK := Aside0.mk (KeepBut.trans (by repeat (first | (with_reducible first | exact HK.out | apply KeepBut.set_ | apply keep_drewN | apply keep_drew | apply keep_alloc | refine keep_far ?_ GW246.out _) | exact HK.out)) hk (.inl rfl)); replace HB := Aside0.mk (hb); replace HI0 := Aside0.mk (hi); (try clear hb); (try clear hb2); (try clear hk); (try clear hi); have hnb20 := NB246_0.out; have hnc20 := NB0_246.out; obtain ⟨hcz21_0, hcz21_1, hcz21_2, hfz21_0, hfz21_1, hfz21_2⟩ := cf3_ BK246.out))
        go_loopg [6] kj5 (fun kq v6 w' => ∃ (x6_3 : Int) (x1001_3 : Int) (x1002_3 : Int) (x247002_3 : List Int) (u247002 : Value), v6 = .int .i64 x6_3 ∧ Aside0 (exactpplmake_Src_Nodes.l1 kq x3_1 x4_1 x6_3 s0_0 x1001_3 x1002_3 t250 0 x247002_3 = some (r1, r2, r3)) ∧ Aside0 (kq ≤ kj5) ∧ Aside0 (Kd.S k60 60 w' w.heap.size (fun k_ => some k_ ≠ (u247002 : Value).ownBlock ∧ k_ ≠ gb246) u3 x3_1) ∧ Aside0 (Kd.R (Kd.int .i64) 3 w' w.heap.size (fun _ => True) u247002 x247002_3) ∧ Aside0 (w'.heap[gb246]? = some (.cells #[.int .i64 t250, .int .i64 0, u247002] 60 (0, 0))) ∧ Aside0 (IsS58 w0 w' g s0_0 x1001_3 x1002_3) ∧ Aside0 (KeepBut w w' g none) ∧ Aside0 (Below w0.heap.size w0 w'))
        case atStart => exact ⟨(0), (t251), (t252), (([] : List Int)), (.slice none 0 0), rs_, H', ⟨Nat.le_refl _⟩, ⟨by (with_reducible repeat (first | apply Kd.S_alloc | apply Kd.S_drewN | apply Kd.S_drew)); exact Kd.S_mono (Kd.S_far (p := ⟨gb246, 2, none⟩) (Kd.S_far (p := ⟨gb246, 1, none⟩) (Kd.S_far (p := ⟨gb246, 0, none⟩) (Kd.S_mono HO_3.out (fun k_ hk => (⟨hk, by first | exact hk | exact hk.1 | exact hk.2 | exact hk.1.1 | exact hk.1.2⟩ : _ ∧ k_ ≠ gb246))) (fun _ hk => hk.2) (.int .i64 t250)) (fun _ hk => hk.2) (.int .i64 0)) (fun _ hk => hk.2) (.slice none 0 0)) (fun _ hk => ⟨(by simp [Value.ownBlock]), hk.1⟩)⟩, ⟨by first | exact Kd.R_nil _ _ _ _ _ | exact Kd.N_nil _ _ _ _ _ | exact Kd.V_nil _ _ _ _ _ | exact Kd.Q_nil _ _ _ _ _ | exact Kd.S_nil _ _ _ _ _⟩, ⟨by (with_reducible repeat (first | refine blk_drewN ?_ _ | refine blk_drew ?_ | refine blk_alloc ?_ _)); refine blk_put (cs := #[.int .i64 t250, .int .i64 0, .slice none 0 0]) ?_ 2 _ rfl; (with_reducible repeat (first | refine blk_drewN ?_ _ | refine blk_drew ?_ | refine blk_alloc ?_ _)); refine blk_put (cs := #[.int .i64 t250, .int .i64 t243, .slice none 0 0]) ?_ 1 _ rfl; (with_reducible repeat (first | refine blk_drewN ?_ _ | refine blk_drew ?_ | refine blk_alloc ?_ _)); refine blk_put (cs := #[.int .i64 (-1), .int .i64 t243, .slice none 0 0]) ?_ 0 _ rfl; (with_reducible repeat (first | refine blk_drewN ?_ _ | refine blk_drew ?_ | refine blk_alloc ?_ _)); exact BK246.out⟩, ⟨si_⟩, ⟨by repeat (first | (with_reducible first | exact HK.out | apply KeepBut.set_ | apply keep_drewN | apply keep_drew | apply keep_alloc | refine keep_far ?_ GW246.out _) | exact HK.out)⟩, ⟨bl_⟩⟩
        case round =>
         clear H'
         try clear c1
         try clear c2
         try clear p2
         try clear c4
         try clear c4b0
         try clear c9
         try clear c11
         try clear c11b0
         try clear c11b1
         try clear c16
         try clear c17
         try clear c20
         try clear hcz10_0 hcz10_1 hcz10_2 hfz10_0 hfz10_1 hfz10_2
         try clear hcz21_0 hcz21_1 hcz21_2 hfz21_0 hfz21_1 hfz21_2
         try clear p2
         obtain ⟨x6_3, x1001_3, x1002_3, x247002_3, u247002, rfl, HA, HK3, HO_3, HO_247002, BK246, HI0, HK, HB⟩ := hrel
         cases gk with
         | zero => exact absurd HA.out (by simp [exactpplmake_Src_Nodes.l1])
         | succ k3 =>
          have H := HA.out
          clear HA
          simp only [exactpplmake_Src_Nodes.l1] at H
          replace H := Option.bind_eq_some_iff.mp H
          obtain ⟨t253, A220, H⟩ := H
          replace H : (if x6_3 < t253 then ((exactpplmake_Src_N.f s0_0 x1001_3 x1002_3 (x3_1.length : Int)).bind fun bt254 => (if x247002_3.length < 17592186044416 then (exactpplmake_Src_Nodes.l1 k3 x3_1 x4_1 (wrap64 (x6_3 + 1)) s0_0 bt254.2.1 bt254.2.2 t250 0 (x247002_3 ++ [bt254.1])) else (none))) else (exactpplmake_Src_Nodes.j3 k3 x3_1 x4_1 s0_0 x1001_3 x1002_3 t250 0 x247002_3)) = some (r1, r2, r3) := H
          have A22 := Aside0.mk A220
          clear A220
          by_cases c23 : x6_3 < t253
          ·rw [if_pos c23] at H
           have c23b0 : decide (x6_3 < t253) = true := decide_eq_true c23
           clear c23
           (first | rw [c23b0] | (simp only [i64_w, i32_w]; rw [c23b0]) | skip)
           replace H := Option.bind_eq_some_iff.mp H
           obtain ⟨⟨t254, t255, t256⟩, A240, H⟩ := H
           replace H : (if x247002_3.length < 17592186044416 then (exactpplmake_Src_Nodes.l1 k3 x3_1 x4_1 (wrap64 (x6_3 + 1)) s0_0 t255 t256 t250 0 (x247002_3 ++ [t254])) else (none)) = some (r1, r2, r3) := H
           have A24 := Aside0.mk A240
           clear A240
           by_cases c25 : x247002_3.length < 17592186044416
           ·rw [if_pos c25] at H
            have LMc25 := Aside0.mk c25
            clear c25
            obtain ⟨y257, hy257⟩ : ∃ y_ : List Int, y_ = (x247002_3 ++ [t254]) := ⟨_, rfl⟩
            replace H : (exactpplmake_Src_Nodes.l1 k3 x3_1 x4_1 (wrap64 (x6_3 + 1)) s0_0 t255 t256 t250 0 y257) = some (r1, r2, r3) := by first | (rw [hy257]; with_reducible exact H) | (have H2_ := (Option.bind_some _ _).symm.trans H; rw [hy257]; with_reducible exact H2_) | (have H2_ := (Option.bind_some _ _).symm.trans H; with_reducible exact H2_) | with_reducible exact H | (rw [hy257]; exact H) | exact H
            have Ny257 := Aside0.mk hy257
            clear hy257
            have H' := Aside0.mk H
            clear H
            have hnb26 := NB246_0.out
            have hnc26 := NB0_246.out
            obtain ⟨hcz27_0, hcz27_1, hcz27_2, hfz27_0, hfz27_1, hfz27_2⟩ := cf3_ BK246.out
            try go_wp2_with (first | ((with_reducible refine gate_callee (f := 42) rfl ?_); refine goesL_ (some 30) rfl rfl Tryd.func42 (by kernel_rfl) rfl #[.int .i64 t250] rfl (by (try simp only [List.map_toArray, List.map_cons, List.map_nil]); first | done | rfl | (simp only [List.length_drop, List.length_take]; rfl)) ?_; (with_reducible refine (exactpplmake_Width.calls t250 t253 _ A22.out).mono ?_); rintro e w' ⟨rfl, ⟨nd, rfl⟩⟩; refine ⟨_, rfl, ?_⟩; (try (rw [drewN_self wr]; generalize hq_ : World.drewN wr _ = wr; replace HO_247002 : Aside0 (Kd.R (Kd.int .i64) 3 wr w.heap.size (fun _ => True) u247002 x247002_3) := ⟨by rw [← hq_]; exact (pR_ HO_247002.out)⟩; replace HO_3 : Aside0 (Kd.S k60 60 wr w.heap.size (fun k_ => some k_ ≠ (u247002 : Value).ownBlock ∧ k_ ≠ gb246) u3 x3_1) := ⟨by rw [← hq_]; exact (pS_ HO_3.out)⟩; replace BK246 : Aside0 (wr.heap[gb246]? = some (.cells #[.int .i64 t250, .int .i64 0, u247002] 60 (0, 0))) := ⟨by rw [← hq_]; exact bk_⟩; replace HI0 : Aside0 (IsS58 w0 wr g s0_0 x1001_3 x1002_3) := ⟨by rw [← hq_]; exact si_⟩; replace HK : Aside0 (KeepBut w wr g none) := ⟨by rw [← hq_]; exact (by repeat (first | (with_reducible first | exact HK.out | apply KeepBut.set_ | apply keep_drewN | apply keep_drew | apply keep_alloc | refine keep_far ?_ GW246.out _) | exact HK.out))⟩; replace HB : Aside0 (Below w0.heap.size w0 wr) := ⟨by rw [← hq_]; exact bl_⟩; clear hq_))))
            replace HO_3 := Aside0.mk (Kd.S_drew HO_3.out)
            replace HO_247002 := Aside0.mk (Kd.R_drew HO_247002.out)
            replace BK246 := Aside0.mk (blk_drew BK246.out)
            replace HI0 := Aside0.mk (IsS58.drew HI0.out)
            replace HK := Aside0.mk (keep_drew HK.out)
            replace HB := Aside0.mk (below_drew1 HB.out)
            obtain ⟨Ao29, co29, eo29⟩ := Kd.S_slice HO_3.out
            (first | subst eo29 | (injection eo29 with f1_ f2_ f3_; have f4_ := f1_.symm; have f5_ := f3_.symm; clear f1_ f2_ f3_; subst f4_; subst f5_))
            refine start_ (n := 10) (S := fun w' => w'.cell? ⟨gb246, 0, none⟩ = some (.int .i64 t250) ∧ w'.cell? ⟨gb246, 1, none⟩ = some (.int .i64 0) ∧ w'.cell? ⟨gb246, 2, none⟩ = some (u247002)) (ds := [9]) #[false, false, false, false, false, false, false, false, false, false] (by kernel_rfl) rfl rfl ⟨(blk_cell BK246.out 0).trans rfl, (blk_cell BK246.out 1).trans rfl, (blk_cell BK246.out 2).trans rfl⟩ (fun hHeld => ?_); refine with_tabW exactpplmake_Src_Nodes.tab11 exactpplmake_Src_Nodes.bits11 (fun HT_ HW_ => ?_)
            generalize wr.drew = w28 at HO_3 HO_247002 BK246 HI0 HK HB hHeld ⊢
            refine pu_ HT_ 0 34 (bm 10 1) ?_
            refine pu_ HT_ 2 36 (bm 10 5) ?_
            refine pu_ HT_ 3 37 (bm 10 13) ?_
            refine pu_ HT_ 4 38 (bm 10 29) ?_
            refine ta_ HT_ HW_ 1 35 (bm 10 31) hHeld ?_
            refine one_ (i := 5) (N := some 39) #[true, true, true, true, true, true, false, false, false, false] rfl rfl (one_of HT_.out (by kernel_rfl)) (by decide) (fun K hK => ?_)
            refine goes_ Tryd.func23 (by kernel_rfl) rfl #[.pointer (some ⟨g, 0, none⟩), .int .i64 (x3_1.length : Int)] (by rfl) rfl rfl (by (try simp only [List.map_toArray, List.map_cons, List.map_nil]); first | done | rfl | (simp only [List.length_drop, List.length_take]; rfl)) ?_
            with_reducible refine (exactpplmake_Src_N.calls g s0_0 x1001_3 x1002_3 (x3_1.length : Int) t254 t255 t256 w0 _ ?side1 ?side2 A24.out).mono ?_
            (case side1 => repeat (first | (with_reducible first | exact HI0.out | apply IsS58.alloc | apply IsS58.drewN | apply IsS58.drew | apply IsS58.set_1 | apply IsS58.set_2 | refine IsS58.far ?_ NB0_246.out _) | exact HI0.out))
            (case side2 => repeat (first | (with_reducible first | exact HB.out | apply below_alloc | apply pw_below_drewN | apply below_drew1 | refine below_set ?_ (IsS58.ge HI0.out) | refine below_set ?_ GE246.out) | exact HB.out))
            rintro e w30 ⟨rfl, hi, hb, hk⟩
            refine ⟨_, rfl, ?_⟩
            replace HO_3 := Aside0.mk (Kd.S_mono (Kd.S_keep (IsS58.apartS (show IsS58 w0 _ g s0_0 x1001_3 x1002_3 from si_) (pS_ HO_3.out) (by decide)) hk (fun _ h => h.2)) (fun _ h => h.1))
            replace HO_247002 := Aside0.mk (Kd.R_mono (Kd.R_keep (IsS58.apart (show IsS58 w0 _ g s0_0 x1001_3 x1002_3 from si_) (pR_ HO_247002.out) (by decide)) hk (fun _ h => h.2)) (fun _ h => h.1))
            replace BK246 := Aside0.mk (KeepBut.blk hk (g' := gb246) (o := .cells #[.int .i64 t250, .int .i64 0, u247002] 60 (0, 0)) bk_ NB246_0.out (by simp))
            replace HK := Aside0.mk (KeepBut.trans (by repeat (first | (with_reducible first | exact HK.out | apply KeepBut.set_ | apply keep_drewN | apply keep_drew | apply keep_alloc | refine keep_far ?_ GW246.out _) | exact HK.out)) hk (.inl rfl))
            replace HB := Aside0.mk (hb)
            replace HI0 := Aside0.mk (hi)
            (try clear hb)
            (try clear hb2)
            (try clear hk)
            (try clear hi)
            refine hK.out _ _ ⟨(blk_cell BK246.out 0).trans rfl, (blk_cell BK246.out 1).trans rfl, (blk_cell BK246.out 2).trans rfl⟩ (fun hHeld => ?_)
            clear hK K
            refine norm_ (a' := ?_) ?_ ?_
            rotate_left
            ·show Act.put _ (some 39) _ = _
             simp only [Act.put, List.setIfInBounds_toArray, List.set_cons_zero, List.set_cons_succ, i64_w, i32_w]
             rfl
            refine one_ (i := 6) (N := some 40) #[true, true, true, true, true, true, true, false, false, false] rfl rfl (one_of HT_.out (by kernel_rfl)) (by decide) (fun K hK => ?_)
            refine value_ (w1 := ?_) (v := ?_) (by rfl) rfl ?_ ?_
            rotate_left 2
            ·go_simp
             constructor
             ·rfl
             ·rfl
            refine hK.out _ _ ⟨(blk_cell (blk_alloc BK246.out _) 0).trans rfl, (blk_cell (blk_alloc BK246.out _) 1).trans rfl, (blk_cell (blk_alloc BK246.out _) 2).trans rfl⟩ (fun hHeld => ?_)
            clear hK K
            refine norm_ (a' := ?_) ?_ ?_
            rotate_left
            ·show Act.put _ (some 40) _ = _
             simp only [Act.put, List.setIfInBounds_toArray, List.set_cons_zero, List.set_cons_succ, i64_w, i32_w]
             rfl
            refine one_ (i := 7) (N := some 41) #[true, true, true, true, true, true, true, true, false, false] rfl rfl (one_of HT_.out (by kernel_rfl)) (by decide) (fun K hK => ?_)
            refine Kd.R_append_step (Kd.int .i64) w.heap.size (by rfl) (.tmp 35) (.tmp 40) 22 3 (.int .i64 0) 8 rfl Tryd.underlying22 info3 rfl (by decide) (by omega) u247002 x247002_3 t254 [.int .i64 t254] (fun _ => True) (fun _ => False) rfl rfl ?aP (fun _ hk => hk.elim) ?aF ?aO (Below.refl _ _) ?aS ?aL ?_
            (case aP => exact rfl)
            (case aF => exact (fun _ _ => trivial))
            (case aO => exact (pR_ HO_247002.out))
            (case aS => exact (keep_size (w := w) (g := g) (row := none) (by repeat (first | (with_reducible first | exact HK.out | apply KeepBut.set_ | apply keep_drewN | apply keep_drew | apply keep_alloc | refine keep_far ?_ GW246.out _) | exact HK.out))))
            (case aL => have := LMc25.out; omega)
            intro v258 w31 ho hb hg hat
            rw [← Ny257.out] at ho
            have HO259 := Aside0.mk (ho)
            replace HO_3 := Aside0.mk (Kd.S_after (ok := (fun k_ => k_ ≠ gb246)) (by (with_reducible repeat (first | apply Kd.S_alloc | apply Kd.S_drewN | apply Kd.S_drew)); exact Kd.S_mono HO_3.out (fun _ hk => ⟨hk.2, hk.1⟩)) hg hat)
            replace BK246 := Aside0.mk (blk_grown (g := gb246) (o := .cells #[.int .i64 t250, .int .i64 0, u247002] 60 (0, 0)) bk_ hg (Kd.R_ne HO_247002.out BK246.out (by decide)))
            replace HI0 := Aside0.mk (IsS58.grown si_ hg (IsS58.own_ne HI0.out HO_247002.out (by decide)))
            replace HB := Aside0.mk (below_weaken bl_ HL.out hb)
            replace HK := Aside0.mk (KeepBut.trans (by repeat (first | (with_reducible first | exact HK.out | apply KeepBut.set_ | apply keep_drewN | apply keep_drew | apply keep_alloc | refine keep_far ?_ GW246.out _) | exact HK.out)) (KeepBut.of_grown hg g) (Kd.R_base2 HO_247002.out))
            clear HO_247002
            clear ho hb hg hat
            obtain ⟨Ao32, co32, eo32⟩ := Kd.R_slice HO259.out
            (first | subst eo32 | (injection eo32 with f1_ f2_ f3_; have f4_ := f1_.symm; have f5_ := f3_.symm; clear f1_ f2_ f3_; subst f4_; subst f5_))
            refine hK.out _ _ ⟨(blk_cell BK246.out 0).trans rfl, (blk_cell BK246.out 1).trans rfl, (blk_cell BK246.out 2).trans rfl⟩ (fun hHeld => ?_)
            clear hK K
            refine norm_ (a' := ?_) ?_ ?_
            rotate_left
            ·show Act.put _ (some 41) _ = _
             simp only [Act.put, List.setIfInBounds_toArray, List.set_cons_zero, List.set_cons_succ, i64_w, i32_w]
             rfl
            refine pu_ HT_ 8 42 (bm 10 511) ?_
            refine last_ (i := 9) (N := none) #[true, true, true, true, true, true, true, true, true, true] rfl rfl (one_of HT_.out (by kernel_rfl)) (by decide) (fun K hK => ?_)
            have hs33 : w31.cell? ⟨gb246, 2, none⟩ = some (u247002) := (blk_cell BK246.out 2).trans rfl
            have hfs33 := blk_frozen BK246.out 2
            refine skip_ (w1 := ?_) (by rfl) rfl ?_ ?_
            rotate_left
            ·go_simp
             rfl
            refine hK.out _ _ ?_
            clear hK K
            refine done_ (done_of HT_.out (by kernel_rfl)) ?_
            try go_wp2
            go_roundg k3
            case measure => have := HK1.out; have := HJ5.out; have := HK3.out; omega
            case rel => exact ⟨(wrap64 (x6_3 + 1)), (t255), (t256), (y257), (.slice Ao32 y257.length co32), rs_, H', ⟨by have := HK1.out; have := HJ5.out; have := HK3.out; omega⟩, ⟨by (with_reducible repeat (first | apply Kd.S_alloc | apply Kd.S_drewN | apply Kd.S_drew)); exact Kd.S_mono (Kd.S_far (p := ⟨gb246, 2, none⟩) (Kd.S_mono HO_3.out (fun k_ hk => (⟨hk, by first | exact hk.1 | exact hk.1 | exact hk.2 | exact hk.1.1 | exact hk.1.2⟩ : _ ∧ k_ ≠ gb246))) (fun _ hk => hk.2) (.slice Ao32 y257.length co32)) (fun _ hk => ⟨hk.1.2, hk.1.1⟩)⟩, ⟨by (with_reducible repeat (first | apply Kd.R_alloc | apply Kd.R_drewN | apply Kd.R_drew)); exact Kd.R_mono (Kd.R_far (p := ⟨gb246, 2, none⟩) (Kd.R_types HO259.out BK246.out (by decide)) (fun _ hk => hk.2) (.slice Ao32 y257.length co32)) (fun _ hk => trivial)⟩, ⟨by (with_reducible repeat (first | refine blk_drewN ?_ _ | refine blk_drew ?_ | refine blk_alloc ?_ _)); refine blk_put (cs := #[.int .i64 t250, .int .i64 0, u247002]) ?_ 2 _ rfl; (with_reducible repeat (first | refine blk_drewN ?_ _ | refine blk_drew ?_ | refine blk_alloc ?_ _)); exact BK246.out⟩, ⟨si_⟩, ⟨by repeat (first | (with_reducible first | exact HK.out | apply KeepBut.set_ | apply keep_drewN | apply keep_drew | apply keep_alloc | refine keep_far ?_ GW246.out _) | exact HK.out)⟩, ⟨bl_⟩⟩
           ·rw [if_neg c25] at H
            exact absurd H (by simp)
          ·rw [if_neg c23] at H
           have c23b0 : decide (x6_3 < t253) = false := decide_eq_false c23
           clear c23
           (first | rw [c23b0] | (simp only [i64_w, i32_w]; rw [c23b0]) | skip)
           have H' := Aside0.mk H
           clear H
           have hnb34 := NB246_0.out
           have hnc34 := NB0_246.out
           obtain ⟨hcz35_0, hcz35_1, hcz35_2, hfz35_0, hfz35_1, hfz35_2⟩ := cf3_ BK246.out
           go_wp2_with (first | ((with_reducible refine gate_callee (f := 42) rfl ?_); refine goesL_ (some 30) rfl rfl Tryd.func42 (by kernel_rfl) rfl #[.int .i64 t250] rfl (by (try simp only [List.map_toArray, List.map_cons, List.map_nil]); first | done | rfl | (simp only [List.length_drop, List.length_take]; rfl)) ?_; (with_reducible refine (exactpplmake_Width.calls t250 t253 _ A22.out).mono ?_); rintro e w' ⟨rfl, ⟨nd, rfl⟩⟩; refine ⟨_, rfl, ?_⟩))
           go_meet
           case rel => exact ⟨_, (x1001_3), (x1002_3), (t250), (0), (x247002_3), (u247002), H', ⟨by have := HK1.out; have := HJ5.out; have := HK3.out; first | omega | exact Nat.le_refl _⟩, ⟨pS_ HO_3.out⟩, ⟨pR_ HO_247002.out⟩, ⟨bk_⟩, ⟨si_⟩, ⟨by repeat (first | (with_reducible first | exact HK.out | apply KeepBut.set_ | apply keep_drewN | apply keep_drew | apply keep_alloc | refine keep_far ?_ GW246.out _) | exact HK.out)⟩, ⟨bl_⟩⟩
       ·replace c17 := Bool.eq_false_iff.mpr c17
        subst c17
        have H1 : (exactpplmake_Src_Nodes.j3 kj5 x3_1 x4_1 s0_0 x1001_5 x1002_5 (-1) t243 ([] : List Int)) = some (r1, r2, r3) := by rw [if_neg (show ¬ (false = true) by decide)] at H; exact H
        clear H
        have H := H1
        clear H1
        have H' := Aside0.mk H
        clear H
        go_wp2
        go_meet
        case rel => exact ⟨_, (x1001_5), (x1002_5), ((-1)), (t243), (([] : List Int)), (.slice none 0 0), H', ⟨by have := HK1.out; have := HJ5.out; first | omega | exact Nat.le_refl _⟩, ⟨by (with_reducible repeat (first | apply Kd.S_alloc | apply Kd.S_drewN | apply Kd.S_drew)); exact Kd.S_mono HO_3.out (fun _ hk => ⟨(by simp [Value.ownBlock]), hk⟩)⟩, ⟨by first | exact Kd.R_nil _ _ _ _ _ | exact Kd.N_nil _ _ _ _ _ | exact Kd.V_nil _ _ _ _ _ | exact Kd.Q_nil _ _ _ _ _ | exact Kd.S_nil _ _ _ _ _⟩, ⟨bk_⟩, ⟨si_⟩, ⟨by repeat (first | (with_reducible first | exact HK.out | apply KeepBut.set_ | apply keep_drewN | apply keep_drew | apply keep_alloc | refine keep_far ?_ GW246.out _) | exact HK.out)⟩, ⟨bl_⟩⟩
      case rest =>
       clear HC16
       try clear c1
       try clear c2
       try clear p2
       try clear c3
       try clear c4
       try clear c4b0
       try clear p6
       try clear c9
       try clear c11
       try clear c11b0
       try clear c11b1
       try clear c16
       try clear c17
       try clear c20
       try clear c23
       try clear c23b0
       try clear c25
       try clear c26
       try clear c34
       try clear hcz10_0 hcz10_1 hcz10_2 hfz10_0 hfz10_1 hfz10_2
       try clear hcz21_0 hcz21_1 hcz21_2 hfz21_0 hfz21_1 hfz21_2
       try clear hcz27_0 hcz27_1 hcz27_2 hfz27_0 hfz27_1 hfz27_2
       try clear hcz35_0 hcz35_1 hcz35_2 hfz35_0 hfz35_1 hfz35_2
       try clear p2
       obtain ⟨kq, x1001_15, x1002_15, x247000_15, x247001_15, x247002_15, u247002, HA, HJ15, HO_3, HO_247002, BK246, HI0, HK, HB⟩ := hcut
       cases kq with
       | zero => exact absurd HA.out (by simp [exactpplmake_Src_Nodes.j3])
       | succ kj15 =>
        have H := HA.out
        clear HA
        simp only [exactpplmake_Src_Nodes.j3] at H
        replace H := Option.bind_eq_some_iff.mp H
        obtain ⟨⟨t260, t261, t262⟩, A360, H⟩ := H
        replace H : (if t260 = 0 then ((exactpplmake_Src_Pick.f s0_0 t261 t262 (([(-2), (-1), 0, 63, 64] : List Int))).bind fun bt266 => (if x3_1.length < 3518437208883 then (exactpplmake_Src_Nodes.l0 kj15 (x3_1 ++ [(⟨bt266.1, x247001_15, x247002_15⟩ : S60)]) (wrap64 (x4_1 - 1)) s0_0 bt266.2.1 bt266.2.2) else (none))) else (if t260 = 1 then ((exactpplmake_Src_Pick.f s0_0 t261 t262 (([1073741824, 1073741825, (-1073741824), (-1073741825)] : List Int))).bind fun bt275 => (if x3_1.length < 3518437208883 then (exactpplmake_Src_Nodes.l0 kj15 (x3_1 ++ [(⟨x247000_15, bt275.1, x247002_15⟩ : S60)]) (wrap64 (x4_1 - 1)) s0_0 bt275.2.1 bt275.2.2) else (none))) else (if t260 = 2 then ((exactpplmake_Src_Range.f s0_0 t261 t262 (-1) (x3_1.length : Int)).bind fun bt281 => (if x247002_15.length < 17592186044416 then (if x3_1.length < 3518437208883 then (exactpplmake_Src_Nodes.l0 kj15 (x3_1 ++ [(⟨x247000_15, x247001_15, (x247002_15 ++ [bt281.1])⟩ : S60)]) (wrap64 (x4_1 - 1)) s0_0 bt281.2.1 bt281.2.2) else (none)) else (none))) else (if x3_1.length < 3518437208883 then (exactpplmake_Src_Nodes.l0 kj15 (x3_1 ++ [(⟨x247000_15, x247001_15, x247002_15⟩ : S60)]) (wrap64 (x4_1 - 1)) s0_0 t261 t262) else (none))))) = some (r1, r2, r3) := H
        have A36 := Aside0.mk A360
        clear A360
        by_cases c37 : t260 = 0
        ·rw [if_pos c37] at H
         have c37b0 : (t260 == 0) = true := beq_iff_eq.mpr c37
         have c37b1 : (t260 != 0) = false := bne_eq_false_iff_eq.mpr c37
         clear c37
         obtain ⟨y263, hy263⟩ : ∃ y_ : List Int, y_ = (([(-2), (-1), 0, 63, 64] : List Int)) := ⟨_, rfl⟩
         replace H : ((exactpplmake_Src_Pick.f s0_0 t261 t262 y263).bind fun bt266 => (if x3_1.length < 3518437208883 then (exactpplmake_Src_Nodes.l0 kj15 (x3_1 ++ [(⟨bt266.1, x247001_15, x247002_15⟩ : S60)]) (wrap64 (x4_1 - 1)) s0_0 bt266.2.1 bt266.2.2) else (none))) = some (r1, r2, r3) := by first | (rw [hy263]; with_reducible exact H) | (have H2_ := (Option.bind_some _ _).symm.trans H; rw [hy263]; with_reducible exact H2_) | (have H2_ := (Option.bind_some _ _).symm.trans H; with_reducible exact H2_) | with_reducible exact H | (rw [hy263]; exact H) | exact H
         have Ny263 := Aside0.mk hy263
         clear hy263
         replace H := Option.bind_eq_some_iff.mp H
         obtain ⟨⟨t266, t267, t268⟩, A380, H⟩ := H
         replace H : (if x3_1.length < 3518437208883 then (exactpplmake_Src_Nodes.l0 kj15 (x3_1 ++ [(⟨t266, x247001_15, x247002_15⟩ : S60)]) (wrap64 (x4_1 - 1)) s0_0 t267 t268) else (none)) = some (r1, r2, r3) := H
         have A38 := Aside0.mk A380
         clear A380
         by_cases c39 : x3_1.length < 3518437208883
         ·rw [if_pos c39] at H
          have LMc39 := Aside0.mk c39
          clear c39
          obtain ⟨y269, hy269⟩ : ∃ y_ : List (S60), y_ = (x3_1 ++ [(⟨t266, x247001_15, x247002_15⟩ : S60)]) := ⟨_, rfl⟩
          replace H : (exactpplmake_Src_Nodes.l0 kj15 y269 (wrap64 (x4_1 - 1)) s0_0 t267 t268) = some (r1, r2, r3) := by first | (rw [hy269]; with_reducible exact H) | (have H2_ := (Option.bind_some _ _).symm.trans H; rw [hy269]; with_reducible exact H2_) | (have H2_ := (Option.bind_some _ _).symm.trans H; with_reducible exact H2_) | with_reducible exact H | (rw [hy269]; exact H) | exact H
          have Ny269 := Aside0.mk hy269
          clear hy269
          have H' := Aside0.mk H
          clear H
          go_wp2_with (first | ((with_reducible refine gate_callee (f := 23) rfl ?_); refine goesL_ (some 44) rfl rfl Tryd.func23 (by kernel_rfl) rfl #[.pointer (some ⟨g, 0, none⟩), .int .i64 24] rfl (by (try simp only [List.map_toArray, List.map_cons, List.map_nil]); first | done | rfl | (simp only [List.length_drop, List.length_take]; rfl)) ?_; (with_reducible refine (exactpplmake_Src_N.calls g s0_0 x1001_15 x1002_15 24 t260 t261 t262 w0 _ ?side1 ?side2 A36.out).mono ?_); (case side1 => repeat (first | (with_reducible first | exact HI0.out | apply IsS58.alloc | apply IsS58.drewN | apply IsS58.drew | apply IsS58.set_1 | apply IsS58.set_2 | refine IsS58.far ?_ NB0_246.out _) | exact HI0.out)); (case side2 => repeat (first | (with_reducible first | exact HB.out | apply below_alloc | apply pw_below_drewN | apply below_drew1 | refine below_set ?_ (IsS58.ge HI0.out) | refine below_set ?_ GE246.out) | exact HB.out)); rintro e w40 ⟨rfl, hi, hb, hk⟩; refine ⟨_, rfl, ?_⟩; replace HO_3 := Aside0.mk (Kd.S_mono (Kd.S_keep (IsS58.apartS (show IsS58 w0 _ g s0_0 x1001_15 x1002_15 from si_) (pS_ HO_3.out) (by decide)) hk (fun _ h => h.2)) (fun _ h => h.1)); replace HO_247002 := Aside0.mk (Kd.R_mono (Kd.R_keep (IsS58.apart (show IsS58 w0 _ g s0_0 x1001_15 x1002_15 from si_) (pR_ HO_247002.out) (by decide)) hk (fun _ h => h.2)) (fun _ h => h.1)); replace BK246 := Aside0.mk (KeepBut.blk hk (g' := gb246) (o := .cells #[.int .i64 x247000_15, .int .i64 x247001_15, u247002] 60 (0, 0)) bk_ NB246_0.out (by simp)); replace HK := Aside0.mk (KeepBut.trans (by repeat (first | (with_reducible first | exact HK.out | apply KeepBut.set_ | apply keep_drewN | apply keep_drew | apply keep_alloc | refine keep_far ?_ GW246.out _) | exact HK.out)) hk (.inl rfl)); replace HB := Aside0.mk (hb); replace HI0 := Aside0.mk (hi); (try clear hb); (try clear hb2); (try clear hk); (try clear hi)) | ((with_reducible refine gate_dst (N := 48) rfl ?_); refine Kd.R_lit (Kd.int .i64) _ 3 ?hg (N := 48) ?hd (xs := ([(-2), (-1), 0, 63, 64] : List Int)) (inner := [.int .i64 (-2), .int .i64 (-1), .int .i64 0, .int .i64 63, .int .i64 64]) (ok := fun _ => True) (okp := fun _ => True) ?hr ?hp (fun _ hk => hk) trivial (Below.refl _ _) (Nat.le_refl _) (by simp) ?_; (case hd => rfl); (case hg => rfl); (case hr => first | (go_simp; done) | (go_simp; rfl)); (case hp => exact (Reps.one (show Kd.M (Kd.int .i64) _ _ _ (-2) [.int .i64 (-2)] from rfl) (Reps.one (show Kd.M (Kd.int .i64) _ _ _ (-1) [.int .i64 (-1)] from rfl) (Reps.one (show Kd.M (Kd.int .i64) _ _ _ 0 [.int .i64 0] from rfl) (Reps.one (show Kd.M (Kd.int .i64) _ _ _ 63 [.int .i64 63] from rfl) (Reps.one (show Kd.M (Kd.int .i64) _ _ _ 64 [.int .i64 64] from rfl) (Reps.none _ _))))))); intro v264 w41 ho42 hb hg_ hnew_; clear hg_ hnew_; (first | rw [← Ny263.out] at ho42 | (simp only [Int.reduceToNat] at ho42; rw [← Ny263.out] at ho42)); have HO265 := Aside0.mk (Kd.R_lower (Kd.R_new' ho42 (Kd.R_lt (pR_ HO_247002.out))) (keep_size (w := w) (g := g) (row := none) (by repeat (first | (with_reducible first | exact HK.out | apply KeepBut.set_ | apply keep_drewN | apply keep_drew | apply keep_alloc | refine keep_far ?_ GW246.out _) | exact HK.out)))); replace HO_3 := Aside0.mk (Kd.S_elder' (pS_ HO_3.out) (Kd.R_base ho42) hb); replace HO_247002 := Aside0.mk (Kd.R_elder' (pR_ HO_247002.out) (Kd.R_base ho42) hb); replace BK246 := Aside0.mk (blk_below (g := gb246) (o := .cells #[.int .i64 x247000_15, .int .i64 x247001_15, u247002] 60 (0, 0)) bk_ hb); replace HI0 := Aside0.mk (IsS58.below si_ hb); replace HK := Aside0.mk (KeepBut.trans (by repeat (first | (with_reducible first | exact HK.out | apply KeepBut.set_ | apply keep_drewN | apply keep_drew | apply keep_alloc | refine keep_far ?_ GW246.out _) | exact HK.out)) (KeepBut.of_below hb g none) (.inl rfl)); replace HB := Aside0.mk (below_step bl_ hb); clear hb ho42; obtain ⟨Ao43, co43, eo43⟩ := Kd.R_slice HO265.out; subst eo43) | ((with_reducible refine gate_callee (f := 32) rfl ?_); refine goesL_ (some 49) rfl rfl Tryd.func32 (by kernel_rfl) rfl #[.pointer (some ⟨g, 0, none⟩), .slice Ao43 y263.length co43] rfl (by (try simp only [List.map_toArray, List.map_cons, List.map_nil]); first | done | rfl | (simp only [List.length_drop, List.length_take]; rfl)) ?_; (with_reducible refine (exactpplmake_Src_Pick.calls g s0_0 t261 t262 _ _ y263 t266 t267 t268 w0 _ ?side1 ?side2 ?side3 ?side4 ?side5 A38.out).mono ?_); (case side1 => repeat (first | (with_reducible first | exact HI0.out | apply IsS58.alloc | apply IsS58.drewN | apply IsS58.drew | apply IsS58.set_1 | apply IsS58.set_2 | refine IsS58.far ?_ NB0_246.out _) | exact HI0.out)); (case side2 => repeat (first | (with_reducible first | exact HB.out | apply below_alloc | apply pw_below_drewN | apply below_drew1 | refine below_set ?_ (IsS58.ge HI0.out) | refine below_set ?_ GE246.out) | exact HB.out)); (case side3 => repeat (first | exact (Kd.R_reads' HO265.out).2.2 | (with_reducible refine Kd.C_alloc ?_ _) | (with_reducible refine Kd.C_drewN ?_ _) | (with_reducible refine Kd.C_drew ?_))); (case side4 => exact (Kd.R_reads' HO265.out).2.1); (case side5 => exact far_slice (IsS58.own_ne HI0.out HO265.out (by decide))); rintro e w44 ⟨rfl, hi, hb, hk⟩; refine ⟨_, rfl, ?_⟩; replace HO_3 := Aside0.mk (Kd.S_mono (Kd.S_keep (IsS58.apartS (show IsS58 w0 _ g s0_0 t261 t262 from si_) (pS_ HO_3.out) (by decide)) hk (fun _ h => h.2)) (fun _ h => h.1)); replace HO_247002 := Aside0.mk (Kd.R_mono (Kd.R_keep (IsS58.apart (show IsS58 w0 _ g s0_0 t261 t262 from si_) (pR_ HO_247002.out) (by decide)) hk (fun _ h => h.2)) (fun _ h => h.1)); replace BK246 := Aside0.mk (KeepBut.blk hk (g' := gb246) (o := .cells #[.int .i64 x247000_15, .int .i64 x247001_15, u247002] 60 (0, 0)) bk_ NB246_0.out (by simp)); replace HO265 := Aside0.mk (Kd.R_mono (Kd.R_keep (IsS58.apart (show IsS58 w0 _ g s0_0 t261 t262 from si_) (pR_ HO265.out) (by decide)) hk (fun _ h => h.2)) (fun _ h => h.1)); replace HK := Aside0.mk (KeepBut.trans (by repeat (first | (with_reducible first | exact HK.out | apply KeepBut.set_ | apply keep_drewN | apply keep_drew | apply keep_alloc | refine keep_far ?_ GW246.out _) | exact HK.out)) hk (.inl rfl)); replace HB := Aside0.mk (hb); replace HI0 := Aside0.mk (hi); (try clear hb); (try clear hb2); (try clear hk); (try clear hi); have hnb45 := NB246_0.out; have hnc45 := NB0_246.out; obtain ⟨hcz46_0, hcz46_1, hcz46_2, hfz46_0, hfz46_1, hfz46_2⟩ := cf3_ BK246.out) | ((with_reducible refine gate_store (t := 3) (p := 50) rfl ?_); refine store_event (t := 3) (p := 50) (v := ?vo_w47) (w1 := (w44.setCell ⟨gb246, 0, none⟩ (.int .i64 t266))) ?hg ?ho ?hn ?hr ?_; (case ho => rfl); (case hg => rfl); (case hn => rfl); (case hr => first | (go_simp; done) | (go_simp; rfl)); intro w47 hw; replace HO_3 : Aside0 (Kd.S k60 60 w47 w.heap.size (fun k_ => some k_ ≠ (u247002 : Value).ownBlock ∧ some k_ ≠ (.slice Ao43 y263.length co43 : Value).ownBlock ∧ k_ ≠ gb246) u3 x3_1) := ⟨(by rw [hw]; exact (by (with_reducible repeat (first | apply Kd.S_alloc | apply Kd.S_drewN | apply Kd.S_drew)); exact Kd.S_mono (Kd.S_far (p := ⟨gb246, 0, none⟩) (Kd.S_mono HO_3.out (fun k_ hk => (⟨hk, by first | exact hk.1.2 | exact hk.1 | exact hk.2 | exact hk.1.1 | exact hk.1.2⟩ : _ ∧ k_ ≠ gb246))) (fun _ hk => hk.2) (.int .i64 t266)) (fun _ hk => ⟨hk.1.1.1, ⟨hk.1.2, hk.1.1.2⟩⟩)))⟩; replace HO_247002 : Aside0 (Kd.R (Kd.int .i64) 3 w47 w.heap.size (fun k_ => some k_ ≠ (.slice Ao43 y263.length co43 : Value).ownBlock) u247002 x247002_15) := ⟨(by rw [hw]; exact (by (with_reducible repeat (first | apply Kd.R_alloc | apply Kd.R_drewN | apply Kd.R_drew)); exact Kd.R_mono (Kd.R_far (p := ⟨gb246, 0, none⟩) (Kd.R_types HO_247002.out BK246.out (by decide)) (fun _ hk => hk.2) (.int .i64 t266)) (fun _ hk => hk.1.2)))⟩; replace HO265 : Aside0 (Kd.R (Kd.int .i64) 3 w47 w.heap.size (fun k_ => some k_ ≠ (u247002 : Value).ownBlock) (.slice Ao43 y263.length co43) y263) := ⟨(by rw [hw]; exact (by (with_reducible repeat (first | apply Kd.R_alloc | apply Kd.R_drewN | apply Kd.R_drew)); exact Kd.R_mono (Kd.R_far (p := ⟨gb246, 0, none⟩) (Kd.R_types HO265.out BK246.out (by decide)) (fun _ hk => hk.2) (.int .i64 t266)) (fun _ hk => hk.1.2)))⟩; replace BK246 : Aside0 (w47.heap[gb246]? = some (.cells #[.int .i64 t266, .int .i64 x247001_15, u247002] 60 (0, 0))) := ⟨(by rw [hw]; exact (by (with_reducible repeat (first | refine blk_drewN ?_ _ | refine blk_drew ?_ | refine blk_alloc ?_ _)); refine blk_put (cs := #[.int .i64 x247000_15, .int .i64 x247001_15, u247002]) ?_ 0 _ rfl; (with_reducible repeat (first | refine blk_drewN ?_ _ | refine blk_drew ?_ | refine blk_alloc ?_ _)); exact BK246.out))⟩; replace HI0 : Aside0 (IsS58 w0 w47 g s0_0 t267 t268) := ⟨(by rw [hw]; exact si_)⟩; replace HK : Aside0 (KeepBut w w47 g none) := ⟨(by rw [hw]; exact (by repeat (first | (with_reducible first | exact HK.out | apply KeepBut.set_ | apply keep_drewN | apply keep_drew | apply keep_alloc | refine keep_far ?_ GW246.out _) | exact HK.out)))⟩; replace HB : Aside0 (Below w0.heap.size w0 w47) := ⟨(by rw [hw]; exact bl_)⟩; clear hw; obtain ⟨hcz48_0, hcz48_1, hcz48_2, hfz48_0, hfz48_1, hfz48_2⟩ := cf3_ BK246.out; obtain ⟨Ao50, co50, eo50⟩ := Kd.R_slice HO_247002.out; subst eo50) | ((with_reducible refine gate_builtin (b := .append) (xs := #[.tmp 68, .tmp 70]) rfl ?_); at_builtin; refine Kd.S_append k60 w.heap.size rfl (.tmp 68) (.tmp 70) 24 60 (.agg #[(.int .i64 0), (.int .i64 0), (.slice none 0 0)]) 40 rfl Tryd.underlying24 info60 rfl (by decide) (by omega) u3 x3_1 (⟨t266, x247001_15, x247002_15⟩ : S60) [.int .i64 t266, .int .i64 x247001_15, .slice Ao50 x247002_15.length co50] (fun k_ => some k_ ≠ (.slice Ao43 y263.length co43 : Value).ownBlock ∧ k_ ≠ gb246) (fun k_ => some k_ = (.slice Ao50 x247002_15.length co50 : Value).ownBlock) rfl rfl ?aP (fun k_ hk_ => ((Kd.R_mono (ok' := fun k_ => ((fun k_ => some k_ ≠ (.slice Ao43 y263.length co43 : Value).ownBlock ∧ k_ ≠ gb246)) k_ ∧ some k_ ≠ (u3 : Value).ownBlock) (Kd.R_types (Kd.R_apart' (HO_247002.out) (Kd.S_typed HO_3.out) (by decide)) BK246.out (by decide)) (fun k_ hk => ⟨⟨hk.1.1, hk.2⟩, hk.1.2⟩))).1 k_ hk_.symm) ?aF ?aO (Below.refl _ _) ?aS ?aL ?_; (case aP => exact k60_mkM _ _ _ (⟨t266, x247001_15, x247002_15⟩ : S60) (Kd.R_mono (Kd.R_tight rfl (Kd.R_mono (ok' := fun k_ => ((fun k_ => some k_ ≠ (.slice Ao43 y263.length co43 : Value).ownBlock ∧ k_ ≠ gb246)) k_ ∧ some k_ ≠ (u3 : Value).ownBlock) (Kd.R_types (Kd.R_apart' (HO_247002.out) (Kd.S_typed HO_3.out) (by decide)) BK246.out (by decide)) (fun k_ hk => ⟨⟨hk.1.1, hk.2⟩, hk.1.2⟩))) (fun _ h_ => h_))); (case aF => exact (fun k_ hk => ⟨Kd.fresh' (Kd.R_lt (pR_ HO265.out)) k_ hk, Kd.freshB (g := gb246) (o := .cells #[.int .i64 t266, .int .i64 x247001_15, .slice Ao50 x247002_15.length co50] 60 (0, 0)) bk_ k_ hk⟩)); (case aO => exact (by (with_reducible repeat (first | apply Kd.S_alloc | apply Kd.S_drewN | apply Kd.S_drew)); exact Kd.S_mono HO_3.out (fun k_ hk => ⟨⟨hk.2.1, hk.2.2⟩, fun e_ => hk.1 e_⟩))); (case aS => exact (keep_size (w := w) (g := g) (row := none) (by repeat (first | (with_reducible first | exact HK.out | apply KeepBut.set_ | apply keep_drewN | apply keep_drew | apply keep_alloc | refine keep_far ?_ GW246.out _) | exact HK.out)))); (case aL => have := LMc39.out; omega); intro v270 w49 ho hb hg hat; rw [← Ny269.out] at ho; have HO271 := Aside0.mk (ho); replace BK246 := Aside0.mk (blk_grown (g := gb246) (o := .cells #[.int .i64 t266, .int .i64 x247001_15, .slice Ao50 x247002_15.length co50] 60 (0, 0)) bk_ hg (Kd.S_away HO_3.out (fun _ hk => hk.2.2))); replace HI0 := Aside0.mk (IsS58.grown si_ hg (IsS58.own_neS HI0.out HO_3.out (by decide))); replace HO265 := Aside0.mk (Kd.R_over' (pR_ HO265.out) (Kd.S_typed (pS_ HO_3.out)) (by decide) hg); replace HB := Aside0.mk (below_weaken bl_ HL.out hb); replace HK := Aside0.mk (KeepBut.trans (by repeat (first | (with_reducible first | exact HK.out | apply KeepBut.set_ | apply keep_drewN | apply keep_drew | apply keep_alloc | refine keep_far ?_ GW246.out _) | exact HK.out)) (KeepBut.of_grown hg g) (Kd.S_base2 HO_3.out)); clear HO_3 HO_247002; clear ho hb hg hat))
          go_roundg kj15
          case measure => have := HK1.out; have := HJ5.out; have := HJ15.out; omega
          case rel => exact ⟨(y269), (wrap64 (x4_1 - 1)), (t267), (t268), rs_, H', ⟨by have := HK1.out; have := HJ5.out; have := HJ15.out; omega⟩, ⟨by (with_reducible repeat (first | apply Kd.S_alloc | apply Kd.S_drewN | apply Kd.S_drew)); exact Kd.S_mono HO271.out (fun _ hk => trivial)⟩, ⟨si_⟩, ⟨by repeat (first | (with_reducible first | exact HK.out | apply KeepBut.set_ | apply keep_drewN | apply keep_drew | apply keep_alloc | refine keep_far ?_ GW246.out _) | exact HK.out)⟩, ⟨bl_⟩⟩
         ·rw [if_neg c39] at H
          exact absurd H (by simp)
        ·rw [if_neg c37] at H
         have c37b0 : (t260 == 0) = false := beq_eq_false_iff_ne.mpr c37
         have c37b1 : (t260 != 0) = true := bne_iff_ne.mpr c37
         by_cases c51 : t260 = 1
         ·rw [if_pos c51] at H
          have c51b0 : (t260 == 1) = true := beq_iff_eq.mpr c51
          have c51b1 : (t260 != 1) = false := bne_eq_false_iff_eq.mpr c51
          clear c51
          obtain ⟨y272, hy272⟩ : ∃ y_ : List Int, y_ = (([1073741824, 1073741825, (-1073741824), (-1073741825)] : List Int)) := ⟨_, rfl⟩
          replace H : ((exactpplmake_Src_Pick.f s0_0 t261 t262 y272).bind fun bt275 => (if x3_1.length < 3518437208883 then (exactpplmake_Src_Nodes.l0 kj15 (x3_1 ++ [(⟨x247000_15, bt275.1, x247002_15⟩ : S60)]) (wrap64 (x4_1 - 1)) s0_0 bt275.2.1 bt275.2.2) else (none))) = some (r1, r2, r3) := by first | (rw [hy272]; with_reducible exact H) | (have H2_ := (Option.bind_some _ _).symm.trans H; rw [hy272]; with_reducible exact H2_) | (have H2_ := (Option.bind_some _ _).symm.trans H; with_reducible exact H2_) | with_reducible exact H | (rw [hy272]; exact H) | exact H
          have Ny272 := Aside0.mk hy272
          clear hy272
          replace H := Option.bind_eq_some_iff.mp H
          obtain ⟨⟨t275, t276, t277⟩, A520, H⟩ := H
          replace H : (if x3_1.length < 3518437208883 then (exactpplmake_Src_Nodes.l0 kj15 (x3_1 ++ [(⟨x247000_15, t275, x247002_15⟩ : S60)]) (wrap64 (x4_1 - 1)) s0_0 t276 t277) else (none)) = some (r1, r2, r3) := H
          have A52 := Aside0.mk A520
          clear A520
          by_cases c53 : x3_1.length < 3518437208883
          ·rw [if_pos c53] at H
           have LMc53 := Aside0.mk c53
           clear c53
           obtain ⟨y278, hy278⟩ : ∃ y_ : List (S60), y_ = (x3_1 ++ [(⟨x247000_15, t275, x247002_15⟩ : S60)]) := ⟨_, rfl⟩
           replace H : (exactpplmake_Src_Nodes.l0 kj15 y278 (wrap64 (x4_1 - 1)) s0_0 t276 t277) = some (r1, r2, r3) := by first | (rw [hy278]; with_reducible exact H) | (have H2_ := (Option.bind_some _ _).symm.trans H; rw [hy278]; with_reducible exact H2_) | (have H2_ := (Option.bind_some _ _).symm.trans H; with_reducible exact H2_) | with_reducible exact H | (rw [hy278]; exact H) | exact H
           have Ny278 := Aside0.mk hy278
           clear hy278
           have H' := Aside0.mk H
           clear H
           go_wp2_with (first | ((with_reducible refine gate_callee (f := 23) rfl ?_); refine goesL_ (some 44) rfl rfl Tryd.func23 (by kernel_rfl) rfl #[.pointer (some ⟨g, 0, none⟩), .int .i64 24] rfl (by (try simp only [List.map_toArray, List.map_cons, List.map_nil]); first | done | rfl | (simp only [List.length_drop, List.length_take]; rfl)) ?_; (with_reducible refine (exactpplmake_Src_N.calls g s0_0 x1001_15 x1002_15 24 t260 t261 t262 w0 _ ?side1 ?side2 A36.out).mono ?_); (case side1 => repeat (first | (with_reducible first | exact HI0.out | apply IsS58.alloc | apply IsS58.drewN | apply IsS58.drew | apply IsS58.set_1 | apply IsS58.set_2 | refine IsS58.far ?_ NB0_246.out _) | exact HI0.out)); (case side2 => repeat (first | (with_reducible first | exact HB.out | apply below_alloc | apply pw_below_drewN | apply below_drew1 | refine below_set ?_ (IsS58.ge HI0.out) | refine below_set ?_ GE246.out) | exact HB.out)); rintro e w54 ⟨rfl, hi, hb, hk⟩; refine ⟨_, rfl, ?_⟩; replace HO_3 := Aside0.mk (Kd.S_mono (Kd.S_keep (IsS58.apartS (show IsS58 w0 _ g s0_0 x1001_15 x1002_15 from si_) (pS_ HO_3.out) (by decide)) hk (fun _ h => h.2)) (fun _ h => h.1)); replace HO_247002 := Aside0.mk (Kd.R_mono (Kd.R_keep (IsS58.apart (show IsS58 w0 _ g s0_0 x1001_15 x1002_15 from si_) (pR_ HO_247002.out) (by decide)) hk (fun _ h => h.2)) (fun _ h => h.1)); replace BK246 := Aside0.mk (KeepBut.blk hk (g' := gb246) (o := .cells #[.int .i64 x247000_15, .int .i64 x247001_15, u247002] 60 (0, 0)) bk_ NB246_0.out (by simp)); replace HK := Aside0.mk (KeepBut.trans (by repeat (first | (with_reducible first | exact HK.out | apply KeepBut.set_ | apply keep_drewN | apply keep_drew | apply keep_alloc | refine keep_far ?_ GW246.out _) | exact HK.out)) hk (.inl rfl)); replace HB := Aside0.mk (hb); replace HI0 := Aside0.mk (hi); (try clear hb); (try clear hb2); (try clear hk); (try clear hi)) | ((with_reducible refine gate_dst (N := 54) rfl ?_); refine Kd.R_lit (Kd.int .i64) _ 3 ?hg (N := 54) ?hd (xs := ([1073741824, 1073741825, (-1073741824), (-1073741825)] : List Int)) (inner := [.int .i64 1073741824, .int .i64 1073741825, .int .i64 (-1073741824), .int .i64 (-1073741825)]) (ok := fun _ => True) (okp := fun _ => True) ?hr ?hp (fun _ hk => hk) trivial (Below.refl _ _) (Nat.le_refl _) (by simp) ?_; (case hd => rfl); (case hg => rfl); (case hr => first | (go_simp; done) | (go_simp; rfl)); (case hp => exact (Reps.one (show Kd.M (Kd.int .i64) _ _ _ 1073741824 [.int .i64 1073741824] from rfl) (Reps.one (show Kd.M (Kd.int .i64) _ _ _ 1073741825 [.int .i64 1073741825] from rfl) (Reps.one (show Kd.M (Kd.int .i64) _ _ _ (-1073741824) [.int .i64 (-1073741824)] from rfl) (Reps.one (show Kd.M (Kd.int .i64) _ _ _ (-1073741825) [.int .i64 (-1073741825)] from rfl) (Reps.none _ _)))))); intro v273 w55 ho56 hb hg_ hnew_; clear hg_ hnew_; (first | rw [← Ny272.out] at ho56 | (simp only [Int.reduceToNat] at ho56; rw [← Ny272.out] at ho56)); have HO274 := Aside0.mk (Kd.R_lower (Kd.R_new' ho56 (Kd.R_lt (pR_ HO_247002.out))) (keep_size (w := w) (g := g) (row := none) (by repeat (first | (with_reducible first | exact HK.out | apply KeepBut.set_ | apply keep_drewN | apply keep_drew | apply keep_alloc | refine keep_far ?_ GW246.out _) | exact HK.out)))); replace HO_3 := Aside0.mk (Kd.S_elder' (pS_ HO_3.out) (Kd.R_base ho56) hb); replace HO_247002 := Aside0.mk (Kd.R_elder' (pR_ HO_247002.out) (Kd.R_base ho56) hb); replace BK246 := Aside0.mk (blk_below (g := gb246) (o := .cells #[.int .i64 x247000_15, .int .i64 x247001_15, u247002] 60 (0, 0)) bk_ hb); replace HI0 := Aside0.mk (IsS58.below si_ hb); replace HK := Aside0.mk (KeepBut.trans (by repeat (first | (with_reducible first | exact HK.out | apply KeepBut.set_ | apply keep_drewN | apply keep_drew | apply keep_alloc | refine keep_far ?_ GW246.out _) | exact HK.out)) (KeepBut.of_below hb g none) (.inl rfl)); replace HB := Aside0.mk (below_step bl_ hb); clear hb ho56; obtain ⟨Ao57, co57, eo57⟩ := Kd.R_slice HO274.out; subst eo57) | ((with_reducible refine gate_callee (f := 32) rfl ?_); refine goesL_ (some 55) rfl rfl Tryd.func32 (by kernel_rfl) rfl #[.pointer (some ⟨g, 0, none⟩), .slice Ao57 y272.length co57] rfl (by (try simp only [List.map_toArray, List.map_cons, List.map_nil]); first | done | rfl | (simp only [List.length_drop, List.length_take]; rfl)) ?_; (with_reducible refine (exactpplmake_Src_Pick.calls g s0_0 t261 t262 _ _ y272 t275 t276 t277 w0 _ ?side1 ?side2 ?side3 ?side4 ?side5 A52.out).mono ?_); (case side1 => repeat (first | (with_reducible first | exact HI0.out | apply IsS58.alloc | apply IsS58.drewN | apply IsS58.drew | apply IsS58.set_1 | apply IsS58.set_2 | refine IsS58.far ?_ NB0_246.out _) | exact HI0.out)); (case side2 => repeat (first | (with_reducible first | exact HB.out | apply below_alloc | apply pw_below_drewN | apply below_drew1 | refine below_set ?_ (IsS58.ge HI0.out) | refine below_set ?_ GE246.out) | exact HB.out)); (case side3 => repeat (first | exact (Kd.R_reads' HO274.out).2.2 | (with_reducible refine Kd.C_alloc ?_ _) | (with_reducible refine Kd.C_drewN ?_ _) | (with_reducible refine Kd.C_drew ?_))); (case side4 => exact (Kd.R_reads' HO274.out).2.1); (case side5 => exact far_slice (IsS58.own_ne HI0.out HO274.out (by decide))); rintro e w58 ⟨rfl, hi, hb, hk⟩; refine ⟨_, rfl, ?_⟩; replace HO_3 := Aside0.mk (Kd.S_mono (Kd.S_keep (IsS58.apartS (show IsS58 w0 _ g s0_0 t261 t262 from si_) (pS_ HO_3.out) (by decide)) hk (fun _ h => h.2)) (fun _ h => h.1)); replace HO_247002 := Aside0.mk (Kd.R_mono (Kd.R_keep (IsS58.apart (show IsS58 w0 _ g s0_0 t261 t262 from si_) (pR_ HO_247002.out) (by decide)) hk (fun _ h => h.2)) (fun _ h => h.1)); replace BK246 := Aside0.mk (KeepBut.blk hk (g' := gb246) (o := .cells #[.int .i64 x247000_15, .int .i64 x247001_15, u247002] 60 (0, 0)) bk_ NB246_0.out (by simp)); replace HO274 := Aside0.mk (Kd.R_mono (Kd.R_keep (IsS58.apart (show IsS58 w0 _ g s0_0 t261 t262 from si_) (pR_ HO274.out) (by decide)) hk (fun _ h => h.2)) (fun _ h => h.1)); replace HK := Aside0.mk (KeepBut.trans (by repeat (first | (with_reducible first | exact HK.out | apply KeepBut.set_ | apply keep_drewN | apply keep_drew | apply keep_alloc | refine keep_far ?_ GW246.out _) | exact HK.out)) hk (.inl rfl)); replace HB := Aside0.mk (hb); replace HI0 := Aside0.mk (hi); (try clear hb); (try clear hb2); (try clear hk); (try clear hi); have hnb59 := NB246_0.out; have hnc59 := NB0_246.out; obtain ⟨hcz60_0, hcz60_1, hcz60_2, hfz60_0, hfz60_1, hfz60_2⟩ := cf3_ BK246.out) | ((with_reducible refine gate_store (t := 3) (p := 56) rfl ?_); refine store_event (t := 3) (p := 56) (v := ?vo_w61) (w1 := (w58.setCell ⟨gb246, 1, none⟩ (.int .i64 t275))) ?hg ?ho ?hn ?hr ?_; (case ho => rfl); (case hg => rfl); (case hn => rfl); (case hr => first | (go_simp; done) | (go_simp; rfl)); intro w61 hw; replace HO_3 : Aside0 (Kd.S k60 60 w61 w.heap.size (fun k_ => some k_ ≠ (u247002 : Value).ownBlock ∧ some k_ ≠ (.slice Ao57 y272.length co57 : Value).ownBlock ∧ k_ ≠ gb246) u3 x3_1) := ⟨(by rw [hw]; exact (by (with_reducible repeat (first | apply Kd.S_alloc | apply Kd.S_drewN | apply Kd.S_drew)); exact Kd.S_mono (Kd.S_far (p := ⟨gb246, 1, none⟩) (Kd.S_mono HO_3.out (fun k_ hk => (⟨hk, by first | exact hk.1.2 | exact hk.1 | exact hk.2 | exact hk.1.1 | exact hk.1.2⟩ : _ ∧ k_ ≠ gb246))) (fun _ hk => hk.2) (.int .i64 t275)) (fun _ hk => ⟨hk.1.1.1, ⟨hk.1.2, hk.1.1.2⟩⟩)))⟩; replace HO_247002 : Aside0 (Kd.R (Kd.int .i64) 3 w61 w.heap.size (fun k_ => some k_ ≠ (.slice Ao57 y272.length co57 : Value).ownBlock) u247002 x247002_15) := ⟨(by rw [hw]; exact (by (with_reducible repeat (first | apply Kd.R_alloc | apply Kd.R_drewN | apply Kd.R_drew)); exact Kd.R_mono (Kd.R_far (p := ⟨gb246, 1, none⟩) (Kd.R_types HO_247002.out BK246.out (by decide)) (fun _ hk => hk.2) (.int .i64 t275)) (fun _ hk => hk.1.2)))⟩; replace HO274 : Aside0 (Kd.R (Kd.int .i64) 3 w61 w.heap.size (fun k_ => some k_ ≠ (u247002 : Value).ownBlock) (.slice Ao57 y272.length co57) y272) := ⟨(by rw [hw]; exact (by (with_reducible repeat (first | apply Kd.R_alloc | apply Kd.R_drewN | apply Kd.R_drew)); exact Kd.R_mono (Kd.R_far (p := ⟨gb246, 1, none⟩) (Kd.R_types HO274.out BK246.out (by decide)) (fun _ hk => hk.2) (.int .i64 t275)) (fun _ hk => hk.1.2)))⟩; replace BK246 : Aside0 (w61.heap[gb246]? = some (.cells #[.int .i64 x247000_15, .int .i64 t275, u247002] 60 (0, 0))) := ⟨(by rw [hw]; exact (by (with_reducible repeat (first | refine blk_drewN ?_ _ | refine blk_drew ?_ | refine blk_alloc ?_ _)); refine blk_put (cs := #[.int .i64 x247000_15, .int .i64 x247001_15, u247002]) ?_ 1 _ rfl; (with_reducible repeat (first | refine blk_drewN ?_ _ | refine blk_drew ?_ | refine blk_alloc ?_ _)); exact BK246.out))⟩; replace HI0 : Aside0 (IsS58 w0 w61 g s0_0 t276 t277) := ⟨(by rw [hw]; exact si_)⟩; replace HK : Aside0 (KeepBut w w61 g none) := ⟨(by rw [hw]; exact (by repeat (first | (with_reducible first | exact HK.out | apply KeepBut.set_ | apply keep_drewN | apply keep_drew | apply keep_alloc | refine keep_far ?_ GW246.out _) | exact HK.out)))⟩; replace HB : Aside0 (Below w0.heap.size w0 w61) := ⟨(by rw [hw]; exact bl_)⟩; clear hw; obtain ⟨hcz62_0, hcz62_1, hcz62_2, hfz62_0, hfz62_1, hfz62_2⟩ := cf3_ BK246.out; obtain ⟨Ao64, co64, eo64⟩ := Kd.R_slice HO_247002.out; subst eo64) | ((with_reducible refine gate_builtin (b := .append) (xs := #[.tmp 68, .tmp 70]) rfl ?_); at_builtin; refine Kd.S_append k60 w.heap.size rfl (.tmp 68) (.tmp 70) 24 60 (.agg #[(.int .i64 0), (.int .i64 0), (.slice none 0 0)]) 40 rfl Tryd.underlying24 info60 rfl (by decide) (by omega) u3 x3_1 (⟨x247000_15, t275, x247002_15⟩ : S60) [.int .i64 x247000_15, .int .i64 t275, .slice Ao64 x247002_15.length co64] (fun k_ => some k_ ≠ (.slice Ao57 y272.length co57 : Value).ownBlock ∧ k_ ≠ gb246) (fun k_ => some k_ = (.slice Ao64 x247002_15.length co64 : Value).ownBlock) rfl rfl ?aP (fun k_ hk_ => ((Kd.R_mono (ok' := fun k_ => ((fun k_ => some k_ ≠ (.slice Ao57 y272.length co57 : Value).ownBlock ∧ k_ ≠ gb246)) k_ ∧ some k_ ≠ (u3 : Value).ownBlock) (Kd.R_types (Kd.R_apart' (HO_247002.out) (Kd.S_typed HO_3.out) (by decide)) BK246.out (by decide)) (fun k_ hk => ⟨⟨hk.1.1, hk.2⟩, hk.1.2⟩))).1 k_ hk_.symm) ?aF ?aO (Below.refl _ _) ?aS ?aL ?_; (case aP => exact k60_mkM _ _ _ (⟨x247000_15, t275, x247002_15⟩ : S60) (Kd.R_mono (Kd.R_tight rfl (Kd.R_mono (ok' := fun k_ => ((fun k_ => some k_ ≠ (.slice Ao57 y272.length co57 : Value).ownBlock ∧ k_ ≠ gb246)) k_ ∧ some k_ ≠ (u3 : Value).ownBlock) (Kd.R_types (Kd.R_apart' (HO_247002.out) (Kd.S_typed HO_3.out) (by decide)) BK246.out (by decide)) (fun k_ hk => ⟨⟨hk.1.1, hk.2⟩, hk.1.2⟩))) (fun _ h_ => h_))); (case aF => exact (fun k_ hk => ⟨Kd.fresh' (Kd.R_lt (pR_ HO274.out)) k_ hk, Kd.freshB (g := gb246) (o := .cells #[.int .i64 x247000_15, .int .i64 t275, .slice Ao64 x247002_15.length co64] 60 (0, 0)) bk_ k_ hk⟩)); (case aO => exact (by (with_reducible repeat (first | apply Kd.S_alloc | apply Kd.S_drewN | apply Kd.S_drew)); exact Kd.S_mono HO_3.out (fun k_ hk => ⟨⟨hk.2.1, hk.2.2⟩, fun e_ => hk.1 e_⟩))); (case aS => exact (keep_size (w := w) (g := g) (row := none) (by repeat (first | (with_reducible first | exact HK.out | apply KeepBut.set_ | apply keep_drewN | apply keep_drew | apply keep_alloc | refine keep_far ?_ GW246.out _) | exact HK.out)))); (case aL => have := LMc53.out; omega); intro v279 w63 ho hb hg hat; rw [← Ny278.out] at ho; have HO280 := Aside0.mk (ho); replace BK246 := Aside0.mk (blk_grown (g := gb246) (o := .cells #[.int .i64 x247000_15, .int .i64 t275, .slice Ao64 x247002_15.length co64] 60 (0, 0)) bk_ hg (Kd.S_away HO_3.out (fun _ hk => hk.2.2))); replace HI0 := Aside0.mk (IsS58.grown si_ hg (IsS58.own_neS HI0.out HO_3.out (by decide))); replace HO274 := Aside0.mk (Kd.R_over' (pR_ HO274.out) (Kd.S_typed (pS_ HO_3.out)) (by decide) hg); replace HB := Aside0.mk (below_weaken bl_ HL.out hb); replace HK := Aside0.mk (KeepBut.trans (by repeat (first | (with_reducible first | exact HK.out | apply KeepBut.set_ | apply keep_drewN | apply keep_drew | apply keep_alloc | refine keep_far ?_ GW246.out _) | exact HK.out)) (KeepBut.of_grown hg g) (Kd.S_base2 HO_3.out)); clear HO_3 HO_247002; clear ho hb hg hat))
           go_roundg kj15
           case measure => have := HK1.out; have := HJ5.out; have := HJ15.out; omega
           case rel => exact ⟨(y278), (wrap64 (x4_1 - 1)), (t276), (t277), rs_, H', ⟨by have := HK1.out; have := HJ5.out; have := HJ15.out; omega⟩, ⟨by (with_reducible repeat (first | apply Kd.S_alloc | apply Kd.S_drewN | apply Kd.S_drew)); exact Kd.S_mono HO280.out (fun _ hk => trivial)⟩, ⟨si_⟩, ⟨by repeat (first | (with_reducible first | exact HK.out | apply KeepBut.set_ | apply keep_drewN | apply keep_drew | apply keep_alloc | refine keep_far ?_ GW246.out _) | exact HK.out)⟩, ⟨bl_⟩⟩
          ·rw [if_neg c53] at H
           exact absurd H (by simp)
         ·rw [if_neg c51] at H
          have c51b0 : (t260 == 1) = false := beq_eq_false_iff_ne.mpr c51
          have c51b1 : (t260 != 1) = true := bne_iff_ne.mpr c51
          by_cases c65 : t260 = 2
          ·rw [if_pos c65] at H
           have c65b0 : (t260 == 2) = true := beq_iff_eq.mpr c65
           have c65b1 : (t260 != 2) = false := bne_eq_false_iff_eq.mpr c65
           clear c65
           replace H := Option.bind_eq_some_iff.mp H
           obtain ⟨⟨t281, t282, t283⟩, A660, H⟩ := H
           replace H : (if x247002_15.length < 17592186044416 then (if x3_1.length < 3518437208883 then (exactpplmake_Src_Nodes.l0 kj15 (x3_1 ++ [(⟨x247000_15, x247001_15, (x247002_15 ++ [t281])⟩ : S60)]) (wrap64 (x4_1 - 1)) s0_0 t282 t283) else (none)) else (none)) = some (r1, r2, r3) := H
           have A66 := Aside0.mk A660
           clear A660
           by_cases c67 : x247002_15.length < 17592186044416
           ·rw [if_pos c67] at H
            have LMc67 := Aside0.mk c67
            clear c67
            obtain ⟨y284, hy284⟩ : ∃ y_ : List Int, y_ = (x247002_15 ++ [t281]) := ⟨_, rfl⟩
            replace H : (if x3_1.length < 3518437208883 then (exactpplmake_Src_Nodes.l0 kj15 (x3_1 ++ [(⟨x247000_15, x247001_15, y284⟩ : S60)]) (wrap64 (x4_1 - 1)) s0_0 t282 t283) else (none)) = some (r1, r2, r3) := by first | (rw [hy284]; with_reducible exact H) | (have H2_ := (Option.bind_some _ _).symm.trans H; rw [hy284]; with_reducible exact H2_) | (have H2_ := (Option.bind_some _ _).symm.trans H; with_reducible exact H2_) | with_reducible exact H | (rw [hy284]; exact H) | exact H
            have Ny284 := Aside0.mk hy284
            clear hy284
            by_cases c68 : x3_1.length < 3518437208883
            ·rw [if_pos c68] at H
             have LMc68 := Aside0.mk c68
             clear c68
             obtain ⟨y287, hy287⟩ : ∃ y_ : List (S60), y_ = (x3_1 ++ [(⟨x247000_15, x247001_15, y284⟩ : S60)]) := ⟨_, rfl⟩
             replace H : (exactpplmake_Src_Nodes.l0 kj15 y287 (wrap64 (x4_1 - 1)) s0_0 t282 t283) = some (r1, r2, r3) := by first | (rw [hy287]; with_reducible exact H) | (have H2_ := (Option.bind_some _ _).symm.trans H; rw [hy287]; with_reducible exact H2_) | (have H2_ := (Option.bind_some _ _).symm.trans H; with_reducible exact H2_) | with_reducible exact H | (rw [hy287]; exact H) | exact H
             have Ny287 := Aside0.mk hy287
             clear hy287
             have H' := Aside0.mk H
             clear H
             try go_wp2_with (first | ((with_reducible refine gate_callee (f := 23) rfl ?_); refine goesL_ (some 44) rfl rfl Tryd.func23 (by kernel_rfl) rfl #[.pointer (some ⟨g, 0, none⟩), .int .i64 24] rfl (by (try simp only [List.map_toArray, List.map_cons, List.map_nil]); first | done | rfl | (simp only [List.length_drop, List.length_take]; rfl)) ?_; (with_reducible refine (exactpplmake_Src_N.calls g s0_0 x1001_15 x1002_15 24 t260 t261 t262 w0 _ ?side1 ?side2 A36.out).mono ?_); (case side1 => repeat (first | (with_reducible first | exact HI0.out | apply IsS58.alloc | apply IsS58.drewN | apply IsS58.drew | apply IsS58.set_1 | apply IsS58.set_2 | refine IsS58.far ?_ NB0_246.out _) | exact HI0.out)); (case side2 => repeat (first | (with_reducible first | exact HB.out | apply below_alloc | apply pw_below_drewN | apply below_drew1 | refine below_set ?_ (IsS58.ge HI0.out) | refine below_set ?_ GE246.out) | exact HB.out)); rintro e w69 ⟨rfl, hi, hb, hk⟩; refine ⟨_, rfl, ?_⟩; replace HO_3 := Aside0.mk (Kd.S_mono (Kd.S_keep (IsS58.apartS (show IsS58 w0 _ g s0_0 x1001_15 x1002_15 from si_) (pS_ HO_3.out) (by decide)) hk (fun _ h => h.2)) (fun _ h => h.1)); replace HO_247002 := Aside0.mk (Kd.R_mono (Kd.R_keep (IsS58.apart (show IsS58 w0 _ g s0_0 x1001_15 x1002_15 from si_) (pR_ HO_247002.out) (by decide)) hk (fun _ h => h.2)) (fun _ h => h.1)); replace BK246 := Aside0.mk (KeepBut.blk hk (g' := gb246) (o := .cells #[.int .i64 x247000_15, .int .i64 x247001_15, u247002] 60 (0, 0)) bk_ NB246_0.out (by simp)); replace HK := Aside0.mk (KeepBut.trans (by repeat (first | (with_reducible first | exact HK.out | apply KeepBut.set_ | apply keep_drewN | apply keep_drew | apply keep_alloc | refine keep_far ?_ GW246.out _) | exact HK.out)) hk (.inl rfl)); replace HB := Aside0.mk (hb); replace HI0 := Aside0.mk (hi); (try clear hb); (try clear hb2); (try clear hk); (try clear hi)))
             replace HO_3 := Aside0.mk (Kd.S_drew HO_3.out)
             replace HO_247002 := Aside0.mk (Kd.R_drew HO_247002.out)
             replace BK246 := Aside0.mk (blk_drew BK246.out)
             replace HI0 := Aside0.mk (IsS58.drew HI0.out)
             replace HK := Aside0.mk (keep_drew HK.out)
             replace HB := Aside0.mk (below_drew1 HB.out)
             obtain ⟨Ao71, co71, eo71⟩ := Kd.S_slice HO_3.out
             (first | subst eo71 | (injection eo71 with f1_ f2_ f3_; have f4_ := f1_.symm; have f5_ := f3_.symm; clear f1_ f2_ f3_; subst f4_; subst f5_))
             refine start_ (n := 10) (S := fun w' => w'.cell? ⟨gb246, 0, none⟩ = some (.int .i64 x247000_15) ∧ w'.cell? ⟨gb246, 1, none⟩ = some (.int .i64 x247001_15) ∧ w'.cell? ⟨gb246, 2, none⟩ = some (u247002)) (ds := [9]) #[false, false, false, false, false, false, false, false, false, false] (by kernel_rfl) rfl rfl ⟨(blk_cell BK246.out 0).trans rfl, (blk_cell BK246.out 1).trans rfl, (blk_cell BK246.out 2).trans rfl⟩ (fun hHeld => ?_); refine with_tabW exactpplmake_Src_Nodes.tab18 exactpplmake_Src_Nodes.bits18 (fun HT_ HW_ => ?_)
             generalize w69.drew = w70 at HO_3 HO_247002 BK246 HI0 HK HB hHeld ⊢
             refine pu_ HT_ 0 59 (bm 10 1) ?_
             refine pu_ HT_ 2 61 (bm 10 5) ?_
             refine pu_ HT_ 3 62 (bm 10 13) ?_
             refine pu_ HT_ 4 63 (bm 10 29) ?_
             refine ta_ HT_ HW_ 1 60 (bm 10 31) hHeld ?_
             refine one_ (i := 5) (N := some 64) #[true, true, true, true, true, true, false, false, false, false] rfl rfl (one_of HT_.out (by kernel_rfl)) (by decide) (fun K hK => ?_)
             refine goes_ Tryd.func25 (by kernel_rfl) rfl #[.pointer (some ⟨g, 0, none⟩), .int .i64 (-1), .int .i64 (x3_1.length : Int)] (by rfl) rfl rfl (by (try simp only [List.map_toArray, List.map_cons, List.map_nil]); first | done | rfl | (simp only [List.length_drop, List.length_take]; rfl)) ?_
             with_reducible refine (exactpplmake_Src_Range.calls g s0_0 t261 t262 (-1) (x3_1.length : Int) t281 t282 t283 w0 _ ?side1 ?side2 A66.out).mono ?_
             (case side1 => repeat (first | (with_reducible first | exact HI0.out | apply IsS58.alloc | apply IsS58.drewN | apply IsS58.drew | apply IsS58.set_1 | apply IsS58.set_2 | refine IsS58.far ?_ NB0_246.out _) | exact HI0.out))
             (case side2 => repeat (first | (with_reducible first | exact HB.out | apply below_alloc | apply pw_below_drewN | apply below_drew1 | refine below_set ?_ (IsS58.ge HI0.out) | refine below_set ?_ GE246.out) | exact HB.out))
             rintro e w72 ⟨rfl, hi, hb, hk⟩
             refine ⟨_, rfl, ?_⟩
             replace HO_3 := Aside0.mk (Kd.S_mono (Kd.S_keep (IsS58.apartS (show IsS58 w0 _ g s0_0 t261 t262 from si_) (pS_ HO_3.out) (by decide)) hk (fun _ h => h.2)) (fun _ h => h.1))
             replace HO_247002 := Aside0.mk (Kd.R_mono (Kd.R_keep (IsS58.apart (show IsS58 w0 _ g s0_0 t261 t262 from si_) (pR_ HO_247002.out) (by decide)) hk (fun _ h => h.2)) (fun _ h => h.1))
             replace BK246 := Aside0.mk (KeepBut.blk hk (g' := gb246) (o := .cells #[.int .i64 x247000_15, .int .i64 x247001_15, u247002] 60 (0, 0)) bk_ NB246_0.out (by simp))
             replace HK := Aside0.mk (KeepBut.trans (by repeat (first | (with_reducible first | exact HK.out | apply KeepBut.set_ | apply keep_drewN | apply keep_drew | apply keep_alloc | refine keep_far ?_ GW246.out _) | exact HK.out)) hk (.inl rfl))
             replace HB := Aside0.mk (hb)
             replace HI0 := Aside0.mk (hi)
             (try clear hb)
             (try clear hb2)
             (try clear hk)
             (try clear hi)
             refine hK.out _ _ ⟨(blk_cell BK246.out 0).trans rfl, (blk_cell BK246.out 1).trans rfl, (blk_cell BK246.out 2).trans rfl⟩ (fun hHeld => ?_)
             clear hK K
             refine norm_ (a' := ?_) ?_ ?_
             rotate_left
             ·show Act.put _ (some 64) _ = _
              simp only [Act.put, List.setIfInBounds_toArray, List.set_cons_zero, List.set_cons_succ, i64_w, i32_w]
              rfl
             refine one_ (i := 6) (N := some 65) #[true, true, true, true, true, true, true, false, false, false] rfl rfl (one_of HT_.out (by kernel_rfl)) (by decide) (fun K hK => ?_)
             refine value_ (w1 := ?_) (v := ?_) (by rfl) rfl ?_ ?_
             rotate_left 2
             ·go_simp
              constructor
              ·rfl
              ·rfl
             refine hK.out _ _ ⟨(blk_cell (blk_alloc BK246.out _) 0).trans rfl, (blk_cell (blk_alloc BK246.out _) 1).trans rfl, (blk_cell (blk_alloc BK246.out _) 2).trans rfl⟩ (fun hHeld => ?_)
             clear hK K
             refine norm_ (a' := ?_) ?_ ?_
             rotate_left
             ·show Act.put _ (some 65) _ = _
              simp only [Act.put, List.setIfInBounds_toArray, List.set_cons_zero, List.set_cons_succ, i64_w, i32_w]
              rfl
             refine one_ (i := 7) (N := some 66) #[true, true, true, true, true, true, true, true, false, false] rfl rfl (one_of HT_.out (by kernel_rfl)) (by decide) (fun K hK => ?_)
             refine Kd.R_append_step (Kd.int .i64) w.heap.size (by rfl) (.tmp 60) (.tmp 65) 22 3 (.int .i64 0) 8 rfl Tryd.underlying22 info3 rfl (by decide) (by omega) u247002 x247002_15 t281 [.int .i64 t281] (fun _ => True) (fun _ => False) rfl rfl ?aP (fun _ hk => hk.elim) ?aF ?aO (Below.refl _ _) ?aS ?aL ?_
             (case aP => exact rfl)
             (case aF => exact (fun _ _ => trivial))
             (case aO => exact (pR_ HO_247002.out))
             (case aS => exact (keep_size (w := w) (g := g) (row := none) (by repeat (first | (with_reducible first | exact HK.out | apply KeepBut.set_ | apply keep_drewN | apply keep_drew | apply keep_alloc | refine keep_far ?_ GW246.out _) | exact HK.out))))
             (case aL => have := LMc67.out; omega)
             intro v285 w73 ho hb hg hat
             rw [← Ny284.out] at ho
             have HO286 := Aside0.mk (ho)
             replace HO_3 := Aside0.mk (Kd.S_after (ok := (fun k_ => k_ ≠ gb246)) (by (with_reducible repeat (first | apply Kd.S_alloc | apply Kd.S_drewN | apply Kd.S_drew)); exact Kd.S_mono HO_3.out (fun _ hk => ⟨hk.2, hk.1⟩)) hg hat)
             replace BK246 := Aside0.mk (blk_grown (g := gb246) (o := .cells #[.int .i64 x247000_15, .int .i64 x247001_15, u247002] 60 (0, 0)) bk_ hg (Kd.R_ne HO_247002.out BK246.out (by decide)))
             replace HI0 := Aside0.mk (IsS58.grown si_ hg (IsS58.own_ne HI0.out HO_247002.out (by decide)))
             replace HB := Aside0.mk (below_weaken bl_ HL.out hb)
             replace HK := Aside0.mk (KeepBut.trans (by repeat (first | (with_reducible first | exact HK.out | apply KeepBut.set_ | apply keep_drewN | apply keep_drew | apply keep_alloc | refine keep_far ?_ GW246.out _) | exact HK.out)) (KeepBut.of_grown hg g) (Kd.R_base2 HO_247002.out))
             clear HO_247002
             clear ho hb hg hat
             obtain ⟨Ao74, co74, eo74⟩ := Kd.R_slice HO286.out
             (first | subst eo74 | (injection eo74 with f1_ f2_ f3_; have f4_ := f1_.symm; have f5_ := f3_.symm; clear f1_ f2_ f3_; subst f4_; subst f5_))
             refine hK.out _ _ ⟨(blk_cell BK246.out 0).trans rfl, (blk_cell BK246.out 1).trans rfl, (blk_cell BK246.out 2).trans rfl⟩ (fun hHeld => ?_)
             clear hK K
             refine norm_ (a' := ?_) ?_ ?_
             rotate_left
             ·show Act.put _ (some 66) _ = _
              simp only [Act.put, List.setIfInBounds_toArray, List.set_cons_zero, List.set_cons_succ, i64_w, i32_w]
              rfl
             refine pu_ HT_ 8 67 (bm 10 511) ?_
             refine last_ (i := 9) (N := none) #[true, true, true, true, true, true, true, true, true, true] rfl rfl (one_of HT_.out (by kernel_rfl)) (by decide) (fun K hK => ?_)
             have hs75 : w73.cell? ⟨gb246, 2, none⟩ = some (u247002) := (blk_cell BK246.out 2).trans rfl
             have hfs75 := blk_frozen BK246.out 2
             refine skip_ (w1 := ?_) (by rfl) rfl ?_ ?_
             rotate_left
             ·go_simp
              rfl
             refine hK.out _ _ ?_
             clear hK K
             refine done_ (done_of HT_.out (by kernel_rfl)) ?_
             have n0_ : Aside0 (Kd.S k60 60 (w73.setCell ⟨gb246, 2, none⟩ (.slice Ao74 y284.length co74)) w.heap.size (fun k_ => some k_ ≠ (.slice Ao74 y284.length co74 : Value).ownBlock ∧ k_ ≠ gb246) (.slice Ao71 x3_1.length co71) x3_1) := ⟨by (with_reducible repeat (first | apply Kd.S_alloc | apply Kd.S_drewN | apply Kd.S_drew)); exact Kd.S_mono (Kd.S_far (p := ⟨gb246, 2, none⟩) (Kd.S_mono HO_3.out (fun k_ hk => (⟨hk, by first | exact hk.1 | exact hk.1 | exact hk.2 | exact hk.1.1 | exact hk.1.2⟩ : _ ∧ k_ ≠ gb246))) (fun _ hk => hk.2) (.slice Ao74 y284.length co74)) (fun _ hk => ⟨hk.1.2, hk.1.1⟩)⟩
             have n1_ : Aside0 (Kd.R (Kd.int .i64) 3 (w73.setCell ⟨gb246, 2, none⟩ (.slice Ao74 y284.length co74)) w.heap.size (fun _ => True) (.slice Ao74 y284.length co74) y284) := ⟨by (with_reducible repeat (first | apply Kd.R_alloc | apply Kd.R_drewN | apply Kd.R_drew)); exact Kd.R_mono (Kd.R_far (p := ⟨gb246, 2, none⟩) (Kd.R_types HO286.out BK246.out (by decide)) (fun _ hk => hk.2) (.slice Ao74 y284.length co74)) (fun _ hk => trivial)⟩
             have n2_ : Aside0 ((w73.setCell ⟨gb246, 2, none⟩ (.slice Ao74 y284.length co74)).heap[gb246]? = some (.cells #[.int .i64 x247000_15, .int .i64 x247001_15, .slice Ao74 y284.length co74] 60 (0, 0))) := ⟨by (with_reducible repeat (first | refine blk_drewN ?_ _ | refine blk_drew ?_ | refine blk_alloc ?_ _)); refine blk_put (cs := #[.int .i64 x247000_15, .int .i64 x247001_15, u247002]) ?_ 2 _ rfl; (with_reducible repeat (first | refine blk_drewN ?_ _ | refine blk_drew ?_ | refine blk_alloc ?_ _)); exact BK246.out⟩
             have n3_ : Aside0 (IsS58 w0 (w73.setCell ⟨gb246, 2, none⟩ (.slice Ao74 y284.length co74)) g s0_0 t282 t283) := ⟨si_⟩
             have n4_ : Aside0 (KeepBut w (w73.setCell ⟨gb246, 2, none⟩ (.slice Ao74 y284.length co74)) g none) := ⟨by repeat (first | (with_reducible first | exact HK.out | apply KeepBut.set_ | apply keep_drewN | apply keep_drew | apply keep_alloc | refine keep_far ?_ GW246.out _) | exact HK.out)⟩
             have n5_ : Aside0 (Below w0.heap.size w0 (w73.setCell ⟨gb246, 2, none⟩ (.slice Ao74 y284.length co74))) := ⟨bl_⟩
             (try clear HO_3)
             (try clear HO286)
             (try clear BK246)
             (try clear HI0)
             (try clear HK)
             (try clear HB)
             generalize (w73.setCell ⟨gb246, 2, none⟩ (.slice Ao74 y284.length co74)) = w76 at n0_ n1_ n2_ n3_ n4_ n5_ ⊢
             have HO_3 := n0_
             have HO286 := n1_
             have BK246 := n2_
             have HI0 := n3_
             have HK := n4_
             have HB := n5_
             clear n0_ n1_ n2_ n3_ n4_ n5_
             have hnb77 := NB246_0.out
             have hnc77 := NB0_246.out
             obtain ⟨hcz78_0, hcz78_1, hcz78_2, hfz78_0, hfz78_1, hfz78_2⟩ := cf3_ BK246.out
             try go_wp2_with (first | ((with_reducible refine gate_builtin (b := .append) (xs := #[.tmp 68, .tmp 70]) rfl ?_); at_builtin; refine Kd.S_append k60 w.heap.size rfl (.tmp 68) (.tmp 70) 24 60 (.agg #[(.int .i64 0), (.int .i64 0), (.slice none 0 0)]) 40 rfl Tryd.underlying24 info60 rfl (by decide) (by omega) (.slice Ao71 x3_1.length co71) x3_1 (⟨x247000_15, x247001_15, y284⟩ : S60) [.int .i64 x247000_15, .int .i64 x247001_15, .slice Ao74 y284.length co74] (fun k_ => k_ ≠ gb246) (fun k_ => some k_ = (.slice Ao74 y284.length co74 : Value).ownBlock) rfl rfl ?aP (fun k_ hk_ => ((Kd.R_mono (ok' := fun k_ => ((fun k_ => k_ ≠ gb246)) k_ ∧ some k_ ≠ (.slice Ao71 x3_1.length co71 : Value).ownBlock) (Kd.R_types (Kd.R_apart' (HO286.out) (Kd.S_typed HO_3.out) (by decide)) BK246.out (by decide)) (fun k_ hk => ⟨hk.2, hk.1.2⟩))).1 k_ hk_.symm) ?aF ?aO (Below.refl _ _) ?aS ?aL ?_; (case aP => exact k60_mkM _ _ _ (⟨x247000_15, x247001_15, y284⟩ : S60) (Kd.R_mono (Kd.R_tight rfl (Kd.R_mono (ok' := fun k_ => ((fun k_ => k_ ≠ gb246)) k_ ∧ some k_ ≠ (.slice Ao71 x3_1.length co71 : Value).ownBlock) (Kd.R_types (Kd.R_apart' (HO286.out) (Kd.S_typed HO_3.out) (by decide)) BK246.out (by decide)) (fun k_ hk => ⟨hk.2, hk.1.2⟩))) (fun _ h_ => h_))); (case aF => exact (fun k_ hk => Kd.freshB (g := gb246) (o := .cells #[.int .i64 x247000_15, .int .i64 x247001_15, .slice Ao74 y284.length co74] 60 (0, 0)) bk_ k_ hk)); (case aO => exact (by (with_reducible repeat (first | apply Kd.S_alloc | apply Kd.S_drewN | apply Kd.S_drew)); exact Kd.S_mono HO_3.out (fun k_ hk => ⟨hk.2, fun e_ => hk.1 e_⟩))); (case aS => exact (keep_size (w := w) (g := g) (row := none) (by repeat (first | (with_reducible first | exact HK.out | apply KeepBut.set_ | apply keep_drewN | apply keep_drew | apply keep_alloc | refine keep_far ?_ GW246.out _) | exact HK.out)))); (case aL => have := LMc68.out; omega); intro v288 w79 ho hb hg hat; rw [← Ny287.out] at ho; have n0_ := Aside0.mk (blk_grown (g := gb246) (o := .cells #[.int .i64 x247000_15, .int .i64 x247001_15, .slice Ao74 y284.length co74] 60 (0, 0)) bk_ hg (Kd.S_away HO_3.out (fun _ hk => hk.2))); have n1_ := Aside0.mk (IsS58.grown si_ hg (IsS58.own_neS HI0.out HO_3.out (by decide))); have n2_ := Aside0.mk (below_weaken bl_ HL.out hb); have n3_ := Aside0.mk (KeepBut.trans (by repeat (first | (with_reducible first | exact HK.out | apply KeepBut.set_ | apply keep_drewN | apply keep_drew | apply keep_alloc | refine keep_far ?_ GW246.out _) | exact HK.out)) (KeepBut.of_grown hg g) (Kd.S_base2 HO_3.out)); have n4_ := Aside0.mk (ho); clear BK246; clear HI0; clear HB; clear HK; clear HO_3; clear HO286; have BK246 := n0_; have HI0 := n1_; have HB := n2_; have HK := n3_; have HO289 := n4_; clear n0_ n1_ n2_ n3_ n4_; clear ho hb hg hat))
             go_roundg kj15
             case measure => have := HK1.out; have := HJ5.out; have := HJ15.out; omega
             case rel => exact ⟨(y287), (wrap64 (x4_1 - 1)), (t282), (t283), rs_, H', ⟨by have := HK1.out; have := HJ5.out; have := HJ15.out; omega⟩, ⟨by (with_reducible repeat (first | apply Kd.S_alloc | apply Kd.S_drewN | apply Kd.S_drew)); exact Kd.S_mono HO289.out (fun _ hk => trivial)⟩, ⟨si_⟩, ⟨by repeat (first | (with_reducible first | exact HK.out | apply KeepBut.set_ | apply keep_drewN | apply keep_drew | apply keep_alloc | refine keep_far ?_ GW246.out _) | exact HK.out)⟩, ⟨bl_⟩⟩
            ·rw [if_neg c68] at H
             exact absurd H (by simp)
           ·rw [if_neg c67] at H
            exact absurd H (by simp)
          ·rw [if_neg c65] at H
           have c65b0 : (t260 == 2) = false := beq_eq_false_iff_ne.mpr c65
           have c65b1 : (t260 != 2) = true := bne_iff_ne.mpr c65
           by_cases c80 : x3_1.length < 3518437208883
           ·rw [if_pos c80] at H
            have LMc80 := Aside0.mk c80
            clear c80
            obtain ⟨y290, hy290⟩ : ∃ y_ : List (S60), y_ = (x3_1 ++ [(⟨x247000_15, x247001_15, x247002_15⟩ : S60)]) := ⟨_, rfl⟩
            replace H : (exactpplmake_Src_Nodes.l0 kj15 y290 (wrap64 (x4_1 - 1)) s0_0 t261 t262) = some (r1, r2, r3) := by first | (rw [hy290]; with_reducible exact H) | (have H2_ := (Option.bind_some _ _).symm.trans H; rw [hy290]; with_reducible exact H2_) | (have H2_ := (Option.bind_some _ _).symm.trans H; with_reducible exact H2_) | with_reducible exact H | (rw [hy290]; exact H) | exact H
            have Ny290 := Aside0.mk hy290
            clear hy290
            have H' := Aside0.mk H
            clear H
            go_wp2_with (first | ((with_reducible refine gate_callee (f := 23) rfl ?_); refine goesL_ (some 44) rfl rfl Tryd.func23 (by kernel_rfl) rfl #[.pointer (some ⟨g, 0, none⟩), .int .i64 24] rfl (by (try simp only [List.map_toArray, List.map_cons, List.map_nil]); first | done | rfl | (simp only [List.length_drop, List.length_take]; rfl)) ?_; (with_reducible refine (exactpplmake_Src_N.calls g s0_0 x1001_15 x1002_15 24 t260 t261 t262 w0 _ ?side1 ?side2 A36.out).mono ?_); (case side1 => repeat (first | (with_reducible first | exact HI0.out | apply IsS58.alloc | apply IsS58.drewN | apply IsS58.drew | apply IsS58.set_1 | apply IsS58.set_2 | refine IsS58.far ?_ NB0_246.out _) | exact HI0.out)); (case side2 => repeat (first | (with_reducible first | exact HB.out | apply below_alloc | apply pw_below_drewN | apply below_drew1 | refine below_set ?_ (IsS58.ge HI0.out) | refine below_set ?_ GE246.out) | exact HB.out)); rintro e w81 ⟨rfl, hi, hb, hk⟩; refine ⟨_, rfl, ?_⟩; replace HO_3 := Aside0.mk (Kd.S_mono (Kd.S_keep (IsS58.apartS (show IsS58 w0 _ g s0_0 x1001_15 x1002_15 from si_) (pS_ HO_3.out) (by decide)) hk (fun _ h => h.2)) (fun _ h => h.1)); replace HO_247002 := Aside0.mk (Kd.R_mono (Kd.R_keep (IsS58.apart (show IsS58 w0 _ g s0_0 x1001_15 x1002_15 from si_) (pR_ HO_247002.out) (by decide)) hk (fun _ h => h.2)) (fun _ h => h.1)); replace BK246 := Aside0.mk (KeepBut.blk hk (g' := gb246) (o := .cells #[.int .i64 x247000_15, .int .i64 x247001_15, u247002] 60 (0, 0)) bk_ NB246_0.out (by simp)); replace HK := Aside0.mk (KeepBut.trans (by repeat (first | (with_reducible first | exact HK.out | apply KeepBut.set_ | apply keep_drewN | apply keep_drew | apply keep_alloc | refine keep_far ?_ GW246.out _) | exact HK.out)) hk (.inl rfl)); replace HB := Aside0.mk (hb); replace HI0 := Aside0.mk (hi); (try clear hb); (try clear hb2); (try clear hk); (try clear hi); have hnb82 := NB246_0.out; have hnc82 := NB0_246.out; obtain ⟨hcz83_0, hcz83_1, hcz83_2, hfz83_0, hfz83_1, hfz83_2⟩ := cf3_ BK246.out; obtain ⟨Ao85, co85, eo85⟩ := Kd.R_slice HO_247002.out; subst eo85) | ((with_reducible refine gate_builtin (b := .append) (xs := #[.tmp 68, .tmp 70]) rfl ?_); at_builtin; refine Kd.S_append k60 w.heap.size rfl (.tmp 68) (.tmp 70) 24 60 (.agg #[(.int .i64 0), (.int .i64 0), (.slice none 0 0)]) 40 rfl Tryd.underlying24 info60 rfl (by decide) (by omega) u3 x3_1 (⟨x247000_15, x247001_15, x247002_15⟩ : S60) [.int .i64 x247000_15, .int .i64 x247001_15, .slice Ao85 x247002_15.length co85] (fun k_ => k_ ≠ gb246) (fun k_ => some k_ = (.slice Ao85 x247002_15.length co85 : Value).ownBlock) rfl rfl ?aP (fun k_ hk_ => ((Kd.R_mono (ok' := fun k_ => ((fun k_ => k_ ≠ gb246)) k_ ∧ some k_ ≠ (u3 : Value).ownBlock) (Kd.R_types (Kd.R_apart' (HO_247002.out) (Kd.S_typed HO_3.out) (by decide)) BK246.out (by decide)) (fun k_ hk => ⟨hk.2, hk.1.2⟩))).1 k_ hk_.symm) ?aF ?aO (Below.refl _ _) ?aS ?aL ?_; (case aP => exact k60_mkM _ _ _ (⟨x247000_15, x247001_15, x247002_15⟩ : S60) (Kd.R_mono (Kd.R_tight rfl (Kd.R_mono (ok' := fun k_ => ((fun k_ => k_ ≠ gb246)) k_ ∧ some k_ ≠ (u3 : Value).ownBlock) (Kd.R_types (Kd.R_apart' (HO_247002.out) (Kd.S_typed HO_3.out) (by decide)) BK246.out (by decide)) (fun k_ hk => ⟨hk.2, hk.1.2⟩))) (fun _ h_ => h_))); (case aF => exact (fun k_ hk => Kd.freshB (g := gb246) (o := .cells #[.int .i64 x247000_15, .int .i64 x247001_15, .slice Ao85 x247002_15.length co85] 60 (0, 0)) bk_ k_ hk)); (case aO => exact (by (with_reducible repeat (first | apply Kd.S_alloc | apply Kd.S_drewN | apply Kd.S_drew)); exact Kd.S_mono HO_3.out (fun k_ hk => ⟨hk.2, fun e_ => hk.1 e_⟩))); (case aS => exact (keep_size (w := w) (g := g) (row := none) (by repeat (first | (with_reducible first | exact HK.out | apply KeepBut.set_ | apply keep_drewN | apply keep_drew | apply keep_alloc | refine keep_far ?_ GW246.out _) | exact HK.out)))); (case aL => have := LMc80.out; omega); intro v291 w84 ho hb hg hat; rw [← Ny290.out] at ho; have HO292 := Aside0.mk (ho); replace BK246 := Aside0.mk (blk_grown (g := gb246) (o := .cells #[.int .i64 x247000_15, .int .i64 x247001_15, .slice Ao85 x247002_15.length co85] 60 (0, 0)) bk_ hg (Kd.S_away HO_3.out (fun _ hk => hk.2))); replace HI0 := Aside0.mk (IsS58.grown si_ hg (IsS58.own_neS HI0.out HO_3.out (by decide))); replace HB := Aside0.mk (below_weaken bl_ HL.out hb); replace HK := Aside0.mk (KeepBut.trans (by repeat (first | (with_reducible first | exact HK.out | apply KeepBut.set_ | apply keep_drewN | apply keep_drew | apply keep_alloc | refine keep_far ?_ GW246.out _) | exact HK.out)) (KeepBut.of_grown hg g) (Kd.S_base2 HO_3.out)); clear HO_3 HO_247002; clear ho hb hg hat))
            go_roundg kj15
            case measure => have := HK1.out; have := HJ5.out; have := HJ15.out; omega
            case rel => exact ⟨(y290), (wrap64 (x4_1 - 1)), (t261), (t262), rs_, H', ⟨by have := HK1.out; have := HJ5.out; have := HJ15.out; omega⟩, ⟨by (with_reducible repeat (first | apply Kd.S_alloc | apply Kd.S_drewN | apply Kd.S_drew)); exact Kd.S_mono HO292.out (fun _ hk => trivial)⟩, ⟨si_⟩, ⟨by repeat (first | (with_reducible first | exact HK.out | apply KeepBut.set_ | apply keep_drewN | apply keep_drew | apply keep_alloc | refine keep_far ?_ GW246.out _) | exact HK.out)⟩, ⟨bl_⟩⟩
           ·rw [if_neg c80] at H
            exact absurd H (by simp)
   ·rw [if_neg c4] at H
    have c4b0 : decide (0 < x4_1) = false := decide_eq_false c4
    clear c4
    simp only [Option.some.injEq, Prod.mk.injEq] at H
    obtain ⟨rfl, rfl, rfl⟩ := H
    go_wp2
    go_ret
    exact ⟨_, re_, pS_ HO_3.out, si_, bl_, by repeat (first | (with_reducible first | exact HK.out | apply KeepBut.set_ | apply keep_drewN | apply keep_drew | apply keep_alloc) | exact HK.out)⟩

end Go.Proofs.YtopbjginpmdebaaDoor.K
namespace Go.Proofs.YtopbjginpmdebaaDoor.K
open Go.RowKit Go.Proofs.YtopbjginpmdebaaDoorW.PrintWords Go.Proofs.YtopbjginpmdebaaDoorW.PrintLast Go.Proofs.YtopbjginpmdebaaDoorW.PrintMore
attribute [local go_sem] max2_int min2_int max_two min_two max_three min_three max_four min_four   -- for this text's walks alone
set_option linter.unusedVariables false
set_option linter.unusedSimpArgs false

/-! ### exactpplref19_Const: function 33 -/
def exactpplref19_Const.f (a0 : Int) : Option ((List (S60))) := some (([(⟨(-1), a0, ([] : List Int)⟩ : S60)] : List (S60)))
set_option maxHeartbeats 8000000 in
set_option maxRecDepth 100000 in
theorem exactpplref19_Const.calls (a0 : Int) (r : List (S60)) (w : World) (h : exactpplref19_Const.f a0 = some r) :
  Calls Tryd.prog 33 #[.int .i64 a0] w fun e w' => ∃ v0_ : Value, e = .returned (.agg #[v0_]) ∧ Kd.S k60 60 w' w.heap.size (fun _ => True) v0_ r ∧ Below w.heap.size w w' := by
 have hu31 := Tryd.underlying31
 have hu60 := Tryd.underlying60
 have HB := Aside0.mk (Below.refl w.heap.size w)
 have H : (some (([(⟨(-1), a0, ([] : List Int)⟩ : S60)] : List (S60)))) = some r := h
 clear h
 obtain ⟨y332, hy332⟩ : ∃ y_ : List (S60), y_ = (([(⟨(-1), a0, ([] : List Int)⟩ : S60)] : List (S60))) := ⟨_, rfl⟩
 replace H : (some y332) = some r := by first | (rw [hy332]; with_reducible exact H) | (have H2_ := (Option.bind_some _ _).symm.trans H; rw [hy332]; with_reducible exact H2_) | (have H2_ := (Option.bind_some _ _).symm.trans H; with_reducible exact H2_) | with_reducible exact H | (rw [hy332]; exact H) | exact H
 have Ny332 := Aside0.mk hy332
 clear hy332
 obtain rfl := Option.some.inj H
 go_enter Tryd.func33, Tryd.ntmps33
 go_wp2_with (first | ((with_reducible refine gate_dst (N := 2) rfl ?_); refine box_event ?hg (N := 2) ?hd (cs := #[.slice none 0 0]) (t := 31) ?hr ?_; (case hd => rfl); (case hg => rfl); (case hr => first | (go_simp; done) | (go_simp; rfl)); intro gb331 hg w2 hbox hb; have BK331 := Aside0.mk (hbox); have GW331 : Aside0 (w.heap.size ≤ gb331) := gw_ hg (below_size bl_); have GE331 := GW331; replace HB := Aside0.mk (below_step bl_ hb); clear hb hbox hg) | ((with_reducible refine gate_dst (N := 5) rfl ?_); refine Kd.S_lit k60 _ 60 ?hg (N := 5) ?hd (xs := ([(⟨(-1), a0, ([] : List Int)⟩ : S60)] : List (S60))) (inner := [.int .i64 (-1), .int .i64 a0, .slice none 0 0]) (ok := fun _ => True) (okp := fun _ => True) ?hr ?hp (fun _ hk => hk) trivial (Below.refl _ _) (Nat.le_refl _) (by simp) ?_; (case hd => rfl); (case hg => rfl); (case hr => first | (go_simp; done) | (go_simp; rfl)); (case hp => exact (Reps.c3 (show Kd.M k60 _ _ _ (⟨(-1), a0, ([] : List Int)⟩ : S60) [.int .i64 (-1), .int .i64 a0, .slice none 0 0] from (k60_mkM _ _ _ (⟨(-1), a0, ([] : List Int)⟩ : S60) (Kd.R_nil _ _ _ _ _))) (Reps.none _ _))); intro v333 w3 ho4 hb hg_ hnew_; clear hg_ hnew_; (first | rw [← Ny332.out] at ho4 | (simp only [Int.reduceToNat] at ho4; rw [← Ny332.out] at ho4)); have HO334 := Aside0.mk (Kd.S_lower ho4 (below_size bl_)); replace BK331 := Aside0.mk (blk_below (g := gb331) (o := .cells #[.slice none 0 0] 31 (0, 0)) bk_ hb); replace HB := Aside0.mk (below_step bl_ hb); clear hb ho4; obtain ⟨Ao5, co5, eo5⟩ := Kd.S_slice HO334.out; subst eo5; obtain ⟨hcz6_0, hfz6_0⟩ := cf1_ BK331.out))
 refine bodyPost_ret (results_cell_row rfl _ _ gb331 31 #[.slice Ao5 y332.length co5] (0, 0) _ rfl (by (with_reducible repeat (first | refine blk_drewN ?_ _ | refine blk_drew ?_ | refine blk_alloc ?_ _)); refine blk_put (cs := #[.slice none 0 0]) ?_ 0 _ rfl; (with_reducible repeat (first | refine blk_drewN ?_ _ | refine blk_drew ?_ | refine blk_alloc ?_ _)); exact BK331.out) Tryd.underlying31 rfl (by kernel_rfl)) rfl ?_
 exact ⟨_, re_, by (with_reducible repeat (first | apply Kd.S_alloc | apply Kd.S_drewN | apply Kd.S_drew)); exact Kd.S_mono (Kd.S_far (p := ⟨gb331, 0, none⟩) (Kd.S_types HO334.out BK331.out (by decide)) (fun _ hk => hk.2) (.slice Ao5 y332.length co5)) (fun _ hk => trivial), bl_⟩

end Go.Proofs.YtopbjginpmdebaaDoor.K
namespace Go.Proofs.YtopbjginpmdebaaDoor.K
open Go.RowKit Go.Proofs.YtopbjginpmdebaaDoorW.PrintWords Go.Proofs.YtopbjginpmdebaaDoorW.PrintLast Go.Proofs.YtopbjginpmdebaaDoorW.PrintMore
attribute [local go_sem] max2_int min2_int max_two min_two max_three min_three max_four min_four   -- for this text's walks alone
set_option linter.unusedVariables false
set_option linter.unusedSimpArgs false

/-! ### exactpplref19_IsBranch: function 55 -/
def exactpplref19_IsBranch.f (a0_0 : Int) (a0_1 : Int) (l0_2 : List Int) : Option (Bool) := some (a0_0 != (-1))
set_option maxHeartbeats 8000000 in
set_option maxRecDepth 100000 in
theorem exactpplref19_IsBranch.calls (a0_0 : Int) (a0_1 : Int) (A0_2 : Option Addr) (c0_2 : Nat) (l0_2 : List Int) (r : Bool) (w : World) (hr0_2 : Kd.C (Kd.int .i64) w A0_2 l0_2.length l0_2) (hc0_2 : l0_2.length ≤ c0_2) (h : exactpplref19_IsBranch.f a0_0 a0_1 l0_2 = some r) :
  Calls Tryd.prog 55 #[.agg #[.int .i64 a0_0, .int .i64 a0_1, .slice A0_2 l0_2.length c0_2]] w fun e w' => e = .returned (.bool r) ∧ Below w.heap.size w w' := by
 have hu60 := Tryd.underlying60
 have HR0_2 := Aside0.mk hr0_2
 have HC0_2 := Aside0.mk hc0_2
 clear hr0_2 hc0_2
 have HB := Aside0.mk (Below.refl w.heap.size w)
 have H : (some (a0_0 != (-1))) = some r := h
 clear h
 obtain rfl := Option.some.inj H
 go_enter Tryd.func55, Tryd.ntmps55
 go_wp2_with (first | ((with_reducible refine gate_dst (N := 1) rfl ?_); refine box_event ?hg (N := 1) ?hd (cs := #[.int .i64 a0_0, .int .i64 a0_1, .slice A0_2 l0_2.length c0_2]) (t := 60) ?hr ?_; (case hd => rfl); (case hg => rfl); (case hr => first | (go_simp; done) | (go_simp; rfl)); intro gb144 hg w2 hbox hb; have BK144 := Aside0.mk (hbox); have GW144 : Aside0 (w.heap.size ≤ gb144) := gw_ hg (below_size bl_); have GE144 := GW144; replace HB := Aside0.mk (below_step bl_ hb); clear hb hbox hg; obtain ⟨hcz3_0, hcz3_1, hcz3_2, hfz3_0, hfz3_1, hfz3_2⟩ := cf3_ BK144.out))
 go_ret
 exact ⟨re_, bl_⟩

end Go.Proofs.YtopbjginpmdebaaDoor.K
namespace Go.Proofs.YtopbjginpmdebaaDoor.K
open Go.RowKit Go.Proofs.YtopbjginpmdebaaDoorW.PrintWords Go.Proofs.YtopbjginpmdebaaDoorW.PrintLast Go.Proofs.YtopbjginpmdebaaDoorW.PrintMore
attribute [local go_sem] max2_int min2_int max_two min_two max_three min_three max_four min_four   -- for this text's walks alone
set_option linter.unusedVariables false
set_option linter.unusedSimpArgs false

/-! ### exactpplref19_sound: function 77 -/
mutual
def exactpplref19_sound.j0 : Nat → List (S60) → Int → Bool → Int → Int → List Int → Option (Bool)
 | 0, _, _, _, _, _, _ => none
 | k + 1, x0, x1, x54, x147000, x147001, x147002 => if x54 = true then (some false) else (exactpplref19_sound.l0 k x0 x1 0 x147000 x147001 x147002)
def exactpplref19_sound.l0 : Nat → List (S60) → Int → Int → Int → Int → List Int → Option (Bool)
 | 0, _, _, _, _, _, _ => none
 | k + 1, x0, x1, x6, x147000, x147001, x147002 => if x6 < (x147002.length : Int) then (if 0 ≤ x6 then (if (rd x147002 x6) < 0 then (some false) else (if (rd x147002 x6) ≥ x1 then (some false) else (if 0 ≤ (rd x147002 x6) then (if (rd x147002 x6) < (x0.length : Int) then ((exactpplref19_IsBranch.f ((rd_T60 x0 (rd x147002 x6)).f0) ((rd_T60 x0 (rd x147002 x6)).f1) ((rd_T60 x0 (rd x147002 x6)).f2)).bind fun t150 => (if t150 = true then (if ((rd_T60 x0 (rd x147002 x6)).f0) ≤ x147000 then (some false) else (exactpplref19_sound.l0 k x0 x1 (wrap64 (x6 + 1)) x147000 x147001 x147002)) else (exactpplref19_sound.l0 k x0 x1 (wrap64 (x6 + 1)) x147000 x147001 x147002))) else (none)) else (none)))) else (none)) else (exactpplref19_sound.l1 k x0 x1 0 x147000 x147001 x147002)
def exactpplref19_sound.l1 : Nat → List (S60) → Int → Int → Int → Int → List Int → Option (Bool)
 | 0, _, _, _, _, _, _ => none
 | k + 1, x0, x1, x8, x147000, x147001, x147002 => if x8 < x1 then (if 0 ≤ x8 then (if x8 < (x0.length : Int) then (if ((rd_T60 x0 x8).f0) = x147000 then (if (((rd_T60 x0 x8).f2).length : Int) = (x147002.length : Int) then (exactpplref19_sound.l1 k x0 x1 (wrap64 (x8 + 1)) x147000 x147001 x147002) else (some false)) else (exactpplref19_sound.l1 k x0 x1 (wrap64 (x8 + 1)) x147000 x147001 x147002)) else (none)) else (none)) else (some true)
end
def exactpplref19_sound.f (k : Nat) (l0 : List (S60)) (a1 : Int) : Option (Bool) := if 0 ≤ a1 then (if a1 < (l0.length : Int) then ((exactpplref19_IsBranch.f ((rd_T60 l0 a1).f0) ((rd_T60 l0 a1).f1) ((rd_T60 l0 a1).f2)).bind fun t147 => (if t147 = true then (if ((rd_T60 l0 a1).f0) < 0 then (exactpplref19_sound.j0 k l0 a1 true ((rd_T60 l0 a1).f0) ((rd_T60 l0 a1).f1) ((rd_T60 l0 a1).f2)) else (if ((rd_T60 l0 a1).f0) ≥ 64 then (exactpplref19_sound.j0 k l0 a1 true ((rd_T60 l0 a1).f0) ((rd_T60 l0 a1).f1) ((rd_T60 l0 a1).f2)) else (if ((rd_T60 l0 a1).f1) = 0 then (if (((rd_T60 l0 a1).f2).length : Int) < 1 then (exactpplref19_sound.j0 k l0 a1 true ((rd_T60 l0 a1).f0) ((rd_T60 l0 a1).f1) ((rd_T60 l0 a1).f2)) else (exactpplref19_sound.j0 k l0 a1 (decide ((((rd_T60 l0 a1).f2).length : Int) > 16)) ((rd_T60 l0 a1).f0) ((rd_T60 l0 a1).f1) ((rd_T60 l0 a1).f2))) else (exactpplref19_sound.j0 k l0 a1 true ((rd_T60 l0 a1).f0) ((rd_T60 l0 a1).f1) ((rd_T60 l0 a1).f2))))) else (if (((rd_T60 l0 a1).f2).length : Int) = 0 then (if ((rd_T60 l0 a1).f1) ≥ (-1073741824) then (some (decide (((rd_T60 l0 a1).f1) ≤ 1073741824))) else (some false)) else (some false)))) else (none)) else (none)
theorem exactpplref19_sound.mono_l : ∀ k, (∀ y0 y1 y2 y3 y4 y5, LeO (exactpplref19_sound.j0 k y0 y1 y2 y3 y4 y5) (exactpplref19_sound.j0 (k + 1) y0 y1 y2 y3 y4 y5)) ∧ (∀ y0 y1 y2 y3 y4 y5, LeO (exactpplref19_sound.l0 k y0 y1 y2 y3 y4 y5) (exactpplref19_sound.l0 (k + 1) y0 y1 y2 y3 y4 y5)) ∧ (∀ y0 y1 y2 y3 y4 y5, LeO (exactpplref19_sound.l1 k y0 y1 y2 y3 y4 y5) (exactpplref19_sound.l1 (k + 1) y0 y1 y2 y3 y4 y5))
 | 0 => ⟨fun _ _ _ _ _ _ r h => by simp [exactpplref19_sound.j0] at h, fun _ _ _ _ _ _ r h => by simp [exactpplref19_sound.l0] at h, fun _ _ _ _ _ _ r h => by simp [exactpplref19_sound.l1] at h⟩
 | k + 1 => by
  obtain ⟨ih0, ih1, ih2⟩ := exactpplref19_sound.mono_l k
  refine ⟨?_, ?_, ?_⟩
  ·intro y0 y1 y2 y3 y4 y5
   unfold exactpplref19_sound.j0
   repeat' first
   | (with_reducible exact ih0 _ _ _ _ _ _)
   | (with_reducible exact ih1 _ _ _ _ _ _)
   | (with_reducible exact ih2 _ _ _ _ _ _)
   | (with_reducible exact LeO.refl _)
   | (with_reducible exact LeO.none _)
   | (with_reducible refine LeO.ite ?_ ?_)
   | (with_reducible refine LeO.bind ?_ (fun _ => ?_))
   | exact ih0 _ _ _ _ _ _
   | exact ih1 _ _ _ _ _ _
   | exact ih2 _ _ _ _ _ _
   | exact LeO.none _
   | refine LeO.ite ?_ ?_
   | refine LeO.bind ?_ (fun _ => ?_)
  ·intro y0 y1 y2 y3 y4 y5
   unfold exactpplref19_sound.l0
   repeat' first
   | (with_reducible exact ih0 _ _ _ _ _ _)
   | (with_reducible exact ih1 _ _ _ _ _ _)
   | (with_reducible exact ih2 _ _ _ _ _ _)
   | (with_reducible exact LeO.refl _)
   | (with_reducible exact LeO.none _)
   | (with_reducible refine LeO.ite ?_ ?_)
   | (with_reducible refine LeO.bind ?_ (fun _ => ?_))
   | exact ih0 _ _ _ _ _ _
   | exact ih1 _ _ _ _ _ _
   | exact ih2 _ _ _ _ _ _
   | exact LeO.none _
   | refine LeO.ite ?_ ?_
   | refine LeO.bind ?_ (fun _ => ?_)
  ·intro y0 y1 y2 y3 y4 y5
   unfold exactpplref19_sound.l1
   repeat' first
   | (with_reducible exact ih0 _ _ _ _ _ _)
   | (with_reducible exact ih1 _ _ _ _ _ _)
   | (with_reducible exact ih2 _ _ _ _ _ _)
   | (with_reducible exact LeO.refl _)
   | (with_reducible exact LeO.none _)
   | (with_reducible refine LeO.ite ?_ ?_)
   | (with_reducible refine LeO.bind ?_ (fun _ => ?_))
   | exact ih0 _ _ _ _ _ _
   | exact ih1 _ _ _ _ _ _
   | exact ih2 _ _ _ _ _ _
   | exact LeO.none _
   | refine LeO.ite ?_ ?_
   | refine LeO.bind ?_ (fun _ => ?_)
theorem exactpplref19_sound.mono : ∀ a0 a1 k, LeO (exactpplref19_sound.f k a0 a1) (exactpplref19_sound.f (k + 1) a0 a1) := by
 intro a0 a1 k
 obtain ⟨ih0, ih1, ih2⟩ := exactpplref19_sound.mono_l k
 unfold exactpplref19_sound.f
 repeat' first
   | (with_reducible exact ih0 _ _ _ _ _ _)
   | (with_reducible exact ih1 _ _ _ _ _ _)
   | (with_reducible exact ih2 _ _ _ _ _ _)
   | (with_reducible exact LeO.refl _)
   | (with_reducible exact LeO.none _)
   | (with_reducible refine LeO.ite ?_ ?_)
   | (with_reducible refine LeO.bind ?_ (fun _ => ?_))
   | exact ih0 _ _ _ _ _ _
   | exact ih1 _ _ _ _ _ _
   | exact ih2 _ _ _ _ _ _
   | exact LeO.none _
   | refine LeO.ite ?_ ?_
   | refine LeO.bind ?_ (fun _ => ?_)
def exactpplref19_sound.T10 : Bool × List (List Nat × List Nat) := (true, [([], []), ([0], [0]), ([1], [1]), ([2], [2]), ([2], [2]), ([3, 4, 2], [2, 3, 4]), ([2, 5], [2, 5]), ([6, 2], [6]), ([7], [7]), ([7], [7]), ([8, 9, 7], [7, 8, 9]), ([10, 7], [7, 10]), ([11, 7, 7], [7, 11]), ([12, 12, 7], [7, 12]), ([13], [13]), ([13], [13]), ([14, 15, 13], [13, 14, 15]), ([16, 13], [13, 16]), ([17, 13], [13, 17]), ([13], [13]), ([19, 13], [13, 19]), ([18, 20, 13], [13, 18, 20]), ([13, 21, 7], [7, 13, 21]), ([7, 22], [7, 22])])
def exactpplref19_sound.B10 : List Nat := [0, 1, 3, 7, 7, 31, 63, 127, 255, 255, 1023, 2047, 4095, 8191, 16383, 16383, 65535, 131071, 262143, 16383, 540671, 2097151, 4194303, 8388607]
theorem exactpplref19_sound.tab10 : rtab .any (opsOf Tryd.f77 10) = exactpplref19_sound.T10 := by kernel_rfl
theorem exactpplref19_sound.bits10 : waitsOk exactpplref19_sound.T10.2 exactpplref19_sound.B10 = true := by kernel_rfl
def exactpplref19_sound.T15 : Bool × List (List Nat × List Nat) := (true, [([], []), ([], []), ([0, 1], [0, 1]), ([2], [2]), ([3], [3]), ([], []), ([5], [5]), ([4, 6], [4, 6]), ([7], [7]), ([8], [8]), ([8], [8]), ([9, 10, 8], [8, 9, 10]), ([11, 8], [8, 11]), ([12, 8], [8, 12]), ([13, 8], [8, 13]), ([8], [8]), ([15, 8], [8, 15]), ([16, 8], [8, 16]), ([14, 17, 8], [8, 14, 17]), ([8, 18], [8, 18])])
def exactpplref19_sound.B15 : List Nat := [0, 0, 3, 7, 15, 0, 32, 127, 255, 511, 511, 2047, 4095, 8191, 16383, 511, 33279, 98815, 262143, 524287]
theorem exactpplref19_sound.tab15 : rtab .any (opsOf Tryd.f77 15) = exactpplref19_sound.T15 := by kernel_rfl
theorem exactpplref19_sound.bits15 : waitsOk exactpplref19_sound.T15.2 exactpplref19_sound.B15 = true := by kernel_rfl
set_option maxHeartbeats 8000000 in
set_option maxRecDepth 100000 in
theorem exactpplref19_sound.calls (k : Nat) (A0 : Option Addr) (c0 : Nat) (l0 : List (S60)) (a1 : Int) (r : Bool) (w : World) (hr0 : Kd.C k60 w A0 l0.length l0) (hc0 : l0.length ≤ c0) (h : exactpplref19_sound.f k l0 a1 = some r) :
  Calls Tryd.prog 77 #[.slice A0 l0.length c0, .int .i64 a1] w fun e w' => e = .returned (.bool r) ∧ Below w.heap.size w w' := by
 have hu60 := Tryd.underlying60
 have HR0 := Aside0.mk hr0
 have HC0 := Aside0.mk hc0
 clear hr0 hc0
 have HB := Aside0.mk (Below.refl w.heap.size w)
 have H : (if 0 ≤ a1 then (if a1 < (l0.length : Int) then ((exactpplref19_IsBranch.f ((rd_T60 l0 a1).f0) ((rd_T60 l0 a1).f1) ((rd_T60 l0 a1).f2)).bind fun t147 => (if t147 = true then (if ((rd_T60 l0 a1).f0) < 0 then (exactpplref19_sound.j0 k l0 a1 true ((rd_T60 l0 a1).f0) ((rd_T60 l0 a1).f1) ((rd_T60 l0 a1).f2)) else (if ((rd_T60 l0 a1).f0) ≥ 64 then (exactpplref19_sound.j0 k l0 a1 true ((rd_T60 l0 a1).f0) ((rd_T60 l0 a1).f1) ((rd_T60 l0 a1).f2)) else (if ((rd_T60 l0 a1).f1) = 0 then (if (((rd_T60 l0 a1).f2).length : Int) < 1 then (exactpplref19_sound.j0 k l0 a1 true ((rd_T60 l0 a1).f0) ((rd_T60 l0 a1).f1) ((rd_T60 l0 a1).f2)) else (exactpplref19_sound.j0 k l0 a1 (decide ((((rd_T60 l0 a1).f2).length : Int) > 16)) ((rd_T60 l0 a1).f0) ((rd_T60 l0 a1).f1) ((rd_T60 l0 a1).f2))) else (exactpplref19_sound.j0 k l0 a1 true ((rd_T60 l0 a1).f0) ((rd_T60 l0 a1).f1) ((rd_T60 l0 a1).f2))))) else (if (((rd_T60 l0 a1).f2).length : Int) = 0 then (if ((rd_T60 l0 a1).f1) ≥ (-1073741824) then (some (decide (((rd_T60 l0 a1).f1) ≤ 1073741824))) else (some false)) else (some false)))) else (none)) else (none)) = some r := h
 clear h
 by_cases c3 : 0 ≤ a1
 ·rw [if_pos c3] at H
  have c3b0 : decide (0 ≤ a1) = true := decide_eq_true c3
  clear c3
  by_cases c4 : a1 < (l0.length : Int)
  ·rw [if_pos c4] at H
   have c4b0 : decide (a1 < (l0.length : Int)) = true := decide_eq_true c4
   clear c4
   replace H := Option.bind_eq_some_iff.mp H
   obtain ⟨t147, A50, H⟩ := H
   replace H : (if t147 = true then (if ((rd_T60 l0 a1).f0) < 0 then (exactpplref19_sound.j0 k l0 a1 true ((rd_T60 l0 a1).f0) ((rd_T60 l0 a1).f1) ((rd_T60 l0 a1).f2)) else (if ((rd_T60 l0 a1).f0) ≥ 64 then (exactpplref19_sound.j0 k l0 a1 true ((rd_T60 l0 a1).f0) ((rd_T60 l0 a1).f1) ((rd_T60 l0 a1).f2)) else (if ((rd_T60 l0 a1).f1) = 0 then (if (((rd_T60 l0 a1).f2).length : Int) < 1 then (exactpplref19_sound.j0 k l0 a1 true ((rd_T60 l0 a1).f0) ((rd_T60 l0 a1).f1) ((rd_T60 l0 a1).f2)) else (exactpplref19_sound.j0 k l0 a1 (decide ((((rd_T60 l0 a1).f2).length : Int) > 16)) ((rd_T60 l0 a1).f0) ((rd_T60 l0 a1).f1) ((rd_T60 l0 a1).f2))) else (exactpplref19_sound.j0 k l0 a1 true ((rd_T60 l0 a1).f0) ((rd_T60 l0 a1).f1) ((rd_T60 l0 a1).f2))))) else (if (((rd_T60 l0 a1).f2).length : Int) = 0 then (if ((rd_T60 l0 a1).f1) ≥ (-1073741824) then (some (decide (((rd_T60 l0 a1).f1) ≤ 1073741824))) else (some false)) else (some false))) = some r := H
   have A5 := Aside0.mk A50
   clear A50
   by_cases c6 : t147 = true
   ·subst c6
    have H1 : (if ((rd_T60 l0 a1).f0) < 0 then (exactpplref19_sound.j0 k l0 a1 true ((rd_T60 l0 a1).f0) ((rd_T60 l0 a1).f1) ((rd_T60 l0 a1).f2)) else (if ((rd_T60 l0 a1).f0) ≥ 64 then (exactpplref19_sound.j0 k l0 a1 true ((rd_T60 l0 a1).f0) ((rd_T60 l0 a1).f1) ((rd_T60 l0 a1).f2)) else (if ((rd_T60 l0 a1).f1) = 0 then (if (((rd_T60 l0 a1).f2).length : Int) < 1 then (exactpplref19_sound.j0 k l0 a1 true ((rd_T60 l0 a1).f0) ((rd_T60 l0 a1).f1) ((rd_T60 l0 a1).f2)) else (exactpplref19_sound.j0 k l0 a1 (decide ((((rd_T60 l0 a1).f2).length : Int) > 16)) ((rd_T60 l0 a1).f0) ((rd_T60 l0 a1).f1) ((rd_T60 l0 a1).f2))) else (exactpplref19_sound.j0 k l0 a1 true ((rd_T60 l0 a1).f0) ((rd_T60 l0 a1).f1) ((rd_T60 l0 a1).f2))))) = some r := by rw [if_pos rfl] at H; exact H
    clear H
    have H := H1
    clear H1
    have HC7 := Aside0.mk H
    clear H
    have p145 : 0 ≤ (a1 : Int) := dt_
    have q145 : a1 < (l0.length : Int) := dt_
    obtain ⟨ad145, A145_2, c145_2, e145, hx145_0, hx145_1, hx145_2, hl145_2, hi145_2⟩ := at_T60 HR0.out a1 p145 q145
    cases e145
    have HR145_2 := Aside0.mk hi145_2
    have HC145_2 := Aside0.mk hl145_2
    clear hi145_2 hl145_2
    replace p145 := eq_true p145
    replace q145 := eq_true q145
    go_enter Tryd.func77, Tryd.ntmps77
    go_upto_region 4 with (first | ((with_reducible refine gate_dst (N := 5) rfl ?_); (try (refine gate_guard (by rfl) ?_; dsimp only)); refine box_event ?hg (N := 5) ?hd (cs := #[.int .i64 0, .int .i64 0, .slice none 0 0]) (t := 60) ?hr ?_; (case hd => rfl); (case hg => rfl); (case hr => first | (go_simp; done) | (go_simp; rfl)); intro gb146 hg w8 hbox hb; have BK146 := Aside0.mk (hbox); have GW146 : Aside0 (w.heap.size ≤ gb146) := gw_ hg (below_size bl_); have GE146 := GW146; replace HB := Aside0.mk (below_step bl_ hb); clear hb hbox hg; obtain ⟨hcz9_0, hcz9_1, hcz9_2, hfz9_0, hfz9_1, hfz9_2⟩ := cf3_ BK146.out) | ((with_reducible refine gate_callee (f := 55) rfl ?_); refine goesL_ (some 14) rfl rfl Tryd.func55 (by kernel_rfl) rfl #[.agg #[.int .i64 ((rd_T60 l0 a1).f0), .int .i64 ((rd_T60 l0 a1).f1), .slice A145_2 ((rd_T60 l0 a1).f2).length c145_2]] rfl (by (try simp only [List.map_toArray, List.map_cons, List.map_nil]); first | done | rfl | (simp only [List.length_drop, List.length_take]; rfl)) ?_; (with_reducible refine (exactpplref19_IsBranch.calls ((rd_T60 l0 a1).f0) ((rd_T60 l0 a1).f1) _ _ ((rd_T60 l0 a1).f2) true _ ?side1 ?side2 A5.out).mono ?_); (case side1 => exact Kd.C_below HR145_2.out bl_); (case side2 => exact HC145_2.out); rintro e w10 ⟨rfl, hb⟩; refine ⟨_, rfl, ?_⟩; replace BK146 := Aside0.mk (blk_below (g := gb146) (o := .cells #[.int .i64 ((rd_T60 l0 a1).f0), .int .i64 ((rd_T60 l0 a1).f1), .slice A145_2 ((rd_T60 l0 a1).f2).length c145_2] 60 (0, 0)) (by (with_reducible repeat (first | refine blk_drewN ?_ _ | refine blk_drew ?_ | refine blk_alloc ?_ _)); refine blk_put (cs := #[.int .i64 ((rd_T60 l0 a1).f0), .int .i64 ((rd_T60 l0 a1).f1), .slice none 0 0]) ?_ 2 _ rfl; (with_reducible repeat (first | refine blk_drewN ?_ _ | refine blk_drew ?_ | refine blk_alloc ?_ _)); refine blk_put (cs := #[.int .i64 ((rd_T60 l0 a1).f0), .int .i64 0, .slice none 0 0]) ?_ 1 _ rfl; (with_reducible repeat (first | refine blk_drewN ?_ _ | refine blk_drew ?_ | refine blk_alloc ?_ _)); refine blk_put (cs := #[.int .i64 0, .int .i64 0, .slice none 0 0]) ?_ 0 _ rfl; (with_reducible repeat (first | refine blk_drewN ?_ _ | refine blk_drew ?_ | refine blk_alloc ?_ _)); exact BK146.out) hb); replace HB := Aside0.mk (below_step bl_ hb); (try clear hb); (try clear hb2); (try clear hk); (try clear hi)))
    (try simp only [Act.put, List.setIfInBounds_toArray, List.set_cons_zero, List.set_cons_succ])
    go_cut [54] (fun v54 wc => ∃ (kq : Nat) (x54_6 : Bool), v54 = .bool x54_6 ∧ Aside0 (exactpplref19_sound.j0 kq l0 a1 x54_6 ((rd_T60 l0 a1).f0) ((rd_T60 l0 a1).f1) ((rd_T60 l0 a1).f2) = some r) ∧ Aside0 (kq ≤ k) ∧ Aside0 (wc.heap[gb146]? = some (.cells #[.int .i64 ((rd_T60 l0 a1).f0), .int .i64 ((rd_T60 l0 a1).f1), (.slice A145_2 ((rd_T60 l0 a1).f2).length c145_2)] 60 (0, 0))) ∧ Aside0 (Below w.heap.size w wc))
    case first =>
     have H := HC7.out
     clear HC7
     by_cases c11 : ((rd_T60 l0 a1).f0) < 0
     ·rw [if_pos c11] at H
      have c11b0 : decide (((rd_T60 l0 a1).f0) < 0) = true := decide_eq_true c11
      clear c11
      (first | rw [c11b0] | (simp only [i64_w, i32_w]; rw [c11b0]) | skip)
      have H' := Aside0.mk H
      clear H
      obtain ⟨hcz12_0, hcz12_1, hcz12_2, hfz12_0, hfz12_1, hfz12_2⟩ := cf3_ BK146.out
      go_wp2
      go_meet
      case rel => exact ⟨_, (true), rs_, H', ⟨by first | omega | exact Nat.le_refl _⟩, ⟨bk_⟩, ⟨bl_⟩⟩
     ·rw [if_neg c11] at H
      have c11b0 : decide (((rd_T60 l0 a1).f0) < 0) = false := decide_eq_false c11
      clear c11
      (first | rw [c11b0] | (simp only [i64_w, i32_w]; rw [c11b0]) | skip)
      by_cases c13 : ((rd_T60 l0 a1).f0) ≥ 64
      ·rw [if_pos c13] at H
       have c13b0 : decide (64 ≤ ((rd_T60 l0 a1).f0)) = true := decide_eq_true c13
       clear c13
       have H' := Aside0.mk H
       clear H
       obtain ⟨hcz14_0, hcz14_1, hcz14_2, hfz14_0, hfz14_1, hfz14_2⟩ := cf3_ BK146.out
       go_wp2
       go_meet
       case rel => exact ⟨_, (true), rs_, H', ⟨by first | omega | exact Nat.le_refl _⟩, ⟨bk_⟩, ⟨bl_⟩⟩
      ·rw [if_neg c13] at H
       have c13b0 : decide (64 ≤ ((rd_T60 l0 a1).f0)) = false := decide_eq_false c13
       clear c13
       by_cases c15 : ((rd_T60 l0 a1).f1) = 0
       ·rw [if_pos c15] at H
        have c15b0 : (((rd_T60 l0 a1).f1) == 0) = true := beq_iff_eq.mpr c15
        have c15b1 : (((rd_T60 l0 a1).f1) != 0) = false := bne_eq_false_iff_eq.mpr c15
        clear c15
        by_cases c16 : (((rd_T60 l0 a1).f2).length : Int) < 1
        ·rw [if_pos c16] at H
         have c16b0 : decide ((((rd_T60 l0 a1).f2).length : Int) < 1) = true := decide_eq_true c16
         have c16b1 : decide (((rd_T60 l0 a1).f2).length < 1) = true := decide_eq_true (by omega)
         clear c16
         have H' := Aside0.mk H
         clear H
         obtain ⟨hcz17_0, hcz17_1, hcz17_2, hfz17_0, hfz17_1, hfz17_2⟩ := cf3_ BK146.out
         go_wp2
         go_meet
         case rel => exact ⟨_, (true), rs_, H', ⟨by first | omega | exact Nat.le_refl _⟩, ⟨bk_⟩, ⟨bl_⟩⟩
        ·rw [if_neg c16] at H
         have c16b0 : decide ((((rd_T60 l0 a1).f2).length : Int) < 1) = false := decide_eq_false c16
         have c16b1 : decide (((rd_T60 l0 a1).f2).length < 1) = false := decide_eq_false (by omega)
         clear c16
         have H' := Aside0.mk H
         clear H
         obtain ⟨hcz18_0, hcz18_1, hcz18_2, hfz18_0, hfz18_1, hfz18_2⟩ := cf3_ BK146.out
         go_wp2
         go_meet
         case rel => exact ⟨_, (decide ((((rd_T60 l0 a1).f2).length : Int) > 16)), rs_, H', ⟨by first | omega | exact Nat.le_refl _⟩, ⟨bk_⟩, ⟨bl_⟩⟩
       ·rw [if_neg c15] at H
        have c15b0 : (((rd_T60 l0 a1).f1) == 0) = false := beq_eq_false_iff_ne.mpr c15
        have c15b1 : (((rd_T60 l0 a1).f1) != 0) = true := bne_iff_ne.mpr c15
        have H' := Aside0.mk H
        clear H
        obtain ⟨hcz19_0, hcz19_1, hcz19_2, hfz19_0, hfz19_1, hfz19_2⟩ := cf3_ BK146.out
        go_wp2
        go_meet
        case rel => exact ⟨_, (true), rs_, H', ⟨by first | omega | exact Nat.le_refl _⟩, ⟨bk_⟩, ⟨bl_⟩⟩
    case rest =>
     clear HC7
     try clear c1
     try clear p1
     try clear q1
     try clear hx1
     try clear p2
     try clear c3
     try clear c3b0
     try clear c4
     try clear c4b0
     try clear c5
     try clear c6
     try clear c7
     try clear c11
     try clear c11b0
     try clear c13
     try clear c13b0
     try clear c14
     try clear p14
     try clear q14
     try clear hx14
     try clear c15
     try clear c15b0
     try clear c15b1
     try clear c16
     try clear c16b0
     try clear c16b1
     try clear hcz12_0 hcz12_1 hcz12_2 hfz12_0 hfz12_1 hfz12_2
     try clear hcz14_0 hcz14_1 hcz14_2 hfz14_0 hfz14_1 hfz14_2
     try clear hcz17_0 hcz17_1 hcz17_2 hfz17_0 hfz17_1 hfz17_2
     try clear hcz18_0 hcz18_1 hcz18_2 hfz18_0 hfz18_1 hfz18_2
     try clear hcz19_0 hcz19_1 hcz19_2 hfz19_0 hfz19_1 hfz19_2
     try clear hcz9_0 hcz9_1 hcz9_2 hfz9_0 hfz9_1 hfz9_2
     try clear hx145_0
     try clear hx145_1
     try clear hx145_2
     try clear p145
     try clear q145
     obtain ⟨kq, x54_6, rfl, HA, HJ6, BK146, HB⟩ := hcut
     cases kq with
     | zero => exact absurd HA.out (by simp [exactpplref19_sound.j0])
     | succ kj6 =>
      have H := HA.out
      clear HA
      simp only [exactpplref19_sound.j0] at H
      by_cases c20 : x54_6 = true
      ·subst c20
       have H1 : (some false) = some r := by rw [if_pos rfl] at H; exact H
       clear H
       have H := H1
       clear H1
       obtain rfl := Option.some.inj H
       go_wp2
       go_ret
       exact ⟨re_, bl_⟩
      ·replace c20 := Bool.eq_false_iff.mpr c20
       subst c20
       have H1 : (exactpplref19_sound.l0 kj6 l0 a1 0 ((rd_T60 l0 a1).f0) ((rd_T60 l0 a1).f1) ((rd_T60 l0 a1).f2)) = some r := by rw [if_neg (show ¬ (false = true) by decide)] at H; exact H
       clear H
       have H := H1
       clear H1
       have H' := Aside0.mk H
       clear H
       go_wp2
       go_loopg [6] kj6 (fun kq v6 w' => ∃ (x6_2 : Int), v6 = .int .i64 x6_2 ∧ Aside0 (exactpplref19_sound.l0 kq l0 a1 x6_2 ((rd_T60 l0 a1).f0) ((rd_T60 l0 a1).f1) ((rd_T60 l0 a1).f2) = some r) ∧ Aside0 (kq ≤ kj6) ∧ Aside0 (w'.heap[gb146]? = some (.cells #[.int .i64 ((rd_T60 l0 a1).f0), .int .i64 ((rd_T60 l0 a1).f1), (.slice A145_2 ((rd_T60 l0 a1).f2).length c145_2)] 60 (0, 0))) ∧ Aside0 (Below w.heap.size w w'))
       case atStart => exact ⟨(0), rs_, H', ⟨Nat.le_refl _⟩, ⟨bk_⟩, ⟨bl_⟩⟩
       case round =>
        clear H'
        try clear c1
        try clear p1
        try clear q1
        try clear hx1
        try clear c2
        try clear p2
        try clear c3
        try clear c3b0
        try clear c4
        try clear c4b0
        try clear c5
        try clear c6
        try clear c7
        try clear c11
        try clear c11b0
        try clear c13
        try clear c13b0
        try clear c14
        try clear p14
        try clear q14
        try clear hx14
        try clear c15
        try clear c15b0
        try clear c15b1
        try clear c16
        try clear c16b0
        try clear c16b1
        try clear c20
        try clear hcz12_0 hcz12_1 hcz12_2 hfz12_0 hfz12_1 hfz12_2
        try clear hcz14_0 hcz14_1 hcz14_2 hfz14_0 hfz14_1 hfz14_2
        try clear hcz17_0 hcz17_1 hcz17_2 hfz17_0 hfz17_1 hfz17_2
        try clear hcz18_0 hcz18_1 hcz18_2 hfz18_0 hfz18_1 hfz18_2
        try clear hcz19_0 hcz19_1 hcz19_2 hfz19_0 hfz19_1 hfz19_2
        try clear hcz9_0 hcz9_1 hcz9_2 hfz9_0 hfz9_1 hfz9_2
        try clear hx145_0
        try clear hx145_1
        try clear hx145_2
        try clear p1
        try clear p14
        try clear p145
        try clear p2
        try clear q1
        try clear q14
        try clear q145
        obtain ⟨x6_2, rfl, HA, HK2, BK146, HB⟩ := hrel
        cases gk with
        | zero => exact absurd HA.out (by simp [exactpplref19_sound.l0])
        | succ k2 =>
         have H := HA.out
         clear HA
         simp only [exactpplref19_sound.l0] at H
         by_cases c21 : x6_2 < (((rd_T60 l0 a1).f2).length : Int)
         ·rw [if_pos c21] at H
          have c21b0 : decide (x6_2 < (((rd_T60 l0 a1).f2).length : Int)) = true := decide_eq_true c21
          clear c21
          by_cases c22 : 0 ≤ x6_2
          ·rw [if_pos c22] at H
           have c22b0 : decide (0 ≤ x6_2) = true := decide_eq_true c22
           clear c22
           by_cases c23 : (rd ((rd_T60 l0 a1).f2) x6_2) < 0
           ·rw [if_pos c23] at H
            have c23b0 : decide ((rd ((rd_T60 l0 a1).f2) x6_2) < 0) = true := decide_eq_true c23
            clear c23
            obtain rfl := Option.some.inj H
            obtain ⟨hcz24_0, hcz24_1, hcz24_2, hfz24_0, hfz24_1, hfz24_2⟩ := cf3_ BK146.out
            have p148 : 0 ≤ (x6_2 : Int) := dt_
            have q148 : x6_2 < (((rd_T60 l0 a1).f2).length : Int) := dt_
            obtain ⟨ad148, e148, hx148_0⟩ := Kd.at_int HR145_2.out x6_2 p148 q148
            cases e148
            replace hx148_0 := (HB.out.cell (World.block_lt_of_cell? w _ hx148_0)).trans hx148_0
            replace p148 := eq_true p148
            replace q148 := eq_true q148
            try go_wp2
            replace BK146 := Aside0.mk (blk_drew BK146.out)
            replace HB := Aside0.mk (below_drew1 HB.out)
            refine start_ (n := 24) (S := fun w' => True) (ds := []) #[false, false, false, false, false, false, false, false, false, false, false, false, false, false, false, false, false, false, false, false, false, false, false, false] (by kernel_rfl) rfl rfl trivial (fun hHeld => ?_); refine with_tabW exactpplref19_sound.tab10 exactpplref19_sound.bits10 (fun HT_ HW_ => ?_)
            generalize wr.drew = w25 at BK146 HB hHeld ⊢
            refine pu_ HT_ 0 67 (bm 24 1) ?_
            refine pu_ HT_ 1 68 (bm 24 3) ?_
            refine pu_ HT_ 2 69 (bm 24 7) ?_
            refine pf_ HT_ 3 70 (bm 24 15) ?_
            refine pf_ HT_ 4 71 (bm 24 31) ?_
            refine pf_ HT_ 5 72 (bm 24 63) ?_
            refine pu_ HT_ 6 73 (bm 24 127) ?_
            refine pu_ HT_ 7 74 (bm 24 255) ?_
            refine pf_ HT_ 8 75 (bm 24 511) ?_
            refine pf_ HT_ 9 76 (bm 24 1023) ?_
            refine pf_ HT_ 10 77 (bm 24 2047) ?_
            refine pf_ HT_ 11 78 (bm 24 4095) ?_
            refine pf_ HT_ 12 79 (bm 24 8191) ?_
            refine pf_ HT_ 13 80 (bm 24 16383) ?_
            refine pf_ HT_ 14 81 (bm 24 32767) ?_
            refine pf_ HT_ 15 82 (bm 24 65535) ?_
            refine pf_ HT_ 16 83 (bm 24 131071) ?_
            refine pf_ HT_ 17 84 (bm 24 262143) ?_
            refine pf_ HT_ 18 85 (bm 24 524287) ?_
            refine pf_ HT_ 19 86 (bm 24 1048575) ?_
            refine pf_ HT_ 20 87 (bm 24 2097151) ?_
            refine pf_ HT_ 21 88 (bm 24 4194303) ?_
            refine pf_ HT_ 22 89 (bm 24 8388607) ?_
            refine pu_ HT_ 23 90 #[true, true, true, true, true, true, true, true, true, true, true, true, true, true, true, true, true, true, true, true, true, true, true, true] ?_
            refine done_ (done_of HT_.out (by kernel_rfl)) ?_
            try go_wp2
            go_ret
            exact ⟨re_, bl_⟩
           ·rw [if_neg c23] at H
            have c23b0 : decide ((rd ((rd_T60 l0 a1).f2) x6_2) < 0) = false := decide_eq_false c23
            clear c23
            by_cases c26 : (rd ((rd_T60 l0 a1).f2) x6_2) ≥ a1
            ·rw [if_pos c26] at H
             have c26b0 : decide (a1 ≤ (rd ((rd_T60 l0 a1).f2) x6_2)) = true := decide_eq_true c26
             clear c26
             obtain rfl := Option.some.inj H
             obtain ⟨hcz27_0, hcz27_1, hcz27_2, hfz27_0, hfz27_1, hfz27_2⟩ := cf3_ BK146.out
             have p148 : 0 ≤ (x6_2 : Int) := dt_
             have q148 : x6_2 < (((rd_T60 l0 a1).f2).length : Int) := dt_
             obtain ⟨ad148, e148, hx148_0⟩ := Kd.at_int HR145_2.out x6_2 p148 q148
             cases e148
             replace hx148_0 := (HB.out.cell (World.block_lt_of_cell? w _ hx148_0)).trans hx148_0
             replace p148 := eq_true p148
             replace q148 := eq_true q148
             try go_wp2
             replace BK146 := Aside0.mk (blk_drew BK146.out)
             replace HB := Aside0.mk (below_drew1 HB.out)
             refine start_ (n := 24) (S := fun w' => True) (ds := []) #[false, false, false, false, false, false, false, false, false, false, false, false, false, false, false, false, false, false, false, false, false, false, false, false] (by kernel_rfl) rfl rfl trivial (fun hHeld => ?_); refine with_tabW exactpplref19_sound.tab10 exactpplref19_sound.bits10 (fun HT_ HW_ => ?_)
             generalize wr.drew = w28 at BK146 HB hHeld ⊢
             refine pu_ HT_ 0 67 (bm 24 1) ?_
             refine pu_ HT_ 1 68 (bm 24 3) ?_
             refine pu_ HT_ 2 69 (bm 24 7) ?_
             refine pu_ HT_ 3 70 (bm 24 15) ?_
             refine pu_ HT_ 4 71 (bm 24 31) ?_
             refine pu_ HT_ 5 72 (bm 24 63) ?_
             refine pu_ HT_ 6 73 (bm 24 127) ?_
             refine pu_ HT_ 7 74 (bm 24 255) ?_
             refine pf_ HT_ 8 75 (bm 24 511) ?_
             refine pf_ HT_ 9 76 (bm 24 1023) ?_
             refine pf_ HT_ 10 77 (bm 24 2047) ?_
             refine pf_ HT_ 11 78 (bm 24 4095) ?_
             refine pf_ HT_ 12 79 (bm 24 8191) ?_
             refine pf_ HT_ 13 80 (bm 24 16383) ?_
             refine pf_ HT_ 14 81 (bm 24 32767) ?_
             refine pf_ HT_ 15 82 (bm 24 65535) ?_
             refine pf_ HT_ 16 83 (bm 24 131071) ?_
             refine pf_ HT_ 17 84 (bm 24 262143) ?_
             refine pf_ HT_ 18 85 (bm 24 524287) ?_
             refine pf_ HT_ 19 86 (bm 24 1048575) ?_
             refine pf_ HT_ 20 87 (bm 24 2097151) ?_
             refine pf_ HT_ 21 88 (bm 24 4194303) ?_
             refine pf_ HT_ 22 89 (bm 24 8388607) ?_
             refine pu_ HT_ 23 90 #[true, true, true, true, true, true, true, true, true, true, true, true, true, true, true, true, true, true, true, true, true, true, true, true] ?_
             refine done_ (done_of HT_.out (by kernel_rfl)) ?_
             try go_wp2
             go_ret
             exact ⟨re_, bl_⟩
            ·rw [if_neg c26] at H
             have c26b0 : decide (a1 ≤ (rd ((rd_T60 l0 a1).f2) x6_2)) = false := decide_eq_false c26
             clear c26
             by_cases c29 : 0 ≤ (rd ((rd_T60 l0 a1).f2) x6_2)
             ·rw [if_pos c29] at H
              have c29b0 : decide (0 ≤ (rd ((rd_T60 l0 a1).f2) x6_2)) = true := decide_eq_true c29
              clear c29
              by_cases c30 : (rd ((rd_T60 l0 a1).f2) x6_2) < (l0.length : Int)
              ·rw [if_pos c30] at H
               have c30b0 : decide ((rd ((rd_T60 l0 a1).f2) x6_2) < (l0.length : Int)) = true := decide_eq_true c30
               clear c30
               replace H := Option.bind_eq_some_iff.mp H
               obtain ⟨t150, A310, H⟩ := H
               replace H : (if t150 = true then (if ((rd_T60 l0 (rd ((rd_T60 l0 a1).f2) x6_2)).f0) ≤ ((rd_T60 l0 a1).f0) then (some false) else (exactpplref19_sound.l0 k2 l0 a1 (wrap64 (x6_2 + 1)) ((rd_T60 l0 a1).f0) ((rd_T60 l0 a1).f1) ((rd_T60 l0 a1).f2))) else (exactpplref19_sound.l0 k2 l0 a1 (wrap64 (x6_2 + 1)) ((rd_T60 l0 a1).f0) ((rd_T60 l0 a1).f1) ((rd_T60 l0 a1).f2))) = some r := H
               have A31 := Aside0.mk A310
               clear A310
               by_cases c32 : t150 = true
               ·subst c32
                have H1 : (if ((rd_T60 l0 (rd ((rd_T60 l0 a1).f2) x6_2)).f0) ≤ ((rd_T60 l0 a1).f0) then (some false) else (exactpplref19_sound.l0 k2 l0 a1 (wrap64 (x6_2 + 1)) ((rd_T60 l0 a1).f0) ((rd_T60 l0 a1).f1) ((rd_T60 l0 a1).f2))) = some r := by rw [if_pos rfl] at H; exact H
                clear H
                have H := H1
                clear H1
                by_cases c33 : ((rd_T60 l0 (rd ((rd_T60 l0 a1).f2) x6_2)).f0) ≤ ((rd_T60 l0 a1).f0)
                ·rw [if_pos c33] at H
                 have c33b0 : decide (((rd_T60 l0 (rd ((rd_T60 l0 a1).f2) x6_2)).f0) ≤ ((rd_T60 l0 a1).f0)) = true := decide_eq_true c33
                 clear c33
                 obtain rfl := Option.some.inj H
                 obtain ⟨hcz34_0, hcz34_1, hcz34_2, hfz34_0, hfz34_1, hfz34_2⟩ := cf3_ BK146.out
                 have p148 : 0 ≤ (x6_2 : Int) := dt_
                 have q148 : x6_2 < (((rd_T60 l0 a1).f2).length : Int) := dt_
                 obtain ⟨ad148, e148, hx148_0⟩ := Kd.at_int HR145_2.out x6_2 p148 q148
                 cases e148
                 replace hx148_0 := (HB.out.cell (World.block_lt_of_cell? w _ hx148_0)).trans hx148_0
                 replace p148 := eq_true p148
                 replace q148 := eq_true q148
                 try go_wp2
                 replace BK146 := Aside0.mk (blk_drew BK146.out)
                 replace HB := Aside0.mk (below_drew1 HB.out)
                 have p149 : 0 ≤ ((rd ((rd_T60 l0 a1).f2) x6_2) : Int) := dt_
                 have q149 : (rd ((rd_T60 l0 a1).f2) x6_2) < (l0.length : Int) := dt_
                 obtain ⟨ad149, A149_2, c149_2, e149, hx149_0, hx149_1, hx149_2, hl149_2, hi149_2⟩ := at_T60 HR0.out (rd ((rd_T60 l0 a1).f2) x6_2) p149 q149
                 have hw149_2 := hx149_2
                 have hw149_1 := hx149_1
                 have hw149_0 := hx149_0
                 obtain rfl : ad145 = ad149 := (by injection e149)
                 replace hx149_0 := (HB.out.cell (World.block_lt_of_cell? w _ hx149_0)).trans hx149_0
                 replace hx149_1 := (HB.out.cell (World.block_lt_of_cell? w _ hx149_1)).trans hx149_1
                 replace hx149_2 := (HB.out.cell (World.block_lt_of_cell? w _ hx149_2)).trans hx149_2
                 have HR149_2 := Aside0.mk hi149_2
                 have HC149_2 := Aside0.mk hl149_2
                 clear hi149_2 hl149_2
                 replace p149 := eq_true p149
                 replace q149 := eq_true q149
                 have p151 : 0 ≤ ((rd ((rd_T60 l0 a1).f2) x6_2) : Int) := dt_
                 have q151 : (rd ((rd_T60 l0 a1).f2) x6_2) < (l0.length : Int) := dt_
                 obtain ⟨ad151, A151_2, c151_2, e151, hx151_0, hx151_1, hx151_2, hl151_2, hi151_2⟩ := at_T60 HR0.out (rd ((rd_T60 l0 a1).f2) x6_2) p151 q151
                 have hw151_2 := hx151_2
                 have hw151_1 := hx151_1
                 have hw151_0 := hx151_0
                 obtain rfl : ad145 = ad151 := (by injection e151)
                 replace hx151_0 := (HB.out.cell (World.block_lt_of_cell? w _ hx151_0)).trans hx151_0
                 replace hx151_1 := (HB.out.cell (World.block_lt_of_cell? w _ hx151_1)).trans hx151_1
                 replace hx151_2 := (HB.out.cell (World.block_lt_of_cell? w _ hx151_2)).trans hx151_2
                 have HR151_2 := Aside0.mk hi151_2
                 have HC151_2 := Aside0.mk hl151_2
                 clear hi151_2 hl151_2
                 replace p151 := eq_true p151
                 replace q151 := eq_true q151
                 refine start_ (n := 24) (S := fun w' => w'.cell? ⟨gb146, 0, none⟩ = some (.int .i64 ((rd_T60 l0 a1).f0)) ∧ w'.cell? ⟨gb146, 1, none⟩ = some (.int .i64 ((rd_T60 l0 a1).f1)) ∧ w'.cell? ⟨gb146, 2, none⟩ = some (.slice (some ad148) ((rd_T60 l0 a1).f2).length c145_2) ∧ w'.cell? (ad145.add (((rd ((rd_T60 l0 a1).f2) x6_2)).toNat * 3)) = some (.int .i64 ((rd_T60 l0 (rd ((rd_T60 l0 a1).f2) x6_2)).f0)) ∧ w'.cell? ⟨(ad145.add (((rd ((rd_T60 l0 a1).f2) x6_2)).toNat * 3)).block, (ad145.add (((rd ((rd_T60 l0 a1).f2) x6_2)).toNat * 3)).off + 1, none⟩ = some (.int .i64 ((rd_T60 l0 (rd ((rd_T60 l0 a1).f2) x6_2)).f1)) ∧ w'.cell? ⟨(ad145.add (((rd ((rd_T60 l0 a1).f2) x6_2)).toNat * 3)).block, (ad145.add (((rd ((rd_T60 l0 a1).f2) x6_2)).toNat * 3)).off + 2, none⟩ = some (.slice A149_2 ((rd_T60 l0 (rd ((rd_T60 l0 a1).f2) x6_2)).f2).length c149_2) ∧ w'.cell? (ad145.add (((rd ((rd_T60 l0 a1).f2) x6_2)).toNat * 3)) = some (.int .i64 ((rd_T60 l0 (rd ((rd_T60 l0 a1).f2) x6_2)).f0)) ∧ w'.cell? ⟨(ad145.add (((rd ((rd_T60 l0 a1).f2) x6_2)).toNat * 3)).block, (ad145.add (((rd ((rd_T60 l0 a1).f2) x6_2)).toNat * 3)).off + 1, none⟩ = some (.int .i64 ((rd_T60 l0 (rd ((rd_T60 l0 a1).f2) x6_2)).f1)) ∧ w'.cell? ⟨(ad145.add (((rd ((rd_T60 l0 a1).f2) x6_2)).toNat * 3)).block, (ad145.add (((rd ((rd_T60 l0 a1).f2) x6_2)).toNat * 3)).off + 2, none⟩ = some (.slice A151_2 ((rd_T60 l0 (rd ((rd_T60 l0 a1).f2) x6_2)).f2).length c151_2)) (ds := []) #[false, false, false, false, false, false, false, false, false, false, false, false, false, false, false, false, false, false, false, false, false, false, false, false] (by kernel_rfl) rfl rfl ⟨(blk_cell BK146.out 0).trans rfl, (blk_cell BK146.out 1).trans rfl, (blk_cell BK146.out 2).trans rfl, ((HB.out.cell (World.block_lt_of_cell? w _ hw149_0)).trans hw149_0), ((HB.out.cell (World.block_lt_of_cell? w _ hw149_1)).trans hw149_1), ((HB.out.cell (World.block_lt_of_cell? w _ hw149_2)).trans hw149_2), ((HB.out.cell (World.block_lt_of_cell? w _ hw151_0)).trans hw151_0), ((HB.out.cell (World.block_lt_of_cell? w _ hw151_1)).trans hw151_1), ((HB.out.cell (World.block_lt_of_cell? w _ hw151_2)).trans hw151_2)⟩ (fun hHeld => ?_); refine with_tabW exactpplref19_sound.tab10 exactpplref19_sound.bits10 (fun HT_ HW_ => ?_)
                 generalize wr.drew = w35 at BK146 HB HR149_2 HR151_2 hx149_0 hx149_1 hx149_2 hx151_0 hx151_1 hx151_2 hHeld ⊢
                 refine pu_ HT_ 0 67 (bm 24 1) ?_
                 refine pu_ HT_ 1 68 (bm 24 3) ?_
                 refine pu_ HT_ 2 69 (bm 24 7) ?_
                 refine pu_ HT_ 3 70 (bm 24 15) ?_
                 refine pu_ HT_ 4 71 (bm 24 31) ?_
                 refine pu_ HT_ 5 72 (bm 24 63) ?_
                 refine pu_ HT_ 6 73 (bm 24 127) ?_
                 refine pu_ HT_ 7 74 (bm 24 255) ?_
                 refine pu_ HT_ 8 75 (bm 24 511) ?_
                 refine pu_ HT_ 9 76 (bm 24 1023) ?_
                 refine pu_ HT_ 10 77 (bm 24 2047) ?_
                 refine ta_ HT_ HW_ 11 78 (bm 24 4095) hHeld ?_
                 refine one_ (i := 12) (N := some 79) #[true, true, true, true, true, true, true, true, true, true, true, true, true, false, false, false, false, false, false, false, false, false, false, false] rfl rfl (one_of HT_.out (by kernel_rfl)) (by decide) (fun K hK => ?_)
                 refine goes_ Tryd.func55 (by kernel_rfl) rfl #[.agg #[.int .i64 ((rd_T60 l0 (rd ((rd_T60 l0 a1).f2) x6_2)).f0), .int .i64 ((rd_T60 l0 (rd ((rd_T60 l0 a1).f2) x6_2)).f1), .slice A149_2 ((rd_T60 l0 (rd ((rd_T60 l0 a1).f2) x6_2)).f2).length c149_2]] (by rfl) rfl rfl (by (try simp only [List.map_toArray, List.map_cons, List.map_nil]); first | done | rfl | (simp only [List.length_drop, List.length_take]; rfl)) ?_
                 with_reducible refine (exactpplref19_IsBranch.calls ((rd_T60 l0 (rd ((rd_T60 l0 a1).f2) x6_2)).f0) ((rd_T60 l0 (rd ((rd_T60 l0 a1).f2) x6_2)).f1) _ _ ((rd_T60 l0 (rd ((rd_T60 l0 a1).f2) x6_2)).f2) true _ ?side1 ?side2 A31.out).mono ?_
                 (case side1 => repeat (first | exact (Kd.C_below HR149_2.out HB.out) | (with_reducible refine Kd.C_alloc ?_ _) | (with_reducible refine Kd.C_drewN ?_ _) | (with_reducible refine Kd.C_drew ?_)))
                 (case side2 => exact HC149_2.out)
                 rintro e w36 ⟨rfl, hb⟩
                 refine ⟨_, rfl, ?_⟩
                 replace BK146 := Aside0.mk (blk_below (g := gb146) (o := .cells #[.int .i64 ((rd_T60 l0 a1).f0), .int .i64 ((rd_T60 l0 a1).f1), .slice (some ad148) ((rd_T60 l0 a1).f2).length c145_2] 60 (0, 0)) bk_ hb)
                 replace HB := Aside0.mk (below_step bl_ hb)
                 (try clear hb)
                 (try clear hb2)
                 (try clear hk)
                 (try clear hi)
                 refine hK.out _ _ ⟨(blk_cell BK146.out 0).trans rfl, (blk_cell BK146.out 1).trans rfl, (blk_cell BK146.out 2).trans rfl, ((HB.out.cell (World.block_lt_of_cell? w _ hw149_0)).trans hw149_0), ((HB.out.cell (World.block_lt_of_cell? w _ hw149_1)).trans hw149_1), ((HB.out.cell (World.block_lt_of_cell? w _ hw149_2)).trans hw149_2), ((HB.out.cell (World.block_lt_of_cell? w _ hw151_0)).trans hw151_0), ((HB.out.cell (World.block_lt_of_cell? w _ hw151_1)).trans hw151_1), ((HB.out.cell (World.block_lt_of_cell? w _ hw151_2)).trans hw151_2)⟩ (fun hHeld => ?_)
                 clear hK K
                 refine norm_ (a' := ?_) ?_ ?_
                 rotate_left
                 ·show Act.put _ (some 79) _ = _
                  simp only [Act.put, List.setIfInBounds_toArray, List.set_cons_zero, List.set_cons_succ, i64_w, i32_w]
                  rfl
                 refine pu_ HT_ 13 80 (bm 24 16383) ?_
                 refine pu_ HT_ 14 81 (bm 24 32767) ?_
                 refine pu_ HT_ 15 82 (bm 24 65535) ?_
                 refine pu_ HT_ 16 83 (bm 24 131071) ?_
                 refine pu_ HT_ 17 84 (bm 24 262143) ?_
                 refine pu_ HT_ 19 86 (bm 24 786431) ?_
                 refine ta_ HT_ HW_ 18 85 (bm 24 1048575) hHeld ?_
                 refine ta_ HT_ HW_ 20 87 (bm 24 2097151) hHeld ?_
                 refine pu_ HT_ 21 88 (bm 24 4194303) ?_
                 refine pu_ HT_ 22 89 (bm 24 8388607) ?_
                 refine pu_ HT_ 23 90 #[true, true, true, true, true, true, true, true, true, true, true, true, true, true, true, true, true, true, true, true, true, true, true, true] ?_
                 refine done_ (done_of HT_.out (by kernel_rfl)) ?_
                 try go_wp2
                 go_ret
                 exact ⟨re_, bl_⟩
                ·rw [if_neg c33] at H
                 have c33b0 : decide (((rd_T60 l0 (rd ((rd_T60 l0 a1).f2) x6_2)).f0) ≤ ((rd_T60 l0 a1).f0)) = false := decide_eq_false c33
                 clear c33
                 have H' := Aside0.mk H
                 clear H
                 obtain ⟨hcz37_0, hcz37_1, hcz37_2, hfz37_0, hfz37_1, hfz37_2⟩ := cf3_ BK146.out
                 have p148 : 0 ≤ (x6_2 : Int) := dt_
                 have q148 : x6_2 < (((rd_T60 l0 a1).f2).length : Int) := dt_
                 obtain ⟨ad148, e148, hx148_0⟩ := Kd.at_int HR145_2.out x6_2 p148 q148
                 cases e148
                 replace hx148_0 := (HB.out.cell (World.block_lt_of_cell? w _ hx148_0)).trans hx148_0
                 replace p148 := eq_true p148
                 replace q148 := eq_true q148
                 try go_wp2
                 replace BK146 := Aside0.mk (blk_drew BK146.out)
                 replace HB := Aside0.mk (below_drew1 HB.out)
                 have p149 : 0 ≤ ((rd ((rd_T60 l0 a1).f2) x6_2) : Int) := dt_
                 have q149 : (rd ((rd_T60 l0 a1).f2) x6_2) < (l0.length : Int) := dt_
                 obtain ⟨ad149, A149_2, c149_2, e149, hx149_0, hx149_1, hx149_2, hl149_2, hi149_2⟩ := at_T60 HR0.out (rd ((rd_T60 l0 a1).f2) x6_2) p149 q149
                 have hw149_2 := hx149_2
                 have hw149_1 := hx149_1
                 have hw149_0 := hx149_0
                 obtain rfl : ad145 = ad149 := (by injection e149)
                 replace hx149_0 := (HB.out.cell (World.block_lt_of_cell? w _ hx149_0)).trans hx149_0
                 replace hx149_1 := (HB.out.cell (World.block_lt_of_cell? w _ hx149_1)).trans hx149_1
                 replace hx149_2 := (HB.out.cell (World.block_lt_of_cell? w _ hx149_2)).trans hx149_2
                 have HR149_2 := Aside0.mk hi149_2
                 have HC149_2 := Aside0.mk hl149_2
                 clear hi149_2 hl149_2
                 replace p149 := eq_true p149
                 replace q149 := eq_true q149
                 have p151 : 0 ≤ ((rd ((rd_T60 l0 a1).f2) x6_2) : Int) := dt_
                 have q151 : (rd ((rd_T60 l0 a1).f2) x6_2) < (l0.length : Int) := dt_
                 obtain ⟨ad151, A151_2, c151_2, e151, hx151_0, hx151_1, hx151_2, hl151_2, hi151_2⟩ := at_T60 HR0.out (rd ((rd_T60 l0 a1).f2) x6_2) p151 q151
                 have hw151_2 := hx151_2
                 have hw151_1 := hx151_1
                 have hw151_0 := hx151_0
                 obtain rfl : ad145 = ad151 := (by injection e151)
                 replace hx151_0 := (HB.out.cell (World.block_lt_of_cell? w _ hx151_0)).trans hx151_0
                 replace hx151_1 := (HB.out.cell (World.block_lt_of_cell? w _ hx151_1)).trans hx151_1
                 replace hx151_2 := (HB.out.cell (World.block_lt_of_cell? w _ hx151_2)).trans hx151_2
                 have HR151_2 := Aside0.mk hi151_2
                 have HC151_2 := Aside0.mk hl151_2
                 clear hi151_2 hl151_2
                 replace p151 := eq_true p151
                 replace q151 := eq_true q151
                 refine start_ (n := 24) (S := fun w' => w'.cell? ⟨gb146, 0, none⟩ = some (.int .i64 ((rd_T60 l0 a1).f0)) ∧ w'.cell? ⟨gb146, 1, none⟩ = some (.int .i64 ((rd_T60 l0 a1).f1)) ∧ w'.cell? ⟨gb146, 2, none⟩ = some (.slice (some ad148) ((rd_T60 l0 a1).f2).length c145_2) ∧ w'.cell? (ad145.add (((rd ((rd_T60 l0 a1).f2) x6_2)).toNat * 3)) = some (.int .i64 ((rd_T60 l0 (rd ((rd_T60 l0 a1).f2) x6_2)).f0)) ∧ w'.cell? ⟨(ad145.add (((rd ((rd_T60 l0 a1).f2) x6_2)).toNat * 3)).block, (ad145.add (((rd ((rd_T60 l0 a1).f2) x6_2)).toNat * 3)).off + 1, none⟩ = some (.int .i64 ((rd_T60 l0 (rd ((rd_T60 l0 a1).f2) x6_2)).f1)) ∧ w'.cell? ⟨(ad145.add (((rd ((rd_T60 l0 a1).f2) x6_2)).toNat * 3)).block, (ad145.add (((rd ((rd_T60 l0 a1).f2) x6_2)).toNat * 3)).off + 2, none⟩ = some (.slice A149_2 ((rd_T60 l0 (rd ((rd_T60 l0 a1).f2) x6_2)).f2).length c149_2) ∧ w'.cell? (ad145.add (((rd ((rd_T60 l0 a1).f2) x6_2)).toNat * 3)) = some (.int .i64 ((rd_T60 l0 (rd ((rd_T60 l0 a1).f2) x6_2)).f0)) ∧ w'.cell? ⟨(ad145.add (((rd ((rd_T60 l0 a1).f2) x6_2)).toNat * 3)).block, (ad145.add (((rd ((rd_T60 l0 a1).f2) x6_2)).toNat * 3)).off + 1, none⟩ = some (.int .i64 ((rd_T60 l0 (rd ((rd_T60 l0 a1).f2) x6_2)).f1)) ∧ w'.cell? ⟨(ad145.add (((rd ((rd_T60 l0 a1).f2) x6_2)).toNat * 3)).block, (ad145.add (((rd ((rd_T60 l0 a1).f2) x6_2)).toNat * 3)).off + 2, none⟩ = some (.slice A151_2 ((rd_T60 l0 (rd ((rd_T60 l0 a1).f2) x6_2)).f2).length c151_2)) (ds := []) #[false, false, false, false, false, false, false, false, false, false, false, false, false, false, false, false, false, false, false, false, false, false, false, false] (by kernel_rfl) rfl rfl ⟨(blk_cell BK146.out 0).trans rfl, (blk_cell BK146.out 1).trans rfl, (blk_cell BK146.out 2).trans rfl, ((HB.out.cell (World.block_lt_of_cell? w _ hw149_0)).trans hw149_0), ((HB.out.cell (World.block_lt_of_cell? w _ hw149_1)).trans hw149_1), ((HB.out.cell (World.block_lt_of_cell? w _ hw149_2)).trans hw149_2), ((HB.out.cell (World.block_lt_of_cell? w _ hw151_0)).trans hw151_0), ((HB.out.cell (World.block_lt_of_cell? w _ hw151_1)).trans hw151_1), ((HB.out.cell (World.block_lt_of_cell? w _ hw151_2)).trans hw151_2)⟩ (fun hHeld => ?_); refine with_tabW exactpplref19_sound.tab10 exactpplref19_sound.bits10 (fun HT_ HW_ => ?_)
                 generalize wr.drew = w38 at BK146 HB HR149_2 HR151_2 hx149_0 hx149_1 hx149_2 hx151_0 hx151_1 hx151_2 hHeld ⊢
                 refine pu_ HT_ 0 67 (bm 24 1) ?_
                 refine pu_ HT_ 1 68 (bm 24 3) ?_
                 refine pu_ HT_ 2 69 (bm 24 7) ?_
                 refine pu_ HT_ 3 70 (bm 24 15) ?_
                 refine pu_ HT_ 4 71 (bm 24 31) ?_
                 refine pu_ HT_ 5 72 (bm 24 63) ?_
                 refine pu_ HT_ 6 73 (bm 24 127) ?_
                 refine pu_ HT_ 7 74 (bm 24 255) ?_
                 refine pu_ HT_ 8 75 (bm 24 511) ?_
                 refine pu_ HT_ 9 76 (bm 24 1023) ?_
                 refine pu_ HT_ 10 77 (bm 24 2047) ?_
                 refine ta_ HT_ HW_ 11 78 (bm 24 4095) hHeld ?_
                 refine one_ (i := 12) (N := some 79) #[true, true, true, true, true, true, true, true, true, true, true, true, true, false, false, false, false, false, false, false, false, false, false, false] rfl rfl (one_of HT_.out (by kernel_rfl)) (by decide) (fun K hK => ?_)
                 refine goes_ Tryd.func55 (by kernel_rfl) rfl #[.agg #[.int .i64 ((rd_T60 l0 (rd ((rd_T60 l0 a1).f2) x6_2)).f0), .int .i64 ((rd_T60 l0 (rd ((rd_T60 l0 a1).f2) x6_2)).f1), .slice A149_2 ((rd_T60 l0 (rd ((rd_T60 l0 a1).f2) x6_2)).f2).length c149_2]] (by rfl) rfl rfl (by (try simp only [List.map_toArray, List.map_cons, List.map_nil]); first | done | rfl | (simp only [List.length_drop, List.length_take]; rfl)) ?_
                 with_reducible refine (exactpplref19_IsBranch.calls ((rd_T60 l0 (rd ((rd_T60 l0 a1).f2) x6_2)).f0) ((rd_T60 l0 (rd ((rd_T60 l0 a1).f2) x6_2)).f1) _ _ ((rd_T60 l0 (rd ((rd_T60 l0 a1).f2) x6_2)).f2) true _ ?side1 ?side2 A31.out).mono ?_
                 (case side1 => repeat (first | exact (Kd.C_below HR149_2.out HB.out) | (with_reducible refine Kd.C_alloc ?_ _) | (with_reducible refine Kd.C_drewN ?_ _) | (with_reducible refine Kd.C_drew ?_)))
                 (case side2 => exact HC149_2.out)
                 rintro e w39 ⟨rfl, hb⟩
                 refine ⟨_, rfl, ?_⟩
                 replace BK146 := Aside0.mk (blk_below (g := gb146) (o := .cells #[.int .i64 ((rd_T60 l0 a1).f0), .int .i64 ((rd_T60 l0 a1).f1), .slice (some ad148) ((rd_T60 l0 a1).f2).length c145_2] 60 (0, 0)) bk_ hb)
                 replace HB := Aside0.mk (below_step bl_ hb)
                 (try clear hb)
                 (try clear hb2)
                 (try clear hk)
                 (try clear hi)
                 refine hK.out _ _ ⟨(blk_cell BK146.out 0).trans rfl, (blk_cell BK146.out 1).trans rfl, (blk_cell BK146.out 2).trans rfl, ((HB.out.cell (World.block_lt_of_cell? w _ hw149_0)).trans hw149_0), ((HB.out.cell (World.block_lt_of_cell? w _ hw149_1)).trans hw149_1), ((HB.out.cell (World.block_lt_of_cell? w _ hw149_2)).trans hw149_2), ((HB.out.cell (World.block_lt_of_cell? w _ hw151_0)).trans hw151_0), ((HB.out.cell (World.block_lt_of_cell? w _ hw151_1)).trans hw151_1), ((HB.out.cell (World.block_lt_of_cell? w _ hw151_2)).trans hw151_2)⟩ (fun hHeld => ?_)
                 clear hK K
                 refine norm_ (a' := ?_) ?_ ?_
                 rotate_left
                 ·show Act.put _ (some 79) _ = _
                  simp only [Act.put, List.setIfInBounds_toArray, List.set_cons_zero, List.set_cons_succ, i64_w, i32_w]
                  rfl
                 refine pu_ HT_ 13 80 (bm 24 16383) ?_
                 refine pu_ HT_ 14 81 (bm 24 32767) ?_
                 refine pu_ HT_ 15 82 (bm 24 65535) ?_
                 refine pu_ HT_ 16 83 (bm 24 131071) ?_
                 refine pu_ HT_ 17 84 (bm 24 262143) ?_
                 refine pu_ HT_ 19 86 (bm 24 786431) ?_
                 refine ta_ HT_ HW_ 18 85 (bm 24 1048575) hHeld ?_
                 refine ta_ HT_ HW_ 20 87 (bm 24 2097151) hHeld ?_
                 refine pu_ HT_ 21 88 (bm 24 4194303) ?_
                 refine pu_ HT_ 22 89 (bm 24 8388607) ?_
                 refine pu_ HT_ 23 90 #[true, true, true, true, true, true, true, true, true, true, true, true, true, true, true, true, true, true, true, true, true, true, true, true] ?_
                 refine done_ (done_of HT_.out (by kernel_rfl)) ?_
                 try go_wp2
                 go_roundg k2
                 case measure => have := HJ6.out; have := HK2.out; omega
                 case rel => exact ⟨(wrap64 (x6_2 + 1)), rs_, H', ⟨by have := HJ6.out; have := HK2.out; omega⟩, ⟨bk_⟩, ⟨bl_⟩⟩
               ·replace c32 := Bool.eq_false_iff.mpr c32
                subst c32
                have H1 : (exactpplref19_sound.l0 k2 l0 a1 (wrap64 (x6_2 + 1)) ((rd_T60 l0 a1).f0) ((rd_T60 l0 a1).f1) ((rd_T60 l0 a1).f2)) = some r := by rw [if_neg (show ¬ (false = true) by decide)] at H; exact H
                clear H
                have H := H1
                clear H1
                have H' := Aside0.mk H
                clear H
                obtain ⟨hcz40_0, hcz40_1, hcz40_2, hfz40_0, hfz40_1, hfz40_2⟩ := cf3_ BK146.out
                have p148 : 0 ≤ (x6_2 : Int) := dt_
                have q148 : x6_2 < (((rd_T60 l0 a1).f2).length : Int) := dt_
                obtain ⟨ad148, e148, hx148_0⟩ := Kd.at_int HR145_2.out x6_2 p148 q148
                cases e148
                replace hx148_0 := (HB.out.cell (World.block_lt_of_cell? w _ hx148_0)).trans hx148_0
                replace p148 := eq_true p148
                replace q148 := eq_true q148
                try go_wp2
                replace BK146 := Aside0.mk (blk_drew BK146.out)
                replace HB := Aside0.mk (below_drew1 HB.out)
                have p149 : 0 ≤ ((rd ((rd_T60 l0 a1).f2) x6_2) : Int) := dt_
                have q149 : (rd ((rd_T60 l0 a1).f2) x6_2) < (l0.length : Int) := dt_
                obtain ⟨ad149, A149_2, c149_2, e149, hx149_0, hx149_1, hx149_2, hl149_2, hi149_2⟩ := at_T60 HR0.out (rd ((rd_T60 l0 a1).f2) x6_2) p149 q149
                have hw149_2 := hx149_2
                have hw149_1 := hx149_1
                have hw149_0 := hx149_0
                obtain rfl : ad145 = ad149 := (by injection e149)
                replace hx149_0 := (HB.out.cell (World.block_lt_of_cell? w _ hx149_0)).trans hx149_0
                replace hx149_1 := (HB.out.cell (World.block_lt_of_cell? w _ hx149_1)).trans hx149_1
                replace hx149_2 := (HB.out.cell (World.block_lt_of_cell? w _ hx149_2)).trans hx149_2
                have HR149_2 := Aside0.mk hi149_2
                have HC149_2 := Aside0.mk hl149_2
                clear hi149_2 hl149_2
                replace p149 := eq_true p149
                replace q149 := eq_true q149
                refine start_ (n := 24) (S := fun w' => w'.cell? (ad145.add (((rd ((rd_T60 l0 a1).f2) x6_2)).toNat * 3)) = some (.int .i64 ((rd_T60 l0 (rd ((rd_T60 l0 a1).f2) x6_2)).f0)) ∧ w'.cell? ⟨(ad145.add (((rd ((rd_T60 l0 a1).f2) x6_2)).toNat * 3)).block, (ad145.add (((rd ((rd_T60 l0 a1).f2) x6_2)).toNat * 3)).off + 1, none⟩ = some (.int .i64 ((rd_T60 l0 (rd ((rd_T60 l0 a1).f2) x6_2)).f1)) ∧ w'.cell? ⟨(ad145.add (((rd ((rd_T60 l0 a1).f2) x6_2)).toNat * 3)).block, (ad145.add (((rd ((rd_T60 l0 a1).f2) x6_2)).toNat * 3)).off + 2, none⟩ = some (.slice A149_2 ((rd_T60 l0 (rd ((rd_T60 l0 a1).f2) x6_2)).f2).length c149_2)) (ds := []) #[false, false, false, false, false, false, false, false, false, false, false, false, false, false, false, false, false, false, false, false, false, false, false, false] (by kernel_rfl) rfl rfl ⟨((HB.out.cell (World.block_lt_of_cell? w _ hw149_0)).trans hw149_0), ((HB.out.cell (World.block_lt_of_cell? w _ hw149_1)).trans hw149_1), ((HB.out.cell (World.block_lt_of_cell? w _ hw149_2)).trans hw149_2)⟩ (fun hHeld => ?_); refine with_tabW exactpplref19_sound.tab10 exactpplref19_sound.bits10 (fun HT_ HW_ => ?_)
                generalize wr.drew = w41 at BK146 HB HR149_2 hx149_0 hx149_1 hx149_2 hHeld ⊢
                refine pu_ HT_ 0 67 (bm 24 1) ?_
                refine pu_ HT_ 1 68 (bm 24 3) ?_
                refine pu_ HT_ 2 69 (bm 24 7) ?_
                refine pu_ HT_ 3 70 (bm 24 15) ?_
                refine pu_ HT_ 4 71 (bm 24 31) ?_
                refine pu_ HT_ 5 72 (bm 24 63) ?_
                refine pu_ HT_ 6 73 (bm 24 127) ?_
                refine pu_ HT_ 7 74 (bm 24 255) ?_
                refine pu_ HT_ 8 75 (bm 24 511) ?_
                refine pu_ HT_ 9 76 (bm 24 1023) ?_
                refine pu_ HT_ 10 77 (bm 24 2047) ?_
                refine ta_ HT_ HW_ 11 78 (bm 24 4095) hHeld ?_
                refine one_ (i := 12) (N := some 79) #[true, true, true, true, true, true, true, true, true, true, true, true, true, false, false, false, false, false, false, false, false, false, false, false] rfl rfl (one_of HT_.out (by kernel_rfl)) (by decide) (fun K hK => ?_)
                refine goes_ Tryd.func55 (by kernel_rfl) rfl #[.agg #[.int .i64 ((rd_T60 l0 (rd ((rd_T60 l0 a1).f2) x6_2)).f0), .int .i64 ((rd_T60 l0 (rd ((rd_T60 l0 a1).f2) x6_2)).f1), .slice A149_2 ((rd_T60 l0 (rd ((rd_T60 l0 a1).f2) x6_2)).f2).length c149_2]] (by rfl) rfl rfl (by (try simp only [List.map_toArray, List.map_cons, List.map_nil]); first | done | rfl | (simp only [List.length_drop, List.length_take]; rfl)) ?_
                with_reducible refine (exactpplref19_IsBranch.calls ((rd_T60 l0 (rd ((rd_T60 l0 a1).f2) x6_2)).f0) ((rd_T60 l0 (rd ((rd_T60 l0 a1).f2) x6_2)).f1) _ _ ((rd_T60 l0 (rd ((rd_T60 l0 a1).f2) x6_2)).f2) false _ ?side1 ?side2 A31.out).mono ?_
                (case side1 => repeat (first | exact (Kd.C_below HR149_2.out HB.out) | (with_reducible refine Kd.C_alloc ?_ _) | (with_reducible refine Kd.C_drewN ?_ _) | (with_reducible refine Kd.C_drew ?_)))
                (case side2 => exact HC149_2.out)
                rintro e w42 ⟨rfl, hb⟩
                refine ⟨_, rfl, ?_⟩
                replace BK146 := Aside0.mk (blk_below (g := gb146) (o := .cells #[.int .i64 ((rd_T60 l0 a1).f0), .int .i64 ((rd_T60 l0 a1).f1), .slice (some ad148) ((rd_T60 l0 a1).f2).length c145_2] 60 (0, 0)) bk_ hb)
                replace HB := Aside0.mk (below_step bl_ hb)
                (try clear hb)
                (try clear hb2)
                (try clear hk)
                (try clear hi)
                refine hK.out _ _ ⟨((HB.out.cell (World.block_lt_of_cell? w _ hw149_0)).trans hw149_0), ((HB.out.cell (World.block_lt_of_cell? w _ hw149_1)).trans hw149_1), ((HB.out.cell (World.block_lt_of_cell? w _ hw149_2)).trans hw149_2)⟩ (fun hHeld => ?_)
                clear hK K
                refine norm_ (a' := ?_) ?_ ?_
                rotate_left
                ·show Act.put _ (some 79) _ = _
                 simp only [Act.put, List.setIfInBounds_toArray, List.set_cons_zero, List.set_cons_succ, i64_w, i32_w]
                 rfl
                refine pu_ HT_ 13 80 (bm 24 16383) ?_
                refine pf_ HT_ 14 81 (bm 24 32767) ?_
                refine pf_ HT_ 15 82 (bm 24 65535) ?_
                refine pf_ HT_ 16 83 (bm 24 131071) ?_
                refine pf_ HT_ 17 84 (bm 24 262143) ?_
                refine pf_ HT_ 18 85 (bm 24 524287) ?_
                refine pf_ HT_ 19 86 (bm 24 1048575) ?_
                refine pf_ HT_ 20 87 (bm 24 2097151) ?_
                refine pf_ HT_ 21 88 (bm 24 4194303) ?_
                refine pu_ HT_ 22 89 (bm 24 8388607) ?_
                refine pu_ HT_ 23 90 #[true, true, true, true, true, true, true, true, true, true, true, true, true, true, true, true, true, true, true, true, true, true, true, true] ?_
                refine done_ (done_of HT_.out (by kernel_rfl)) ?_
                try go_wp2
                go_roundg k2
                case measure => have := HJ6.out; have := HK2.out; omega
                case rel => exact ⟨(wrap64 (x6_2 + 1)), rs_, H', ⟨by have := HJ6.out; have := HK2.out; omega⟩, ⟨bk_⟩, ⟨bl_⟩⟩
              ·rw [if_neg c30] at H
               exact absurd H (by simp)
             ·rw [if_neg c29] at H
              exact absurd H (by simp)
          ·rw [if_neg c22] at H
           exact absurd H (by simp)
         ·rw [if_neg c21] at H
          have c21b0 : decide (x6_2 < (((rd_T60 l0 a1).f2).length : Int)) = false := decide_eq_false c21
          clear c21
          have H' := Aside0.mk H
          clear H
          obtain ⟨hcz43_0, hcz43_1, hcz43_2, hfz43_0, hfz43_1, hfz43_2⟩ := cf3_ BK146.out
          go_wp2
          go_loopg [8] k2 (fun kq v8 w' => ∃ (x8_3 : Int), v8 = .int .i64 x8_3 ∧ Aside0 (exactpplref19_sound.l1 kq l0 a1 x8_3 ((rd_T60 l0 a1).f0) ((rd_T60 l0 a1).f1) ((rd_T60 l0 a1).f2) = some r) ∧ Aside0 (kq ≤ k2) ∧ Aside0 (w'.heap[gb146]? = some (.cells #[.int .i64 ((rd_T60 l0 a1).f0), .int .i64 ((rd_T60 l0 a1).f1), (.slice A145_2 ((rd_T60 l0 a1).f2).length c145_2)] 60 (0, 0))) ∧ Aside0 (Below w.heap.size w w'))
          case atStart => exact ⟨(0), rs_, H', ⟨Nat.le_refl _⟩, ⟨bk_⟩, ⟨bl_⟩⟩
          case round =>
           clear H'
           try clear c1
           try clear p1
           try clear q1
           try clear hx1
           try clear c2
           try clear p2
           try clear c3
           try clear c5
           try clear p6
           try clear c14
           try clear p14
           try clear q14
           try clear hx14
           try clear c15
           try clear p15
           try clear q15
           try clear hx15
           try clear c21
           try clear c21b0
           try clear c22
           try clear c29
           try clear c30
           try clear c32
           try clear c33
           try clear c33b0
           try clear hcz37_0 hcz37_1 hcz37_2 hfz37_0 hfz37_1 hfz37_2
           try clear hcz40_0 hcz40_1 hcz40_2 hfz40_0 hfz40_1 hfz40_2
           try clear hcz43_0 hcz43_1 hcz43_2 hfz43_0 hfz43_1 hfz43_2
           try clear hx148_0
           try clear hx149_0
           try clear hx149_1
           try clear hx149_2
           try clear hx151_0
           try clear hx151_1
           try clear hx151_2
           try clear p148
           try clear p149
           try clear p151
           try clear q148
           try clear q149
           try clear q151
           obtain ⟨x8_3, rfl, HA, HK3, BK146, HB⟩ := hrel
           cases gk with
           | zero => exact absurd HA.out (by simp [exactpplref19_sound.l1])
           | succ k3 =>
            have H := HA.out
            clear HA
            simp only [exactpplref19_sound.l1] at H
            by_cases c44 : x8_3 < a1
            ·rw [if_pos c44] at H
             have c44b0 : decide (x8_3 < a1) = true := decide_eq_true c44
             clear c44
             by_cases c45 : 0 ≤ x8_3
             ·rw [if_pos c45] at H
              have c45b0 : decide (0 ≤ x8_3) = true := decide_eq_true c45
              clear c45
              by_cases c46 : x8_3 < (l0.length : Int)
              ·rw [if_pos c46] at H
               have c46b0 : decide (x8_3 < (l0.length : Int)) = true := decide_eq_true c46
               clear c46
               by_cases c47 : ((rd_T60 l0 x8_3).f0) = ((rd_T60 l0 a1).f0)
               ·rw [if_pos c47] at H
                have c47b0 : (((rd_T60 l0 x8_3).f0) == ((rd_T60 l0 a1).f0)) = true := beq_iff_eq.mpr c47
                have c47b1 : (((rd_T60 l0 x8_3).f0) != ((rd_T60 l0 a1).f0)) = false := bne_eq_false_iff_eq.mpr c47
                clear c47
                by_cases c48 : (((rd_T60 l0 x8_3).f2).length : Int) = (((rd_T60 l0 a1).f2).length : Int)
                ·rw [if_pos c48] at H
                 have c48b0 : ((((rd_T60 l0 x8_3).f2).length : Int) == (((rd_T60 l0 a1).f2).length : Int)) = true := beq_iff_eq.mpr c48
                 have c48b1 : ((((rd_T60 l0 x8_3).f2).length : Int) != (((rd_T60 l0 a1).f2).length : Int)) = false := bne_eq_false_iff_eq.mpr c48
                 have c48b2 : (((rd_T60 l0 x8_3).f2).length == ((rd_T60 l0 a1).f2).length) = true := by first | simpa using c48 | (simp at c48 ⊢; omega)
                 clear c48
                 have H' := Aside0.mk H
                 clear H
                 try go_wp2
                 replace BK146 := Aside0.mk (blk_drew BK146.out)
                 replace HB := Aside0.mk (below_drew1 HB.out)
                 have p152 : 0 ≤ (x8_3 : Int) := dt_
                 have q152 : x8_3 < (l0.length : Int) := dt_
                 obtain ⟨ad152, A152_2, c152_2, e152, hx152_0, hx152_1, hx152_2, hl152_2, hi152_2⟩ := at_T60 HR0.out x8_3 p152 q152
                 have hw152_2 := hx152_2
                 have hw152_1 := hx152_1
                 have hw152_0 := hx152_0
                 obtain rfl : ad145 = ad152 := (by injection e152)
                 replace hx152_0 := (HB.out.cell (World.block_lt_of_cell? w _ hx152_0)).trans hx152_0
                 replace hx152_1 := (HB.out.cell (World.block_lt_of_cell? w _ hx152_1)).trans hx152_1
                 replace hx152_2 := (HB.out.cell (World.block_lt_of_cell? w _ hx152_2)).trans hx152_2
                 have HR152_2 := Aside0.mk hi152_2
                 have HC152_2 := Aside0.mk hl152_2
                 clear hi152_2 hl152_2
                 replace p152 := eq_true p152
                 replace q152 := eq_true q152
                 have p153 : 0 ≤ (x8_3 : Int) := dt_
                 have q153 : x8_3 < (l0.length : Int) := dt_
                 obtain ⟨ad153, A153_2, c153_2, e153, hx153_0, hx153_1, hx153_2, hl153_2, hi153_2⟩ := at_T60 HR0.out x8_3 p153 q153
                 have hw153_2 := hx153_2
                 have hw153_1 := hx153_1
                 have hw153_0 := hx153_0
                 obtain rfl : ad145 = ad153 := (by injection e153)
                 replace hx153_0 := (HB.out.cell (World.block_lt_of_cell? w _ hx153_0)).trans hx153_0
                 replace hx153_1 := (HB.out.cell (World.block_lt_of_cell? w _ hx153_1)).trans hx153_1
                 replace hx153_2 := (HB.out.cell (World.block_lt_of_cell? w _ hx153_2)).trans hx153_2
                 have HR153_2 := Aside0.mk hi153_2
                 have HC153_2 := Aside0.mk hl153_2
                 clear hi153_2 hl153_2
                 replace p153 := eq_true p153
                 replace q153 := eq_true q153
                 have ea_ := Option.some.inj (hx152_2.symm.trans hx153_2)
                 injection ea_ with ea_ en_ ec_
                 subst ea_
                 subst ec_
                 clear en_
                 refine start_ (n := 20) (S := fun w' => w'.cell? ⟨gb146, 0, none⟩ = some (.int .i64 ((rd_T60 l0 a1).f0)) ∧ w'.cell? ⟨gb146, 1, none⟩ = some (.int .i64 ((rd_T60 l0 a1).f1)) ∧ w'.cell? ⟨gb146, 2, none⟩ = some (.slice A145_2 ((rd_T60 l0 a1).f2).length c145_2) ∧ w'.cell? (ad145.add ((x8_3).toNat * 3)) = some (.int .i64 ((rd_T60 l0 x8_3).f0)) ∧ w'.cell? ⟨(ad145.add ((x8_3).toNat * 3)).block, (ad145.add ((x8_3).toNat * 3)).off + 1, none⟩ = some (.int .i64 ((rd_T60 l0 x8_3).f1)) ∧ w'.cell? ⟨(ad145.add ((x8_3).toNat * 3)).block, (ad145.add ((x8_3).toNat * 3)).off + 2, none⟩ = some (.slice A152_2 ((rd_T60 l0 x8_3).f2).length c152_2) ∧ w'.cell? (ad145.add ((x8_3).toNat * 3)) = some (.int .i64 ((rd_T60 l0 x8_3).f0)) ∧ w'.cell? ⟨(ad145.add ((x8_3).toNat * 3)).block, (ad145.add ((x8_3).toNat * 3)).off + 1, none⟩ = some (.int .i64 ((rd_T60 l0 x8_3).f1)) ∧ w'.cell? ⟨(ad145.add ((x8_3).toNat * 3)).block, (ad145.add ((x8_3).toNat * 3)).off + 2, none⟩ = some (.slice A152_2 ((rd_T60 l0 x8_3).f2).length c152_2)) (ds := []) #[false, false, false, false, false, false, false, false, false, false, false, false, false, false, false, false, false, false, false, false] (by kernel_rfl) rfl rfl ⟨(blk_cell BK146.out 0).trans rfl, (blk_cell BK146.out 1).trans rfl, (blk_cell BK146.out 2).trans rfl, ((HB.out.cell (World.block_lt_of_cell? w _ hw152_0)).trans hw152_0), ((HB.out.cell (World.block_lt_of_cell? w _ hw152_1)).trans hw152_1), ((HB.out.cell (World.block_lt_of_cell? w _ hw152_2)).trans hw152_2), ((HB.out.cell (World.block_lt_of_cell? w _ hw153_0)).trans hw153_0), ((HB.out.cell (World.block_lt_of_cell? w _ hw153_1)).trans hw153_1), ((HB.out.cell (World.block_lt_of_cell? w _ hw153_2)).trans hw153_2)⟩ (fun hHeld => ?_); refine with_tabW exactpplref19_sound.tab15 exactpplref19_sound.bits15 (fun HT_ HW_ => ?_)
                 generalize wr.drew = w49 at BK146 HB HR152_2 HR153_2 hx152_0 hx152_1 hx152_2 hx153_0 hx153_1 hx153_2 hHeld ⊢
                 refine pu_ HT_ 0 96 (bm 20 1) ?_
                 refine pu_ HT_ 1 97 (bm 20 3) ?_
                 refine pu_ HT_ 2 98 (bm 20 7) ?_
                 refine pu_ HT_ 3 99 (bm 20 15) ?_
                 refine pu_ HT_ 5 101 (bm 20 47) ?_
                 refine ta_ HT_ HW_ 4 100 (bm 20 63) hHeld ?_
                 refine ta_ HT_ HW_ 6 102 (bm 20 127) hHeld ?_
                 refine pu_ HT_ 7 103 (bm 20 255) ?_
                 refine pu_ HT_ 8 104 (bm 20 511) ?_
                 refine pu_ HT_ 9 105 (bm 20 1023) ?_
                 refine pu_ HT_ 10 106 (bm 20 2047) ?_
                 refine pu_ HT_ 11 107 (bm 20 4095) ?_
                 refine pu_ HT_ 12 108 (bm 20 8191) ?_
                 refine pu_ HT_ 15 111 (bm 20 40959) ?_
                 refine ta_ HT_ HW_ 13 109 (bm 20 49151) hHeld ?_
                 refine pu_ HT_ 14 110 (bm 20 65535) ?_
                 refine ta_ HT_ HW_ 16 112 (bm 20 131071) hHeld ?_
                 refine pu_ HT_ 17 113 (bm 20 262143) ?_
                 refine pu_ HT_ 18 114 (bm 20 524287) ?_
                 refine pu_ HT_ 19 115 #[true, true, true, true, true, true, true, true, true, true, true, true, true, true, true, true, true, true, true, true] ?_
                 refine done_ (done_of HT_.out (by kernel_rfl)) ?_
                 try go_wp2
                 go_roundg k3
                 case measure => have := HJ6.out; have := HK2.out; have := HK3.out; omega
                 case rel => exact ⟨(wrap64 (x8_3 + 1)), rs_, H', ⟨by have := HJ6.out; have := HK2.out; have := HK3.out; omega⟩, ⟨bk_⟩, ⟨bl_⟩⟩
                ·rw [if_neg c48] at H
                 have c48b0 : ((((rd_T60 l0 x8_3).f2).length : Int) == (((rd_T60 l0 a1).f2).length : Int)) = false := beq_eq_false_iff_ne.mpr c48
                 have c48b1 : ((((rd_T60 l0 x8_3).f2).length : Int) != (((rd_T60 l0 a1).f2).length : Int)) = true := bne_iff_ne.mpr c48
                 have c48b2 : (((rd_T60 l0 x8_3).f2).length == ((rd_T60 l0 a1).f2).length) = false := by first | simpa using c48 | (simp at c48 ⊢; omega)
                 obtain rfl := Option.some.inj H
                 try go_wp2
                 replace BK146 := Aside0.mk (blk_drew BK146.out)
                 replace HB := Aside0.mk (below_drew1 HB.out)
                 have p152 : 0 ≤ (x8_3 : Int) := dt_
                 have q152 : x8_3 < (l0.length : Int) := dt_
                 obtain ⟨ad152, A152_2, c152_2, e152, hx152_0, hx152_1, hx152_2, hl152_2, hi152_2⟩ := at_T60 HR0.out x8_3 p152 q152
                 have hw152_2 := hx152_2
                 have hw152_1 := hx152_1
                 have hw152_0 := hx152_0
                 obtain rfl : ad145 = ad152 := (by injection e152)
                 replace hx152_0 := (HB.out.cell (World.block_lt_of_cell? w _ hx152_0)).trans hx152_0
                 replace hx152_1 := (HB.out.cell (World.block_lt_of_cell? w _ hx152_1)).trans hx152_1
                 replace hx152_2 := (HB.out.cell (World.block_lt_of_cell? w _ hx152_2)).trans hx152_2
                 have HR152_2 := Aside0.mk hi152_2
                 have HC152_2 := Aside0.mk hl152_2
                 clear hi152_2 hl152_2
                 replace p152 := eq_true p152
                 replace q152 := eq_true q152
                 have p153 : 0 ≤ (x8_3 : Int) := dt_
                 have q153 : x8_3 < (l0.length : Int) := dt_
                 obtain ⟨ad153, A153_2, c153_2, e153, hx153_0, hx153_1, hx153_2, hl153_2, hi153_2⟩ := at_T60 HR0.out x8_3 p153 q153
                 have hw153_2 := hx153_2
                 have hw153_1 := hx153_1
                 have hw153_0 := hx153_0
                 obtain rfl : ad145 = ad153 := (by injection e153)
                 replace hx153_0 := (HB.out.cell (World.block_lt_of_cell? w _ hx153_0)).trans hx153_0
                 replace hx153_1 := (HB.out.cell (World.block_lt_of_cell? w _ hx153_1)).trans hx153_1
                 replace hx153_2 := (HB.out.cell (World.block_lt_of_cell? w _ hx153_2)).trans hx153_2
                 have HR153_2 := Aside0.mk hi153_2
                 have HC153_2 := Aside0.mk hl153_2
                 clear hi153_2 hl153_2
                 replace p153 := eq_true p153
                 replace q153 := eq_true q153
                 have ea_ := Option.some.inj (hx152_2.symm.trans hx153_2)
                 injection ea_ with ea_ en_ ec_
                 subst ea_
                 subst ec_
                 clear en_
                 refine start_ (n := 20) (S := fun w' => w'.cell? ⟨gb146, 0, none⟩ = some (.int .i64 ((rd_T60 l0 a1).f0)) ∧ w'.cell? ⟨gb146, 1, none⟩ = some (.int .i64 ((rd_T60 l0 a1).f1)) ∧ w'.cell? ⟨gb146, 2, none⟩ = some (.slice A145_2 ((rd_T60 l0 a1).f2).length c145_2) ∧ w'.cell? (ad145.add ((x8_3).toNat * 3)) = some (.int .i64 ((rd_T60 l0 x8_3).f0)) ∧ w'.cell? ⟨(ad145.add ((x8_3).toNat * 3)).block, (ad145.add ((x8_3).toNat * 3)).off + 1, none⟩ = some (.int .i64 ((rd_T60 l0 x8_3).f1)) ∧ w'.cell? ⟨(ad145.add ((x8_3).toNat * 3)).block, (ad145.add ((x8_3).toNat * 3)).off + 2, none⟩ = some (.slice A152_2 ((rd_T60 l0 x8_3).f2).length c152_2) ∧ w'.cell? (ad145.add ((x8_3).toNat * 3)) = some (.int .i64 ((rd_T60 l0 x8_3).f0)) ∧ w'.cell? ⟨(ad145.add ((x8_3).toNat * 3)).block, (ad145.add ((x8_3).toNat * 3)).off + 1, none⟩ = some (.int .i64 ((rd_T60 l0 x8_3).f1)) ∧ w'.cell? ⟨(ad145.add ((x8_3).toNat * 3)).block, (ad145.add ((x8_3).toNat * 3)).off + 2, none⟩ = some (.slice A152_2 ((rd_T60 l0 x8_3).f2).length c152_2)) (ds := []) #[false, false, false, false, false, false, false, false, false, false, false, false, false, false, false, false, false, false, false, false] (by kernel_rfl) rfl rfl ⟨(blk_cell BK146.out 0).trans rfl, (blk_cell BK146.out 1).trans rfl, (blk_cell BK146.out 2).trans rfl, ((HB.out.cell (World.block_lt_of_cell? w _ hw152_0)).trans hw152_0), ((HB.out.cell (World.block_lt_of_cell? w _ hw152_1)).trans hw152_1), ((HB.out.cell (World.block_lt_of_cell? w _ hw152_2)).trans hw152_2), ((HB.out.cell (World.block_lt_of_cell? w _ hw153_0)).trans hw153_0), ((HB.out.cell (World.block_lt_of_cell? w _ hw153_1)).trans hw153_1), ((HB.out.cell (World.block_lt_of_cell? w _ hw153_2)).trans hw153_2)⟩ (fun hHeld => ?_); refine with_tabW exactpplref19_sound.tab15 exactpplref19_sound.bits15 (fun HT_ HW_ => ?_)
                 generalize wr.drew = w50 at BK146 HB HR152_2 HR153_2 hx152_0 hx152_1 hx152_2 hx153_0 hx153_1 hx153_2 hHeld ⊢
                 refine pu_ HT_ 0 96 (bm 20 1) ?_
                 refine pu_ HT_ 1 97 (bm 20 3) ?_
                 refine pu_ HT_ 2 98 (bm 20 7) ?_
                 refine pu_ HT_ 3 99 (bm 20 15) ?_
                 refine pu_ HT_ 5 101 (bm 20 47) ?_
                 refine ta_ HT_ HW_ 4 100 (bm 20 63) hHeld ?_
                 refine ta_ HT_ HW_ 6 102 (bm 20 127) hHeld ?_
                 refine pu_ HT_ 7 103 (bm 20 255) ?_
                 refine pu_ HT_ 8 104 (bm 20 511) ?_
                 refine pu_ HT_ 9 105 (bm 20 1023) ?_
                 refine pu_ HT_ 10 106 (bm 20 2047) ?_
                 refine pu_ HT_ 11 107 (bm 20 4095) ?_
                 refine pu_ HT_ 12 108 (bm 20 8191) ?_
                 refine pu_ HT_ 15 111 (bm 20 40959) ?_
                 refine ta_ HT_ HW_ 13 109 (bm 20 49151) hHeld ?_
                 refine pu_ HT_ 14 110 (bm 20 65535) ?_
                 refine ta_ HT_ HW_ 16 112 (bm 20 131071) hHeld ?_
                 refine pu_ HT_ 17 113 (bm 20 262143) ?_
                 refine pu_ HT_ 18 114 (bm 20 524287) ?_
                 refine pu_ HT_ 19 115 #[true, true, true, true, true, true, true, true, true, true, true, true, true, true, true, true, true, true, true, true] ?_
                 refine done_ (done_of HT_.out (by kernel_rfl)) ?_
                 try go_wp2
                 go_ret
                 exact ⟨re_, bl_⟩
               ·rw [if_neg c47] at H
                have c47b0 : (((rd_T60 l0 x8_3).f0) == ((rd_T60 l0 a1).f0)) = false := beq_eq_false_iff_ne.mpr c47
                have c47b1 : (((rd_T60 l0 x8_3).f0) != ((rd_T60 l0 a1).f0)) = true := bne_iff_ne.mpr c47
                have H' := Aside0.mk H
                clear H
                try go_wp2
                replace BK146 := Aside0.mk (blk_drew BK146.out)
                replace HB := Aside0.mk (below_drew1 HB.out)
                have p152 : 0 ≤ (x8_3 : Int) := dt_
                have q152 : x8_3 < (l0.length : Int) := dt_
                obtain ⟨ad152, A152_2, c152_2, e152, hx152_0, hx152_1, hx152_2, hl152_2, hi152_2⟩ := at_T60 HR0.out x8_3 p152 q152
                have hw152_2 := hx152_2
                have hw152_1 := hx152_1
                have hw152_0 := hx152_0
                obtain rfl : ad145 = ad152 := (by injection e152)
                replace hx152_0 := (HB.out.cell (World.block_lt_of_cell? w _ hx152_0)).trans hx152_0
                replace hx152_1 := (HB.out.cell (World.block_lt_of_cell? w _ hx152_1)).trans hx152_1
                replace hx152_2 := (HB.out.cell (World.block_lt_of_cell? w _ hx152_2)).trans hx152_2
                have HR152_2 := Aside0.mk hi152_2
                have HC152_2 := Aside0.mk hl152_2
                clear hi152_2 hl152_2
                replace p152 := eq_true p152
                replace q152 := eq_true q152
                refine start_ (n := 20) (S := fun w' => w'.cell? ⟨gb146, 0, none⟩ = some (.int .i64 ((rd_T60 l0 a1).f0)) ∧ w'.cell? ⟨gb146, 1, none⟩ = some (.int .i64 ((rd_T60 l0 a1).f1)) ∧ w'.cell? ⟨gb146, 2, none⟩ = some (.slice A145_2 ((rd_T60 l0 a1).f2).length c145_2) ∧ w'.cell? (ad145.add ((x8_3).toNat * 3)) = some (.int .i64 ((rd_T60 l0 x8_3).f0)) ∧ w'.cell? ⟨(ad145.add ((x8_3).toNat * 3)).block, (ad145.add ((x8_3).toNat * 3)).off + 1, none⟩ = some (.int .i64 ((rd_T60 l0 x8_3).f1)) ∧ w'.cell? ⟨(ad145.add ((x8_3).toNat * 3)).block, (ad145.add ((x8_3).toNat * 3)).off + 2, none⟩ = some (.slice A152_2 ((rd_T60 l0 x8_3).f2).length c152_2)) (ds := []) #[false, false, false, false, false, false, false, false, false, false, false, false, false, false, false, false, false, false, false, false] (by kernel_rfl) rfl rfl ⟨(blk_cell BK146.out 0).trans rfl, (blk_cell BK146.out 1).trans rfl, (blk_cell BK146.out 2).trans rfl, ((HB.out.cell (World.block_lt_of_cell? w _ hw152_0)).trans hw152_0), ((HB.out.cell (World.block_lt_of_cell? w _ hw152_1)).trans hw152_1), ((HB.out.cell (World.block_lt_of_cell? w _ hw152_2)).trans hw152_2)⟩ (fun hHeld => ?_); refine with_tabW exactpplref19_sound.tab15 exactpplref19_sound.bits15 (fun HT_ HW_ => ?_)
                generalize wr.drew = w51 at BK146 HB HR152_2 hx152_0 hx152_1 hx152_2 hHeld ⊢
                refine pu_ HT_ 0 96 (bm 20 1) ?_
                refine pu_ HT_ 1 97 (bm 20 3) ?_
                refine pu_ HT_ 2 98 (bm 20 7) ?_
                refine pu_ HT_ 3 99 (bm 20 15) ?_
                refine pu_ HT_ 5 101 (bm 20 47) ?_
                refine ta_ HT_ HW_ 4 100 (bm 20 63) hHeld ?_
                refine ta_ HT_ HW_ 6 102 (bm 20 127) hHeld ?_
                refine pu_ HT_ 7 103 (bm 20 255) ?_
                refine pu_ HT_ 8 104 (bm 20 511) ?_
                refine pf_ HT_ 9 105 (bm 20 1023) ?_
                refine pf_ HT_ 10 106 (bm 20 2047) ?_
                refine pf_ HT_ 11 107 (bm 20 4095) ?_
                refine pf_ HT_ 12 108 (bm 20 8191) ?_
                refine pf_ HT_ 13 109 (bm 20 16383) ?_
                refine pf_ HT_ 14 110 (bm 20 32767) ?_
                refine pf_ HT_ 15 111 (bm 20 65535) ?_
                refine pf_ HT_ 16 112 (bm 20 131071) ?_
                refine pf_ HT_ 17 113 (bm 20 262143) ?_
                refine pf_ HT_ 18 114 (bm 20 524287) ?_
                refine pu_ HT_ 19 115 #[true, true, true, true, true, true, true, true, true, true, true, true, true, true, true, true, true, true, true, true] ?_
                refine done_ (done_of HT_.out (by kernel_rfl)) ?_
                try go_wp2
                go_roundg k3
                case measure => have := HJ6.out; have := HK2.out; have := HK3.out; omega
                case rel => exact ⟨(wrap64 (x8_3 + 1)), rs_, H', ⟨by have := HJ6.out; have := HK2.out; have := HK3.out; omega⟩, ⟨bk_⟩, ⟨bl_⟩⟩
              ·rw [if_neg c46] at H
               exact absurd H (by simp)
             ·rw [if_neg c45] at H
              exact absurd H (by simp)
            ·rw [if_neg c44] at H
             have c44b0 : decide (x8_3 < a1) = false := decide_eq_false c44
             clear c44
             obtain rfl := Option.some.inj H
             go_wp2
             go_ret
             exact ⟨re_, bl_⟩
   ·replace c6 := Bool.eq_false_iff.mpr c6
    subst c6
    have H1 : (if (((rd_T60 l0 a1).f2).length : Int) = 0 then (if ((rd_T60 l0 a1).f1) ≥ (-1073741824) then (some (decide (((rd_T60 l0 a1).f1) ≤ 1073741824))) else (some false)) else (some false)) = some r := by rw [if_neg (show ¬ (false = true) by decide)] at H; exact H
    clear H
    have H := H1
    clear H1
    by_cases c52 : (((rd_T60 l0 a1).f2).length : Int) = 0
    ·rw [if_pos c52] at H
     have c52b0 : ((((rd_T60 l0 a1).f2).length : Int) == 0) = true := beq_iff_eq.mpr c52
     have c52b1 : ((((rd_T60 l0 a1).f2).length : Int) != 0) = false := bne_eq_false_iff_eq.mpr c52
     clear c52
     by_cases c53 : ((rd_T60 l0 a1).f1) ≥ (-1073741824)
     ·rw [if_pos c53] at H
      have c53b0 : decide ((-1073741824) ≤ ((rd_T60 l0 a1).f1)) = true := decide_eq_true c53
      clear c53
      obtain rfl := Option.some.inj H
      have p145 : 0 ≤ (a1 : Int) := dt_
      have q145 : a1 < (l0.length : Int) := dt_
      obtain ⟨ad145, A145_2, c145_2, e145, hx145_0, hx145_1, hx145_2, hl145_2, hi145_2⟩ := at_T60 HR0.out a1 p145 q145
      cases e145
      have HR145_2 := Aside0.mk hi145_2
      have HC145_2 := Aside0.mk hl145_2
      clear hi145_2 hl145_2
      replace p145 := eq_true p145
      replace q145 := eq_true q145
      go_enter Tryd.func77, Tryd.ntmps77
      go_wp2_with (first | ((with_reducible refine gate_dst (N := 5) rfl ?_); (try (refine gate_guard (by rfl) ?_; dsimp only)); refine box_event ?hg (N := 5) ?hd (cs := #[.int .i64 0, .int .i64 0, .slice none 0 0]) (t := 60) ?hr ?_; (case hd => rfl); (case hg => rfl); (case hr => first | (go_simp; done) | (go_simp; rfl)); intro gb146 hg w54 hbox hb; have BK146 := Aside0.mk (hbox); have GW146 : Aside0 (w.heap.size ≤ gb146) := gw_ hg (below_size bl_); have GE146 := GW146; replace HB := Aside0.mk (below_step bl_ hb); clear hb hbox hg; obtain ⟨hcz55_0, hcz55_1, hcz55_2, hfz55_0, hfz55_1, hfz55_2⟩ := cf3_ BK146.out) | ((with_reducible refine gate_callee (f := 55) rfl ?_); refine goesL_ (some 14) rfl rfl Tryd.func55 (by kernel_rfl) rfl #[.agg #[.int .i64 ((rd_T60 l0 a1).f0), .int .i64 ((rd_T60 l0 a1).f1), .slice A145_2 ((rd_T60 l0 a1).f2).length c145_2]] rfl (by (try simp only [List.map_toArray, List.map_cons, List.map_nil]); first | done | rfl | (simp only [List.length_drop, List.length_take]; rfl)) ?_; (with_reducible refine (exactpplref19_IsBranch.calls ((rd_T60 l0 a1).f0) ((rd_T60 l0 a1).f1) _ _ ((rd_T60 l0 a1).f2) false _ ?side1 ?side2 A5.out).mono ?_); (case side1 => exact Kd.C_below HR145_2.out bl_); (case side2 => exact HC145_2.out); rintro e w56 ⟨rfl, hb⟩; refine ⟨_, rfl, ?_⟩; replace BK146 := Aside0.mk (blk_below (g := gb146) (o := .cells #[.int .i64 ((rd_T60 l0 a1).f0), .int .i64 ((rd_T60 l0 a1).f1), .slice A145_2 ((rd_T60 l0 a1).f2).length c145_2] 60 (0, 0)) (by (with_reducible repeat (first | refine blk_drewN ?_ _ | refine blk_drew ?_ | refine blk_alloc ?_ _)); refine blk_put (cs := #[.int .i64 ((rd_T60 l0 a1).f0), .int .i64 ((rd_T60 l0 a1).f1), .slice none 0 0]) ?_ 2 _ rfl; (with_reducible repeat (first | refine blk_drewN ?_ _ | refine blk_drew ?_ | refine blk_alloc ?_ _)); refine blk_put (cs := #[.int .i64 ((rd_T60 l0 a1).f0), .int .i64 0, .slice none 0 0]) ?_ 1 _ rfl; (with_reducible repeat (first | refine blk_drewN ?_ _ | refine blk_drew ?_ | refine blk_alloc ?_ _)); refine blk_put (cs := #[.int .i64 0, .int .i64 0, .slice none 0 0]) ?_ 0 _ rfl; (with_reducible repeat (first | refine blk_drewN ?_ _ | refine blk_drew ?_ | refine blk_alloc ?_ _)); exact BK146.out) hb); replace HB := Aside0.mk (below_step bl_ hb); (try clear hb); (try clear hb2); (try clear hk); (try clear hi); obtain ⟨hcz57_0, hcz57_1, hcz57_2, hfz57_0, hfz57_1, hfz57_2⟩ := cf3_ BK146.out))
      go_ret
      exact ⟨re_, bl_⟩
     ·rw [if_neg c53] at H
      have c53b0 : decide ((-1073741824) ≤ ((rd_T60 l0 a1).f1)) = false := decide_eq_false c53
      clear c53
      obtain rfl := Option.some.inj H
      have p145 : 0 ≤ (a1 : Int) := dt_
      have q145 : a1 < (l0.length : Int) := dt_
      obtain ⟨ad145, A145_2, c145_2, e145, hx145_0, hx145_1, hx145_2, hl145_2, hi145_2⟩ := at_T60 HR0.out a1 p145 q145
      cases e145
      have HR145_2 := Aside0.mk hi145_2
      have HC145_2 := Aside0.mk hl145_2
      clear hi145_2 hl145_2
      replace p145 := eq_true p145
      replace q145 := eq_true q145
      go_enter Tryd.func77, Tryd.ntmps77
      go_wp2_with (first | ((with_reducible refine gate_dst (N := 5) rfl ?_); (try (refine gate_guard (by rfl) ?_; dsimp only)); refine box_event ?hg (N := 5) ?hd (cs := #[.int .i64 0, .int .i64 0, .slice none 0 0]) (t := 60) ?hr ?_; (case hd => rfl); (case hg => rfl); (case hr => first | (go_simp; done) | (go_simp; rfl)); intro gb146 hg w58 hbox hb; have BK146 := Aside0.mk (hbox); have GW146 : Aside0 (w.heap.size ≤ gb146) := gw_ hg (below_size bl_); have GE146 := GW146; replace HB := Aside0.mk (below_step bl_ hb); clear hb hbox hg; obtain ⟨hcz59_0, hcz59_1, hcz59_2, hfz59_0, hfz59_1, hfz59_2⟩ := cf3_ BK146.out) | ((with_reducible refine gate_callee (f := 55) rfl ?_); refine goesL_ (some 14) rfl rfl Tryd.func55 (by kernel_rfl) rfl #[.agg #[.int .i64 ((rd_T60 l0 a1).f0), .int .i64 ((rd_T60 l0 a1).f1), .slice A145_2 ((rd_T60 l0 a1).f2).length c145_2]] rfl (by (try simp only [List.map_toArray, List.map_cons, List.map_nil]); first | done | rfl | (simp only [List.length_drop, List.length_take]; rfl)) ?_; (with_reducible refine (exactpplref19_IsBranch.calls ((rd_T60 l0 a1).f0) ((rd_T60 l0 a1).f1) _ _ ((rd_T60 l0 a1).f2) false _ ?side1 ?side2 A5.out).mono ?_); (case side1 => exact Kd.C_below HR145_2.out bl_); (case side2 => exact HC145_2.out); rintro e w60 ⟨rfl, hb⟩; refine ⟨_, rfl, ?_⟩; replace BK146 := Aside0.mk (blk_below (g := gb146) (o := .cells #[.int .i64 ((rd_T60 l0 a1).f0), .int .i64 ((rd_T60 l0 a1).f1), .slice A145_2 ((rd_T60 l0 a1).f2).length c145_2] 60 (0, 0)) (by (with_reducible repeat (first | refine blk_drewN ?_ _ | refine blk_drew ?_ | refine blk_alloc ?_ _)); refine blk_put (cs := #[.int .i64 ((rd_T60 l0 a1).f0), .int .i64 ((rd_T60 l0 a1).f1), .slice none 0 0]) ?_ 2 _ rfl; (with_reducible repeat (first | refine blk_drewN ?_ _ | refine blk_drew ?_ | refine blk_alloc ?_ _)); refine blk_put (cs := #[.int .i64 ((rd_T60 l0 a1).f0), .int .i64 0, .slice none 0 0]) ?_ 1 _ rfl; (with_reducible repeat (first | refine blk_drewN ?_ _ | refine blk_drew ?_ | refine blk_alloc ?_ _)); refine blk_put (cs := #[.int .i64 0, .int .i64 0, .slice none 0 0]) ?_ 0 _ rfl; (with_reducible repeat (first | refine blk_drewN ?_ _ | refine blk_drew ?_ | refine blk_alloc ?_ _)); exact BK146.out) hb); replace HB := Aside0.mk (below_step bl_ hb); (try clear hb); (try clear hb2); (try clear hk); (try clear hi); obtain ⟨hcz61_0, hcz61_1, hcz61_2, hfz61_0, hfz61_1, hfz61_2⟩ := cf3_ BK146.out))
      go_ret
      exact ⟨re_, bl_⟩
    ·rw [if_neg c52] at H
     have c52b0 : ((((rd_T60 l0 a1).f2).length : Int) == 0) = false := beq_eq_false_iff_ne.mpr c52
     have c52b1 : ((((rd_T60 l0 a1).f2).length : Int) != 0) = true := bne_iff_ne.mpr c52
     have c52b2 : ¬ (((rd_T60 l0 a1).f2) = []) := fun h_ => c52 (by rw [h_]; rfl)
     obtain rfl := Option.some.inj H
     have p145 : 0 ≤ (a1 : Int) := dt_
     have q145 : a1 < (l0.length : Int) := dt_
     obtain ⟨ad145, A145_2, c145_2, e145, hx145_0, hx145_1, hx145_2, hl145_2, hi145_2⟩ := at_T60 HR0.out a1 p145 q145
     cases e145
     have HR145_2 := Aside0.mk hi145_2
     have HC145_2 := Aside0.mk hl145_2
     clear hi145_2 hl145_2
     replace p145 := eq_true p145
     replace q145 := eq_true q145
     go_enter Tryd.func77, Tryd.ntmps77
     go_wp2_with (first | ((with_reducible refine gate_dst (N := 5) rfl ?_); (try (refine gate_guard (by rfl) ?_; dsimp only)); refine box_event ?hg (N := 5) ?hd (cs := #[.int .i64 0, .int .i64 0, .slice none 0 0]) (t := 60) ?hr ?_; (case hd => rfl); (case hg => rfl); (case hr => first | (go_simp; done) | (go_simp; rfl)); intro gb146 hg w62 hbox hb; have BK146 := Aside0.mk (hbox); have GW146 : Aside0 (w.heap.size ≤ gb146) := gw_ hg (below_size bl_); have GE146 := GW146; replace HB := Aside0.mk (below_step bl_ hb); clear hb hbox hg; obtain ⟨hcz63_0, hcz63_1, hcz63_2, hfz63_0, hfz63_1, hfz63_2⟩ := cf3_ BK146.out) | ((with_reducible refine gate_callee (f := 55) rfl ?_); refine goesL_ (some 14) rfl rfl Tryd.func55 (by kernel_rfl) rfl #[.agg #[.int .i64 ((rd_T60 l0 a1).f0), .int .i64 ((rd_T60 l0 a1).f1), .slice A145_2 ((rd_T60 l0 a1).f2).length c145_2]] rfl (by (try simp only [List.map_toArray, List.map_cons, List.map_nil]); first | done | rfl | (simp only [List.length_drop, List.length_take]; rfl)) ?_; (with_reducible refine (exactpplref19_IsBranch.calls ((rd_T60 l0 a1).f0) ((rd_T60 l0 a1).f1) _ _ ((rd_T60 l0 a1).f2) false _ ?side1 ?side2 A5.out).mono ?_); (case side1 => exact Kd.C_below HR145_2.out bl_); (case side2 => exact HC145_2.out); rintro e w64 ⟨rfl, hb⟩; refine ⟨_, rfl, ?_⟩; replace BK146 := Aside0.mk (blk_below (g := gb146) (o := .cells #[.int .i64 ((rd_T60 l0 a1).f0), .int .i64 ((rd_T60 l0 a1).f1), .slice A145_2 ((rd_T60 l0 a1).f2).length c145_2] 60 (0, 0)) (by (with_reducible repeat (first | refine blk_drewN ?_ _ | refine blk_drew ?_ | refine blk_alloc ?_ _)); refine blk_put (cs := #[.int .i64 ((rd_T60 l0 a1).f0), .int .i64 ((rd_T60 l0 a1).f1), .slice none 0 0]) ?_ 2 _ rfl; (with_reducible repeat (first | refine blk_drewN ?_ _ | refine blk_drew ?_ | refine blk_alloc ?_ _)); refine blk_put (cs := #[.int .i64 ((rd_T60 l0 a1).f0), .int .i64 0, .slice none 0 0]) ?_ 1 _ rfl; (with_reducible repeat (first | refine blk_drewN ?_ _ | refine blk_drew ?_ | refine blk_alloc ?_ _)); refine blk_put (cs := #[.int .i64 0, .int .i64 0, .slice none 0 0]) ?_ 0 _ rfl; (with_reducible repeat (first | refine blk_drewN ?_ _ | refine blk_drew ?_ | refine blk_alloc ?_ _)); exact BK146.out) hb); replace HB := Aside0.mk (below_step bl_ hb); (try clear hb); (try clear hb2); (try clear hk); (try clear hi); obtain ⟨hcz65_0, hcz65_1, hcz65_2, hfz65_0, hfz65_1, hfz65_2⟩ := cf3_ BK146.out))
     go_ret
     exact ⟨re_, bl_⟩
  ·rw [if_neg c4] at H
   exact absurd H (by simp)
 ·rw [if_neg c3] at H
  exact absurd H (by simp)

end Go.Proofs.YtopbjginpmdebaaDoor.K
namespace Go.Proofs.YtopbjginpmdebaaDoor.K
open Go.RowKit Go.Proofs.YtopbjginpmdebaaDoorW.PrintWords Go.Proofs.YtopbjginpmdebaaDoorW.PrintLast Go.Proofs.YtopbjginpmdebaaDoorW.PrintMore
attribute [local go_sem] max2_int min2_int max_two min_two max_three min_three max_four min_four   -- for this text's walks alone
set_option linter.unusedVariables false
set_option linter.unusedSimpArgs false

/-! ### exactpplref19_Graph: function 67 -/
def exactpplref19_Graph.l0 : Nat → List (S60) → Int → Option (Bool)
 | 0, _, _ => none
 | k + 1, x0, x3 => if x3 < (x0.length : Int) then ((exactpplref19_sound.f k x0 x3).bind fun t154 => (if t154 = true then (exactpplref19_Graph.l0 k x0 (wrap64 (x3 + 1))) else (some false))) else (some (decide ((x0.length : Int) > 0)))
def exactpplref19_Graph.f (k : Nat) (l0 : List (S60)) : Option (Bool) := exactpplref19_Graph.l0 k l0 0
theorem exactpplref19_Graph.mono_l : ∀ k, (∀ y0 y1, LeO (exactpplref19_Graph.l0 k y0 y1) (exactpplref19_Graph.l0 (k + 1) y0 y1))
 | 0 => fun _ _ r h => by simp [exactpplref19_Graph.l0] at h
 | k + 1 => by
  have ih0 := exactpplref19_Graph.mono_l k
  ·intro y0 y1
   unfold exactpplref19_Graph.l0
   repeat' first
   | (with_reducible exact ih0 _ _)
   | (with_reducible exact exactpplref19_sound.mono _ _ _)
   | (with_reducible exact LeO.refl _)
   | (with_reducible exact LeO.none _)
   | (with_reducible refine LeO.ite ?_ ?_)
   | (with_reducible refine LeO.bind ?_ (fun _ => ?_))
   | exact ih0 _ _
   | exact exactpplref19_sound.mono _ _ _
   | exact LeO.none _
   | refine LeO.ite ?_ ?_
   | refine LeO.bind ?_ (fun _ => ?_)
theorem exactpplref19_Graph.mono : ∀ a0 k, LeO (exactpplref19_Graph.f k a0) (exactpplref19_Graph.f (k + 1) a0) := by
 intro a0 k
 have ih0 := exactpplref19_Graph.mono_l k
 unfold exactpplref19_Graph.f
 repeat' first
   | (with_reducible exact ih0 _ _)
   | (with_reducible exact exactpplref19_sound.mono _ _ _)
   | (with_reducible exact LeO.refl _)
   | (with_reducible exact LeO.none _)
   | (with_reducible refine LeO.ite ?_ ?_)
   | (with_reducible refine LeO.bind ?_ (fun _ => ?_))
   | exact ih0 _ _
   | exact exactpplref19_sound.mono _ _ _
   | exact LeO.none _
   | refine LeO.ite ?_ ?_
   | refine LeO.bind ?_ (fun _ => ?_)
set_option maxHeartbeats 8000000 in
set_option maxRecDepth 100000 in
theorem exactpplref19_Graph.calls (k : Nat) (A0 : Option Addr) (c0 : Nat) (l0 : List (S60)) (r : Bool) (w : World) (hr0 : Kd.C k60 w A0 l0.length l0) (hc0 : l0.length ≤ c0) (h : exactpplref19_Graph.f k l0 = some r) :
  Calls Tryd.prog 67 #[.slice A0 l0.length c0] w fun e w' => e = .returned (.bool r) ∧ Below w.heap.size w w' := by
 have HR0 := Aside0.mk hr0
 have HC0 := Aside0.mk hc0
 clear hr0 hc0
 have HB := Aside0.mk (Below.refl w.heap.size w)
 have H : (exactpplref19_Graph.l0 k l0 0) = some r := h
 clear h
 have H' := Aside0.mk H
 clear H
 go_enter Tryd.func67, Tryd.ntmps67
 go_wp2
 go_loopg [3] k (fun kq v3 w' => ∃ (x3_1 : Int), v3 = .int .i64 x3_1 ∧ Aside0 (exactpplref19_Graph.l0 kq l0 x3_1 = some r) ∧ Aside0 (kq ≤ k) ∧ Aside0 (Below w.heap.size w w'))
 case atStart => exact ⟨(0), rs_, H', ⟨Nat.le_refl _⟩, ⟨bl_⟩⟩
 case round =>
  clear H'
  obtain ⟨x3_1, rfl, HA, HK1, HB⟩ := hrel
  cases gk with
  | zero => exact absurd HA.out (by simp [exactpplref19_Graph.l0])
  | succ k1 =>
   have H := HA.out
   clear HA
   simp only [exactpplref19_Graph.l0] at H
   by_cases c2 : x3_1 < (l0.length : Int)
   ·rw [if_pos c2] at H
    have c2b0 : decide (x3_1 < (l0.length : Int)) = true := decide_eq_true c2
    clear c2
    replace H := Option.bind_eq_some_iff.mp H
    obtain ⟨t154, A30, H⟩ := H
    replace H : (if t154 = true then (exactpplref19_Graph.l0 k1 l0 (wrap64 (x3_1 + 1))) else (some false)) = some r := H
    have A3 := Aside0.mk A30
    clear A30
    by_cases c4 : t154 = true
    ·subst c4
     have H1 : (exactpplref19_Graph.l0 k1 l0 (wrap64 (x3_1 + 1))) = some r := by rw [if_pos rfl] at H; exact H
     clear H
     have H := H1
     clear H1
     have H' := Aside0.mk H
     clear H
     go_wp2_with (first | ((with_reducible refine gate_callee (f := 77) rfl ?_); refine goesL_ (some 12) rfl rfl Tryd.func77 (by kernel_rfl) rfl #[.slice A0 l0.length c0, .int .i64 x3_1] rfl (by (try simp only [List.map_toArray, List.map_cons, List.map_nil]); first | done | rfl | (simp only [List.length_drop, List.length_take]; rfl)) ?_; (with_reducible refine (exactpplref19_sound.calls k1 _ _ l0 x3_1 true _ ?side1 ?side2 A3.out).mono ?_); (case side1 => repeat (first | exact (Kd.C_below HR0.out HB.out) | (with_reducible refine Kd.C_alloc ?_ _) | (with_reducible refine Kd.C_drewN ?_ _) | (with_reducible refine Kd.C_drew ?_))); (case side2 => exact HC0.out); rintro e w5 ⟨rfl, hb⟩; refine ⟨_, rfl, ?_⟩; replace HB := Aside0.mk (below_step bl_ hb); (try clear hb); (try clear hb2); (try clear hk); (try clear hi)))
     go_roundg k1
     case measure => have := HK1.out; omega
     case rel => exact ⟨(wrap64 (x3_1 + 1)), rs_, H', ⟨by have := HK1.out; omega⟩, ⟨bl_⟩⟩
    ·replace c4 := Bool.eq_false_iff.mpr c4
     subst c4
     have H1 : (some false) = some r := by rw [if_neg (show ¬ (false = true) by decide)] at H; exact H
     clear H
     have H := H1
     clear H1
     obtain rfl := Option.some.inj H
     go_wp2_with (first | ((with_reducible refine gate_callee (f := 77) rfl ?_); refine goesL_ (some 12) rfl rfl Tryd.func77 (by kernel_rfl) rfl #[.slice A0 l0.length c0, .int .i64 x3_1] rfl (by (try simp only [List.map_toArray, List.map_cons, List.map_nil]); first | done | rfl | (simp only [List.length_drop, List.length_take]; rfl)) ?_; (with_reducible refine (exactpplref19_sound.calls k1 _ _ l0 x3_1 false _ ?side1 ?side2 A3.out).mono ?_); (case side1 => repeat (first | exact (Kd.C_below HR0.out HB.out) | (with_reducible refine Kd.C_alloc ?_ _) | (with_reducible refine Kd.C_drewN ?_ _) | (with_reducible refine Kd.C_drew ?_))); (case side2 => exact HC0.out); rintro e w6 ⟨rfl, hb⟩; refine ⟨_, rfl, ?_⟩; replace HB := Aside0.mk (below_step bl_ hb); (try clear hb); (try clear hb2); (try clear hk); (try clear hi)))
     go_ret
     exact ⟨re_, bl_⟩
   ·rw [if_neg c2] at H
    have c2b0 : decide (x3_1 < (l0.length : Int)) = false := decide_eq_false c2
    clear c2
    obtain rfl := Option.some.inj H
    go_wp2
    go_ret
    exact ⟨re_, bl_⟩

end Go.Proofs.YtopbjginpmdebaaDoor.K
namespace Go.Proofs.YtopbjginpmdebaaDoor.K
open Go.RowKit Go.Proofs.YtopbjginpmdebaaDoorW.PrintWords Go.Proofs.YtopbjginpmdebaaDoorW.PrintLast Go.Proofs.YtopbjginpmdebaaDoorW.PrintMore
attribute [local go_sem] max2_int min2_int max_two min_two max_three min_three max_four min_four   -- for this text's walks alone
set_option linter.unusedVariables false
set_option linter.unusedSimpArgs false

/-! ### diagram_leaf: function 56 -/
def diagram_leaf.f (a0_0 : Int) (a0_1 : Int) (l0_2 : List Int) : Option (Bool) := if a0_0 = (-1) then (if (l0_2.length : Int) = 0 then (if a0_1 ≥ (-1073741824) then (some (decide (a0_1 ≤ 1073741824))) else (some false)) else (some false)) else (some false)
set_option maxHeartbeats 8000000 in
set_option maxRecDepth 100000 in
theorem diagram_leaf.calls (a0_0 : Int) (a0_1 : Int) (A0_2 : Option Addr) (c0_2 : Nat) (l0_2 : List Int) (r : Bool) (w : World) (hr0_2 : Kd.C (Kd.int .i64) w A0_2 l0_2.length l0_2) (hc0_2 : l0_2.length ≤ c0_2) (h : diagram_leaf.f a0_0 a0_1 l0_2 = some r) :
  Calls Tryd.prog 56 #[.agg #[.int .i64 a0_0, .int .i64 a0_1, .slice A0_2 l0_2.length c0_2]] w fun e w' => e = .returned (.bool r) ∧ Below w.heap.size w w' := by
 have hu60 := Tryd.underlying60
 have HR0_2 := Aside0.mk hr0_2
 have HC0_2 := Aside0.mk hc0_2
 clear hr0_2 hc0_2
 have HB := Aside0.mk (Below.refl w.heap.size w)
 have H : (if a0_0 = (-1) then (if (l0_2.length : Int) = 0 then (if a0_1 ≥ (-1073741824) then (some (decide (a0_1 ≤ 1073741824))) else (some false)) else (some false)) else (some false)) = some r := h
 clear h
 by_cases c2 : a0_0 = (-1)
 ·rw [if_pos c2] at H
  have c2b0 : (a0_0 == (-1)) = true := beq_iff_eq.mpr c2
  have c2b1 : (a0_0 != (-1)) = false := bne_eq_false_iff_eq.mpr c2
  clear c2
  by_cases c3 : (l0_2.length : Int) = 0
  ·rw [if_pos c3] at H
   have c3b0 : ((l0_2.length : Int) == 0) = true := beq_iff_eq.mpr c3
   have c3b1 : ((l0_2.length : Int) != 0) = false := bne_eq_false_iff_eq.mpr c3
   clear c3
   by_cases c4 : a0_1 ≥ (-1073741824)
   ·rw [if_pos c4] at H
    have c4b0 : decide ((-1073741824) ≤ a0_1) = true := decide_eq_true c4
    clear c4
    obtain rfl := Option.some.inj H
    go_enter Tryd.func56, Tryd.ntmps56
    go_wp2_with (first | ((with_reducible refine gate_dst (N := 1) rfl ?_); (try (refine gate_guard (by rfl) ?_; dsimp only)); refine box_event ?hg (N := 1) ?hd (cs := #[.int .i64 a0_0, .int .i64 a0_1, .slice A0_2 l0_2.length c0_2]) (t := 60) ?hr ?_; (case hd => rfl); (case hg => rfl); (case hr => first | (go_simp; done) | (go_simp; rfl)); intro gb101 hg w5 hbox hb; have BK101 := Aside0.mk (hbox); have GW101 : Aside0 (w.heap.size ≤ gb101) := gw_ hg (below_size bl_); have GE101 := GW101; replace HB := Aside0.mk (below_step bl_ hb); clear hb hbox hg; obtain ⟨hcz6_0, hcz6_1, hcz6_2, hfz6_0, hfz6_1, hfz6_2⟩ := cf3_ BK101.out))
    go_ret
    exact ⟨re_, bl_⟩
   ·rw [if_neg c4] at H
    have c4b0 : decide ((-1073741824) ≤ a0_1) = false := decide_eq_false c4
    clear c4
    obtain rfl := Option.some.inj H
    go_enter Tryd.func56, Tryd.ntmps56
    go_wp2_with (first | ((with_reducible refine gate_dst (N := 1) rfl ?_); (try (refine gate_guard (by rfl) ?_; dsimp only)); refine box_event ?hg (N := 1) ?hd (cs := #[.int .i64 a0_0, .int .i64 a0_1, .slice A0_2 l0_2.length c0_2]) (t := 60) ?hr ?_; (case hd => rfl); (case hg => rfl); (case hr => first | (go_simp; done) | (go_simp; rfl)); intro gb101 hg w7 hbox hb; have BK101 := Aside0.mk (hbox); have GW101 : Aside0 (w.heap.size ≤ gb101) := gw_ hg (below_size bl_); have GE101 := GW101; replace HB := Aside0.mk (below_step bl_ hb); clear hb hbox hg; obtain ⟨hcz8_0, hcz8_1, hcz8_2, hfz8_0, hfz8_1, hfz8_2⟩ := cf3_ BK101.out))
    go_ret
    exact ⟨re_, bl_⟩
  ·rw [if_neg c3] at H
   have c3b0 : ((l0_2.length : Int) == 0) = false := beq_eq_false_iff_ne.mpr c3
   have c3b1 : ((l0_2.length : Int) != 0) = true := bne_iff_ne.mpr c3
   have c3b2 : ¬ (l0_2 = []) := fun h_ => c3 (by rw [h_]; rfl)
   obtain rfl := Option.some.inj H
   go_enter Tryd.func56, Tryd.ntmps56
   go_wp2_with (first | ((with_reducible refine gate_dst (N := 1) rfl ?_); (try (refine gate_guard (by rfl) ?_; dsimp only)); refine box_event ?hg (N := 1) ?hd (cs := #[.int .i64 a0_0, .int .i64 a0_1, .slice A0_2 l0_2.length c0_2]) (t := 60) ?hr ?_; (case hd => rfl); (case hg => rfl); (case hr => first | (go_simp; done) | (go_simp; rfl)); intro gb101 hg w9 hbox hb; have BK101 := Aside0.mk (hbox); have GW101 : Aside0 (w.heap.size ≤ gb101) := gw_ hg (below_size bl_); have GE101 := GW101; replace HB := Aside0.mk (below_step bl_ hb); clear hb hbox hg; obtain ⟨hcz10_0, hcz10_1, hcz10_2, hfz10_0, hfz10_1, hfz10_2⟩ := cf3_ BK101.out))
   go_ret
   exact ⟨re_, bl_⟩
 ·rw [if_neg c2] at H
  have c2b0 : (a0_0 == (-1)) = false := beq_eq_false_iff_ne.mpr c2
  have c2b1 : (a0_0 != (-1)) = true := bne_iff_ne.mpr c2
  obtain rfl := Option.some.inj H
  go_enter Tryd.func56, Tryd.ntmps56
  go_wp2_with (first | ((with_reducible refine gate_dst (N := 1) rfl ?_); (try (refine gate_guard (by rfl) ?_; dsimp only)); refine box_event ?hg (N := 1) ?hd (cs := #[.int .i64 a0_0, .int .i64 a0_1, .slice A0_2 l0_2.length c0_2]) (t := 60) ?hr ?_; (case hd => rfl); (case hg => rfl); (case hr => first | (go_simp; done) | (go_simp; rfl)); intro gb101 hg w11 hbox hb; have BK101 := Aside0.mk (hbox); have GW101 : Aside0 (w.heap.size ≤ gb101) := gw_ hg (below_size bl_); have GE101 := GW101; replace HB := Aside0.mk (below_step bl_ hb); clear hb hbox hg; obtain ⟨hcz12_0, hcz12_1, hcz12_2, hfz12_0, hfz12_1, hfz12_2⟩ := cf3_ BK101.out))
  go_ret
  exact ⟨re_, bl_⟩

end Go.Proofs.YtopbjginpmdebaaDoor.K
