-- core.within, core.within$1, core.within$1$1: the forms of a form, in their order, down to a level
import Derived.RangeFuncNested
import Derived.RangeFuncBound
import Derived.RangeFuncCalls
import Derived.RangeFuncLeaves
import Derived.Shelf.Abstract
import Derived.Shelf.RegionOpen
import Derived.WalkKit
import Derived.OwnWalkIn
import Derived.TacticsInMore
import Derived.LoopNIn
import Derived.LoopIn
import Derived.Test.YtdijehgibejflaaC1
namespace Go.Proofs.Ytdijehgibejflaa.K
open Go.RowKit Go.Shelf Go.Proofs.YtdijehgibejflaaW.PrintWords Go.Proofs.YtdijehgibejflaaW.PrintLast
attribute [local go_sem] Oper.semAt_some
set_option linter.unusedVariables false

theorem ev_room {F : Fence} (hd : F.depth = none) (k : Nat) : F.room k := fun d h => by rw [hd] at h; cases h
theorem ev_roundAny {F : Fence} (hd : F.depth = none) {m m' : Nat} {P : Program} {l : Nat} {f : FuncId} {tmps : Array Value} {assign body : Code} {w : World} {R : Ending → World → Prop}
    (h : RoundIn F m P l f tmps assign body w R) : RoundIn F m' P l f tmps assign body w R := ⟨h.1, fun c cs _ => h.2 c cs (ev_room hd _)⟩
theorem ev_yieldAny {F : Fence} (hd : F.depth = none) {m : Nat} (m' : Nat) {P : Program} {l : Nat} {args : Array Value} {W : World} {R : Ending → World → Prop} (h : YieldAt F m P l args W R) : YieldAt F m' P l args W R := by
  obtain ⟨fn, tmps, assign, body, hy, hR⟩ := h
  exact ⟨fn, tmps, assign, body, hy, ev_roundAny hd hR⟩

/-- the forms of a form, n levels of them -/
def wk : Nat → S32 → List S32
  | 0, _ => []
  | n + 1, x => x :: (x.f3.map (wk n)).flatten
/-- no list longer than an int tells, n levels down -/
def sml : Nat → S32 → Prop
  | 0, _ => True
  | n + 1, x => x.f3.length < 9223372036854775807 ∧ ∀ y ∈ x.f3, sml n y
/-- a form and a value that stands for it -/
def shp (x : S32) (v : Value) : Prop := ∃ A3 c3 A4 c4 A5 c5, v = .agg #[.int .i64 x.f0, .int .i64 x.f1, .bool x.f2.f0, .slice A3 x.f2.f1.length c3, .slice A4 x.f2.f2.length c4, .slice A5 x.f3.length c5]
abbrev Al := { p : S32 × Value // shp p.1 p.2 }
/-- what a round keeps that goes on: all that lay below n₀, and whatever cells lie elsewhere than in block E -/
structure Kp (n₀ E : Nat) (W W' : World) : Prop where
  below : Below n₀ W W'
  keep : ∀ (k : Nat) (c : Array Value) (t : TypeId) (f : Nat × Nat), k ≠ E → W.heap[k]? = some (.cells c t f) → W'.heap[k]? = some (.cells c t f)
theorem Kp.refl (n₀ E : Nat) (W : World) : Kp n₀ E W W := ⟨Below.refl _ _, fun _ _ _ _ _ h => h⟩
theorem Kp.trans {n₀ E : Nat} {A B C : World} (h : Kp n₀ E A B) (g : Kp n₀ E B C) : Kp n₀ E A C := ⟨h.below.trans g.below, fun k c t f hk hh => g.keep k c t f hk (h.keep k c t f hk hh)⟩
theorem Kp.grown {n₀ E : Nat} {A B : World} (h : Below A.heap.size A B) (hn : n₀ ≤ A.heap.size) : Kp n₀ E A B :=
  ⟨h.mono hn, fun k c t f _ hh => (h.block k (Array.getElem?_eq_some_iff.1 hh).1).trans hh⟩
theorem grown_of_below {A B : World} (h : Below A.heap.size A B) : A.grownBy B none := ⟨h.os, h.tape, h.output, h.size, fun k hk _ => h.block k hk⟩
/-- a form in memory, and the value that stands for it -/
def frm (w : World) (x : S32) (v : Value) : Prop := ∃ A3 c3 A4 c4 A5 c5, v = .agg #[.int .i64 x.f0, .int .i64 x.f1, .bool x.f2.f0, .slice A3 x.f2.f1.length c3, .slice A4 x.f2.f2.length c4, .slice A5 x.f3.length c5] ∧ x.f3.length ≤ c5 ∧ k32.C w A5 x.f3.length x.f3
theorem frm.shp {w : World} {x : S32} {v : Value} (h : frm w x v) : shp x v := by
  obtain ⟨A3, c3, A4, c4, A5, c5, h, _⟩ := h
  exact ⟨A3, c3, A4, c4, A5, c5, h⟩
/-- the boxes of the closure -/
structure Bxs (l Lv Yv Wv : Nat) (W : World) : Prop where
  lv : W.heap[Lv]? = some (.cells #[.int .i64 200] 3 (0, 0))
  yv : W.heap[Yv]? = some (.cells #[.func (.yield l) #[] #[]] 60 (0, 0))
  wv : W.heap[Wv]? = some (.cells #[.func (.func 35) #[] #[.pointer (some ⟨Lv, 0, none⟩), .pointer (some ⟨Yv, 0, none⟩), .pointer (some ⟨Wv, 0, none⟩)]] 70 (0, 0))
theorem Bxs.kept {l Lv Yv Wv n₀ E : Nat} {A B : World} (h : Bxs l Lv Yv Wv A) (k : Kp n₀ E A B) (hE : Lv ≠ E ∧ Yv ≠ E ∧ Wv ≠ E) : Bxs l Lv Yv Wv B :=
  ⟨k.keep _ _ _ _ hE.1 h.lv, k.keep _ _ _ _ hE.2.1 h.yv, k.keep _ _ _ _ hE.2.2 h.wv⟩
theorem box_cell {W : World} {B : Nat} {v : Value} {t : TypeId} (h : W.heap[B]? = some (.cells #[v] t (0, 0))) : W.cell? ⟨B, 0, none⟩ = some v := by
  simp [World.cell?, h]

set_option maxRecDepth 100000 in
set_option maxHeartbeats 4000000 in
theorem walk_in (F : Fence) (hd : F.depth = none) (h35 : F.fn 35) (hro : F.round = none) (l E N : Nat) (w : World) (Lv Yv Wv : Nat) (hE : Lv ≠ E ∧ Yv ≠ E ∧ Wv ≠ E) (J Jx : List Al → World → Prop)
    (hJ : ∀ s A B, J s A → A.grownBy B none → J s B)
    (hY : ∀ m pre (x : Al) W, J pre W → pre.length < N → YieldAt F m Try.prog l #[x.1.2] W fun e W' =>
      (e = .returned (.bool true) ∧ J (pre ++ [x]) W' ∧ Kp w.heap.size E W W') ∨ (e = .returned (.bool false) ∧ Jx (pre ++ [x]) W')) :
    ∀ (n : Nat) (x : S32) (v : Value), sml n x → frm w x v → ∃ list : List Al, list.map (·.1.1) = wk n x ∧ ∀ (m : Nat) (lev : Int) (pre : List Al) (W : World), lev + n = 201 → 1 ≤ lev → Below w.heap.size w W → E < W.heap.size → Bxs l Lv Yv Wv W → J pre W → pre.length + list.length ≤ N →
      CallsIn F m Try.prog 35 #[v, .int .i64 lev, .pointer (some ⟨Lv, 0, none⟩), .pointer (some ⟨Yv, 0, none⟩), .pointer (some ⟨Wv, 0, none⟩)] W fun e W' =>
        (e = .returned (.bool true) ∧ J (pre ++ list) W' ∧ Kp w.heap.size E W W') ∨ (e = .returned (.bool false) ∧ ∃ q, q <+: list ∧ Jx (pre ++ q) W') := by
  have hdd : ∀ k : Nat, (F.depth.isSome = true → 1 ≤ k) := fun k h => by rw [hd] at h; cases h
  intro n
  induction n with
  | zero =>
    intro x v _ hv
    refine ⟨[], rfl, fun m lev pre W hlev h1 hw hEW hb hJ0 hN => ?_⟩
    obtain ⟨A3, c3, A4, c4, A5, c5, rfl, hc5, hK⟩ := hv
    have hL := box_cell hb.lv
    have hLb : Lv < W.heap.size := (Array.getElem?_eq_some_iff.1 hb.lv).1
    have hgt : (200 : Int) < lev := by omega
    refine callsIn_of_wp Try.func35 rfl h35 ?_ hro
    simp only [Try.ntmps35, List.size_toArray, List.length_cons, List.length_nil, Nat.reduceAdd, Nat.reduceSub, Array.replicate_succ, Array.replicate_zero, List.push_toArray, List.append_toArray, List.nil_append, List.cons_append]
    gi_wp2
    go_ret
    have hB : Below W.heap.size W (W.alloc (Obj.cells #[Value.int IntKind.i64 x.f0, Value.int IntKind.i64 x.f1, Value.bool x.f2.f0, Value.slice A3 x.f2.f1.length c3, Value.slice A4 x.f2.f2.length c4, Value.slice A5 x.f3.length c5] 32)) := (Below.refl _ W).alloc (Nat.le_refl _) _
    exact .inl ⟨rfl, by rw [List.append_nil]; exact hJ _ _ _ hJ0 (grown_of_below hB), Kp.grown hB hw.size⟩
  | succ n ih =>
    intro x v hsm hv
    have hs0 := hv.shp
    obtain ⟨A3, c3, A4, c4, A5, c5, rfl, hc5, hK⟩ := hv
    have hkid : ∀ i : Nat, ∃ g : Value × List Al, i < x.f3.length → (∃ ad B3 d3 B4 d4 B5 d5, A5 = some ad ∧ g.1 = .agg #[.int .i64 (rd_T32 x.f3 i).f0, .int .i64 (rd_T32 x.f3 i).f1, .bool (rd_T32 x.f3 i).f2.f0, .slice B3 (rd_T32 x.f3 i).f2.f1.length d3, .slice B4 (rd_T32 x.f3 i).f2.f2.length d4, .slice B5 (rd_T32 x.f3 i).f3.length d5] ∧
          w.cell? (ad.add (i * 6)) = some (.int .i64 (rd_T32 x.f3 i).f0) ∧ w.cell? ⟨(ad.add (i * 6)).block, (ad.add (i * 6)).off + 1, none⟩ = some (.int .i64 (rd_T32 x.f3 i).f1) ∧ w.cell? ⟨(ad.add (i * 6)).block, (ad.add (i * 6)).off + 2, none⟩ = some (.bool (rd_T32 x.f3 i).f2.f0) ∧
          w.cell? ⟨(ad.add (i * 6)).block, (ad.add (i * 6)).off + 3, none⟩ = some (.slice B3 (rd_T32 x.f3 i).f2.f1.length d3) ∧ w.cell? ⟨(ad.add (i * 6)).block, (ad.add (i * 6)).off + 4, none⟩ = some (.slice B4 (rd_T32 x.f3 i).f2.f2.length d4) ∧ w.cell? ⟨(ad.add (i * 6)).block, (ad.add (i * 6)).off + 5, none⟩ = some (.slice B5 (rd_T32 x.f3 i).f3.length d5)) ∧
        g.2.map (·.1.1) = wk n (rd_T32 x.f3 i) ∧ ∀ (m : Nat) (lev : Int) (pre : List Al) (W : World), lev + n = 201 → 1 ≤ lev → Below w.heap.size w W → E < W.heap.size → Bxs l Lv Yv Wv W → J pre W → pre.length + g.2.length ≤ N →
      CallsIn F m Try.prog 35 #[g.1, .int .i64 lev, .pointer (some ⟨Lv, 0, none⟩), .pointer (some ⟨Yv, 0, none⟩), .pointer (some ⟨Wv, 0, none⟩)] W fun e W' =>
        (e = .returned (.bool true) ∧ J (pre ++ g.2) W' ∧ Kp w.heap.size E W W') ∨ (e = .returned (.bool false) ∧ ∃ q, q <+: g.2 ∧ Jx (pre ++ q) W') := by
      intro i
      by_cases hi : i < x.f3.length
      · have hmem : rd_T32 x.f3 (i : Int) ∈ x.f3 := by
          have : rd_T32 x.f3 (i : Int) = x.f3[i] := by simp [rd_T32, hi]
          rw [this]; exact List.getElem_mem hi
        obtain ⟨ad, B3, d3, B4, d4, B5, d5, ha, k0, k1, k2, k3, k4, k5, q3, q3', q4, q4', q5, q5'⟩ := at_T32 hK (i : Int) (by omega) (by omega)
        obtain ⟨ls, hls, hcall⟩ := ih (rd_T32 x.f3 i) _ (hsm.2 _ hmem) ⟨B3, d3, B4, d4, B5, d5, rfl, q5, q5'⟩
        rw [Int.toNat_natCast] at k0 k1 k2 k3 k4 k5
        exact ⟨(_, ls), fun _ => ⟨⟨ad, B3, d3, B4, d4, B5, d5, ha, rfl, k0, k1, k2, k3, k4, k5⟩, hls, hcall⟩⟩
      · exact ⟨(.bool false, []), fun h => absurd h hi⟩
    obtain ⟨g, hg⟩ := Classical.axiomOfChoice hkid
    clear hkid ih
    obtain ⟨up, hup⟩ : ∃ up : Nat → List Al, up = fun k => ((List.range k).map fun j => (g j).2).flatten := ⟨_, rfl⟩
    have up0 : up 0 = [] := by rw [hup]; rfl
    have upS : ∀ k, up (k + 1) = up k ++ (g k).2 := fun k => by rw [hup]; simp [List.range_succ]
    have hpre : ∀ k, k ≤ x.f3.length → up k <+: up x.f3.length := by
      intro k hk
      obtain ⟨d, hd'⟩ : ∃ d, x.f3.length = k + d := ⟨x.f3.length - k, by omega⟩
      rw [hd']
      clear hd' hk
      induction d with
      | zero => exact List.prefix_refl _
      | succ d ihd => exact ihd.trans (by rw [show k + (d + 1) = (k + d) + 1 from rfl, upS]; exact List.prefix_append _ _)
    refine ⟨⟨(x, _), hs0⟩ :: up x.f3.length, ?_, fun m lev pre W hlev h1 hw hEW hb hJ0 hN => ?_⟩
    · rw [List.map_cons, wk]
      congr 1
      rw [hup]
      simp only [List.map_flatten, List.map_map]
      congr 1
      refine List.ext_getElem (by simp) fun i h1 h2 => ?_
      simp only [List.getElem_map, List.getElem_range, Function.comp_apply]
      have hi : i < x.f3.length := by simpa using h1
      rw [(hg i hi).2.1]
      simp [rd_T32, hi]
    clear hup
    have hL := box_cell hb.lv
    have hLb : Lv < W.heap.size := (Array.getElem?_eq_some_iff.1 hb.lv).1
    have hngt : ¬ (200 : Int) < lev := by omega
    obtain ⟨o1, ho1⟩ : ∃ o1, o1 = (Obj.cells #[Value.int IntKind.i64 x.f0, Value.int IntKind.i64 x.f1, Value.bool x.f2.f0, Value.slice A3 x.f2.f1.length c3, Value.slice A4 x.f2.f2.length c4, Value.slice A5 x.f3.length c5] 32) := ⟨_, rfl⟩
    have hB1 : Below W.heap.size W (W.alloc o1) := (Below.refl _ W).alloc (Nat.le_refl _) _
    have hJ1 := hJ _ _ _ hJ0 (grown_of_below hB1)
    have hb1 : Bxs l Lv Yv Wv (W.alloc o1) := hb.kept (Kp.grown (n₀ := w.heap.size) (E := E) hB1 hw.size) hE
    have hf1 : (W.alloc o1).heap[W.heap.size]? = some o1 := World.alloc_heap_new W o1
    have hY1 := box_cell hb1.yv
    have hY2 := YieldAt.mono (hY (m - 1) pre ⟨(x, _), hs0⟩ _ hJ1 (by simp only [List.length_cons] at hN; omega)) (R' := fun e W2 =>
        (e = .returned (.bool true) ∧ J (pre ++ [⟨(x, _), hs0⟩]) W2 ∧ Kp w.heap.size E W W2 ∧ W2.cell? ⟨W.heap.size, 5, none⟩ = some (.slice A5 x.f3.length c5)) ∨ (e = .returned (.bool false) ∧ Jx (pre ++ [⟨(x, _), hs0⟩]) W2))
      (fun e W2 h => h.elim (fun ⟨he, hj, hk⟩ => .inl ⟨he, hj, (Kp.grown hB1 hw.size).trans hk, by
        have := hk.keep W.heap.size _ _ _ (Nat.ne_of_gt hEW) (by rw [hf1, ho1])
        simp [World.cell?, this]⟩) .inr)
    obtain ⟨fn, tmps, assign, body, hy, hR⟩ := hY2
    dsimp only at hy
    subst ho1
    refine callsIn_of_wp Try.func35 rfl h35 ?_ hro
    simp only [Try.ntmps35, List.size_toArray, List.length_cons, List.length_nil, Nat.reduceAdd, Nat.reduceSub, Array.replicate_succ, Array.replicate_zero, List.push_toArray, List.append_toArray, List.nil_append, List.cons_append]
    gi_wp2_with ((try refine ⟨hdd _, ?_⟩); refine hR.mono ?_; clear hR; rintro e W2 (⟨rfl, hJ2, hk2, hc2⟩ | ⟨rfl, hx2⟩))
    · gi_loopw [20] (fun p wr => ∃ i : Nat, p = .int .i64 i ∧ i ≤ x.f3.length ∧ J (pre ++ [⟨(x, _), hs0⟩] ++ up i) wr ∧ Kp w.heap.size E W wr)
        (fun p _ => x.f3.length - (match p with | .int _ z => z.toNat | _ => 0))
      case atStart => exact ⟨0, rfl, Nat.zero_le _, by rw [up0, List.append_nil]; exact hJ2, hk2⟩
      case round =>
        obtain ⟨i, rfl, hi, hJr, hkr⟩ := hrel
        by_cases hlt : i < x.f3.length
        · have hlt' : (i : Int) < (x.f3.length : Int) := by omega
          obtain ⟨⟨ad, B3, d3, B4, d4, B5, d5, rfl, hg1, k0, k1, k2, k3, k4, k5⟩, hls, hcall⟩ := hg i hlt
          have hwr := hw.trans hkr.below
          replace k0 := pw_cell_below hwr k0
          replace k1 := pw_cell_below hwr k1
          replace k2 := pw_cell_below hwr k2
          replace k3 := pw_cell_below hwr k3
          replace k4 := pw_cell_below hwr k4
          replace k5 := pw_cell_below hwr k5
          rw [hg1] at hcall
          obtain ⟨o2, ho2⟩ : ∃ o2, o2 = (Obj.cells #[.int .i64 (rd_T32 x.f3 i).f0, .int .i64 (rd_T32 x.f3 i).f1, .bool (rd_T32 x.f3 i).f2.f0, .slice B3 (rd_T32 x.f3 i).f2.f1.length d3, .slice B4 (rd_T32 x.f3 i).f2.f2.length d4, .slice B5 (rd_T32 x.f3 i).f3.length d5] 32) := ⟨_, rfl⟩
          have hB2 : Below wr.heap.size wr (wr.alloc o2) := (Below.refl _ wr).alloc (Nat.le_refl _) _
          have hkr2 : Kp w.heap.size E W (wr.alloc o2) := hkr.trans (Kp.grown hB2 hwr.size)
          have hb2 := hb.kept hkr2 hE
          have hV2 := box_cell hb2.wv
          have hup1 := hpre (i + 1) hlt
          rw [upS] at hup1
          have hlen := hup1.length_le
          rw [List.length_append] at hlen
          have hcall2 := hcall (m - 1) (lev + 1) (pre ++ [⟨(x, _), hs0⟩] ++ up i) (wr.alloc o2) (by omega) (by omega) (hw.trans hkr2.below) (Nat.lt_of_lt_of_le hEW hkr2.below.size) hb2 (hJ _ _ _ hJr (grown_of_below hB2))
            (by simp only [List.length_append, List.length_cons, List.length_nil] at hN ⊢; omega)
          clear hcall
          have hlw : IntKind.i64.wrap (lev + 1) = lev + 1 := (i64_w _).trans (by unfold wrap64; omega)
          have hiw : IntKind.i64.wrap ((i : Int) + 1) = ((i + 1 : Nat) : Int) := (i64_w _).trans (by have := hsm.1; unfold wrap64; omega)
          subst ho2
          gi_wp2_with ((try refine ⟨hdd _, ?_⟩); gi_at_call 35; refine hcall2.mono ?_; clear hcall2; rintro e W3 (⟨rfl, hJ3, hk3⟩ | ⟨rfl, q, hq, hx3⟩))
          · refine ⟨⟨i + 1, by simp, hlt, by rw [upS, ← List.append_assoc]; exact hJ3, hkr2.trans hk3⟩, ?_⟩
            show x.f3.length - ((i : Int) + 1).toNat < x.f3.length - ((i : Int)).toNat
            omega
          · go_ret
            exact .inr ⟨rfl, ⟨(x, _), hs0⟩ :: (up i ++ q), (List.prefix_cons_inj _).2 (((List.prefix_append_right_inj _).2 hq).trans hup1), by simpa [List.append_assoc] using hx3⟩
        · have hlt' : ¬ ((i : Int) < (x.f3.length : Int)) := by omega
          gi_wp2
          go_ret
          obtain rfl : i = x.f3.length := by omega
          exact .inl ⟨rfl, by simpa [List.append_assoc] using hJr, hkr⟩
    · go_ret
      exact .inr ⟨rfl, [⟨(x, _), hs0⟩], ⟨up x.f3.length, rfl⟩, hx2⟩
end Go.Proofs.Ytdijehgibejflaa.K
