-- core.Eval
import Derived.RangeFuncNested
import Derived.RangeFuncBound
import Derived.RangeFuncCalls
import Derived.RangeFuncLeaves
import Derived.RangeFuncBox
import Derived.RegionIn
import Derived.Test.YtdijehgibejflaaEw
import Derived.Test.YtdijehgibejflaaC2
namespace Go.Proofs.Ytdijehgibejflaa.K
open Go.RowKit Go.Shelf Go.Proofs.YtdijehgibejflaaW.PrintWords Go.Proofs.YtdijehgibejflaaW.PrintLast
attribute [local go_sem] Oper.semAt_some
set_option linter.unusedVariables false
/-- the arity of an operator -/
def arI (a : Int) : Int := if a = 1 ∨ a = 2 ∨ a = 3 then 0 else if a = 4 then 1 else if a = 13 then 3 else if 5 ≤ a ∧ a ≤ 12 then 2 else -1
theorem arI_eq (a : Int) : core_arity.f 1 a = some (arI a) := by
  by_cases c1 : a = 1
  · subst c1; rfl
  by_cases c2 : a = 2
  · subst c2; rfl
  by_cases c3 : a = 3
  · subst c3; rfl
  by_cases c4 : a = 4
  · subst c4; rfl
  by_cases c5 : a = 5
  · subst c5; rfl
  by_cases c6 : a = 6
  · subst c6; rfl
  by_cases c7 : a = 7
  · subst c7; rfl
  by_cases c8 : a = 8
  · subst c8; rfl
  by_cases c9 : a = 9
  · subst c9; rfl
  by_cases c10 : a = 10
  · subst c10; rfl
  by_cases c11 : a = 11
  · subst c11; rfl
  by_cases c12 : a = 12
  · subst c12; rfl
  by_cases c13 : a = 13
  · subst c13; rfl
  have e : arI a = -1 := by
    unfold arI
    rw [if_neg (by omega), if_neg (by omega), if_neg (by omega), if_neg (by omega)]
  rw [e]
  simp [core_arity.f, core_arity.j0, c1, c2, c3, c4, c5, c6, c7, c8, c9, c10, c11, c12, c13]
/-- a form whose operator does not have so many arguments -/
def badF (x : S32) : Bool := decide (arI x.f0 < 0) || arI x.f0 != (x.f3.length : Int)
/-- the error so far, behind one form more -/
def updF (m : Int) (e : Int) (x : S32) : Int := if x.f0 = 2 then 8 else if x.f0 = 3 ∧ (x.f1 < 0 ∨ x.f1 ≥ m) ∧ e = 0 then 1 else e
def smlB : Nat → S32 → Bool
  | 0, _ => true
  | n + 1, x => decide (x.f3.length < 9223372036854775807) && x.f3.all (smlB n)
theorem smlB_sml : ∀ (n : Nat) (x : S32), smlB n x = true → sml n x
  | 0, _, _ => trivial
  | n + 1, x, h => by
    simp only [smlB, Bool.and_eq_true, decide_eq_true_eq, List.all_eq_true] at h
    exact ⟨h.1, fun y hy => smlB_sml n y (h.2 y hy)⟩
def core_Eval.f (k : Nat) (a0_0 : Int) (a0_1 : Int) (a0_2 : Bool) (l0_3 : List Int) (l0_4 : List Int) (l0_5 : List (S32)) (l1 : List Int) : Option (Int × Int) :=
  if smlB 200 ⟨a0_0, a0_1, ⟨a0_2, l0_3, l0_4⟩, l0_5⟩ = true then
    (core_extent.f k a0_0 a0_1 a0_2 l0_3 l0_4 l0_5).bind fun d => if d.1 > 200 then some (0, 9) else
      if (wk 200 ⟨a0_0, a0_1, ⟨a0_2, l0_3, l0_4⟩, l0_5⟩).any badF = true then some (0, 2) else
      if (wk 200 ⟨a0_0, a0_1, ⟨a0_2, l0_3, l0_4⟩, l0_5⟩).foldl (updF l1.length) 0 = 0 then (core_eval.f k a0_0 a0_1 a0_2 l0_3 l0_4 l0_5 l1).bind fun v => some (v, 0)
      else some (0, (wk 200 ⟨a0_0, a0_1, ⟨a0_2, l0_3, l0_4⟩, l0_5⟩).foldl (updF l1.length) 0)
  else none
theorem fold_snoc {m ev : Int} {pre : List Al} (hev : (pre.map (·.1.1)).foldl (updF m) 0 = ev) (z : Al) : ((pre ++ [z]).map (·.1.1)).foldl (updF m) 0 = updF m ev z.1.1 := by
  rw [List.map_append, List.foldl_append, hev]; rfl
theorem any_snoc {pre : List Al} (h : (pre.map (·.1.1)).any badF = false) (z : Al) : ((pre ++ [z]).map (·.1.1)).any badF = badF z.1.1 := by
  rw [List.map_append, List.any_append, h]; simp
theorem keeps_drawn {B : Nat} {W W' : World} (hq : Drawn0 W W') : KeepsFrom B W W' := ⟨hq.below.size, fun k o _ hk _ => (hq.below.block k (Array.getElem?_eq_some_iff.1 hk).1).trans hk⟩
theorem core_Eval.mono : ∀ a0 a1 a2 a3 a4 a5 a6 k, LeO (core_Eval.f k a0 a1 a2 a3 a4 a5 a6) (core_Eval.f (k + 1) a0 a1 a2 a3 a4 a5 a6) := by
  intro a0 a1 a2 a3 a4 a5 a6 k r h
  unfold core_Eval.f at h ⊢
  split at h
  · rename_i hs
    rw [if_pos hs]
    obtain ⟨d, hd, h⟩ := Option.bind_eq_some_iff.1 h
    rw [core_extent.mono _ _ _ _ _ _ k d hd]
    simp only [Option.bind_some]
    split at h
    · rename_i h1
      rw [if_pos h1]; exact h
    · rename_i h1
      rw [if_neg h1]
      split at h
      · rename_i h2
        rw [if_pos h2]; exact h
      · rename_i h2
        rw [if_neg h2]
        split at h
        · rename_i h3
          rw [if_pos h3]
          obtain ⟨v, hv, h⟩ := Option.bind_eq_some_iff.1 h
          rw [core_eval.mono _ _ _ _ _ _ _ k v hv]
          exact h
        · rename_i h3
          rw [if_neg h3]; exact h
  · cases h
theorem cells_kept {A B : World} {row : Option Nat} {b : Nat} {c : Array Value} {t : TypeId} {f : Nat × Nat} (h : A.heap[b]? = some (.cells c t f)) (hg : A.grownBy B row) (hr : ∀ r, row = some r → ∃ o : Obj, A.heap[r]? = some o ∧ o.isCells = false) : B.heap[b]? = some (.cells c t f) := by
  refine (hg.block b (Array.getElem?_eq_some_iff.1 h).1 (fun e => ?_)).trans h
  obtain ⟨o, ho, hc⟩ := hr b e.symm
  rw [h] at ho
  cases ho
  simp [Obj.isCells] at hc
theorem drewN_heap (W : World) (q : Nat) : (W.drewN q).heap = W.heap := rfl
theorem boxed_drewN {W : World} {B : Nat} {t : TypeId} {v : Value} (h : Boxed W B t v) (q : Nat) : Boxed (W.drewN q) B t v := h
theorem below_drewN {n₀ : Nat} {w W : World} (h : Below n₀ w W) (q : Nat) : Below n₀ w (W.drewN q) := h.trans ⟨rfl, rfl, rfl, Nat.le_refl _, fun _ _ => rfl⟩
theorem keeps_drewN (B : Nat) (W : World) (q : Nat) : KeepsFrom B W (W.drewN q) := ⟨Nat.le_refl _, fun _ _ _ h _ => h⟩
theorem kp_drewN (n₀ E : Nat) (W : World) (q : Nat) : Kp n₀ E W (W.drewN q) := ⟨below_drewN (Below.refl _ _) q, fun _ _ _ _ _ h => h⟩
theorem kp_set {n₀ E : Nat} (hn : n₀ ≤ E) (W : World) (u : Value) : Kp n₀ E W (W.setCell ⟨E, 0, none⟩ u) := ⟨(Below.refl _ _).setCell (p := ⟨E, 0, none⟩) hn u, fun k c t f hk hh => (Below.heap_setCell W ⟨E, 0, none⟩ u k hk).trans hh⟩
/-- what the loop's body keeps -/
def IEx (w : World) (E : Nat) (A1 : Option Addr) (c1 : Nat) (m : Nat) (oF : Obj) (ev : Int) (W : World) : Prop :=
  Boxed W E 41 (.int .i64 ev) ∧ Boxed W (w.heap.size + 1 + 1) 3 (.int .i64 0) ∧ Boxed W (w.heap.size + 1 + 1 + 1) 41 (.int .i64 0) ∧ Boxed W (w.heap.size + 1) 33 (.slice A1 m c1) ∧ W.heap[w.heap.size]? = some oF
theorem ex_skip {w W : World} {B E : Nat} {A1 : Option Addr} {c1 m : Nat} {oF : Obj} {ev : Int} (h : IEx w E A1 c1 m oF ev W) (hB : Below w.heap.size w W) (q : Nat) {p : Prop} {ev' : Int} (he : ev' = ev) (hp : p) :
    KeepsFrom B W (W.drewN q) ∧ Kp w.heap.size E W (W.drewN q) ∧ (Boxed (W.drewN q) E 41 (.int .i64 ev') ∧ Boxed (W.drewN q) (w.heap.size + 1 + 1) 3 (.int .i64 0) ∧ Boxed (W.drewN q) (w.heap.size + 1 + 1 + 1) 41 (.int .i64 0) ∧ Boxed (W.drewN q) (w.heap.size + 1) 33 (.slice A1 m c1) ∧ (W.drewN q).heap[w.heap.size]? = some oF ∧ p) ∧ Below w.heap.size w (W.drewN q) :=
  ⟨keeps_drewN _ _ _, kp_drewN _ _ _ _, ⟨he ▸ h.1, h.2.1, h.2.2.1, h.2.2.2.1, h.2.2.2.2, hp⟩, below_drewN hB q⟩
theorem ex_set {w W : World} {B E : Nat} {A1 : Option Addr} {c1 m : Nat} {oF : Obj} {ev : Int} (h : IEx w E A1 c1 m oF ev W) (hB : Below w.heap.size w W) (hE : w.heap.size + 1 + 1 + 1 < E) (q : Nat) (v : Int) {p : Prop} {ev' : Int} (he : ev' = v) (hp : p) :
    KeepsFrom B W ((W.drewN q).setCell ⟨E, 0, none⟩ (.int .i64 v)) ∧ Kp w.heap.size E W ((W.drewN q).setCell ⟨E, 0, none⟩ (.int .i64 v)) ∧ (Boxed ((W.drewN q).setCell ⟨E, 0, none⟩ (.int .i64 v)) E 41 (.int .i64 ev') ∧ Boxed ((W.drewN q).setCell ⟨E, 0, none⟩ (.int .i64 v)) (w.heap.size + 1 + 1) 3 (.int .i64 0) ∧ Boxed ((W.drewN q).setCell ⟨E, 0, none⟩ (.int .i64 v)) (w.heap.size + 1 + 1 + 1) 41 (.int .i64 0) ∧ Boxed ((W.drewN q).setCell ⟨E, 0, none⟩ (.int .i64 v)) (w.heap.size + 1) 33 (.slice A1 m c1) ∧
      ((W.drewN q).setCell ⟨E, 0, none⟩ (.int .i64 v)).heap[w.heap.size]? = some oF ∧ p) ∧ Below w.heap.size w ((W.drewN q).setCell ⟨E, 0, none⟩ (.int .i64 v)) := by
  obtain ⟨h1, h2, h3, h4, h5⟩ := h
  subst he
  refine ⟨(keeps_drewN _ _ _).trans ((KeepsOthers.setCell _ _ _).from _), (kp_drewN _ _ _ q).trans (kp_set (by omega) _ _), ⟨(boxed_drewN h1 q).set _, (boxed_drewN h2 q).other (by omega) _, (boxed_drewN h3 q).other (by omega) _, (boxed_drewN h4 q).other (by omega) _, (Below.heap_setCell (W.drewN q) ⟨E, 0, none⟩ _ _ (by show w.heap.size ≠ E; omega)).trans h5, hp⟩, (below_drewN hB q).setCell (p := ⟨E, 0, none⟩) (by show w.heap.size ≤ E; omega) _⟩
theorem ex_bad {w W : World} {B E : Nat} {A1 : Option Addr} {c1 m : Nat} {oF : Obj} {ev : Int} (h : IEx w E A1 c1 m oF ev W) (hB : Below w.heap.size w W) (q : Nat) {p : Prop} (hp : p) :
    KeepsFrom B W (((W.drewN q).setCell ⟨w.heap.size + 1 + 1, 0, none⟩ (.int .i64 0)).setCell ⟨w.heap.size + 1 + 1 + 1, 0, none⟩ (.int .i64 2)) ∧ ((Code.ret = .ret ∧ Boxed (((W.drewN q).setCell ⟨w.heap.size + 1 + 1, 0, none⟩ (.int .i64 0)).setCell ⟨w.heap.size + 1 + 1 + 1, 0, none⟩ (.int .i64 2)) (w.heap.size + 1 + 1) 3 (.int .i64 0) ∧
      Boxed (((W.drewN q).setCell ⟨w.heap.size + 1 + 1, 0, none⟩ (.int .i64 0)).setCell ⟨w.heap.size + 1 + 1 + 1, 0, none⟩ (.int .i64 2)) (w.heap.size + 1 + 1 + 1) 41 (.int .i64 2) ∧ p) ∧ Below w.heap.size w (((W.drewN q).setCell ⟨w.heap.size + 1 + 1, 0, none⟩ (.int .i64 0)).setCell ⟨w.heap.size + 1 + 1 + 1, 0, none⟩ (.int .i64 2))) := by
  obtain ⟨h1, h2, h3, h4, h5⟩ := h
  exact ⟨((keeps_drewN _ _ _).trans ((KeepsOthers.setCell _ _ _).from _)).trans ((KeepsOthers.setCell _ _ _).from _), ⟨rfl, ((boxed_drewN h2 q).set _).other (by omega) _, ((boxed_drewN h3 q).other (by omega) _).set _, hp⟩, ((below_drewN hB q).setCell (p := ⟨w.heap.size + 1 + 1, 0, none⟩) (by show w.heap.size ≤ w.heap.size + 1 + 1; omega) _).setCell (p := ⟨w.heap.size + 1 + 1 + 1, 0, none⟩) (by show w.heap.size ≤ w.heap.size + 1 + 1 + 1; omega) _⟩
theorem badF_neg {y : S32} (h : arI y.f0 < 0) : badF y = true := by simp [badF, h]
theorem badF_len {y : S32} (h : ¬ arI y.f0 = (y.f3.length : Int)) : badF y = true := by simp [badF, h]
theorem badF_ok {y : S32} (h : ¬ arI y.f0 < 0) (h' : arI y.f0 = (y.f3.length : Int)) : badF y = false := by unfold badF; simp; exact ⟨by omega, h'⟩
theorem updF_2 {m e : Int} {y : S32} (h : y.f0 = 2) : updF m e y = 8 := by unfold updF; rw [if_pos h]
theorem updF_1 {m e : Int} {y : S32} (h : y.f0 = 3) (h1 : y.f1 < 0 ∨ y.f1 ≥ m) (h2 : e = 0) : updF m e y = 1 := by unfold updF; rw [if_neg (by omega), if_pos ⟨h, h1, h2⟩]
theorem updF_keep {m e : Int} {y : S32} (h : ¬ y.f0 = 2) (h1 : ¬ (y.f0 = 3 ∧ (y.f1 < 0 ∨ y.f1 ≥ m) ∧ e = 0)) : updF m e y = e := by unfold updF; rw [if_neg h, if_neg h1]
set_option maxRecDepth 100000 in
set_option maxHeartbeats 8000000 in
theorem core_Eval.calls (k : Nat) (a0_0 : Int) (a0_1 : Int) (a0_2 : Bool) (A0_3 : Option Addr) (c0_3 : Nat) (l0_3 : List Int) (A0_4 : Option Addr) (c0_4 : Nat) (l0_4 : List Int) (A0_5 : Option Addr) (c0_5 : Nat) (l0_5 : List (S32)) (A1 : Option Addr) (c1 : Nat) (l1 : List Int) (r1 : Int) (r2 : Int) (w : World)
    (hr0_3 : Kd.C (Kd.int .u32) w A0_3 l0_3.length l0_3) (hc0_3 : l0_3.length ≤ c0_3) (hr0_4 : Kd.C (Kd.int .u32) w A0_4 l0_4.length l0_4) (hc0_4 : l0_4.length ≤ c0_4) (hr0_5 : Kd.C k32 w A0_5 l0_5.length l0_5) (hc0_5 : l0_5.length ≤ c0_5)
    (hr1 : Kd.C (Kd.int .i64) w A1 l1.length l1) (hc1 : l1.length ≤ c1) (h : core_Eval.f k a0_0 a0_1 a0_2 l0_3 l0_4 l0_5 l1 = some (r1, r2)) :
    Calls Try.prog 14 #[.agg #[.int .i64 a0_0, .int .i64 a0_1, .bool a0_2, .slice A0_3 l0_3.length c0_3, .slice A0_4 l0_4.length c0_4, .slice A0_5 l0_5.length c0_5], .slice A1 l1.length c1] w fun e w' => e = .returned (.tuple #[.int .i64 r1, .int .i64 r2]) ∧ Below w.heap.size w w' := by
  obtain ⟨x, hx⟩ : ∃ x : S32, x = ⟨a0_0, a0_1, ⟨a0_2, l0_3, l0_4⟩, l0_5⟩ := ⟨_, rfl⟩
  unfold core_Eval.f at h
  rw [← hx] at h
  by_cases hsm : smlB 200 x = true
  · rw [if_pos hsm] at h
    obtain ⟨⟨d, s⟩, hd, h⟩ := Option.bind_eq_some_iff.1 h
    dsimp only at h
    obtain ⟨o1, ho1⟩ : ∃ o1, o1 = (Obj.cells #[.int .i64 a0_0, .int .i64 a0_1, .bool a0_2, .slice A0_3 l0_3.length c0_3, .slice A0_4 l0_4.length c0_4, .slice A0_5 l0_5.length c0_5] 32) := ⟨_, rfl⟩
    obtain ⟨o2, ho2⟩ : ∃ o2, o2 = (Obj.cells #[.slice A1 l1.length c1] 33) := ⟨_, rfl⟩
    obtain ⟨w1, hw1⟩ : ∃ w1, w1 = (((w.alloc o1).alloc o2).alloc (.cells #[.int .i64 0] 3)).alloc (.cells #[.int .i64 0] 41) := ⟨_, rfl⟩
    have hB1 : Below w.heap.size w w1 := by rw [hw1]; exact ((((Below.refl _ w).alloc (Nat.le_refl _) _).alloc (by simp) _).alloc (by simp; omega) _).alloc (by simp; omega) _
    have hE := core_extent.calls k a0_0 a0_1 a0_2 A0_3 c0_3 l0_3 A0_4 c0_4 l0_4 A0_5 c0_5 l0_5 d s w1 (Kd.C_below hr0_3 hB1) hc0_3 (Kd.C_below hr0_4 hB1) hc0_4 (Kd.C_below hr0_5 hB1) hc0_5 hd
    have hE' := hE.mono (R' := fun e w2 => e = .returned (.tuple #[.int .i64 d, .int .i64 s]) ∧ w2.heap[w.heap.size]? = some o1 ∧ w2.heap[w.heap.size + 1]? = some o2 ∧ Boxed w2 (w.heap.size + 1 + 1) 3 (.int .i64 0) ∧ Boxed w2 (w.heap.size + 1 + 1 + 1) 41 (.int .i64 0) ∧ Below w.heap.size w w2 ∧ w.heap.size + 1 + 1 + 1 < w2.heap.size) (by
      rintro e w2 ⟨he, hb⟩
      have hs : w1.heap.size = w.heap.size + 1 + 1 + 1 + 1 := by rw [hw1]; simp
      refine ⟨he, (hb.block _ (by omega)).trans ?_, (hb.block _ (by omega)).trans ?_, (hb.block _ (by omega)).trans ?_, (hb.block _ (by omega)).trans ?_, hB1.trans (hb.mono (by omega)), by have := hb.size; omega⟩
      · rw [hw1]
        exact (Below.heap_alloc _ _ _ (by simp; omega)).trans ((Below.heap_alloc _ _ _ (by rw [World.size_alloc, World.size_alloc]; omega)).trans ((Below.heap_alloc _ _ _ (by simp)).trans (World.alloc_heap_new w o1)))
      · rw [hw1]
        have := World.alloc_heap_new (w.alloc o1) o2
        rw [World.size_alloc] at this
        exact (Below.heap_alloc _ _ _ (by simp)).trans ((Below.heap_alloc _ _ _ (by simp)).trans this)
      · rw [hw1]
        have := World.alloc_heap_new ((w.alloc o1).alloc o2) (.cells #[.int .i64 0] 3)
        rw [World.size_alloc, World.size_alloc] at this
        exact (Below.heap_alloc _ _ _ (by simp)).trans this
      · rw [hw1]
        have := World.alloc_heap_new (((w.alloc o1).alloc o2).alloc (.cells #[.int .i64 0] 3)) (.cells #[.int .i64 0] 41)
        rw [World.size_alloc, World.size_alloc, World.size_alloc] at this
        exact this)
    clear hE
    refine (callsIn_wide (n := 3)).1 ?_
    refine callsIn_of_wp_marks Try.func14 rfl trivial ?_
    simp only [Try.ntmps14, List.size_toArray, List.length_cons, List.length_nil, Nat.reduceAdd, Nat.reduceSub, Array.replicate_succ, Array.replicate_zero, List.push_toArray, List.append_toArray, List.nil_append, List.cons_append]
    subst hw1 ho1 ho2
    by_cases hd2 : d > 200
    · rw [if_pos hd2] at h
      obtain ⟨rfl, rfl⟩ : 0 = r1 ∧ 9 = r2 := by simpa using h
      have hd3 : (200 : Int) < d := hd2
      gi_wp2_with (refine ⟨trivial, ?_⟩; gi_at_call 22; refine (callsIn_wide.2 hE').mono ?_; clear hE'; rintro e w2 ⟨rfl, b0, b1, b2, b3, hBw, hsz⟩; have c2 := b2.cell; have f2 := b2.frozen; have c3 := b3.cell; have f3 := b3.frozen)
      have g2 := (b2.set (.int .i64 0)).other (B' := w.heap.size + 1 + 1 + 1) (by omega) (.int .i64 9)
      have g3 := (b3.other (B' := w.heap.size + 1 + 1) (by omega) (.int .i64 0)).set (.int .i64 9)
      refine ⟨.tuple #[.int .i64 0, .int .i64 9], ?_, rfl, (hBw.setCell (p := ⟨w.heap.size + 1 + 1, 0, none⟩) (by show w.heap.size ≤ w.heap.size + 1 + 1; omega) _).setCell (p := ⟨w.heap.size + 1 + 1 + 1, 0, none⟩) (by show w.heap.size ≤ w.heap.size + 1 + 1 + 1; omega) _⟩
      simp [results, Try.f14, go_sem, g2.cell, g3.cell]
    · rw [if_neg hd2] at h
      have hd3 : ¬ (200 : Int) < d := hd2
      gi_wp2_with (first
        | (refine ⟨trivial, ?_⟩; gi_at_call 22; refine (callsIn_wide.2 hE').mono ?_; clear hE'; rintro e w2 ⟨rfl, b0, b1, b2, b3, hBw, hsz⟩; have c2 := b2.cell; have f2 := b2.frozen; have c3 := b3.cell; have f3 := b3.frozen; have g0 := (Below.heap_alloc w2 (.cells #[.int .i64 0] 41) w.heap.size (by omega)).trans b0; have k0 := blk_cell g0 0; have k1 := blk_cell g0 1; have k2 := blk_cell g0 2; have k3 := blk_cell g0 3; have k4 := blk_cell g0 4; have k5 := blk_cell g0 5)
        | (refine ⟨trivial, ?_⟩; gi_at_call 23; refine (within_in Fence.wide 2 trivial rfl _ _ _ _ _ _ _).mono ?_; rintro e w3 ⟨rfl, rfl⟩))
      have hx' := hx
      obtain ⟨oF, hoF⟩ : ∃ oF, oF = (Obj.cells #[.int .i64 a0_0, .int .i64 a0_1, .bool a0_2, .slice A0_3 l0_3.length c0_3, .slice A0_4 l0_4.length c0_4, .slice A0_5 l0_5.length c0_5] 32) := ⟨_, rfl⟩
      rw [← hoF]
      obtain ⟨W0, hW0⟩ : ∃ W0, ((w2.alloc (.cells #[.int .i64 0] 41)).alloc oF).alloc (.cells #[.int .i64 200] 3) = W0 := ⟨_, rfl⟩
      have hBW : Below w2.heap.size w2 W0 := by rw [← hW0]; exact (((Below.refl _ w2).alloc (Nat.le_refl _) _).alloc (by simp) _).alloc (by simp; omega) _
      have hszW : W0.heap.size = w2.heap.size + 1 + 1 + 1 := by rw [← hW0]; simp
      have bE : Boxed W0 w2.heap.size 41 (.int .i64 0) := by rw [← hW0]; exact ((Boxed.new w2 41 _).alloc _).alloc _
      have bF : W0.heap[w2.heap.size + 1]? = some oF := by
        rw [← hW0]
        have := World.alloc_heap_new (w2.alloc (.cells #[.int .i64 0] 41)) oF
        rw [World.size_alloc] at this
        exact (Below.heap_alloc _ _ _ (by simp)).trans this
      have bL : Boxed W0 (w2.heap.size + 1 + 1) 3 (.int .i64 200) := by
        rw [← hW0]
        have := Boxed.new ((w2.alloc (.cells #[.int .i64 0] 41)).alloc oF) 3 (.int .i64 200)
        rwa [World.size_alloc, World.size_alloc] at this
      have d0 := (hBW.block _ (by omega)).trans b0
      have d1 := (hBW.block _ (by omega)).trans b1
      have d2 : Boxed W0 (w.heap.size + 1 + 1) 3 (.int .i64 0) := (hBW.block _ (by omega)).trans b2
      have d3 : Boxed W0 (w.heap.size + 1 + 1 + 1) 41 (.int .i64 0) := (hBW.block _ (by omega)).trans b3
      have hBw0 : Below w.heap.size w W0 := hBw.trans (hBW.mono (by omega))
      rw [hW0]
      clear hW0
      refine wpIn_rangeFunc_ownH (α := Al) rfl (by omega) (gf := 34) (lb := #[.pointer (some ⟨w2.heap.size + 1 + 1, 0, none⟩), .pointer (some ⟨w2.heap.size + 1, 0, none⟩)]) rfl trivial (enters_of Try.func34 (by kernel_rfl) rfl)
        (encs := fun p => #[p.1.2]) (Kp := Kp w.heap.size w2.heap.size) (S := fun ys => ys.map (·.1.1) = wk 200 x) (Sp := fun pre => pre.map (·.1.1) <+: wk 200 x) (N := (wk 200 x).length) (w0 := W0)
        (fun l J Jx W hW hJ hJx hY h0 => ?seq) (fun h g => h.trans g) (fun W l o o' hl ho hc hk => ?kb) (Below.refl _ _) (fun _ => rfl)
        (fun pre W => (Boxed W w2.heap.size 41 (.int .i64 ((pre.map (·.1.1)).foldl (updF l1.length) 0)) ∧ Boxed W (w.heap.size + 1 + 1) 3 (.int .i64 0) ∧ Boxed W (w.heap.size + 1 + 1 + 1) 41 (.int .i64 0) ∧ Boxed W (w.heap.size + 1) 33 (.slice A1 l1.length c1) ∧
          W.heap[w.heap.size]? = some oF ∧ (pre.map (·.1.1)).any badF = false) ∧ Below w.heap.size w W)
        (fun c pre W => (c = .ret ∧ Boxed W (w.heap.size + 1 + 1) 3 (.int .i64 0) ∧ Boxed W (w.heap.size + 1 + 1 + 1) 41 (.int .i64 2) ∧ (pre.map (·.1.1)).any badF = true) ∧ Below w.heap.size w W)
        ?hI ?hIx ⟨⟨bE, d2, d3, d1, by rw [hoF]; exact d0, rfl⟩, hBw0⟩
        (fun p a' W => ∃ Bx, w2.heap.size < Bx ∧ (∃ o, p.1.2 = .agg o ∧ W.heap[Bx]? = some (.cells o 32 (0, 0))) ∧ a' = { tmps := #[.agg #[.int .i64 a0_0, .int .i64 a0_1, .bool a0_2, .slice A0_3 l0_3.length c0_3, .slice A0_4 l0_4.length c0_4, .slice A0_5 l0_5.length c0_5], .slice A1 l1.length c1, .pointer (some ⟨w.heap.size, 0, none⟩), .pointer (some ⟨w.heap.size + 1, 0, none⟩), .pointer (some ⟨w.heap.size + 1 + 1, 0, none⟩), .pointer (some ⟨w.heap.size + 1 + 1 + 1, 0, none⟩), .int .i64 d, .int .i64 s, .pointer (some ⟨w2.heap.size, 0, none⟩), .pointer (some ⟨Bx, 0, none⟩), undef, .tuple #[.int .i64 d, .int .i64 s], .agg #[.int .i64 a0_0, .int .i64 a0_1, .bool a0_2, .slice A0_3 l0_3.length c0_3, .slice A0_4 l0_4.length c0_4, .slice A0_5 l0_5.length c0_5], .tuple #[.int .i64 d, .int .i64 s], .int .i64 d, .int .i64 s, .int .i64 d, .bool (decide (200 < d)), .agg #[.int .i64 a0_0, .int .i64 a0_1, .bool a0_2, .slice A0_3 l0_3.length c0_3, .slice A0_4 l0_4.length c0_4, .slice A0_5 l0_5.length c0_5], .func (.func 34) #[] #[.pointer (some ⟨w2.heap.size + 1 + 1, 0, none⟩), .pointer (some ⟨w2.heap.size + 1, 0, none⟩)], p.1.2, undef, undef, undef, undef, undef, undef, undef, undef, undef, undef, undef, undef, undef, undef, undef, undef, undef, undef, undef, undef, undef, undef, undef, undef, undef, undef, undef, undef, undef, undef, undef, undef, undef, undef, undef, undef, undef, undef, undef, undef, undef, undef, undef], defers := [] })
        ?hAx ?assign ?body ?done ?stop
      case seq =>
        subst hx
        exact seq_in Fence.wide rfl trivial trivial rfl 2 l _ w _ _ (by omega) _ (smlB_sml 200 _ hsm) A0_3 c0_3 A0_4 c0_4 A0_5 c0_5 hc0_5 hr0_5 J Jx (fun s A B hs hg => hJ s A B none hs hg (fun r e => by cases e)) hY W (hBw0.trans (hW.mono hBw0.size))
          (by have := hW.size; omega) ((hW.block _ (by omega)).trans bL) ((hW.block _ (by omega)).trans (by rw [bF, hoF])) h0
      case kb =>
        refine ⟨belowK_b (w := W0) hBw0.size W l o o' hl ho hc hk, fun k c t f hk' hh => ?_⟩
        refine ((grownBy_putObj' W l o').block k (Array.getElem?_eq_some_iff.1 hh).1 (fun e => ?_)).trans hh
        cases e
        rw [hh] at ho
        cases ho
        simp [Obj.isCells] at hc
      case hI =>
        subst hoF
        exact OwnFrom.and (Own.from (fun s A B row hs hg hr => ⟨cells_kept hs.1 hg hr, cells_kept hs.2.1 hg hr, cells_kept hs.2.2.1 hg hr, cells_kept hs.2.2.2.1 hg hr, cells_kept hs.2.2.2.2.1 hg hr, hs.2.2.2.2.2⟩) _) (ownFrom_below (Nat.le_refl _) hBw0.size)
      case hIx =>
        exact fun c => OwnFrom.and (Own.from (fun s A B row hs hg hr => ⟨hs.1, cells_kept hs.2.1 hg hr, cells_kept hs.2.2.1 hg hr, hs.2.2.2⟩) _) (ownFrom_below (Nat.le_refl _) hBw0.size)
      case hAx =>
        exact fun p a' _ X Y row hs hg hr => by
          obtain ⟨Bx, h1, ⟨o, ho, hb⟩, h3⟩ := hs
          exact ⟨Bx, h1, ⟨o, ho, cells_kept hb hg (fun r e => (hr r e).2)⟩, h3⟩
      case assign =>
        rintro l pre ⟨⟨y, v⟩, hs⟩ W K ⟨⟨bE1, b21, b31, b11, b01, hbad⟩, hB1⟩ hK
        obtain ⟨A3', c3', A4', c4', A5', c5', hv⟩ := hs
        dsimp only at hv
        subst hv
        gi_wp2
        have hal : Below W.heap.size W (W.alloc (Obj.cells #[.int .i64 y.f0, .int .i64 y.f1, .bool y.f2.f0, .slice A3' y.f2.f1.length c3', .slice A4' y.f2.f2.length c4', .slice A5' y.f3.length c5'] 32)) := (Below.refl _ W).alloc (Nat.le_refl _) _
        exact hK _ _ ((KeepsOthers.alloc _ _).from _) (Kp.grown hal hB1.size) ⟨⟨bE1.alloc _, b21.alloc _, b31.alloc _, b11.alloc _, (Below.heap_alloc W _ _ (Array.getElem?_eq_some_iff.1 b01).1).trans b01, hbad⟩, hB1.alloc hB1.size _⟩ ⟨W.heap.size, bE1.lt, ⟨_, rfl, World.alloc_heap_new W _⟩, rfl⟩
      case body =>
        rintro l pre ⟨⟨y, v⟩, hs⟩ a' W hl ⟨r, hr⟩ ⟨⟨bE1, b21, b31, b11, b01, hbad⟩, hB1⟩ ⟨Bx, hBx, ⟨o, ho, hX⟩, rfl⟩ hlt
        obtain ⟨A3', c3', A4', c4', A5', c5', hv⟩ := hs
        dsimp only at hv ho
        subst hv
        cases ho
        have x0 := blk_cell hX 0
        have x1 := blk_cell hX 1
        have x5 := blk_cell hX 5
        have ce := bE1.cell
        have fe := bE1.frozen
        have c2 := b21.cell
        have f2 := b21.frozen
        have c3 := b31.cell
        have f3 := b31.frozen
        have c1' := b11.cell
        obtain ⟨ev, hev⟩ : ∃ ev, (pre.map (·.1.1)).foldl (updF l1.length) 0 = ev := ⟨_, rfl⟩
        rw [hev] at ce bE1
        have HI : IEx w w2.heap.size A1 c1 l1.length oF ev W := ⟨bE1, b21, b31, b11, b01⟩
        have HEV := Aside0.mk hev
        have HBAD := Aside0.mk hbad
        clear hev hbad hlt
        by_cases n1 : arI y.f0 < 0
        · have HN1 := Aside0.mk n1
          gi_wp2_with (refine ⟨trivial, ?_⟩; gi_at_call 24; refine (CallsIn.inRound l (callsIn_wide.2 (core_arity.calls 1 _ (arI _) _ (arI_eq _)))).mono ?_; rintro e w3 ⟨rfl, hdr⟩; obtain ⟨⟨q, rfl⟩⟩ := id hdr)
          exact ex_bad HI hB1 q ((any_snoc HBAD.out _).trans (badF_neg HN1.out))
        · have HN1 := Aside0.mk n1
          by_cases n2 : arI y.f0 = (y.f3.length : Int)
          · have HN2 := Aside0.mk n2
            by_cases o2 : y.f0 = 2
            · have HO2 := Aside0.mk o2
              rw [o2] at n1 n2 x0
              gi_wp2_with (refine ⟨trivial, ?_⟩; gi_at_call 24; refine (CallsIn.inRound l (callsIn_wide.2 (core_arity.calls 1 _ (arI _) _ (arI_eq _)))).mono ?_; rintro e w3 ⟨rfl, hdr⟩; obtain ⟨⟨q, rfl⟩⟩ := id hdr)
              exact ex_set HI hB1 (by omega) q 8 ((fold_snoc HEV.out _).trans (updF_2 HO2.out)) ((any_snoc HBAD.out _).trans (badF_ok (y := y) (by have h_ := HN1.out; show ¬ arI y.f0 < 0; omega) HN2.out))
            · have HO2 := Aside0.mk o2
              have o2b : (y.f0 == 2) = false := by simpa using o2
              by_cases o3 : y.f0 = 3
              · have HO3 := Aside0.mk o3
                rw [o3] at n1 n2 x0
                clear o2 o2b
                by_cases e0 : ev = 0
                · have HE0 := Aside0.mk e0
                  by_cases i0 : y.f1 < 0
                  · have HI0 := Aside0.mk i0
                    gi_wp2_with (refine ⟨trivial, ?_⟩; gi_at_call 24; refine (CallsIn.inRound l (callsIn_wide.2 (core_arity.calls 1 _ (arI _) _ (arI_eq _)))).mono ?_; rintro e w3 ⟨rfl, hdr⟩; obtain ⟨⟨q, rfl⟩⟩ := id hdr)
                    exact ex_set HI hB1 (by omega) q 1 ((fold_snoc HEV.out _).trans (updF_1 HO3.out (.inl HI0.out) HE0.out)) ((any_snoc HBAD.out _).trans (badF_ok (y := y) (by have h_ := HN1.out; show ¬ arI y.f0 < 0; omega) HN2.out))
                  · by_cases i1 : (l1.length : Int) ≤ y.f1
                    · have HI1 := Aside0.mk i1
                      gi_wp2_with (refine ⟨trivial, ?_⟩; gi_at_call 24; refine (CallsIn.inRound l (callsIn_wide.2 (core_arity.calls 1 _ (arI _) _ (arI_eq _)))).mono ?_; rintro e w3 ⟨rfl, hdr⟩; obtain ⟨⟨q, rfl⟩⟩ := id hdr)
                      exact ex_set HI hB1 (by omega) q 1 ((fold_snoc HEV.out _).trans (updF_1 HO3.out (.inr HI1.out) HE0.out)) ((any_snoc HBAD.out _).trans (badF_ok (y := y) (by have h_ := HN1.out; show ¬ arI y.f0 < 0; omega) HN2.out))
                    · have HI1 := Aside0.mk i1
                      have HI0 := Aside0.mk i0
                      gi_wp2_with (refine ⟨trivial, ?_⟩; gi_at_call 24; refine (CallsIn.inRound l (callsIn_wide.2 (core_arity.calls 1 _ (arI _) _ (arI_eq _)))).mono ?_; rintro e w3 ⟨rfl, hdr⟩; obtain ⟨⟨q, rfl⟩⟩ := id hdr)
                      exact ex_skip HI hB1 q ((fold_snoc HEV.out _).trans (updF_keep HO2.out (fun h => h.2.1.elim (fun (h_ : y.f1 < 0) => by have h1_ := HI0.out; omega) (fun (h_ : y.f1 ≥ (l1.length : Int)) => by have h1_ := HI1.out; omega)))) ((any_snoc HBAD.out _).trans (badF_ok (y := y) (by have h_ := HN1.out; show ¬ arI y.f0 < 0; omega) HN2.out))
                · have HE0 := Aside0.mk e0
                  have e0b : (ev == 0) = false := by simpa using e0
                  by_cases i0 : y.f1 < 0
                  · gi_wp2_with (refine ⟨trivial, ?_⟩; gi_at_call 24; refine (CallsIn.inRound l (callsIn_wide.2 (core_arity.calls 1 _ (arI _) _ (arI_eq _)))).mono ?_; rintro e w3 ⟨rfl, hdr⟩; obtain ⟨⟨q, rfl⟩⟩ := id hdr)
                    exact ex_skip HI hB1 q ((fold_snoc HEV.out _).trans (updF_keep HO2.out (fun h => HE0.out h.2.2))) ((any_snoc HBAD.out _).trans (badF_ok (y := y) (by have h_ := HN1.out; show ¬ arI y.f0 < 0; omega) HN2.out))
                  · by_cases i1 : (l1.length : Int) ≤ y.f1
                    · gi_wp2_with (refine ⟨trivial, ?_⟩; gi_at_call 24; refine (CallsIn.inRound l (callsIn_wide.2 (core_arity.calls 1 _ (arI _) _ (arI_eq _)))).mono ?_; rintro e w3 ⟨rfl, hdr⟩; obtain ⟨⟨q, rfl⟩⟩ := id hdr)
                      exact ex_skip HI hB1 q ((fold_snoc HEV.out _).trans (updF_keep HO2.out (fun h => HE0.out h.2.2))) ((any_snoc HBAD.out _).trans (badF_ok (y := y) (by have h_ := HN1.out; show ¬ arI y.f0 < 0; omega) HN2.out))
                    · gi_wp2_with (refine ⟨trivial, ?_⟩; gi_at_call 24; refine (CallsIn.inRound l (callsIn_wide.2 (core_arity.calls 1 _ (arI _) _ (arI_eq _)))).mono ?_; rintro e w3 ⟨rfl, hdr⟩; obtain ⟨⟨q, rfl⟩⟩ := id hdr)
                      exact ex_skip HI hB1 q ((fold_snoc HEV.out _).trans (updF_keep HO2.out (fun h => HE0.out h.2.2))) ((any_snoc HBAD.out _).trans (badF_ok (y := y) (by have h_ := HN1.out; show ¬ arI y.f0 < 0; omega) HN2.out))
              · have HO3 := Aside0.mk o3
                have o3b : (y.f0 == 3) = false := by simpa using o3
                gi_wp2_with (refine ⟨trivial, ?_⟩; gi_at_call 24; refine (CallsIn.inRound l (callsIn_wide.2 (core_arity.calls 1 _ (arI _) _ (arI_eq _)))).mono ?_; rintro e w3 ⟨rfl, hdr⟩; obtain ⟨⟨q, rfl⟩⟩ := id hdr)
                all_goals first
                  | (rename_i _ _ hu_ _; cases hu_; done)
                  | exact ex_skip HI hB1 q ((fold_snoc HEV.out _).trans (updF_keep HO2.out (fun h => HO3.out h.1))) ((any_snoc HBAD.out _).trans (badF_ok (y := y) (by have h_ := HN1.out; show ¬ arI y.f0 < 0; omega) HN2.out))
          · have HN2 := Aside0.mk n2
            have n2b : (arI y.f0 == (y.f3.length : Int)) = false := by simpa using n2
            have n2c : (arI y.f0 != (y.f3.length : Int)) = true := by simpa using n2
            gi_wp2_with (refine ⟨trivial, ?_⟩; gi_at_call 24; refine (CallsIn.inRound l (callsIn_wide.2 (core_arity.calls 1 _ (arI _) _ (arI_eq _)))).mono ?_; rintro e w3 ⟨rfl, hdr⟩; obtain ⟨⟨q, rfl⟩⟩ := id hdr)
            exact ex_bad HI hB1 q ((any_snoc HBAD.out _).trans (badF_len HN2.out))
      case done =>
        rintro D ys W hD hS ⟨⟨bE1, b21, b31, b11, b01, hbad⟩, hB1⟩ hK
        rw [hS] at bE1 hbad
        rw [if_neg (by rw [hbad]; simp)] at h
        have ce := bE1.cell
        have c2 := b21.cell
        have f2 := b21.frozen
        have c3 := b31.cell
        have f3 := b31.frozen
        have c1' := b11.cell
        by_cases hz : (wk 200 x).foldl (updF l1.length) 0 = 0
        · rw [if_pos hz] at h
          obtain ⟨v, hv, h⟩ := Option.bind_eq_some_iff.1 h
          obtain ⟨rfl, rfl⟩ : v = r1 ∧ 0 = r2 := by simpa using h
          rw [hz] at ce bE1
          have hEv := core_eval.calls k a0_0 a0_1 a0_2 A0_3 c0_3 l0_3 A0_4 c0_4 l0_4 A0_5 c0_5 l0_5 A1 c1 l1 v W (Kd.C_below hr0_3 hB1) hc0_3 (Kd.C_below hr0_4 hB1) hc0_4 (Kd.C_below hr0_5 hB1) hc0_5 (Kd.C_below hr1 hB1) hc1 hv
          clear hz hv hbad hx' hx hsm
          rw [hoF] at b01
          have k0 := blk_cell b01 0; have k1 := blk_cell b01 1; have k2 := blk_cell b01 2; have k3 := blk_cell b01 3; have k4 := blk_cell b01 4; have k5 := blk_cell b01 5
          clear hoF
          gi_wp2_with (refine ⟨trivial, ?_⟩; gi_at_call 25; refine (callsIn_wide.2 hEv).mono ?_; clear hEv; rintro e w5 ⟨rfl, hB5⟩; have b25 : Boxed w5 _ _ _ := (hB5.block _ b21.lt).trans b21; have b35 : Boxed w5 _ _ _ := (hB5.block _ b31.lt).trans b31; have c25 := b25.cell; have f25 := b25.frozen; have c35 := b35.cell; have f35 := b35.frozen; have hK5 := (hB5.block D (Array.getElem?_eq_some_iff.1 hK).1).trans hK)
          have g2 := (b25.set (.int .i64 v)).other (B' := w.heap.size + 1 + 1 + 1) (by omega) (.int .i64 0)
          have g3 := (b35.other (B' := w.heap.size + 1 + 1) (by omega) (.int .i64 v)).set (.int .i64 0)
          have hK6 := ((KeepsOthers.setCell w5 ⟨w.heap.size + 1 + 1, 0, none⟩ (.int .i64 v)).trans (KeepsOthers.setCell _ ⟨w.heap.size + 1 + 1 + 1, 0, none⟩ (.int .i64 0))).same D _ hK5 rfl
          refine ⟨by simp, .inl ⟨_, _, rfl, run_takeDeferred hK6, ?_⟩⟩
          have hc5 := cell_kept g2.cell (grownBy_putObj' _ D (.deferred none)) (fun r e => by cases e; exact ⟨_, hK6, rfl⟩)
          have hc6 := cell_kept g3.cell (grownBy_putObj' _ D (.deferred none)) (fun r e => by cases e; exact ⟨_, hK6, rfl⟩)
          have hB6 := ((hB1.trans (hB5.mono hB1.size)).setCell (p := ⟨w.heap.size + 1 + 1, 0, none⟩) (by show w.heap.size ≤ w.heap.size + 1 + 1; omega) (.int .i64 v)).setCell (p := ⟨w.heap.size + 1 + 1 + 1, 0, none⟩) (by show w.heap.size ≤ w.heap.size + 1 + 1 + 1; omega) (.int .i64 0)
          refine ⟨.tuple #[.int .i64 v, .int .i64 0], ?_, rfl, hB6.trans (belowK_b (w := w) (Nat.le_refl _) _ D _ _ (by have := hBw0.size; omega) hK6 rfl rfl)⟩
          simp [results, Try.f14, go_sem, hc5, hc6]
        · rw [if_neg hz] at h
          obtain ⟨rfl, hr2⟩ : 0 = r1 ∧ (wk 200 x).foldl (updF l1.length) 0 = r2 := by simpa using h
          rw [hr2] at ce bE1 hz
          have hzb : (r2 == 0) = false := by simpa using hz
          have hzc : (r2 != 0) = true := by simpa using hz
          clear h hr2 hbad hx' hx hsm hS hoF
          gi_wp2
          gi_region
          all_goals gi_wp2
          have g2 : Boxed ((W.setCell ⟨w.heap.size + 1 + 1, 0, none⟩ (.int .i64 0)).setCell ⟨w.heap.size + 1 + 1 + 1, 0, none⟩ (.int .i64 r2)).drew _ _ _ := (b21.set (.int .i64 0)).other (B' := w.heap.size + 1 + 1 + 1) (by omega) (.int .i64 r2)
          have g3 : Boxed ((W.setCell ⟨w.heap.size + 1 + 1, 0, none⟩ (.int .i64 0)).setCell ⟨w.heap.size + 1 + 1 + 1, 0, none⟩ (.int .i64 r2)).drew _ _ _ := (b31.other (B' := w.heap.size + 1 + 1) (by omega) (.int .i64 0)).set (.int .i64 r2)
          have hK6 : ((W.setCell ⟨w.heap.size + 1 + 1, 0, none⟩ (.int .i64 0)).setCell ⟨w.heap.size + 1 + 1 + 1, 0, none⟩ (.int .i64 r2)).drew.heap[D]? = _ := ((KeepsOthers.setCell W ⟨w.heap.size + 1 + 1, 0, none⟩ (.int .i64 0)).trans (KeepsOthers.setCell _ ⟨w.heap.size + 1 + 1 + 1, 0, none⟩ (.int .i64 r2))).same D _ hK rfl
          refine ⟨by simp, .inl ⟨_, _, rfl, run_takeDeferred hK6, ?_⟩⟩
          have hc5 := cell_kept g2.cell (grownBy_putObj' _ D (.deferred none)) (fun r e => by cases e; exact ⟨_, hK6, rfl⟩)
          have hc6 := cell_kept g3.cell (grownBy_putObj' _ D (.deferred none)) (fun r e => by cases e; exact ⟨_, hK6, rfl⟩)
          have hB6 := ((hB1.setCell (p := ⟨w.heap.size + 1 + 1, 0, none⟩) (by show w.heap.size ≤ w.heap.size + 1 + 1; omega) (.int .i64 0)).setCell (p := ⟨w.heap.size + 1 + 1 + 1, 0, none⟩) (by show w.heap.size ≤ w.heap.size + 1 + 1 + 1; omega) (.int .i64 r2)).drew
          refine ⟨.tuple #[.int .i64 0, .int .i64 r2], ?_, rfl, hB6.trans (belowK_b (w := w) (Nat.le_refl _) _ D _ _ (by have := hBw0.size; omega) hK6 rfl rfl)⟩
          simp [results, Try.f14, go_sem, hc5, hc6]
      case stop =>
        rintro D c pre W hD hpre ⟨⟨rfl, b21, b31, hbad⟩, hB1⟩ hK
        rw [if_pos (by obtain ⟨z, hz1, hz2⟩ := List.any_eq_true.1 hbad; exact List.any_eq_true.2 ⟨z, hpre.subset hz1, hz2⟩)] at h
        obtain ⟨rfl, rfl⟩ : 0 = r1 ∧ 2 = r2 := by simpa using h
        clear h hbad hpre hx' hx hsm hoF
        gi_wp2
        refine ⟨by simp, .inl ⟨_, _, rfl, run_takeDeferred hK, ?_⟩⟩
        have hc5 := cell_kept b21.cell (grownBy_putObj' _ D (.deferred none)) (fun r e => by cases e; exact ⟨_, hK, rfl⟩)
        have hc6 := cell_kept b31.cell (grownBy_putObj' _ D (.deferred none)) (fun r e => by cases e; exact ⟨_, hK, rfl⟩)
        refine ⟨.tuple #[.int .i64 0, .int .i64 2], ?_, rfl, hB1.trans (belowK_b (w := w) (Nat.le_refl _) W D _ _ (by have := hBw0.size; omega) hK rfl rfl)⟩
        simp [results, Try.f14, go_sem, hc5, hc6]
  · rw [if_neg hsm] at h; cases h
end Go.Proofs.Ytdijehgibejflaa.K
