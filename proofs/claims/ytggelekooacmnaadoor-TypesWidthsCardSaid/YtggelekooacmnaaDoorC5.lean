-- By a program of this session
import Derived.Test.YtggelekooacmnaaDoorC0
import Derived.Test.YtggelekooacmnaaDoorC1
namespace Go.Proofs.YtggelekooacmnaaDoor.R
open Go.RowKit Go.Proofs.YtggelekooacmnaaDoorW.PrintWords Go.Proofs.YtggelekooacmnaaDoorW.PrintLast Go.Proofs.YtggelekooacmnaaDoorW.PrintMore
attribute [local go_sem] max2_int min2_int max_two min_two max_three min_three max_four min_four   -- for this text's walks alone
set_option linter.unusedVariables false
set_option linter.unusedSimpArgs false

attribute [local go_sem high] eqA41
/-! ### types_cells: function 42 -/
theorem cell_twice {w : World} {a : Addr} {u v : Value} (h : (w.cell? a).isSome = true) : ((w.setCell a u).setCell a v).cell? a = some v := by
 obtain ⟨x, hx⟩ := Option.isSome_iff_exists.1 h
 exact World.cell?_setCell_same _ _ _ (World.cell?_setCell_same _ _ _ hx)
mutual
def types_cells.j0 : Nat → Int → Bool → Int → Int → Int → Int → List (S24) → Int → Int → Int → Option ((List (S41)))
 | 0, _, _, _, _, _, _, _, _, _, _ => none
 | k + 1, x12, x15, x125000, x125001, x125002, x125003, x125004, x126000, x126001, x126002 => if x15 = true then (some (([(⟨x126000, x126001, x126002⟩ : S41)] : List (S41)))) else (if x12 = 2 then (some (([(⟨x125000, x125001, x125002⟩ : S41)] : List (S41)))) else (if x12 = 6 then (types_cells.l0 k (([(⟨2, 0, x125003⟩ : S41)] : List (S41))) x125003 0 x125000 x125001 x125002 x125003 x125004) else (types_cells.l1 k ([] : List (S41)) x125004 (x125004.length : Int) 0)))
def types_cells.l0 : Nat → List (S41) → Int → Int → Int → Int → Int → Int → List (S24) → Option ((List (S41)))
 | 0, _, _, _, _, _, _, _, _ => none
 | k + 1, x4, x38, x39, x125000, x125001, x125002, x125003, x125004 => if x39 < x38 then (if 0 < (x125004.length : Int) then ((types_cells.f k ((rd_T24 x125004 0).f0) ((rd_T24 x125004 0).f1) ((rd_T24 x125004 0).f2) ((rd_T24 x125004 0).f3) ((rd_T24 x125004 0).f4)).bind fun t139 => (if x4.length + t139.length < 5864062014805 then (types_cells.l0 k (x4 ++ t139) x38 (wrap64 (x39 + 1)) x125000 x125001 x125002 x125003 x125004) else (none))) else (none)) else (some x4)
def types_cells.l1 : Nat → List (S41) → List (S24) → Int → Int → Option ((List (S41)))
 | 0, _, _, _, _ => none
 | k + 1, x5, x51, x52, x53 => if x53 < x52 then (if 0 ≤ x53 then (if x53 < (x51.length : Int) then ((types_cells.f k ((rd_T24 x51 x53).f0) ((rd_T24 x51 x53).f1) ((rd_T24 x51 x53).f2) ((rd_T24 x51 x53).f3) ((rd_T24 x51 x53).f4)).bind fun t147 => (if x5.length + t147.length < 5864062014805 then (types_cells.l1 k (x5 ++ t147) x51 x52 (wrap64 (x53 + 1))) else (none))) else (none)) else (none)) else (some x5)
def types_cells.f : Nat → Int → Int → Int → Int → List (S24) → Option ((List (S41)))
 | 0, _, _, _, _, _ => none
 | k + 1, a0_0, a0_1, a0_2, a0_3, l0_4 => if a0_0 = 1 then (some (([(⟨a0_0, 0, 1⟩ : S41)] : List (S41)))) else (if a0_0 = 3 then (types_cells.j0 k a0_0 (a0_0 == 3) a0_0 a0_1 a0_2 a0_3 l0_4 a0_0 0 0) else (types_cells.j0 k a0_0 (a0_0 == 4) a0_0 a0_1 a0_2 a0_3 l0_4 a0_0 0 0))
end
theorem types_cells.mono_l : ∀ k, (∀ y0 y1 y2 y3 y4, LeO (types_cells.f k y0 y1 y2 y3 y4) (types_cells.f (k + 1) y0 y1 y2 y3 y4)) ∧ (∀ y0 y1 y2 y3 y4 y5 y6 y7 y8 y9, LeO (types_cells.j0 k y0 y1 y2 y3 y4 y5 y6 y7 y8 y9) (types_cells.j0 (k + 1) y0 y1 y2 y3 y4 y5 y6 y7 y8 y9)) ∧ (∀ y0 y1 y2 y3 y4 y5 y6 y7, LeO (types_cells.l0 k y0 y1 y2 y3 y4 y5 y6 y7) (types_cells.l0 (k + 1) y0 y1 y2 y3 y4 y5 y6 y7)) ∧ (∀ y0 y1 y2 y3, LeO (types_cells.l1 k y0 y1 y2 y3) (types_cells.l1 (k + 1) y0 y1 y2 y3))
 | 0 => ⟨fun _ _ _ _ _ r h => by simp [types_cells.f] at h, fun _ _ _ _ _ _ _ _ _ _ r h => by simp [types_cells.j0] at h, fun _ _ _ _ _ _ _ _ r h => by simp [types_cells.l0] at h, fun _ _ _ _ r h => by simp [types_cells.l1] at h⟩
 | k + 1 => by
  obtain ⟨ih0, ih1, ih2, ih3⟩ := types_cells.mono_l k
  refine ⟨?_, ?_, ?_, ?_⟩
  ·intro y0 y1 y2 y3 y4
   unfold types_cells.f
   repeat' first
   | (with_reducible exact ih0 _ _ _ _ _)
   | (with_reducible exact ih1 _ _ _ _ _ _ _ _ _ _)
   | (with_reducible exact ih2 _ _ _ _ _ _ _ _)
   | (with_reducible exact ih3 _ _ _ _)
   | (with_reducible exact LeO.refl _)
   | (with_reducible exact LeO.none _)
   | (with_reducible refine LeO.ite ?_ ?_)
   | (with_reducible refine LeO.bind ?_ (fun _ => ?_))
   | exact ih0 _ _ _ _ _
   | exact ih1 _ _ _ _ _ _ _ _ _ _
   | exact ih2 _ _ _ _ _ _ _ _
   | exact ih3 _ _ _ _
   | exact LeO.none _
   | refine LeO.ite ?_ ?_
   | refine LeO.bind ?_ (fun _ => ?_)
  ·intro y0 y1 y2 y3 y4 y5 y6 y7 y8 y9
   unfold types_cells.j0
   repeat' first
   | (with_reducible exact ih0 _ _ _ _ _)
   | (with_reducible exact ih1 _ _ _ _ _ _ _ _ _ _)
   | (with_reducible exact ih2 _ _ _ _ _ _ _ _)
   | (with_reducible exact ih3 _ _ _ _)
   | (with_reducible exact LeO.refl _)
   | (with_reducible exact LeO.none _)
   | (with_reducible refine LeO.ite ?_ ?_)
   | (with_reducible refine LeO.bind ?_ (fun _ => ?_))
   | exact ih0 _ _ _ _ _
   | exact ih1 _ _ _ _ _ _ _ _ _ _
   | exact ih2 _ _ _ _ _ _ _ _
   | exact ih3 _ _ _ _
   | exact LeO.none _
   | refine LeO.ite ?_ ?_
   | refine LeO.bind ?_ (fun _ => ?_)
  ·intro y0 y1 y2 y3 y4 y5 y6 y7
   unfold types_cells.l0
   repeat' first
   | (with_reducible exact ih0 _ _ _ _ _)
   | (with_reducible exact ih1 _ _ _ _ _ _ _ _ _ _)
   | (with_reducible exact ih2 _ _ _ _ _ _ _ _)
   | (with_reducible exact ih3 _ _ _ _)
   | (with_reducible exact LeO.refl _)
   | (with_reducible exact LeO.none _)
   | (with_reducible refine LeO.ite ?_ ?_)
   | (with_reducible refine LeO.bind ?_ (fun _ => ?_))
   | exact ih0 _ _ _ _ _
   | exact ih1 _ _ _ _ _ _ _ _ _ _
   | exact ih2 _ _ _ _ _ _ _ _
   | exact ih3 _ _ _ _
   | exact LeO.none _
   | refine LeO.ite ?_ ?_
   | refine LeO.bind ?_ (fun _ => ?_)
  ·intro y0 y1 y2 y3
   unfold types_cells.l1
   repeat' first
   | (with_reducible exact ih0 _ _ _ _ _)
   | (with_reducible exact ih1 _ _ _ _ _ _ _ _ _ _)
   | (with_reducible exact ih2 _ _ _ _ _ _ _ _)
   | (with_reducible exact ih3 _ _ _ _)
   | (with_reducible exact LeO.refl _)
   | (with_reducible exact LeO.none _)
   | (with_reducible refine LeO.ite ?_ ?_)
   | (with_reducible refine LeO.bind ?_ (fun _ => ?_))
   | exact ih0 _ _ _ _ _
   | exact ih1 _ _ _ _ _ _ _ _ _ _
   | exact ih2 _ _ _ _ _ _ _ _
   | exact ih3 _ _ _ _
   | exact LeO.none _
   | refine LeO.ite ?_ ?_
   | refine LeO.bind ?_ (fun _ => ?_)
theorem types_cells.mono : ∀ a0 a1 a2 a3 a4 k, LeO (types_cells.f k a0 a1 a2 a3 a4) (types_cells.f (k + 1) a0 a1 a2 a3 a4) := by
 intro a0 a1 a2 a3 a4 k
 obtain ⟨ih0, ih1, ih2, ih3⟩ := types_cells.mono_l k
 exact ih0 a0 a1 a2 a3 a4
set_option maxHeartbeats 8000000 in
set_option maxRecDepth 100000 in
theorem types_cells.calls (k : Nat) : ∀ (a0_0 : Int) (a0_1 : Int) (a0_2 : Int) (a0_3 : Int) (A0_4 : Option Addr) (c0_4 : Nat) (l0_4 : List (S24)) (r : List (S41)) (w : World) (hr0_4 : Kd.C k24 w A0_4 l0_4.length l0_4) (hc0_4 : l0_4.length ≤ c0_4) (h : types_cells.f k a0_0 a0_1 a0_2 a0_3 l0_4 = some r),
  Calls Tryd.prog 42 #[.agg #[.int .i64 a0_0, .int .i64 a0_1, .int .i64 a0_2, .int .i64 a0_3, .slice A0_4 l0_4.length c0_4]] w fun e w' => ∃ v0_ : Value, e = .returned (v0_) ∧ Kd.R k41 41 w' w.heap.size (fun _ => True) v0_ r ∧ Below w.heap.size w w' := by
 induction k using Nat.strongRecOn with
 | _ k ih =>
 intro a0_0 a0_1 a0_2 a0_3 A0_4 c0_4 l0_4 r w hr0_4 hc0_4 h
 cases k with
 | zero => exact absurd h (by simp [types_cells.f])
 | succ k =>
 simp only [types_cells.f] at h
 have hu24 := Tryd.underlying24
 have hu41 := Tryd.underlying41
 have HR0_4 := Aside0.mk hr0_4
 have HC0_4 := Aside0.mk hc0_4
 clear hr0_4 hc0_4
 have HB := Aside0.mk (Below.refl w.heap.size w)
 have HSS := @cell_twice
 have H : (if a0_0 = 1 then (some (([(⟨a0_0, 0, 1⟩ : S41)] : List (S41)))) else (if a0_0 = 3 then (types_cells.j0 k a0_0 (a0_0 == 3) a0_0 a0_1 a0_2 a0_3 l0_4 a0_0 0 0) else (types_cells.j0 k a0_0 (a0_0 == 4) a0_0 a0_1 a0_2 a0_3 l0_4 a0_0 0 0))) = some r := h
 clear h
 by_cases c2 : a0_0 = 1
 ·rw [if_pos c2] at H
  have c2b0 : (a0_0 == 1) = true := beq_iff_eq.mpr c2
  have c2b1 : (a0_0 != 1) = false := bne_eq_false_iff_eq.mpr c2
  clear c2
  obtain ⟨y126, hy126⟩ : ∃ y_ : List (S41), y_ = (([(⟨a0_0, 0, 1⟩ : S41)] : List (S41))) := ⟨_, rfl⟩
  replace H : (some y126) = some r := by first | (rw [hy126]; with_reducible exact H) | (have H2_ := (Option.bind_some _ _).symm.trans H; rw [hy126]; with_reducible exact H2_) | (have H2_ := (Option.bind_some _ _).symm.trans H; with_reducible exact H2_) | with_reducible exact H | (rw [hy126]; exact H) | exact H
  have Ny126 := Aside0.mk hy126
  clear hy126
  obtain rfl := Option.some.inj H
  go_enter Tryd.func42, Tryd.ntmps42
  go_wp2_with (first | ((with_reducible refine gate_dst (N := 1) rfl ?_); refine box_event ?hg (N := 1) ?hd (cs := #[.int .i64 a0_0, .int .i64 a0_1, .int .i64 a0_2, .int .i64 a0_3, .slice A0_4 l0_4.length c0_4]) (t := 24) ?hr ?_; (case hd => rfl); (case hg => rfl); (case hr => first | (go_simp; done) | (go_simp; rfl)); intro gb124 hg w3 hbox hb; have BK124 := Aside0.mk (hbox); have GW124 : Aside0 (w.heap.size ≤ gb124) := gw_ hg (below_size bl_); have GE124 := GW124; replace HB := Aside0.mk (below_step bl_ hb); clear hb hbox hg; obtain ⟨hcz4_0, hcz4_1, hcz4_2, hcz4_3, hcz4_4, hfz4_0, hfz4_1, hfz4_2, hfz4_3, hfz4_4⟩ := cf5_ BK124.out) | ((with_reducible refine gate_dst (N := 3) rfl ?_); refine box_event ?hg (N := 3) ?hd (cs := #[.int .i64 0, .int .i64 0, .int .i64 0]) (t := 41) ?hr ?_; (case hd => rfl); (case hg => rfl); (case hr => first | (go_simp; done) | (go_simp; rfl)); intro gb125 hg w5 hbox hb; have BK125 := Aside0.mk (hbox); have GW125 : Aside0 (w.heap.size ≤ gb125) := gw_ hg (below_size bl_); have GE125 := GW125; have NB124_125 := Aside0.mk ((by rw [hg]; exact Nat.ne_of_lt (blk_lt (g := gb124) (o := .cells #[.int .i64 a0_0, .int .i64 a0_1, .int .i64 a0_2, .int .i64 a0_3, .slice A0_4 l0_4.length c0_4] 24 (0, 0)) bk_) : gb124 ≠ gb125)); have NB125_124 := Aside0.mk ((by rw [hg]; exact Nat.ne_of_gt (blk_lt (g := gb124) (o := .cells #[.int .i64 a0_0, .int .i64 a0_1, .int .i64 a0_2, .int .i64 a0_3, .slice A0_4 l0_4.length c0_4] 24 (0, 0)) bk_) : gb125 ≠ gb124)); replace BK124 := Aside0.mk (blk_below (g := gb124) (o := .cells #[.int .i64 a0_0, .int .i64 a0_1, .int .i64 a0_2, .int .i64 a0_3, .slice A0_4 l0_4.length c0_4] 24 (0, 0)) bk_ hb); replace HB := Aside0.mk (below_step bl_ hb); clear hb hbox hg; have hnb6 := NB125_124.out; have hnc6 := NB124_125.out; obtain ⟨hcz7_0, hcz7_1, hcz7_2, hfz7_0, hfz7_1, hfz7_2⟩ := cf3_ BK125.out; obtain ⟨hcz8_0, hcz8_1, hcz8_2, hcz8_3, hcz8_4, hfz8_0, hfz8_1, hfz8_2, hfz8_3, hfz8_4⟩ := cf5_ BK124.out) | ((with_reducible refine gate_dst (N := 24) rfl ?_); refine Kd.R_lit k41 _ 41 ?hg (N := 24) ?hd (xs := ([(⟨a0_0, 0, 1⟩ : S41)] : List (S41))) (inner := [.int .i64 a0_0, .int .i64 0, .int .i64 1]) (ok := fun _ => True) (okp := fun _ => True) ?hr ?hp (fun _ hk => hk) trivial (Below.refl _ _) (Nat.le_refl _) (by simp) ?_; (case hd => rfl); (case hg => rfl); (case hr => first | (go_simp; done) | (go_simp; rfl)); (case hp => exact (Reps.c3 (show Kd.M k41 _ _ _ (⟨a0_0, 0, 1⟩ : S41) [.int .i64 a0_0, .int .i64 0, .int .i64 1] from (k41_mkM _ _ _ (⟨a0_0, 0, 1⟩ : S41) )) (Reps.none _ _))); intro v127 w9 ho10 hb hg_ hnew_; clear hg_ hnew_; (first | rw [← Ny126.out] at ho10 | (simp only [Int.reduceToNat] at ho10; rw [← Ny126.out] at ho10)); have HO128 := Aside0.mk (Kd.R_lower (Kd.R_newB ho10 (g := gb125) (o := .cells #[.int .i64 a0_0, .int .i64 0, .int .i64 1] 41 (0, 0)) (by (with_reducible repeat (first | refine blk_drewN ?_ _ | refine blk_drew ?_ | refine blk_alloc ?_ _)); refine blk_put (cs := #[.int .i64 a0_0, .int .i64 0, .int .i64 0]) ?_ 2 _ rfl; (with_reducible repeat (first | refine blk_drewN ?_ _ | refine blk_drew ?_ | refine blk_alloc ?_ _)); refine blk_put (cs := #[.int .i64 a0_0, .int .i64 0, .int .i64 0]) ?_ 2 _ rfl; (with_reducible repeat (first | refine blk_drewN ?_ _ | refine blk_drew ?_ | refine blk_alloc ?_ _)); refine blk_put (cs := #[.int .i64 a0_0, .int .i64 0, .int .i64 0]) ?_ 1 _ rfl; (with_reducible repeat (first | refine blk_drewN ?_ _ | refine blk_drew ?_ | refine blk_alloc ?_ _)); refine blk_put (cs := #[.int .i64 0, .int .i64 0, .int .i64 0]) ?_ 0 _ rfl; (with_reducible repeat (first | refine blk_drewN ?_ _ | refine blk_drew ?_ | refine blk_alloc ?_ _)); exact BK125.out)) (below_size bl_)); replace BK124 := Aside0.mk (blk_below (g := gb124) (o := .cells #[.int .i64 a0_0, .int .i64 a0_1, .int .i64 a0_2, .int .i64 a0_3, .slice A0_4 l0_4.length c0_4] 24 (0, 0)) (by (with_reducible repeat (first | refine blk_drewN ?_ _ | refine blk_drew ?_ | refine blk_alloc ?_ _)); refine blk_far ?_ NB124_125.out _; (with_reducible repeat (first | refine blk_drewN ?_ _ | refine blk_drew ?_ | refine blk_alloc ?_ _)); refine blk_far ?_ NB124_125.out _; (with_reducible repeat (first | refine blk_drewN ?_ _ | refine blk_drew ?_ | refine blk_alloc ?_ _)); refine blk_far ?_ NB124_125.out _; (with_reducible repeat (first | refine blk_drewN ?_ _ | refine blk_drew ?_ | refine blk_alloc ?_ _)); refine blk_far ?_ NB124_125.out _; (with_reducible repeat (first | refine blk_drewN ?_ _ | refine blk_drew ?_ | refine blk_alloc ?_ _)); exact BK124.out) hb); replace BK125 := Aside0.mk (blk_below (g := gb125) (o := .cells #[.int .i64 a0_0, .int .i64 0, .int .i64 1] 41 (0, 0)) (by (with_reducible repeat (first | refine blk_drewN ?_ _ | refine blk_drew ?_ | refine blk_alloc ?_ _)); refine blk_put (cs := #[.int .i64 a0_0, .int .i64 0, .int .i64 0]) ?_ 2 _ rfl; (with_reducible repeat (first | refine blk_drewN ?_ _ | refine blk_drew ?_ | refine blk_alloc ?_ _)); refine blk_put (cs := #[.int .i64 a0_0, .int .i64 0, .int .i64 0]) ?_ 2 _ rfl; (with_reducible repeat (first | refine blk_drewN ?_ _ | refine blk_drew ?_ | refine blk_alloc ?_ _)); refine blk_put (cs := #[.int .i64 a0_0, .int .i64 0, .int .i64 0]) ?_ 1 _ rfl; (with_reducible repeat (first | refine blk_drewN ?_ _ | refine blk_drew ?_ | refine blk_alloc ?_ _)); refine blk_put (cs := #[.int .i64 0, .int .i64 0, .int .i64 0]) ?_ 0 _ rfl; (with_reducible repeat (first | refine blk_drewN ?_ _ | refine blk_drew ?_ | refine blk_alloc ?_ _)); exact BK125.out) hb); replace HB := Aside0.mk (below_step bl_ hb); clear hb ho10))
  go_ret
  exact ⟨_, re_, by (with_reducible repeat (first | apply Kd.R_alloc | apply Kd.R_drewN | apply Kd.R_drew)); exact Kd.R_mono HO128.out (fun _ hk => trivial), bl_⟩
 ·rw [if_neg c2] at H
  have c2b0 : (a0_0 == 1) = false := beq_eq_false_iff_ne.mpr c2
  have c2b1 : (a0_0 != 1) = true := bne_iff_ne.mpr c2
  have HC11 := Aside0.mk H
  clear H
  go_enter Tryd.func42, Tryd.ntmps42
  go_upto_if 15 with (first | ((with_reducible refine gate_dst (N := 1) rfl ?_); refine box_event ?hg (N := 1) ?hd (cs := #[.int .i64 a0_0, .int .i64 a0_1, .int .i64 a0_2, .int .i64 a0_3, .slice A0_4 l0_4.length c0_4]) (t := 24) ?hr ?_; (case hd => rfl); (case hg => rfl); (case hr => first | (go_simp; done) | (go_simp; rfl)); intro gb124 hg w12 hbox hb; have BK124 := Aside0.mk (hbox); have GW124 : Aside0 (w.heap.size ≤ gb124) := gw_ hg (below_size bl_); have GE124 := GW124; replace HB := Aside0.mk (below_step bl_ hb); clear hb hbox hg; obtain ⟨hcz13_0, hcz13_1, hcz13_2, hcz13_3, hcz13_4, hfz13_0, hfz13_1, hfz13_2, hfz13_3, hfz13_4⟩ := cf5_ BK124.out) | ((with_reducible refine gate_dst (N := 3) rfl ?_); refine box_event ?hg (N := 3) ?hd (cs := #[.int .i64 0, .int .i64 0, .int .i64 0]) (t := 41) ?hr ?_; (case hd => rfl); (case hg => rfl); (case hr => first | (go_simp; done) | (go_simp; rfl)); intro gb125 hg w14 hbox hb; have BK125 := Aside0.mk (hbox); have GW125 : Aside0 (w.heap.size ≤ gb125) := gw_ hg (below_size bl_); have GE125 := GW125; have NB124_125 := Aside0.mk ((by rw [hg]; exact Nat.ne_of_lt (blk_lt (g := gb124) (o := .cells #[.int .i64 a0_0, .int .i64 a0_1, .int .i64 a0_2, .int .i64 a0_3, .slice A0_4 l0_4.length c0_4] 24 (0, 0)) bk_) : gb124 ≠ gb125)); have NB125_124 := Aside0.mk ((by rw [hg]; exact Nat.ne_of_gt (blk_lt (g := gb124) (o := .cells #[.int .i64 a0_0, .int .i64 a0_1, .int .i64 a0_2, .int .i64 a0_3, .slice A0_4 l0_4.length c0_4] 24 (0, 0)) bk_) : gb125 ≠ gb124)); replace BK124 := Aside0.mk (blk_below (g := gb124) (o := .cells #[.int .i64 a0_0, .int .i64 a0_1, .int .i64 a0_2, .int .i64 a0_3, .slice A0_4 l0_4.length c0_4] 24 (0, 0)) bk_ hb); replace HB := Aside0.mk (below_step bl_ hb); clear hb hbox hg; have hnb15 := NB125_124.out; have hnc15 := NB124_125.out; obtain ⟨hcz16_0, hcz16_1, hcz16_2, hfz16_0, hfz16_1, hfz16_2⟩ := cf3_ BK125.out; obtain ⟨hcz17_0, hcz17_1, hcz17_2, hcz17_3, hcz17_4, hfz17_0, hfz17_1, hfz17_2, hfz17_3, hfz17_4⟩ := cf5_ BK124.out))
  (try simp only [Act.put, List.setIfInBounds_toArray, List.set_cons_zero, List.set_cons_succ])
  go_cut [15] (fun v15 wc => ∃ (kq : Nat) (x15_10 : Bool), v15 = .bool x15_10 ∧ Aside0 (types_cells.j0 kq a0_0 x15_10 a0_0 a0_1 a0_2 a0_3 l0_4 a0_0 0 0 = some r) ∧ Aside0 (kq ≤ k) ∧ Aside0 (wc.heap[gb124]? = some (.cells #[.int .i64 a0_0, .int .i64 a0_1, .int .i64 a0_2, .int .i64 a0_3, (.slice A0_4 l0_4.length c0_4)] 24 (0, 0))) ∧ Aside0 (wc.heap[gb125]? = some (.cells #[.int .i64 a0_0, .int .i64 0, .int .i64 0] 41 (0, 0))) ∧ Aside0 (Below w.heap.size w wc))
  case first =>
   have H := HC11.out
   clear HC11
   by_cases c18 : a0_0 = 3
   ·rw [if_pos c18] at H
    have c18b0 : (a0_0 == 3) = true := beq_iff_eq.mpr c18
    have c18b1 : (a0_0 != 3) = false := bne_eq_false_iff_eq.mpr c18
    clear c18
    (first | rw [c18b0] | (simp only [i64_w, i32_w]; rw [c18b0]) | skip)
    have H' := Aside0.mk H
    clear H
    go_wp2
    go_meet
    case rel => exact ⟨_, ((a0_0 == 3)), rs_, H', ⟨by first | omega | exact Nat.le_refl _⟩, ⟨by (with_reducible repeat (first | refine blk_drewN ?_ _ | refine blk_drew ?_ | refine blk_alloc ?_ _)); refine blk_far ?_ NB124_125.out _; (with_reducible repeat (first | refine blk_drewN ?_ _ | refine blk_drew ?_ | refine blk_alloc ?_ _)); refine blk_far ?_ NB124_125.out _; (with_reducible repeat (first | refine blk_drewN ?_ _ | refine blk_drew ?_ | refine blk_alloc ?_ _)); refine blk_far ?_ NB124_125.out _; (with_reducible repeat (first | refine blk_drewN ?_ _ | refine blk_drew ?_ | refine blk_alloc ?_ _)); exact BK124.out⟩, ⟨by (with_reducible repeat (first | refine blk_drewN ?_ _ | refine blk_drew ?_ | refine blk_alloc ?_ _)); refine blk_put (cs := #[.int .i64 a0_0, .int .i64 0, .int .i64 0]) ?_ 2 _ rfl; (with_reducible repeat (first | refine blk_drewN ?_ _ | refine blk_drew ?_ | refine blk_alloc ?_ _)); refine blk_put (cs := #[.int .i64 a0_0, .int .i64 0, .int .i64 0]) ?_ 1 _ rfl; (with_reducible repeat (first | refine blk_drewN ?_ _ | refine blk_drew ?_ | refine blk_alloc ?_ _)); refine blk_put (cs := #[.int .i64 0, .int .i64 0, .int .i64 0]) ?_ 0 _ rfl; (with_reducible repeat (first | refine blk_drewN ?_ _ | refine blk_drew ?_ | refine blk_alloc ?_ _)); exact BK125.out⟩, ⟨bl_⟩⟩
   ·rw [if_neg c18] at H
    have c18b0 : (a0_0 == 3) = false := beq_eq_false_iff_ne.mpr c18
    have c18b1 : (a0_0 != 3) = true := bne_iff_ne.mpr c18
    (first | rw [c18b0] | (simp only [i64_w, i32_w]; rw [c18b0]) | skip)
    have H' := Aside0.mk H
    clear H
    go_wp2
    go_meet
    case rel => exact ⟨_, ((a0_0 == 4)), rs_, H', ⟨by first | omega | exact Nat.le_refl _⟩, ⟨by (with_reducible repeat (first | refine blk_drewN ?_ _ | refine blk_drew ?_ | refine blk_alloc ?_ _)); refine blk_far ?_ NB124_125.out _; (with_reducible repeat (first | refine blk_drewN ?_ _ | refine blk_drew ?_ | refine blk_alloc ?_ _)); refine blk_far ?_ NB124_125.out _; (with_reducible repeat (first | refine blk_drewN ?_ _ | refine blk_drew ?_ | refine blk_alloc ?_ _)); refine blk_far ?_ NB124_125.out _; (with_reducible repeat (first | refine blk_drewN ?_ _ | refine blk_drew ?_ | refine blk_alloc ?_ _)); exact BK124.out⟩, ⟨by (with_reducible repeat (first | refine blk_drewN ?_ _ | refine blk_drew ?_ | refine blk_alloc ?_ _)); refine blk_put (cs := #[.int .i64 a0_0, .int .i64 0, .int .i64 0]) ?_ 2 _ rfl; (with_reducible repeat (first | refine blk_drewN ?_ _ | refine blk_drew ?_ | refine blk_alloc ?_ _)); refine blk_put (cs := #[.int .i64 a0_0, .int .i64 0, .int .i64 0]) ?_ 1 _ rfl; (with_reducible repeat (first | refine blk_drewN ?_ _ | refine blk_drew ?_ | refine blk_alloc ?_ _)); refine blk_put (cs := #[.int .i64 0, .int .i64 0, .int .i64 0]) ?_ 0 _ rfl; (with_reducible repeat (first | refine blk_drewN ?_ _ | refine blk_drew ?_ | refine blk_alloc ?_ _)); exact BK125.out⟩, ⟨bl_⟩⟩
  case rest =>
   clear HC11
   try clear c1
   try clear c2
   try clear c2b0
   try clear c2b1
   try clear p2
   try clear c3
   try clear c4
   try clear c6
   try clear c15
   try clear c18
   try clear c18b0
   try clear c18b1
   try clear hcz13_0 hcz13_1 hcz13_2 hcz13_3 hcz13_4 hfz13_0 hfz13_1 hfz13_2 hfz13_3 hfz13_4
   try clear hcz16_0 hcz16_1 hcz16_2 hfz16_0 hfz16_1 hfz16_2
   try clear hcz17_0 hcz17_1 hcz17_2 hcz17_3 hcz17_4 hfz17_0 hfz17_1 hfz17_2 hfz17_3 hfz17_4
   try clear hcz4_0 hcz4_1 hcz4_2 hcz4_3 hcz4_4 hfz4_0 hfz4_1 hfz4_2 hfz4_3 hfz4_4
   try clear hcz7_0 hcz7_1 hcz7_2 hfz7_0 hfz7_1 hfz7_2
   try clear hcz8_0 hcz8_1 hcz8_2 hcz8_3 hcz8_4 hfz8_0 hfz8_1 hfz8_2 hfz8_3 hfz8_4
   obtain ⟨kq, x15_10, rfl, HA, HJ10, BK124, BK125, HB⟩ := hcut
   cases kq with
   | zero => exact absurd HA.out (by simp [types_cells.j0])
   | succ kj10 =>
    have H := HA.out
    clear HA
    simp only [types_cells.j0] at H
    by_cases c19 : x15_10 = true
    ·subst c19
     have H1 : (some (([(⟨a0_0, 0, 0⟩ : S41)] : List (S41)))) = some r := by rw [if_pos rfl] at H; exact H
     clear H
     have H := H1
     clear H1
     obtain ⟨y129, hy129⟩ : ∃ y_ : List (S41), y_ = (([(⟨a0_0, 0, 0⟩ : S41)] : List (S41))) := ⟨_, rfl⟩
     replace H : (some y129) = some r := by first | (rw [hy129]; with_reducible exact H) | (have H2_ := (Option.bind_some _ _).symm.trans H; rw [hy129]; with_reducible exact H2_) | (have H2_ := (Option.bind_some _ _).symm.trans H; with_reducible exact H2_) | with_reducible exact H | (rw [hy129]; exact H) | exact H
     have Ny129 := Aside0.mk hy129
     clear hy129
     obtain rfl := Option.some.inj H
     have hnb20 := NB125_124.out
     have hnc20 := NB124_125.out
     obtain ⟨hcz21_0, hcz21_1, hcz21_2, hfz21_0, hfz21_1, hfz21_2⟩ := cf3_ BK125.out
     go_wp2_with (first | ((with_reducible refine gate_dst (N := 24) rfl ?_); refine Kd.R_lit k41 _ 41 ?hg (N := 24) ?hd (xs := ([(⟨a0_0, 0, 0⟩ : S41)] : List (S41))) (inner := [.int .i64 a0_0, .int .i64 0, .int .i64 0]) (ok := fun _ => True) (okp := fun _ => True) ?hr ?hp (fun _ hk => hk) trivial (Below.refl _ _) (Nat.le_refl _) (by simp) ?_; (case hd => rfl); (case hg => rfl); (case hr => first | (go_simp; done) | (go_simp; rfl)); (case hp => exact (Reps.c3 (show Kd.M k41 _ _ _ (⟨a0_0, 0, 0⟩ : S41) [.int .i64 a0_0, .int .i64 0, .int .i64 0] from (k41_mkM _ _ _ (⟨a0_0, 0, 0⟩ : S41) )) (Reps.none _ _))); intro v130 w22 ho23 hb hg_ hnew_; clear hg_ hnew_; (first | rw [← Ny129.out] at ho23 | (simp only [Int.reduceToNat] at ho23; rw [← Ny129.out] at ho23)); have HO131 := Aside0.mk (Kd.R_lower (Kd.R_newB ho23 (g := gb125) (o := .cells #[.int .i64 a0_0, .int .i64 0, .int .i64 0] 41 (0, 0)) bk_) (below_size bl_)); replace BK124 := Aside0.mk (blk_below (g := gb124) (o := .cells #[.int .i64 a0_0, .int .i64 a0_1, .int .i64 a0_2, .int .i64 a0_3, .slice A0_4 l0_4.length c0_4] 24 (0, 0)) bk_ hb); replace BK125 := Aside0.mk (blk_below (g := gb125) (o := .cells #[.int .i64 a0_0, .int .i64 0, .int .i64 0] 41 (0, 0)) bk_ hb); replace HB := Aside0.mk (below_step bl_ hb); clear hb ho23))
     go_ret
     exact ⟨_, re_, by (with_reducible repeat (first | apply Kd.R_alloc | apply Kd.R_drewN | apply Kd.R_drew)); exact Kd.R_mono HO131.out (fun _ hk => trivial), bl_⟩
    ·replace c19 := Bool.eq_false_iff.mpr c19
     subst c19
     have H1 : (if a0_0 = 2 then (some (([(⟨a0_0, a0_1, a0_2⟩ : S41)] : List (S41)))) else (if a0_0 = 6 then (types_cells.l0 kj10 (([(⟨2, 0, a0_3⟩ : S41)] : List (S41))) a0_3 0 a0_0 a0_1 a0_2 a0_3 l0_4) else (types_cells.l1 kj10 ([] : List (S41)) l0_4 (l0_4.length : Int) 0))) = some r := by rw [if_neg (show ¬ (false = true) by decide)] at H; exact H
     clear H
     have H := H1
     clear H1
     by_cases c24 : a0_0 = 2
     ·rw [if_pos c24] at H
      have c24b0 : (a0_0 == 2) = true := beq_iff_eq.mpr c24
      have c24b1 : (a0_0 != 2) = false := bne_eq_false_iff_eq.mpr c24
      clear c24
      obtain ⟨y132, hy132⟩ : ∃ y_ : List (S41), y_ = (([(⟨a0_0, a0_1, a0_2⟩ : S41)] : List (S41))) := ⟨_, rfl⟩
      replace H : (some y132) = some r := by first | (rw [hy132]; with_reducible exact H) | (have H2_ := (Option.bind_some _ _).symm.trans H; rw [hy132]; with_reducible exact H2_) | (have H2_ := (Option.bind_some _ _).symm.trans H; with_reducible exact H2_) | with_reducible exact H | (rw [hy132]; exact H) | exact H
      have Ny132 := Aside0.mk hy132
      clear hy132
      obtain rfl := Option.some.inj H
      have hnb25 := NB124_125.out
      have hnc25 := NB125_124.out
      obtain ⟨hcz26_0, hcz26_1, hcz26_2, hcz26_3, hcz26_4, hfz26_0, hfz26_1, hfz26_2, hfz26_3, hfz26_4⟩ := cf5_ BK124.out
      go_wp2_with (first | ((with_reducible refine gate_dst (N := 32) rfl ?_); refine Kd.R_lit k41 _ 41 ?hg (N := 32) ?hd (xs := ([(⟨a0_0, a0_1, a0_2⟩ : S41)] : List (S41))) (inner := [.int .i64 a0_0, .int .i64 a0_1, .int .i64 a0_2]) (ok := fun _ => True) (okp := fun _ => True) ?hr ?hp (fun _ hk => hk) trivial (Below.refl _ _) (Nat.le_refl _) (by simp) ?_; (case hd => rfl); (case hg => rfl); (case hr => first | (go_simp; done) | (go_simp; rfl)); (case hp => exact (Reps.c3 (show Kd.M k41 _ _ _ (⟨a0_0, a0_1, a0_2⟩ : S41) [.int .i64 a0_0, .int .i64 a0_1, .int .i64 a0_2] from (k41_mkM _ _ _ (⟨a0_0, a0_1, a0_2⟩ : S41) )) (Reps.none _ _))); intro v133 w27 ho28 hb hg_ hnew_; clear hg_ hnew_; (first | rw [← Ny132.out] at ho28 | (simp only [Int.reduceToNat] at ho28; rw [← Ny132.out] at ho28)); have HO134 := Aside0.mk (Kd.R_lower (Kd.R_newB ho28 (g := gb125) (o := .cells #[.int .i64 a0_0, .int .i64 0, .int .i64 0] 41 (0, 0)) bk_) (below_size bl_)); replace BK124 := Aside0.mk (blk_below (g := gb124) (o := .cells #[.int .i64 a0_0, .int .i64 a0_1, .int .i64 a0_2, .int .i64 a0_3, .slice A0_4 l0_4.length c0_4] 24 (0, 0)) bk_ hb); replace BK125 := Aside0.mk (blk_below (g := gb125) (o := .cells #[.int .i64 a0_0, .int .i64 0, .int .i64 0] 41 (0, 0)) bk_ hb); replace HB := Aside0.mk (below_step bl_ hb); clear hb ho28))
      go_ret
      exact ⟨_, re_, by (with_reducible repeat (first | apply Kd.R_alloc | apply Kd.R_drewN | apply Kd.R_drew)); exact Kd.R_mono HO134.out (fun _ hk => trivial), bl_⟩
     ·rw [if_neg c24] at H
      have c24b0 : (a0_0 == 2) = false := beq_eq_false_iff_ne.mpr c24
      have c24b1 : (a0_0 != 2) = true := bne_iff_ne.mpr c24
      by_cases c29 : a0_0 = 6
      ·rw [if_pos c29] at H
       have c29b0 : (a0_0 == 6) = true := beq_iff_eq.mpr c29
       have c29b1 : (a0_0 != 6) = false := bne_eq_false_iff_eq.mpr c29
       clear c29
       obtain ⟨y135, hy135⟩ : ∃ y_ : List (S41), y_ = (([(⟨2, 0, a0_3⟩ : S41)] : List (S41))) := ⟨_, rfl⟩
       replace H : (types_cells.l0 kj10 y135 a0_3 0 a0_0 a0_1 a0_2 a0_3 l0_4) = some r := by first | (rw [hy135]; with_reducible exact H) | (have H2_ := (Option.bind_some _ _).symm.trans H; rw [hy135]; with_reducible exact H2_) | (have H2_ := (Option.bind_some _ _).symm.trans H; with_reducible exact H2_) | with_reducible exact H | (rw [hy135]; exact H) | exact H
       have Ny135 := Aside0.mk hy135
       clear hy135
       have H' := Aside0.mk H
       clear H
       have hnb30 := NB124_125.out
       have hnc30 := NB125_124.out
       obtain ⟨hcz31_0, hcz31_1, hcz31_2, hcz31_3, hcz31_4, hfz31_0, hfz31_1, hfz31_2, hfz31_3, hfz31_4⟩ := cf5_ BK124.out
       go_wp2_with (first | ((with_reducible refine gate_dst (N := 36) rfl ?_); refine Kd.R_lit k41 _ 41 ?hg (N := 36) ?hd (xs := ([(⟨2, 0, a0_3⟩ : S41)] : List (S41))) (inner := [.int .i64 2, .int .i64 0, .int .i64 a0_3]) (ok := fun _ => True) (okp := fun _ => True) ?hr ?hp (fun _ hk => hk) trivial (Below.refl _ _) (Nat.le_refl _) (by simp) ?_; (case hd => rfl); (case hg => rfl); (case hr => first | (go_simp; done) | (go_simp; rfl)); (case hp => exact (Reps.c3 (show Kd.M k41 _ _ _ (⟨2, 0, a0_3⟩ : S41) [.int .i64 2, .int .i64 0, .int .i64 a0_3] from (k41_mkM _ _ _ (⟨2, 0, a0_3⟩ : S41) )) (Reps.none _ _))); intro v136 w32 ho33 hb hg_ hnew_; clear hg_ hnew_; (first | rw [← Ny135.out] at ho33 | (simp only [Int.reduceToNat] at ho33; rw [← Ny135.out] at ho33)); have HO137 := Aside0.mk (Kd.R_lower (Kd.R_newB ho33 (g := gb125) (o := .cells #[.int .i64 a0_0, .int .i64 0, .int .i64 0] 41 (0, 0)) bk_) (below_size bl_)); replace BK124 := Aside0.mk (blk_below (g := gb124) (o := .cells #[.int .i64 a0_0, .int .i64 a0_1, .int .i64 a0_2, .int .i64 a0_3, .slice A0_4 l0_4.length c0_4] 24 (0, 0)) bk_ hb); replace BK125 := Aside0.mk (blk_below (g := gb125) (o := .cells #[.int .i64 a0_0, .int .i64 0, .int .i64 0] 41 (0, 0)) bk_ hb); replace HB := Aside0.mk (below_step bl_ hb); clear hb ho33; obtain ⟨hcz34_0, hcz34_1, hcz34_2, hcz34_3, hcz34_4, hfz34_0, hfz34_1, hfz34_2, hfz34_3, hfz34_4⟩ := cf5_ BK124.out))
       go_loopg [4, 39] kj10 (fun kq v4 v39 w' => ∃ (x4_2 : List (S41)) (x39_2 : Int), v39 = .int .i64 x39_2 ∧ Aside0 (types_cells.l0 kq x4_2 a0_3 x39_2 a0_0 a0_1 a0_2 a0_3 l0_4 = some r) ∧ Aside0 (kq ≤ kj10) ∧ Aside0 (Kd.R k41 41 w' w.heap.size (fun k_ => k_ ≠ gb125) v4 x4_2) ∧ Aside0 (w'.heap[gb124]? = some (.cells #[.int .i64 a0_0, .int .i64 a0_1, .int .i64 a0_2, .int .i64 a0_3, (.slice A0_4 l0_4.length c0_4)] 24 (0, 0))) ∧ Aside0 (w'.heap[gb125]? = some (.cells #[.int .i64 a0_0, .int .i64 0, .int .i64 0] 41 (0, 0))) ∧ Aside0 (Below w.heap.size w w'))
       case atStart => exact ⟨(y135), (0), rs_, H', ⟨Nat.le_refl _⟩, ⟨by (with_reducible repeat (first | apply Kd.R_alloc | apply Kd.R_drewN | apply Kd.R_drew)); exact Kd.R_mono HO137.out (fun _ hk => hk.2)⟩, ⟨bk_⟩, ⟨bk_⟩, ⟨bl_⟩⟩
       case round =>
        clear H'
        try clear c1
        try clear c2
        try clear c2b0
        try clear c2b1
        try clear p2
        try clear c3
        try clear c4
        try clear c6
        try clear c15
        try clear c18
        try clear c18b0
        try clear c18b1
        try clear c19
        try clear c20
        try clear c24
        try clear c24b0
        try clear c24b1
        try clear c25
        try clear c29
        try clear c29b0
        try clear c29b1
        try clear c30
        try clear hcz13_0 hcz13_1 hcz13_2 hcz13_3 hcz13_4 hfz13_0 hfz13_1 hfz13_2 hfz13_3 hfz13_4
        try clear hcz16_0 hcz16_1 hcz16_2 hfz16_0 hfz16_1 hfz16_2
        try clear hcz17_0 hcz17_1 hcz17_2 hcz17_3 hcz17_4 hfz17_0 hfz17_1 hfz17_2 hfz17_3 hfz17_4
        try clear hcz21_0 hcz21_1 hcz21_2 hfz21_0 hfz21_1 hfz21_2
        try clear hcz26_0 hcz26_1 hcz26_2 hcz26_3 hcz26_4 hfz26_0 hfz26_1 hfz26_2 hfz26_3 hfz26_4
        try clear hcz31_0 hcz31_1 hcz31_2 hcz31_3 hcz31_4 hfz31_0 hfz31_1 hfz31_2 hfz31_3 hfz31_4
        try clear hcz34_0 hcz34_1 hcz34_2 hcz34_3 hcz34_4 hfz34_0 hfz34_1 hfz34_2 hfz34_3 hfz34_4
        try clear hcz4_0 hcz4_1 hcz4_2 hcz4_3 hcz4_4 hfz4_0 hfz4_1 hfz4_2 hfz4_3 hfz4_4
        try clear hcz7_0 hcz7_1 hcz7_2 hfz7_0 hfz7_1 hfz7_2
        try clear hcz8_0 hcz8_1 hcz8_2 hcz8_3 hcz8_4 hfz8_0 hfz8_1 hfz8_2 hfz8_3 hfz8_4
        try clear p2
        obtain ⟨x4_2, x39_2, rfl, HA, HK2, HO_4, BK124, BK125, HB⟩ := hrel
        cases gk with
        | zero => exact absurd HA.out (by simp [types_cells.l0])
        | succ k2 =>
         have H := HA.out
         clear HA
         simp only [types_cells.l0] at H
         by_cases c35 : x39_2 < a0_3
         ·rw [if_pos c35] at H
          have c35b0 : decide (x39_2 < a0_3) = true := decide_eq_true c35
          clear c35
          by_cases c36 : 0 < (l0_4.length : Int)
          ·rw [if_pos c36] at H
           have c36b0 : decide (0 < (l0_4.length : Int)) = true := decide_eq_true c36
           have c36b1 : decide (0 < l0_4.length) = true := decide_eq_true (by omega)
           clear c36
           replace H := Option.bind_eq_some_iff.mp H
           obtain ⟨t139, A370, H⟩ := H
           replace H : (if x4_2.length + t139.length < 5864062014805 then (types_cells.l0 k2 (x4_2 ++ t139) a0_3 (wrap64 (x39_2 + 1)) a0_0 a0_1 a0_2 a0_3 l0_4) else (none)) = some r := H
           have A37 := Aside0.mk A370
           clear A370
           by_cases c38 : x4_2.length + t139.length < 5864062014805
           ·rw [if_pos c38] at H
            have LMc38 := Aside0.mk c38
            clear c38
            obtain ⟨y142, hy142⟩ : ∃ y_ : List (S41), y_ = (x4_2 ++ t139) := ⟨_, rfl⟩
            replace H : (types_cells.l0 k2 y142 a0_3 (wrap64 (x39_2 + 1)) a0_0 a0_1 a0_2 a0_3 l0_4) = some r := by first | (rw [hy142]; with_reducible exact H) | (have H2_ := (Option.bind_some _ _).symm.trans H; rw [hy142]; with_reducible exact H2_) | (have H2_ := (Option.bind_some _ _).symm.trans H; with_reducible exact H2_) | with_reducible exact H | (rw [hy142]; exact H) | exact H
            have Ny142 := Aside0.mk hy142
            clear hy142
            have H' := Aside0.mk H
            clear H
            have hnb39 := NB124_125.out
            have hnc39 := NB125_124.out
            obtain ⟨hcz40_0, hcz40_1, hcz40_2, hcz40_3, hcz40_4, hfz40_0, hfz40_1, hfz40_2, hfz40_3, hfz40_4⟩ := cf5_ BK124.out
            have p138 : 0 ≤ (0 : Int) := (by omega)
            have q138 : 0 < (l0_4.length : Int) := dt_
            obtain ⟨ad138, A138_4, c138_4, e138, hx138_0, hx138_1, hx138_2, hx138_3, hx138_4, hl138_4, hi138_4⟩ := at_T24 HR0_4.out 0 p138 q138
            cases e138
            have qi138 : (0 < l0_4.length) = True := eq_true (by omega)
            (try rw [show ((0 : Int)).toNat = 0 from rfl] at hx138_0)
            (try rw [show 0 * 5 = 0 from rfl] at hx138_0)
            (try rw [Addr.add_zero'] at hx138_0)
            (try rw [show ((0 : Int)).toNat = 0 from rfl] at hx138_1)
            (try rw [show 0 * 5 = 0 from rfl] at hx138_1)
            (try rw [Addr.add_zero'] at hx138_1)
            (try rw [show ((0 : Int)).toNat = 0 from rfl] at hx138_2)
            (try rw [show 0 * 5 = 0 from rfl] at hx138_2)
            (try rw [Addr.add_zero'] at hx138_2)
            (try rw [show ((0 : Int)).toNat = 0 from rfl] at hx138_3)
            (try rw [show 0 * 5 = 0 from rfl] at hx138_3)
            (try rw [Addr.add_zero'] at hx138_3)
            (try rw [show ((0 : Int)).toNat = 0 from rfl] at hx138_4)
            (try rw [show 0 * 5 = 0 from rfl] at hx138_4)
            (try rw [Addr.add_zero'] at hx138_4)
            replace hx138_0 := (HB.out.cell (World.block_lt_of_cell? w _ hx138_0)).trans hx138_0
            replace hx138_1 := (HB.out.cell (World.block_lt_of_cell? w _ hx138_1)).trans hx138_1
            replace hx138_2 := (HB.out.cell (World.block_lt_of_cell? w _ hx138_2)).trans hx138_2
            replace hx138_3 := (HB.out.cell (World.block_lt_of_cell? w _ hx138_3)).trans hx138_3
            replace hx138_4 := (HB.out.cell (World.block_lt_of_cell? w _ hx138_4)).trans hx138_4
            have HR138_4 := Aside0.mk hi138_4
            have HC138_4 := Aside0.mk hl138_4
            clear hi138_4 hl138_4
            replace p138 := eq_true p138
            replace q138 := eq_true q138
            go_wp2_with (first | ((with_reducible refine gate_callee (f := 42) rfl ?_); refine goesL_ (some 46) rfl rfl Tryd.func42 (by kernel_rfl) rfl #[.agg #[.int .i64 ((rd_T24 l0_4 0).f0), .int .i64 ((rd_T24 l0_4 0).f1), .int .i64 ((rd_T24 l0_4 0).f2), .int .i64 ((rd_T24 l0_4 0).f3), .slice A138_4 ((rd_T24 l0_4 0).f4).length c138_4]] rfl (by (try simp only [List.map_toArray, List.map_cons, List.map_nil]); first | done | rfl | (simp only [List.length_drop, List.length_take]; rfl)) ?_; (with_reducible refine (ih k2 (by have := HJ10.out; have := HK2.out; omega) ((rd_T24 l0_4 0).f0) ((rd_T24 l0_4 0).f1) ((rd_T24 l0_4 0).f2) ((rd_T24 l0_4 0).f3) _ _ ((rd_T24 l0_4 0).f4) t139 _ ?side1 ?side2 A37.out).mono ?_); (case side1 => repeat (first | exact (Kd.C_below HR138_4.out HB.out) | (with_reducible refine Kd.C_alloc ?_ _) | (with_reducible refine Kd.C_drewN ?_ _) | (with_reducible refine Kd.C_drew ?_))); (case side2 => exact HC138_4.out); rintro e w41 ⟨v140, rfl, ho0, hb⟩; refine ⟨_, rfl, ?_⟩; have HO141 := Aside0.mk (Kd.R_lower (Kd.R_newB (Kd.R_new' ho0 (Kd.R_lt (pR_ HO_4.out))) (g := gb125) (o := .cells #[.int .i64 a0_0, .int .i64 0, .int .i64 0] 41 (0, 0)) bk_) (below_size bl_)); replace HO_4 := Aside0.mk (Kd.R_elder' (pR_ HO_4.out) (Kd.R_base ho0) hb); replace BK124 := Aside0.mk (blk_below (g := gb124) (o := .cells #[.int .i64 a0_0, .int .i64 a0_1, .int .i64 a0_2, .int .i64 a0_3, .slice (some ad138) l0_4.length c0_4] 24 (0, 0)) bk_ hb); replace BK125 := Aside0.mk (blk_below (g := gb125) (o := .cells #[.int .i64 a0_0, .int .i64 0, .int .i64 0] 41 (0, 0)) bk_ hb); replace HB := Aside0.mk (below_step bl_ hb); (try clear hb); (try clear hb2); (try clear hk); (try clear hi); (try clear ho0); obtain ⟨Ao43, co43, eo43⟩ := Kd.R_slice HO141.out; subst eo43) | ((with_reducible refine gate_builtin (b := .append) (xs := #[.tmp 41, .tmp 46]) rfl ?_); at_builtin; refine Kd.R_append_rows k41 (w0 := w) w.heap.size rfl (.tmp 41) (.tmp 46) 37 41 (.agg #[(.int .i64 0), (.int .i64 0), (.int .i64 0)]) 24 rfl Tryd.underlying37 info41 rfl (by decide) (by omega) u4 x4_2 t139 _ _ _ (fun k_ => some k_ ≠ (.slice Ao43 t139.length co43 : Value).ownBlock ∧ k_ ≠ gb125) (fun _ => False) rfl rfl ?aO ?aR (fun _ _ h => h) (fun _ h => h.elim) ?aF ?aB ?aS ?aL ?_; (case aR => repeat (first | exact (Kd.R_reads' HO141.out).2.2 | (with_reducible refine Kd.C_alloc ?_ _) | (with_reducible refine Kd.C_drewN ?_ _) | (with_reducible refine Kd.C_drew ?_))); (case aB => exact bl_); (case aF => exact (fun k_ hk => ⟨Kd.fresh' (Kd.R_lt (pR_ HO141.out)) k_ hk, Kd.freshB (g := gb125) (o := .cells #[.int .i64 a0_0, .int .i64 0, .int .i64 0] 41 (0, 0)) bk_ k_ hk⟩)); (case aO => exact (by (with_reducible repeat (first | apply Kd.R_alloc | apply Kd.R_drewN | apply Kd.R_drew)); exact Kd.R_mono HO_4.out (fun _ hk => ⟨hk.2, hk.1⟩))); (case aS => exact (below_size bl_)); (case aL => have := LMc38.out; omega); intro v143 w42 ho hb hg hat; rw [← Ny142.out] at ho; have HO144 := Aside0.mk (ho); replace BK124 := Aside0.mk (blk_grown (g := gb124) (o := .cells #[.int .i64 a0_0, .int .i64 a0_1, .int .i64 a0_2, .int .i64 a0_3, .slice (some ad138) l0_4.length c0_4] 24 (0, 0)) bk_ hg (Kd.R_ne HO_4.out BK124.out (by decide))); replace BK125 := Aside0.mk (blk_grown (g := gb125) (o := .cells #[.int .i64 a0_0, .int .i64 0, .int .i64 0] 41 (0, 0)) bk_ hg (Kd.R_away HO_4.out (fun _ hk => hk.1))); replace HO141 := Aside0.mk (Kd.R_after (ok := (fun k_ => k_ ≠ gb125)) (by (with_reducible repeat (first | apply Kd.R_alloc | apply Kd.R_drewN | apply Kd.R_drew)); exact Kd.R_mono HO141.out (fun _ hk => ⟨hk.2, hk.1.2⟩)) hg hat); replace HB := Aside0.mk (hb); clear HO_4; clear ho hb hg hat))
            go_roundg k2
            case measure => have := HJ10.out; have := HK2.out; omega
            case rel => exact ⟨(y142), (wrap64 (x39_2 + 1)), rs_, H', ⟨by have := HJ10.out; have := HK2.out; omega⟩, ⟨by (with_reducible repeat (first | apply Kd.R_alloc | apply Kd.R_drewN | apply Kd.R_drew)); exact Kd.R_mono HO144.out (fun _ hk => hk.2)⟩, ⟨bk_⟩, ⟨bk_⟩, ⟨bl_⟩⟩
           ·rw [if_neg c38] at H
            exact absurd H (by simp)
          ·rw [if_neg c36] at H
           exact absurd H (by simp)
         ·rw [if_neg c35] at H
          have c35b0 : decide (x39_2 < a0_3) = false := decide_eq_false c35
          clear c35
          obtain rfl := Option.some.inj H
          go_wp2
          go_ret
          exact ⟨_, re_, by (with_reducible repeat (first | apply Kd.R_alloc | apply Kd.R_drewN | apply Kd.R_drew)); exact Kd.R_mono HO_4.out (fun _ hk => trivial), bl_⟩
      ·rw [if_neg c29] at H
       have c29b0 : (a0_0 == 6) = false := beq_eq_false_iff_ne.mpr c29
       have c29b1 : (a0_0 != 6) = true := bne_iff_ne.mpr c29
       have H' := Aside0.mk H
       clear H
       have hnb44 := NB124_125.out
       have hnc44 := NB125_124.out
       obtain ⟨hcz45_0, hcz45_1, hcz45_2, hcz45_3, hcz45_4, hfz45_0, hfz45_1, hfz45_2, hfz45_3, hfz45_4⟩ := cf5_ BK124.out
       go_wp2
       go_loopg [5, 53] kj10 (fun kq v5 v53 w' => ∃ (x5_2 : List (S41)) (x53_2 : Int), v53 = .int .i64 x53_2 ∧ Aside0 (types_cells.l1 kq x5_2 l0_4 (l0_4.length : Int) x53_2 = some r) ∧ Aside0 (kq ≤ kj10) ∧ Aside0 (Kd.R k41 41 w' w.heap.size (fun k_ => k_ ≠ gb125) v5 x5_2) ∧ Aside0 (w'.heap[gb124]? = some (.cells #[.int .i64 a0_0, .int .i64 a0_1, .int .i64 a0_2, .int .i64 a0_3, (.slice A0_4 l0_4.length c0_4)] 24 (0, 0))) ∧ Aside0 (w'.heap[gb125]? = some (.cells #[.int .i64 a0_0, .int .i64 0, .int .i64 0] 41 (0, 0))) ∧ Aside0 (Below w.heap.size w w'))
       case atStart => exact ⟨(([] : List (S41))), (0), rs_, H', ⟨Nat.le_refl _⟩, ⟨by first | exact Kd.R_nil _ _ _ _ _ | exact Kd.N_nil _ _ _ _ _ | exact Kd.V_nil _ _ _ _ _ | exact Kd.Q_nil _ _ _ _ _ | exact Kd.S_nil _ _ _ _ _⟩, ⟨bk_⟩, ⟨bk_⟩, ⟨bl_⟩⟩
       case round =>
        clear H'
        try clear c1
        try clear p1
        try clear q1
        try clear hx1
        try clear qi1
        try clear c2
        try clear c2b0
        try clear c2b1
        try clear p2
        try clear c3
        try clear c4
        try clear c6
        try clear p6
        try clear c13
        try clear p13
        try clear q13
        try clear hx13
        try clear qi13
        try clear c15
        try clear c18
        try clear c18b0
        try clear c18b1
        try clear c19
        try clear c20
        try clear c24
        try clear c24b0
        try clear c24b1
        try clear c25
        try clear c29
        try clear c29b0
        try clear c29b1
        try clear c30
        try clear c35
        try clear c35b0
        try clear c36
        try clear c36b0
        try clear c36b1
        try clear c38
        try clear c39
        try clear c42
        try clear c44
        try clear hcz13_0 hcz13_1 hcz13_2 hcz13_3 hcz13_4 hfz13_0 hfz13_1 hfz13_2 hfz13_3 hfz13_4
        try clear hcz16_0 hcz16_1 hcz16_2 hfz16_0 hfz16_1 hfz16_2
        try clear hcz17_0 hcz17_1 hcz17_2 hcz17_3 hcz17_4 hfz17_0 hfz17_1 hfz17_2 hfz17_3 hfz17_4
        try clear hcz21_0 hcz21_1 hcz21_2 hfz21_0 hfz21_1 hfz21_2
        try clear hcz26_0 hcz26_1 hcz26_2 hcz26_3 hcz26_4 hfz26_0 hfz26_1 hfz26_2 hfz26_3 hfz26_4
        try clear hcz31_0 hcz31_1 hcz31_2 hcz31_3 hcz31_4 hfz31_0 hfz31_1 hfz31_2 hfz31_3 hfz31_4
        try clear hcz34_0 hcz34_1 hcz34_2 hcz34_3 hcz34_4 hfz34_0 hfz34_1 hfz34_2 hfz34_3 hfz34_4
        try clear hcz40_0 hcz40_1 hcz40_2 hcz40_3 hcz40_4 hfz40_0 hfz40_1 hfz40_2 hfz40_3 hfz40_4
        try clear hcz45_0 hcz45_1 hcz45_2 hcz45_3 hcz45_4 hfz45_0 hfz45_1 hfz45_2 hfz45_3 hfz45_4
        try clear hcz4_0 hcz4_1 hcz4_2 hcz4_3 hcz4_4 hfz4_0 hfz4_1 hfz4_2 hfz4_3 hfz4_4
        try clear hcz7_0 hcz7_1 hcz7_2 hfz7_0 hfz7_1 hfz7_2
        try clear hcz8_0 hcz8_1 hcz8_2 hcz8_3 hcz8_4 hfz8_0 hfz8_1 hfz8_2 hfz8_3 hfz8_4
        try clear hx138_0
        try clear hx138_1
        try clear hx138_2
        try clear hx138_3
        try clear hx138_4
        try clear p138
        try clear p2
        try clear q138
        obtain ⟨x5_2, x53_2, rfl, HA, HK2, HO_5, BK124, BK125, HB⟩ := hrel
        cases gk with
        | zero => exact absurd HA.out (by simp [types_cells.l1])
        | succ k2 =>
         have H := HA.out
         clear HA
         simp only [types_cells.l1] at H
         by_cases c46 : x53_2 < (l0_4.length : Int)
         ·rw [if_pos c46] at H
          have c46b0 : decide (x53_2 < (l0_4.length : Int)) = true := decide_eq_true c46
          clear c46
          by_cases c47 : 0 ≤ x53_2
          ·rw [if_pos c47] at H
           have c47b0 : decide (0 ≤ x53_2) = true := decide_eq_true c47
           clear c47
           by_cases c48 : x53_2 < (l0_4.length : Int)
           ·rw [if_pos c48] at H
            have c48b0 : decide (x53_2 < (l0_4.length : Int)) = true := decide_eq_true c48
            clear c48
            replace H := Option.bind_eq_some_iff.mp H
            obtain ⟨t147, A490, H⟩ := H
            replace H : (if x5_2.length + t147.length < 5864062014805 then (types_cells.l1 k2 (x5_2 ++ t147) l0_4 (l0_4.length : Int) (wrap64 (x53_2 + 1))) else (none)) = some r := H
            have A49 := Aside0.mk A490
            clear A490
            by_cases c50 : x5_2.length + t147.length < 5864062014805
            ·rw [if_pos c50] at H
             have LMc50 := Aside0.mk c50
             clear c50
             obtain ⟨y150, hy150⟩ : ∃ y_ : List (S41), y_ = (x5_2 ++ t147) := ⟨_, rfl⟩
             replace H : (types_cells.l1 k2 y150 l0_4 (l0_4.length : Int) (wrap64 (x53_2 + 1))) = some r := by first | (rw [hy150]; with_reducible exact H) | (have H2_ := (Option.bind_some _ _).symm.trans H; rw [hy150]; with_reducible exact H2_) | (have H2_ := (Option.bind_some _ _).symm.trans H; with_reducible exact H2_) | with_reducible exact H | (rw [hy150]; exact H) | exact H
             have Ny150 := Aside0.mk hy150
             clear hy150
             have H' := Aside0.mk H
             clear H
             have p145 : 0 ≤ (x53_2 : Int) := dt_
             have q145 : x53_2 < (l0_4.length : Int) := dt_
             obtain ⟨ad145, A145_4, c145_4, e145, hx145_0, hx145_1, hx145_2, hx145_3, hx145_4, hl145_4, hi145_4⟩ := at_T24 HR0_4.out x53_2 p145 q145
             cases e145
             replace hx145_0 := (HB.out.cell (World.block_lt_of_cell? w _ hx145_0)).trans hx145_0
             replace hx145_1 := (HB.out.cell (World.block_lt_of_cell? w _ hx145_1)).trans hx145_1
             replace hx145_2 := (HB.out.cell (World.block_lt_of_cell? w _ hx145_2)).trans hx145_2
             replace hx145_3 := (HB.out.cell (World.block_lt_of_cell? w _ hx145_3)).trans hx145_3
             replace hx145_4 := (HB.out.cell (World.block_lt_of_cell? w _ hx145_4)).trans hx145_4
             have HR145_4 := Aside0.mk hi145_4
             have HC145_4 := Aside0.mk hl145_4
             clear hi145_4 hl145_4
             replace p145 := eq_true p145
             replace q145 := eq_true q145
             go_wp2_with (first | ((with_reducible refine gate_dst (N := 7) rfl ?_); refine box_event ?hg (N := 7) ?hd (cs := #[.int .i64 0, .int .i64 0, .int .i64 0, .int .i64 0, .slice none 0 0]) (t := 24) ?hr ?_; (case hd => rfl); (case hg => rfl); (case hr => first | (go_simp; done) | (go_simp; rfl)); intro gb146 hg w51 hbox hb; have BK146 := Aside0.mk (hbox); have GW146 : Aside0 (w.heap.size ≤ gb146) := gw_ hg (below_size bl_); have GE146 := GW146; have NB124_146 := Aside0.mk ((by rw [hg]; exact Nat.ne_of_lt (blk_lt (g := gb124) (o := .cells #[.int .i64 a0_0, .int .i64 a0_1, .int .i64 a0_2, .int .i64 a0_3, .slice (some ad145) l0_4.length c0_4] 24 (0, 0)) bk_) : gb124 ≠ gb146)); have NB146_124 := Aside0.mk ((by rw [hg]; exact Nat.ne_of_gt (blk_lt (g := gb124) (o := .cells #[.int .i64 a0_0, .int .i64 a0_1, .int .i64 a0_2, .int .i64 a0_3, .slice (some ad145) l0_4.length c0_4] 24 (0, 0)) bk_) : gb146 ≠ gb124)); have NB125_146 := Aside0.mk ((by rw [hg]; exact Nat.ne_of_lt (blk_lt (g := gb125) (o := .cells #[.int .i64 a0_0, .int .i64 0, .int .i64 0] 41 (0, 0)) bk_) : gb125 ≠ gb146)); have NB146_125 := Aside0.mk ((by rw [hg]; exact Nat.ne_of_gt (blk_lt (g := gb125) (o := .cells #[.int .i64 a0_0, .int .i64 0, .int .i64 0] 41 (0, 0)) bk_) : gb146 ≠ gb125)); replace HO_5 := Aside0.mk (Kd.R_below (pR_ HO_5.out) hb); replace BK124 := Aside0.mk (blk_below (g := gb124) (o := .cells #[.int .i64 a0_0, .int .i64 a0_1, .int .i64 a0_2, .int .i64 a0_3, .slice (some ad145) l0_4.length c0_4] 24 (0, 0)) bk_ hb); replace BK125 := Aside0.mk (blk_below (g := gb125) (o := .cells #[.int .i64 a0_0, .int .i64 0, .int .i64 0] 41 (0, 0)) bk_ hb); replace HB := Aside0.mk (below_step bl_ hb); clear hb hbox hg; have hnb52 := NB146_124.out; have hnc52 := NB124_146.out; have hnb53 := NB146_125.out; have hnc53 := NB125_146.out; obtain ⟨hcz54_0, hcz54_1, hcz54_2, hcz54_3, hcz54_4, hfz54_0, hfz54_1, hfz54_2, hfz54_3, hfz54_4⟩ := cf5_ BK146.out) | ((with_reducible refine gate_callee (f := 42) rfl ?_); refine goesL_ (some 59) rfl rfl Tryd.func42 (by kernel_rfl) rfl #[.agg #[.int .i64 ((rd_T24 l0_4 x53_2).f0), .int .i64 ((rd_T24 l0_4 x53_2).f1), .int .i64 ((rd_T24 l0_4 x53_2).f2), .int .i64 ((rd_T24 l0_4 x53_2).f3), .slice A145_4 ((rd_T24 l0_4 x53_2).f4).length c145_4]] rfl (by (try simp only [List.map_toArray, List.map_cons, List.map_nil]); first | done | rfl | (simp only [List.length_drop, List.length_take]; rfl)) ?_; (with_reducible refine (ih k2 (by have := HJ10.out; have := HK2.out; omega) ((rd_T24 l0_4 x53_2).f0) ((rd_T24 l0_4 x53_2).f1) ((rd_T24 l0_4 x53_2).f2) ((rd_T24 l0_4 x53_2).f3) _ _ ((rd_T24 l0_4 x53_2).f4) t147 _ ?side1 ?side2 A49.out).mono ?_); (case side1 => exact Kd.C_below HR145_4.out bl_); (case side2 => exact HC145_4.out); rintro e w55 ⟨v148, rfl, ho0, hb⟩; refine ⟨_, rfl, ?_⟩; have HO149 := Aside0.mk (Kd.R_lower (Kd.R_newB (Kd.R_new' ho0 (Kd.R_lt (by (with_reducible repeat (first | apply Kd.R_alloc | apply Kd.R_drewN | apply Kd.R_drew)); exact (Kd.R_mono (Kd.R_far (p := ⟨gb146, 4, none⟩) (Kd.R_far (p := ⟨gb146, 3, none⟩) (Kd.R_far (p := ⟨gb146, 2, none⟩) (Kd.R_far (p := ⟨gb146, 1, none⟩) (Kd.R_far (p := ⟨gb146, 0, none⟩) (Kd.R_types HO_5.out BK146.out (by decide)) (fun _ hk => hk.2) (.int .i64 ((rd_T24 l0_4 x53_2).f0))) (fun _ hk => hk.2) (.int .i64 ((rd_T24 l0_4 x53_2).f1))) (fun _ hk => hk.2) (.int .i64 ((rd_T24 l0_4 x53_2).f2))) (fun _ hk => hk.2) (.int .i64 ((rd_T24 l0_4 x53_2).f3))) (fun _ hk => hk.2) (.slice A145_4 ((rd_T24 l0_4 x53_2).f4).length c145_4)) (fun _ h_ => h_.1))))) (g := gb125) (o := .cells #[.int .i64 a0_0, .int .i64 0, .int .i64 0] 41 (0, 0)) (by (with_reducible repeat (first | refine blk_drewN ?_ _ | refine blk_drew ?_ | refine blk_alloc ?_ _)); refine blk_far ?_ NB125_146.out _; (with_reducible repeat (first | refine blk_drewN ?_ _ | refine blk_drew ?_ | refine blk_alloc ?_ _)); refine blk_far ?_ NB125_146.out _; (with_reducible repeat (first | refine blk_drewN ?_ _ | refine blk_drew ?_ | refine blk_alloc ?_ _)); refine blk_far ?_ NB125_146.out _; (with_reducible repeat (first | refine blk_drewN ?_ _ | refine blk_drew ?_ | refine blk_alloc ?_ _)); refine blk_far ?_ NB125_146.out _; (with_reducible repeat (first | refine blk_drewN ?_ _ | refine blk_drew ?_ | refine blk_alloc ?_ _)); refine blk_far ?_ NB125_146.out _; (with_reducible repeat (first | refine blk_drewN ?_ _ | refine blk_drew ?_ | refine blk_alloc ?_ _)); exact BK125.out)) (below_size bl_)); replace HO_5 := Aside0.mk (Kd.R_elder' (by (with_reducible repeat (first | apply Kd.R_alloc | apply Kd.R_drewN | apply Kd.R_drew)); exact (Kd.R_mono (Kd.R_far (p := ⟨gb146, 4, none⟩) (Kd.R_far (p := ⟨gb146, 3, none⟩) (Kd.R_far (p := ⟨gb146, 2, none⟩) (Kd.R_far (p := ⟨gb146, 1, none⟩) (Kd.R_far (p := ⟨gb146, 0, none⟩) (Kd.R_types HO_5.out BK146.out (by decide)) (fun _ hk => hk.2) (.int .i64 ((rd_T24 l0_4 x53_2).f0))) (fun _ hk => hk.2) (.int .i64 ((rd_T24 l0_4 x53_2).f1))) (fun _ hk => hk.2) (.int .i64 ((rd_T24 l0_4 x53_2).f2))) (fun _ hk => hk.2) (.int .i64 ((rd_T24 l0_4 x53_2).f3))) (fun _ hk => hk.2) (.slice A145_4 ((rd_T24 l0_4 x53_2).f4).length c145_4)) (fun _ h_ => h_.1))) (Kd.R_base ho0) hb); replace BK124 := Aside0.mk (blk_below (g := gb124) (o := .cells #[.int .i64 a0_0, .int .i64 a0_1, .int .i64 a0_2, .int .i64 a0_3, .slice (some ad145) l0_4.length c0_4] 24 (0, 0)) (by (with_reducible repeat (first | refine blk_drewN ?_ _ | refine blk_drew ?_ | refine blk_alloc ?_ _)); refine blk_far ?_ NB124_146.out _; (with_reducible repeat (first | refine blk_drewN ?_ _ | refine blk_drew ?_ | refine blk_alloc ?_ _)); refine blk_far ?_ NB124_146.out _; (with_reducible repeat (first | refine blk_drewN ?_ _ | refine blk_drew ?_ | refine blk_alloc ?_ _)); refine blk_far ?_ NB124_146.out _; (with_reducible repeat (first | refine blk_drewN ?_ _ | refine blk_drew ?_ | refine blk_alloc ?_ _)); refine blk_far ?_ NB124_146.out _; (with_reducible repeat (first | refine blk_drewN ?_ _ | refine blk_drew ?_ | refine blk_alloc ?_ _)); refine blk_far ?_ NB124_146.out _; (with_reducible repeat (first | refine blk_drewN ?_ _ | refine blk_drew ?_ | refine blk_alloc ?_ _)); exact BK124.out) hb); replace BK125 := Aside0.mk (blk_below (g := gb125) (o := .cells #[.int .i64 a0_0, .int .i64 0, .int .i64 0] 41 (0, 0)) (by (with_reducible repeat (first | refine blk_drewN ?_ _ | refine blk_drew ?_ | refine blk_alloc ?_ _)); refine blk_far ?_ NB125_146.out _; (with_reducible repeat (first | refine blk_drewN ?_ _ | refine blk_drew ?_ | refine blk_alloc ?_ _)); refine blk_far ?_ NB125_146.out _; (with_reducible repeat (first | refine blk_drewN ?_ _ | refine blk_drew ?_ | refine blk_alloc ?_ _)); refine blk_far ?_ NB125_146.out _; (with_reducible repeat (first | refine blk_drewN ?_ _ | refine blk_drew ?_ | refine blk_alloc ?_ _)); refine blk_far ?_ NB125_146.out _; (with_reducible repeat (first | refine blk_drewN ?_ _ | refine blk_drew ?_ | refine blk_alloc ?_ _)); refine blk_far ?_ NB125_146.out _; (with_reducible repeat (first | refine blk_drewN ?_ _ | refine blk_drew ?_ | refine blk_alloc ?_ _)); exact BK125.out) hb); replace BK146 := Aside0.mk (blk_below (g := gb146) (o := .cells #[.int .i64 ((rd_T24 l0_4 x53_2).f0), .int .i64 ((rd_T24 l0_4 x53_2).f1), .int .i64 ((rd_T24 l0_4 x53_2).f2), .int .i64 ((rd_T24 l0_4 x53_2).f3), .slice A145_4 ((rd_T24 l0_4 x53_2).f4).length c145_4] 24 (0, 0)) (by (with_reducible repeat (first | refine blk_drewN ?_ _ | refine blk_drew ?_ | refine blk_alloc ?_ _)); refine blk_put (cs := #[.int .i64 ((rd_T24 l0_4 x53_2).f0), .int .i64 ((rd_T24 l0_4 x53_2).f1), .int .i64 ((rd_T24 l0_4 x53_2).f2), .int .i64 ((rd_T24 l0_4 x53_2).f3), .slice none 0 0]) ?_ 4 _ rfl; (with_reducible repeat (first | refine blk_drewN ?_ _ | refine blk_drew ?_ | refine blk_alloc ?_ _)); refine blk_put (cs := #[.int .i64 ((rd_T24 l0_4 x53_2).f0), .int .i64 ((rd_T24 l0_4 x53_2).f1), .int .i64 ((rd_T24 l0_4 x53_2).f2), .int .i64 0, .slice none 0 0]) ?_ 3 _ rfl; (with_reducible repeat (first | refine blk_drewN ?_ _ | refine blk_drew ?_ | refine blk_alloc ?_ _)); refine blk_put (cs := #[.int .i64 ((rd_T24 l0_4 x53_2).f0), .int .i64 ((rd_T24 l0_4 x53_2).f1), .int .i64 0, .int .i64 0, .slice none 0 0]) ?_ 2 _ rfl; (with_reducible repeat (first | refine blk_drewN ?_ _ | refine blk_drew ?_ | refine blk_alloc ?_ _)); refine blk_put (cs := #[.int .i64 ((rd_T24 l0_4 x53_2).f0), .int .i64 0, .int .i64 0, .int .i64 0, .slice none 0 0]) ?_ 1 _ rfl; (with_reducible repeat (first | refine blk_drewN ?_ _ | refine blk_drew ?_ | refine blk_alloc ?_ _)); refine blk_put (cs := #[.int .i64 0, .int .i64 0, .int .i64 0, .int .i64 0, .slice none 0 0]) ?_ 0 _ rfl; (with_reducible repeat (first | refine blk_drewN ?_ _ | refine blk_drew ?_ | refine blk_alloc ?_ _)); exact BK146.out) hb); replace HB := Aside0.mk (below_step bl_ hb); (try clear hb); (try clear hb2); (try clear hk); (try clear hi); (try clear ho0); obtain ⟨Ao57, co57, eo57⟩ := Kd.R_slice HO149.out; subst eo57) | ((with_reducible refine gate_builtin (b := .append) (xs := #[.tmp 57, .tmp 59]) rfl ?_); at_builtin; refine Kd.R_append_rows k41 (w0 := w) w.heap.size rfl (.tmp 57) (.tmp 59) 37 41 (.agg #[(.int .i64 0), (.int .i64 0), (.int .i64 0)]) 24 rfl Tryd.underlying37 info41 rfl (by decide) (by omega) u5 x5_2 t147 _ _ _ (fun k_ => some k_ ≠ (.slice Ao57 t147.length co57 : Value).ownBlock ∧ k_ ≠ gb125) (fun _ => False) rfl rfl ?aO ?aR (fun _ _ h => h) (fun _ h => h.elim) ?aF ?aB ?aS ?aL ?_; (case aR => repeat (first | exact (Kd.R_reads' HO149.out).2.2 | (with_reducible refine Kd.C_alloc ?_ _) | (with_reducible refine Kd.C_drewN ?_ _) | (with_reducible refine Kd.C_drew ?_))); (case aB => exact bl_); (case aF => exact (fun k_ hk => ⟨Kd.fresh' (Kd.R_lt (pR_ HO149.out)) k_ hk, Kd.freshB (g := gb125) (o := .cells #[.int .i64 a0_0, .int .i64 0, .int .i64 0] 41 (0, 0)) bk_ k_ hk⟩)); (case aO => exact (by (with_reducible repeat (first | apply Kd.R_alloc | apply Kd.R_drewN | apply Kd.R_drew)); exact Kd.R_mono HO_5.out (fun _ hk => ⟨hk.2, hk.1⟩))); (case aS => exact (below_size bl_)); (case aL => have := LMc50.out; omega); intro v151 w56 ho hb hg hat; rw [← Ny150.out] at ho; have HO152 := Aside0.mk (ho); replace BK124 := Aside0.mk (blk_grown (g := gb124) (o := .cells #[.int .i64 a0_0, .int .i64 a0_1, .int .i64 a0_2, .int .i64 a0_3, .slice (some ad145) l0_4.length c0_4] 24 (0, 0)) bk_ hg (Kd.R_ne HO_5.out BK124.out (by decide))); replace BK125 := Aside0.mk (blk_grown (g := gb125) (o := .cells #[.int .i64 a0_0, .int .i64 0, .int .i64 0] 41 (0, 0)) bk_ hg (Kd.R_away HO_5.out (fun _ hk => hk.1))); replace BK146 := Aside0.mk (blk_grown (g := gb146) (o := .cells #[.int .i64 ((rd_T24 l0_4 x53_2).f0), .int .i64 ((rd_T24 l0_4 x53_2).f1), .int .i64 ((rd_T24 l0_4 x53_2).f2), .int .i64 ((rd_T24 l0_4 x53_2).f3), .slice A145_4 ((rd_T24 l0_4 x53_2).f4).length c145_4] 24 (0, 0)) bk_ hg (Kd.R_ne HO_5.out BK146.out (by decide))); replace HO149 := Aside0.mk (Kd.R_after (ok := (fun k_ => k_ ≠ gb125)) (by (with_reducible repeat (first | apply Kd.R_alloc | apply Kd.R_drewN | apply Kd.R_drew)); exact Kd.R_mono HO149.out (fun _ hk => ⟨hk.2, hk.1.2⟩)) hg hat); replace HB := Aside0.mk (hb); clear HO_5; clear ho hb hg hat))
             go_roundg k2
             case measure => have := HJ10.out; have := HK2.out; omega
             case rel => exact ⟨(y150), (wrap64 (x53_2 + 1)), rs_, H', ⟨by have := HJ10.out; have := HK2.out; omega⟩, ⟨by (with_reducible repeat (first | apply Kd.R_alloc | apply Kd.R_drewN | apply Kd.R_drew)); exact Kd.R_mono HO152.out (fun _ hk => hk.2)⟩, ⟨bk_⟩, ⟨bk_⟩, ⟨bl_⟩⟩
            ·rw [if_neg c50] at H
             exact absurd H (by simp)
           ·rw [if_neg c48] at H
            exact absurd H (by simp)
          ·rw [if_neg c47] at H
           exact absurd H (by simp)
         ·rw [if_neg c46] at H
          have c46b0 : decide (x53_2 < (l0_4.length : Int)) = false := decide_eq_false c46
          clear c46
          obtain rfl := Option.some.inj H
          go_wp2
          go_ret
          exact ⟨_, re_, by (with_reducible repeat (first | apply Kd.R_alloc | apply Kd.R_drewN | apply Kd.R_drew)); exact Kd.R_mono HO_5.out (fun _ hk => trivial), bl_⟩

/-! ### types_isTruth: function 70 -/
def types_isTruth.f (a0_0 : Int) (a0_1 : Int) (a0_2 : Int) : Option (Bool) := some (a0_0 == 1 && (a0_1 == 0 && (a0_2 == 1)))
set_option maxHeartbeats 8000000 in
set_option maxRecDepth 100000 in
theorem types_isTruth.calls (a0_0 : Int) (a0_1 : Int) (a0_2 : Int) (r : Bool) (w : World) (h : types_isTruth.f a0_0 a0_1 a0_2 = some r) :
  Calls Tryd.prog 70 #[.agg #[.int .i64 a0_0, .int .i64 a0_1, .int .i64 a0_2]] w fun e w' => e = .returned (.bool r) ∧ Below w.heap.size w w' := by
 have hu41 := Tryd.underlying41
 have HB := Aside0.mk (Below.refl w.heap.size w)
 have HSS := @cell_twice
 have H : (some (a0_0 == 1 && (a0_1 == 0 && (a0_2 == 1)))) = some r := h
 clear h
 obtain rfl := Option.some.inj H
 go_enter Tryd.func70, Tryd.ntmps70
 go_wp2_with (first | ((with_reducible refine gate_dst (N := 1) rfl ?_); refine box_event ?hg (N := 1) ?hd (cs := #[.int .i64 a0_0, .int .i64 a0_1, .int .i64 a0_2]) (t := 41) ?hr ?_; (case hd => rfl); (case hg => rfl); (case hr => first | (go_simp; done) | (go_simp; rfl)); intro gb153 hg w2 hbox hb; have BK153 := Aside0.mk (hbox); have GW153 : Aside0 (w.heap.size ≤ gb153) := gw_ hg (below_size bl_); have GE153 := GW153; replace HB := Aside0.mk (below_step bl_ hb); clear hb hbox hg; obtain ⟨hcz3_0, hcz3_1, hcz3_2, hfz3_0, hfz3_1, hfz3_2⟩ := cf3_ BK153.out))
 go_ret
 exact ⟨re_, bl_⟩

end Go.Proofs.YtggelekooacmnaaDoor.R
