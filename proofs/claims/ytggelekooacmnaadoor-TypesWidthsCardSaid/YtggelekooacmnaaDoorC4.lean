-- By a program of this session
import Derived.Test.YtggelekooacmnaaDoorC0
import Derived.Test.YtggelekooacmnaaDoorC2
import Derived.Test.YtggelekooacmnaaDoorC3
namespace Go.Proofs.YtggelekooacmnaaDoor.R
open Go.RowKit Go.Proofs.YtggelekooacmnaaDoorW.PrintWords Go.Proofs.YtggelekooacmnaaDoorW.PrintLast Go.Proofs.YtggelekooacmnaaDoorW.PrintMore
attribute [local go_sem] max2_int min2_int max_two min_two max_three min_three max_four min_four   -- for this text's walks alone
set_option linter.unusedVariables false
set_option linter.unusedSimpArgs false

/-! ### types_width: function 40 -/
mutual
def types_width.l0 : Nat → Int → List (S24) → Int → Int → Option (Int)
 | 0, _, _, _, _ => none
 | k + 1, x3, x11, x12, x13 => if x13 < x12 then (if 0 ≤ x13 then (if x13 < (x11.length : Int) then ((types_width.f k ((rd_T24 x11 x13).f0) ((rd_T24 x11 x13).f1) ((rd_T24 x11 x13).f2) ((rd_T24 x11 x13).f3) ((rd_T24 x11 x13).f4)).bind fun t117 => (types_width.l0 k (wrap64 (x3 + t117)) x11 x12 (wrap64 (x13 + 1)))) else (none)) else (none)) else (some x3)
def types_width.f : Nat → Int → Int → Int → Int → List (S24) → Option (Int)
 | 0, _, _, _, _, _ => none
 | k + 1, a0_0, a0_1, a0_2, a0_3, l0_4 => if a0_0 = 5 then (types_width.l0 k 0 l0_4 (l0_4.length : Int) 0) else (if a0_0 = 6 then (if 0 < (l0_4.length : Int) then ((types_width.f k ((rd_T24 l0_4 0).f0) ((rd_T24 l0_4 0).f1) ((rd_T24 l0_4 0).f2) ((rd_T24 l0_4 0).f3) ((rd_T24 l0_4 0).f4)).bind fun t119 => (some (wrap64 (1 + (wrap64 (a0_3 * t119)))))) else (none)) else (some 1))
end
theorem types_width.mono_l : ∀ k, (∀ y0 y1 y2 y3 y4, LeO (types_width.f k y0 y1 y2 y3 y4) (types_width.f (k + 1) y0 y1 y2 y3 y4)) ∧ (∀ y0 y1 y2 y3, LeO (types_width.l0 k y0 y1 y2 y3) (types_width.l0 (k + 1) y0 y1 y2 y3))
 | 0 => ⟨fun _ _ _ _ _ r h => by simp [types_width.f] at h, fun _ _ _ _ r h => by simp [types_width.l0] at h⟩
 | k + 1 => by
  obtain ⟨ih0, ih1⟩ := types_width.mono_l k
  refine ⟨?_, ?_⟩
  ·intro y0 y1 y2 y3 y4
   unfold types_width.f
   repeat' first
   | (with_reducible exact ih0 _ _ _ _ _)
   | (with_reducible exact ih1 _ _ _ _)
   | (with_reducible exact LeO.refl _)
   | (with_reducible exact LeO.none _)
   | (with_reducible refine LeO.ite ?_ ?_)
   | (with_reducible refine LeO.bind ?_ (fun _ => ?_))
   | exact ih0 _ _ _ _ _
   | exact ih1 _ _ _ _
   | exact LeO.none _
   | refine LeO.ite ?_ ?_
   | refine LeO.bind ?_ (fun _ => ?_)
  ·intro y0 y1 y2 y3
   unfold types_width.l0
   repeat' first
   | (with_reducible exact ih0 _ _ _ _ _)
   | (with_reducible exact ih1 _ _ _ _)
   | (with_reducible exact LeO.refl _)
   | (with_reducible exact LeO.none _)
   | (with_reducible refine LeO.ite ?_ ?_)
   | (with_reducible refine LeO.bind ?_ (fun _ => ?_))
   | exact ih0 _ _ _ _ _
   | exact ih1 _ _ _ _
   | exact LeO.none _
   | refine LeO.ite ?_ ?_
   | refine LeO.bind ?_ (fun _ => ?_)
theorem types_width.mono : ∀ a0 a1 a2 a3 a4 k, LeO (types_width.f k a0 a1 a2 a3 a4) (types_width.f (k + 1) a0 a1 a2 a3 a4) := by
 intro a0 a1 a2 a3 a4 k
 obtain ⟨ih0, ih1⟩ := types_width.mono_l k
 exact ih0 a0 a1 a2 a3 a4
def types_width.T11 : Bool × List (List Nat × List Nat) := (true, [([], []), ([0], [0]), ([], []), ([2], [2]), ([3], [3]), ([4], [4]), ([5], [5]), ([1, 6], [1, 6]), ([7], [7]), ([8, 6, 0, 1, 2, 3, 4, 5, 6, 7, 8], [8])])
def types_width.B11 : List Nat := [0, 1, 0, 4, 12, 28, 60, 127, 255, 511]
theorem types_width.tab11 : rtab .any (opsOf Tryd.f40 11) = types_width.T11 := by kernel_rfl
theorem types_width.bits11 : waitsOk types_width.T11.2 types_width.B11 = true := by kernel_rfl
set_option maxHeartbeats 8000000 in
set_option maxRecDepth 100000 in
theorem types_width.calls (k : Nat) : ∀ (a0_0 : Int) (a0_1 : Int) (a0_2 : Int) (a0_3 : Int) (A0_4 : Option Addr) (c0_4 : Nat) (l0_4 : List (S24)) (r : Int) (w : World) (hr0_4 : Kd.C k24 w A0_4 l0_4.length l0_4) (hc0_4 : l0_4.length ≤ c0_4) (h : types_width.f k a0_0 a0_1 a0_2 a0_3 l0_4 = some r),
  Calls Tryd.prog 40 #[.agg #[.int .i64 a0_0, .int .i64 a0_1, .int .i64 a0_2, .int .i64 a0_3, .slice A0_4 l0_4.length c0_4]] w fun e w' => e = .returned (.int .i64 r) ∧ Below w.heap.size w w' := by
 induction k using Nat.strongRecOn with
 | _ k ih =>
 intro a0_0 a0_1 a0_2 a0_3 A0_4 c0_4 l0_4 r w hr0_4 hc0_4 h
 cases k with
 | zero => exact absurd h (by simp [types_width.f])
 | succ k =>
 simp only [types_width.f] at h
 have hu24 := Tryd.underlying24
 have HR0_4 := Aside0.mk hr0_4
 have HC0_4 := Aside0.mk hc0_4
 clear hr0_4 hc0_4
 have HB := Aside0.mk (Below.refl w.heap.size w)
 have H : (if a0_0 = 5 then (types_width.l0 k 0 l0_4 (l0_4.length : Int) 0) else (if a0_0 = 6 then (if 0 < (l0_4.length : Int) then ((types_width.f k ((rd_T24 l0_4 0).f0) ((rd_T24 l0_4 0).f1) ((rd_T24 l0_4 0).f2) ((rd_T24 l0_4 0).f3) ((rd_T24 l0_4 0).f4)).bind fun t119 => (some (wrap64 (1 + (wrap64 (a0_3 * t119)))))) else (none)) else (some 1))) = some r := h
 clear h
 by_cases c2 : a0_0 = 5
 ·rw [if_pos c2] at H
  have c2b0 : (a0_0 == 5) = true := beq_iff_eq.mpr c2
  have c2b1 : (a0_0 != 5) = false := bne_eq_false_iff_eq.mpr c2
  clear c2
  have H' := Aside0.mk H
  clear H
  go_enter Tryd.func40, Tryd.ntmps40
  go_wp2_with (first | ((with_reducible refine gate_dst (N := 1) rfl ?_); refine box_event ?hg (N := 1) ?hd (cs := #[.int .i64 a0_0, .int .i64 a0_1, .int .i64 a0_2, .int .i64 a0_3, .slice A0_4 l0_4.length c0_4]) (t := 24) ?hr ?_; (case hd => rfl); (case hg => rfl); (case hr => first | (go_simp; done) | (go_simp; rfl)); intro gb114 hg w3 hbox hb; have BK114 := Aside0.mk (hbox); have GW114 : Aside0 (w.heap.size ≤ gb114) := gw_ hg (below_size bl_); have GE114 := GW114; replace HB := Aside0.mk (below_step bl_ hb); clear hb hbox hg; obtain ⟨hcz4_0, hcz4_1, hcz4_2, hcz4_3, hcz4_4, hfz4_0, hfz4_1, hfz4_2, hfz4_3, hfz4_4⟩ := cf5_ BK114.out))
  go_loopg [3, 13] k (fun kq v3 v13 w' => ∃ (x3_1 : Int) (x13_1 : Int), v3 = .int .i64 x3_1 ∧ v13 = .int .i64 x13_1 ∧ Aside0 (types_width.l0 kq x3_1 l0_4 (l0_4.length : Int) x13_1 = some r) ∧ Aside0 (kq ≤ k) ∧ Aside0 (w'.heap[gb114]? = some (.cells #[.int .i64 a0_0, .int .i64 a0_1, .int .i64 a0_2, .int .i64 a0_3, (.slice A0_4 l0_4.length c0_4)] 24 (0, 0))) ∧ Aside0 (Below w.heap.size w w'))
  case atStart => exact ⟨(0), (0), rs_, rs_, H', ⟨Nat.le_refl _⟩, ⟨bk_⟩, ⟨bl_⟩⟩
  case round =>
   clear H'
   try clear c2
   try clear c2b0
   try clear c2b1
   try clear p2
   try clear c4
   try clear hcz4_0 hcz4_1 hcz4_2 hcz4_3 hcz4_4 hfz4_0 hfz4_1 hfz4_2 hfz4_3 hfz4_4
   obtain ⟨x3_1, x13_1, rfl, rfl, HA, HK1, BK114, HB⟩ := hrel
   cases gk with
   | zero => exact absurd HA.out (by simp [types_width.l0])
   | succ k1 =>
    have H := HA.out
    clear HA
    simp only [types_width.l0] at H
    by_cases c5 : x13_1 < (l0_4.length : Int)
    ·rw [if_pos c5] at H
     have c5b0 : decide (x13_1 < (l0_4.length : Int)) = true := decide_eq_true c5
     clear c5
     by_cases c6 : 0 ≤ x13_1
     ·rw [if_pos c6] at H
      have c6b0 : decide (0 ≤ x13_1) = true := decide_eq_true c6
      clear c6
      by_cases c7 : x13_1 < (l0_4.length : Int)
      ·rw [if_pos c7] at H
       have c7b0 : decide (x13_1 < (l0_4.length : Int)) = true := decide_eq_true c7
       clear c7
       replace H := Option.bind_eq_some_iff.mp H
       obtain ⟨t117, A80, H⟩ := H
       replace H : (types_width.l0 k1 (wrap64 (x3_1 + t117)) l0_4 (l0_4.length : Int) (wrap64 (x13_1 + 1))) = some r := H
       have A8 := Aside0.mk A80
       clear A80
       have H' := Aside0.mk H
       clear H
       have p115 : 0 ≤ (x13_1 : Int) := dt_
       have q115 : x13_1 < (l0_4.length : Int) := dt_
       obtain ⟨ad115, A115_4, c115_4, e115, hx115_0, hx115_1, hx115_2, hx115_3, hx115_4, hl115_4, hi115_4⟩ := at_T24 HR0_4.out x13_1 p115 q115
       cases e115
       replace hx115_0 := (HB.out.cell (World.block_lt_of_cell? w _ hx115_0)).trans hx115_0
       replace hx115_1 := (HB.out.cell (World.block_lt_of_cell? w _ hx115_1)).trans hx115_1
       replace hx115_2 := (HB.out.cell (World.block_lt_of_cell? w _ hx115_2)).trans hx115_2
       replace hx115_3 := (HB.out.cell (World.block_lt_of_cell? w _ hx115_3)).trans hx115_3
       replace hx115_4 := (HB.out.cell (World.block_lt_of_cell? w _ hx115_4)).trans hx115_4
       have HR115_4 := Aside0.mk hi115_4
       have HC115_4 := Aside0.mk hl115_4
       clear hi115_4 hl115_4
       replace p115 := eq_true p115
       replace q115 := eq_true q115
       go_wp2_with (first | ((with_reducible refine gate_dst (N := 5) rfl ?_); refine box_event ?hg (N := 5) ?hd (cs := #[.int .i64 0, .int .i64 0, .int .i64 0, .int .i64 0, .slice none 0 0]) (t := 24) ?hr ?_; (case hd => rfl); (case hg => rfl); (case hr => first | (go_simp; done) | (go_simp; rfl)); intro gb116 hg w9 hbox hb; have BK116 := Aside0.mk (hbox); have GW116 : Aside0 (w.heap.size ≤ gb116) := gw_ hg (below_size bl_); have GE116 := GW116; have NB114_116 := Aside0.mk ((by rw [hg]; exact Nat.ne_of_lt (blk_lt (g := gb114) (o := .cells #[.int .i64 a0_0, .int .i64 a0_1, .int .i64 a0_2, .int .i64 a0_3, .slice (some ad115) l0_4.length c0_4] 24 (0, 0)) bk_) : gb114 ≠ gb116)); have NB116_114 := Aside0.mk ((by rw [hg]; exact Nat.ne_of_gt (blk_lt (g := gb114) (o := .cells #[.int .i64 a0_0, .int .i64 a0_1, .int .i64 a0_2, .int .i64 a0_3, .slice (some ad115) l0_4.length c0_4] 24 (0, 0)) bk_) : gb116 ≠ gb114)); replace BK114 := Aside0.mk (blk_below (g := gb114) (o := .cells #[.int .i64 a0_0, .int .i64 a0_1, .int .i64 a0_2, .int .i64 a0_3, .slice (some ad115) l0_4.length c0_4] 24 (0, 0)) bk_ hb); replace HB := Aside0.mk (below_step bl_ hb); clear hb hbox hg; have hnb10 := NB116_114.out; have hnc10 := NB114_116.out; obtain ⟨hcz11_0, hcz11_1, hcz11_2, hcz11_3, hcz11_4, hfz11_0, hfz11_1, hfz11_2, hfz11_3, hfz11_4⟩ := cf5_ BK116.out) | ((with_reducible refine gate_callee (f := 40) rfl ?_); refine goesL_ (some 19) rfl rfl Tryd.func40 (by kernel_rfl) rfl #[.agg #[.int .i64 ((rd_T24 l0_4 x13_1).f0), .int .i64 ((rd_T24 l0_4 x13_1).f1), .int .i64 ((rd_T24 l0_4 x13_1).f2), .int .i64 ((rd_T24 l0_4 x13_1).f3), .slice A115_4 ((rd_T24 l0_4 x13_1).f4).length c115_4]] rfl (by (try simp only [List.map_toArray, List.map_cons, List.map_nil]); first | done | rfl | (simp only [List.length_drop, List.length_take]; rfl)) ?_; (with_reducible refine (ih k1 (by have := HK1.out; omega) ((rd_T24 l0_4 x13_1).f0) ((rd_T24 l0_4 x13_1).f1) ((rd_T24 l0_4 x13_1).f2) ((rd_T24 l0_4 x13_1).f3) _ _ ((rd_T24 l0_4 x13_1).f4) t117 _ ?side1 ?side2 A8.out).mono ?_); (case side1 => exact Kd.C_below HR115_4.out bl_); (case side2 => exact HC115_4.out); rintro e w12 ⟨rfl, hb⟩; refine ⟨_, rfl, ?_⟩; replace BK114 := Aside0.mk (blk_below (g := gb114) (o := .cells #[.int .i64 a0_0, .int .i64 a0_1, .int .i64 a0_2, .int .i64 a0_3, .slice (some ad115) l0_4.length c0_4] 24 (0, 0)) (by (with_reducible repeat (first | refine blk_drewN ?_ _ | refine blk_drew ?_ | refine blk_alloc ?_ _)); refine blk_far ?_ NB114_116.out _; (with_reducible repeat (first | refine blk_drewN ?_ _ | refine blk_drew ?_ | refine blk_alloc ?_ _)); refine blk_far ?_ NB114_116.out _; (with_reducible repeat (first | refine blk_drewN ?_ _ | refine blk_drew ?_ | refine blk_alloc ?_ _)); refine blk_far ?_ NB114_116.out _; (with_reducible repeat (first | refine blk_drewN ?_ _ | refine blk_drew ?_ | refine blk_alloc ?_ _)); refine blk_far ?_ NB114_116.out _; (with_reducible repeat (first | refine blk_drewN ?_ _ | refine blk_drew ?_ | refine blk_alloc ?_ _)); refine blk_far ?_ NB114_116.out _; (with_reducible repeat (first | refine blk_drewN ?_ _ | refine blk_drew ?_ | refine blk_alloc ?_ _)); exact BK114.out) hb); replace BK116 := Aside0.mk (blk_below (g := gb116) (o := .cells #[.int .i64 ((rd_T24 l0_4 x13_1).f0), .int .i64 ((rd_T24 l0_4 x13_1).f1), .int .i64 ((rd_T24 l0_4 x13_1).f2), .int .i64 ((rd_T24 l0_4 x13_1).f3), .slice A115_4 ((rd_T24 l0_4 x13_1).f4).length c115_4] 24 (0, 0)) (by (with_reducible repeat (first | refine blk_drewN ?_ _ | refine blk_drew ?_ | refine blk_alloc ?_ _)); refine blk_put (cs := #[.int .i64 ((rd_T24 l0_4 x13_1).f0), .int .i64 ((rd_T24 l0_4 x13_1).f1), .int .i64 ((rd_T24 l0_4 x13_1).f2), .int .i64 ((rd_T24 l0_4 x13_1).f3), .slice none 0 0]) ?_ 4 _ rfl; (with_reducible repeat (first | refine blk_drewN ?_ _ | refine blk_drew ?_ | refine blk_alloc ?_ _)); refine blk_put (cs := #[.int .i64 ((rd_T24 l0_4 x13_1).f0), .int .i64 ((rd_T24 l0_4 x13_1).f1), .int .i64 ((rd_T24 l0_4 x13_1).f2), .int .i64 0, .slice none 0 0]) ?_ 3 _ rfl; (with_reducible repeat (first | refine blk_drewN ?_ _ | refine blk_drew ?_ | refine blk_alloc ?_ _)); refine blk_put (cs := #[.int .i64 ((rd_T24 l0_4 x13_1).f0), .int .i64 ((rd_T24 l0_4 x13_1).f1), .int .i64 0, .int .i64 0, .slice none 0 0]) ?_ 2 _ rfl; (with_reducible repeat (first | refine blk_drewN ?_ _ | refine blk_drew ?_ | refine blk_alloc ?_ _)); refine blk_put (cs := #[.int .i64 ((rd_T24 l0_4 x13_1).f0), .int .i64 0, .int .i64 0, .int .i64 0, .slice none 0 0]) ?_ 1 _ rfl; (with_reducible repeat (first | refine blk_drewN ?_ _ | refine blk_drew ?_ | refine blk_alloc ?_ _)); refine blk_put (cs := #[.int .i64 0, .int .i64 0, .int .i64 0, .int .i64 0, .slice none 0 0]) ?_ 0 _ rfl; (with_reducible repeat (first | refine blk_drewN ?_ _ | refine blk_drew ?_ | refine blk_alloc ?_ _)); exact BK116.out) hb); replace HB := Aside0.mk (below_step bl_ hb); (try clear hb); (try clear hb2); (try clear hk); (try clear hi)))
       go_roundg k1
       case measure => have := HK1.out; omega
       case rel => exact ⟨(wrap64 (x3_1 + t117)), (wrap64 (x13_1 + 1)), rs_, rs_, H', ⟨by have := HK1.out; omega⟩, ⟨bk_⟩, ⟨bl_⟩⟩
      ·rw [if_neg c7] at H
       exact absurd H (by simp)
     ·rw [if_neg c6] at H
      exact absurd H (by simp)
    ·rw [if_neg c5] at H
     have c5b0 : decide (x13_1 < (l0_4.length : Int)) = false := decide_eq_false c5
     clear c5
     obtain rfl := Option.some.inj H
     go_wp2
     go_ret
     exact ⟨re_, bl_⟩
 ·rw [if_neg c2] at H
  have c2b0 : (a0_0 == 5) = false := beq_eq_false_iff_ne.mpr c2
  have c2b1 : (a0_0 != 5) = true := bne_iff_ne.mpr c2
  by_cases c13 : a0_0 = 6
  ·rw [if_pos c13] at H
   have c13b0 : (a0_0 == 6) = true := beq_iff_eq.mpr c13
   have c13b1 : (a0_0 != 6) = false := bne_eq_false_iff_eq.mpr c13
   clear c13
   by_cases c14 : 0 < (l0_4.length : Int)
   ·rw [if_pos c14] at H
    have c14b0 : decide (0 < (l0_4.length : Int)) = true := decide_eq_true c14
    have c14b1 : decide (0 < l0_4.length) = true := decide_eq_true (by omega)
    clear c14
    replace H := Option.bind_eq_some_iff.mp H
    obtain ⟨t119, A150, H⟩ := H
    replace H : (some (wrap64 (1 + (wrap64 (a0_3 * t119))))) = some r := H
    have A15 := Aside0.mk A150
    clear A150
    obtain rfl := Option.some.inj H
    go_enter Tryd.func40, Tryd.ntmps40
    try go_wp2_with (first | ((with_reducible refine gate_dst (N := 1) rfl ?_); refine box_event ?hg (N := 1) ?hd (cs := #[.int .i64 a0_0, .int .i64 a0_1, .int .i64 a0_2, .int .i64 a0_3, .slice A0_4 l0_4.length c0_4]) (t := 24) ?hr ?_; (case hd => rfl); (case hg => rfl); (case hr => first | (go_simp; done) | (go_simp; rfl)); intro gb114 hg w16 hbox hb; have BK114 := Aside0.mk (hbox); have GW114 : Aside0 (w.heap.size ≤ gb114) := gw_ hg (below_size bl_); have GE114 := GW114; replace HB := Aside0.mk (below_step bl_ hb); clear hb hbox hg; obtain ⟨hcz17_0, hcz17_1, hcz17_2, hcz17_3, hcz17_4, hfz17_0, hfz17_1, hfz17_2, hfz17_3, hfz17_4⟩ := cf5_ BK114.out))
    replace BK114 := Aside0.mk (blk_drew BK114.out)
    replace HB := Aside0.mk (below_drew1 HB.out)
    have p118 : 0 ≤ (0 : Int) := (by omega)
    have q118 : 0 < (l0_4.length : Int) := dt_
    obtain ⟨ad118, A118_4, c118_4, e118, hx118_0, hx118_1, hx118_2, hx118_3, hx118_4, hl118_4, hi118_4⟩ := at_T24 HR0_4.out 0 p118 q118
    have hw118_4 := hx118_4
    (try rw [show ((0 : Int)).toNat = 0 from rfl] at hw118_4)
    (try rw [show 0 * 5 = 0 from rfl] at hw118_4)
    (try rw [Addr.add_zero'] at hw118_4)
    have hw118_3 := hx118_3
    (try rw [show ((0 : Int)).toNat = 0 from rfl] at hw118_3)
    (try rw [show 0 * 5 = 0 from rfl] at hw118_3)
    (try rw [Addr.add_zero'] at hw118_3)
    have hw118_2 := hx118_2
    (try rw [show ((0 : Int)).toNat = 0 from rfl] at hw118_2)
    (try rw [show 0 * 5 = 0 from rfl] at hw118_2)
    (try rw [Addr.add_zero'] at hw118_2)
    have hw118_1 := hx118_1
    (try rw [show ((0 : Int)).toNat = 0 from rfl] at hw118_1)
    (try rw [show 0 * 5 = 0 from rfl] at hw118_1)
    (try rw [Addr.add_zero'] at hw118_1)
    have hw118_0 := hx118_0
    (try rw [show ((0 : Int)).toNat = 0 from rfl] at hw118_0)
    (try rw [show 0 * 5 = 0 from rfl] at hw118_0)
    (try rw [Addr.add_zero'] at hw118_0)
    cases e118
    have qi118 : (0 < l0_4.length) = True := eq_true (by omega)
    (try rw [show ((0 : Int)).toNat = 0 from rfl] at hx118_0)
    (try rw [show 0 * 5 = 0 from rfl] at hx118_0)
    (try rw [Addr.add_zero'] at hx118_0)
    (try rw [show ((0 : Int)).toNat = 0 from rfl] at hx118_1)
    (try rw [show 0 * 5 = 0 from rfl] at hx118_1)
    (try rw [Addr.add_zero'] at hx118_1)
    (try rw [show ((0 : Int)).toNat = 0 from rfl] at hx118_2)
    (try rw [show 0 * 5 = 0 from rfl] at hx118_2)
    (try rw [Addr.add_zero'] at hx118_2)
    (try rw [show ((0 : Int)).toNat = 0 from rfl] at hx118_3)
    (try rw [show 0 * 5 = 0 from rfl] at hx118_3)
    (try rw [Addr.add_zero'] at hx118_3)
    (try rw [show ((0 : Int)).toNat = 0 from rfl] at hx118_4)
    (try rw [show 0 * 5 = 0 from rfl] at hx118_4)
    (try rw [Addr.add_zero'] at hx118_4)
    replace hx118_0 := (HB.out.cell (World.block_lt_of_cell? w _ hx118_0)).trans hx118_0
    replace hx118_1 := (HB.out.cell (World.block_lt_of_cell? w _ hx118_1)).trans hx118_1
    replace hx118_2 := (HB.out.cell (World.block_lt_of_cell? w _ hx118_2)).trans hx118_2
    replace hx118_3 := (HB.out.cell (World.block_lt_of_cell? w _ hx118_3)).trans hx118_3
    replace hx118_4 := (HB.out.cell (World.block_lt_of_cell? w _ hx118_4)).trans hx118_4
    have HR118_4 := Aside0.mk hi118_4
    have HC118_4 := Aside0.mk hl118_4
    clear hi118_4 hl118_4
    replace p118 := eq_true p118
    replace q118 := eq_true q118
    refine start_ (n := 10) (S := fun w' => w'.cell? ⟨gb114, 0, none⟩ = some (.int .i64 a0_0) ∧ w'.cell? ⟨gb114, 1, none⟩ = some (.int .i64 a0_1) ∧ w'.cell? ⟨gb114, 2, none⟩ = some (.int .i64 a0_2) ∧ w'.cell? ⟨gb114, 3, none⟩ = some (.int .i64 a0_3) ∧ w'.cell? ⟨gb114, 4, none⟩ = some (.slice (some ad118) l0_4.length c0_4) ∧ w'.cell? ad118 = some (.int .i64 ((rd_T24 l0_4 0).f0)) ∧ w'.cell? ⟨ad118.block, ad118.off + 1, none⟩ = some (.int .i64 ((rd_T24 l0_4 0).f1)) ∧ w'.cell? ⟨ad118.block, ad118.off + 2, none⟩ = some (.int .i64 ((rd_T24 l0_4 0).f2)) ∧ w'.cell? ⟨ad118.block, ad118.off + 3, none⟩ = some (.int .i64 ((rd_T24 l0_4 0).f3)) ∧ w'.cell? ⟨ad118.block, ad118.off + 4, none⟩ = some (.slice A118_4 ((rd_T24 l0_4 0).f4).length c118_4)) (ds := []) #[false, false, false, false, false, false, false, false, false, false] (by kernel_rfl) rfl rfl ⟨(blk_cell BK114.out 0).trans rfl, (blk_cell BK114.out 1).trans rfl, (blk_cell BK114.out 2).trans rfl, (blk_cell BK114.out 3).trans rfl, (blk_cell BK114.out 4).trans rfl, ((HB.out.cell (World.block_lt_of_cell? w _ hw118_0)).trans hw118_0), ((HB.out.cell (World.block_lt_of_cell? w _ hw118_1)).trans hw118_1), ((HB.out.cell (World.block_lt_of_cell? w _ hw118_2)).trans hw118_2), ((HB.out.cell (World.block_lt_of_cell? w _ hw118_3)).trans hw118_3), ((HB.out.cell (World.block_lt_of_cell? w _ hw118_4)).trans hw118_4)⟩ (fun hHeld => ?_); refine with_tabW types_width.tab11 types_width.bits11 (fun HT_ HW_ => ?_)
    generalize w16.drew = w18 at BK114 HB HR118_4 hx118_0 hx118_1 hx118_2 hx118_3 hx118_4 hHeld ⊢
    refine pure_ (i := 0) (N := some 25) (v := ?_) (a' := ?_) #[true, false, false, false, false, false, false, false, false, false] rfl rfl (any_of HT_.out (by kernel_rfl)) (fun _ _ _ h => h) (Or.inl ⟨by rfl, ?_⟩) ?_ ?_
    rotate_left
    ·intro w'
     go_simp
     with_reducible rfl
    rotate_left
    ·simp only [Act.put, List.setIfInBounds_toArray, List.set_cons_zero, List.set_cons_succ, i64_w, i32_w]
     rfl
    refine pure_ (i := 2) (N := some 27) (v := ?_) (a' := ?_) #[true, false, true, false, false, false, false, false, false, false] rfl rfl (any_of HT_.out (by kernel_rfl)) (fun _ _ _ h => h) (Or.inl ⟨by rfl, ?_⟩) ?_ ?_
    rotate_left
    ·intro w'
     go_simp
     with_reducible rfl
    rotate_left
    ·simp only [Act.put, List.setIfInBounds_toArray, List.set_cons_zero, List.set_cons_succ, i64_w, i32_w]
     rfl
    refine take_ (i := 1) (N := some 26) (v := ?_) (a' := ?_) #[true, true, true, false, false, false, false, false, false, false] rfl rfl (take_ofW HT_.out HW_.out (by kernel_rfl)) (fun _ _ _ h => h) (Or.inl ⟨by rfl, ?_⟩) hHeld ?_ ?_
    rotate_left
    ·rintro w' ⟨s0, s1, s2, s3, s4, s5, s6, s7, s8, s9⟩
     go_simp
     with_reducible rfl
    rotate_left
    ·simp only [Act.put, List.setIfInBounds_toArray, List.set_cons_zero, List.set_cons_succ, i64_w, i32_w]
     rfl
    refine take_ (i := 3) (N := some 28) (v := ?_) (a' := ?_) #[true, true, true, true, false, false, false, false, false, false] rfl rfl (take_ofW HT_.out HW_.out (by kernel_rfl)) (fun _ _ _ h => h) (Or.inl ⟨by rfl, ?_⟩) hHeld ?_ ?_
    rotate_left
    ·rintro w' ⟨s0, s1, s2, s3, s4, s5, s6, s7, s8, s9⟩
     go_simp
     with_reducible rfl
    rotate_left
    ·simp only [Act.put, List.setIfInBounds_toArray, List.set_cons_zero, List.set_cons_succ, i64_w, i32_w]
     rfl
    refine pure_ (i := 4) (N := some 29) (v := ?_) (a' := ?_) #[true, true, true, true, true, false, false, false, false, false] rfl rfl (any_of HT_.out (by kernel_rfl)) (fun _ _ _ h => h) (Or.inl ⟨by rfl, ?_⟩) ?_ ?_
    rotate_left
    ·intro w'
     go_simp
     with_reducible rfl
    rotate_left
    ·simp only [Act.put, List.setIfInBounds_toArray, List.set_cons_zero, List.set_cons_succ, i64_w, i32_w]
     rfl
    refine take_ (i := 5) (N := some 30) (v := ?_) (a' := ?_) #[true, true, true, true, true, true, false, false, false, false] rfl rfl (take_ofW HT_.out HW_.out (by kernel_rfl)) (fun _ _ _ h => h) (Or.inl ⟨by rfl, ?_⟩) hHeld ?_ ?_
    rotate_left
    ·rintro w' ⟨s0, s1, s2, s3, s4, s5, s6, s7, s8, s9⟩
     go_simp
     with_reducible rfl
    rotate_left
    ·simp only [Act.put, List.setIfInBounds_toArray, List.set_cons_zero, List.set_cons_succ, i64_w, i32_w]
     rfl
    refine one_ (i := 6) (N := some 31) #[true, true, true, true, true, true, true, false, false, false] rfl rfl (one_of HT_.out (by kernel_rfl)) (by decide) (fun K hK => ?_)
    refine goes_ Tryd.func40 (by kernel_rfl) rfl #[.agg #[.int .i64 ((rd_T24 l0_4 0).f0), .int .i64 ((rd_T24 l0_4 0).f1), .int .i64 ((rd_T24 l0_4 0).f2), .int .i64 ((rd_T24 l0_4 0).f3), .slice A118_4 ((rd_T24 l0_4 0).f4).length c118_4]] (by rfl) rfl rfl (by (try simp only [List.map_toArray, List.map_cons, List.map_nil]); first | done | rfl | (simp only [List.length_drop, List.length_take]; rfl)) ?_
    with_reducible refine (ih k (by omega) ((rd_T24 l0_4 0).f0) ((rd_T24 l0_4 0).f1) ((rd_T24 l0_4 0).f2) ((rd_T24 l0_4 0).f3) _ _ ((rd_T24 l0_4 0).f4) t119 _ ?side1 ?side2 A15.out).mono ?_
    (case side1 => repeat (first | exact (Kd.C_below HR118_4.out HB.out) | (with_reducible refine Kd.C_alloc ?_ _) | (with_reducible refine Kd.C_drewN ?_ _) | (with_reducible refine Kd.C_drew ?_)))
    (case side2 => exact HC118_4.out)
    rintro e w19 ⟨rfl, hb⟩
    refine ⟨_, rfl, ?_⟩
    replace BK114 := Aside0.mk (blk_below (g := gb114) (o := .cells #[.int .i64 a0_0, .int .i64 a0_1, .int .i64 a0_2, .int .i64 a0_3, .slice (some ad118) l0_4.length c0_4] 24 (0, 0)) bk_ hb)
    replace HB := Aside0.mk (below_step bl_ hb)
    (try clear hb)
    (try clear hb2)
    (try clear hk)
    (try clear hi)
    refine hK.out _ _ ⟨(blk_cell BK114.out 0).trans rfl, (blk_cell BK114.out 1).trans rfl, (blk_cell BK114.out 2).trans rfl, (blk_cell BK114.out 3).trans rfl, (blk_cell BK114.out 4).trans rfl, ((HB.out.cell (World.block_lt_of_cell? w _ hw118_0)).trans hw118_0), ((HB.out.cell (World.block_lt_of_cell? w _ hw118_1)).trans hw118_1), ((HB.out.cell (World.block_lt_of_cell? w _ hw118_2)).trans hw118_2), ((HB.out.cell (World.block_lt_of_cell? w _ hw118_3)).trans hw118_3), ((HB.out.cell (World.block_lt_of_cell? w _ hw118_4)).trans hw118_4)⟩ (fun hHeld => ?_)
    clear hK K
    refine norm_ (a' := ?_) ?_ ?_
    rotate_left
    ·show Act.put _ (some 31) _ = _
     simp only [Act.put, List.setIfInBounds_toArray, List.set_cons_zero, List.set_cons_succ, i64_w, i32_w]
     rfl
    refine pure_ (i := 7) (N := some 32) (v := ?_) (a' := ?_) #[true, true, true, true, true, true, true, true, false, false] rfl rfl (any_of HT_.out (by kernel_rfl)) (fun _ _ _ h => h) (Or.inl ⟨by rfl, ?_⟩) ?_ ?_
    rotate_left
    ·intro w'
     go_simp
     with_reducible rfl
    rotate_left
    ·simp only [Act.put, List.setIfInBounds_toArray, List.set_cons_zero, List.set_cons_succ, i64_w, i32_w]
     rfl
    refine pure_ (i := 8) (N := some 33) (v := ?_) (a' := ?_) #[true, true, true, true, true, true, true, true, true, false] rfl rfl (any_of HT_.out (by kernel_rfl)) (fun _ _ _ h => h) (Or.inl ⟨by rfl, ?_⟩) ?_ ?_
    rotate_left
    ·intro w'
     go_simp
     with_reducible rfl
    rotate_left
    ·simp only [Act.put, List.setIfInBounds_toArray, List.set_cons_zero, List.set_cons_succ, i64_w, i32_w]
     rfl
    refine pure_ (i := 9) (N := some 2) (v := ?_) (a' := ?_) #[true, true, true, true, true, true, true, true, true, true] rfl rfl (any_of HT_.out (by kernel_rfl)) (fun _ _ _ h => h) (Or.inl ⟨by rfl, ?_⟩) ?_ ?_
    rotate_left
    ·intro w'
     go_simp
     with_reducible rfl
    rotate_left
    ·simp only [Act.put, List.setIfInBounds_toArray, List.set_cons_zero, List.set_cons_succ, i64_w, i32_w]
     rfl
    refine done_ (done_of HT_.out (by kernel_rfl)) ?_
    try go_wp2
    go_ret
    exact ⟨re_, bl_⟩
   ·rw [if_neg c14] at H
    exact absurd H (by simp)
  ·rw [if_neg c13] at H
   have c13b0 : (a0_0 == 6) = false := beq_eq_false_iff_ne.mpr c13
   have c13b1 : (a0_0 != 6) = true := bne_iff_ne.mpr c13
   obtain rfl := Option.some.inj H
   go_enter Tryd.func40, Tryd.ntmps40
   go_wp2_with (first | ((with_reducible refine gate_dst (N := 1) rfl ?_); refine box_event ?hg (N := 1) ?hd (cs := #[.int .i64 a0_0, .int .i64 a0_1, .int .i64 a0_2, .int .i64 a0_3, .slice A0_4 l0_4.length c0_4]) (t := 24) ?hr ?_; (case hd => rfl); (case hg => rfl); (case hr => first | (go_simp; done) | (go_simp; rfl)); intro gb114 hg w20 hbox hb; have BK114 := Aside0.mk (hbox); have GW114 : Aside0 (w.heap.size ≤ gb114) := gw_ hg (below_size bl_); have GE114 := GW114; replace HB := Aside0.mk (below_step bl_ hb); clear hb hbox hg; obtain ⟨hcz21_0, hcz21_1, hcz21_2, hcz21_3, hcz21_4, hfz21_0, hfz21_1, hfz21_2, hfz21_3, hfz21_4⟩ := cf5_ BK114.out))
   go_ret
   exact ⟨re_, bl_⟩

/-! ### types_Validate: function 12 -/
def types_Validate.f (k : Nat) (a0_0 : Int) (a0_1 : Int) (a0_2 : Int) (a0_3 : Int) (l0_4 : List (S24)) : Option (Int) := (types_depth.f k a0_0 a0_1 a0_2 a0_3 l0_4).bind fun t121 => (if t121 > 10 then (some 9) else ((types_fault.f k a0_0 a0_1 a0_2 a0_3 l0_4).bind fun t122 => (if t122 = 0 then ((types_width.f k a0_0 a0_1 a0_2 a0_3 l0_4).bind fun t123 => (if t123 > 24 then (some 9) else (some 0))) else (some t122))))
theorem types_Validate.mono : ∀ a0 a1 a2 a3 a4 k, LeO (types_Validate.f k a0 a1 a2 a3 a4) (types_Validate.f (k + 1) a0 a1 a2 a3 a4) := by
 intro a0 a1 a2 a3 a4 k
 unfold types_Validate.f
 repeat' first
   | (with_reducible exact types_depth.mono _ _ _ _ _ _)
   | (with_reducible exact types_fault.mono _ _ _ _ _ _)
   | (with_reducible exact types_width.mono _ _ _ _ _ _)
   | (with_reducible exact LeO.refl _)
   | (with_reducible exact LeO.none _)
   | (with_reducible refine LeO.ite ?_ ?_)
   | (with_reducible refine LeO.bind ?_ (fun _ => ?_))
   | exact types_depth.mono _ _ _ _ _ _
   | exact types_fault.mono _ _ _ _ _ _
   | exact types_width.mono _ _ _ _ _ _
   | exact LeO.none _
   | refine LeO.ite ?_ ?_
   | refine LeO.bind ?_ (fun _ => ?_)
set_option maxHeartbeats 8000000 in
set_option maxRecDepth 100000 in
theorem types_Validate.calls (k : Nat) (a0_0 : Int) (a0_1 : Int) (a0_2 : Int) (a0_3 : Int) (A0_4 : Option Addr) (c0_4 : Nat) (l0_4 : List (S24)) (r : Int) (w : World) (hr0_4 : Kd.C k24 w A0_4 l0_4.length l0_4) (hc0_4 : l0_4.length ≤ c0_4) (h : types_Validate.f k a0_0 a0_1 a0_2 a0_3 l0_4 = some r) :
  Calls Tryd.prog 12 #[.agg #[.int .i64 a0_0, .int .i64 a0_1, .int .i64 a0_2, .int .i64 a0_3, .slice A0_4 l0_4.length c0_4]] w fun e w' => e = .returned (.int .i64 r) ∧ Below w.heap.size w w' := by
 have hu24 := Tryd.underlying24
 have HR0_4 := Aside0.mk hr0_4
 have HC0_4 := Aside0.mk hc0_4
 clear hr0_4 hc0_4
 have HB := Aside0.mk (Below.refl w.heap.size w)
 have H : ((types_depth.f k a0_0 a0_1 a0_2 a0_3 l0_4).bind fun t121 => (if t121 > 10 then (some 9) else ((types_fault.f k a0_0 a0_1 a0_2 a0_3 l0_4).bind fun t122 => (if t122 = 0 then ((types_width.f k a0_0 a0_1 a0_2 a0_3 l0_4).bind fun t123 => (if t123 > 24 then (some 9) else (some 0))) else (some t122))))) = some r := h
 clear h
 replace H := Option.bind_eq_some_iff.mp H
 obtain ⟨t121, A20, H⟩ := H
 replace H : (if t121 > 10 then (some 9) else ((types_fault.f k a0_0 a0_1 a0_2 a0_3 l0_4).bind fun t122 => (if t122 = 0 then ((types_width.f k a0_0 a0_1 a0_2 a0_3 l0_4).bind fun t123 => (if t123 > 24 then (some 9) else (some 0))) else (some t122)))) = some r := H
 have A2 := Aside0.mk A20
 clear A20
 by_cases c3 : t121 > 10
 ·rw [if_pos c3] at H
  have c3b0 : decide (10 < t121) = true := decide_eq_true c3
  clear c3
  obtain rfl := Option.some.inj H
  go_enter Tryd.func12, Tryd.ntmps12
  go_wp2_with (first | ((with_reducible refine gate_dst (N := 1) rfl ?_); refine box_event ?hg (N := 1) ?hd (cs := #[.int .i64 a0_0, .int .i64 a0_1, .int .i64 a0_2, .int .i64 a0_3, .slice A0_4 l0_4.length c0_4]) (t := 24) ?hr ?_; (case hd => rfl); (case hg => rfl); (case hr => first | (go_simp; done) | (go_simp; rfl)); intro gb120 hg w4 hbox hb; have BK120 := Aside0.mk (hbox); have GW120 : Aside0 (w.heap.size ≤ gb120) := gw_ hg (below_size bl_); have GE120 := GW120; replace HB := Aside0.mk (below_step bl_ hb); clear hb hbox hg; obtain ⟨hcz5_0, hcz5_1, hcz5_2, hcz5_3, hcz5_4, hfz5_0, hfz5_1, hfz5_2, hfz5_3, hfz5_4⟩ := cf5_ BK120.out) | ((with_reducible refine gate_callee (f := 38) rfl ?_); refine goesL_ (some 5) rfl rfl Tryd.func38 (by kernel_rfl) rfl #[.agg #[.int .i64 a0_0, .int .i64 a0_1, .int .i64 a0_2, .int .i64 a0_3, .slice A0_4 l0_4.length c0_4]] rfl (by (try simp only [List.map_toArray, List.map_cons, List.map_nil]); first | done | rfl | (simp only [List.length_drop, List.length_take]; rfl)) ?_; (with_reducible refine (types_depth.calls k a0_0 a0_1 a0_2 a0_3 _ _ l0_4 t121 _ ?side1 ?side2 A2.out).mono ?_); (case side1 => repeat (first | exact (Kd.C_below HR0_4.out HB.out) | (with_reducible refine Kd.C_alloc ?_ _) | (with_reducible refine Kd.C_drewN ?_ _) | (with_reducible refine Kd.C_drew ?_))); (case side2 => exact HC0_4.out); rintro e w6 ⟨rfl, hb⟩; refine ⟨_, rfl, ?_⟩; replace BK120 := Aside0.mk (blk_below (g := gb120) (o := .cells #[.int .i64 a0_0, .int .i64 a0_1, .int .i64 a0_2, .int .i64 a0_3, .slice A0_4 l0_4.length c0_4] 24 (0, 0)) bk_ hb); replace HB := Aside0.mk (below_step bl_ hb); (try clear hb); (try clear hb2); (try clear hk); (try clear hi)))
  go_ret
  exact ⟨re_, bl_⟩
 ·rw [if_neg c3] at H
  have c3b0 : decide (10 < t121) = false := decide_eq_false c3
  clear c3
  replace H := Option.bind_eq_some_iff.mp H
  obtain ⟨t122, A70, H⟩ := H
  replace H : (if t122 = 0 then ((types_width.f k a0_0 a0_1 a0_2 a0_3 l0_4).bind fun t123 => (if t123 > 24 then (some 9) else (some 0))) else (some t122)) = some r := H
  have A7 := Aside0.mk A70
  clear A70
  by_cases c8 : t122 = 0
  ·rw [if_pos c8] at H
   have c8b0 : (t122 == 0) = true := beq_iff_eq.mpr c8
   have c8b1 : (t122 != 0) = false := bne_eq_false_iff_eq.mpr c8
   clear c8
   replace H := Option.bind_eq_some_iff.mp H
   obtain ⟨t123, A90, H⟩ := H
   replace H : (if t123 > 24 then (some 9) else (some 0)) = some r := H
   have A9 := Aside0.mk A90
   clear A90
   by_cases c10 : t123 > 24
   ·rw [if_pos c10] at H
    have c10b0 : decide (24 < t123) = true := decide_eq_true c10
    clear c10
    obtain rfl := Option.some.inj H
    go_enter Tryd.func12, Tryd.ntmps12
    go_wp2_with (first | ((with_reducible refine gate_dst (N := 1) rfl ?_); refine box_event ?hg (N := 1) ?hd (cs := #[.int .i64 a0_0, .int .i64 a0_1, .int .i64 a0_2, .int .i64 a0_3, .slice A0_4 l0_4.length c0_4]) (t := 24) ?hr ?_; (case hd => rfl); (case hg => rfl); (case hr => first | (go_simp; done) | (go_simp; rfl)); intro gb120 hg w11 hbox hb; have BK120 := Aside0.mk (hbox); have GW120 : Aside0 (w.heap.size ≤ gb120) := gw_ hg (below_size bl_); have GE120 := GW120; replace HB := Aside0.mk (below_step bl_ hb); clear hb hbox hg; obtain ⟨hcz12_0, hcz12_1, hcz12_2, hcz12_3, hcz12_4, hfz12_0, hfz12_1, hfz12_2, hfz12_3, hfz12_4⟩ := cf5_ BK120.out) | ((with_reducible refine gate_callee (f := 38) rfl ?_); refine goesL_ (some 5) rfl rfl Tryd.func38 (by kernel_rfl) rfl #[.agg #[.int .i64 a0_0, .int .i64 a0_1, .int .i64 a0_2, .int .i64 a0_3, .slice A0_4 l0_4.length c0_4]] rfl (by (try simp only [List.map_toArray, List.map_cons, List.map_nil]); first | done | rfl | (simp only [List.length_drop, List.length_take]; rfl)) ?_; (with_reducible refine (types_depth.calls k a0_0 a0_1 a0_2 a0_3 _ _ l0_4 t121 _ ?side1 ?side2 A2.out).mono ?_); (case side1 => repeat (first | exact (Kd.C_below HR0_4.out HB.out) | (with_reducible refine Kd.C_alloc ?_ _) | (with_reducible refine Kd.C_drewN ?_ _) | (with_reducible refine Kd.C_drew ?_))); (case side2 => exact HC0_4.out); rintro e w13 ⟨rfl, hb⟩; refine ⟨_, rfl, ?_⟩; replace BK120 := Aside0.mk (blk_below (g := gb120) (o := .cells #[.int .i64 a0_0, .int .i64 a0_1, .int .i64 a0_2, .int .i64 a0_3, .slice A0_4 l0_4.length c0_4] 24 (0, 0)) bk_ hb); replace HB := Aside0.mk (below_step bl_ hb); (try clear hb); (try clear hb2); (try clear hk); (try clear hi); obtain ⟨hcz14_0, hcz14_1, hcz14_2, hcz14_3, hcz14_4, hfz14_0, hfz14_1, hfz14_2, hfz14_3, hfz14_4⟩ := cf5_ BK120.out) | ((with_reducible refine gate_callee (f := 39) rfl ?_); refine goesL_ (some 8) rfl rfl Tryd.func39 (by kernel_rfl) rfl #[.agg #[.int .i64 a0_0, .int .i64 a0_1, .int .i64 a0_2, .int .i64 a0_3, .slice A0_4 l0_4.length c0_4]] rfl (by (try simp only [List.map_toArray, List.map_cons, List.map_nil]); first | done | rfl | (simp only [List.length_drop, List.length_take]; rfl)) ?_; (with_reducible refine (types_fault.calls k a0_0 a0_1 a0_2 a0_3 _ _ l0_4 t122 _ ?side1 ?side2 A7.out).mono ?_); (case side1 => repeat (first | exact (Kd.C_below HR0_4.out HB.out) | (with_reducible refine Kd.C_alloc ?_ _) | (with_reducible refine Kd.C_drewN ?_ _) | (with_reducible refine Kd.C_drew ?_))); (case side2 => exact HC0_4.out); rintro e w15 ⟨rfl, hb⟩; refine ⟨_, rfl, ?_⟩; replace BK120 := Aside0.mk (blk_below (g := gb120) (o := .cells #[.int .i64 a0_0, .int .i64 a0_1, .int .i64 a0_2, .int .i64 a0_3, .slice A0_4 l0_4.length c0_4] 24 (0, 0)) bk_ hb); replace HB := Aside0.mk (below_step bl_ hb); (try clear hb); (try clear hb2); (try clear hk); (try clear hi); obtain ⟨hcz16_0, hcz16_1, hcz16_2, hcz16_3, hcz16_4, hfz16_0, hfz16_1, hfz16_2, hfz16_3, hfz16_4⟩ := cf5_ BK120.out) | ((with_reducible refine gate_callee (f := 40) rfl ?_); refine goesL_ (some 13) rfl rfl Tryd.func40 (by kernel_rfl) rfl #[.agg #[.int .i64 a0_0, .int .i64 a0_1, .int .i64 a0_2, .int .i64 a0_3, .slice A0_4 l0_4.length c0_4]] rfl (by (try simp only [List.map_toArray, List.map_cons, List.map_nil]); first | done | rfl | (simp only [List.length_drop, List.length_take]; rfl)) ?_; (with_reducible refine (types_width.calls k a0_0 a0_1 a0_2 a0_3 _ _ l0_4 t123 _ ?side1 ?side2 A9.out).mono ?_); (case side1 => repeat (first | exact (Kd.C_below HR0_4.out HB.out) | (with_reducible refine Kd.C_alloc ?_ _) | (with_reducible refine Kd.C_drewN ?_ _) | (with_reducible refine Kd.C_drew ?_))); (case side2 => exact HC0_4.out); rintro e w17 ⟨rfl, hb⟩; refine ⟨_, rfl, ?_⟩; replace BK120 := Aside0.mk (blk_below (g := gb120) (o := .cells #[.int .i64 a0_0, .int .i64 a0_1, .int .i64 a0_2, .int .i64 a0_3, .slice A0_4 l0_4.length c0_4] 24 (0, 0)) bk_ hb); replace HB := Aside0.mk (below_step bl_ hb); (try clear hb); (try clear hb2); (try clear hk); (try clear hi)))
    go_ret
    exact ⟨re_, bl_⟩
   ·rw [if_neg c10] at H
    have c10b0 : decide (24 < t123) = false := decide_eq_false c10
    clear c10
    obtain rfl := Option.some.inj H
    go_enter Tryd.func12, Tryd.ntmps12
    go_wp2_with (first | ((with_reducible refine gate_dst (N := 1) rfl ?_); refine box_event ?hg (N := 1) ?hd (cs := #[.int .i64 a0_0, .int .i64 a0_1, .int .i64 a0_2, .int .i64 a0_3, .slice A0_4 l0_4.length c0_4]) (t := 24) ?hr ?_; (case hd => rfl); (case hg => rfl); (case hr => first | (go_simp; done) | (go_simp; rfl)); intro gb120 hg w18 hbox hb; have BK120 := Aside0.mk (hbox); have GW120 : Aside0 (w.heap.size ≤ gb120) := gw_ hg (below_size bl_); have GE120 := GW120; replace HB := Aside0.mk (below_step bl_ hb); clear hb hbox hg; obtain ⟨hcz19_0, hcz19_1, hcz19_2, hcz19_3, hcz19_4, hfz19_0, hfz19_1, hfz19_2, hfz19_3, hfz19_4⟩ := cf5_ BK120.out) | ((with_reducible refine gate_callee (f := 38) rfl ?_); refine goesL_ (some 5) rfl rfl Tryd.func38 (by kernel_rfl) rfl #[.agg #[.int .i64 a0_0, .int .i64 a0_1, .int .i64 a0_2, .int .i64 a0_3, .slice A0_4 l0_4.length c0_4]] rfl (by (try simp only [List.map_toArray, List.map_cons, List.map_nil]); first | done | rfl | (simp only [List.length_drop, List.length_take]; rfl)) ?_; (with_reducible refine (types_depth.calls k a0_0 a0_1 a0_2 a0_3 _ _ l0_4 t121 _ ?side1 ?side2 A2.out).mono ?_); (case side1 => repeat (first | exact (Kd.C_below HR0_4.out HB.out) | (with_reducible refine Kd.C_alloc ?_ _) | (with_reducible refine Kd.C_drewN ?_ _) | (with_reducible refine Kd.C_drew ?_))); (case side2 => exact HC0_4.out); rintro e w20 ⟨rfl, hb⟩; refine ⟨_, rfl, ?_⟩; replace BK120 := Aside0.mk (blk_below (g := gb120) (o := .cells #[.int .i64 a0_0, .int .i64 a0_1, .int .i64 a0_2, .int .i64 a0_3, .slice A0_4 l0_4.length c0_4] 24 (0, 0)) bk_ hb); replace HB := Aside0.mk (below_step bl_ hb); (try clear hb); (try clear hb2); (try clear hk); (try clear hi); obtain ⟨hcz21_0, hcz21_1, hcz21_2, hcz21_3, hcz21_4, hfz21_0, hfz21_1, hfz21_2, hfz21_3, hfz21_4⟩ := cf5_ BK120.out) | ((with_reducible refine gate_callee (f := 39) rfl ?_); refine goesL_ (some 8) rfl rfl Tryd.func39 (by kernel_rfl) rfl #[.agg #[.int .i64 a0_0, .int .i64 a0_1, .int .i64 a0_2, .int .i64 a0_3, .slice A0_4 l0_4.length c0_4]] rfl (by (try simp only [List.map_toArray, List.map_cons, List.map_nil]); first | done | rfl | (simp only [List.length_drop, List.length_take]; rfl)) ?_; (with_reducible refine (types_fault.calls k a0_0 a0_1 a0_2 a0_3 _ _ l0_4 t122 _ ?side1 ?side2 A7.out).mono ?_); (case side1 => repeat (first | exact (Kd.C_below HR0_4.out HB.out) | (with_reducible refine Kd.C_alloc ?_ _) | (with_reducible refine Kd.C_drewN ?_ _) | (with_reducible refine Kd.C_drew ?_))); (case side2 => exact HC0_4.out); rintro e w22 ⟨rfl, hb⟩; refine ⟨_, rfl, ?_⟩; replace BK120 := Aside0.mk (blk_below (g := gb120) (o := .cells #[.int .i64 a0_0, .int .i64 a0_1, .int .i64 a0_2, .int .i64 a0_3, .slice A0_4 l0_4.length c0_4] 24 (0, 0)) bk_ hb); replace HB := Aside0.mk (below_step bl_ hb); (try clear hb); (try clear hb2); (try clear hk); (try clear hi); obtain ⟨hcz23_0, hcz23_1, hcz23_2, hcz23_3, hcz23_4, hfz23_0, hfz23_1, hfz23_2, hfz23_3, hfz23_4⟩ := cf5_ BK120.out) | ((with_reducible refine gate_callee (f := 40) rfl ?_); refine goesL_ (some 13) rfl rfl Tryd.func40 (by kernel_rfl) rfl #[.agg #[.int .i64 a0_0, .int .i64 a0_1, .int .i64 a0_2, .int .i64 a0_3, .slice A0_4 l0_4.length c0_4]] rfl (by (try simp only [List.map_toArray, List.map_cons, List.map_nil]); first | done | rfl | (simp only [List.length_drop, List.length_take]; rfl)) ?_; (with_reducible refine (types_width.calls k a0_0 a0_1 a0_2 a0_3 _ _ l0_4 t123 _ ?side1 ?side2 A9.out).mono ?_); (case side1 => repeat (first | exact (Kd.C_below HR0_4.out HB.out) | (with_reducible refine Kd.C_alloc ?_ _) | (with_reducible refine Kd.C_drewN ?_ _) | (with_reducible refine Kd.C_drew ?_))); (case side2 => exact HC0_4.out); rintro e w24 ⟨rfl, hb⟩; refine ⟨_, rfl, ?_⟩; replace BK120 := Aside0.mk (blk_below (g := gb120) (o := .cells #[.int .i64 a0_0, .int .i64 a0_1, .int .i64 a0_2, .int .i64 a0_3, .slice A0_4 l0_4.length c0_4] 24 (0, 0)) bk_ hb); replace HB := Aside0.mk (below_step bl_ hb); (try clear hb); (try clear hb2); (try clear hk); (try clear hi)))
    go_ret
    exact ⟨re_, bl_⟩
  ·rw [if_neg c8] at H
   have c8b0 : (t122 == 0) = false := beq_eq_false_iff_ne.mpr c8
   have c8b1 : (t122 != 0) = true := bne_iff_ne.mpr c8
   obtain rfl := Option.some.inj H
   go_enter Tryd.func12, Tryd.ntmps12
   go_wp2_with (first | ((with_reducible refine gate_dst (N := 1) rfl ?_); refine box_event ?hg (N := 1) ?hd (cs := #[.int .i64 a0_0, .int .i64 a0_1, .int .i64 a0_2, .int .i64 a0_3, .slice A0_4 l0_4.length c0_4]) (t := 24) ?hr ?_; (case hd => rfl); (case hg => rfl); (case hr => first | (go_simp; done) | (go_simp; rfl)); intro gb120 hg w25 hbox hb; have BK120 := Aside0.mk (hbox); have GW120 : Aside0 (w.heap.size ≤ gb120) := gw_ hg (below_size bl_); have GE120 := GW120; replace HB := Aside0.mk (below_step bl_ hb); clear hb hbox hg; obtain ⟨hcz26_0, hcz26_1, hcz26_2, hcz26_3, hcz26_4, hfz26_0, hfz26_1, hfz26_2, hfz26_3, hfz26_4⟩ := cf5_ BK120.out) | ((with_reducible refine gate_callee (f := 38) rfl ?_); refine goesL_ (some 5) rfl rfl Tryd.func38 (by kernel_rfl) rfl #[.agg #[.int .i64 a0_0, .int .i64 a0_1, .int .i64 a0_2, .int .i64 a0_3, .slice A0_4 l0_4.length c0_4]] rfl (by (try simp only [List.map_toArray, List.map_cons, List.map_nil]); first | done | rfl | (simp only [List.length_drop, List.length_take]; rfl)) ?_; (with_reducible refine (types_depth.calls k a0_0 a0_1 a0_2 a0_3 _ _ l0_4 t121 _ ?side1 ?side2 A2.out).mono ?_); (case side1 => repeat (first | exact (Kd.C_below HR0_4.out HB.out) | (with_reducible refine Kd.C_alloc ?_ _) | (with_reducible refine Kd.C_drewN ?_ _) | (with_reducible refine Kd.C_drew ?_))); (case side2 => exact HC0_4.out); rintro e w27 ⟨rfl, hb⟩; refine ⟨_, rfl, ?_⟩; replace BK120 := Aside0.mk (blk_below (g := gb120) (o := .cells #[.int .i64 a0_0, .int .i64 a0_1, .int .i64 a0_2, .int .i64 a0_3, .slice A0_4 l0_4.length c0_4] 24 (0, 0)) bk_ hb); replace HB := Aside0.mk (below_step bl_ hb); (try clear hb); (try clear hb2); (try clear hk); (try clear hi); obtain ⟨hcz28_0, hcz28_1, hcz28_2, hcz28_3, hcz28_4, hfz28_0, hfz28_1, hfz28_2, hfz28_3, hfz28_4⟩ := cf5_ BK120.out) | ((with_reducible refine gate_callee (f := 39) rfl ?_); refine goesL_ (some 8) rfl rfl Tryd.func39 (by kernel_rfl) rfl #[.agg #[.int .i64 a0_0, .int .i64 a0_1, .int .i64 a0_2, .int .i64 a0_3, .slice A0_4 l0_4.length c0_4]] rfl (by (try simp only [List.map_toArray, List.map_cons, List.map_nil]); first | done | rfl | (simp only [List.length_drop, List.length_take]; rfl)) ?_; (with_reducible refine (types_fault.calls k a0_0 a0_1 a0_2 a0_3 _ _ l0_4 t122 _ ?side1 ?side2 A7.out).mono ?_); (case side1 => repeat (first | exact (Kd.C_below HR0_4.out HB.out) | (with_reducible refine Kd.C_alloc ?_ _) | (with_reducible refine Kd.C_drewN ?_ _) | (with_reducible refine Kd.C_drew ?_))); (case side2 => exact HC0_4.out); rintro e w29 ⟨rfl, hb⟩; refine ⟨_, rfl, ?_⟩; replace BK120 := Aside0.mk (blk_below (g := gb120) (o := .cells #[.int .i64 a0_0, .int .i64 a0_1, .int .i64 a0_2, .int .i64 a0_3, .slice A0_4 l0_4.length c0_4] 24 (0, 0)) bk_ hb); replace HB := Aside0.mk (below_step bl_ hb); (try clear hb); (try clear hb2); (try clear hk); (try clear hi)))
   go_ret
   exact ⟨re_, bl_⟩

end Go.Proofs.YtggelekooacmnaaDoor.R
