-- By a program of this session
import Derived.Test.YtdijehgibejflaaC0
import Derived.Test.YtdijehgibejflaaC1
namespace Go.Proofs.Ytdijehgibejflaa.K
open Go.RowKit Go.Proofs.YtdijehgibejflaaW.PrintWords Go.Proofs.YtdijehgibejflaaW.PrintLast Go.Proofs.YtdijehgibejflaaW.PrintMore
attribute [local go_sem] max2_int min2_int max_two min_two max_three min_three max_four min_four   -- for this text's walks alone
set_option linter.unusedVariables false
set_option linter.unusedSimpArgs false

/-! ### core_eval: function 25 -/
def core_eval.f : Nat → Int → Int → Bool → List Int → List Int → List (S32) → List Int → Option (Int)
 | 0, _, _, _, _, _, _, _ => none
 | k + 1, v0, v1, v2, m3, m4, m5, l1 => if v0 = 1 then ((core_saturate.f v1).bind fun t110 => (some t110)) else (if v0 = 3 then (if 0 ≤ v1 then (if v1 < (l1.length : Int) then ((core_saturate.f (rd l1 v1)).bind fun t112 => (some t112)) else (none)) else (none)) else (if v0 = 13 then (if 0 < (m5.length : Int) then ((core_eval.f k ((rd_T32 m5 0).f0) ((rd_T32 m5 0).f1) ((rd_T32 m5 0).f2.f0) ((rd_T32 m5 0).f2.f1) ((rd_T32 m5 0).f2.f2) ((rd_T32 m5 0).f3) l1).bind fun t114 => (if t114 = 0 then (if 2 < (m5.length : Int) then ((core_eval.f k ((rd_T32 m5 2).f0) ((rd_T32 m5 2).f1) ((rd_T32 m5 2).f2.f0) ((rd_T32 m5 2).f2.f1) ((rd_T32 m5 2).f2.f2) ((rd_T32 m5 2).f3) l1).bind fun t116 => (some t116)) else (none)) else (if 1 < (m5.length : Int) then ((core_eval.f k ((rd_T32 m5 1).f0) ((rd_T32 m5 1).f1) ((rd_T32 m5 1).f2.f0) ((rd_T32 m5 1).f2.f1) ((rd_T32 m5 1).f2.f2) ((rd_T32 m5 1).f3) l1).bind fun t118 => (some t118)) else (none)))) else (none)) else (if v0 = 4 then (if 0 < (m5.length : Int) then ((core_eval.f k ((rd_T32 m5 0).f0) ((rd_T32 m5 0).f1) ((rd_T32 m5 0).f2.f0) ((rd_T32 m5 0).f2.f1) ((rd_T32 m5 0).f2.f2) ((rd_T32 m5 0).f3) l1).bind fun t120 => ((core_truth.f (t120 == 0)).bind fun t121 => (some t121))) else (none)) else (if 0 < (m5.length : Int) then ((core_eval.f k ((rd_T32 m5 0).f0) ((rd_T32 m5 0).f1) ((rd_T32 m5 0).f2.f0) ((rd_T32 m5 0).f2.f1) ((rd_T32 m5 0).f2.f2) ((rd_T32 m5 0).f3) l1).bind fun t123 => (if 1 < (m5.length : Int) then ((core_eval.f k ((rd_T32 m5 1).f0) ((rd_T32 m5 1).f1) ((rd_T32 m5 1).f2.f0) ((rd_T32 m5 1).f2.f1) ((rd_T32 m5 1).f2.f2) ((rd_T32 m5 1).f3) l1).bind fun t125 => (if v0 = 5 then (if t123 = 0 then ((core_truth.f false).bind fun t126 => (some t126)) else ((core_truth.f (t125 != 0)).bind fun t127 => (some t127))) else (if v0 = 6 then (if t123 = 0 then ((core_truth.f (t125 != 0)).bind fun t128 => (some t128)) else ((core_truth.f true).bind fun t129 => (some t129))) else (if v0 = 7 then ((core_truth.f (t123 == t125)).bind fun t130 => (some t130)) else (if v0 = 8 then ((core_truth.f (decide (t123 < t125))).bind fun t131 => (some t131)) else (if v0 = 9 then ((core_truth.f (decide (t123 ≤ t125))).bind fun t132 => (some t132)) else (if v0 = 10 then ((core_saturate.f (wrap64 (t123 + t125))).bind fun t133 => (some t133)) else (if v0 = 11 then ((core_saturate.f (wrap64 (t123 - t125))).bind fun t134 => (some t134)) else ((core_saturate.f (wrap64 (t123 * t125))).bind fun t135 => (some t135)))))))))) else (none))) else (none)))))
theorem core_eval.mono_l : ∀ k, (∀ y0 y1 y2 y3 y4 y5 y6, LeO (core_eval.f k y0 y1 y2 y3 y4 y5 y6) (core_eval.f (k + 1) y0 y1 y2 y3 y4 y5 y6))
 | 0 => fun _ _ _ _ _ _ _ r h => by simp [core_eval.f] at h
 | k + 1 => by
  have ih0 := core_eval.mono_l k
  ·intro y0 y1 y2 y3 y4 y5 y6; unfold core_eval.f; repeat' first
   | (with_reducible exact ih0 _ _ _ _ _ _ _)
   | (with_reducible exact LeO.refl _)
   | (with_reducible exact LeO.none _)
   | (with_reducible refine LeO.ite ?_ ?_)
   | (with_reducible refine LeO.bind ?_ (fun _ => ?_))
   | exact ih0 _ _ _ _ _ _ _
   | exact LeO.none _
   | refine LeO.ite ?_ ?_
   | refine LeO.bind ?_ (fun _ => ?_)
theorem core_eval.mono : ∀ a0 a1 a2 a3 a4 a5 a6 k, LeO (core_eval.f k a0 a1 a2 a3 a4 a5 a6) (core_eval.f (k + 1) a0 a1 a2 a3 a4 a5 a6) := by
 intro a0 a1 a2 a3 a4 a5 a6 k; have ih0 := core_eval.mono_l k; exact ih0 a0 a1 a2 a3 a4 a5 a6
def core_eval.T12 : Bool × List (List Nat × List Nat) := (true, [([], []), ([0], [0]), ([1], [1]), ([2], [2]), ([], []), ([3, 4], [3, 4]), ([], []), ([6], [6]), ([7], [7]), ([8], [8]), ([], []), ([9, 10, 5], [9, 10]), ([5, 11, 0, 1, 2, 3, 4, 5], [5]), ([11, 12, 0, 1, 2, 3, 4, 5, 6, 7, 8, 9, 10, 11, 12], [11])])
def core_eval.B12 : List Nat := [0, 1, 3, 7, 0, 31, 0, 64, 192, 448, 0, 2047, 4095, 8191]
theorem core_eval.tab12 : rtab .any (opsOf Try.f25 12) = core_eval.T12 := by kernel_rfl
theorem core_eval.bits12 : waitsOk core_eval.T12.2 core_eval.B12 = true := by kernel_rfl
set_option maxHeartbeats 8000000 in
set_option maxRecDepth 100000 in
theorem core_eval.calls (k : Nat) : ∀ (v0 : Int) (v1 : Int) (v2 : Bool) (B3 : Option Addr) (k_3 : Nat) (m3 : List Int) (B4 : Option Addr) (k_4 : Nat) (m4 : List Int) (B5 : Option Addr) (k_5 : Nat) (m5 : List (S32)) (A1 : Option Addr) (c1 : Nat) (l1 : List Int) (r : Int) (w : World) (x3 : Kd.C (Kd.int .u32) w B3 m3.length m3) (hc0_3 : m3.length ≤ k_3) (x4 : Kd.C (Kd.int .u32) w B4 m4.length m4) (hc0_4 : m4.length ≤ k_4) (x5 : Kd.C k32 w B5 m5.length m5) (hc0_5 : m5.length ≤ k_5) (hr1 : Kd.C (Kd.int .i64) w A1 l1.length l1) (hc1 : l1.length ≤ c1) (h : core_eval.f k v0 v1 v2 m3 m4 m5 l1 = some r),
  Calls Try.prog 25 #[.agg #[.int .i64 v0, .int .i64 v1, .bool v2, .slice B3 m3.length k_3, .slice B4 m4.length k_4, .slice B5 m5.length k_5], .slice A1 l1.length c1] w fun e w' => e = .returned (.int .i64 r) ∧ Below w.heap.size w w' := by
 induction k using Nat.strongRecOn with
 | _ k ih =>
 intro v0 v1 v2 B3 k_3 m3 B4 k_4 m4 B5 k_5 m5 A1 c1 l1 r w x3 hc0_3 x4 hc0_4 x5 hc0_5 hr1 hc1 h; cases k with
 | zero => exact absurd h (by simp [core_eval.f])
 | succ k =>
 simp only [core_eval.f] at h; have hu32 := Try.underlying32; have X3 := Aside0.mk x3; have Y3 := Aside0.mk hc0_3; clear x3 hc0_3; have X4 := Aside0.mk x4; have Y4 := Aside0.mk hc0_4; clear x4 hc0_4; have X5 := Aside0.mk x5; have Y5 := Aside0.mk hc0_5; clear x5 hc0_5; have HR1 := Aside0.mk hr1; have HC1 := Aside0.mk hc1; clear hr1 hc1; have HB := Aside0.mk (Below.refl w.heap.size w); have H : (if v0 = 1 then ((core_saturate.f v1).bind fun t110 => (some t110)) else (if v0 = 3 then (if 0 ≤ v1 then (if v1 < (l1.length : Int) then ((core_saturate.f (rd l1 v1)).bind fun t112 => (some t112)) else (none)) else (none)) else (if v0 = 13 then (if 0 < (m5.length : Int) then ((core_eval.f k ((rd_T32 m5 0).f0) ((rd_T32 m5 0).f1) ((rd_T32 m5 0).f2.f0) ((rd_T32 m5 0).f2.f1) ((rd_T32 m5 0).f2.f2) ((rd_T32 m5 0).f3) l1).bind fun t114 => (if t114 = 0 then (if 2 < (m5.length : Int) then ((core_eval.f k ((rd_T32 m5 2).f0) ((rd_T32 m5 2).f1) ((rd_T32 m5 2).f2.f0) ((rd_T32 m5 2).f2.f1) ((rd_T32 m5 2).f2.f2) ((rd_T32 m5 2).f3) l1).bind fun t116 => (some t116)) else (none)) else (if 1 < (m5.length : Int) then ((core_eval.f k ((rd_T32 m5 1).f0) ((rd_T32 m5 1).f1) ((rd_T32 m5 1).f2.f0) ((rd_T32 m5 1).f2.f1) ((rd_T32 m5 1).f2.f2) ((rd_T32 m5 1).f3) l1).bind fun t118 => (some t118)) else (none)))) else (none)) else (if v0 = 4 then (if 0 < (m5.length : Int) then ((core_eval.f k ((rd_T32 m5 0).f0) ((rd_T32 m5 0).f1) ((rd_T32 m5 0).f2.f0) ((rd_T32 m5 0).f2.f1) ((rd_T32 m5 0).f2.f2) ((rd_T32 m5 0).f3) l1).bind fun t120 => ((core_truth.f (t120 == 0)).bind fun t121 => (some t121))) else (none)) else (if 0 < (m5.length : Int) then ((core_eval.f k ((rd_T32 m5 0).f0) ((rd_T32 m5 0).f1) ((rd_T32 m5 0).f2.f0) ((rd_T32 m5 0).f2.f1) ((rd_T32 m5 0).f2.f2) ((rd_T32 m5 0).f3) l1).bind fun t123 => (if 1 < (m5.length : Int) then ((core_eval.f k ((rd_T32 m5 1).f0) ((rd_T32 m5 1).f1) ((rd_T32 m5 1).f2.f0) ((rd_T32 m5 1).f2.f1) ((rd_T32 m5 1).f2.f2) ((rd_T32 m5 1).f3) l1).bind fun t125 => (if v0 = 5 then (if t123 = 0 then ((core_truth.f false).bind fun t126 => (some t126)) else ((core_truth.f (t125 != 0)).bind fun t127 => (some t127))) else (if v0 = 6 then (if t123 = 0 then ((core_truth.f (t125 != 0)).bind fun t128 => (some t128)) else ((core_truth.f true).bind fun t129 => (some t129))) else (if v0 = 7 then ((core_truth.f (t123 == t125)).bind fun t130 => (some t130)) else (if v0 = 8 then ((core_truth.f (decide (t123 < t125))).bind fun t131 => (some t131)) else (if v0 = 9 then ((core_truth.f (decide (t123 ≤ t125))).bind fun t132 => (some t132)) else (if v0 = 10 then ((core_saturate.f (wrap64 (t123 + t125))).bind fun t133 => (some t133)) else (if v0 = 11 then ((core_saturate.f (wrap64 (t123 - t125))).bind fun t134 => (some t134)) else ((core_saturate.f (wrap64 (t123 * t125))).bind fun t135 => (some t135)))))))))) else (none))) else (none)))))) = some r := h
 clear h; by_cases c3 : v0 = 1
 ·rw [if_pos c3] at H; have c3b0 : (v0 == 1) = true := beq_iff_eq.mpr c3; have c3b1 : (v0 != 1) = false := bne_eq_false_iff_eq.mpr c3; clear c3; replace H := Option.bind_eq_some_iff.mp H; obtain ⟨t110, A40, H⟩ := H; replace H : (some t110) = some r := H; have A4 := Aside0.mk A40; clear A40; obtain rfl := Option.some.inj H; go_enter Try.func25, Try.ntmps25; go_wp2_with (first | ((with_reducible refine gate_dst (N := 2) rfl ?_); refine box_event ?hg (N := 2) ?hd (cs := #[.int .i64 v0, .int .i64 v1, .bool v2, .slice B3 m3.length k_3, .slice B4 m4.length k_4, .slice B5 m5.length k_5]) (t := 32) ?hr ?_; (case hd => rfl); (case hg => rfl); (case hr => first | (go_simp; done) | (go_simp; rfl)); intro gb109 hg w5 hbox hb; have BK109 := Aside0.mk (hbox); have GW109 : Aside0 (w.heap.size ≤ gb109) := gw_ hg (below_size bl_); have GE109 := GW109; replace HB := Aside0.mk (below_step bl_ hb); clear hb hbox hg; obtain ⟨hcz6_0, hcz6_1, hcz6_2, hcz6_3, hcz6_4, hcz6_5, hfz6_0, hfz6_1, hfz6_2, hfz6_3, hfz6_4, hfz6_5⟩ := cf6_ BK109.out) | ((with_reducible refine gate_callee (f := 36) rfl ?_); refine goesL_ (some 13) rfl rfl Try.func36 (by kernel_rfl) rfl #[.int .i64 v1] rfl (by (try simp only [List.map_toArray, List.map_cons, List.map_nil]); first | done | rfl | (simp only [List.length_drop, List.length_take]; rfl)) ?_; (with_reducible refine (core_saturate.calls v1 t110 _ A4.out).mono ?_); rintro e w7 ⟨rfl, hb⟩; refine ⟨_, rfl, ?_⟩; replace BK109 := Aside0.mk (blk_below (g := gb109) (o := .cells #[.int .i64 v0, .int .i64 v1, .bool v2, .slice B3 m3.length k_3, .slice B4 m4.length k_4, .slice B5 m5.length k_5] 32 (0, 0)) bk_ hb); replace HB := Aside0.mk (below_step bl_ hb); (try clear hb); (try clear hb2); (try clear hk); (try clear hi)))
  go_ret; exact ⟨re_, bl_⟩
 ·rw [if_neg c3] at H; have c3b0 : (v0 == 1) = false := beq_eq_false_iff_ne.mpr c3; have c3b1 : (v0 != 1) = true := bne_iff_ne.mpr c3; by_cases c8 : v0 = 3
  ·rw [if_pos c8] at H; have c8b0 : (v0 == 3) = true := beq_iff_eq.mpr c8; have c8b1 : (v0 != 3) = false := bne_eq_false_iff_eq.mpr c8; clear c8; by_cases c9 : 0 ≤ v1
   ·rw [if_pos c9] at H; have c9b0 : decide (0 ≤ v1) = true := decide_eq_true c9; clear c9; by_cases c10 : v1 < (l1.length : Int)
    ·rw [if_pos c10] at H; have c10b0 : decide (v1 < (l1.length : Int)) = true := decide_eq_true c10; clear c10; replace H := Option.bind_eq_some_iff.mp H; obtain ⟨t112, A110, H⟩ := H; replace H : (some t112) = some r := H; have A11 := Aside0.mk A110; clear A110; obtain rfl := Option.some.inj H; go_enter Try.func25, Try.ntmps25; go_wp2_with (first | ((with_reducible refine gate_dst (N := 2) rfl ?_); refine box_event ?hg (N := 2) ?hd (cs := #[.int .i64 v0, .int .i64 v1, .bool v2, .slice B3 m3.length k_3, .slice B4 m4.length k_4, .slice B5 m5.length k_5]) (t := 32) ?hr ?_; (case hd => rfl); (case hg => rfl); (case hr => first | (go_simp; done) | (go_simp; rfl)); intro gb109 hg w12 hbox hb; have BK109 := Aside0.mk (hbox); have GW109 : Aside0 (w.heap.size ≤ gb109) := gw_ hg (below_size bl_); have GE109 := GW109; replace HB := Aside0.mk (below_step bl_ hb); clear hb hbox hg; obtain ⟨hcz13_0, hcz13_1, hcz13_2, hcz13_3, hcz13_4, hcz13_5, hfz13_0, hfz13_1, hfz13_2, hfz13_3, hfz13_4, hfz13_5⟩ := cf6_ BK109.out; have p111 : 0 ≤ (v1 : Int) := dt_; have q111 : v1 < (l1.length : Int) := dt_; obtain ⟨ad111, e111, hx111_0⟩ := Kd.at_int HR1.out v1 p111 q111; cases e111; replace hx111_0 := (HB.out.cell (wlt_ w _ hx111_0)).trans hx111_0; replace p111 := eq_true p111; replace q111 := eq_true q111) | ((with_reducible refine gate_callee (f := 36) rfl ?_); refine goesL_ (some 21) rfl rfl Try.func36 (by kernel_rfl) rfl #[.int .i64 (rd l1 v1)] rfl (by (try simp only [List.map_toArray, List.map_cons, List.map_nil]); first | done | rfl | (simp only [List.length_drop, List.length_take]; rfl)) ?_; (with_reducible refine (core_saturate.calls (rd l1 v1) t112 _ A11.out).mono ?_); rintro e w14 ⟨rfl, hb⟩; refine ⟨_, rfl, ?_⟩; replace BK109 := Aside0.mk (blk_below (g := gb109) (o := .cells #[.int .i64 v0, .int .i64 v1, .bool v2, .slice B3 m3.length k_3, .slice B4 m4.length k_4, .slice B5 m5.length k_5] 32 (0, 0)) bk_ hb); replace HB := Aside0.mk (below_step bl_ hb); (try clear hb); (try clear hb2); (try clear hk); (try clear hi)))
     go_ret; exact ⟨re_, bl_⟩
    ·rw [if_neg c10] at H; exact absurd H (by simp)
   ·rw [if_neg c9] at H; exact absurd H (by simp)
  ·rw [if_neg c8] at H; have c8b0 : (v0 == 3) = false := beq_eq_false_iff_ne.mpr c8; have c8b1 : (v0 != 3) = true := bne_iff_ne.mpr c8; by_cases c15 : v0 = 13
   ·rw [if_pos c15] at H; have c15b0 : (v0 == 13) = true := beq_iff_eq.mpr c15; have c15b1 : (v0 != 13) = false := bne_eq_false_iff_eq.mpr c15; clear c15; by_cases c16 : 0 < (m5.length : Int)
    ·rw [if_pos c16] at H; have c16b0 : decide (0 < (m5.length : Int)) = true := decide_eq_true c16; have c16b1 : decide (0 < m5.length) = true := decide_eq_true (by omega); clear c16; replace H := Option.bind_eq_some_iff.mp H; obtain ⟨t114, A170, H⟩ := H; replace H : (if t114 = 0 then (if 2 < (m5.length : Int) then ((core_eval.f k ((rd_T32 m5 2).f0) ((rd_T32 m5 2).f1) ((rd_T32 m5 2).f2.f0) ((rd_T32 m5 2).f2.f1) ((rd_T32 m5 2).f2.f2) ((rd_T32 m5 2).f3) l1).bind fun t116 => (some t116)) else (none)) else (if 1 < (m5.length : Int) then ((core_eval.f k ((rd_T32 m5 1).f0) ((rd_T32 m5 1).f1) ((rd_T32 m5 1).f2.f0) ((rd_T32 m5 1).f2.f1) ((rd_T32 m5 1).f2.f2) ((rd_T32 m5 1).f3) l1).bind fun t118 => (some t118)) else (none))) = some r := H; have A17 := Aside0.mk A170; clear A170; by_cases c18 : t114 = 0
     ·rw [if_pos c18] at H; have c18b0 : (t114 == 0) = true := beq_iff_eq.mpr c18; have c18b1 : (t114 != 0) = false := bne_eq_false_iff_eq.mpr c18; clear c18; by_cases c19 : 2 < (m5.length : Int)
      ·rw [if_pos c19] at H; have c19b0 : decide (2 < (m5.length : Int)) = true := decide_eq_true c19; have c19b1 : decide (2 < m5.length) = true := decide_eq_true (by omega); clear c19; replace H := Option.bind_eq_some_iff.mp H; obtain ⟨t116, A200, H⟩ := H; replace H : (some t116) = some r := H; have A20 := Aside0.mk A200; clear A200; obtain rfl := Option.some.inj H; go_enter Try.func25, Try.ntmps25; go_wp2_with (first | ((with_reducible refine gate_dst (N := 2) rfl ?_); refine box_event ?hg (N := 2) ?hd (cs := #[.int .i64 v0, .int .i64 v1, .bool v2, .slice B3 m3.length k_3, .slice B4 m4.length k_4, .slice B5 m5.length k_5]) (t := 32) ?hr ?_; (case hd => rfl); (case hg => rfl); (case hr => first | (go_simp; done) | (go_simp; rfl)); intro gb109 hg w21 hbox hb; have BK109 := Aside0.mk (hbox); have GW109 : Aside0 (w.heap.size ≤ gb109) := gw_ hg (below_size bl_); have GE109 := GW109; replace HB := Aside0.mk (below_step bl_ hb); clear hb hbox hg; obtain ⟨hcz22_0, hcz22_1, hcz22_2, hcz22_3, hcz22_4, hcz22_5, hfz22_0, hfz22_1, hfz22_2, hfz22_3, hfz22_4, hfz22_5⟩ := cf6_ BK109.out; have p113 : 0 ≤ (0 : Int) := (by omega); have q113 : 0 < (m5.length : Int) := dt_; obtain ⟨ad113, A113_3, c113_3, A113_4, c113_4, A113_5, c113_5, e113, hx113_0, hx113_1, hx113_2, hx113_3, hx113_4, hx113_5, hl113_3, hi113_3, hl113_4, hi113_4, hl113_5, hi113_5⟩ := at_T32 X5.out 0 p113 q113; cases e113; have qi113 : (0 < m5.length) = True := eq_true (by omega); (try rw [show ((0 : Int)).toNat = 0 from rfl] at hx113_0); (try rw [show 0 * 6 = 0 from rfl] at hx113_0); (try rw [Addr.add_zero'] at hx113_0); (try rw [show ((0 : Int)).toNat = 0 from rfl] at hx113_1); (try rw [show 0 * 6 = 0 from rfl] at hx113_1); (try rw [Addr.add_zero'] at hx113_1); (try rw [show ((0 : Int)).toNat = 0 from rfl] at hx113_2); (try rw [show 0 * 6 = 0 from rfl] at hx113_2); (try rw [Addr.add_zero'] at hx113_2); (try rw [show ((0 : Int)).toNat = 0 from rfl] at hx113_3); (try rw [show 0 * 6 = 0 from rfl] at hx113_3); (try rw [Addr.add_zero'] at hx113_3); (try rw [show ((0 : Int)).toNat = 0 from rfl] at hx113_4); (try rw [show 0 * 6 = 0 from rfl] at hx113_4); (try rw [Addr.add_zero'] at hx113_4); (try rw [show ((0 : Int)).toNat = 0 from rfl] at hx113_5); (try rw [show 0 * 6 = 0 from rfl] at hx113_5); (try rw [Addr.add_zero'] at hx113_5); replace hx113_0 := (HB.out.cell (wlt_ w _ hx113_0)).trans hx113_0; replace hx113_1 := (HB.out.cell (wlt_ w _ hx113_1)).trans hx113_1; replace hx113_2 := (HB.out.cell (wlt_ w _ hx113_2)).trans hx113_2; replace hx113_3 := (HB.out.cell (wlt_ w _ hx113_3)).trans hx113_3; replace hx113_4 := (HB.out.cell (wlt_ w _ hx113_4)).trans hx113_4; replace hx113_5 := (HB.out.cell (wlt_ w _ hx113_5)).trans hx113_5; have HR113_3 := Aside0.mk hi113_3; have HC113_3 := Aside0.mk hl113_3; clear hi113_3 hl113_3; have HR113_4 := Aside0.mk hi113_4; have HC113_4 := Aside0.mk hl113_4; clear hi113_4 hl113_4; have HR113_5 := Aside0.mk hi113_5; have HC113_5 := Aside0.mk hl113_5; clear hi113_5 hl113_5; replace p113 := eq_true p113; replace q113 := eq_true q113) | ((with_reducible refine gate_callee (f := 25) rfl ?_); refine goesL_ (some 29) rfl rfl Try.func25 (by kernel_rfl) rfl #[.agg #[.int .i64 ((rd_T32 m5 0).f0), .int .i64 ((rd_T32 m5 0).f1), .bool ((rd_T32 m5 0).f2.f0), .slice A113_3 ((rd_T32 m5 0).f2.f1).length c113_3, .slice A113_4 ((rd_T32 m5 0).f2.f2).length c113_4, .slice A113_5 ((rd_T32 m5 0).f3).length c113_5], .slice A1 l1.length c1] rfl (by (try simp only [List.map_toArray, List.map_cons, List.map_nil]); first | done | rfl | (simp only [List.length_drop, List.length_take]; rfl)) ?_; (with_reducible refine (ih k (by omega) ((rd_T32 m5 0).f0) ((rd_T32 m5 0).f1) ((rd_T32 m5 0).f2.f0) _ _ ((rd_T32 m5 0).f2.f1) _ _ ((rd_T32 m5 0).f2.f2) _ _ ((rd_T32 m5 0).f3) _ _ l1 t114 _ ?side1 ?side2 ?side3 ?side4 ?side5 ?side6 ?side7 ?side8 A17.out).mono ?_); (case side1 => repeat (first | exact (Kd.C_below HR113_3.out HB.out) | (with_reducible refine Kd.C_alloc ?_ _) | (with_reducible refine Kd.C_drewN ?_ _) | (with_reducible refine Kd.C_drew ?_))); (case side2 => exact HC113_3.out); (case side3 => repeat (first | exact (Kd.C_below HR113_4.out HB.out) | (with_reducible refine Kd.C_alloc ?_ _) | (with_reducible refine Kd.C_drewN ?_ _) | (with_reducible refine Kd.C_drew ?_))); (case side4 => exact HC113_4.out); (case side5 => repeat (first | exact (Kd.C_below HR113_5.out HB.out) | (with_reducible refine Kd.C_alloc ?_ _) | (with_reducible refine Kd.C_drewN ?_ _) | (with_reducible refine Kd.C_drew ?_))); (case side6 => exact HC113_5.out); (case side7 => repeat (first | exact (Kd.C_below HR1.out HB.out) | (with_reducible refine Kd.C_alloc ?_ _) | (with_reducible refine Kd.C_drewN ?_ _) | (with_reducible refine Kd.C_drew ?_))); (case side8 => exact HC1.out); rintro e w23 ⟨rfl, hb⟩; refine ⟨_, rfl, ?_⟩; replace BK109 := Aside0.mk (blk_below (g := gb109) (o := .cells #[.int .i64 v0, .int .i64 v1, .bool v2, .slice B3 m3.length k_3, .slice B4 m4.length k_4, .slice (some ad113) m5.length k_5] 32 (0, 0)) bk_ hb); replace HB := Aside0.mk (below_step bl_ hb); (try clear hb); (try clear hb2); (try clear hk); (try clear hi); obtain ⟨hcz24_0, hcz24_1, hcz24_2, hcz24_3, hcz24_4, hcz24_5, hfz24_0, hfz24_1, hfz24_2, hfz24_3, hfz24_4, hfz24_5⟩ := cf6_ BK109.out; have p115 : 0 ≤ (2 : Int) := (by omega); have q115 : 2 < (m5.length : Int) := dt_; obtain ⟨ad115, A115_3, c115_3, A115_4, c115_4, A115_5, c115_5, e115, hx115_0, hx115_1, hx115_2, hx115_3, hx115_4, hx115_5, hl115_3, hi115_3, hl115_4, hi115_4, hl115_5, hi115_5⟩ := at_T32 X5.out 2 p115 q115; obtain rfl : ad113 = ad115 := (by injection e115); (try simp only [show (2 : Int).toNat = 2 from rfl, Nat.reduceMul, Nat.reduceEqDiff, Go.Addr.add, ↓reduceIte] at hx115_0); (try simp only [show (2 : Int).toNat = 2 from rfl, Nat.reduceMul, Nat.reduceEqDiff, Go.Addr.add, ↓reduceIte] at hx115_1); (try simp only [show (2 : Int).toNat = 2 from rfl, Nat.reduceMul, Nat.reduceEqDiff, Go.Addr.add, ↓reduceIte] at hx115_2); (try simp only [show (2 : Int).toNat = 2 from rfl, Nat.reduceMul, Nat.reduceEqDiff, Go.Addr.add, ↓reduceIte] at hx115_3); (try simp only [show (2 : Int).toNat = 2 from rfl, Nat.reduceMul, Nat.reduceEqDiff, Go.Addr.add, ↓reduceIte] at hx115_4); (try simp only [show (2 : Int).toNat = 2 from rfl, Nat.reduceMul, Nat.reduceEqDiff, Go.Addr.add, ↓reduceIte] at hx115_5); have qi115 : (2 < m5.length) = True := eq_true (by omega); (try rw [show ((2 : Int)).toNat = 2 from rfl] at hx115_0); (try rw [show 2 * 6 = 12 from rfl] at hx115_0); (try rw [show ((2 : Int)).toNat = 2 from rfl] at hx115_1); (try rw [show 2 * 6 = 12 from rfl] at hx115_1); (try rw [show ((2 : Int)).toNat = 2 from rfl] at hx115_2); (try rw [show 2 * 6 = 12 from rfl] at hx115_2); (try rw [show ((2 : Int)).toNat = 2 from rfl] at hx115_3); (try rw [show 2 * 6 = 12 from rfl] at hx115_3); (try rw [show ((2 : Int)).toNat = 2 from rfl] at hx115_4); (try rw [show 2 * 6 = 12 from rfl] at hx115_4); (try rw [show ((2 : Int)).toNat = 2 from rfl] at hx115_5); (try rw [show 2 * 6 = 12 from rfl] at hx115_5); replace hx115_0 := (HB.out.cell (wlt_ w _ hx115_0)).trans hx115_0; replace hx115_1 := (HB.out.cell (wlt_ w _ hx115_1)).trans hx115_1; replace hx115_2 := (HB.out.cell (wlt_ w _ hx115_2)).trans hx115_2; replace hx115_3 := (HB.out.cell (wlt_ w _ hx115_3)).trans hx115_3; replace hx115_4 := (HB.out.cell (wlt_ w _ hx115_4)).trans hx115_4; replace hx115_5 := (HB.out.cell (wlt_ w _ hx115_5)).trans hx115_5; have HR115_3 := Aside0.mk hi115_3; have HC115_3 := Aside0.mk hl115_3; clear hi115_3 hl115_3; have HR115_4 := Aside0.mk hi115_4; have HC115_4 := Aside0.mk hl115_4; clear hi115_4 hl115_4; have HR115_5 := Aside0.mk hi115_5; have HC115_5 := Aside0.mk hl115_5; clear hi115_5 hl115_5; replace p115 := eq_true p115; replace q115 := eq_true q115) | ((with_reducible refine gate_callee (f := 25) rfl ?_); refine goesL_ (some 42) rfl rfl Try.func25 (by kernel_rfl) rfl #[.agg #[.int .i64 ((rd_T32 m5 2).f0), .int .i64 ((rd_T32 m5 2).f1), .bool ((rd_T32 m5 2).f2.f0), .slice A115_3 ((rd_T32 m5 2).f2.f1).length c115_3, .slice A115_4 ((rd_T32 m5 2).f2.f2).length c115_4, .slice A115_5 ((rd_T32 m5 2).f3).length c115_5], .slice A1 l1.length c1] rfl (by (try simp only [List.map_toArray, List.map_cons, List.map_nil]); first | done | rfl | (simp only [List.length_drop, List.length_take]; rfl)) ?_; (with_reducible refine (ih k (by omega) ((rd_T32 m5 2).f0) ((rd_T32 m5 2).f1) ((rd_T32 m5 2).f2.f0) _ _ ((rd_T32 m5 2).f2.f1) _ _ ((rd_T32 m5 2).f2.f2) _ _ ((rd_T32 m5 2).f3) _ _ l1 t116 _ ?side1 ?side2 ?side3 ?side4 ?side5 ?side6 ?side7 ?side8 A20.out).mono ?_); (case side1 => repeat (first | exact (Kd.C_below HR115_3.out HB.out) | (with_reducible refine Kd.C_alloc ?_ _) | (with_reducible refine Kd.C_drewN ?_ _) | (with_reducible refine Kd.C_drew ?_))); (case side2 => exact HC115_3.out); (case side3 => repeat (first | exact (Kd.C_below HR115_4.out HB.out) | (with_reducible refine Kd.C_alloc ?_ _) | (with_reducible refine Kd.C_drewN ?_ _) | (with_reducible refine Kd.C_drew ?_))); (case side4 => exact HC115_4.out); (case side5 => repeat (first | exact (Kd.C_below HR115_5.out HB.out) | (with_reducible refine Kd.C_alloc ?_ _) | (with_reducible refine Kd.C_drewN ?_ _) | (with_reducible refine Kd.C_drew ?_))); (case side6 => exact HC115_5.out); (case side7 => repeat (first | exact (Kd.C_below HR1.out HB.out) | (with_reducible refine Kd.C_alloc ?_ _) | (with_reducible refine Kd.C_drewN ?_ _) | (with_reducible refine Kd.C_drew ?_))); (case side8 => exact HC1.out); rintro e w25 ⟨rfl, hb⟩; refine ⟨_, rfl, ?_⟩; replace BK109 := Aside0.mk (blk_below (g := gb109) (o := .cells #[.int .i64 v0, .int .i64 v1, .bool v2, .slice B3 m3.length k_3, .slice B4 m4.length k_4, .slice (some ad113) m5.length k_5] 32 (0, 0)) bk_ hb); replace HB := Aside0.mk (below_step bl_ hb); (try clear hb); (try clear hb2); (try clear hk); (try clear hi)))
       go_ret; exact ⟨re_, bl_⟩
      ·rw [if_neg c19] at H; exact absurd H (by simp)
     ·rw [if_neg c18] at H; have c18b0 : (t114 == 0) = false := beq_eq_false_iff_ne.mpr c18; have c18b1 : (t114 != 0) = true := bne_iff_ne.mpr c18; by_cases c26 : 1 < (m5.length : Int)
      ·rw [if_pos c26] at H; have c26b0 : decide (1 < (m5.length : Int)) = true := decide_eq_true c26; have c26b1 : decide (1 < m5.length) = true := decide_eq_true (by omega); clear c26; replace H := Option.bind_eq_some_iff.mp H; obtain ⟨t118, A270, H⟩ := H; replace H : (some t118) = some r := H; have A27 := Aside0.mk A270; clear A270; obtain rfl := Option.some.inj H; go_enter Try.func25, Try.ntmps25; go_wp2_with (first | ((with_reducible refine gate_dst (N := 2) rfl ?_); refine box_event ?hg (N := 2) ?hd (cs := #[.int .i64 v0, .int .i64 v1, .bool v2, .slice B3 m3.length k_3, .slice B4 m4.length k_4, .slice B5 m5.length k_5]) (t := 32) ?hr ?_; (case hd => rfl); (case hg => rfl); (case hr => first | (go_simp; done) | (go_simp; rfl)); intro gb109 hg w28 hbox hb; have BK109 := Aside0.mk (hbox); have GW109 : Aside0 (w.heap.size ≤ gb109) := gw_ hg (below_size bl_); have GE109 := GW109; replace HB := Aside0.mk (below_step bl_ hb); clear hb hbox hg; obtain ⟨hcz29_0, hcz29_1, hcz29_2, hcz29_3, hcz29_4, hcz29_5, hfz29_0, hfz29_1, hfz29_2, hfz29_3, hfz29_4, hfz29_5⟩ := cf6_ BK109.out; have p113 : 0 ≤ (0 : Int) := (by omega); have q113 : 0 < (m5.length : Int) := dt_; obtain ⟨ad113, A113_3, c113_3, A113_4, c113_4, A113_5, c113_5, e113, hx113_0, hx113_1, hx113_2, hx113_3, hx113_4, hx113_5, hl113_3, hi113_3, hl113_4, hi113_4, hl113_5, hi113_5⟩ := at_T32 X5.out 0 p113 q113; cases e113; have qi113 : (0 < m5.length) = True := eq_true (by omega); (try rw [show ((0 : Int)).toNat = 0 from rfl] at hx113_0); (try rw [show 0 * 6 = 0 from rfl] at hx113_0); (try rw [Addr.add_zero'] at hx113_0); (try rw [show ((0 : Int)).toNat = 0 from rfl] at hx113_1); (try rw [show 0 * 6 = 0 from rfl] at hx113_1); (try rw [Addr.add_zero'] at hx113_1); (try rw [show ((0 : Int)).toNat = 0 from rfl] at hx113_2); (try rw [show 0 * 6 = 0 from rfl] at hx113_2); (try rw [Addr.add_zero'] at hx113_2); (try rw [show ((0 : Int)).toNat = 0 from rfl] at hx113_3); (try rw [show 0 * 6 = 0 from rfl] at hx113_3); (try rw [Addr.add_zero'] at hx113_3); (try rw [show ((0 : Int)).toNat = 0 from rfl] at hx113_4); (try rw [show 0 * 6 = 0 from rfl] at hx113_4); (try rw [Addr.add_zero'] at hx113_4); (try rw [show ((0 : Int)).toNat = 0 from rfl] at hx113_5); (try rw [show 0 * 6 = 0 from rfl] at hx113_5); (try rw [Addr.add_zero'] at hx113_5); replace hx113_0 := (HB.out.cell (wlt_ w _ hx113_0)).trans hx113_0; replace hx113_1 := (HB.out.cell (wlt_ w _ hx113_1)).trans hx113_1; replace hx113_2 := (HB.out.cell (wlt_ w _ hx113_2)).trans hx113_2; replace hx113_3 := (HB.out.cell (wlt_ w _ hx113_3)).trans hx113_3; replace hx113_4 := (HB.out.cell (wlt_ w _ hx113_4)).trans hx113_4; replace hx113_5 := (HB.out.cell (wlt_ w _ hx113_5)).trans hx113_5; have HR113_3 := Aside0.mk hi113_3; have HC113_3 := Aside0.mk hl113_3; clear hi113_3 hl113_3; have HR113_4 := Aside0.mk hi113_4; have HC113_4 := Aside0.mk hl113_4; clear hi113_4 hl113_4; have HR113_5 := Aside0.mk hi113_5; have HC113_5 := Aside0.mk hl113_5; clear hi113_5 hl113_5; replace p113 := eq_true p113; replace q113 := eq_true q113) | ((with_reducible refine gate_callee (f := 25) rfl ?_); refine goesL_ (some 29) rfl rfl Try.func25 (by kernel_rfl) rfl #[.agg #[.int .i64 ((rd_T32 m5 0).f0), .int .i64 ((rd_T32 m5 0).f1), .bool ((rd_T32 m5 0).f2.f0), .slice A113_3 ((rd_T32 m5 0).f2.f1).length c113_3, .slice A113_4 ((rd_T32 m5 0).f2.f2).length c113_4, .slice A113_5 ((rd_T32 m5 0).f3).length c113_5], .slice A1 l1.length c1] rfl (by (try simp only [List.map_toArray, List.map_cons, List.map_nil]); first | done | rfl | (simp only [List.length_drop, List.length_take]; rfl)) ?_; (with_reducible refine (ih k (by omega) ((rd_T32 m5 0).f0) ((rd_T32 m5 0).f1) ((rd_T32 m5 0).f2.f0) _ _ ((rd_T32 m5 0).f2.f1) _ _ ((rd_T32 m5 0).f2.f2) _ _ ((rd_T32 m5 0).f3) _ _ l1 t114 _ ?side1 ?side2 ?side3 ?side4 ?side5 ?side6 ?side7 ?side8 A17.out).mono ?_); (case side1 => repeat (first | exact (Kd.C_below HR113_3.out HB.out) | (with_reducible refine Kd.C_alloc ?_ _) | (with_reducible refine Kd.C_drewN ?_ _) | (with_reducible refine Kd.C_drew ?_))); (case side2 => exact HC113_3.out); (case side3 => repeat (first | exact (Kd.C_below HR113_4.out HB.out) | (with_reducible refine Kd.C_alloc ?_ _) | (with_reducible refine Kd.C_drewN ?_ _) | (with_reducible refine Kd.C_drew ?_))); (case side4 => exact HC113_4.out); (case side5 => repeat (first | exact (Kd.C_below HR113_5.out HB.out) | (with_reducible refine Kd.C_alloc ?_ _) | (with_reducible refine Kd.C_drewN ?_ _) | (with_reducible refine Kd.C_drew ?_))); (case side6 => exact HC113_5.out); (case side7 => repeat (first | exact (Kd.C_below HR1.out HB.out) | (with_reducible refine Kd.C_alloc ?_ _) | (with_reducible refine Kd.C_drewN ?_ _) | (with_reducible refine Kd.C_drew ?_))); (case side8 => exact HC1.out); rintro e w30 ⟨rfl, hb⟩; refine ⟨_, rfl, ?_⟩; replace BK109 := Aside0.mk (blk_below (g := gb109) (o := .cells #[.int .i64 v0, .int .i64 v1, .bool v2, .slice B3 m3.length k_3, .slice B4 m4.length k_4, .slice (some ad113) m5.length k_5] 32 (0, 0)) bk_ hb); replace HB := Aside0.mk (below_step bl_ hb); (try clear hb); (try clear hb2); (try clear hk); (try clear hi); obtain ⟨hcz31_0, hcz31_1, hcz31_2, hcz31_3, hcz31_4, hcz31_5, hfz31_0, hfz31_1, hfz31_2, hfz31_3, hfz31_4, hfz31_5⟩ := cf6_ BK109.out; have p117 : 0 ≤ (1 : Int) := (by omega); have q117 : 1 < (m5.length : Int) := dt_; obtain ⟨ad117, A117_3, c117_3, A117_4, c117_4, A117_5, c117_5, e117, hx117_0, hx117_1, hx117_2, hx117_3, hx117_4, hx117_5, hl117_3, hi117_3, hl117_4, hi117_4, hl117_5, hi117_5⟩ := at_T32 X5.out 1 p117 q117; obtain rfl : ad113 = ad117 := (by injection e117); (try simp only [show (1 : Int).toNat = 1 from rfl, Nat.reduceMul, Nat.reduceEqDiff, Go.Addr.add, ↓reduceIte] at hx117_0); (try simp only [show (1 : Int).toNat = 1 from rfl, Nat.reduceMul, Nat.reduceEqDiff, Go.Addr.add, ↓reduceIte] at hx117_1); (try simp only [show (1 : Int).toNat = 1 from rfl, Nat.reduceMul, Nat.reduceEqDiff, Go.Addr.add, ↓reduceIte] at hx117_2); (try simp only [show (1 : Int).toNat = 1 from rfl, Nat.reduceMul, Nat.reduceEqDiff, Go.Addr.add, ↓reduceIte] at hx117_3); (try simp only [show (1 : Int).toNat = 1 from rfl, Nat.reduceMul, Nat.reduceEqDiff, Go.Addr.add, ↓reduceIte] at hx117_4); (try simp only [show (1 : Int).toNat = 1 from rfl, Nat.reduceMul, Nat.reduceEqDiff, Go.Addr.add, ↓reduceIte] at hx117_5); have qi117 : (1 < m5.length) = True := eq_true (by omega); (try rw [show ((1 : Int)).toNat = 1 from rfl] at hx117_0); (try rw [show 1 * 6 = 6 from rfl] at hx117_0); (try rw [show ((1 : Int)).toNat = 1 from rfl] at hx117_1); (try rw [show 1 * 6 = 6 from rfl] at hx117_1); (try rw [show ((1 : Int)).toNat = 1 from rfl] at hx117_2); (try rw [show 1 * 6 = 6 from rfl] at hx117_2); (try rw [show ((1 : Int)).toNat = 1 from rfl] at hx117_3); (try rw [show 1 * 6 = 6 from rfl] at hx117_3); (try rw [show ((1 : Int)).toNat = 1 from rfl] at hx117_4); (try rw [show 1 * 6 = 6 from rfl] at hx117_4); (try rw [show ((1 : Int)).toNat = 1 from rfl] at hx117_5); (try rw [show 1 * 6 = 6 from rfl] at hx117_5); replace hx117_0 := (HB.out.cell (wlt_ w _ hx117_0)).trans hx117_0; replace hx117_1 := (HB.out.cell (wlt_ w _ hx117_1)).trans hx117_1; replace hx117_2 := (HB.out.cell (wlt_ w _ hx117_2)).trans hx117_2; replace hx117_3 := (HB.out.cell (wlt_ w _ hx117_3)).trans hx117_3; replace hx117_4 := (HB.out.cell (wlt_ w _ hx117_4)).trans hx117_4; replace hx117_5 := (HB.out.cell (wlt_ w _ hx117_5)).trans hx117_5; have HR117_3 := Aside0.mk hi117_3; have HC117_3 := Aside0.mk hl117_3; clear hi117_3 hl117_3; have HR117_4 := Aside0.mk hi117_4; have HC117_4 := Aside0.mk hl117_4; clear hi117_4 hl117_4; have HR117_5 := Aside0.mk hi117_5; have HC117_5 := Aside0.mk hl117_5; clear hi117_5 hl117_5; replace p117 := eq_true p117; replace q117 := eq_true q117) | ((with_reducible refine gate_callee (f := 25) rfl ?_); refine goesL_ (some 36) rfl rfl Try.func25 (by kernel_rfl) rfl #[.agg #[.int .i64 ((rd_T32 m5 1).f0), .int .i64 ((rd_T32 m5 1).f1), .bool ((rd_T32 m5 1).f2.f0), .slice A117_3 ((rd_T32 m5 1).f2.f1).length c117_3, .slice A117_4 ((rd_T32 m5 1).f2.f2).length c117_4, .slice A117_5 ((rd_T32 m5 1).f3).length c117_5], .slice A1 l1.length c1] rfl (by (try simp only [List.map_toArray, List.map_cons, List.map_nil]); first | done | rfl | (simp only [List.length_drop, List.length_take]; rfl)) ?_; (with_reducible refine (ih k (by omega) ((rd_T32 m5 1).f0) ((rd_T32 m5 1).f1) ((rd_T32 m5 1).f2.f0) _ _ ((rd_T32 m5 1).f2.f1) _ _ ((rd_T32 m5 1).f2.f2) _ _ ((rd_T32 m5 1).f3) _ _ l1 t118 _ ?side1 ?side2 ?side3 ?side4 ?side5 ?side6 ?side7 ?side8 A27.out).mono ?_); (case side1 => repeat (first | exact (Kd.C_below HR117_3.out HB.out) | (with_reducible refine Kd.C_alloc ?_ _) | (with_reducible refine Kd.C_drewN ?_ _) | (with_reducible refine Kd.C_drew ?_))); (case side2 => exact HC117_3.out); (case side3 => repeat (first | exact (Kd.C_below HR117_4.out HB.out) | (with_reducible refine Kd.C_alloc ?_ _) | (with_reducible refine Kd.C_drewN ?_ _) | (with_reducible refine Kd.C_drew ?_))); (case side4 => exact HC117_4.out); (case side5 => repeat (first | exact (Kd.C_below HR117_5.out HB.out) | (with_reducible refine Kd.C_alloc ?_ _) | (with_reducible refine Kd.C_drewN ?_ _) | (with_reducible refine Kd.C_drew ?_))); (case side6 => exact HC117_5.out); (case side7 => repeat (first | exact (Kd.C_below HR1.out HB.out) | (with_reducible refine Kd.C_alloc ?_ _) | (with_reducible refine Kd.C_drewN ?_ _) | (with_reducible refine Kd.C_drew ?_))); (case side8 => exact HC1.out); rintro e w32 ⟨rfl, hb⟩; refine ⟨_, rfl, ?_⟩; replace BK109 := Aside0.mk (blk_below (g := gb109) (o := .cells #[.int .i64 v0, .int .i64 v1, .bool v2, .slice B3 m3.length k_3, .slice B4 m4.length k_4, .slice (some ad113) m5.length k_5] 32 (0, 0)) bk_ hb); replace HB := Aside0.mk (below_step bl_ hb); (try clear hb); (try clear hb2); (try clear hk); (try clear hi)))
       go_ret; exact ⟨re_, bl_⟩
      ·rw [if_neg c26] at H; exact absurd H (by simp)
    ·rw [if_neg c16] at H; exact absurd H (by simp)
   ·rw [if_neg c15] at H; have c15b0 : (v0 == 13) = false := beq_eq_false_iff_ne.mpr c15; have c15b1 : (v0 != 13) = true := bne_iff_ne.mpr c15; by_cases c33 : v0 = 4
    ·rw [if_pos c33] at H; have c33b0 : (v0 == 4) = true := beq_iff_eq.mpr c33; have c33b1 : (v0 != 4) = false := bne_eq_false_iff_eq.mpr c33; clear c33; by_cases c34 : 0 < (m5.length : Int)
     ·rw [if_pos c34] at H; have c34b0 : decide (0 < (m5.length : Int)) = true := decide_eq_true c34; have c34b1 : decide (0 < m5.length) = true := decide_eq_true (by omega); clear c34; replace H := Option.bind_eq_some_iff.mp H; obtain ⟨t120, A350, H⟩ := H; replace H : ((core_truth.f (t120 == 0)).bind fun t121 => (some t121)) = some r := H; have A35 := Aside0.mk A350; clear A350; replace H := Option.bind_eq_some_iff.mp H; obtain ⟨t121, A360, H⟩ := H; replace H : (some t121) = some r := H; have A36 := Aside0.mk A360; clear A360; obtain rfl := Option.some.inj H; go_enter Try.func25, Try.ntmps25; go_wp2_with (first | ((with_reducible refine gate_dst (N := 2) rfl ?_); refine box_event ?hg (N := 2) ?hd (cs := #[.int .i64 v0, .int .i64 v1, .bool v2, .slice B3 m3.length k_3, .slice B4 m4.length k_4, .slice B5 m5.length k_5]) (t := 32) ?hr ?_; (case hd => rfl); (case hg => rfl); (case hr => first | (go_simp; done) | (go_simp; rfl)); intro gb109 hg w37 hbox hb; have BK109 := Aside0.mk (hbox); have GW109 : Aside0 (w.heap.size ≤ gb109) := gw_ hg (below_size bl_); have GE109 := GW109; replace HB := Aside0.mk (below_step bl_ hb); clear hb hbox hg; obtain ⟨hcz38_0, hcz38_1, hcz38_2, hcz38_3, hcz38_4, hcz38_5, hfz38_0, hfz38_1, hfz38_2, hfz38_3, hfz38_4, hfz38_5⟩ := cf6_ BK109.out; have p119 : 0 ≤ (0 : Int) := (by omega); have q119 : 0 < (m5.length : Int) := dt_; obtain ⟨ad119, A119_3, c119_3, A119_4, c119_4, A119_5, c119_5, e119, hx119_0, hx119_1, hx119_2, hx119_3, hx119_4, hx119_5, hl119_3, hi119_3, hl119_4, hi119_4, hl119_5, hi119_5⟩ := at_T32 X5.out 0 p119 q119; cases e119; have qi119 : (0 < m5.length) = True := eq_true (by omega); (try rw [show ((0 : Int)).toNat = 0 from rfl] at hx119_0); (try rw [show 0 * 6 = 0 from rfl] at hx119_0); (try rw [Addr.add_zero'] at hx119_0); (try rw [show ((0 : Int)).toNat = 0 from rfl] at hx119_1); (try rw [show 0 * 6 = 0 from rfl] at hx119_1); (try rw [Addr.add_zero'] at hx119_1); (try rw [show ((0 : Int)).toNat = 0 from rfl] at hx119_2); (try rw [show 0 * 6 = 0 from rfl] at hx119_2); (try rw [Addr.add_zero'] at hx119_2); (try rw [show ((0 : Int)).toNat = 0 from rfl] at hx119_3); (try rw [show 0 * 6 = 0 from rfl] at hx119_3); (try rw [Addr.add_zero'] at hx119_3); (try rw [show ((0 : Int)).toNat = 0 from rfl] at hx119_4); (try rw [show 0 * 6 = 0 from rfl] at hx119_4); (try rw [Addr.add_zero'] at hx119_4); (try rw [show ((0 : Int)).toNat = 0 from rfl] at hx119_5); (try rw [show 0 * 6 = 0 from rfl] at hx119_5); (try rw [Addr.add_zero'] at hx119_5); replace hx119_0 := (HB.out.cell (wlt_ w _ hx119_0)).trans hx119_0; replace hx119_1 := (HB.out.cell (wlt_ w _ hx119_1)).trans hx119_1; replace hx119_2 := (HB.out.cell (wlt_ w _ hx119_2)).trans hx119_2; replace hx119_3 := (HB.out.cell (wlt_ w _ hx119_3)).trans hx119_3; replace hx119_4 := (HB.out.cell (wlt_ w _ hx119_4)).trans hx119_4; replace hx119_5 := (HB.out.cell (wlt_ w _ hx119_5)).trans hx119_5; have HR119_3 := Aside0.mk hi119_3; have HC119_3 := Aside0.mk hl119_3; clear hi119_3 hl119_3; have HR119_4 := Aside0.mk hi119_4; have HC119_4 := Aside0.mk hl119_4; clear hi119_4 hl119_4; have HR119_5 := Aside0.mk hi119_5; have HC119_5 := Aside0.mk hl119_5; clear hi119_5 hl119_5; replace p119 := eq_true p119; replace q119 := eq_true q119) | ((with_reducible refine gate_callee (f := 25) rfl ?_); refine goesL_ (some 50) rfl rfl Try.func25 (by kernel_rfl) rfl #[.agg #[.int .i64 ((rd_T32 m5 0).f0), .int .i64 ((rd_T32 m5 0).f1), .bool ((rd_T32 m5 0).f2.f0), .slice A119_3 ((rd_T32 m5 0).f2.f1).length c119_3, .slice A119_4 ((rd_T32 m5 0).f2.f2).length c119_4, .slice A119_5 ((rd_T32 m5 0).f3).length c119_5], .slice A1 l1.length c1] rfl (by (try simp only [List.map_toArray, List.map_cons, List.map_nil]); first | done | rfl | (simp only [List.length_drop, List.length_take]; rfl)) ?_; (with_reducible refine (ih k (by omega) ((rd_T32 m5 0).f0) ((rd_T32 m5 0).f1) ((rd_T32 m5 0).f2.f0) _ _ ((rd_T32 m5 0).f2.f1) _ _ ((rd_T32 m5 0).f2.f2) _ _ ((rd_T32 m5 0).f3) _ _ l1 t120 _ ?side1 ?side2 ?side3 ?side4 ?side5 ?side6 ?side7 ?side8 A35.out).mono ?_); (case side1 => repeat (first | exact (Kd.C_below HR119_3.out HB.out) | (with_reducible refine Kd.C_alloc ?_ _) | (with_reducible refine Kd.C_drewN ?_ _) | (with_reducible refine Kd.C_drew ?_))); (case side2 => exact HC119_3.out); (case side3 => repeat (first | exact (Kd.C_below HR119_4.out HB.out) | (with_reducible refine Kd.C_alloc ?_ _) | (with_reducible refine Kd.C_drewN ?_ _) | (with_reducible refine Kd.C_drew ?_))); (case side4 => exact HC119_4.out); (case side5 => repeat (first | exact (Kd.C_below HR119_5.out HB.out) | (with_reducible refine Kd.C_alloc ?_ _) | (with_reducible refine Kd.C_drewN ?_ _) | (with_reducible refine Kd.C_drew ?_))); (case side6 => exact HC119_5.out); (case side7 => repeat (first | exact (Kd.C_below HR1.out HB.out) | (with_reducible refine Kd.C_alloc ?_ _) | (with_reducible refine Kd.C_drewN ?_ _) | (with_reducible refine Kd.C_drew ?_))); (case side8 => exact HC1.out); rintro e w39 ⟨rfl, hb⟩; refine ⟨_, rfl, ?_⟩; replace BK109 := Aside0.mk (blk_below (g := gb109) (o := .cells #[.int .i64 v0, .int .i64 v1, .bool v2, .slice B3 m3.length k_3, .slice B4 m4.length k_4, .slice (some ad119) m5.length k_5] 32 (0, 0)) bk_ hb); replace HB := Aside0.mk (below_step bl_ hb); (try clear hb); (try clear hb2); (try clear hk); (try clear hi)) | ((with_reducible refine gate_callee (f := 20) rfl ?_); refine goesL_ (some 52) rfl rfl Try.func20 (by kernel_rfl) rfl #[.bool (t120 == 0)] rfl (by (try simp only [List.map_toArray, List.map_cons, List.map_nil]); first | done | rfl | (simp only [List.length_drop, List.length_take]; rfl)) ?_; (with_reducible refine (core_truth.calls (t120 == 0) t121 _ A36.out).mono ?_); rintro e w' ⟨rfl, ⟨nd, rfl⟩⟩; refine ⟨_, rfl, ?_⟩))
      go_ret; exact ⟨re_, bl_⟩
     ·rw [if_neg c34] at H; exact absurd H (by simp)
    ·rw [if_neg c33] at H; have c33b0 : (v0 == 4) = false := beq_eq_false_iff_ne.mpr c33; have c33b1 : (v0 != 4) = true := bne_iff_ne.mpr c33; by_cases c40 : 0 < (m5.length : Int)
     ·rw [if_pos c40] at H; have c40b0 : decide (0 < (m5.length : Int)) = true := decide_eq_true c40; have c40b1 : decide (0 < m5.length) = true := decide_eq_true (by omega); clear c40; replace H := Option.bind_eq_some_iff.mp H; obtain ⟨t123, A410, H⟩ := H; replace H : (if 1 < (m5.length : Int) then ((core_eval.f k ((rd_T32 m5 1).f0) ((rd_T32 m5 1).f1) ((rd_T32 m5 1).f2.f0) ((rd_T32 m5 1).f2.f1) ((rd_T32 m5 1).f2.f2) ((rd_T32 m5 1).f3) l1).bind fun t125 => (if v0 = 5 then (if t123 = 0 then ((core_truth.f false).bind fun t126 => (some t126)) else ((core_truth.f (t125 != 0)).bind fun t127 => (some t127))) else (if v0 = 6 then (if t123 = 0 then ((core_truth.f (t125 != 0)).bind fun t128 => (some t128)) else ((core_truth.f true).bind fun t129 => (some t129))) else (if v0 = 7 then ((core_truth.f (t123 == t125)).bind fun t130 => (some t130)) else (if v0 = 8 then ((core_truth.f (decide (t123 < t125))).bind fun t131 => (some t131)) else (if v0 = 9 then ((core_truth.f (decide (t123 ≤ t125))).bind fun t132 => (some t132)) else (if v0 = 10 then ((core_saturate.f (wrap64 (t123 + t125))).bind fun t133 => (some t133)) else (if v0 = 11 then ((core_saturate.f (wrap64 (t123 - t125))).bind fun t134 => (some t134)) else ((core_saturate.f (wrap64 (t123 * t125))).bind fun t135 => (some t135)))))))))) else (none)) = some r := H; have A41 := Aside0.mk A410; clear A410; by_cases c42 : 1 < (m5.length : Int)
      ·rw [if_pos c42] at H; have c42b0 : decide (1 < (m5.length : Int)) = true := decide_eq_true c42; have c42b1 : decide (1 < m5.length) = true := decide_eq_true (by omega); clear c42; replace H := Option.bind_eq_some_iff.mp H; obtain ⟨t125, A430, H⟩ := H; replace H : (if v0 = 5 then (if t123 = 0 then ((core_truth.f false).bind fun t126 => (some t126)) else ((core_truth.f (t125 != 0)).bind fun t127 => (some t127))) else (if v0 = 6 then (if t123 = 0 then ((core_truth.f (t125 != 0)).bind fun t128 => (some t128)) else ((core_truth.f true).bind fun t129 => (some t129))) else (if v0 = 7 then ((core_truth.f (t123 == t125)).bind fun t130 => (some t130)) else (if v0 = 8 then ((core_truth.f (decide (t123 < t125))).bind fun t131 => (some t131)) else (if v0 = 9 then ((core_truth.f (decide (t123 ≤ t125))).bind fun t132 => (some t132)) else (if v0 = 10 then ((core_saturate.f (wrap64 (t123 + t125))).bind fun t133 => (some t133)) else (if v0 = 11 then ((core_saturate.f (wrap64 (t123 - t125))).bind fun t134 => (some t134)) else ((core_saturate.f (wrap64 (t123 * t125))).bind fun t135 => (some t135))))))))) = some r := H; have A43 := Aside0.mk A430; clear A430; by_cases c44 : v0 = 5
       ·rw [if_pos c44] at H; have c44b0 : (v0 == 5) = true := beq_iff_eq.mpr c44; have c44b1 : (v0 != 5) = false := bne_eq_false_iff_eq.mpr c44; clear c44; by_cases c45 : t123 = 0
        ·rw [if_pos c45] at H; have c45b0 : (t123 == 0) = true := beq_iff_eq.mpr c45; have c45b1 : (t123 != 0) = false := bne_eq_false_iff_eq.mpr c45; clear c45; replace H := Option.bind_eq_some_iff.mp H; obtain ⟨t126, A460, H⟩ := H; replace H : (some t126) = some r := H; have A46 := Aside0.mk A460; clear A460; obtain rfl := Option.some.inj H; go_enter Try.func25, Try.ntmps25; try go_wp2_with (first | ((with_reducible refine gate_dst (N := 2) rfl ?_); refine box_event ?hg (N := 2) ?hd (cs := #[.int .i64 v0, .int .i64 v1, .bool v2, .slice B3 m3.length k_3, .slice B4 m4.length k_4, .slice B5 m5.length k_5]) (t := 32) ?hr ?_; (case hd => rfl); (case hg => rfl); (case hr => first | (go_simp; done) | (go_simp; rfl)); intro gb109 hg w47 hbox hb; have BK109 := Aside0.mk (hbox); have GW109 : Aside0 (w.heap.size ≤ gb109) := gw_ hg (below_size bl_); have GE109 := GW109; replace HB := Aside0.mk (below_step bl_ hb); clear hb hbox hg; obtain ⟨hcz48_0, hcz48_1, hcz48_2, hcz48_3, hcz48_4, hcz48_5, hfz48_0, hfz48_1, hfz48_2, hfz48_3, hfz48_4, hfz48_5⟩ := cf6_ BK109.out))
         replace BK109 := Aside0.mk (blk_drew BK109.out); replace HB := Aside0.mk (below_drew1 HB.out); have p122 : 0 ≤ (0 : Int) := (by omega); have q122 : 0 < (m5.length : Int) := dt_; obtain ⟨ad122, A122_3, c122_3, A122_4, c122_4, A122_5, c122_5, e122, hx122_0, hx122_1, hx122_2, hx122_3, hx122_4, hx122_5, hl122_3, hi122_3, hl122_4, hi122_4, hl122_5, hi122_5⟩ := at_T32 X5.out 0 p122 q122; have hw122_5 := hx122_5; (try rw [show ((0 : Int)).toNat = 0 from rfl] at hw122_5)
         (try rw [show 0 * 6 = 0 from rfl] at hw122_5)
         (try rw [Addr.add_zero'] at hw122_5)
         have hw122_4 := hx122_4; (try rw [show ((0 : Int)).toNat = 0 from rfl] at hw122_4)
         (try rw [show 0 * 6 = 0 from rfl] at hw122_4)
         (try rw [Addr.add_zero'] at hw122_4)
         have hw122_3 := hx122_3; (try rw [show ((0 : Int)).toNat = 0 from rfl] at hw122_3)
         (try rw [show 0 * 6 = 0 from rfl] at hw122_3)
         (try rw [Addr.add_zero'] at hw122_3)
         have hw122_2 := hx122_2; (try rw [show ((0 : Int)).toNat = 0 from rfl] at hw122_2)
         (try rw [show 0 * 6 = 0 from rfl] at hw122_2)
         (try rw [Addr.add_zero'] at hw122_2)
         have hw122_1 := hx122_1; (try rw [show ((0 : Int)).toNat = 0 from rfl] at hw122_1)
         (try rw [show 0 * 6 = 0 from rfl] at hw122_1)
         (try rw [Addr.add_zero'] at hw122_1)
         have hw122_0 := hx122_0; (try rw [show ((0 : Int)).toNat = 0 from rfl] at hw122_0)
         (try rw [show 0 * 6 = 0 from rfl] at hw122_0)
         (try rw [Addr.add_zero'] at hw122_0)
         cases e122; have qi122 : (0 < m5.length) = True := eq_true (by omega); (try rw [show ((0 : Int)).toNat = 0 from rfl] at hx122_0)
         (try rw [show 0 * 6 = 0 from rfl] at hx122_0)
         (try rw [Addr.add_zero'] at hx122_0)
         (try rw [show ((0 : Int)).toNat = 0 from rfl] at hx122_1)
         (try rw [show 0 * 6 = 0 from rfl] at hx122_1)
         (try rw [Addr.add_zero'] at hx122_1)
         (try rw [show ((0 : Int)).toNat = 0 from rfl] at hx122_2)
         (try rw [show 0 * 6 = 0 from rfl] at hx122_2)
         (try rw [Addr.add_zero'] at hx122_2)
         (try rw [show ((0 : Int)).toNat = 0 from rfl] at hx122_3)
         (try rw [show 0 * 6 = 0 from rfl] at hx122_3)
         (try rw [Addr.add_zero'] at hx122_3)
         (try rw [show ((0 : Int)).toNat = 0 from rfl] at hx122_4)
         (try rw [show 0 * 6 = 0 from rfl] at hx122_4)
         (try rw [Addr.add_zero'] at hx122_4)
         (try rw [show ((0 : Int)).toNat = 0 from rfl] at hx122_5)
         (try rw [show 0 * 6 = 0 from rfl] at hx122_5)
         (try rw [Addr.add_zero'] at hx122_5)
         replace hx122_0 := (HB.out.cell (wlt_ w _ hx122_0)).trans hx122_0; replace hx122_1 := (HB.out.cell (wlt_ w _ hx122_1)).trans hx122_1; replace hx122_2 := (HB.out.cell (wlt_ w _ hx122_2)).trans hx122_2; replace hx122_3 := (HB.out.cell (wlt_ w _ hx122_3)).trans hx122_3; replace hx122_4 := (HB.out.cell (wlt_ w _ hx122_4)).trans hx122_4; replace hx122_5 := (HB.out.cell (wlt_ w _ hx122_5)).trans hx122_5; have HR122_3 := Aside0.mk hi122_3; have HC122_3 := Aside0.mk hl122_3; clear hi122_3 hl122_3; have HR122_4 := Aside0.mk hi122_4; have HC122_4 := Aside0.mk hl122_4; clear hi122_4 hl122_4; have HR122_5 := Aside0.mk hi122_5; have HC122_5 := Aside0.mk hl122_5; clear hi122_5 hl122_5; replace p122 := eq_true p122; replace q122 := eq_true q122; have p124 : 0 ≤ (1 : Int) := (by omega); have q124 : 1 < (m5.length : Int) := dt_; obtain ⟨ad124, A124_3, c124_3, A124_4, c124_4, A124_5, c124_5, e124, hx124_0, hx124_1, hx124_2, hx124_3, hx124_4, hx124_5, hl124_3, hi124_3, hl124_4, hi124_4, hl124_5, hi124_5⟩ := at_T32 X5.out 1 p124 q124; have hw124_5 := hx124_5; (try rw [show ((1 : Int)).toNat = 1 from rfl] at hw124_5)
         (try rw [show 1 * 6 = 6 from rfl] at hw124_5)
         (try simp only [Nat.reduceMul, Nat.reduceEqDiff, Go.Addr.add, ↓reduceIte] at hw124_5)
         have hw124_4 := hx124_4; (try rw [show ((1 : Int)).toNat = 1 from rfl] at hw124_4)
         (try rw [show 1 * 6 = 6 from rfl] at hw124_4)
         (try simp only [Nat.reduceMul, Nat.reduceEqDiff, Go.Addr.add, ↓reduceIte] at hw124_4)
         have hw124_3 := hx124_3; (try rw [show ((1 : Int)).toNat = 1 from rfl] at hw124_3)
         (try rw [show 1 * 6 = 6 from rfl] at hw124_3)
         (try simp only [Nat.reduceMul, Nat.reduceEqDiff, Go.Addr.add, ↓reduceIte] at hw124_3)
         have hw124_2 := hx124_2; (try rw [show ((1 : Int)).toNat = 1 from rfl] at hw124_2)
         (try rw [show 1 * 6 = 6 from rfl] at hw124_2)
         (try simp only [Nat.reduceMul, Nat.reduceEqDiff, Go.Addr.add, ↓reduceIte] at hw124_2)
         have hw124_1 := hx124_1; (try rw [show ((1 : Int)).toNat = 1 from rfl] at hw124_1)
         (try rw [show 1 * 6 = 6 from rfl] at hw124_1)
         (try simp only [Nat.reduceMul, Nat.reduceEqDiff, Go.Addr.add, ↓reduceIte] at hw124_1)
         have hw124_0 := hx124_0; (try rw [show ((1 : Int)).toNat = 1 from rfl] at hw124_0)
         (try rw [show 1 * 6 = 6 from rfl] at hw124_0)
         (try simp only [Nat.reduceMul, Nat.reduceEqDiff, Go.Addr.add, ↓reduceIte] at hw124_0)
         obtain rfl : ad122 = ad124 := (by injection e124); (try simp only [show (1 : Int).toNat = 1 from rfl, Nat.reduceMul, Nat.reduceEqDiff, Go.Addr.add, ↓reduceIte] at hx124_0)
         (try simp only [show (1 : Int).toNat = 1 from rfl, Nat.reduceMul, Nat.reduceEqDiff, Go.Addr.add, ↓reduceIte] at hx124_1)
         (try simp only [show (1 : Int).toNat = 1 from rfl, Nat.reduceMul, Nat.reduceEqDiff, Go.Addr.add, ↓reduceIte] at hx124_2)
         (try simp only [show (1 : Int).toNat = 1 from rfl, Nat.reduceMul, Nat.reduceEqDiff, Go.Addr.add, ↓reduceIte] at hx124_3)
         (try simp only [show (1 : Int).toNat = 1 from rfl, Nat.reduceMul, Nat.reduceEqDiff, Go.Addr.add, ↓reduceIte] at hx124_4)
         (try simp only [show (1 : Int).toNat = 1 from rfl, Nat.reduceMul, Nat.reduceEqDiff, Go.Addr.add, ↓reduceIte] at hx124_5)
         have qi124 : (1 < m5.length) = True := eq_true (by omega); (try rw [show ((1 : Int)).toNat = 1 from rfl] at hx124_0)
         (try rw [show 1 * 6 = 6 from rfl] at hx124_0)
         (try rw [show ((1 : Int)).toNat = 1 from rfl] at hx124_1)
         (try rw [show 1 * 6 = 6 from rfl] at hx124_1)
         (try rw [show ((1 : Int)).toNat = 1 from rfl] at hx124_2)
         (try rw [show 1 * 6 = 6 from rfl] at hx124_2)
         (try rw [show ((1 : Int)).toNat = 1 from rfl] at hx124_3)
         (try rw [show 1 * 6 = 6 from rfl] at hx124_3)
         (try rw [show ((1 : Int)).toNat = 1 from rfl] at hx124_4)
         (try rw [show 1 * 6 = 6 from rfl] at hx124_4)
         (try rw [show ((1 : Int)).toNat = 1 from rfl] at hx124_5)
         (try rw [show 1 * 6 = 6 from rfl] at hx124_5)
         replace hx124_0 := (HB.out.cell (wlt_ w _ hx124_0)).trans hx124_0; replace hx124_1 := (HB.out.cell (wlt_ w _ hx124_1)).trans hx124_1; replace hx124_2 := (HB.out.cell (wlt_ w _ hx124_2)).trans hx124_2; replace hx124_3 := (HB.out.cell (wlt_ w _ hx124_3)).trans hx124_3; replace hx124_4 := (HB.out.cell (wlt_ w _ hx124_4)).trans hx124_4; replace hx124_5 := (HB.out.cell (wlt_ w _ hx124_5)).trans hx124_5; have HR124_3 := Aside0.mk hi124_3; have HC124_3 := Aside0.mk hl124_3; clear hi124_3 hl124_3; have HR124_4 := Aside0.mk hi124_4; have HC124_4 := Aside0.mk hl124_4; clear hi124_4 hl124_4; have HR124_5 := Aside0.mk hi124_5; have HC124_5 := Aside0.mk hl124_5; clear hi124_5 hl124_5; replace p124 := eq_true p124; replace q124 := eq_true q124; refine start_ (n := 14) (S := fun w' => w'.cell? ⟨gb109, 0, none⟩ = some (.int .i64 v0) ∧ w'.cell? ⟨gb109, 1, none⟩ = some (.int .i64 v1) ∧ w'.cell? ⟨gb109, 2, none⟩ = some (.bool v2) ∧ w'.cell? ⟨gb109, 3, none⟩ = some (.slice B3 m3.length k_3) ∧ w'.cell? ⟨gb109, 4, none⟩ = some (.slice B4 m4.length k_4) ∧ w'.cell? ⟨gb109, 5, none⟩ = some (.slice (some ad122) m5.length k_5) ∧ w'.cell? ad122 = some (.int .i64 ((rd_T32 m5 0).f0)) ∧ w'.cell? ⟨ad122.block, ad122.off + 1, none⟩ = some (.int .i64 ((rd_T32 m5 0).f1)) ∧ w'.cell? ⟨ad122.block, ad122.off + 2, none⟩ = some (.bool ((rd_T32 m5 0).f2.f0)) ∧ w'.cell? ⟨ad122.block, ad122.off + 3, none⟩ = some (.slice A122_3 ((rd_T32 m5 0).f2.f1).length c122_3) ∧ w'.cell? ⟨ad122.block, ad122.off + 4, none⟩ = some (.slice A122_4 ((rd_T32 m5 0).f2.f2).length c122_4) ∧ w'.cell? ⟨ad122.block, ad122.off + 5, none⟩ = some (.slice A122_5 ((rd_T32 m5 0).f3).length c122_5) ∧ w'.cell? ⟨ad122.block, ad122.off + 6, none⟩ = some (.int .i64 ((rd_T32 m5 1).f0)) ∧ w'.cell? ⟨ad122.block, ad122.off + 6 + 1, none⟩ = some (.int .i64 ((rd_T32 m5 1).f1)) ∧ w'.cell? ⟨ad122.block, ad122.off + 6 + 2, none⟩ = some (.bool ((rd_T32 m5 1).f2.f0)) ∧ w'.cell? ⟨ad122.block, ad122.off + 6 + 3, none⟩ = some (.slice A124_3 ((rd_T32 m5 1).f2.f1).length c124_3) ∧ w'.cell? ⟨ad122.block, ad122.off + 6 + 4, none⟩ = some (.slice A124_4 ((rd_T32 m5 1).f2.f2).length c124_4) ∧ w'.cell? ⟨ad122.block, ad122.off + 6 + 5, none⟩ = some (.slice A124_5 ((rd_T32 m5 1).f3).length c124_5)) (ds := []) #[false, false, false, false, false, false, false, false, false, false, false, false, false, false] (by kernel_rfl) rfl rfl ⟨(blk_cell BK109.out 0).trans rfl, (blk_cell BK109.out 1).trans rfl, (blk_cell BK109.out 2).trans rfl, (blk_cell BK109.out 3).trans rfl, (blk_cell BK109.out 4).trans rfl, (blk_cell BK109.out 5).trans rfl, ((HB.out.cell (wlt_ w _ hw122_0)).trans hw122_0), ((HB.out.cell (wlt_ w _ hw122_1)).trans hw122_1), ((HB.out.cell (wlt_ w _ hw122_2)).trans hw122_2), ((HB.out.cell (wlt_ w _ hw122_3)).trans hw122_3), ((HB.out.cell (wlt_ w _ hw122_4)).trans hw122_4), ((HB.out.cell (wlt_ w _ hw122_5)).trans hw122_5), ((HB.out.cell (wlt_ w _ hw124_0)).trans hw124_0), ((HB.out.cell (wlt_ w _ hw124_1)).trans hw124_1), ((HB.out.cell (wlt_ w _ hw124_2)).trans hw124_2), ((HB.out.cell (wlt_ w _ hw124_3)).trans hw124_3), ((HB.out.cell (wlt_ w _ hw124_4)).trans hw124_4), ((HB.out.cell (wlt_ w _ hw124_5)).trans hw124_5)⟩ (fun hHeld => ?_); refine with_tabW core_eval.tab12 core_eval.bits12 (fun HT_ HW_ => ?_)
         generalize w47.drew = w49 at BK109 HB HR122_3 HR122_4 HR122_5 HR124_3 HR124_4 HR124_5 hx122_0 hx122_1 hx122_2 hx122_3 hx122_4 hx122_5 hx124_0 hx124_1 hx124_2 hx124_3 hx124_4 hx124_5 hHeld ⊢
         refine pure_ (i := 0) (N := some 53) (v := ?_) (a' := ?_) #[true, false, false, false, false, false, false, false, false, false, false, false, false, false] rfl rfl (any_of HT_.out (by kernel_rfl)) (fun _ _ _ h => h) (Or.inl ⟨by rfl, ?_⟩) ?_ ?_
         rotate_left
         ·intro w'; go_simp; with_reducible rfl
         rotate_left
         ·simp only [Act.put, lsa_, List.set_cons_zero, List.set_cons_succ, i64_w, i32_w]; rfl
         refine pure_ (i := 4) (N := some 57) (v := ?_) (a' := ?_) #[true, false, false, false, true, false, false, false, false, false, false, false, false, false] rfl rfl (any_of HT_.out (by kernel_rfl)) (fun _ _ _ h => h) (Or.inl ⟨by rfl, ?_⟩) ?_ ?_
         rotate_left
         ·intro w'; go_simp; with_reducible rfl
         rotate_left
         ·simp only [Act.put, lsa_, List.set_cons_zero, List.set_cons_succ, i64_w, i32_w]; rfl
         refine pure_ (i := 6) (N := some 59) (v := ?_) (a' := ?_) #[true, false, false, false, true, false, true, false, false, false, false, false, false, false] rfl rfl (any_of HT_.out (by kernel_rfl)) (fun _ _ _ h => h) (Or.inl ⟨by rfl, ?_⟩) ?_ ?_
         rotate_left
         ·intro w'; go_simp; with_reducible rfl
         rotate_left
         ·simp only [Act.put, lsa_, List.set_cons_zero, List.set_cons_succ, i64_w, i32_w]; rfl
         refine pure_ (i := 10) (N := some 63) (v := ?_) (a' := ?_) #[true, false, false, false, true, false, true, false, false, false, true, false, false, false] rfl rfl (any_of HT_.out (by kernel_rfl)) (fun _ _ _ h => h) (Or.inl ⟨by rfl, ?_⟩) ?_ ?_
         rotate_left
         ·intro w'; go_simp; with_reducible rfl
         rotate_left
         ·simp only [Act.put, lsa_, List.set_cons_zero, List.set_cons_succ, i64_w, i32_w]; rfl
         refine take_ (i := 1) (N := some 54) (v := ?_) (a' := ?_) #[true, true, false, false, true, false, true, false, false, false, true, false, false, false] rfl rfl (take_ofW HT_.out HW_.out (by kernel_rfl)) (fun _ _ _ h => h) (Or.inl ⟨by rfl, ?_⟩) hHeld ?_ ?_
         rotate_left
         ·rintro w' ⟨s0, s1, s2, s3, s4, s5, s6, s7, s8, s9, s10, s11, s12, s13, s14, s15, s16, s17⟩
          go_simp; with_reducible rfl
         rotate_left
         ·simp only [Act.put, lsa_, List.set_cons_zero, List.set_cons_succ, i64_w, i32_w]; rfl
         refine pure_ (i := 2) (N := some 55) (v := ?_) (a' := ?_) #[true, true, true, false, true, false, true, false, false, false, true, false, false, false] rfl rfl (any_of HT_.out (by kernel_rfl)) (fun _ _ _ h => h) (Or.inl ⟨by rfl, ?_⟩) ?_ ?_
         rotate_left
         ·intro w'; go_simp; with_reducible rfl
         rotate_left
         ·simp only [Act.put, lsa_, List.set_cons_zero, List.set_cons_succ, i64_w, i32_w]; rfl
         refine take_ (i := 3) (N := some 56) (v := ?_) (a' := ?_) #[true, true, true, true, true, false, true, false, false, false, true, false, false, false] rfl rfl (take_ofW HT_.out HW_.out (by kernel_rfl)) (fun _ _ _ h => h) (Or.inl ⟨by rfl, ?_⟩) hHeld ?_ ?_
         rotate_left
         ·rintro w' ⟨s0, s1, s2, s3, s4, s5, s6, s7, s8, s9, s10, s11, s12, s13, s14, s15, s16, s17⟩
          go_simp; with_reducible rfl
         rotate_left
         ·simp only [Act.put, lsa_, List.set_cons_zero, List.set_cons_succ, i64_w, i32_w]; rfl
         refine take_ (i := 7) (N := some 60) (v := ?_) (a' := ?_) #[true, true, true, true, true, false, true, true, false, false, true, false, false, false] rfl rfl (take_ofW HT_.out HW_.out (by kernel_rfl)) (fun _ _ _ h => h) (Or.inl ⟨by rfl, ?_⟩) hHeld ?_ ?_
         rotate_left
         ·rintro w' ⟨s0, s1, s2, s3, s4, s5, s6, s7, s8, s9, s10, s11, s12, s13, s14, s15, s16, s17⟩
          go_simp; with_reducible rfl
         rotate_left
         ·simp only [Act.put, lsa_, List.set_cons_zero, List.set_cons_succ, i64_w, i32_w]; rfl
         refine pure_ (i := 8) (N := some 61) (v := ?_) (a' := ?_) #[true, true, true, true, true, false, true, true, true, false, true, false, false, false] rfl rfl (any_of HT_.out (by kernel_rfl)) (fun _ _ _ h => h) (Or.inl ⟨by rfl, ?_⟩) ?_ ?_
         rotate_left
         ·intro w'; go_simp; with_reducible rfl
         rotate_left
         ·simp only [Act.put, lsa_, List.set_cons_zero, List.set_cons_succ, i64_w, i32_w]; rfl
         refine take_ (i := 9) (N := some 62) (v := ?_) (a' := ?_) #[true, true, true, true, true, false, true, true, true, true, true, false, false, false] rfl rfl (take_ofW HT_.out HW_.out (by kernel_rfl)) (fun _ _ _ h => h) (Or.inl ⟨by rfl, ?_⟩) hHeld ?_ ?_
         rotate_left
         ·rintro w' ⟨s0, s1, s2, s3, s4, s5, s6, s7, s8, s9, s10, s11, s12, s13, s14, s15, s16, s17⟩
          go_simp; with_reducible rfl
         rotate_left
         ·simp only [Act.put, lsa_, List.set_cons_zero, List.set_cons_succ, i64_w, i32_w]; rfl
         refine one_ (i := 5) (N := some 58) #[true, true, true, true, true, true, true, true, true, true, true, false, false, false] rfl rfl (one_of HT_.out (by kernel_rfl)) (by decide) (fun K hK => ?_)
         refine goes_ Try.func25 (by kernel_rfl) rfl #[.agg #[.int .i64 ((rd_T32 m5 0).f0), .int .i64 ((rd_T32 m5 0).f1), .bool ((rd_T32 m5 0).f2.f0), .slice A122_3 ((rd_T32 m5 0).f2.f1).length c122_3, .slice A122_4 ((rd_T32 m5 0).f2.f2).length c122_4, .slice A122_5 ((rd_T32 m5 0).f3).length c122_5], .slice A1 l1.length c1] (by rfl) rfl rfl (by (try simp only [List.map_toArray, List.map_cons, List.map_nil]); first | done | rfl | (simp only [List.length_drop, List.length_take]; rfl)) ?_
         with_reducible refine (ih k (by omega) ((rd_T32 m5 0).f0) ((rd_T32 m5 0).f1) ((rd_T32 m5 0).f2.f0) _ _ ((rd_T32 m5 0).f2.f1) _ _ ((rd_T32 m5 0).f2.f2) _ _ ((rd_T32 m5 0).f3) _ _ l1 t123 _ ?side1 ?side2 ?side3 ?side4 ?side5 ?side6 ?side7 ?side8 A41.out).mono ?_
         (case side1 => repeat (first | exact (Kd.C_below HR122_3.out HB.out) | (with_reducible refine Kd.C_alloc ?_ _) | (with_reducible refine Kd.C_drewN ?_ _) | (with_reducible refine Kd.C_drew ?_)))
         (case side2 => exact HC122_3.out)
         (case side3 => repeat (first | exact (Kd.C_below HR122_4.out HB.out) | (with_reducible refine Kd.C_alloc ?_ _) | (with_reducible refine Kd.C_drewN ?_ _) | (with_reducible refine Kd.C_drew ?_)))
         (case side4 => exact HC122_4.out)
         (case side5 => repeat (first | exact (Kd.C_below HR122_5.out HB.out) | (with_reducible refine Kd.C_alloc ?_ _) | (with_reducible refine Kd.C_drewN ?_ _) | (with_reducible refine Kd.C_drew ?_)))
         (case side6 => exact HC122_5.out)
         (case side7 => repeat (first | exact (Kd.C_below HR1.out HB.out) | (with_reducible refine Kd.C_alloc ?_ _) | (with_reducible refine Kd.C_drewN ?_ _) | (with_reducible refine Kd.C_drew ?_)))
         (case side8 => exact HC1.out)
         rintro e w50 ⟨rfl, hb⟩
         refine ⟨_, rfl, ?_⟩
         replace BK109 := Aside0.mk (blk_below (g := gb109) (o := .cells #[.int .i64 v0, .int .i64 v1, .bool v2, .slice B3 m3.length k_3, .slice B4 m4.length k_4, .slice (some ad122) m5.length k_5] 32 (0, 0)) bk_ hb); replace HB := Aside0.mk (below_step bl_ hb); (try clear hb)
         (try clear hb2)
         (try clear hk)
         (try clear hi)
         refine hK.out _ _ ⟨(blk_cell BK109.out 0).trans rfl, (blk_cell BK109.out 1).trans rfl, (blk_cell BK109.out 2).trans rfl, (blk_cell BK109.out 3).trans rfl, (blk_cell BK109.out 4).trans rfl, (blk_cell BK109.out 5).trans rfl, ((HB.out.cell (wlt_ w _ hw122_0)).trans hw122_0), ((HB.out.cell (wlt_ w _ hw122_1)).trans hw122_1), ((HB.out.cell (wlt_ w _ hw122_2)).trans hw122_2), ((HB.out.cell (wlt_ w _ hw122_3)).trans hw122_3), ((HB.out.cell (wlt_ w _ hw122_4)).trans hw122_4), ((HB.out.cell (wlt_ w _ hw122_5)).trans hw122_5), ((HB.out.cell (wlt_ w _ hw124_0)).trans hw124_0), ((HB.out.cell (wlt_ w _ hw124_1)).trans hw124_1), ((HB.out.cell (wlt_ w _ hw124_2)).trans hw124_2), ((HB.out.cell (wlt_ w _ hw124_3)).trans hw124_3), ((HB.out.cell (wlt_ w _ hw124_4)).trans hw124_4), ((HB.out.cell (wlt_ w _ hw124_5)).trans hw124_5)⟩ (fun hHeld => ?_)
         clear hK K; refine norm_ (a' := ?_) ?_ ?_
         rotate_left
         ·show Act.put _ (some 58) _ = _
          simp only [Act.put, lsa_, List.set_cons_zero, List.set_cons_succ, i64_w, i32_w]; rfl
         refine one_ (i := 11) (N := some 64) #[true, true, true, true, true, true, true, true, true, true, true, true, false, false] rfl rfl (one_of HT_.out (by kernel_rfl)) (by decide) (fun K hK => ?_)
         refine goes_ Try.func25 (by kernel_rfl) rfl #[.agg #[.int .i64 ((rd_T32 m5 1).f0), .int .i64 ((rd_T32 m5 1).f1), .bool ((rd_T32 m5 1).f2.f0), .slice A124_3 ((rd_T32 m5 1).f2.f1).length c124_3, .slice A124_4 ((rd_T32 m5 1).f2.f2).length c124_4, .slice A124_5 ((rd_T32 m5 1).f3).length c124_5], .slice A1 l1.length c1] (by rfl) rfl rfl (by (try simp only [List.map_toArray, List.map_cons, List.map_nil]); first | done | rfl | (simp only [List.length_drop, List.length_take]; rfl)) ?_
         with_reducible refine (ih k (by omega) ((rd_T32 m5 1).f0) ((rd_T32 m5 1).f1) ((rd_T32 m5 1).f2.f0) _ _ ((rd_T32 m5 1).f2.f1) _ _ ((rd_T32 m5 1).f2.f2) _ _ ((rd_T32 m5 1).f3) _ _ l1 t125 _ ?side1 ?side2 ?side3 ?side4 ?side5 ?side6 ?side7 ?side8 A43.out).mono ?_
         (case side1 => repeat (first | exact (Kd.C_below HR124_3.out HB.out) | (with_reducible refine Kd.C_alloc ?_ _) | (with_reducible refine Kd.C_drewN ?_ _) | (with_reducible refine Kd.C_drew ?_)))
         (case side2 => exact HC124_3.out)
         (case side3 => repeat (first | exact (Kd.C_below HR124_4.out HB.out) | (with_reducible refine Kd.C_alloc ?_ _) | (with_reducible refine Kd.C_drewN ?_ _) | (with_reducible refine Kd.C_drew ?_)))
         (case side4 => exact HC124_4.out)
         (case side5 => repeat (first | exact (Kd.C_below HR124_5.out HB.out) | (with_reducible refine Kd.C_alloc ?_ _) | (with_reducible refine Kd.C_drewN ?_ _) | (with_reducible refine Kd.C_drew ?_)))
         (case side6 => exact HC124_5.out)
         (case side7 => repeat (first | exact (Kd.C_below HR1.out HB.out) | (with_reducible refine Kd.C_alloc ?_ _) | (with_reducible refine Kd.C_drewN ?_ _) | (with_reducible refine Kd.C_drew ?_)))
         (case side8 => exact HC1.out)
         rintro e w51 ⟨rfl, hb⟩
         refine ⟨_, rfl, ?_⟩
         replace BK109 := Aside0.mk (blk_below (g := gb109) (o := .cells #[.int .i64 v0, .int .i64 v1, .bool v2, .slice B3 m3.length k_3, .slice B4 m4.length k_4, .slice (some ad122) m5.length k_5] 32 (0, 0)) bk_ hb); replace HB := Aside0.mk (below_step bl_ hb); (try clear hb)
         (try clear hb2)
         (try clear hk)
         (try clear hi)
         refine hK.out _ _ ⟨(blk_cell BK109.out 0).trans rfl, (blk_cell BK109.out 1).trans rfl, (blk_cell BK109.out 2).trans rfl, (blk_cell BK109.out 3).trans rfl, (blk_cell BK109.out 4).trans rfl, (blk_cell BK109.out 5).trans rfl, ((HB.out.cell (wlt_ w _ hw122_0)).trans hw122_0), ((HB.out.cell (wlt_ w _ hw122_1)).trans hw122_1), ((HB.out.cell (wlt_ w _ hw122_2)).trans hw122_2), ((HB.out.cell (wlt_ w _ hw122_3)).trans hw122_3), ((HB.out.cell (wlt_ w _ hw122_4)).trans hw122_4), ((HB.out.cell (wlt_ w _ hw122_5)).trans hw122_5), ((HB.out.cell (wlt_ w _ hw124_0)).trans hw124_0), ((HB.out.cell (wlt_ w _ hw124_1)).trans hw124_1), ((HB.out.cell (wlt_ w _ hw124_2)).trans hw124_2), ((HB.out.cell (wlt_ w _ hw124_3)).trans hw124_3), ((HB.out.cell (wlt_ w _ hw124_4)).trans hw124_4), ((HB.out.cell (wlt_ w _ hw124_5)).trans hw124_5)⟩ (fun hHeld => ?_)
         clear hK K; refine norm_ (a' := ?_) ?_ ?_
         rotate_left
         ·show Act.put _ (some 64) _ = _
          simp only [Act.put, lsa_, List.set_cons_zero, List.set_cons_succ, i64_w, i32_w]; rfl
         refine pure_ (i := 12) (N := some 5) (v := ?_) (a' := ?_) #[true, true, true, true, true, true, true, true, true, true, true, true, true, false] rfl rfl (any_of HT_.out (by kernel_rfl)) (fun _ _ _ h => h) (Or.inl ⟨by rfl, ?_⟩) ?_ ?_
         rotate_left
         ·intro w'; go_simp; with_reducible rfl
         rotate_left
         ·simp only [Act.put, lsa_, List.set_cons_zero, List.set_cons_succ, i64_w, i32_w]; rfl
         refine pure_ (i := 13) (N := some 6) (v := ?_) (a' := ?_) #[true, true, true, true, true, true, true, true, true, true, true, true, true, true] rfl rfl (any_of HT_.out (by kernel_rfl)) (fun _ _ _ h => h) (Or.inl ⟨by rfl, ?_⟩) ?_ ?_
         rotate_left
         ·intro w'; go_simp; with_reducible rfl
         rotate_left
         ·simp only [Act.put, lsa_, List.set_cons_zero, List.set_cons_succ, i64_w, i32_w]; rfl
         refine done_ (done_of HT_.out (by kernel_rfl)) ?_
         obtain ⟨hcz52_0, hcz52_1, hcz52_2, hcz52_3, hcz52_4, hcz52_5, hfz52_0, hfz52_1, hfz52_2, hfz52_3, hfz52_4, hfz52_5⟩ := cf6_ BK109.out; try go_wp2_with (first | ((with_reducible refine gate_callee (f := 20) rfl ?_); refine goesL_ (some 75) rfl rfl Try.func20 (by kernel_rfl) rfl #[.bool false] rfl (by (try simp only [List.map_toArray, List.map_cons, List.map_nil]); first | done | rfl | (simp only [List.length_drop, List.length_take]; rfl)) ?_; (with_reducible refine (core_truth.calls false t126 _ A46.out).mono ?_); rintro e w' ⟨rfl, ⟨nd, rfl⟩⟩; refine ⟨_, rfl, ?_⟩))
         go_ret; exact ⟨re_, bl_⟩
        ·rw [if_neg c45] at H; have c45b0 : (t123 == 0) = false := beq_eq_false_iff_ne.mpr c45; have c45b1 : (t123 != 0) = true := bne_iff_ne.mpr c45; replace H := Option.bind_eq_some_iff.mp H; obtain ⟨t127, A530, H⟩ := H; replace H : (some t127) = some r := H; have A53 := Aside0.mk A530; clear A530; obtain rfl := Option.some.inj H; go_enter Try.func25, Try.ntmps25; try go_wp2_with (first | ((with_reducible refine gate_dst (N := 2) rfl ?_); refine box_event ?hg (N := 2) ?hd (cs := #[.int .i64 v0, .int .i64 v1, .bool v2, .slice B3 m3.length k_3, .slice B4 m4.length k_4, .slice B5 m5.length k_5]) (t := 32) ?hr ?_; (case hd => rfl); (case hg => rfl); (case hr => first | (go_simp; done) | (go_simp; rfl)); intro gb109 hg w54 hbox hb; have BK109 := Aside0.mk (hbox); have GW109 : Aside0 (w.heap.size ≤ gb109) := gw_ hg (below_size bl_); have GE109 := GW109; replace HB := Aside0.mk (below_step bl_ hb); clear hb hbox hg; obtain ⟨hcz55_0, hcz55_1, hcz55_2, hcz55_3, hcz55_4, hcz55_5, hfz55_0, hfz55_1, hfz55_2, hfz55_3, hfz55_4, hfz55_5⟩ := cf6_ BK109.out))
         replace BK109 := Aside0.mk (blk_drew BK109.out); replace HB := Aside0.mk (below_drew1 HB.out); have p122 : 0 ≤ (0 : Int) := (by omega); have q122 : 0 < (m5.length : Int) := dt_; obtain ⟨ad122, A122_3, c122_3, A122_4, c122_4, A122_5, c122_5, e122, hx122_0, hx122_1, hx122_2, hx122_3, hx122_4, hx122_5, hl122_3, hi122_3, hl122_4, hi122_4, hl122_5, hi122_5⟩ := at_T32 X5.out 0 p122 q122; have hw122_5 := hx122_5; (try rw [show ((0 : Int)).toNat = 0 from rfl] at hw122_5)
         (try rw [show 0 * 6 = 0 from rfl] at hw122_5)
         (try rw [Addr.add_zero'] at hw122_5)
         have hw122_4 := hx122_4; (try rw [show ((0 : Int)).toNat = 0 from rfl] at hw122_4)
         (try rw [show 0 * 6 = 0 from rfl] at hw122_4)
         (try rw [Addr.add_zero'] at hw122_4)
         have hw122_3 := hx122_3; (try rw [show ((0 : Int)).toNat = 0 from rfl] at hw122_3)
         (try rw [show 0 * 6 = 0 from rfl] at hw122_3)
         (try rw [Addr.add_zero'] at hw122_3)
         have hw122_2 := hx122_2; (try rw [show ((0 : Int)).toNat = 0 from rfl] at hw122_2)
         (try rw [show 0 * 6 = 0 from rfl] at hw122_2)
         (try rw [Addr.add_zero'] at hw122_2)
         have hw122_1 := hx122_1; (try rw [show ((0 : Int)).toNat = 0 from rfl] at hw122_1)
         (try rw [show 0 * 6 = 0 from rfl] at hw122_1)
         (try rw [Addr.add_zero'] at hw122_1)
         have hw122_0 := hx122_0; (try rw [show ((0 : Int)).toNat = 0 from rfl] at hw122_0)
         (try rw [show 0 * 6 = 0 from rfl] at hw122_0)
         (try rw [Addr.add_zero'] at hw122_0)
         cases e122; have qi122 : (0 < m5.length) = True := eq_true (by omega); (try rw [show ((0 : Int)).toNat = 0 from rfl] at hx122_0)
         (try rw [show 0 * 6 = 0 from rfl] at hx122_0)
         (try rw [Addr.add_zero'] at hx122_0)
         (try rw [show ((0 : Int)).toNat = 0 from rfl] at hx122_1)
         (try rw [show 0 * 6 = 0 from rfl] at hx122_1)
         (try rw [Addr.add_zero'] at hx122_1)
         (try rw [show ((0 : Int)).toNat = 0 from rfl] at hx122_2)
         (try rw [show 0 * 6 = 0 from rfl] at hx122_2)
         (try rw [Addr.add_zero'] at hx122_2)
         (try rw [show ((0 : Int)).toNat = 0 from rfl] at hx122_3)
         (try rw [show 0 * 6 = 0 from rfl] at hx122_3)
         (try rw [Addr.add_zero'] at hx122_3)
         (try rw [show ((0 : Int)).toNat = 0 from rfl] at hx122_4)
         (try rw [show 0 * 6 = 0 from rfl] at hx122_4)
         (try rw [Addr.add_zero'] at hx122_4)
         (try rw [show ((0 : Int)).toNat = 0 from rfl] at hx122_5)
         (try rw [show 0 * 6 = 0 from rfl] at hx122_5)
         (try rw [Addr.add_zero'] at hx122_5)
         replace hx122_0 := (HB.out.cell (wlt_ w _ hx122_0)).trans hx122_0; replace hx122_1 := (HB.out.cell (wlt_ w _ hx122_1)).trans hx122_1; replace hx122_2 := (HB.out.cell (wlt_ w _ hx122_2)).trans hx122_2; replace hx122_3 := (HB.out.cell (wlt_ w _ hx122_3)).trans hx122_3; replace hx122_4 := (HB.out.cell (wlt_ w _ hx122_4)).trans hx122_4; replace hx122_5 := (HB.out.cell (wlt_ w _ hx122_5)).trans hx122_5; have HR122_3 := Aside0.mk hi122_3; have HC122_3 := Aside0.mk hl122_3; clear hi122_3 hl122_3; have HR122_4 := Aside0.mk hi122_4; have HC122_4 := Aside0.mk hl122_4; clear hi122_4 hl122_4; have HR122_5 := Aside0.mk hi122_5; have HC122_5 := Aside0.mk hl122_5; clear hi122_5 hl122_5; replace p122 := eq_true p122; replace q122 := eq_true q122; have p124 : 0 ≤ (1 : Int) := (by omega); have q124 : 1 < (m5.length : Int) := dt_; obtain ⟨ad124, A124_3, c124_3, A124_4, c124_4, A124_5, c124_5, e124, hx124_0, hx124_1, hx124_2, hx124_3, hx124_4, hx124_5, hl124_3, hi124_3, hl124_4, hi124_4, hl124_5, hi124_5⟩ := at_T32 X5.out 1 p124 q124; have hw124_5 := hx124_5; (try rw [show ((1 : Int)).toNat = 1 from rfl] at hw124_5)
         (try rw [show 1 * 6 = 6 from rfl] at hw124_5)
         (try simp only [Nat.reduceMul, Nat.reduceEqDiff, Go.Addr.add, ↓reduceIte] at hw124_5)
         have hw124_4 := hx124_4; (try rw [show ((1 : Int)).toNat = 1 from rfl] at hw124_4)
         (try rw [show 1 * 6 = 6 from rfl] at hw124_4)
         (try simp only [Nat.reduceMul, Nat.reduceEqDiff, Go.Addr.add, ↓reduceIte] at hw124_4)
         have hw124_3 := hx124_3; (try rw [show ((1 : Int)).toNat = 1 from rfl] at hw124_3)
         (try rw [show 1 * 6 = 6 from rfl] at hw124_3)
         (try simp only [Nat.reduceMul, Nat.reduceEqDiff, Go.Addr.add, ↓reduceIte] at hw124_3)
         have hw124_2 := hx124_2; (try rw [show ((1 : Int)).toNat = 1 from rfl] at hw124_2)
         (try rw [show 1 * 6 = 6 from rfl] at hw124_2)
         (try simp only [Nat.reduceMul, Nat.reduceEqDiff, Go.Addr.add, ↓reduceIte] at hw124_2)
         have hw124_1 := hx124_1; (try rw [show ((1 : Int)).toNat = 1 from rfl] at hw124_1)
         (try rw [show 1 * 6 = 6 from rfl] at hw124_1)
         (try simp only [Nat.reduceMul, Nat.reduceEqDiff, Go.Addr.add, ↓reduceIte] at hw124_1)
         have hw124_0 := hx124_0; (try rw [show ((1 : Int)).toNat = 1 from rfl] at hw124_0)
         (try rw [show 1 * 6 = 6 from rfl] at hw124_0)
         (try simp only [Nat.reduceMul, Nat.reduceEqDiff, Go.Addr.add, ↓reduceIte] at hw124_0)
         obtain rfl : ad122 = ad124 := (by injection e124); (try simp only [show (1 : Int).toNat = 1 from rfl, Nat.reduceMul, Nat.reduceEqDiff, Go.Addr.add, ↓reduceIte] at hx124_0)
         (try simp only [show (1 : Int).toNat = 1 from rfl, Nat.reduceMul, Nat.reduceEqDiff, Go.Addr.add, ↓reduceIte] at hx124_1)
         (try simp only [show (1 : Int).toNat = 1 from rfl, Nat.reduceMul, Nat.reduceEqDiff, Go.Addr.add, ↓reduceIte] at hx124_2)
         (try simp only [show (1 : Int).toNat = 1 from rfl, Nat.reduceMul, Nat.reduceEqDiff, Go.Addr.add, ↓reduceIte] at hx124_3)
         (try simp only [show (1 : Int).toNat = 1 from rfl, Nat.reduceMul, Nat.reduceEqDiff, Go.Addr.add, ↓reduceIte] at hx124_4)
         (try simp only [show (1 : Int).toNat = 1 from rfl, Nat.reduceMul, Nat.reduceEqDiff, Go.Addr.add, ↓reduceIte] at hx124_5)
         have qi124 : (1 < m5.length) = True := eq_true (by omega); (try rw [show ((1 : Int)).toNat = 1 from rfl] at hx124_0)
         (try rw [show 1 * 6 = 6 from rfl] at hx124_0)
         (try rw [show ((1 : Int)).toNat = 1 from rfl] at hx124_1)
         (try rw [show 1 * 6 = 6 from rfl] at hx124_1)
         (try rw [show ((1 : Int)).toNat = 1 from rfl] at hx124_2)
         (try rw [show 1 * 6 = 6 from rfl] at hx124_2)
         (try rw [show ((1 : Int)).toNat = 1 from rfl] at hx124_3)
         (try rw [show 1 * 6 = 6 from rfl] at hx124_3)
         (try rw [show ((1 : Int)).toNat = 1 from rfl] at hx124_4)
         (try rw [show 1 * 6 = 6 from rfl] at hx124_4)
         (try rw [show ((1 : Int)).toNat = 1 from rfl] at hx124_5)
         (try rw [show 1 * 6 = 6 from rfl] at hx124_5)
         replace hx124_0 := (HB.out.cell (wlt_ w _ hx124_0)).trans hx124_0; replace hx124_1 := (HB.out.cell (wlt_ w _ hx124_1)).trans hx124_1; replace hx124_2 := (HB.out.cell (wlt_ w _ hx124_2)).trans hx124_2; replace hx124_3 := (HB.out.cell (wlt_ w _ hx124_3)).trans hx124_3; replace hx124_4 := (HB.out.cell (wlt_ w _ hx124_4)).trans hx124_4; replace hx124_5 := (HB.out.cell (wlt_ w _ hx124_5)).trans hx124_5; have HR124_3 := Aside0.mk hi124_3; have HC124_3 := Aside0.mk hl124_3; clear hi124_3 hl124_3; have HR124_4 := Aside0.mk hi124_4; have HC124_4 := Aside0.mk hl124_4; clear hi124_4 hl124_4; have HR124_5 := Aside0.mk hi124_5; have HC124_5 := Aside0.mk hl124_5; clear hi124_5 hl124_5; replace p124 := eq_true p124; replace q124 := eq_true q124; refine start_ (n := 14) (S := fun w' => w'.cell? ⟨gb109, 0, none⟩ = some (.int .i64 v0) ∧ w'.cell? ⟨gb109, 1, none⟩ = some (.int .i64 v1) ∧ w'.cell? ⟨gb109, 2, none⟩ = some (.bool v2) ∧ w'.cell? ⟨gb109, 3, none⟩ = some (.slice B3 m3.length k_3) ∧ w'.cell? ⟨gb109, 4, none⟩ = some (.slice B4 m4.length k_4) ∧ w'.cell? ⟨gb109, 5, none⟩ = some (.slice (some ad122) m5.length k_5) ∧ w'.cell? ad122 = some (.int .i64 ((rd_T32 m5 0).f0)) ∧ w'.cell? ⟨ad122.block, ad122.off + 1, none⟩ = some (.int .i64 ((rd_T32 m5 0).f1)) ∧ w'.cell? ⟨ad122.block, ad122.off + 2, none⟩ = some (.bool ((rd_T32 m5 0).f2.f0)) ∧ w'.cell? ⟨ad122.block, ad122.off + 3, none⟩ = some (.slice A122_3 ((rd_T32 m5 0).f2.f1).length c122_3) ∧ w'.cell? ⟨ad122.block, ad122.off + 4, none⟩ = some (.slice A122_4 ((rd_T32 m5 0).f2.f2).length c122_4) ∧ w'.cell? ⟨ad122.block, ad122.off + 5, none⟩ = some (.slice A122_5 ((rd_T32 m5 0).f3).length c122_5) ∧ w'.cell? ⟨ad122.block, ad122.off + 6, none⟩ = some (.int .i64 ((rd_T32 m5 1).f0)) ∧ w'.cell? ⟨ad122.block, ad122.off + 6 + 1, none⟩ = some (.int .i64 ((rd_T32 m5 1).f1)) ∧ w'.cell? ⟨ad122.block, ad122.off + 6 + 2, none⟩ = some (.bool ((rd_T32 m5 1).f2.f0)) ∧ w'.cell? ⟨ad122.block, ad122.off + 6 + 3, none⟩ = some (.slice A124_3 ((rd_T32 m5 1).f2.f1).length c124_3) ∧ w'.cell? ⟨ad122.block, ad122.off + 6 + 4, none⟩ = some (.slice A124_4 ((rd_T32 m5 1).f2.f2).length c124_4) ∧ w'.cell? ⟨ad122.block, ad122.off + 6 + 5, none⟩ = some (.slice A124_5 ((rd_T32 m5 1).f3).length c124_5)) (ds := []) #[false, false, false, false, false, false, false, false, false, false, false, false, false, false] (by kernel_rfl) rfl rfl ⟨(blk_cell BK109.out 0).trans rfl, (blk_cell BK109.out 1).trans rfl, (blk_cell BK109.out 2).trans rfl, (blk_cell BK109.out 3).trans rfl, (blk_cell BK109.out 4).trans rfl, (blk_cell BK109.out 5).trans rfl, ((HB.out.cell (wlt_ w _ hw122_0)).trans hw122_0), ((HB.out.cell (wlt_ w _ hw122_1)).trans hw122_1), ((HB.out.cell (wlt_ w _ hw122_2)).trans hw122_2), ((HB.out.cell (wlt_ w _ hw122_3)).trans hw122_3), ((HB.out.cell (wlt_ w _ hw122_4)).trans hw122_4), ((HB.out.cell (wlt_ w _ hw122_5)).trans hw122_5), ((HB.out.cell (wlt_ w _ hw124_0)).trans hw124_0), ((HB.out.cell (wlt_ w _ hw124_1)).trans hw124_1), ((HB.out.cell (wlt_ w _ hw124_2)).trans hw124_2), ((HB.out.cell (wlt_ w _ hw124_3)).trans hw124_3), ((HB.out.cell (wlt_ w _ hw124_4)).trans hw124_4), ((HB.out.cell (wlt_ w _ hw124_5)).trans hw124_5)⟩ (fun hHeld => ?_); refine with_tabW core_eval.tab12 core_eval.bits12 (fun HT_ HW_ => ?_)
         generalize w54.drew = w56 at BK109 HB HR122_3 HR122_4 HR122_5 HR124_3 HR124_4 HR124_5 hx122_0 hx122_1 hx122_2 hx122_3 hx122_4 hx122_5 hx124_0 hx124_1 hx124_2 hx124_3 hx124_4 hx124_5 hHeld ⊢
         refine pure_ (i := 0) (N := some 53) (v := ?_) (a' := ?_) #[true, false, false, false, false, false, false, false, false, false, false, false, false, false] rfl rfl (any_of HT_.out (by kernel_rfl)) (fun _ _ _ h => h) (Or.inl ⟨by rfl, ?_⟩) ?_ ?_
         rotate_left
         ·intro w'; go_simp; with_reducible rfl
         rotate_left
         ·simp only [Act.put, lsa_, List.set_cons_zero, List.set_cons_succ, i64_w, i32_w]; rfl
         refine pure_ (i := 4) (N := some 57) (v := ?_) (a' := ?_) #[true, false, false, false, true, false, false, false, false, false, false, false, false, false] rfl rfl (any_of HT_.out (by kernel_rfl)) (fun _ _ _ h => h) (Or.inl ⟨by rfl, ?_⟩) ?_ ?_
         rotate_left
         ·intro w'; go_simp; with_reducible rfl
         rotate_left
         ·simp only [Act.put, lsa_, List.set_cons_zero, List.set_cons_succ, i64_w, i32_w]; rfl
         refine pure_ (i := 6) (N := some 59) (v := ?_) (a' := ?_) #[true, false, false, false, true, false, true, false, false, false, false, false, false, false] rfl rfl (any_of HT_.out (by kernel_rfl)) (fun _ _ _ h => h) (Or.inl ⟨by rfl, ?_⟩) ?_ ?_
         rotate_left
         ·intro w'; go_simp; with_reducible rfl
         rotate_left
         ·simp only [Act.put, lsa_, List.set_cons_zero, List.set_cons_succ, i64_w, i32_w]; rfl
         refine pure_ (i := 10) (N := some 63) (v := ?_) (a' := ?_) #[true, false, false, false, true, false, true, false, false, false, true, false, false, false] rfl rfl (any_of HT_.out (by kernel_rfl)) (fun _ _ _ h => h) (Or.inl ⟨by rfl, ?_⟩) ?_ ?_
         rotate_left
         ·intro w'; go_simp; with_reducible rfl
         rotate_left
         ·simp only [Act.put, lsa_, List.set_cons_zero, List.set_cons_succ, i64_w, i32_w]; rfl
         refine take_ (i := 1) (N := some 54) (v := ?_) (a' := ?_) #[true, true, false, false, true, false, true, false, false, false, true, false, false, false] rfl rfl (take_ofW HT_.out HW_.out (by kernel_rfl)) (fun _ _ _ h => h) (Or.inl ⟨by rfl, ?_⟩) hHeld ?_ ?_
         rotate_left
         ·rintro w' ⟨s0, s1, s2, s3, s4, s5, s6, s7, s8, s9, s10, s11, s12, s13, s14, s15, s16, s17⟩
          go_simp; with_reducible rfl
         rotate_left
         ·simp only [Act.put, lsa_, List.set_cons_zero, List.set_cons_succ, i64_w, i32_w]; rfl
         refine pure_ (i := 2) (N := some 55) (v := ?_) (a' := ?_) #[true, true, true, false, true, false, true, false, false, false, true, false, false, false] rfl rfl (any_of HT_.out (by kernel_rfl)) (fun _ _ _ h => h) (Or.inl ⟨by rfl, ?_⟩) ?_ ?_
         rotate_left
         ·intro w'; go_simp; with_reducible rfl
         rotate_left
         ·simp only [Act.put, lsa_, List.set_cons_zero, List.set_cons_succ, i64_w, i32_w]; rfl
         refine take_ (i := 3) (N := some 56) (v := ?_) (a' := ?_) #[true, true, true, true, true, false, true, false, false, false, true, false, false, false] rfl rfl (take_ofW HT_.out HW_.out (by kernel_rfl)) (fun _ _ _ h => h) (Or.inl ⟨by rfl, ?_⟩) hHeld ?_ ?_
         rotate_left
         ·rintro w' ⟨s0, s1, s2, s3, s4, s5, s6, s7, s8, s9, s10, s11, s12, s13, s14, s15, s16, s17⟩
          go_simp; with_reducible rfl
         rotate_left
         ·simp only [Act.put, lsa_, List.set_cons_zero, List.set_cons_succ, i64_w, i32_w]; rfl
         refine take_ (i := 7) (N := some 60) (v := ?_) (a' := ?_) #[true, true, true, true, true, false, true, true, false, false, true, false, false, false] rfl rfl (take_ofW HT_.out HW_.out (by kernel_rfl)) (fun _ _ _ h => h) (Or.inl ⟨by rfl, ?_⟩) hHeld ?_ ?_
         rotate_left
         ·rintro w' ⟨s0, s1, s2, s3, s4, s5, s6, s7, s8, s9, s10, s11, s12, s13, s14, s15, s16, s17⟩
          go_simp; with_reducible rfl
         rotate_left
         ·simp only [Act.put, lsa_, List.set_cons_zero, List.set_cons_succ, i64_w, i32_w]; rfl
         refine pure_ (i := 8) (N := some 61) (v := ?_) (a' := ?_) #[true, true, true, true, true, false, true, true, true, false, true, false, false, false] rfl rfl (any_of HT_.out (by kernel_rfl)) (fun _ _ _ h => h) (Or.inl ⟨by rfl, ?_⟩) ?_ ?_
         rotate_left
         ·intro w'; go_simp; with_reducible rfl
         rotate_left
         ·simp only [Act.put, lsa_, List.set_cons_zero, List.set_cons_succ, i64_w, i32_w]; rfl
         refine take_ (i := 9) (N := some 62) (v := ?_) (a' := ?_) #[true, true, true, true, true, false, true, true, true, true, true, false, false, false] rfl rfl (take_ofW HT_.out HW_.out (by kernel_rfl)) (fun _ _ _ h => h) (Or.inl ⟨by rfl, ?_⟩) hHeld ?_ ?_
         rotate_left
         ·rintro w' ⟨s0, s1, s2, s3, s4, s5, s6, s7, s8, s9, s10, s11, s12, s13, s14, s15, s16, s17⟩
          go_simp; with_reducible rfl
         rotate_left
         ·simp only [Act.put, lsa_, List.set_cons_zero, List.set_cons_succ, i64_w, i32_w]; rfl
         refine one_ (i := 5) (N := some 58) #[true, true, true, true, true, true, true, true, true, true, true, false, false, false] rfl rfl (one_of HT_.out (by kernel_rfl)) (by decide) (fun K hK => ?_)
         refine goes_ Try.func25 (by kernel_rfl) rfl #[.agg #[.int .i64 ((rd_T32 m5 0).f0), .int .i64 ((rd_T32 m5 0).f1), .bool ((rd_T32 m5 0).f2.f0), .slice A122_3 ((rd_T32 m5 0).f2.f1).length c122_3, .slice A122_4 ((rd_T32 m5 0).f2.f2).length c122_4, .slice A122_5 ((rd_T32 m5 0).f3).length c122_5], .slice A1 l1.length c1] (by rfl) rfl rfl (by (try simp only [List.map_toArray, List.map_cons, List.map_nil]); first | done | rfl | (simp only [List.length_drop, List.length_take]; rfl)) ?_
         with_reducible refine (ih k (by omega) ((rd_T32 m5 0).f0) ((rd_T32 m5 0).f1) ((rd_T32 m5 0).f2.f0) _ _ ((rd_T32 m5 0).f2.f1) _ _ ((rd_T32 m5 0).f2.f2) _ _ ((rd_T32 m5 0).f3) _ _ l1 t123 _ ?side1 ?side2 ?side3 ?side4 ?side5 ?side6 ?side7 ?side8 A41.out).mono ?_
         (case side1 => repeat (first | exact (Kd.C_below HR122_3.out HB.out) | (with_reducible refine Kd.C_alloc ?_ _) | (with_reducible refine Kd.C_drewN ?_ _) | (with_reducible refine Kd.C_drew ?_)))
         (case side2 => exact HC122_3.out)
         (case side3 => repeat (first | exact (Kd.C_below HR122_4.out HB.out) | (with_reducible refine Kd.C_alloc ?_ _) | (with_reducible refine Kd.C_drewN ?_ _) | (with_reducible refine Kd.C_drew ?_)))
         (case side4 => exact HC122_4.out)
         (case side5 => repeat (first | exact (Kd.C_below HR122_5.out HB.out) | (with_reducible refine Kd.C_alloc ?_ _) | (with_reducible refine Kd.C_drewN ?_ _) | (with_reducible refine Kd.C_drew ?_)))
         (case side6 => exact HC122_5.out)
         (case side7 => repeat (first | exact (Kd.C_below HR1.out HB.out) | (with_reducible refine Kd.C_alloc ?_ _) | (with_reducible refine Kd.C_drewN ?_ _) | (with_reducible refine Kd.C_drew ?_)))
         (case side8 => exact HC1.out)
         rintro e w57 ⟨rfl, hb⟩
         refine ⟨_, rfl, ?_⟩
         replace BK109 := Aside0.mk (blk_below (g := gb109) (o := .cells #[.int .i64 v0, .int .i64 v1, .bool v2, .slice B3 m3.length k_3, .slice B4 m4.length k_4, .slice (some ad122) m5.length k_5] 32 (0, 0)) bk_ hb); replace HB := Aside0.mk (below_step bl_ hb); (try clear hb)
         (try clear hb2)
         (try clear hk)
         (try clear hi)
         refine hK.out _ _ ⟨(blk_cell BK109.out 0).trans rfl, (blk_cell BK109.out 1).trans rfl, (blk_cell BK109.out 2).trans rfl, (blk_cell BK109.out 3).trans rfl, (blk_cell BK109.out 4).trans rfl, (blk_cell BK109.out 5).trans rfl, ((HB.out.cell (wlt_ w _ hw122_0)).trans hw122_0), ((HB.out.cell (wlt_ w _ hw122_1)).trans hw122_1), ((HB.out.cell (wlt_ w _ hw122_2)).trans hw122_2), ((HB.out.cell (wlt_ w _ hw122_3)).trans hw122_3), ((HB.out.cell (wlt_ w _ hw122_4)).trans hw122_4), ((HB.out.cell (wlt_ w _ hw122_5)).trans hw122_5), ((HB.out.cell (wlt_ w _ hw124_0)).trans hw124_0), ((HB.out.cell (wlt_ w _ hw124_1)).trans hw124_1), ((HB.out.cell (wlt_ w _ hw124_2)).trans hw124_2), ((HB.out.cell (wlt_ w _ hw124_3)).trans hw124_3), ((HB.out.cell (wlt_ w _ hw124_4)).trans hw124_4), ((HB.out.cell (wlt_ w _ hw124_5)).trans hw124_5)⟩ (fun hHeld => ?_)
         clear hK K; refine norm_ (a' := ?_) ?_ ?_
         rotate_left
         ·show Act.put _ (some 58) _ = _
          simp only [Act.put, lsa_, List.set_cons_zero, List.set_cons_succ, i64_w, i32_w]; rfl
         refine one_ (i := 11) (N := some 64) #[true, true, true, true, true, true, true, true, true, true, true, true, false, false] rfl rfl (one_of HT_.out (by kernel_rfl)) (by decide) (fun K hK => ?_)
         refine goes_ Try.func25 (by kernel_rfl) rfl #[.agg #[.int .i64 ((rd_T32 m5 1).f0), .int .i64 ((rd_T32 m5 1).f1), .bool ((rd_T32 m5 1).f2.f0), .slice A124_3 ((rd_T32 m5 1).f2.f1).length c124_3, .slice A124_4 ((rd_T32 m5 1).f2.f2).length c124_4, .slice A124_5 ((rd_T32 m5 1).f3).length c124_5], .slice A1 l1.length c1] (by rfl) rfl rfl (by (try simp only [List.map_toArray, List.map_cons, List.map_nil]); first | done | rfl | (simp only [List.length_drop, List.length_take]; rfl)) ?_
         with_reducible refine (ih k (by omega) ((rd_T32 m5 1).f0) ((rd_T32 m5 1).f1) ((rd_T32 m5 1).f2.f0) _ _ ((rd_T32 m5 1).f2.f1) _ _ ((rd_T32 m5 1).f2.f2) _ _ ((rd_T32 m5 1).f3) _ _ l1 t125 _ ?side1 ?side2 ?side3 ?side4 ?side5 ?side6 ?side7 ?side8 A43.out).mono ?_
         (case side1 => repeat (first | exact (Kd.C_below HR124_3.out HB.out) | (with_reducible refine Kd.C_alloc ?_ _) | (with_reducible refine Kd.C_drewN ?_ _) | (with_reducible refine Kd.C_drew ?_)))
         (case side2 => exact HC124_3.out)
         (case side3 => repeat (first | exact (Kd.C_below HR124_4.out HB.out) | (with_reducible refine Kd.C_alloc ?_ _) | (with_reducible refine Kd.C_drewN ?_ _) | (with_reducible refine Kd.C_drew ?_)))
         (case side4 => exact HC124_4.out)
         (case side5 => repeat (first | exact (Kd.C_below HR124_5.out HB.out) | (with_reducible refine Kd.C_alloc ?_ _) | (with_reducible refine Kd.C_drewN ?_ _) | (with_reducible refine Kd.C_drew ?_)))
         (case side6 => exact HC124_5.out)
         (case side7 => repeat (first | exact (Kd.C_below HR1.out HB.out) | (with_reducible refine Kd.C_alloc ?_ _) | (with_reducible refine Kd.C_drewN ?_ _) | (with_reducible refine Kd.C_drew ?_)))
         (case side8 => exact HC1.out)
         rintro e w58 ⟨rfl, hb⟩
         refine ⟨_, rfl, ?_⟩
         replace BK109 := Aside0.mk (blk_below (g := gb109) (o := .cells #[.int .i64 v0, .int .i64 v1, .bool v2, .slice B3 m3.length k_3, .slice B4 m4.length k_4, .slice (some ad122) m5.length k_5] 32 (0, 0)) bk_ hb); replace HB := Aside0.mk (below_step bl_ hb); (try clear hb)
         (try clear hb2)
         (try clear hk)
         (try clear hi)
         refine hK.out _ _ ⟨(blk_cell BK109.out 0).trans rfl, (blk_cell BK109.out 1).trans rfl, (blk_cell BK109.out 2).trans rfl, (blk_cell BK109.out 3).trans rfl, (blk_cell BK109.out 4).trans rfl, (blk_cell BK109.out 5).trans rfl, ((HB.out.cell (wlt_ w _ hw122_0)).trans hw122_0), ((HB.out.cell (wlt_ w _ hw122_1)).trans hw122_1), ((HB.out.cell (wlt_ w _ hw122_2)).trans hw122_2), ((HB.out.cell (wlt_ w _ hw122_3)).trans hw122_3), ((HB.out.cell (wlt_ w _ hw122_4)).trans hw122_4), ((HB.out.cell (wlt_ w _ hw122_5)).trans hw122_5), ((HB.out.cell (wlt_ w _ hw124_0)).trans hw124_0), ((HB.out.cell (wlt_ w _ hw124_1)).trans hw124_1), ((HB.out.cell (wlt_ w _ hw124_2)).trans hw124_2), ((HB.out.cell (wlt_ w _ hw124_3)).trans hw124_3), ((HB.out.cell (wlt_ w _ hw124_4)).trans hw124_4), ((HB.out.cell (wlt_ w _ hw124_5)).trans hw124_5)⟩ (fun hHeld => ?_)
         clear hK K; refine norm_ (a' := ?_) ?_ ?_
         rotate_left
         ·show Act.put _ (some 64) _ = _
          simp only [Act.put, lsa_, List.set_cons_zero, List.set_cons_succ, i64_w, i32_w]; rfl
         refine pure_ (i := 12) (N := some 5) (v := ?_) (a' := ?_) #[true, true, true, true, true, true, true, true, true, true, true, true, true, false] rfl rfl (any_of HT_.out (by kernel_rfl)) (fun _ _ _ h => h) (Or.inl ⟨by rfl, ?_⟩) ?_ ?_
         rotate_left
         ·intro w'; go_simp; with_reducible rfl
         rotate_left
         ·simp only [Act.put, lsa_, List.set_cons_zero, List.set_cons_succ, i64_w, i32_w]; rfl
         refine pure_ (i := 13) (N := some 6) (v := ?_) (a' := ?_) #[true, true, true, true, true, true, true, true, true, true, true, true, true, true] rfl rfl (any_of HT_.out (by kernel_rfl)) (fun _ _ _ h => h) (Or.inl ⟨by rfl, ?_⟩) ?_ ?_
         rotate_left
         ·intro w'; go_simp; with_reducible rfl
         rotate_left
         ·simp only [Act.put, lsa_, List.set_cons_zero, List.set_cons_succ, i64_w, i32_w]; rfl
         refine done_ (done_of HT_.out (by kernel_rfl)) ?_
         obtain ⟨hcz59_0, hcz59_1, hcz59_2, hcz59_3, hcz59_4, hcz59_5, hfz59_0, hfz59_1, hfz59_2, hfz59_3, hfz59_4, hfz59_5⟩ := cf6_ BK109.out; try go_wp2_with (first | ((with_reducible refine gate_callee (f := 20) rfl ?_); refine goesL_ (some 75) rfl rfl Try.func20 (by kernel_rfl) rfl #[.bool (t125 != 0)] rfl (by (try simp only [List.map_toArray, List.map_cons, List.map_nil]); first | done | rfl | (simp only [List.length_drop, List.length_take]; rfl)) ?_; (with_reducible refine (core_truth.calls (t125 != 0) t127 _ A53.out).mono ?_); rintro e w' ⟨rfl, ⟨nd, rfl⟩⟩; refine ⟨_, rfl, ?_⟩))
         go_ret; exact ⟨re_, bl_⟩
       ·rw [if_neg c44] at H; have c44b0 : (v0 == 5) = false := beq_eq_false_iff_ne.mpr c44; have c44b1 : (v0 != 5) = true := bne_iff_ne.mpr c44; by_cases c60 : v0 = 6
        ·rw [if_pos c60] at H; have c60b0 : (v0 == 6) = true := beq_iff_eq.mpr c60; have c60b1 : (v0 != 6) = false := bne_eq_false_iff_eq.mpr c60; clear c60; by_cases c61 : t123 = 0
         ·rw [if_pos c61] at H; have c61b0 : (t123 == 0) = true := beq_iff_eq.mpr c61; have c61b1 : (t123 != 0) = false := bne_eq_false_iff_eq.mpr c61; clear c61; replace H := Option.bind_eq_some_iff.mp H; obtain ⟨t128, A620, H⟩ := H; replace H : (some t128) = some r := H; have A62 := Aside0.mk A620; clear A620; obtain rfl := Option.some.inj H; go_enter Try.func25, Try.ntmps25; try go_wp2_with (first | ((with_reducible refine gate_dst (N := 2) rfl ?_); refine box_event ?hg (N := 2) ?hd (cs := #[.int .i64 v0, .int .i64 v1, .bool v2, .slice B3 m3.length k_3, .slice B4 m4.length k_4, .slice B5 m5.length k_5]) (t := 32) ?hr ?_; (case hd => rfl); (case hg => rfl); (case hr => first | (go_simp; done) | (go_simp; rfl)); intro gb109 hg w63 hbox hb; have BK109 := Aside0.mk (hbox); have GW109 : Aside0 (w.heap.size ≤ gb109) := gw_ hg (below_size bl_); have GE109 := GW109; replace HB := Aside0.mk (below_step bl_ hb); clear hb hbox hg; obtain ⟨hcz64_0, hcz64_1, hcz64_2, hcz64_3, hcz64_4, hcz64_5, hfz64_0, hfz64_1, hfz64_2, hfz64_3, hfz64_4, hfz64_5⟩ := cf6_ BK109.out))
          replace BK109 := Aside0.mk (blk_drew BK109.out); replace HB := Aside0.mk (below_drew1 HB.out); have p122 : 0 ≤ (0 : Int) := (by omega); have q122 : 0 < (m5.length : Int) := dt_; obtain ⟨ad122, A122_3, c122_3, A122_4, c122_4, A122_5, c122_5, e122, hx122_0, hx122_1, hx122_2, hx122_3, hx122_4, hx122_5, hl122_3, hi122_3, hl122_4, hi122_4, hl122_5, hi122_5⟩ := at_T32 X5.out 0 p122 q122; have hw122_5 := hx122_5; (try rw [show ((0 : Int)).toNat = 0 from rfl] at hw122_5)
          (try rw [show 0 * 6 = 0 from rfl] at hw122_5)
          (try rw [Addr.add_zero'] at hw122_5)
          have hw122_4 := hx122_4; (try rw [show ((0 : Int)).toNat = 0 from rfl] at hw122_4)
          (try rw [show 0 * 6 = 0 from rfl] at hw122_4)
          (try rw [Addr.add_zero'] at hw122_4)
          have hw122_3 := hx122_3; (try rw [show ((0 : Int)).toNat = 0 from rfl] at hw122_3)
          (try rw [show 0 * 6 = 0 from rfl] at hw122_3)
          (try rw [Addr.add_zero'] at hw122_3)
          have hw122_2 := hx122_2; (try rw [show ((0 : Int)).toNat = 0 from rfl] at hw122_2)
          (try rw [show 0 * 6 = 0 from rfl] at hw122_2)
          (try rw [Addr.add_zero'] at hw122_2)
          have hw122_1 := hx122_1; (try rw [show ((0 : Int)).toNat = 0 from rfl] at hw122_1)
          (try rw [show 0 * 6 = 0 from rfl] at hw122_1)
          (try rw [Addr.add_zero'] at hw122_1)
          have hw122_0 := hx122_0; (try rw [show ((0 : Int)).toNat = 0 from rfl] at hw122_0)
          (try rw [show 0 * 6 = 0 from rfl] at hw122_0)
          (try rw [Addr.add_zero'] at hw122_0)
          cases e122; have qi122 : (0 < m5.length) = True := eq_true (by omega); (try rw [show ((0 : Int)).toNat = 0 from rfl] at hx122_0)
          (try rw [show 0 * 6 = 0 from rfl] at hx122_0)
          (try rw [Addr.add_zero'] at hx122_0)
          (try rw [show ((0 : Int)).toNat = 0 from rfl] at hx122_1)
          (try rw [show 0 * 6 = 0 from rfl] at hx122_1)
          (try rw [Addr.add_zero'] at hx122_1)
          (try rw [show ((0 : Int)).toNat = 0 from rfl] at hx122_2)
          (try rw [show 0 * 6 = 0 from rfl] at hx122_2)
          (try rw [Addr.add_zero'] at hx122_2)
          (try rw [show ((0 : Int)).toNat = 0 from rfl] at hx122_3)
          (try rw [show 0 * 6 = 0 from rfl] at hx122_3)
          (try rw [Addr.add_zero'] at hx122_3)
          (try rw [show ((0 : Int)).toNat = 0 from rfl] at hx122_4)
          (try rw [show 0 * 6 = 0 from rfl] at hx122_4)
          (try rw [Addr.add_zero'] at hx122_4)
          (try rw [show ((0 : Int)).toNat = 0 from rfl] at hx122_5)
          (try rw [show 0 * 6 = 0 from rfl] at hx122_5)
          (try rw [Addr.add_zero'] at hx122_5)
          replace hx122_0 := (HB.out.cell (wlt_ w _ hx122_0)).trans hx122_0; replace hx122_1 := (HB.out.cell (wlt_ w _ hx122_1)).trans hx122_1; replace hx122_2 := (HB.out.cell (wlt_ w _ hx122_2)).trans hx122_2; replace hx122_3 := (HB.out.cell (wlt_ w _ hx122_3)).trans hx122_3; replace hx122_4 := (HB.out.cell (wlt_ w _ hx122_4)).trans hx122_4; replace hx122_5 := (HB.out.cell (wlt_ w _ hx122_5)).trans hx122_5; have HR122_3 := Aside0.mk hi122_3; have HC122_3 := Aside0.mk hl122_3; clear hi122_3 hl122_3; have HR122_4 := Aside0.mk hi122_4; have HC122_4 := Aside0.mk hl122_4; clear hi122_4 hl122_4; have HR122_5 := Aside0.mk hi122_5; have HC122_5 := Aside0.mk hl122_5; clear hi122_5 hl122_5; replace p122 := eq_true p122; replace q122 := eq_true q122; have p124 : 0 ≤ (1 : Int) := (by omega); have q124 : 1 < (m5.length : Int) := dt_; obtain ⟨ad124, A124_3, c124_3, A124_4, c124_4, A124_5, c124_5, e124, hx124_0, hx124_1, hx124_2, hx124_3, hx124_4, hx124_5, hl124_3, hi124_3, hl124_4, hi124_4, hl124_5, hi124_5⟩ := at_T32 X5.out 1 p124 q124; have hw124_5 := hx124_5; (try rw [show ((1 : Int)).toNat = 1 from rfl] at hw124_5)
          (try rw [show 1 * 6 = 6 from rfl] at hw124_5)
          (try simp only [Nat.reduceMul, Nat.reduceEqDiff, Go.Addr.add, ↓reduceIte] at hw124_5)
          have hw124_4 := hx124_4; (try rw [show ((1 : Int)).toNat = 1 from rfl] at hw124_4)
          (try rw [show 1 * 6 = 6 from rfl] at hw124_4)
          (try simp only [Nat.reduceMul, Nat.reduceEqDiff, Go.Addr.add, ↓reduceIte] at hw124_4)
          have hw124_3 := hx124_3; (try rw [show ((1 : Int)).toNat = 1 from rfl] at hw124_3)
          (try rw [show 1 * 6 = 6 from rfl] at hw124_3)
          (try simp only [Nat.reduceMul, Nat.reduceEqDiff, Go.Addr.add, ↓reduceIte] at hw124_3)
          have hw124_2 := hx124_2; (try rw [show ((1 : Int)).toNat = 1 from rfl] at hw124_2)
          (try rw [show 1 * 6 = 6 from rfl] at hw124_2)
          (try simp only [Nat.reduceMul, Nat.reduceEqDiff, Go.Addr.add, ↓reduceIte] at hw124_2)
          have hw124_1 := hx124_1; (try rw [show ((1 : Int)).toNat = 1 from rfl] at hw124_1)
          (try rw [show 1 * 6 = 6 from rfl] at hw124_1)
          (try simp only [Nat.reduceMul, Nat.reduceEqDiff, Go.Addr.add, ↓reduceIte] at hw124_1)
          have hw124_0 := hx124_0; (try rw [show ((1 : Int)).toNat = 1 from rfl] at hw124_0)
          (try rw [show 1 * 6 = 6 from rfl] at hw124_0)
          (try simp only [Nat.reduceMul, Nat.reduceEqDiff, Go.Addr.add, ↓reduceIte] at hw124_0)
          obtain rfl : ad122 = ad124 := (by injection e124); (try simp only [show (1 : Int).toNat = 1 from rfl, Nat.reduceMul, Nat.reduceEqDiff, Go.Addr.add, ↓reduceIte] at hx124_0)
          (try simp only [show (1 : Int).toNat = 1 from rfl, Nat.reduceMul, Nat.reduceEqDiff, Go.Addr.add, ↓reduceIte] at hx124_1)
          (try simp only [show (1 : Int).toNat = 1 from rfl, Nat.reduceMul, Nat.reduceEqDiff, Go.Addr.add, ↓reduceIte] at hx124_2)
          (try simp only [show (1 : Int).toNat = 1 from rfl, Nat.reduceMul, Nat.reduceEqDiff, Go.Addr.add, ↓reduceIte] at hx124_3)
          (try simp only [show (1 : Int).toNat = 1 from rfl, Nat.reduceMul, Nat.reduceEqDiff, Go.Addr.add, ↓reduceIte] at hx124_4)
          (try simp only [show (1 : Int).toNat = 1 from rfl, Nat.reduceMul, Nat.reduceEqDiff, Go.Addr.add, ↓reduceIte] at hx124_5)
          have qi124 : (1 < m5.length) = True := eq_true (by omega); (try rw [show ((1 : Int)).toNat = 1 from rfl] at hx124_0)
          (try rw [show 1 * 6 = 6 from rfl] at hx124_0)
          (try rw [show ((1 : Int)).toNat = 1 from rfl] at hx124_1)
          (try rw [show 1 * 6 = 6 from rfl] at hx124_1)
          (try rw [show ((1 : Int)).toNat = 1 from rfl] at hx124_2)
          (try rw [show 1 * 6 = 6 from rfl] at hx124_2)
          (try rw [show ((1 : Int)).toNat = 1 from rfl] at hx124_3)
          (try rw [show 1 * 6 = 6 from rfl] at hx124_3)
          (try rw [show ((1 : Int)).toNat = 1 from rfl] at hx124_4)
          (try rw [show 1 * 6 = 6 from rfl] at hx124_4)
          (try rw [show ((1 : Int)).toNat = 1 from rfl] at hx124_5)
          (try rw [show 1 * 6 = 6 from rfl] at hx124_5)
          replace hx124_0 := (HB.out.cell (wlt_ w _ hx124_0)).trans hx124_0; replace hx124_1 := (HB.out.cell (wlt_ w _ hx124_1)).trans hx124_1; replace hx124_2 := (HB.out.cell (wlt_ w _ hx124_2)).trans hx124_2; replace hx124_3 := (HB.out.cell (wlt_ w _ hx124_3)).trans hx124_3; replace hx124_4 := (HB.out.cell (wlt_ w _ hx124_4)).trans hx124_4; replace hx124_5 := (HB.out.cell (wlt_ w _ hx124_5)).trans hx124_5; have HR124_3 := Aside0.mk hi124_3; have HC124_3 := Aside0.mk hl124_3; clear hi124_3 hl124_3; have HR124_4 := Aside0.mk hi124_4; have HC124_4 := Aside0.mk hl124_4; clear hi124_4 hl124_4; have HR124_5 := Aside0.mk hi124_5; have HC124_5 := Aside0.mk hl124_5; clear hi124_5 hl124_5; replace p124 := eq_true p124; replace q124 := eq_true q124; refine start_ (n := 14) (S := fun w' => w'.cell? ⟨gb109, 0, none⟩ = some (.int .i64 v0) ∧ w'.cell? ⟨gb109, 1, none⟩ = some (.int .i64 v1) ∧ w'.cell? ⟨gb109, 2, none⟩ = some (.bool v2) ∧ w'.cell? ⟨gb109, 3, none⟩ = some (.slice B3 m3.length k_3) ∧ w'.cell? ⟨gb109, 4, none⟩ = some (.slice B4 m4.length k_4) ∧ w'.cell? ⟨gb109, 5, none⟩ = some (.slice (some ad122) m5.length k_5) ∧ w'.cell? ad122 = some (.int .i64 ((rd_T32 m5 0).f0)) ∧ w'.cell? ⟨ad122.block, ad122.off + 1, none⟩ = some (.int .i64 ((rd_T32 m5 0).f1)) ∧ w'.cell? ⟨ad122.block, ad122.off + 2, none⟩ = some (.bool ((rd_T32 m5 0).f2.f0)) ∧ w'.cell? ⟨ad122.block, ad122.off + 3, none⟩ = some (.slice A122_3 ((rd_T32 m5 0).f2.f1).length c122_3) ∧ w'.cell? ⟨ad122.block, ad122.off + 4, none⟩ = some (.slice A122_4 ((rd_T32 m5 0).f2.f2).length c122_4) ∧ w'.cell? ⟨ad122.block, ad122.off + 5, none⟩ = some (.slice A122_5 ((rd_T32 m5 0).f3).length c122_5) ∧ w'.cell? ⟨ad122.block, ad122.off + 6, none⟩ = some (.int .i64 ((rd_T32 m5 1).f0)) ∧ w'.cell? ⟨ad122.block, ad122.off + 6 + 1, none⟩ = some (.int .i64 ((rd_T32 m5 1).f1)) ∧ w'.cell? ⟨ad122.block, ad122.off + 6 + 2, none⟩ = some (.bool ((rd_T32 m5 1).f2.f0)) ∧ w'.cell? ⟨ad122.block, ad122.off + 6 + 3, none⟩ = some (.slice A124_3 ((rd_T32 m5 1).f2.f1).length c124_3) ∧ w'.cell? ⟨ad122.block, ad122.off + 6 + 4, none⟩ = some (.slice A124_4 ((rd_T32 m5 1).f2.f2).length c124_4) ∧ w'.cell? ⟨ad122.block, ad122.off + 6 + 5, none⟩ = some (.slice A124_5 ((rd_T32 m5 1).f3).length c124_5)) (ds := []) #[false, false, false, false, false, false, false, false, false, false, false, false, false, false] (by kernel_rfl) rfl rfl ⟨(blk_cell BK109.out 0).trans rfl, (blk_cell BK109.out 1).trans rfl, (blk_cell BK109.out 2).trans rfl, (blk_cell BK109.out 3).trans rfl, (blk_cell BK109.out 4).trans rfl, (blk_cell BK109.out 5).trans rfl, ((HB.out.cell (wlt_ w _ hw122_0)).trans hw122_0), ((HB.out.cell (wlt_ w _ hw122_1)).trans hw122_1), ((HB.out.cell (wlt_ w _ hw122_2)).trans hw122_2), ((HB.out.cell (wlt_ w _ hw122_3)).trans hw122_3), ((HB.out.cell (wlt_ w _ hw122_4)).trans hw122_4), ((HB.out.cell (wlt_ w _ hw122_5)).trans hw122_5), ((HB.out.cell (wlt_ w _ hw124_0)).trans hw124_0), ((HB.out.cell (wlt_ w _ hw124_1)).trans hw124_1), ((HB.out.cell (wlt_ w _ hw124_2)).trans hw124_2), ((HB.out.cell (wlt_ w _ hw124_3)).trans hw124_3), ((HB.out.cell (wlt_ w _ hw124_4)).trans hw124_4), ((HB.out.cell (wlt_ w _ hw124_5)).trans hw124_5)⟩ (fun hHeld => ?_); refine with_tabW core_eval.tab12 core_eval.bits12 (fun HT_ HW_ => ?_)
          generalize w63.drew = w65 at BK109 HB HR122_3 HR122_4 HR122_5 HR124_3 HR124_4 HR124_5 hx122_0 hx122_1 hx122_2 hx122_3 hx122_4 hx122_5 hx124_0 hx124_1 hx124_2 hx124_3 hx124_4 hx124_5 hHeld ⊢
          refine pure_ (i := 0) (N := some 53) (v := ?_) (a' := ?_) #[true, false, false, false, false, false, false, false, false, false, false, false, false, false] rfl rfl (any_of HT_.out (by kernel_rfl)) (fun _ _ _ h => h) (Or.inl ⟨by rfl, ?_⟩) ?_ ?_
          rotate_left
          ·intro w'; go_simp; with_reducible rfl
          rotate_left
          ·simp only [Act.put, lsa_, List.set_cons_zero, List.set_cons_succ, i64_w, i32_w]; rfl
          refine pure_ (i := 4) (N := some 57) (v := ?_) (a' := ?_) #[true, false, false, false, true, false, false, false, false, false, false, false, false, false] rfl rfl (any_of HT_.out (by kernel_rfl)) (fun _ _ _ h => h) (Or.inl ⟨by rfl, ?_⟩) ?_ ?_
          rotate_left
          ·intro w'; go_simp; with_reducible rfl
          rotate_left
          ·simp only [Act.put, lsa_, List.set_cons_zero, List.set_cons_succ, i64_w, i32_w]; rfl
          refine pure_ (i := 6) (N := some 59) (v := ?_) (a' := ?_) #[true, false, false, false, true, false, true, false, false, false, false, false, false, false] rfl rfl (any_of HT_.out (by kernel_rfl)) (fun _ _ _ h => h) (Or.inl ⟨by rfl, ?_⟩) ?_ ?_
          rotate_left
          ·intro w'; go_simp; with_reducible rfl
          rotate_left
          ·simp only [Act.put, lsa_, List.set_cons_zero, List.set_cons_succ, i64_w, i32_w]; rfl
          refine pure_ (i := 10) (N := some 63) (v := ?_) (a' := ?_) #[true, false, false, false, true, false, true, false, false, false, true, false, false, false] rfl rfl (any_of HT_.out (by kernel_rfl)) (fun _ _ _ h => h) (Or.inl ⟨by rfl, ?_⟩) ?_ ?_
          rotate_left
          ·intro w'; go_simp; with_reducible rfl
          rotate_left
          ·simp only [Act.put, lsa_, List.set_cons_zero, List.set_cons_succ, i64_w, i32_w]; rfl
          refine take_ (i := 1) (N := some 54) (v := ?_) (a' := ?_) #[true, true, false, false, true, false, true, false, false, false, true, false, false, false] rfl rfl (take_ofW HT_.out HW_.out (by kernel_rfl)) (fun _ _ _ h => h) (Or.inl ⟨by rfl, ?_⟩) hHeld ?_ ?_
          rotate_left
          ·rintro w' ⟨s0, s1, s2, s3, s4, s5, s6, s7, s8, s9, s10, s11, s12, s13, s14, s15, s16, s17⟩
           go_simp; with_reducible rfl
          rotate_left
          ·simp only [Act.put, lsa_, List.set_cons_zero, List.set_cons_succ, i64_w, i32_w]; rfl
          refine pure_ (i := 2) (N := some 55) (v := ?_) (a' := ?_) #[true, true, true, false, true, false, true, false, false, false, true, false, false, false] rfl rfl (any_of HT_.out (by kernel_rfl)) (fun _ _ _ h => h) (Or.inl ⟨by rfl, ?_⟩) ?_ ?_
          rotate_left
          ·intro w'; go_simp; with_reducible rfl
          rotate_left
          ·simp only [Act.put, lsa_, List.set_cons_zero, List.set_cons_succ, i64_w, i32_w]; rfl
          refine take_ (i := 3) (N := some 56) (v := ?_) (a' := ?_) #[true, true, true, true, true, false, true, false, false, false, true, false, false, false] rfl rfl (take_ofW HT_.out HW_.out (by kernel_rfl)) (fun _ _ _ h => h) (Or.inl ⟨by rfl, ?_⟩) hHeld ?_ ?_
          rotate_left
          ·rintro w' ⟨s0, s1, s2, s3, s4, s5, s6, s7, s8, s9, s10, s11, s12, s13, s14, s15, s16, s17⟩
           go_simp; with_reducible rfl
          rotate_left
          ·simp only [Act.put, lsa_, List.set_cons_zero, List.set_cons_succ, i64_w, i32_w]; rfl
          refine take_ (i := 7) (N := some 60) (v := ?_) (a' := ?_) #[true, true, true, true, true, false, true, true, false, false, true, false, false, false] rfl rfl (take_ofW HT_.out HW_.out (by kernel_rfl)) (fun _ _ _ h => h) (Or.inl ⟨by rfl, ?_⟩) hHeld ?_ ?_
          rotate_left
          ·rintro w' ⟨s0, s1, s2, s3, s4, s5, s6, s7, s8, s9, s10, s11, s12, s13, s14, s15, s16, s17⟩
           go_simp; with_reducible rfl
          rotate_left
          ·simp only [Act.put, lsa_, List.set_cons_zero, List.set_cons_succ, i64_w, i32_w]; rfl
          refine pure_ (i := 8) (N := some 61) (v := ?_) (a' := ?_) #[true, true, true, true, true, false, true, true, true, false, true, false, false, false] rfl rfl (any_of HT_.out (by kernel_rfl)) (fun _ _ _ h => h) (Or.inl ⟨by rfl, ?_⟩) ?_ ?_
          rotate_left
          ·intro w'; go_simp; with_reducible rfl
          rotate_left
          ·simp only [Act.put, lsa_, List.set_cons_zero, List.set_cons_succ, i64_w, i32_w]; rfl
          refine take_ (i := 9) (N := some 62) (v := ?_) (a' := ?_) #[true, true, true, true, true, false, true, true, true, true, true, false, false, false] rfl rfl (take_ofW HT_.out HW_.out (by kernel_rfl)) (fun _ _ _ h => h) (Or.inl ⟨by rfl, ?_⟩) hHeld ?_ ?_
          rotate_left
          ·rintro w' ⟨s0, s1, s2, s3, s4, s5, s6, s7, s8, s9, s10, s11, s12, s13, s14, s15, s16, s17⟩
           go_simp; with_reducible rfl
          rotate_left
          ·simp only [Act.put, lsa_, List.set_cons_zero, List.set_cons_succ, i64_w, i32_w]; rfl
          refine one_ (i := 5) (N := some 58) #[true, true, true, true, true, true, true, true, true, true, true, false, false, false] rfl rfl (one_of HT_.out (by kernel_rfl)) (by decide) (fun K hK => ?_)
          refine goes_ Try.func25 (by kernel_rfl) rfl #[.agg #[.int .i64 ((rd_T32 m5 0).f0), .int .i64 ((rd_T32 m5 0).f1), .bool ((rd_T32 m5 0).f2.f0), .slice A122_3 ((rd_T32 m5 0).f2.f1).length c122_3, .slice A122_4 ((rd_T32 m5 0).f2.f2).length c122_4, .slice A122_5 ((rd_T32 m5 0).f3).length c122_5], .slice A1 l1.length c1] (by rfl) rfl rfl (by (try simp only [List.map_toArray, List.map_cons, List.map_nil]); first | done | rfl | (simp only [List.length_drop, List.length_take]; rfl)) ?_
          with_reducible refine (ih k (by omega) ((rd_T32 m5 0).f0) ((rd_T32 m5 0).f1) ((rd_T32 m5 0).f2.f0) _ _ ((rd_T32 m5 0).f2.f1) _ _ ((rd_T32 m5 0).f2.f2) _ _ ((rd_T32 m5 0).f3) _ _ l1 t123 _ ?side1 ?side2 ?side3 ?side4 ?side5 ?side6 ?side7 ?side8 A41.out).mono ?_
          (case side1 => repeat (first | exact (Kd.C_below HR122_3.out HB.out) | (with_reducible refine Kd.C_alloc ?_ _) | (with_reducible refine Kd.C_drewN ?_ _) | (with_reducible refine Kd.C_drew ?_)))
          (case side2 => exact HC122_3.out)
          (case side3 => repeat (first | exact (Kd.C_below HR122_4.out HB.out) | (with_reducible refine Kd.C_alloc ?_ _) | (with_reducible refine Kd.C_drewN ?_ _) | (with_reducible refine Kd.C_drew ?_)))
          (case side4 => exact HC122_4.out)
          (case side5 => repeat (first | exact (Kd.C_below HR122_5.out HB.out) | (with_reducible refine Kd.C_alloc ?_ _) | (with_reducible refine Kd.C_drewN ?_ _) | (with_reducible refine Kd.C_drew ?_)))
          (case side6 => exact HC122_5.out)
          (case side7 => repeat (first | exact (Kd.C_below HR1.out HB.out) | (with_reducible refine Kd.C_alloc ?_ _) | (with_reducible refine Kd.C_drewN ?_ _) | (with_reducible refine Kd.C_drew ?_)))
          (case side8 => exact HC1.out)
          rintro e w66 ⟨rfl, hb⟩
          refine ⟨_, rfl, ?_⟩
          replace BK109 := Aside0.mk (blk_below (g := gb109) (o := .cells #[.int .i64 v0, .int .i64 v1, .bool v2, .slice B3 m3.length k_3, .slice B4 m4.length k_4, .slice (some ad122) m5.length k_5] 32 (0, 0)) bk_ hb); replace HB := Aside0.mk (below_step bl_ hb); (try clear hb)
          (try clear hb2)
          (try clear hk)
          (try clear hi)
          refine hK.out _ _ ⟨(blk_cell BK109.out 0).trans rfl, (blk_cell BK109.out 1).trans rfl, (blk_cell BK109.out 2).trans rfl, (blk_cell BK109.out 3).trans rfl, (blk_cell BK109.out 4).trans rfl, (blk_cell BK109.out 5).trans rfl, ((HB.out.cell (wlt_ w _ hw122_0)).trans hw122_0), ((HB.out.cell (wlt_ w _ hw122_1)).trans hw122_1), ((HB.out.cell (wlt_ w _ hw122_2)).trans hw122_2), ((HB.out.cell (wlt_ w _ hw122_3)).trans hw122_3), ((HB.out.cell (wlt_ w _ hw122_4)).trans hw122_4), ((HB.out.cell (wlt_ w _ hw122_5)).trans hw122_5), ((HB.out.cell (wlt_ w _ hw124_0)).trans hw124_0), ((HB.out.cell (wlt_ w _ hw124_1)).trans hw124_1), ((HB.out.cell (wlt_ w _ hw124_2)).trans hw124_2), ((HB.out.cell (wlt_ w _ hw124_3)).trans hw124_3), ((HB.out.cell (wlt_ w _ hw124_4)).trans hw124_4), ((HB.out.cell (wlt_ w _ hw124_5)).trans hw124_5)⟩ (fun hHeld => ?_)
          clear hK K; refine norm_ (a' := ?_) ?_ ?_
          rotate_left
          ·show Act.put _ (some 58) _ = _
           simp only [Act.put, lsa_, List.set_cons_zero, List.set_cons_succ, i64_w, i32_w]; rfl
          refine one_ (i := 11) (N := some 64) #[true, true, true, true, true, true, true, true, true, true, true, true, false, false] rfl rfl (one_of HT_.out (by kernel_rfl)) (by decide) (fun K hK => ?_)
          refine goes_ Try.func25 (by kernel_rfl) rfl #[.agg #[.int .i64 ((rd_T32 m5 1).f0), .int .i64 ((rd_T32 m5 1).f1), .bool ((rd_T32 m5 1).f2.f0), .slice A124_3 ((rd_T32 m5 1).f2.f1).length c124_3, .slice A124_4 ((rd_T32 m5 1).f2.f2).length c124_4, .slice A124_5 ((rd_T32 m5 1).f3).length c124_5], .slice A1 l1.length c1] (by rfl) rfl rfl (by (try simp only [List.map_toArray, List.map_cons, List.map_nil]); first | done | rfl | (simp only [List.length_drop, List.length_take]; rfl)) ?_
          with_reducible refine (ih k (by omega) ((rd_T32 m5 1).f0) ((rd_T32 m5 1).f1) ((rd_T32 m5 1).f2.f0) _ _ ((rd_T32 m5 1).f2.f1) _ _ ((rd_T32 m5 1).f2.f2) _ _ ((rd_T32 m5 1).f3) _ _ l1 t125 _ ?side1 ?side2 ?side3 ?side4 ?side5 ?side6 ?side7 ?side8 A43.out).mono ?_
          (case side1 => repeat (first | exact (Kd.C_below HR124_3.out HB.out) | (with_reducible refine Kd.C_alloc ?_ _) | (with_reducible refine Kd.C_drewN ?_ _) | (with_reducible refine Kd.C_drew ?_)))
          (case side2 => exact HC124_3.out)
          (case side3 => repeat (first | exact (Kd.C_below HR124_4.out HB.out) | (with_reducible refine Kd.C_alloc ?_ _) | (with_reducible refine Kd.C_drewN ?_ _) | (with_reducible refine Kd.C_drew ?_)))
          (case side4 => exact HC124_4.out)
          (case side5 => repeat (first | exact (Kd.C_below HR124_5.out HB.out) | (with_reducible refine Kd.C_alloc ?_ _) | (with_reducible refine Kd.C_drewN ?_ _) | (with_reducible refine Kd.C_drew ?_)))
          (case side6 => exact HC124_5.out)
          (case side7 => repeat (first | exact (Kd.C_below HR1.out HB.out) | (with_reducible refine Kd.C_alloc ?_ _) | (with_reducible refine Kd.C_drewN ?_ _) | (with_reducible refine Kd.C_drew ?_)))
          (case side8 => exact HC1.out)
          rintro e w67 ⟨rfl, hb⟩
          refine ⟨_, rfl, ?_⟩
          replace BK109 := Aside0.mk (blk_below (g := gb109) (o := .cells #[.int .i64 v0, .int .i64 v1, .bool v2, .slice B3 m3.length k_3, .slice B4 m4.length k_4, .slice (some ad122) m5.length k_5] 32 (0, 0)) bk_ hb); replace HB := Aside0.mk (below_step bl_ hb); (try clear hb)
          (try clear hb2)
          (try clear hk)
          (try clear hi)
          refine hK.out _ _ ⟨(blk_cell BK109.out 0).trans rfl, (blk_cell BK109.out 1).trans rfl, (blk_cell BK109.out 2).trans rfl, (blk_cell BK109.out 3).trans rfl, (blk_cell BK109.out 4).trans rfl, (blk_cell BK109.out 5).trans rfl, ((HB.out.cell (wlt_ w _ hw122_0)).trans hw122_0), ((HB.out.cell (wlt_ w _ hw122_1)).trans hw122_1), ((HB.out.cell (wlt_ w _ hw122_2)).trans hw122_2), ((HB.out.cell (wlt_ w _ hw122_3)).trans hw122_3), ((HB.out.cell (wlt_ w _ hw122_4)).trans hw122_4), ((HB.out.cell (wlt_ w _ hw122_5)).trans hw122_5), ((HB.out.cell (wlt_ w _ hw124_0)).trans hw124_0), ((HB.out.cell (wlt_ w _ hw124_1)).trans hw124_1), ((HB.out.cell (wlt_ w _ hw124_2)).trans hw124_2), ((HB.out.cell (wlt_ w _ hw124_3)).trans hw124_3), ((HB.out.cell (wlt_ w _ hw124_4)).trans hw124_4), ((HB.out.cell (wlt_ w _ hw124_5)).trans hw124_5)⟩ (fun hHeld => ?_)
          clear hK K; refine norm_ (a' := ?_) ?_ ?_
          rotate_left
          ·show Act.put _ (some 64) _ = _
           simp only [Act.put, lsa_, List.set_cons_zero, List.set_cons_succ, i64_w, i32_w]; rfl
          refine pure_ (i := 12) (N := some 5) (v := ?_) (a' := ?_) #[true, true, true, true, true, true, true, true, true, true, true, true, true, false] rfl rfl (any_of HT_.out (by kernel_rfl)) (fun _ _ _ h => h) (Or.inl ⟨by rfl, ?_⟩) ?_ ?_
          rotate_left
          ·intro w'; go_simp; with_reducible rfl
          rotate_left
          ·simp only [Act.put, lsa_, List.set_cons_zero, List.set_cons_succ, i64_w, i32_w]; rfl
          refine pure_ (i := 13) (N := some 6) (v := ?_) (a' := ?_) #[true, true, true, true, true, true, true, true, true, true, true, true, true, true] rfl rfl (any_of HT_.out (by kernel_rfl)) (fun _ _ _ h => h) (Or.inl ⟨by rfl, ?_⟩) ?_ ?_
          rotate_left
          ·intro w'; go_simp; with_reducible rfl
          rotate_left
          ·simp only [Act.put, lsa_, List.set_cons_zero, List.set_cons_succ, i64_w, i32_w]; rfl
          refine done_ (done_of HT_.out (by kernel_rfl)) ?_
          obtain ⟨hcz68_0, hcz68_1, hcz68_2, hcz68_3, hcz68_4, hcz68_5, hfz68_0, hfz68_1, hfz68_2, hfz68_3, hfz68_4, hfz68_5⟩ := cf6_ BK109.out; try go_wp2_with (first | ((with_reducible refine gate_callee (f := 20) rfl ?_); refine goesL_ (some 84) rfl rfl Try.func20 (by kernel_rfl) rfl #[.bool (t125 != 0)] rfl (by (try simp only [List.map_toArray, List.map_cons, List.map_nil]); first | done | rfl | (simp only [List.length_drop, List.length_take]; rfl)) ?_; (with_reducible refine (core_truth.calls (t125 != 0) t128 _ A62.out).mono ?_); rintro e w' ⟨rfl, ⟨nd, rfl⟩⟩; refine ⟨_, rfl, ?_⟩))
          go_ret; exact ⟨re_, bl_⟩
         ·rw [if_neg c61] at H; have c61b0 : (t123 == 0) = false := beq_eq_false_iff_ne.mpr c61; have c61b1 : (t123 != 0) = true := bne_iff_ne.mpr c61; replace H := Option.bind_eq_some_iff.mp H; obtain ⟨t129, A690, H⟩ := H; replace H : (some t129) = some r := H; have A69 := Aside0.mk A690; clear A690; obtain rfl := Option.some.inj H; go_enter Try.func25, Try.ntmps25; try go_wp2_with (first | ((with_reducible refine gate_dst (N := 2) rfl ?_); refine box_event ?hg (N := 2) ?hd (cs := #[.int .i64 v0, .int .i64 v1, .bool v2, .slice B3 m3.length k_3, .slice B4 m4.length k_4, .slice B5 m5.length k_5]) (t := 32) ?hr ?_; (case hd => rfl); (case hg => rfl); (case hr => first | (go_simp; done) | (go_simp; rfl)); intro gb109 hg w70 hbox hb; have BK109 := Aside0.mk (hbox); have GW109 : Aside0 (w.heap.size ≤ gb109) := gw_ hg (below_size bl_); have GE109 := GW109; replace HB := Aside0.mk (below_step bl_ hb); clear hb hbox hg; obtain ⟨hcz71_0, hcz71_1, hcz71_2, hcz71_3, hcz71_4, hcz71_5, hfz71_0, hfz71_1, hfz71_2, hfz71_3, hfz71_4, hfz71_5⟩ := cf6_ BK109.out))
          replace BK109 := Aside0.mk (blk_drew BK109.out); replace HB := Aside0.mk (below_drew1 HB.out); have p122 : 0 ≤ (0 : Int) := (by omega); have q122 : 0 < (m5.length : Int) := dt_; obtain ⟨ad122, A122_3, c122_3, A122_4, c122_4, A122_5, c122_5, e122, hx122_0, hx122_1, hx122_2, hx122_3, hx122_4, hx122_5, hl122_3, hi122_3, hl122_4, hi122_4, hl122_5, hi122_5⟩ := at_T32 X5.out 0 p122 q122; have hw122_5 := hx122_5; (try rw [show ((0 : Int)).toNat = 0 from rfl] at hw122_5)
          (try rw [show 0 * 6 = 0 from rfl] at hw122_5)
          (try rw [Addr.add_zero'] at hw122_5)
          have hw122_4 := hx122_4; (try rw [show ((0 : Int)).toNat = 0 from rfl] at hw122_4)
          (try rw [show 0 * 6 = 0 from rfl] at hw122_4)
          (try rw [Addr.add_zero'] at hw122_4)
          have hw122_3 := hx122_3; (try rw [show ((0 : Int)).toNat = 0 from rfl] at hw122_3)
          (try rw [show 0 * 6 = 0 from rfl] at hw122_3)
          (try rw [Addr.add_zero'] at hw122_3)
          have hw122_2 := hx122_2; (try rw [show ((0 : Int)).toNat = 0 from rfl] at hw122_2)
          (try rw [show 0 * 6 = 0 from rfl] at hw122_2)
          (try rw [Addr.add_zero'] at hw122_2)
          have hw122_1 := hx122_1; (try rw [show ((0 : Int)).toNat = 0 from rfl] at hw122_1)
          (try rw [show 0 * 6 = 0 from rfl] at hw122_1)
          (try rw [Addr.add_zero'] at hw122_1)
          have hw122_0 := hx122_0; (try rw [show ((0 : Int)).toNat = 0 from rfl] at hw122_0)
          (try rw [show 0 * 6 = 0 from rfl] at hw122_0)
          (try rw [Addr.add_zero'] at hw122_0)
          cases e122; have qi122 : (0 < m5.length) = True := eq_true (by omega); (try rw [show ((0 : Int)).toNat = 0 from rfl] at hx122_0)
          (try rw [show 0 * 6 = 0 from rfl] at hx122_0)
          (try rw [Addr.add_zero'] at hx122_0)
          (try rw [show ((0 : Int)).toNat = 0 from rfl] at hx122_1)
          (try rw [show 0 * 6 = 0 from rfl] at hx122_1)
          (try rw [Addr.add_zero'] at hx122_1)
          (try rw [show ((0 : Int)).toNat = 0 from rfl] at hx122_2)
          (try rw [show 0 * 6 = 0 from rfl] at hx122_2)
          (try rw [Addr.add_zero'] at hx122_2)
          (try rw [show ((0 : Int)).toNat = 0 from rfl] at hx122_3)
          (try rw [show 0 * 6 = 0 from rfl] at hx122_3)
          (try rw [Addr.add_zero'] at hx122_3)
          (try rw [show ((0 : Int)).toNat = 0 from rfl] at hx122_4)
          (try rw [show 0 * 6 = 0 from rfl] at hx122_4)
          (try rw [Addr.add_zero'] at hx122_4)
          (try rw [show ((0 : Int)).toNat = 0 from rfl] at hx122_5)
          (try rw [show 0 * 6 = 0 from rfl] at hx122_5)
          (try rw [Addr.add_zero'] at hx122_5)
          replace hx122_0 := (HB.out.cell (wlt_ w _ hx122_0)).trans hx122_0; replace hx122_1 := (HB.out.cell (wlt_ w _ hx122_1)).trans hx122_1; replace hx122_2 := (HB.out.cell (wlt_ w _ hx122_2)).trans hx122_2; replace hx122_3 := (HB.out.cell (wlt_ w _ hx122_3)).trans hx122_3; replace hx122_4 := (HB.out.cell (wlt_ w _ hx122_4)).trans hx122_4; replace hx122_5 := (HB.out.cell (wlt_ w _ hx122_5)).trans hx122_5; have HR122_3 := Aside0.mk hi122_3; have HC122_3 := Aside0.mk hl122_3; clear hi122_3 hl122_3; have HR122_4 := Aside0.mk hi122_4; have HC122_4 := Aside0.mk hl122_4; clear hi122_4 hl122_4; have HR122_5 := Aside0.mk hi122_5; have HC122_5 := Aside0.mk hl122_5; clear hi122_5 hl122_5; replace p122 := eq_true p122; replace q122 := eq_true q122; have p124 : 0 ≤ (1 : Int) := (by omega); have q124 : 1 < (m5.length : Int) := dt_; obtain ⟨ad124, A124_3, c124_3, A124_4, c124_4, A124_5, c124_5, e124, hx124_0, hx124_1, hx124_2, hx124_3, hx124_4, hx124_5, hl124_3, hi124_3, hl124_4, hi124_4, hl124_5, hi124_5⟩ := at_T32 X5.out 1 p124 q124; have hw124_5 := hx124_5; (try rw [show ((1 : Int)).toNat = 1 from rfl] at hw124_5)
          (try rw [show 1 * 6 = 6 from rfl] at hw124_5)
          (try simp only [Nat.reduceMul, Nat.reduceEqDiff, Go.Addr.add, ↓reduceIte] at hw124_5)
          have hw124_4 := hx124_4; (try rw [show ((1 : Int)).toNat = 1 from rfl] at hw124_4)
          (try rw [show 1 * 6 = 6 from rfl] at hw124_4)
          (try simp only [Nat.reduceMul, Nat.reduceEqDiff, Go.Addr.add, ↓reduceIte] at hw124_4)
          have hw124_3 := hx124_3; (try rw [show ((1 : Int)).toNat = 1 from rfl] at hw124_3)
          (try rw [show 1 * 6 = 6 from rfl] at hw124_3)
          (try simp only [Nat.reduceMul, Nat.reduceEqDiff, Go.Addr.add, ↓reduceIte] at hw124_3)
          have hw124_2 := hx124_2; (try rw [show ((1 : Int)).toNat = 1 from rfl] at hw124_2)
          (try rw [show 1 * 6 = 6 from rfl] at hw124_2)
          (try simp only [Nat.reduceMul, Nat.reduceEqDiff, Go.Addr.add, ↓reduceIte] at hw124_2)
          have hw124_1 := hx124_1; (try rw [show ((1 : Int)).toNat = 1 from rfl] at hw124_1)
          (try rw [show 1 * 6 = 6 from rfl] at hw124_1)
          (try simp only [Nat.reduceMul, Nat.reduceEqDiff, Go.Addr.add, ↓reduceIte] at hw124_1)
          have hw124_0 := hx124_0; (try rw [show ((1 : Int)).toNat = 1 from rfl] at hw124_0)
          (try rw [show 1 * 6 = 6 from rfl] at hw124_0)
          (try simp only [Nat.reduceMul, Nat.reduceEqDiff, Go.Addr.add, ↓reduceIte] at hw124_0)
          obtain rfl : ad122 = ad124 := (by injection e124); (try simp only [show (1 : Int).toNat = 1 from rfl, Nat.reduceMul, Nat.reduceEqDiff, Go.Addr.add, ↓reduceIte] at hx124_0)
          (try simp only [show (1 : Int).toNat = 1 from rfl, Nat.reduceMul, Nat.reduceEqDiff, Go.Addr.add, ↓reduceIte] at hx124_1)
          (try simp only [show (1 : Int).toNat = 1 from rfl, Nat.reduceMul, Nat.reduceEqDiff, Go.Addr.add, ↓reduceIte] at hx124_2)
          (try simp only [show (1 : Int).toNat = 1 from rfl, Nat.reduceMul, Nat.reduceEqDiff, Go.Addr.add, ↓reduceIte] at hx124_3)
          (try simp only [show (1 : Int).toNat = 1 from rfl, Nat.reduceMul, Nat.reduceEqDiff, Go.Addr.add, ↓reduceIte] at hx124_4)
          (try simp only [show (1 : Int).toNat = 1 from rfl, Nat.reduceMul, Nat.reduceEqDiff, Go.Addr.add, ↓reduceIte] at hx124_5)
          have qi124 : (1 < m5.length) = True := eq_true (by omega); (try rw [show ((1 : Int)).toNat = 1 from rfl] at hx124_0)
          (try rw [show 1 * 6 = 6 from rfl] at hx124_0)
          (try rw [show ((1 : Int)).toNat = 1 from rfl] at hx124_1)
          (try rw [show 1 * 6 = 6 from rfl] at hx124_1)
          (try rw [show ((1 : Int)).toNat = 1 from rfl] at hx124_2)
          (try rw [show 1 * 6 = 6 from rfl] at hx124_2)
          (try rw [show ((1 : Int)).toNat = 1 from rfl] at hx124_3)
          (try rw [show 1 * 6 = 6 from rfl] at hx124_3)
          (try rw [show ((1 : Int)).toNat = 1 from rfl] at hx124_4)
          (try rw [show 1 * 6 = 6 from rfl] at hx124_4)
          (try rw [show ((1 : Int)).toNat = 1 from rfl] at hx124_5)
          (try rw [show 1 * 6 = 6 from rfl] at hx124_5)
          replace hx124_0 := (HB.out.cell (wlt_ w _ hx124_0)).trans hx124_0; replace hx124_1 := (HB.out.cell (wlt_ w _ hx124_1)).trans hx124_1; replace hx124_2 := (HB.out.cell (wlt_ w _ hx124_2)).trans hx124_2; replace hx124_3 := (HB.out.cell (wlt_ w _ hx124_3)).trans hx124_3; replace hx124_4 := (HB.out.cell (wlt_ w _ hx124_4)).trans hx124_4; replace hx124_5 := (HB.out.cell (wlt_ w _ hx124_5)).trans hx124_5; have HR124_3 := Aside0.mk hi124_3; have HC124_3 := Aside0.mk hl124_3; clear hi124_3 hl124_3; have HR124_4 := Aside0.mk hi124_4; have HC124_4 := Aside0.mk hl124_4; clear hi124_4 hl124_4; have HR124_5 := Aside0.mk hi124_5; have HC124_5 := Aside0.mk hl124_5; clear hi124_5 hl124_5; replace p124 := eq_true p124; replace q124 := eq_true q124; refine start_ (n := 14) (S := fun w' => w'.cell? ⟨gb109, 0, none⟩ = some (.int .i64 v0) ∧ w'.cell? ⟨gb109, 1, none⟩ = some (.int .i64 v1) ∧ w'.cell? ⟨gb109, 2, none⟩ = some (.bool v2) ∧ w'.cell? ⟨gb109, 3, none⟩ = some (.slice B3 m3.length k_3) ∧ w'.cell? ⟨gb109, 4, none⟩ = some (.slice B4 m4.length k_4) ∧ w'.cell? ⟨gb109, 5, none⟩ = some (.slice (some ad122) m5.length k_5) ∧ w'.cell? ad122 = some (.int .i64 ((rd_T32 m5 0).f0)) ∧ w'.cell? ⟨ad122.block, ad122.off + 1, none⟩ = some (.int .i64 ((rd_T32 m5 0).f1)) ∧ w'.cell? ⟨ad122.block, ad122.off + 2, none⟩ = some (.bool ((rd_T32 m5 0).f2.f0)) ∧ w'.cell? ⟨ad122.block, ad122.off + 3, none⟩ = some (.slice A122_3 ((rd_T32 m5 0).f2.f1).length c122_3) ∧ w'.cell? ⟨ad122.block, ad122.off + 4, none⟩ = some (.slice A122_4 ((rd_T32 m5 0).f2.f2).length c122_4) ∧ w'.cell? ⟨ad122.block, ad122.off + 5, none⟩ = some (.slice A122_5 ((rd_T32 m5 0).f3).length c122_5) ∧ w'.cell? ⟨ad122.block, ad122.off + 6, none⟩ = some (.int .i64 ((rd_T32 m5 1).f0)) ∧ w'.cell? ⟨ad122.block, ad122.off + 6 + 1, none⟩ = some (.int .i64 ((rd_T32 m5 1).f1)) ∧ w'.cell? ⟨ad122.block, ad122.off + 6 + 2, none⟩ = some (.bool ((rd_T32 m5 1).f2.f0)) ∧ w'.cell? ⟨ad122.block, ad122.off + 6 + 3, none⟩ = some (.slice A124_3 ((rd_T32 m5 1).f2.f1).length c124_3) ∧ w'.cell? ⟨ad122.block, ad122.off + 6 + 4, none⟩ = some (.slice A124_4 ((rd_T32 m5 1).f2.f2).length c124_4) ∧ w'.cell? ⟨ad122.block, ad122.off + 6 + 5, none⟩ = some (.slice A124_5 ((rd_T32 m5 1).f3).length c124_5)) (ds := []) #[false, false, false, false, false, false, false, false, false, false, false, false, false, false] (by kernel_rfl) rfl rfl ⟨(blk_cell BK109.out 0).trans rfl, (blk_cell BK109.out 1).trans rfl, (blk_cell BK109.out 2).trans rfl, (blk_cell BK109.out 3).trans rfl, (blk_cell BK109.out 4).trans rfl, (blk_cell BK109.out 5).trans rfl, ((HB.out.cell (wlt_ w _ hw122_0)).trans hw122_0), ((HB.out.cell (wlt_ w _ hw122_1)).trans hw122_1), ((HB.out.cell (wlt_ w _ hw122_2)).trans hw122_2), ((HB.out.cell (wlt_ w _ hw122_3)).trans hw122_3), ((HB.out.cell (wlt_ w _ hw122_4)).trans hw122_4), ((HB.out.cell (wlt_ w _ hw122_5)).trans hw122_5), ((HB.out.cell (wlt_ w _ hw124_0)).trans hw124_0), ((HB.out.cell (wlt_ w _ hw124_1)).trans hw124_1), ((HB.out.cell (wlt_ w _ hw124_2)).trans hw124_2), ((HB.out.cell (wlt_ w _ hw124_3)).trans hw124_3), ((HB.out.cell (wlt_ w _ hw124_4)).trans hw124_4), ((HB.out.cell (wlt_ w _ hw124_5)).trans hw124_5)⟩ (fun hHeld => ?_); refine with_tabW core_eval.tab12 core_eval.bits12 (fun HT_ HW_ => ?_)
          generalize w70.drew = w72 at BK109 HB HR122_3 HR122_4 HR122_5 HR124_3 HR124_4 HR124_5 hx122_0 hx122_1 hx122_2 hx122_3 hx122_4 hx122_5 hx124_0 hx124_1 hx124_2 hx124_3 hx124_4 hx124_5 hHeld ⊢
          refine pure_ (i := 0) (N := some 53) (v := ?_) (a' := ?_) #[true, false, false, false, false, false, false, false, false, false, false, false, false, false] rfl rfl (any_of HT_.out (by kernel_rfl)) (fun _ _ _ h => h) (Or.inl ⟨by rfl, ?_⟩) ?_ ?_
          rotate_left
          ·intro w'; go_simp; with_reducible rfl
          rotate_left
          ·simp only [Act.put, lsa_, List.set_cons_zero, List.set_cons_succ, i64_w, i32_w]; rfl
          refine pure_ (i := 4) (N := some 57) (v := ?_) (a' := ?_) #[true, false, false, false, true, false, false, false, false, false, false, false, false, false] rfl rfl (any_of HT_.out (by kernel_rfl)) (fun _ _ _ h => h) (Or.inl ⟨by rfl, ?_⟩) ?_ ?_
          rotate_left
          ·intro w'; go_simp; with_reducible rfl
          rotate_left
          ·simp only [Act.put, lsa_, List.set_cons_zero, List.set_cons_succ, i64_w, i32_w]; rfl
          refine pure_ (i := 6) (N := some 59) (v := ?_) (a' := ?_) #[true, false, false, false, true, false, true, false, false, false, false, false, false, false] rfl rfl (any_of HT_.out (by kernel_rfl)) (fun _ _ _ h => h) (Or.inl ⟨by rfl, ?_⟩) ?_ ?_
          rotate_left
          ·intro w'; go_simp; with_reducible rfl
          rotate_left
          ·simp only [Act.put, lsa_, List.set_cons_zero, List.set_cons_succ, i64_w, i32_w]; rfl
          refine pure_ (i := 10) (N := some 63) (v := ?_) (a' := ?_) #[true, false, false, false, true, false, true, false, false, false, true, false, false, false] rfl rfl (any_of HT_.out (by kernel_rfl)) (fun _ _ _ h => h) (Or.inl ⟨by rfl, ?_⟩) ?_ ?_
          rotate_left
          ·intro w'; go_simp; with_reducible rfl
          rotate_left
          ·simp only [Act.put, lsa_, List.set_cons_zero, List.set_cons_succ, i64_w, i32_w]; rfl
          refine take_ (i := 1) (N := some 54) (v := ?_) (a' := ?_) #[true, true, false, false, true, false, true, false, false, false, true, false, false, false] rfl rfl (take_ofW HT_.out HW_.out (by kernel_rfl)) (fun _ _ _ h => h) (Or.inl ⟨by rfl, ?_⟩) hHeld ?_ ?_
          rotate_left
          ·rintro w' ⟨s0, s1, s2, s3, s4, s5, s6, s7, s8, s9, s10, s11, s12, s13, s14, s15, s16, s17⟩
           go_simp; with_reducible rfl
          rotate_left
          ·simp only [Act.put, lsa_, List.set_cons_zero, List.set_cons_succ, i64_w, i32_w]; rfl
          refine pure_ (i := 2) (N := some 55) (v := ?_) (a' := ?_) #[true, true, true, false, true, false, true, false, false, false, true, false, false, false] rfl rfl (any_of HT_.out (by kernel_rfl)) (fun _ _ _ h => h) (Or.inl ⟨by rfl, ?_⟩) ?_ ?_
          rotate_left
          ·intro w'; go_simp; with_reducible rfl
          rotate_left
          ·simp only [Act.put, lsa_, List.set_cons_zero, List.set_cons_succ, i64_w, i32_w]; rfl
          refine take_ (i := 3) (N := some 56) (v := ?_) (a' := ?_) #[true, true, true, true, true, false, true, false, false, false, true, false, false, false] rfl rfl (take_ofW HT_.out HW_.out (by kernel_rfl)) (fun _ _ _ h => h) (Or.inl ⟨by rfl, ?_⟩) hHeld ?_ ?_
          rotate_left
          ·rintro w' ⟨s0, s1, s2, s3, s4, s5, s6, s7, s8, s9, s10, s11, s12, s13, s14, s15, s16, s17⟩
           go_simp; with_reducible rfl
          rotate_left
          ·simp only [Act.put, lsa_, List.set_cons_zero, List.set_cons_succ, i64_w, i32_w]; rfl
          refine take_ (i := 7) (N := some 60) (v := ?_) (a' := ?_) #[true, true, true, true, true, false, true, true, false, false, true, false, false, false] rfl rfl (take_ofW HT_.out HW_.out (by kernel_rfl)) (fun _ _ _ h => h) (Or.inl ⟨by rfl, ?_⟩) hHeld ?_ ?_
          rotate_left
          ·rintro w' ⟨s0, s1, s2, s3, s4, s5, s6, s7, s8, s9, s10, s11, s12, s13, s14, s15, s16, s17⟩
           go_simp; with_reducible rfl
          rotate_left
          ·simp only [Act.put, lsa_, List.set_cons_zero, List.set_cons_succ, i64_w, i32_w]; rfl
          refine pure_ (i := 8) (N := some 61) (v := ?_) (a' := ?_) #[true, true, true, true, true, false, true, true, true, false, true, false, false, false] rfl rfl (any_of HT_.out (by kernel_rfl)) (fun _ _ _ h => h) (Or.inl ⟨by rfl, ?_⟩) ?_ ?_
          rotate_left
          ·intro w'; go_simp; with_reducible rfl
          rotate_left
          ·simp only [Act.put, lsa_, List.set_cons_zero, List.set_cons_succ, i64_w, i32_w]; rfl
          refine take_ (i := 9) (N := some 62) (v := ?_) (a' := ?_) #[true, true, true, true, true, false, true, true, true, true, true, false, false, false] rfl rfl (take_ofW HT_.out HW_.out (by kernel_rfl)) (fun _ _ _ h => h) (Or.inl ⟨by rfl, ?_⟩) hHeld ?_ ?_
          rotate_left
          ·rintro w' ⟨s0, s1, s2, s3, s4, s5, s6, s7, s8, s9, s10, s11, s12, s13, s14, s15, s16, s17⟩
           go_simp; with_reducible rfl
          rotate_left
          ·simp only [Act.put, lsa_, List.set_cons_zero, List.set_cons_succ, i64_w, i32_w]; rfl
          refine one_ (i := 5) (N := some 58) #[true, true, true, true, true, true, true, true, true, true, true, false, false, false] rfl rfl (one_of HT_.out (by kernel_rfl)) (by decide) (fun K hK => ?_)
          refine goes_ Try.func25 (by kernel_rfl) rfl #[.agg #[.int .i64 ((rd_T32 m5 0).f0), .int .i64 ((rd_T32 m5 0).f1), .bool ((rd_T32 m5 0).f2.f0), .slice A122_3 ((rd_T32 m5 0).f2.f1).length c122_3, .slice A122_4 ((rd_T32 m5 0).f2.f2).length c122_4, .slice A122_5 ((rd_T32 m5 0).f3).length c122_5], .slice A1 l1.length c1] (by rfl) rfl rfl (by (try simp only [List.map_toArray, List.map_cons, List.map_nil]); first | done | rfl | (simp only [List.length_drop, List.length_take]; rfl)) ?_
          with_reducible refine (ih k (by omega) ((rd_T32 m5 0).f0) ((rd_T32 m5 0).f1) ((rd_T32 m5 0).f2.f0) _ _ ((rd_T32 m5 0).f2.f1) _ _ ((rd_T32 m5 0).f2.f2) _ _ ((rd_T32 m5 0).f3) _ _ l1 t123 _ ?side1 ?side2 ?side3 ?side4 ?side5 ?side6 ?side7 ?side8 A41.out).mono ?_
          (case side1 => repeat (first | exact (Kd.C_below HR122_3.out HB.out) | (with_reducible refine Kd.C_alloc ?_ _) | (with_reducible refine Kd.C_drewN ?_ _) | (with_reducible refine Kd.C_drew ?_)))
          (case side2 => exact HC122_3.out)
          (case side3 => repeat (first | exact (Kd.C_below HR122_4.out HB.out) | (with_reducible refine Kd.C_alloc ?_ _) | (with_reducible refine Kd.C_drewN ?_ _) | (with_reducible refine Kd.C_drew ?_)))
          (case side4 => exact HC122_4.out)
          (case side5 => repeat (first | exact (Kd.C_below HR122_5.out HB.out) | (with_reducible refine Kd.C_alloc ?_ _) | (with_reducible refine Kd.C_drewN ?_ _) | (with_reducible refine Kd.C_drew ?_)))
          (case side6 => exact HC122_5.out)
          (case side7 => repeat (first | exact (Kd.C_below HR1.out HB.out) | (with_reducible refine Kd.C_alloc ?_ _) | (with_reducible refine Kd.C_drewN ?_ _) | (with_reducible refine Kd.C_drew ?_)))
          (case side8 => exact HC1.out)
          rintro e w73 ⟨rfl, hb⟩
          refine ⟨_, rfl, ?_⟩
          replace BK109 := Aside0.mk (blk_below (g := gb109) (o := .cells #[.int .i64 v0, .int .i64 v1, .bool v2, .slice B3 m3.length k_3, .slice B4 m4.length k_4, .slice (some ad122) m5.length k_5] 32 (0, 0)) bk_ hb); replace HB := Aside0.mk (below_step bl_ hb); (try clear hb)
          (try clear hb2)
          (try clear hk)
          (try clear hi)
          refine hK.out _ _ ⟨(blk_cell BK109.out 0).trans rfl, (blk_cell BK109.out 1).trans rfl, (blk_cell BK109.out 2).trans rfl, (blk_cell BK109.out 3).trans rfl, (blk_cell BK109.out 4).trans rfl, (blk_cell BK109.out 5).trans rfl, ((HB.out.cell (wlt_ w _ hw122_0)).trans hw122_0), ((HB.out.cell (wlt_ w _ hw122_1)).trans hw122_1), ((HB.out.cell (wlt_ w _ hw122_2)).trans hw122_2), ((HB.out.cell (wlt_ w _ hw122_3)).trans hw122_3), ((HB.out.cell (wlt_ w _ hw122_4)).trans hw122_4), ((HB.out.cell (wlt_ w _ hw122_5)).trans hw122_5), ((HB.out.cell (wlt_ w _ hw124_0)).trans hw124_0), ((HB.out.cell (wlt_ w _ hw124_1)).trans hw124_1), ((HB.out.cell (wlt_ w _ hw124_2)).trans hw124_2), ((HB.out.cell (wlt_ w _ hw124_3)).trans hw124_3), ((HB.out.cell (wlt_ w _ hw124_4)).trans hw124_4), ((HB.out.cell (wlt_ w _ hw124_5)).trans hw124_5)⟩ (fun hHeld => ?_)
          clear hK K; refine norm_ (a' := ?_) ?_ ?_
          rotate_left
          ·show Act.put _ (some 58) _ = _
           simp only [Act.put, lsa_, List.set_cons_zero, List.set_cons_succ, i64_w, i32_w]; rfl
          refine one_ (i := 11) (N := some 64) #[true, true, true, true, true, true, true, true, true, true, true, true, false, false] rfl rfl (one_of HT_.out (by kernel_rfl)) (by decide) (fun K hK => ?_)
          refine goes_ Try.func25 (by kernel_rfl) rfl #[.agg #[.int .i64 ((rd_T32 m5 1).f0), .int .i64 ((rd_T32 m5 1).f1), .bool ((rd_T32 m5 1).f2.f0), .slice A124_3 ((rd_T32 m5 1).f2.f1).length c124_3, .slice A124_4 ((rd_T32 m5 1).f2.f2).length c124_4, .slice A124_5 ((rd_T32 m5 1).f3).length c124_5], .slice A1 l1.length c1] (by rfl) rfl rfl (by (try simp only [List.map_toArray, List.map_cons, List.map_nil]); first | done | rfl | (simp only [List.length_drop, List.length_take]; rfl)) ?_
          with_reducible refine (ih k (by omega) ((rd_T32 m5 1).f0) ((rd_T32 m5 1).f1) ((rd_T32 m5 1).f2.f0) _ _ ((rd_T32 m5 1).f2.f1) _ _ ((rd_T32 m5 1).f2.f2) _ _ ((rd_T32 m5 1).f3) _ _ l1 t125 _ ?side1 ?side2 ?side3 ?side4 ?side5 ?side6 ?side7 ?side8 A43.out).mono ?_
          (case side1 => repeat (first | exact (Kd.C_below HR124_3.out HB.out) | (with_reducible refine Kd.C_alloc ?_ _) | (with_reducible refine Kd.C_drewN ?_ _) | (with_reducible refine Kd.C_drew ?_)))
          (case side2 => exact HC124_3.out)
          (case side3 => repeat (first | exact (Kd.C_below HR124_4.out HB.out) | (with_reducible refine Kd.C_alloc ?_ _) | (with_reducible refine Kd.C_drewN ?_ _) | (with_reducible refine Kd.C_drew ?_)))
          (case side4 => exact HC124_4.out)
          (case side5 => repeat (first | exact (Kd.C_below HR124_5.out HB.out) | (with_reducible refine Kd.C_alloc ?_ _) | (with_reducible refine Kd.C_drewN ?_ _) | (with_reducible refine Kd.C_drew ?_)))
          (case side6 => exact HC124_5.out)
          (case side7 => repeat (first | exact (Kd.C_below HR1.out HB.out) | (with_reducible refine Kd.C_alloc ?_ _) | (with_reducible refine Kd.C_drewN ?_ _) | (with_reducible refine Kd.C_drew ?_)))
          (case side8 => exact HC1.out)
          rintro e w74 ⟨rfl, hb⟩
          refine ⟨_, rfl, ?_⟩
          replace BK109 := Aside0.mk (blk_below (g := gb109) (o := .cells #[.int .i64 v0, .int .i64 v1, .bool v2, .slice B3 m3.length k_3, .slice B4 m4.length k_4, .slice (some ad122) m5.length k_5] 32 (0, 0)) bk_ hb); replace HB := Aside0.mk (below_step bl_ hb); (try clear hb)
          (try clear hb2)
          (try clear hk)
          (try clear hi)
          refine hK.out _ _ ⟨(blk_cell BK109.out 0).trans rfl, (blk_cell BK109.out 1).trans rfl, (blk_cell BK109.out 2).trans rfl, (blk_cell BK109.out 3).trans rfl, (blk_cell BK109.out 4).trans rfl, (blk_cell BK109.out 5).trans rfl, ((HB.out.cell (wlt_ w _ hw122_0)).trans hw122_0), ((HB.out.cell (wlt_ w _ hw122_1)).trans hw122_1), ((HB.out.cell (wlt_ w _ hw122_2)).trans hw122_2), ((HB.out.cell (wlt_ w _ hw122_3)).trans hw122_3), ((HB.out.cell (wlt_ w _ hw122_4)).trans hw122_4), ((HB.out.cell (wlt_ w _ hw122_5)).trans hw122_5), ((HB.out.cell (wlt_ w _ hw124_0)).trans hw124_0), ((HB.out.cell (wlt_ w _ hw124_1)).trans hw124_1), ((HB.out.cell (wlt_ w _ hw124_2)).trans hw124_2), ((HB.out.cell (wlt_ w _ hw124_3)).trans hw124_3), ((HB.out.cell (wlt_ w _ hw124_4)).trans hw124_4), ((HB.out.cell (wlt_ w _ hw124_5)).trans hw124_5)⟩ (fun hHeld => ?_)
          clear hK K; refine norm_ (a' := ?_) ?_ ?_
          rotate_left
          ·show Act.put _ (some 64) _ = _
           simp only [Act.put, lsa_, List.set_cons_zero, List.set_cons_succ, i64_w, i32_w]; rfl
          refine pure_ (i := 12) (N := some 5) (v := ?_) (a' := ?_) #[true, true, true, true, true, true, true, true, true, true, true, true, true, false] rfl rfl (any_of HT_.out (by kernel_rfl)) (fun _ _ _ h => h) (Or.inl ⟨by rfl, ?_⟩) ?_ ?_
          rotate_left
          ·intro w'; go_simp; with_reducible rfl
          rotate_left
          ·simp only [Act.put, lsa_, List.set_cons_zero, List.set_cons_succ, i64_w, i32_w]; rfl
          refine pure_ (i := 13) (N := some 6) (v := ?_) (a' := ?_) #[true, true, true, true, true, true, true, true, true, true, true, true, true, true] rfl rfl (any_of HT_.out (by kernel_rfl)) (fun _ _ _ h => h) (Or.inl ⟨by rfl, ?_⟩) ?_ ?_
          rotate_left
          ·intro w'; go_simp; with_reducible rfl
          rotate_left
          ·simp only [Act.put, lsa_, List.set_cons_zero, List.set_cons_succ, i64_w, i32_w]; rfl
          refine done_ (done_of HT_.out (by kernel_rfl)) ?_
          obtain ⟨hcz75_0, hcz75_1, hcz75_2, hcz75_3, hcz75_4, hcz75_5, hfz75_0, hfz75_1, hfz75_2, hfz75_3, hfz75_4, hfz75_5⟩ := cf6_ BK109.out; try go_wp2_with (first | ((with_reducible refine gate_callee (f := 20) rfl ?_); refine goesL_ (some 84) rfl rfl Try.func20 (by kernel_rfl) rfl #[.bool true] rfl (by (try simp only [List.map_toArray, List.map_cons, List.map_nil]); first | done | rfl | (simp only [List.length_drop, List.length_take]; rfl)) ?_; (with_reducible refine (core_truth.calls true t129 _ A69.out).mono ?_); rintro e w' ⟨rfl, ⟨nd, rfl⟩⟩; refine ⟨_, rfl, ?_⟩))
          go_ret; exact ⟨re_, bl_⟩
        ·rw [if_neg c60] at H; have c60b0 : (v0 == 6) = false := beq_eq_false_iff_ne.mpr c60; have c60b1 : (v0 != 6) = true := bne_iff_ne.mpr c60; by_cases c76 : v0 = 7
         ·rw [if_pos c76] at H; have c76b0 : (v0 == 7) = true := beq_iff_eq.mpr c76; have c76b1 : (v0 != 7) = false := bne_eq_false_iff_eq.mpr c76; clear c76; replace H := Option.bind_eq_some_iff.mp H; obtain ⟨t130, A770, H⟩ := H; replace H : (some t130) = some r := H; have A77 := Aside0.mk A770; clear A770; obtain rfl := Option.some.inj H; go_enter Try.func25, Try.ntmps25; try go_wp2_with (first | ((with_reducible refine gate_dst (N := 2) rfl ?_); refine box_event ?hg (N := 2) ?hd (cs := #[.int .i64 v0, .int .i64 v1, .bool v2, .slice B3 m3.length k_3, .slice B4 m4.length k_4, .slice B5 m5.length k_5]) (t := 32) ?hr ?_; (case hd => rfl); (case hg => rfl); (case hr => first | (go_simp; done) | (go_simp; rfl)); intro gb109 hg w78 hbox hb; have BK109 := Aside0.mk (hbox); have GW109 : Aside0 (w.heap.size ≤ gb109) := gw_ hg (below_size bl_); have GE109 := GW109; replace HB := Aside0.mk (below_step bl_ hb); clear hb hbox hg; obtain ⟨hcz79_0, hcz79_1, hcz79_2, hcz79_3, hcz79_4, hcz79_5, hfz79_0, hfz79_1, hfz79_2, hfz79_3, hfz79_4, hfz79_5⟩ := cf6_ BK109.out))
          replace BK109 := Aside0.mk (blk_drew BK109.out); replace HB := Aside0.mk (below_drew1 HB.out); have p122 : 0 ≤ (0 : Int) := (by omega); have q122 : 0 < (m5.length : Int) := dt_; obtain ⟨ad122, A122_3, c122_3, A122_4, c122_4, A122_5, c122_5, e122, hx122_0, hx122_1, hx122_2, hx122_3, hx122_4, hx122_5, hl122_3, hi122_3, hl122_4, hi122_4, hl122_5, hi122_5⟩ := at_T32 X5.out 0 p122 q122; have hw122_5 := hx122_5; (try rw [show ((0 : Int)).toNat = 0 from rfl] at hw122_5)
          (try rw [show 0 * 6 = 0 from rfl] at hw122_5)
          (try rw [Addr.add_zero'] at hw122_5)
          have hw122_4 := hx122_4; (try rw [show ((0 : Int)).toNat = 0 from rfl] at hw122_4)
          (try rw [show 0 * 6 = 0 from rfl] at hw122_4)
          (try rw [Addr.add_zero'] at hw122_4)
          have hw122_3 := hx122_3; (try rw [show ((0 : Int)).toNat = 0 from rfl] at hw122_3)
          (try rw [show 0 * 6 = 0 from rfl] at hw122_3)
          (try rw [Addr.add_zero'] at hw122_3)
          have hw122_2 := hx122_2; (try rw [show ((0 : Int)).toNat = 0 from rfl] at hw122_2)
          (try rw [show 0 * 6 = 0 from rfl] at hw122_2)
          (try rw [Addr.add_zero'] at hw122_2)
          have hw122_1 := hx122_1; (try rw [show ((0 : Int)).toNat = 0 from rfl] at hw122_1)
          (try rw [show 0 * 6 = 0 from rfl] at hw122_1)
          (try rw [Addr.add_zero'] at hw122_1)
          have hw122_0 := hx122_0; (try rw [show ((0 : Int)).toNat = 0 from rfl] at hw122_0)
          (try rw [show 0 * 6 = 0 from rfl] at hw122_0)
          (try rw [Addr.add_zero'] at hw122_0)
          cases e122; have qi122 : (0 < m5.length) = True := eq_true (by omega); (try rw [show ((0 : Int)).toNat = 0 from rfl] at hx122_0)
          (try rw [show 0 * 6 = 0 from rfl] at hx122_0)
          (try rw [Addr.add_zero'] at hx122_0)
          (try rw [show ((0 : Int)).toNat = 0 from rfl] at hx122_1)
          (try rw [show 0 * 6 = 0 from rfl] at hx122_1)
          (try rw [Addr.add_zero'] at hx122_1)
          (try rw [show ((0 : Int)).toNat = 0 from rfl] at hx122_2)
          (try rw [show 0 * 6 = 0 from rfl] at hx122_2)
          (try rw [Addr.add_zero'] at hx122_2)
          (try rw [show ((0 : Int)).toNat = 0 from rfl] at hx122_3)
          (try rw [show 0 * 6 = 0 from rfl] at hx122_3)
          (try rw [Addr.add_zero'] at hx122_3)
          (try rw [show ((0 : Int)).toNat = 0 from rfl] at hx122_4)
          (try rw [show 0 * 6 = 0 from rfl] at hx122_4)
          (try rw [Addr.add_zero'] at hx122_4)
          (try rw [show ((0 : Int)).toNat = 0 from rfl] at hx122_5)
          (try rw [show 0 * 6 = 0 from rfl] at hx122_5)
          (try rw [Addr.add_zero'] at hx122_5)
          replace hx122_0 := (HB.out.cell (wlt_ w _ hx122_0)).trans hx122_0; replace hx122_1 := (HB.out.cell (wlt_ w _ hx122_1)).trans hx122_1; replace hx122_2 := (HB.out.cell (wlt_ w _ hx122_2)).trans hx122_2; replace hx122_3 := (HB.out.cell (wlt_ w _ hx122_3)).trans hx122_3; replace hx122_4 := (HB.out.cell (wlt_ w _ hx122_4)).trans hx122_4; replace hx122_5 := (HB.out.cell (wlt_ w _ hx122_5)).trans hx122_5; have HR122_3 := Aside0.mk hi122_3; have HC122_3 := Aside0.mk hl122_3; clear hi122_3 hl122_3; have HR122_4 := Aside0.mk hi122_4; have HC122_4 := Aside0.mk hl122_4; clear hi122_4 hl122_4; have HR122_5 := Aside0.mk hi122_5; have HC122_5 := Aside0.mk hl122_5; clear hi122_5 hl122_5; replace p122 := eq_true p122; replace q122 := eq_true q122; have p124 : 0 ≤ (1 : Int) := (by omega); have q124 : 1 < (m5.length : Int) := dt_; obtain ⟨ad124, A124_3, c124_3, A124_4, c124_4, A124_5, c124_5, e124, hx124_0, hx124_1, hx124_2, hx124_3, hx124_4, hx124_5, hl124_3, hi124_3, hl124_4, hi124_4, hl124_5, hi124_5⟩ := at_T32 X5.out 1 p124 q124; have hw124_5 := hx124_5; (try rw [show ((1 : Int)).toNat = 1 from rfl] at hw124_5)
          (try rw [show 1 * 6 = 6 from rfl] at hw124_5)
          (try simp only [Nat.reduceMul, Nat.reduceEqDiff, Go.Addr.add, ↓reduceIte] at hw124_5)
          have hw124_4 := hx124_4; (try rw [show ((1 : Int)).toNat = 1 from rfl] at hw124_4)
          (try rw [show 1 * 6 = 6 from rfl] at hw124_4)
          (try simp only [Nat.reduceMul, Nat.reduceEqDiff, Go.Addr.add, ↓reduceIte] at hw124_4)
          have hw124_3 := hx124_3; (try rw [show ((1 : Int)).toNat = 1 from rfl] at hw124_3)
          (try rw [show 1 * 6 = 6 from rfl] at hw124_3)
          (try simp only [Nat.reduceMul, Nat.reduceEqDiff, Go.Addr.add, ↓reduceIte] at hw124_3)
          have hw124_2 := hx124_2; (try rw [show ((1 : Int)).toNat = 1 from rfl] at hw124_2)
          (try rw [show 1 * 6 = 6 from rfl] at hw124_2)
          (try simp only [Nat.reduceMul, Nat.reduceEqDiff, Go.Addr.add, ↓reduceIte] at hw124_2)
          have hw124_1 := hx124_1; (try rw [show ((1 : Int)).toNat = 1 from rfl] at hw124_1)
          (try rw [show 1 * 6 = 6 from rfl] at hw124_1)
          (try simp only [Nat.reduceMul, Nat.reduceEqDiff, Go.Addr.add, ↓reduceIte] at hw124_1)
          have hw124_0 := hx124_0; (try rw [show ((1 : Int)).toNat = 1 from rfl] at hw124_0)
          (try rw [show 1 * 6 = 6 from rfl] at hw124_0)
          (try simp only [Nat.reduceMul, Nat.reduceEqDiff, Go.Addr.add, ↓reduceIte] at hw124_0)
          obtain rfl : ad122 = ad124 := (by injection e124); (try simp only [show (1 : Int).toNat = 1 from rfl, Nat.reduceMul, Nat.reduceEqDiff, Go.Addr.add, ↓reduceIte] at hx124_0)
          (try simp only [show (1 : Int).toNat = 1 from rfl, Nat.reduceMul, Nat.reduceEqDiff, Go.Addr.add, ↓reduceIte] at hx124_1)
          (try simp only [show (1 : Int).toNat = 1 from rfl, Nat.reduceMul, Nat.reduceEqDiff, Go.Addr.add, ↓reduceIte] at hx124_2)
          (try simp only [show (1 : Int).toNat = 1 from rfl, Nat.reduceMul, Nat.reduceEqDiff, Go.Addr.add, ↓reduceIte] at hx124_3)
          (try simp only [show (1 : Int).toNat = 1 from rfl, Nat.reduceMul, Nat.reduceEqDiff, Go.Addr.add, ↓reduceIte] at hx124_4)
          (try simp only [show (1 : Int).toNat = 1 from rfl, Nat.reduceMul, Nat.reduceEqDiff, Go.Addr.add, ↓reduceIte] at hx124_5)
          have qi124 : (1 < m5.length) = True := eq_true (by omega); (try rw [show ((1 : Int)).toNat = 1 from rfl] at hx124_0)
          (try rw [show 1 * 6 = 6 from rfl] at hx124_0)
          (try rw [show ((1 : Int)).toNat = 1 from rfl] at hx124_1)
          (try rw [show 1 * 6 = 6 from rfl] at hx124_1)
          (try rw [show ((1 : Int)).toNat = 1 from rfl] at hx124_2)
          (try rw [show 1 * 6 = 6 from rfl] at hx124_2)
          (try rw [show ((1 : Int)).toNat = 1 from rfl] at hx124_3)
          (try rw [show 1 * 6 = 6 from rfl] at hx124_3)
          (try rw [show ((1 : Int)).toNat = 1 from rfl] at hx124_4)
          (try rw [show 1 * 6 = 6 from rfl] at hx124_4)
          (try rw [show ((1 : Int)).toNat = 1 from rfl] at hx124_5)
          (try rw [show 1 * 6 = 6 from rfl] at hx124_5)
          replace hx124_0 := (HB.out.cell (wlt_ w _ hx124_0)).trans hx124_0; replace hx124_1 := (HB.out.cell (wlt_ w _ hx124_1)).trans hx124_1; replace hx124_2 := (HB.out.cell (wlt_ w _ hx124_2)).trans hx124_2; replace hx124_3 := (HB.out.cell (wlt_ w _ hx124_3)).trans hx124_3; replace hx124_4 := (HB.out.cell (wlt_ w _ hx124_4)).trans hx124_4; replace hx124_5 := (HB.out.cell (wlt_ w _ hx124_5)).trans hx124_5; have HR124_3 := Aside0.mk hi124_3; have HC124_3 := Aside0.mk hl124_3; clear hi124_3 hl124_3; have HR124_4 := Aside0.mk hi124_4; have HC124_4 := Aside0.mk hl124_4; clear hi124_4 hl124_4; have HR124_5 := Aside0.mk hi124_5; have HC124_5 := Aside0.mk hl124_5; clear hi124_5 hl124_5; replace p124 := eq_true p124; replace q124 := eq_true q124; refine start_ (n := 14) (S := fun w' => w'.cell? ⟨gb109, 0, none⟩ = some (.int .i64 v0) ∧ w'.cell? ⟨gb109, 1, none⟩ = some (.int .i64 v1) ∧ w'.cell? ⟨gb109, 2, none⟩ = some (.bool v2) ∧ w'.cell? ⟨gb109, 3, none⟩ = some (.slice B3 m3.length k_3) ∧ w'.cell? ⟨gb109, 4, none⟩ = some (.slice B4 m4.length k_4) ∧ w'.cell? ⟨gb109, 5, none⟩ = some (.slice (some ad122) m5.length k_5) ∧ w'.cell? ad122 = some (.int .i64 ((rd_T32 m5 0).f0)) ∧ w'.cell? ⟨ad122.block, ad122.off + 1, none⟩ = some (.int .i64 ((rd_T32 m5 0).f1)) ∧ w'.cell? ⟨ad122.block, ad122.off + 2, none⟩ = some (.bool ((rd_T32 m5 0).f2.f0)) ∧ w'.cell? ⟨ad122.block, ad122.off + 3, none⟩ = some (.slice A122_3 ((rd_T32 m5 0).f2.f1).length c122_3) ∧ w'.cell? ⟨ad122.block, ad122.off + 4, none⟩ = some (.slice A122_4 ((rd_T32 m5 0).f2.f2).length c122_4) ∧ w'.cell? ⟨ad122.block, ad122.off + 5, none⟩ = some (.slice A122_5 ((rd_T32 m5 0).f3).length c122_5) ∧ w'.cell? ⟨ad122.block, ad122.off + 6, none⟩ = some (.int .i64 ((rd_T32 m5 1).f0)) ∧ w'.cell? ⟨ad122.block, ad122.off + 6 + 1, none⟩ = some (.int .i64 ((rd_T32 m5 1).f1)) ∧ w'.cell? ⟨ad122.block, ad122.off + 6 + 2, none⟩ = some (.bool ((rd_T32 m5 1).f2.f0)) ∧ w'.cell? ⟨ad122.block, ad122.off + 6 + 3, none⟩ = some (.slice A124_3 ((rd_T32 m5 1).f2.f1).length c124_3) ∧ w'.cell? ⟨ad122.block, ad122.off + 6 + 4, none⟩ = some (.slice A124_4 ((rd_T32 m5 1).f2.f2).length c124_4) ∧ w'.cell? ⟨ad122.block, ad122.off + 6 + 5, none⟩ = some (.slice A124_5 ((rd_T32 m5 1).f3).length c124_5)) (ds := []) #[false, false, false, false, false, false, false, false, false, false, false, false, false, false] (by kernel_rfl) rfl rfl ⟨(blk_cell BK109.out 0).trans rfl, (blk_cell BK109.out 1).trans rfl, (blk_cell BK109.out 2).trans rfl, (blk_cell BK109.out 3).trans rfl, (blk_cell BK109.out 4).trans rfl, (blk_cell BK109.out 5).trans rfl, ((HB.out.cell (wlt_ w _ hw122_0)).trans hw122_0), ((HB.out.cell (wlt_ w _ hw122_1)).trans hw122_1), ((HB.out.cell (wlt_ w _ hw122_2)).trans hw122_2), ((HB.out.cell (wlt_ w _ hw122_3)).trans hw122_3), ((HB.out.cell (wlt_ w _ hw122_4)).trans hw122_4), ((HB.out.cell (wlt_ w _ hw122_5)).trans hw122_5), ((HB.out.cell (wlt_ w _ hw124_0)).trans hw124_0), ((HB.out.cell (wlt_ w _ hw124_1)).trans hw124_1), ((HB.out.cell (wlt_ w _ hw124_2)).trans hw124_2), ((HB.out.cell (wlt_ w _ hw124_3)).trans hw124_3), ((HB.out.cell (wlt_ w _ hw124_4)).trans hw124_4), ((HB.out.cell (wlt_ w _ hw124_5)).trans hw124_5)⟩ (fun hHeld => ?_); refine with_tabW core_eval.tab12 core_eval.bits12 (fun HT_ HW_ => ?_)
          generalize w78.drew = w80 at BK109 HB HR122_3 HR122_4 HR122_5 HR124_3 HR124_4 HR124_5 hx122_0 hx122_1 hx122_2 hx122_3 hx122_4 hx122_5 hx124_0 hx124_1 hx124_2 hx124_3 hx124_4 hx124_5 hHeld ⊢
          refine pure_ (i := 0) (N := some 53) (v := ?_) (a' := ?_) #[true, false, false, false, false, false, false, false, false, false, false, false, false, false] rfl rfl (any_of HT_.out (by kernel_rfl)) (fun _ _ _ h => h) (Or.inl ⟨by rfl, ?_⟩) ?_ ?_
          rotate_left
          ·intro w'; go_simp; with_reducible rfl
          rotate_left
          ·simp only [Act.put, lsa_, List.set_cons_zero, List.set_cons_succ, i64_w, i32_w]; rfl
          refine pure_ (i := 4) (N := some 57) (v := ?_) (a' := ?_) #[true, false, false, false, true, false, false, false, false, false, false, false, false, false] rfl rfl (any_of HT_.out (by kernel_rfl)) (fun _ _ _ h => h) (Or.inl ⟨by rfl, ?_⟩) ?_ ?_
          rotate_left
          ·intro w'; go_simp; with_reducible rfl
          rotate_left
          ·simp only [Act.put, lsa_, List.set_cons_zero, List.set_cons_succ, i64_w, i32_w]; rfl
          refine pure_ (i := 6) (N := some 59) (v := ?_) (a' := ?_) #[true, false, false, false, true, false, true, false, false, false, false, false, false, false] rfl rfl (any_of HT_.out (by kernel_rfl)) (fun _ _ _ h => h) (Or.inl ⟨by rfl, ?_⟩) ?_ ?_
          rotate_left
          ·intro w'; go_simp; with_reducible rfl
          rotate_left
          ·simp only [Act.put, lsa_, List.set_cons_zero, List.set_cons_succ, i64_w, i32_w]; rfl
          refine pure_ (i := 10) (N := some 63) (v := ?_) (a' := ?_) #[true, false, false, false, true, false, true, false, false, false, true, false, false, false] rfl rfl (any_of HT_.out (by kernel_rfl)) (fun _ _ _ h => h) (Or.inl ⟨by rfl, ?_⟩) ?_ ?_
          rotate_left
          ·intro w'; go_simp; with_reducible rfl
          rotate_left
          ·simp only [Act.put, lsa_, List.set_cons_zero, List.set_cons_succ, i64_w, i32_w]; rfl
          refine take_ (i := 1) (N := some 54) (v := ?_) (a' := ?_) #[true, true, false, false, true, false, true, false, false, false, true, false, false, false] rfl rfl (take_ofW HT_.out HW_.out (by kernel_rfl)) (fun _ _ _ h => h) (Or.inl ⟨by rfl, ?_⟩) hHeld ?_ ?_
          rotate_left
          ·rintro w' ⟨s0, s1, s2, s3, s4, s5, s6, s7, s8, s9, s10, s11, s12, s13, s14, s15, s16, s17⟩
           go_simp; with_reducible rfl
          rotate_left
          ·simp only [Act.put, lsa_, List.set_cons_zero, List.set_cons_succ, i64_w, i32_w]; rfl
          refine pure_ (i := 2) (N := some 55) (v := ?_) (a' := ?_) #[true, true, true, false, true, false, true, false, false, false, true, false, false, false] rfl rfl (any_of HT_.out (by kernel_rfl)) (fun _ _ _ h => h) (Or.inl ⟨by rfl, ?_⟩) ?_ ?_
          rotate_left
          ·intro w'; go_simp; with_reducible rfl
          rotate_left
          ·simp only [Act.put, lsa_, List.set_cons_zero, List.set_cons_succ, i64_w, i32_w]; rfl
          refine take_ (i := 3) (N := some 56) (v := ?_) (a' := ?_) #[true, true, true, true, true, false, true, false, false, false, true, false, false, false] rfl rfl (take_ofW HT_.out HW_.out (by kernel_rfl)) (fun _ _ _ h => h) (Or.inl ⟨by rfl, ?_⟩) hHeld ?_ ?_
          rotate_left
          ·rintro w' ⟨s0, s1, s2, s3, s4, s5, s6, s7, s8, s9, s10, s11, s12, s13, s14, s15, s16, s17⟩
           go_simp; with_reducible rfl
          rotate_left
          ·simp only [Act.put, lsa_, List.set_cons_zero, List.set_cons_succ, i64_w, i32_w]; rfl
          refine take_ (i := 7) (N := some 60) (v := ?_) (a' := ?_) #[true, true, true, true, true, false, true, true, false, false, true, false, false, false] rfl rfl (take_ofW HT_.out HW_.out (by kernel_rfl)) (fun _ _ _ h => h) (Or.inl ⟨by rfl, ?_⟩) hHeld ?_ ?_
          rotate_left
          ·rintro w' ⟨s0, s1, s2, s3, s4, s5, s6, s7, s8, s9, s10, s11, s12, s13, s14, s15, s16, s17⟩
           go_simp; with_reducible rfl
          rotate_left
          ·simp only [Act.put, lsa_, List.set_cons_zero, List.set_cons_succ, i64_w, i32_w]; rfl
          refine pure_ (i := 8) (N := some 61) (v := ?_) (a' := ?_) #[true, true, true, true, true, false, true, true, true, false, true, false, false, false] rfl rfl (any_of HT_.out (by kernel_rfl)) (fun _ _ _ h => h) (Or.inl ⟨by rfl, ?_⟩) ?_ ?_
          rotate_left
          ·intro w'; go_simp; with_reducible rfl
          rotate_left
          ·simp only [Act.put, lsa_, List.set_cons_zero, List.set_cons_succ, i64_w, i32_w]; rfl
          refine take_ (i := 9) (N := some 62) (v := ?_) (a' := ?_) #[true, true, true, true, true, false, true, true, true, true, true, false, false, false] rfl rfl (take_ofW HT_.out HW_.out (by kernel_rfl)) (fun _ _ _ h => h) (Or.inl ⟨by rfl, ?_⟩) hHeld ?_ ?_
          rotate_left
          ·rintro w' ⟨s0, s1, s2, s3, s4, s5, s6, s7, s8, s9, s10, s11, s12, s13, s14, s15, s16, s17⟩
           go_simp; with_reducible rfl
          rotate_left
          ·simp only [Act.put, lsa_, List.set_cons_zero, List.set_cons_succ, i64_w, i32_w]; rfl
          refine one_ (i := 5) (N := some 58) #[true, true, true, true, true, true, true, true, true, true, true, false, false, false] rfl rfl (one_of HT_.out (by kernel_rfl)) (by decide) (fun K hK => ?_)
          refine goes_ Try.func25 (by kernel_rfl) rfl #[.agg #[.int .i64 ((rd_T32 m5 0).f0), .int .i64 ((rd_T32 m5 0).f1), .bool ((rd_T32 m5 0).f2.f0), .slice A122_3 ((rd_T32 m5 0).f2.f1).length c122_3, .slice A122_4 ((rd_T32 m5 0).f2.f2).length c122_4, .slice A122_5 ((rd_T32 m5 0).f3).length c122_5], .slice A1 l1.length c1] (by rfl) rfl rfl (by (try simp only [List.map_toArray, List.map_cons, List.map_nil]); first | done | rfl | (simp only [List.length_drop, List.length_take]; rfl)) ?_
          with_reducible refine (ih k (by omega) ((rd_T32 m5 0).f0) ((rd_T32 m5 0).f1) ((rd_T32 m5 0).f2.f0) _ _ ((rd_T32 m5 0).f2.f1) _ _ ((rd_T32 m5 0).f2.f2) _ _ ((rd_T32 m5 0).f3) _ _ l1 t123 _ ?side1 ?side2 ?side3 ?side4 ?side5 ?side6 ?side7 ?side8 A41.out).mono ?_
          (case side1 => repeat (first | exact (Kd.C_below HR122_3.out HB.out) | (with_reducible refine Kd.C_alloc ?_ _) | (with_reducible refine Kd.C_drewN ?_ _) | (with_reducible refine Kd.C_drew ?_)))
          (case side2 => exact HC122_3.out)
          (case side3 => repeat (first | exact (Kd.C_below HR122_4.out HB.out) | (with_reducible refine Kd.C_alloc ?_ _) | (with_reducible refine Kd.C_drewN ?_ _) | (with_reducible refine Kd.C_drew ?_)))
          (case side4 => exact HC122_4.out)
          (case side5 => repeat (first | exact (Kd.C_below HR122_5.out HB.out) | (with_reducible refine Kd.C_alloc ?_ _) | (with_reducible refine Kd.C_drewN ?_ _) | (with_reducible refine Kd.C_drew ?_)))
          (case side6 => exact HC122_5.out)
          (case side7 => repeat (first | exact (Kd.C_below HR1.out HB.out) | (with_reducible refine Kd.C_alloc ?_ _) | (with_reducible refine Kd.C_drewN ?_ _) | (with_reducible refine Kd.C_drew ?_)))
          (case side8 => exact HC1.out)
          rintro e w81 ⟨rfl, hb⟩
          refine ⟨_, rfl, ?_⟩
          replace BK109 := Aside0.mk (blk_below (g := gb109) (o := .cells #[.int .i64 v0, .int .i64 v1, .bool v2, .slice B3 m3.length k_3, .slice B4 m4.length k_4, .slice (some ad122) m5.length k_5] 32 (0, 0)) bk_ hb); replace HB := Aside0.mk (below_step bl_ hb); (try clear hb)
          (try clear hb2)
          (try clear hk)
          (try clear hi)
          refine hK.out _ _ ⟨(blk_cell BK109.out 0).trans rfl, (blk_cell BK109.out 1).trans rfl, (blk_cell BK109.out 2).trans rfl, (blk_cell BK109.out 3).trans rfl, (blk_cell BK109.out 4).trans rfl, (blk_cell BK109.out 5).trans rfl, ((HB.out.cell (wlt_ w _ hw122_0)).trans hw122_0), ((HB.out.cell (wlt_ w _ hw122_1)).trans hw122_1), ((HB.out.cell (wlt_ w _ hw122_2)).trans hw122_2), ((HB.out.cell (wlt_ w _ hw122_3)).trans hw122_3), ((HB.out.cell (wlt_ w _ hw122_4)).trans hw122_4), ((HB.out.cell (wlt_ w _ hw122_5)).trans hw122_5), ((HB.out.cell (wlt_ w _ hw124_0)).trans hw124_0), ((HB.out.cell (wlt_ w _ hw124_1)).trans hw124_1), ((HB.out.cell (wlt_ w _ hw124_2)).trans hw124_2), ((HB.out.cell (wlt_ w _ hw124_3)).trans hw124_3), ((HB.out.cell (wlt_ w _ hw124_4)).trans hw124_4), ((HB.out.cell (wlt_ w _ hw124_5)).trans hw124_5)⟩ (fun hHeld => ?_)
          clear hK K; refine norm_ (a' := ?_) ?_ ?_
          rotate_left
          ·show Act.put _ (some 58) _ = _
           simp only [Act.put, lsa_, List.set_cons_zero, List.set_cons_succ, i64_w, i32_w]; rfl
          refine one_ (i := 11) (N := some 64) #[true, true, true, true, true, true, true, true, true, true, true, true, false, false] rfl rfl (one_of HT_.out (by kernel_rfl)) (by decide) (fun K hK => ?_)
          refine goes_ Try.func25 (by kernel_rfl) rfl #[.agg #[.int .i64 ((rd_T32 m5 1).f0), .int .i64 ((rd_T32 m5 1).f1), .bool ((rd_T32 m5 1).f2.f0), .slice A124_3 ((rd_T32 m5 1).f2.f1).length c124_3, .slice A124_4 ((rd_T32 m5 1).f2.f2).length c124_4, .slice A124_5 ((rd_T32 m5 1).f3).length c124_5], .slice A1 l1.length c1] (by rfl) rfl rfl (by (try simp only [List.map_toArray, List.map_cons, List.map_nil]); first | done | rfl | (simp only [List.length_drop, List.length_take]; rfl)) ?_
          with_reducible refine (ih k (by omega) ((rd_T32 m5 1).f0) ((rd_T32 m5 1).f1) ((rd_T32 m5 1).f2.f0) _ _ ((rd_T32 m5 1).f2.f1) _ _ ((rd_T32 m5 1).f2.f2) _ _ ((rd_T32 m5 1).f3) _ _ l1 t125 _ ?side1 ?side2 ?side3 ?side4 ?side5 ?side6 ?side7 ?side8 A43.out).mono ?_
          (case side1 => repeat (first | exact (Kd.C_below HR124_3.out HB.out) | (with_reducible refine Kd.C_alloc ?_ _) | (with_reducible refine Kd.C_drewN ?_ _) | (with_reducible refine Kd.C_drew ?_)))
          (case side2 => exact HC124_3.out)
          (case side3 => repeat (first | exact (Kd.C_below HR124_4.out HB.out) | (with_reducible refine Kd.C_alloc ?_ _) | (with_reducible refine Kd.C_drewN ?_ _) | (with_reducible refine Kd.C_drew ?_)))
          (case side4 => exact HC124_4.out)
          (case side5 => repeat (first | exact (Kd.C_below HR124_5.out HB.out) | (with_reducible refine Kd.C_alloc ?_ _) | (with_reducible refine Kd.C_drewN ?_ _) | (with_reducible refine Kd.C_drew ?_)))
          (case side6 => exact HC124_5.out)
          (case side7 => repeat (first | exact (Kd.C_below HR1.out HB.out) | (with_reducible refine Kd.C_alloc ?_ _) | (with_reducible refine Kd.C_drewN ?_ _) | (with_reducible refine Kd.C_drew ?_)))
          (case side8 => exact HC1.out)
          rintro e w82 ⟨rfl, hb⟩
          refine ⟨_, rfl, ?_⟩
          replace BK109 := Aside0.mk (blk_below (g := gb109) (o := .cells #[.int .i64 v0, .int .i64 v1, .bool v2, .slice B3 m3.length k_3, .slice B4 m4.length k_4, .slice (some ad122) m5.length k_5] 32 (0, 0)) bk_ hb); replace HB := Aside0.mk (below_step bl_ hb); (try clear hb)
          (try clear hb2)
          (try clear hk)
          (try clear hi)
          refine hK.out _ _ ⟨(blk_cell BK109.out 0).trans rfl, (blk_cell BK109.out 1).trans rfl, (blk_cell BK109.out 2).trans rfl, (blk_cell BK109.out 3).trans rfl, (blk_cell BK109.out 4).trans rfl, (blk_cell BK109.out 5).trans rfl, ((HB.out.cell (wlt_ w _ hw122_0)).trans hw122_0), ((HB.out.cell (wlt_ w _ hw122_1)).trans hw122_1), ((HB.out.cell (wlt_ w _ hw122_2)).trans hw122_2), ((HB.out.cell (wlt_ w _ hw122_3)).trans hw122_3), ((HB.out.cell (wlt_ w _ hw122_4)).trans hw122_4), ((HB.out.cell (wlt_ w _ hw122_5)).trans hw122_5), ((HB.out.cell (wlt_ w _ hw124_0)).trans hw124_0), ((HB.out.cell (wlt_ w _ hw124_1)).trans hw124_1), ((HB.out.cell (wlt_ w _ hw124_2)).trans hw124_2), ((HB.out.cell (wlt_ w _ hw124_3)).trans hw124_3), ((HB.out.cell (wlt_ w _ hw124_4)).trans hw124_4), ((HB.out.cell (wlt_ w _ hw124_5)).trans hw124_5)⟩ (fun hHeld => ?_)
          clear hK K; refine norm_ (a' := ?_) ?_ ?_
          rotate_left
          ·show Act.put _ (some 64) _ = _
           simp only [Act.put, lsa_, List.set_cons_zero, List.set_cons_succ, i64_w, i32_w]; rfl
          refine pure_ (i := 12) (N := some 5) (v := ?_) (a' := ?_) #[true, true, true, true, true, true, true, true, true, true, true, true, true, false] rfl rfl (any_of HT_.out (by kernel_rfl)) (fun _ _ _ h => h) (Or.inl ⟨by rfl, ?_⟩) ?_ ?_
          rotate_left
          ·intro w'; go_simp; with_reducible rfl
          rotate_left
          ·simp only [Act.put, lsa_, List.set_cons_zero, List.set_cons_succ, i64_w, i32_w]; rfl
          refine pure_ (i := 13) (N := some 6) (v := ?_) (a' := ?_) #[true, true, true, true, true, true, true, true, true, true, true, true, true, true] rfl rfl (any_of HT_.out (by kernel_rfl)) (fun _ _ _ h => h) (Or.inl ⟨by rfl, ?_⟩) ?_ ?_
          rotate_left
          ·intro w'; go_simp; with_reducible rfl
          rotate_left
          ·simp only [Act.put, lsa_, List.set_cons_zero, List.set_cons_succ, i64_w, i32_w]; rfl
          refine done_ (done_of HT_.out (by kernel_rfl)) ?_
          obtain ⟨hcz83_0, hcz83_1, hcz83_2, hcz83_3, hcz83_4, hcz83_5, hfz83_0, hfz83_1, hfz83_2, hfz83_3, hfz83_4, hfz83_5⟩ := cf6_ BK109.out; try go_wp2_with (first | ((with_reducible refine gate_callee (f := 20) rfl ?_); refine goesL_ (some 90) rfl rfl Try.func20 (by kernel_rfl) rfl #[.bool (t123 == t125)] rfl (by (try simp only [List.map_toArray, List.map_cons, List.map_nil]); first | done | rfl | (simp only [List.length_drop, List.length_take]; rfl)) ?_; (with_reducible refine (core_truth.calls (t123 == t125) t130 _ A77.out).mono ?_); rintro e w' ⟨rfl, ⟨nd, rfl⟩⟩; refine ⟨_, rfl, ?_⟩))
          go_ret; exact ⟨re_, bl_⟩
         ·rw [if_neg c76] at H; have c76b0 : (v0 == 7) = false := beq_eq_false_iff_ne.mpr c76; have c76b1 : (v0 != 7) = true := bne_iff_ne.mpr c76; by_cases c84 : v0 = 8
          ·rw [if_pos c84] at H; have c84b0 : (v0 == 8) = true := beq_iff_eq.mpr c84; have c84b1 : (v0 != 8) = false := bne_eq_false_iff_eq.mpr c84; clear c84; replace H := Option.bind_eq_some_iff.mp H; obtain ⟨t131, A850, H⟩ := H; replace H : (some t131) = some r := H; have A85 := Aside0.mk A850; clear A850; obtain rfl := Option.some.inj H; go_enter Try.func25, Try.ntmps25; try go_wp2_with (first | ((with_reducible refine gate_dst (N := 2) rfl ?_); refine box_event ?hg (N := 2) ?hd (cs := #[.int .i64 v0, .int .i64 v1, .bool v2, .slice B3 m3.length k_3, .slice B4 m4.length k_4, .slice B5 m5.length k_5]) (t := 32) ?hr ?_; (case hd => rfl); (case hg => rfl); (case hr => first | (go_simp; done) | (go_simp; rfl)); intro gb109 hg w86 hbox hb; have BK109 := Aside0.mk (hbox); have GW109 : Aside0 (w.heap.size ≤ gb109) := gw_ hg (below_size bl_); have GE109 := GW109; replace HB := Aside0.mk (below_step bl_ hb); clear hb hbox hg; obtain ⟨hcz87_0, hcz87_1, hcz87_2, hcz87_3, hcz87_4, hcz87_5, hfz87_0, hfz87_1, hfz87_2, hfz87_3, hfz87_4, hfz87_5⟩ := cf6_ BK109.out))
           replace BK109 := Aside0.mk (blk_drew BK109.out); replace HB := Aside0.mk (below_drew1 HB.out); have p122 : 0 ≤ (0 : Int) := (by omega); have q122 : 0 < (m5.length : Int) := dt_; obtain ⟨ad122, A122_3, c122_3, A122_4, c122_4, A122_5, c122_5, e122, hx122_0, hx122_1, hx122_2, hx122_3, hx122_4, hx122_5, hl122_3, hi122_3, hl122_4, hi122_4, hl122_5, hi122_5⟩ := at_T32 X5.out 0 p122 q122; have hw122_5 := hx122_5; (try rw [show ((0 : Int)).toNat = 0 from rfl] at hw122_5)
           (try rw [show 0 * 6 = 0 from rfl] at hw122_5)
           (try rw [Addr.add_zero'] at hw122_5)
           have hw122_4 := hx122_4; (try rw [show ((0 : Int)).toNat = 0 from rfl] at hw122_4)
           (try rw [show 0 * 6 = 0 from rfl] at hw122_4)
           (try rw [Addr.add_zero'] at hw122_4)
           have hw122_3 := hx122_3; (try rw [show ((0 : Int)).toNat = 0 from rfl] at hw122_3)
           (try rw [show 0 * 6 = 0 from rfl] at hw122_3)
           (try rw [Addr.add_zero'] at hw122_3)
           have hw122_2 := hx122_2; (try rw [show ((0 : Int)).toNat = 0 from rfl] at hw122_2)
           (try rw [show 0 * 6 = 0 from rfl] at hw122_2)
           (try rw [Addr.add_zero'] at hw122_2)
           have hw122_1 := hx122_1; (try rw [show ((0 : Int)).toNat = 0 from rfl] at hw122_1)
           (try rw [show 0 * 6 = 0 from rfl] at hw122_1)
           (try rw [Addr.add_zero'] at hw122_1)
           have hw122_0 := hx122_0; (try rw [show ((0 : Int)).toNat = 0 from rfl] at hw122_0)
           (try rw [show 0 * 6 = 0 from rfl] at hw122_0)
           (try rw [Addr.add_zero'] at hw122_0)
           cases e122; have qi122 : (0 < m5.length) = True := eq_true (by omega); (try rw [show ((0 : Int)).toNat = 0 from rfl] at hx122_0)
           (try rw [show 0 * 6 = 0 from rfl] at hx122_0)
           (try rw [Addr.add_zero'] at hx122_0)
           (try rw [show ((0 : Int)).toNat = 0 from rfl] at hx122_1)
           (try rw [show 0 * 6 = 0 from rfl] at hx122_1)
           (try rw [Addr.add_zero'] at hx122_1)
           (try rw [show ((0 : Int)).toNat = 0 from rfl] at hx122_2)
           (try rw [show 0 * 6 = 0 from rfl] at hx122_2)
           (try rw [Addr.add_zero'] at hx122_2)
           (try rw [show ((0 : Int)).toNat = 0 from rfl] at hx122_3)
           (try rw [show 0 * 6 = 0 from rfl] at hx122_3)
           (try rw [Addr.add_zero'] at hx122_3)
           (try rw [show ((0 : Int)).toNat = 0 from rfl] at hx122_4)
           (try rw [show 0 * 6 = 0 from rfl] at hx122_4)
           (try rw [Addr.add_zero'] at hx122_4)
           (try rw [show ((0 : Int)).toNat = 0 from rfl] at hx122_5)
           (try rw [show 0 * 6 = 0 from rfl] at hx122_5)
           (try rw [Addr.add_zero'] at hx122_5)
           replace hx122_0 := (HB.out.cell (wlt_ w _ hx122_0)).trans hx122_0; replace hx122_1 := (HB.out.cell (wlt_ w _ hx122_1)).trans hx122_1; replace hx122_2 := (HB.out.cell (wlt_ w _ hx122_2)).trans hx122_2; replace hx122_3 := (HB.out.cell (wlt_ w _ hx122_3)).trans hx122_3; replace hx122_4 := (HB.out.cell (wlt_ w _ hx122_4)).trans hx122_4; replace hx122_5 := (HB.out.cell (wlt_ w _ hx122_5)).trans hx122_5; have HR122_3 := Aside0.mk hi122_3; have HC122_3 := Aside0.mk hl122_3; clear hi122_3 hl122_3; have HR122_4 := Aside0.mk hi122_4; have HC122_4 := Aside0.mk hl122_4; clear hi122_4 hl122_4; have HR122_5 := Aside0.mk hi122_5; have HC122_5 := Aside0.mk hl122_5; clear hi122_5 hl122_5; replace p122 := eq_true p122; replace q122 := eq_true q122; have p124 : 0 ≤ (1 : Int) := (by omega); have q124 : 1 < (m5.length : Int) := dt_; obtain ⟨ad124, A124_3, c124_3, A124_4, c124_4, A124_5, c124_5, e124, hx124_0, hx124_1, hx124_2, hx124_3, hx124_4, hx124_5, hl124_3, hi124_3, hl124_4, hi124_4, hl124_5, hi124_5⟩ := at_T32 X5.out 1 p124 q124; have hw124_5 := hx124_5; (try rw [show ((1 : Int)).toNat = 1 from rfl] at hw124_5)
           (try rw [show 1 * 6 = 6 from rfl] at hw124_5)
           (try simp only [Nat.reduceMul, Nat.reduceEqDiff, Go.Addr.add, ↓reduceIte] at hw124_5)
           have hw124_4 := hx124_4; (try rw [show ((1 : Int)).toNat = 1 from rfl] at hw124_4)
           (try rw [show 1 * 6 = 6 from rfl] at hw124_4)
           (try simp only [Nat.reduceMul, Nat.reduceEqDiff, Go.Addr.add, ↓reduceIte] at hw124_4)
           have hw124_3 := hx124_3; (try rw [show ((1 : Int)).toNat = 1 from rfl] at hw124_3)
           (try rw [show 1 * 6 = 6 from rfl] at hw124_3)
           (try simp only [Nat.reduceMul, Nat.reduceEqDiff, Go.Addr.add, ↓reduceIte] at hw124_3)
           have hw124_2 := hx124_2; (try rw [show ((1 : Int)).toNat = 1 from rfl] at hw124_2)
           (try rw [show 1 * 6 = 6 from rfl] at hw124_2)
           (try simp only [Nat.reduceMul, Nat.reduceEqDiff, Go.Addr.add, ↓reduceIte] at hw124_2)
           have hw124_1 := hx124_1; (try rw [show ((1 : Int)).toNat = 1 from rfl] at hw124_1)
           (try rw [show 1 * 6 = 6 from rfl] at hw124_1)
           (try simp only [Nat.reduceMul, Nat.reduceEqDiff, Go.Addr.add, ↓reduceIte] at hw124_1)
           have hw124_0 := hx124_0; (try rw [show ((1 : Int)).toNat = 1 from rfl] at hw124_0)
           (try rw [show 1 * 6 = 6 from rfl] at hw124_0)
           (try simp only [Nat.reduceMul, Nat.reduceEqDiff, Go.Addr.add, ↓reduceIte] at hw124_0)
           obtain rfl : ad122 = ad124 := (by injection e124); (try simp only [show (1 : Int).toNat = 1 from rfl, Nat.reduceMul, Nat.reduceEqDiff, Go.Addr.add, ↓reduceIte] at hx124_0)
           (try simp only [show (1 : Int).toNat = 1 from rfl, Nat.reduceMul, Nat.reduceEqDiff, Go.Addr.add, ↓reduceIte] at hx124_1)
           (try simp only [show (1 : Int).toNat = 1 from rfl, Nat.reduceMul, Nat.reduceEqDiff, Go.Addr.add, ↓reduceIte] at hx124_2)
           (try simp only [show (1 : Int).toNat = 1 from rfl, Nat.reduceMul, Nat.reduceEqDiff, Go.Addr.add, ↓reduceIte] at hx124_3)
           (try simp only [show (1 : Int).toNat = 1 from rfl, Nat.reduceMul, Nat.reduceEqDiff, Go.Addr.add, ↓reduceIte] at hx124_4)
           (try simp only [show (1 : Int).toNat = 1 from rfl, Nat.reduceMul, Nat.reduceEqDiff, Go.Addr.add, ↓reduceIte] at hx124_5)
           have qi124 : (1 < m5.length) = True := eq_true (by omega); (try rw [show ((1 : Int)).toNat = 1 from rfl] at hx124_0)
           (try rw [show 1 * 6 = 6 from rfl] at hx124_0)
           (try rw [show ((1 : Int)).toNat = 1 from rfl] at hx124_1)
           (try rw [show 1 * 6 = 6 from rfl] at hx124_1)
           (try rw [show ((1 : Int)).toNat = 1 from rfl] at hx124_2)
           (try rw [show 1 * 6 = 6 from rfl] at hx124_2)
           (try rw [show ((1 : Int)).toNat = 1 from rfl] at hx124_3)
           (try rw [show 1 * 6 = 6 from rfl] at hx124_3)
           (try rw [show ((1 : Int)).toNat = 1 from rfl] at hx124_4)
           (try rw [show 1 * 6 = 6 from rfl] at hx124_4)
           (try rw [show ((1 : Int)).toNat = 1 from rfl] at hx124_5)
           (try rw [show 1 * 6 = 6 from rfl] at hx124_5)
           replace hx124_0 := (HB.out.cell (wlt_ w _ hx124_0)).trans hx124_0; replace hx124_1 := (HB.out.cell (wlt_ w _ hx124_1)).trans hx124_1; replace hx124_2 := (HB.out.cell (wlt_ w _ hx124_2)).trans hx124_2; replace hx124_3 := (HB.out.cell (wlt_ w _ hx124_3)).trans hx124_3; replace hx124_4 := (HB.out.cell (wlt_ w _ hx124_4)).trans hx124_4; replace hx124_5 := (HB.out.cell (wlt_ w _ hx124_5)).trans hx124_5; have HR124_3 := Aside0.mk hi124_3; have HC124_3 := Aside0.mk hl124_3; clear hi124_3 hl124_3; have HR124_4 := Aside0.mk hi124_4; have HC124_4 := Aside0.mk hl124_4; clear hi124_4 hl124_4; have HR124_5 := Aside0.mk hi124_5; have HC124_5 := Aside0.mk hl124_5; clear hi124_5 hl124_5; replace p124 := eq_true p124; replace q124 := eq_true q124; refine start_ (n := 14) (S := fun w' => w'.cell? ⟨gb109, 0, none⟩ = some (.int .i64 v0) ∧ w'.cell? ⟨gb109, 1, none⟩ = some (.int .i64 v1) ∧ w'.cell? ⟨gb109, 2, none⟩ = some (.bool v2) ∧ w'.cell? ⟨gb109, 3, none⟩ = some (.slice B3 m3.length k_3) ∧ w'.cell? ⟨gb109, 4, none⟩ = some (.slice B4 m4.length k_4) ∧ w'.cell? ⟨gb109, 5, none⟩ = some (.slice (some ad122) m5.length k_5) ∧ w'.cell? ad122 = some (.int .i64 ((rd_T32 m5 0).f0)) ∧ w'.cell? ⟨ad122.block, ad122.off + 1, none⟩ = some (.int .i64 ((rd_T32 m5 0).f1)) ∧ w'.cell? ⟨ad122.block, ad122.off + 2, none⟩ = some (.bool ((rd_T32 m5 0).f2.f0)) ∧ w'.cell? ⟨ad122.block, ad122.off + 3, none⟩ = some (.slice A122_3 ((rd_T32 m5 0).f2.f1).length c122_3) ∧ w'.cell? ⟨ad122.block, ad122.off + 4, none⟩ = some (.slice A122_4 ((rd_T32 m5 0).f2.f2).length c122_4) ∧ w'.cell? ⟨ad122.block, ad122.off + 5, none⟩ = some (.slice A122_5 ((rd_T32 m5 0).f3).length c122_5) ∧ w'.cell? ⟨ad122.block, ad122.off + 6, none⟩ = some (.int .i64 ((rd_T32 m5 1).f0)) ∧ w'.cell? ⟨ad122.block, ad122.off + 6 + 1, none⟩ = some (.int .i64 ((rd_T32 m5 1).f1)) ∧ w'.cell? ⟨ad122.block, ad122.off + 6 + 2, none⟩ = some (.bool ((rd_T32 m5 1).f2.f0)) ∧ w'.cell? ⟨ad122.block, ad122.off + 6 + 3, none⟩ = some (.slice A124_3 ((rd_T32 m5 1).f2.f1).length c124_3) ∧ w'.cell? ⟨ad122.block, ad122.off + 6 + 4, none⟩ = some (.slice A124_4 ((rd_T32 m5 1).f2.f2).length c124_4) ∧ w'.cell? ⟨ad122.block, ad122.off + 6 + 5, none⟩ = some (.slice A124_5 ((rd_T32 m5 1).f3).length c124_5)) (ds := []) #[false, false, false, false, false, false, false, false, false, false, false, false, false, false] (by kernel_rfl) rfl rfl ⟨(blk_cell BK109.out 0).trans rfl, (blk_cell BK109.out 1).trans rfl, (blk_cell BK109.out 2).trans rfl, (blk_cell BK109.out 3).trans rfl, (blk_cell BK109.out 4).trans rfl, (blk_cell BK109.out 5).trans rfl, ((HB.out.cell (wlt_ w _ hw122_0)).trans hw122_0), ((HB.out.cell (wlt_ w _ hw122_1)).trans hw122_1), ((HB.out.cell (wlt_ w _ hw122_2)).trans hw122_2), ((HB.out.cell (wlt_ w _ hw122_3)).trans hw122_3), ((HB.out.cell (wlt_ w _ hw122_4)).trans hw122_4), ((HB.out.cell (wlt_ w _ hw122_5)).trans hw122_5), ((HB.out.cell (wlt_ w _ hw124_0)).trans hw124_0), ((HB.out.cell (wlt_ w _ hw124_1)).trans hw124_1), ((HB.out.cell (wlt_ w _ hw124_2)).trans hw124_2), ((HB.out.cell (wlt_ w _ hw124_3)).trans hw124_3), ((HB.out.cell (wlt_ w _ hw124_4)).trans hw124_4), ((HB.out.cell (wlt_ w _ hw124_5)).trans hw124_5)⟩ (fun hHeld => ?_); refine with_tabW core_eval.tab12 core_eval.bits12 (fun HT_ HW_ => ?_)
           generalize w86.drew = w88 at BK109 HB HR122_3 HR122_4 HR122_5 HR124_3 HR124_4 HR124_5 hx122_0 hx122_1 hx122_2 hx122_3 hx122_4 hx122_5 hx124_0 hx124_1 hx124_2 hx124_3 hx124_4 hx124_5 hHeld ⊢
           refine pure_ (i := 0) (N := some 53) (v := ?_) (a' := ?_) #[true, false, false, false, false, false, false, false, false, false, false, false, false, false] rfl rfl (any_of HT_.out (by kernel_rfl)) (fun _ _ _ h => h) (Or.inl ⟨by rfl, ?_⟩) ?_ ?_
           rotate_left
           ·intro w'; go_simp; with_reducible rfl
           rotate_left
           ·simp only [Act.put, lsa_, List.set_cons_zero, List.set_cons_succ, i64_w, i32_w]; rfl
           refine pure_ (i := 4) (N := some 57) (v := ?_) (a' := ?_) #[true, false, false, false, true, false, false, false, false, false, false, false, false, false] rfl rfl (any_of HT_.out (by kernel_rfl)) (fun _ _ _ h => h) (Or.inl ⟨by rfl, ?_⟩) ?_ ?_
           rotate_left
           ·intro w'; go_simp; with_reducible rfl
           rotate_left
           ·simp only [Act.put, lsa_, List.set_cons_zero, List.set_cons_succ, i64_w, i32_w]; rfl
           refine pure_ (i := 6) (N := some 59) (v := ?_) (a' := ?_) #[true, false, false, false, true, false, true, false, false, false, false, false, false, false] rfl rfl (any_of HT_.out (by kernel_rfl)) (fun _ _ _ h => h) (Or.inl ⟨by rfl, ?_⟩) ?_ ?_
           rotate_left
           ·intro w'; go_simp; with_reducible rfl
           rotate_left
           ·simp only [Act.put, lsa_, List.set_cons_zero, List.set_cons_succ, i64_w, i32_w]; rfl
           refine pure_ (i := 10) (N := some 63) (v := ?_) (a' := ?_) #[true, false, false, false, true, false, true, false, false, false, true, false, false, false] rfl rfl (any_of HT_.out (by kernel_rfl)) (fun _ _ _ h => h) (Or.inl ⟨by rfl, ?_⟩) ?_ ?_
           rotate_left
           ·intro w'; go_simp; with_reducible rfl
           rotate_left
           ·simp only [Act.put, lsa_, List.set_cons_zero, List.set_cons_succ, i64_w, i32_w]; rfl
           refine take_ (i := 1) (N := some 54) (v := ?_) (a' := ?_) #[true, true, false, false, true, false, true, false, false, false, true, false, false, false] rfl rfl (take_ofW HT_.out HW_.out (by kernel_rfl)) (fun _ _ _ h => h) (Or.inl ⟨by rfl, ?_⟩) hHeld ?_ ?_
           rotate_left
           ·rintro w' ⟨s0, s1, s2, s3, s4, s5, s6, s7, s8, s9, s10, s11, s12, s13, s14, s15, s16, s17⟩
            go_simp; with_reducible rfl
           rotate_left
           ·simp only [Act.put, lsa_, List.set_cons_zero, List.set_cons_succ, i64_w, i32_w]; rfl
           refine pure_ (i := 2) (N := some 55) (v := ?_) (a' := ?_) #[true, true, true, false, true, false, true, false, false, false, true, false, false, false] rfl rfl (any_of HT_.out (by kernel_rfl)) (fun _ _ _ h => h) (Or.inl ⟨by rfl, ?_⟩) ?_ ?_
           rotate_left
           ·intro w'; go_simp; with_reducible rfl
           rotate_left
           ·simp only [Act.put, lsa_, List.set_cons_zero, List.set_cons_succ, i64_w, i32_w]; rfl
           refine take_ (i := 3) (N := some 56) (v := ?_) (a' := ?_) #[true, true, true, true, true, false, true, false, false, false, true, false, false, false] rfl rfl (take_ofW HT_.out HW_.out (by kernel_rfl)) (fun _ _ _ h => h) (Or.inl ⟨by rfl, ?_⟩) hHeld ?_ ?_
           rotate_left
           ·rintro w' ⟨s0, s1, s2, s3, s4, s5, s6, s7, s8, s9, s10, s11, s12, s13, s14, s15, s16, s17⟩
            go_simp; with_reducible rfl
           rotate_left
           ·simp only [Act.put, lsa_, List.set_cons_zero, List.set_cons_succ, i64_w, i32_w]; rfl
           refine take_ (i := 7) (N := some 60) (v := ?_) (a' := ?_) #[true, true, true, true, true, false, true, true, false, false, true, false, false, false] rfl rfl (take_ofW HT_.out HW_.out (by kernel_rfl)) (fun _ _ _ h => h) (Or.inl ⟨by rfl, ?_⟩) hHeld ?_ ?_
           rotate_left
           ·rintro w' ⟨s0, s1, s2, s3, s4, s5, s6, s7, s8, s9, s10, s11, s12, s13, s14, s15, s16, s17⟩
            go_simp; with_reducible rfl
           rotate_left
           ·simp only [Act.put, lsa_, List.set_cons_zero, List.set_cons_succ, i64_w, i32_w]; rfl
           refine pure_ (i := 8) (N := some 61) (v := ?_) (a' := ?_) #[true, true, true, true, true, false, true, true, true, false, true, false, false, false] rfl rfl (any_of HT_.out (by kernel_rfl)) (fun _ _ _ h => h) (Or.inl ⟨by rfl, ?_⟩) ?_ ?_
           rotate_left
           ·intro w'; go_simp; with_reducible rfl
           rotate_left
           ·simp only [Act.put, lsa_, List.set_cons_zero, List.set_cons_succ, i64_w, i32_w]; rfl
           refine take_ (i := 9) (N := some 62) (v := ?_) (a' := ?_) #[true, true, true, true, true, false, true, true, true, true, true, false, false, false] rfl rfl (take_ofW HT_.out HW_.out (by kernel_rfl)) (fun _ _ _ h => h) (Or.inl ⟨by rfl, ?_⟩) hHeld ?_ ?_
           rotate_left
           ·rintro w' ⟨s0, s1, s2, s3, s4, s5, s6, s7, s8, s9, s10, s11, s12, s13, s14, s15, s16, s17⟩
            go_simp; with_reducible rfl
           rotate_left
           ·simp only [Act.put, lsa_, List.set_cons_zero, List.set_cons_succ, i64_w, i32_w]; rfl
           refine one_ (i := 5) (N := some 58) #[true, true, true, true, true, true, true, true, true, true, true, false, false, false] rfl rfl (one_of HT_.out (by kernel_rfl)) (by decide) (fun K hK => ?_)
           refine goes_ Try.func25 (by kernel_rfl) rfl #[.agg #[.int .i64 ((rd_T32 m5 0).f0), .int .i64 ((rd_T32 m5 0).f1), .bool ((rd_T32 m5 0).f2.f0), .slice A122_3 ((rd_T32 m5 0).f2.f1).length c122_3, .slice A122_4 ((rd_T32 m5 0).f2.f2).length c122_4, .slice A122_5 ((rd_T32 m5 0).f3).length c122_5], .slice A1 l1.length c1] (by rfl) rfl rfl (by (try simp only [List.map_toArray, List.map_cons, List.map_nil]); first | done | rfl | (simp only [List.length_drop, List.length_take]; rfl)) ?_
           with_reducible refine (ih k (by omega) ((rd_T32 m5 0).f0) ((rd_T32 m5 0).f1) ((rd_T32 m5 0).f2.f0) _ _ ((rd_T32 m5 0).f2.f1) _ _ ((rd_T32 m5 0).f2.f2) _ _ ((rd_T32 m5 0).f3) _ _ l1 t123 _ ?side1 ?side2 ?side3 ?side4 ?side5 ?side6 ?side7 ?side8 A41.out).mono ?_
           (case side1 => repeat (first | exact (Kd.C_below HR122_3.out HB.out) | (with_reducible refine Kd.C_alloc ?_ _) | (with_reducible refine Kd.C_drewN ?_ _) | (with_reducible refine Kd.C_drew ?_)))
           (case side2 => exact HC122_3.out)
           (case side3 => repeat (first | exact (Kd.C_below HR122_4.out HB.out) | (with_reducible refine Kd.C_alloc ?_ _) | (with_reducible refine Kd.C_drewN ?_ _) | (with_reducible refine Kd.C_drew ?_)))
           (case side4 => exact HC122_4.out)
           (case side5 => repeat (first | exact (Kd.C_below HR122_5.out HB.out) | (with_reducible refine Kd.C_alloc ?_ _) | (with_reducible refine Kd.C_drewN ?_ _) | (with_reducible refine Kd.C_drew ?_)))
           (case side6 => exact HC122_5.out)
           (case side7 => repeat (first | exact (Kd.C_below HR1.out HB.out) | (with_reducible refine Kd.C_alloc ?_ _) | (with_reducible refine Kd.C_drewN ?_ _) | (with_reducible refine Kd.C_drew ?_)))
           (case side8 => exact HC1.out)
           rintro e w89 ⟨rfl, hb⟩
           refine ⟨_, rfl, ?_⟩
           replace BK109 := Aside0.mk (blk_below (g := gb109) (o := .cells #[.int .i64 v0, .int .i64 v1, .bool v2, .slice B3 m3.length k_3, .slice B4 m4.length k_4, .slice (some ad122) m5.length k_5] 32 (0, 0)) bk_ hb); replace HB := Aside0.mk (below_step bl_ hb); (try clear hb)
           (try clear hb2)
           (try clear hk)
           (try clear hi)
           refine hK.out _ _ ⟨(blk_cell BK109.out 0).trans rfl, (blk_cell BK109.out 1).trans rfl, (blk_cell BK109.out 2).trans rfl, (blk_cell BK109.out 3).trans rfl, (blk_cell BK109.out 4).trans rfl, (blk_cell BK109.out 5).trans rfl, ((HB.out.cell (wlt_ w _ hw122_0)).trans hw122_0), ((HB.out.cell (wlt_ w _ hw122_1)).trans hw122_1), ((HB.out.cell (wlt_ w _ hw122_2)).trans hw122_2), ((HB.out.cell (wlt_ w _ hw122_3)).trans hw122_3), ((HB.out.cell (wlt_ w _ hw122_4)).trans hw122_4), ((HB.out.cell (wlt_ w _ hw122_5)).trans hw122_5), ((HB.out.cell (wlt_ w _ hw124_0)).trans hw124_0), ((HB.out.cell (wlt_ w _ hw124_1)).trans hw124_1), ((HB.out.cell (wlt_ w _ hw124_2)).trans hw124_2), ((HB.out.cell (wlt_ w _ hw124_3)).trans hw124_3), ((HB.out.cell (wlt_ w _ hw124_4)).trans hw124_4), ((HB.out.cell (wlt_ w _ hw124_5)).trans hw124_5)⟩ (fun hHeld => ?_)
           clear hK K; refine norm_ (a' := ?_) ?_ ?_
           rotate_left
           ·show Act.put _ (some 58) _ = _
            simp only [Act.put, lsa_, List.set_cons_zero, List.set_cons_succ, i64_w, i32_w]; rfl
           refine one_ (i := 11) (N := some 64) #[true, true, true, true, true, true, true, true, true, true, true, true, false, false] rfl rfl (one_of HT_.out (by kernel_rfl)) (by decide) (fun K hK => ?_)
           refine goes_ Try.func25 (by kernel_rfl) rfl #[.agg #[.int .i64 ((rd_T32 m5 1).f0), .int .i64 ((rd_T32 m5 1).f1), .bool ((rd_T32 m5 1).f2.f0), .slice A124_3 ((rd_T32 m5 1).f2.f1).length c124_3, .slice A124_4 ((rd_T32 m5 1).f2.f2).length c124_4, .slice A124_5 ((rd_T32 m5 1).f3).length c124_5], .slice A1 l1.length c1] (by rfl) rfl rfl (by (try simp only [List.map_toArray, List.map_cons, List.map_nil]); first | done | rfl | (simp only [List.length_drop, List.length_take]; rfl)) ?_
           with_reducible refine (ih k (by omega) ((rd_T32 m5 1).f0) ((rd_T32 m5 1).f1) ((rd_T32 m5 1).f2.f0) _ _ ((rd_T32 m5 1).f2.f1) _ _ ((rd_T32 m5 1).f2.f2) _ _ ((rd_T32 m5 1).f3) _ _ l1 t125 _ ?side1 ?side2 ?side3 ?side4 ?side5 ?side6 ?side7 ?side8 A43.out).mono ?_
           (case side1 => repeat (first | exact (Kd.C_below HR124_3.out HB.out) | (with_reducible refine Kd.C_alloc ?_ _) | (with_reducible refine Kd.C_drewN ?_ _) | (with_reducible refine Kd.C_drew ?_)))
           (case side2 => exact HC124_3.out)
           (case side3 => repeat (first | exact (Kd.C_below HR124_4.out HB.out) | (with_reducible refine Kd.C_alloc ?_ _) | (with_reducible refine Kd.C_drewN ?_ _) | (with_reducible refine Kd.C_drew ?_)))
           (case side4 => exact HC124_4.out)
           (case side5 => repeat (first | exact (Kd.C_below HR124_5.out HB.out) | (with_reducible refine Kd.C_alloc ?_ _) | (with_reducible refine Kd.C_drewN ?_ _) | (with_reducible refine Kd.C_drew ?_)))
           (case side6 => exact HC124_5.out)
           (case side7 => repeat (first | exact (Kd.C_below HR1.out HB.out) | (with_reducible refine Kd.C_alloc ?_ _) | (with_reducible refine Kd.C_drewN ?_ _) | (with_reducible refine Kd.C_drew ?_)))
           (case side8 => exact HC1.out)
           rintro e w90 ⟨rfl, hb⟩
           refine ⟨_, rfl, ?_⟩
           replace BK109 := Aside0.mk (blk_below (g := gb109) (o := .cells #[.int .i64 v0, .int .i64 v1, .bool v2, .slice B3 m3.length k_3, .slice B4 m4.length k_4, .slice (some ad122) m5.length k_5] 32 (0, 0)) bk_ hb); replace HB := Aside0.mk (below_step bl_ hb); (try clear hb)
           (try clear hb2)
           (try clear hk)
           (try clear hi)
           refine hK.out _ _ ⟨(blk_cell BK109.out 0).trans rfl, (blk_cell BK109.out 1).trans rfl, (blk_cell BK109.out 2).trans rfl, (blk_cell BK109.out 3).trans rfl, (blk_cell BK109.out 4).trans rfl, (blk_cell BK109.out 5).trans rfl, ((HB.out.cell (wlt_ w _ hw122_0)).trans hw122_0), ((HB.out.cell (wlt_ w _ hw122_1)).trans hw122_1), ((HB.out.cell (wlt_ w _ hw122_2)).trans hw122_2), ((HB.out.cell (wlt_ w _ hw122_3)).trans hw122_3), ((HB.out.cell (wlt_ w _ hw122_4)).trans hw122_4), ((HB.out.cell (wlt_ w _ hw122_5)).trans hw122_5), ((HB.out.cell (wlt_ w _ hw124_0)).trans hw124_0), ((HB.out.cell (wlt_ w _ hw124_1)).trans hw124_1), ((HB.out.cell (wlt_ w _ hw124_2)).trans hw124_2), ((HB.out.cell (wlt_ w _ hw124_3)).trans hw124_3), ((HB.out.cell (wlt_ w _ hw124_4)).trans hw124_4), ((HB.out.cell (wlt_ w _ hw124_5)).trans hw124_5)⟩ (fun hHeld => ?_)
           clear hK K; refine norm_ (a' := ?_) ?_ ?_
           rotate_left
           ·show Act.put _ (some 64) _ = _
            simp only [Act.put, lsa_, List.set_cons_zero, List.set_cons_succ, i64_w, i32_w]; rfl
           refine pure_ (i := 12) (N := some 5) (v := ?_) (a' := ?_) #[true, true, true, true, true, true, true, true, true, true, true, true, true, false] rfl rfl (any_of HT_.out (by kernel_rfl)) (fun _ _ _ h => h) (Or.inl ⟨by rfl, ?_⟩) ?_ ?_
           rotate_left
           ·intro w'; go_simp; with_reducible rfl
           rotate_left
           ·simp only [Act.put, lsa_, List.set_cons_zero, List.set_cons_succ, i64_w, i32_w]; rfl
           refine pure_ (i := 13) (N := some 6) (v := ?_) (a' := ?_) #[true, true, true, true, true, true, true, true, true, true, true, true, true, true] rfl rfl (any_of HT_.out (by kernel_rfl)) (fun _ _ _ h => h) (Or.inl ⟨by rfl, ?_⟩) ?_ ?_
           rotate_left
           ·intro w'; go_simp; with_reducible rfl
           rotate_left
           ·simp only [Act.put, lsa_, List.set_cons_zero, List.set_cons_succ, i64_w, i32_w]; rfl
           refine done_ (done_of HT_.out (by kernel_rfl)) ?_
           obtain ⟨hcz91_0, hcz91_1, hcz91_2, hcz91_3, hcz91_4, hcz91_5, hfz91_0, hfz91_1, hfz91_2, hfz91_3, hfz91_4, hfz91_5⟩ := cf6_ BK109.out; try go_wp2_with (first | ((with_reducible refine gate_callee (f := 20) rfl ?_); refine goesL_ (some 96) rfl rfl Try.func20 (by kernel_rfl) rfl #[.bool (decide (t123 < t125))] rfl (by (try simp only [List.map_toArray, List.map_cons, List.map_nil]); first | done | rfl | (simp only [List.length_drop, List.length_take]; rfl)) ?_; (with_reducible refine (core_truth.calls (decide (t123 < t125)) t131 _ A85.out).mono ?_); rintro e w' ⟨rfl, ⟨nd, rfl⟩⟩; refine ⟨_, rfl, ?_⟩))
           go_ret; exact ⟨re_, bl_⟩
          ·rw [if_neg c84] at H; have c84b0 : (v0 == 8) = false := beq_eq_false_iff_ne.mpr c84; have c84b1 : (v0 != 8) = true := bne_iff_ne.mpr c84; by_cases c92 : v0 = 9
           ·rw [if_pos c92] at H; have c92b0 : (v0 == 9) = true := beq_iff_eq.mpr c92; have c92b1 : (v0 != 9) = false := bne_eq_false_iff_eq.mpr c92; clear c92; replace H := Option.bind_eq_some_iff.mp H; obtain ⟨t132, A930, H⟩ := H; replace H : (some t132) = some r := H; have A93 := Aside0.mk A930; clear A930; obtain rfl := Option.some.inj H; go_enter Try.func25, Try.ntmps25; try go_wp2_with (first | ((with_reducible refine gate_dst (N := 2) rfl ?_); refine box_event ?hg (N := 2) ?hd (cs := #[.int .i64 v0, .int .i64 v1, .bool v2, .slice B3 m3.length k_3, .slice B4 m4.length k_4, .slice B5 m5.length k_5]) (t := 32) ?hr ?_; (case hd => rfl); (case hg => rfl); (case hr => first | (go_simp; done) | (go_simp; rfl)); intro gb109 hg w94 hbox hb; have BK109 := Aside0.mk (hbox); have GW109 : Aside0 (w.heap.size ≤ gb109) := gw_ hg (below_size bl_); have GE109 := GW109; replace HB := Aside0.mk (below_step bl_ hb); clear hb hbox hg; obtain ⟨hcz95_0, hcz95_1, hcz95_2, hcz95_3, hcz95_4, hcz95_5, hfz95_0, hfz95_1, hfz95_2, hfz95_3, hfz95_4, hfz95_5⟩ := cf6_ BK109.out))
            replace BK109 := Aside0.mk (blk_drew BK109.out); replace HB := Aside0.mk (below_drew1 HB.out); have p122 : 0 ≤ (0 : Int) := (by omega); have q122 : 0 < (m5.length : Int) := dt_; obtain ⟨ad122, A122_3, c122_3, A122_4, c122_4, A122_5, c122_5, e122, hx122_0, hx122_1, hx122_2, hx122_3, hx122_4, hx122_5, hl122_3, hi122_3, hl122_4, hi122_4, hl122_5, hi122_5⟩ := at_T32 X5.out 0 p122 q122; have hw122_5 := hx122_5; (try rw [show ((0 : Int)).toNat = 0 from rfl] at hw122_5)
            (try rw [show 0 * 6 = 0 from rfl] at hw122_5)
            (try rw [Addr.add_zero'] at hw122_5)
            have hw122_4 := hx122_4; (try rw [show ((0 : Int)).toNat = 0 from rfl] at hw122_4)
            (try rw [show 0 * 6 = 0 from rfl] at hw122_4)
            (try rw [Addr.add_zero'] at hw122_4)
            have hw122_3 := hx122_3; (try rw [show ((0 : Int)).toNat = 0 from rfl] at hw122_3)
            (try rw [show 0 * 6 = 0 from rfl] at hw122_3)
            (try rw [Addr.add_zero'] at hw122_3)
            have hw122_2 := hx122_2; (try rw [show ((0 : Int)).toNat = 0 from rfl] at hw122_2)
            (try rw [show 0 * 6 = 0 from rfl] at hw122_2)
            (try rw [Addr.add_zero'] at hw122_2)
            have hw122_1 := hx122_1; (try rw [show ((0 : Int)).toNat = 0 from rfl] at hw122_1)
            (try rw [show 0 * 6 = 0 from rfl] at hw122_1)
            (try rw [Addr.add_zero'] at hw122_1)
            have hw122_0 := hx122_0; (try rw [show ((0 : Int)).toNat = 0 from rfl] at hw122_0)
            (try rw [show 0 * 6 = 0 from rfl] at hw122_0)
            (try rw [Addr.add_zero'] at hw122_0)
            cases e122; have qi122 : (0 < m5.length) = True := eq_true (by omega); (try rw [show ((0 : Int)).toNat = 0 from rfl] at hx122_0)
            (try rw [show 0 * 6 = 0 from rfl] at hx122_0)
            (try rw [Addr.add_zero'] at hx122_0)
            (try rw [show ((0 : Int)).toNat = 0 from rfl] at hx122_1)
            (try rw [show 0 * 6 = 0 from rfl] at hx122_1)
            (try rw [Addr.add_zero'] at hx122_1)
            (try rw [show ((0 : Int)).toNat = 0 from rfl] at hx122_2)
            (try rw [show 0 * 6 = 0 from rfl] at hx122_2)
            (try rw [Addr.add_zero'] at hx122_2)
            (try rw [show ((0 : Int)).toNat = 0 from rfl] at hx122_3)
            (try rw [show 0 * 6 = 0 from rfl] at hx122_3)
            (try rw [Addr.add_zero'] at hx122_3)
            (try rw [show ((0 : Int)).toNat = 0 from rfl] at hx122_4)
            (try rw [show 0 * 6 = 0 from rfl] at hx122_4)
            (try rw [Addr.add_zero'] at hx122_4)
            (try rw [show ((0 : Int)).toNat = 0 from rfl] at hx122_5)
            (try rw [show 0 * 6 = 0 from rfl] at hx122_5)
            (try rw [Addr.add_zero'] at hx122_5)
            replace hx122_0 := (HB.out.cell (wlt_ w _ hx122_0)).trans hx122_0; replace hx122_1 := (HB.out.cell (wlt_ w _ hx122_1)).trans hx122_1; replace hx122_2 := (HB.out.cell (wlt_ w _ hx122_2)).trans hx122_2; replace hx122_3 := (HB.out.cell (wlt_ w _ hx122_3)).trans hx122_3; replace hx122_4 := (HB.out.cell (wlt_ w _ hx122_4)).trans hx122_4; replace hx122_5 := (HB.out.cell (wlt_ w _ hx122_5)).trans hx122_5; have HR122_3 := Aside0.mk hi122_3; have HC122_3 := Aside0.mk hl122_3; clear hi122_3 hl122_3; have HR122_4 := Aside0.mk hi122_4; have HC122_4 := Aside0.mk hl122_4; clear hi122_4 hl122_4; have HR122_5 := Aside0.mk hi122_5; have HC122_5 := Aside0.mk hl122_5; clear hi122_5 hl122_5; replace p122 := eq_true p122; replace q122 := eq_true q122; have p124 : 0 ≤ (1 : Int) := (by omega); have q124 : 1 < (m5.length : Int) := dt_; obtain ⟨ad124, A124_3, c124_3, A124_4, c124_4, A124_5, c124_5, e124, hx124_0, hx124_1, hx124_2, hx124_3, hx124_4, hx124_5, hl124_3, hi124_3, hl124_4, hi124_4, hl124_5, hi124_5⟩ := at_T32 X5.out 1 p124 q124; have hw124_5 := hx124_5; (try rw [show ((1 : Int)).toNat = 1 from rfl] at hw124_5)
            (try rw [show 1 * 6 = 6 from rfl] at hw124_5)
            (try simp only [Nat.reduceMul, Nat.reduceEqDiff, Go.Addr.add, ↓reduceIte] at hw124_5)
            have hw124_4 := hx124_4; (try rw [show ((1 : Int)).toNat = 1 from rfl] at hw124_4)
            (try rw [show 1 * 6 = 6 from rfl] at hw124_4)
            (try simp only [Nat.reduceMul, Nat.reduceEqDiff, Go.Addr.add, ↓reduceIte] at hw124_4)
            have hw124_3 := hx124_3; (try rw [show ((1 : Int)).toNat = 1 from rfl] at hw124_3)
            (try rw [show 1 * 6 = 6 from rfl] at hw124_3)
            (try simp only [Nat.reduceMul, Nat.reduceEqDiff, Go.Addr.add, ↓reduceIte] at hw124_3)
            have hw124_2 := hx124_2; (try rw [show ((1 : Int)).toNat = 1 from rfl] at hw124_2)
            (try rw [show 1 * 6 = 6 from rfl] at hw124_2)
            (try simp only [Nat.reduceMul, Nat.reduceEqDiff, Go.Addr.add, ↓reduceIte] at hw124_2)
            have hw124_1 := hx124_1; (try rw [show ((1 : Int)).toNat = 1 from rfl] at hw124_1)
            (try rw [show 1 * 6 = 6 from rfl] at hw124_1)
            (try simp only [Nat.reduceMul, Nat.reduceEqDiff, Go.Addr.add, ↓reduceIte] at hw124_1)
            have hw124_0 := hx124_0; (try rw [show ((1 : Int)).toNat = 1 from rfl] at hw124_0)
            (try rw [show 1 * 6 = 6 from rfl] at hw124_0)
            (try simp only [Nat.reduceMul, Nat.reduceEqDiff, Go.Addr.add, ↓reduceIte] at hw124_0)
            obtain rfl : ad122 = ad124 := (by injection e124); (try simp only [show (1 : Int).toNat = 1 from rfl, Nat.reduceMul, Nat.reduceEqDiff, Go.Addr.add, ↓reduceIte] at hx124_0)
            (try simp only [show (1 : Int).toNat = 1 from rfl, Nat.reduceMul, Nat.reduceEqDiff, Go.Addr.add, ↓reduceIte] at hx124_1)
            (try simp only [show (1 : Int).toNat = 1 from rfl, Nat.reduceMul, Nat.reduceEqDiff, Go.Addr.add, ↓reduceIte] at hx124_2)
            (try simp only [show (1 : Int).toNat = 1 from rfl, Nat.reduceMul, Nat.reduceEqDiff, Go.Addr.add, ↓reduceIte] at hx124_3)
            (try simp only [show (1 : Int).toNat = 1 from rfl, Nat.reduceMul, Nat.reduceEqDiff, Go.Addr.add, ↓reduceIte] at hx124_4)
            (try simp only [show (1 : Int).toNat = 1 from rfl, Nat.reduceMul, Nat.reduceEqDiff, Go.Addr.add, ↓reduceIte] at hx124_5)
            have qi124 : (1 < m5.length) = True := eq_true (by omega); (try rw [show ((1 : Int)).toNat = 1 from rfl] at hx124_0)
            (try rw [show 1 * 6 = 6 from rfl] at hx124_0)
            (try rw [show ((1 : Int)).toNat = 1 from rfl] at hx124_1)
            (try rw [show 1 * 6 = 6 from rfl] at hx124_1)
            (try rw [show ((1 : Int)).toNat = 1 from rfl] at hx124_2)
            (try rw [show 1 * 6 = 6 from rfl] at hx124_2)
            (try rw [show ((1 : Int)).toNat = 1 from rfl] at hx124_3)
            (try rw [show 1 * 6 = 6 from rfl] at hx124_3)
            (try rw [show ((1 : Int)).toNat = 1 from rfl] at hx124_4)
            (try rw [show 1 * 6 = 6 from rfl] at hx124_4)
            (try rw [show ((1 : Int)).toNat = 1 from rfl] at hx124_5)
            (try rw [show 1 * 6 = 6 from rfl] at hx124_5)
            replace hx124_0 := (HB.out.cell (wlt_ w _ hx124_0)).trans hx124_0; replace hx124_1 := (HB.out.cell (wlt_ w _ hx124_1)).trans hx124_1; replace hx124_2 := (HB.out.cell (wlt_ w _ hx124_2)).trans hx124_2; replace hx124_3 := (HB.out.cell (wlt_ w _ hx124_3)).trans hx124_3; replace hx124_4 := (HB.out.cell (wlt_ w _ hx124_4)).trans hx124_4; replace hx124_5 := (HB.out.cell (wlt_ w _ hx124_5)).trans hx124_5; have HR124_3 := Aside0.mk hi124_3; have HC124_3 := Aside0.mk hl124_3; clear hi124_3 hl124_3; have HR124_4 := Aside0.mk hi124_4; have HC124_4 := Aside0.mk hl124_4; clear hi124_4 hl124_4; have HR124_5 := Aside0.mk hi124_5; have HC124_5 := Aside0.mk hl124_5; clear hi124_5 hl124_5; replace p124 := eq_true p124; replace q124 := eq_true q124; refine start_ (n := 14) (S := fun w' => w'.cell? ⟨gb109, 0, none⟩ = some (.int .i64 v0) ∧ w'.cell? ⟨gb109, 1, none⟩ = some (.int .i64 v1) ∧ w'.cell? ⟨gb109, 2, none⟩ = some (.bool v2) ∧ w'.cell? ⟨gb109, 3, none⟩ = some (.slice B3 m3.length k_3) ∧ w'.cell? ⟨gb109, 4, none⟩ = some (.slice B4 m4.length k_4) ∧ w'.cell? ⟨gb109, 5, none⟩ = some (.slice (some ad122) m5.length k_5) ∧ w'.cell? ad122 = some (.int .i64 ((rd_T32 m5 0).f0)) ∧ w'.cell? ⟨ad122.block, ad122.off + 1, none⟩ = some (.int .i64 ((rd_T32 m5 0).f1)) ∧ w'.cell? ⟨ad122.block, ad122.off + 2, none⟩ = some (.bool ((rd_T32 m5 0).f2.f0)) ∧ w'.cell? ⟨ad122.block, ad122.off + 3, none⟩ = some (.slice A122_3 ((rd_T32 m5 0).f2.f1).length c122_3) ∧ w'.cell? ⟨ad122.block, ad122.off + 4, none⟩ = some (.slice A122_4 ((rd_T32 m5 0).f2.f2).length c122_4) ∧ w'.cell? ⟨ad122.block, ad122.off + 5, none⟩ = some (.slice A122_5 ((rd_T32 m5 0).f3).length c122_5) ∧ w'.cell? ⟨ad122.block, ad122.off + 6, none⟩ = some (.int .i64 ((rd_T32 m5 1).f0)) ∧ w'.cell? ⟨ad122.block, ad122.off + 6 + 1, none⟩ = some (.int .i64 ((rd_T32 m5 1).f1)) ∧ w'.cell? ⟨ad122.block, ad122.off + 6 + 2, none⟩ = some (.bool ((rd_T32 m5 1).f2.f0)) ∧ w'.cell? ⟨ad122.block, ad122.off + 6 + 3, none⟩ = some (.slice A124_3 ((rd_T32 m5 1).f2.f1).length c124_3) ∧ w'.cell? ⟨ad122.block, ad122.off + 6 + 4, none⟩ = some (.slice A124_4 ((rd_T32 m5 1).f2.f2).length c124_4) ∧ w'.cell? ⟨ad122.block, ad122.off + 6 + 5, none⟩ = some (.slice A124_5 ((rd_T32 m5 1).f3).length c124_5)) (ds := []) #[false, false, false, false, false, false, false, false, false, false, false, false, false, false] (by kernel_rfl) rfl rfl ⟨(blk_cell BK109.out 0).trans rfl, (blk_cell BK109.out 1).trans rfl, (blk_cell BK109.out 2).trans rfl, (blk_cell BK109.out 3).trans rfl, (blk_cell BK109.out 4).trans rfl, (blk_cell BK109.out 5).trans rfl, ((HB.out.cell (wlt_ w _ hw122_0)).trans hw122_0), ((HB.out.cell (wlt_ w _ hw122_1)).trans hw122_1), ((HB.out.cell (wlt_ w _ hw122_2)).trans hw122_2), ((HB.out.cell (wlt_ w _ hw122_3)).trans hw122_3), ((HB.out.cell (wlt_ w _ hw122_4)).trans hw122_4), ((HB.out.cell (wlt_ w _ hw122_5)).trans hw122_5), ((HB.out.cell (wlt_ w _ hw124_0)).trans hw124_0), ((HB.out.cell (wlt_ w _ hw124_1)).trans hw124_1), ((HB.out.cell (wlt_ w _ hw124_2)).trans hw124_2), ((HB.out.cell (wlt_ w _ hw124_3)).trans hw124_3), ((HB.out.cell (wlt_ w _ hw124_4)).trans hw124_4), ((HB.out.cell (wlt_ w _ hw124_5)).trans hw124_5)⟩ (fun hHeld => ?_); refine with_tabW core_eval.tab12 core_eval.bits12 (fun HT_ HW_ => ?_)
            generalize w94.drew = w96 at BK109 HB HR122_3 HR122_4 HR122_5 HR124_3 HR124_4 HR124_5 hx122_0 hx122_1 hx122_2 hx122_3 hx122_4 hx122_5 hx124_0 hx124_1 hx124_2 hx124_3 hx124_4 hx124_5 hHeld ⊢
            refine pure_ (i := 0) (N := some 53) (v := ?_) (a' := ?_) #[true, false, false, false, false, false, false, false, false, false, false, false, false, false] rfl rfl (any_of HT_.out (by kernel_rfl)) (fun _ _ _ h => h) (Or.inl ⟨by rfl, ?_⟩) ?_ ?_
            rotate_left
            ·intro w'; go_simp; with_reducible rfl
            rotate_left
            ·simp only [Act.put, lsa_, List.set_cons_zero, List.set_cons_succ, i64_w, i32_w]; rfl
            refine pure_ (i := 4) (N := some 57) (v := ?_) (a' := ?_) #[true, false, false, false, true, false, false, false, false, false, false, false, false, false] rfl rfl (any_of HT_.out (by kernel_rfl)) (fun _ _ _ h => h) (Or.inl ⟨by rfl, ?_⟩) ?_ ?_
            rotate_left
            ·intro w'; go_simp; with_reducible rfl
            rotate_left
            ·simp only [Act.put, lsa_, List.set_cons_zero, List.set_cons_succ, i64_w, i32_w]; rfl
            refine pure_ (i := 6) (N := some 59) (v := ?_) (a' := ?_) #[true, false, false, false, true, false, true, false, false, false, false, false, false, false] rfl rfl (any_of HT_.out (by kernel_rfl)) (fun _ _ _ h => h) (Or.inl ⟨by rfl, ?_⟩) ?_ ?_
            rotate_left
            ·intro w'; go_simp; with_reducible rfl
            rotate_left
            ·simp only [Act.put, lsa_, List.set_cons_zero, List.set_cons_succ, i64_w, i32_w]; rfl
            refine pure_ (i := 10) (N := some 63) (v := ?_) (a' := ?_) #[true, false, false, false, true, false, true, false, false, false, true, false, false, false] rfl rfl (any_of HT_.out (by kernel_rfl)) (fun _ _ _ h => h) (Or.inl ⟨by rfl, ?_⟩) ?_ ?_
            rotate_left
            ·intro w'; go_simp; with_reducible rfl
            rotate_left
            ·simp only [Act.put, lsa_, List.set_cons_zero, List.set_cons_succ, i64_w, i32_w]; rfl
            refine take_ (i := 1) (N := some 54) (v := ?_) (a' := ?_) #[true, true, false, false, true, false, true, false, false, false, true, false, false, false] rfl rfl (take_ofW HT_.out HW_.out (by kernel_rfl)) (fun _ _ _ h => h) (Or.inl ⟨by rfl, ?_⟩) hHeld ?_ ?_
            rotate_left
            ·rintro w' ⟨s0, s1, s2, s3, s4, s5, s6, s7, s8, s9, s10, s11, s12, s13, s14, s15, s16, s17⟩
             go_simp; with_reducible rfl
            rotate_left
            ·simp only [Act.put, lsa_, List.set_cons_zero, List.set_cons_succ, i64_w, i32_w]; rfl
            refine pure_ (i := 2) (N := some 55) (v := ?_) (a' := ?_) #[true, true, true, false, true, false, true, false, false, false, true, false, false, false] rfl rfl (any_of HT_.out (by kernel_rfl)) (fun _ _ _ h => h) (Or.inl ⟨by rfl, ?_⟩) ?_ ?_
            rotate_left
            ·intro w'; go_simp; with_reducible rfl
            rotate_left
            ·simp only [Act.put, lsa_, List.set_cons_zero, List.set_cons_succ, i64_w, i32_w]; rfl
            refine take_ (i := 3) (N := some 56) (v := ?_) (a' := ?_) #[true, true, true, true, true, false, true, false, false, false, true, false, false, false] rfl rfl (take_ofW HT_.out HW_.out (by kernel_rfl)) (fun _ _ _ h => h) (Or.inl ⟨by rfl, ?_⟩) hHeld ?_ ?_
            rotate_left
            ·rintro w' ⟨s0, s1, s2, s3, s4, s5, s6, s7, s8, s9, s10, s11, s12, s13, s14, s15, s16, s17⟩
             go_simp; with_reducible rfl
            rotate_left
            ·simp only [Act.put, lsa_, List.set_cons_zero, List.set_cons_succ, i64_w, i32_w]; rfl
            refine take_ (i := 7) (N := some 60) (v := ?_) (a' := ?_) #[true, true, true, true, true, false, true, true, false, false, true, false, false, false] rfl rfl (take_ofW HT_.out HW_.out (by kernel_rfl)) (fun _ _ _ h => h) (Or.inl ⟨by rfl, ?_⟩) hHeld ?_ ?_
            rotate_left
            ·rintro w' ⟨s0, s1, s2, s3, s4, s5, s6, s7, s8, s9, s10, s11, s12, s13, s14, s15, s16, s17⟩
             go_simp; with_reducible rfl
            rotate_left
            ·simp only [Act.put, lsa_, List.set_cons_zero, List.set_cons_succ, i64_w, i32_w]; rfl
            refine pure_ (i := 8) (N := some 61) (v := ?_) (a' := ?_) #[true, true, true, true, true, false, true, true, true, false, true, false, false, false] rfl rfl (any_of HT_.out (by kernel_rfl)) (fun _ _ _ h => h) (Or.inl ⟨by rfl, ?_⟩) ?_ ?_
            rotate_left
            ·intro w'; go_simp; with_reducible rfl
            rotate_left
            ·simp only [Act.put, lsa_, List.set_cons_zero, List.set_cons_succ, i64_w, i32_w]; rfl
            refine take_ (i := 9) (N := some 62) (v := ?_) (a' := ?_) #[true, true, true, true, true, false, true, true, true, true, true, false, false, false] rfl rfl (take_ofW HT_.out HW_.out (by kernel_rfl)) (fun _ _ _ h => h) (Or.inl ⟨by rfl, ?_⟩) hHeld ?_ ?_
            rotate_left
            ·rintro w' ⟨s0, s1, s2, s3, s4, s5, s6, s7, s8, s9, s10, s11, s12, s13, s14, s15, s16, s17⟩
             go_simp; with_reducible rfl
            rotate_left
            ·simp only [Act.put, lsa_, List.set_cons_zero, List.set_cons_succ, i64_w, i32_w]; rfl
            refine one_ (i := 5) (N := some 58) #[true, true, true, true, true, true, true, true, true, true, true, false, false, false] rfl rfl (one_of HT_.out (by kernel_rfl)) (by decide) (fun K hK => ?_)
            refine goes_ Try.func25 (by kernel_rfl) rfl #[.agg #[.int .i64 ((rd_T32 m5 0).f0), .int .i64 ((rd_T32 m5 0).f1), .bool ((rd_T32 m5 0).f2.f0), .slice A122_3 ((rd_T32 m5 0).f2.f1).length c122_3, .slice A122_4 ((rd_T32 m5 0).f2.f2).length c122_4, .slice A122_5 ((rd_T32 m5 0).f3).length c122_5], .slice A1 l1.length c1] (by rfl) rfl rfl (by (try simp only [List.map_toArray, List.map_cons, List.map_nil]); first | done | rfl | (simp only [List.length_drop, List.length_take]; rfl)) ?_
            with_reducible refine (ih k (by omega) ((rd_T32 m5 0).f0) ((rd_T32 m5 0).f1) ((rd_T32 m5 0).f2.f0) _ _ ((rd_T32 m5 0).f2.f1) _ _ ((rd_T32 m5 0).f2.f2) _ _ ((rd_T32 m5 0).f3) _ _ l1 t123 _ ?side1 ?side2 ?side3 ?side4 ?side5 ?side6 ?side7 ?side8 A41.out).mono ?_
            (case side1 => repeat (first | exact (Kd.C_below HR122_3.out HB.out) | (with_reducible refine Kd.C_alloc ?_ _) | (with_reducible refine Kd.C_drewN ?_ _) | (with_reducible refine Kd.C_drew ?_)))
            (case side2 => exact HC122_3.out)
            (case side3 => repeat (first | exact (Kd.C_below HR122_4.out HB.out) | (with_reducible refine Kd.C_alloc ?_ _) | (with_reducible refine Kd.C_drewN ?_ _) | (with_reducible refine Kd.C_drew ?_)))
            (case side4 => exact HC122_4.out)
            (case side5 => repeat (first | exact (Kd.C_below HR122_5.out HB.out) | (with_reducible refine Kd.C_alloc ?_ _) | (with_reducible refine Kd.C_drewN ?_ _) | (with_reducible refine Kd.C_drew ?_)))
            (case side6 => exact HC122_5.out)
            (case side7 => repeat (first | exact (Kd.C_below HR1.out HB.out) | (with_reducible refine Kd.C_alloc ?_ _) | (with_reducible refine Kd.C_drewN ?_ _) | (with_reducible refine Kd.C_drew ?_)))
            (case side8 => exact HC1.out)
            rintro e w97 ⟨rfl, hb⟩
            refine ⟨_, rfl, ?_⟩
            replace BK109 := Aside0.mk (blk_below (g := gb109) (o := .cells #[.int .i64 v0, .int .i64 v1, .bool v2, .slice B3 m3.length k_3, .slice B4 m4.length k_4, .slice (some ad122) m5.length k_5] 32 (0, 0)) bk_ hb); replace HB := Aside0.mk (below_step bl_ hb); (try clear hb)
            (try clear hb2)
            (try clear hk)
            (try clear hi)
            refine hK.out _ _ ⟨(blk_cell BK109.out 0).trans rfl, (blk_cell BK109.out 1).trans rfl, (blk_cell BK109.out 2).trans rfl, (blk_cell BK109.out 3).trans rfl, (blk_cell BK109.out 4).trans rfl, (blk_cell BK109.out 5).trans rfl, ((HB.out.cell (wlt_ w _ hw122_0)).trans hw122_0), ((HB.out.cell (wlt_ w _ hw122_1)).trans hw122_1), ((HB.out.cell (wlt_ w _ hw122_2)).trans hw122_2), ((HB.out.cell (wlt_ w _ hw122_3)).trans hw122_3), ((HB.out.cell (wlt_ w _ hw122_4)).trans hw122_4), ((HB.out.cell (wlt_ w _ hw122_5)).trans hw122_5), ((HB.out.cell (wlt_ w _ hw124_0)).trans hw124_0), ((HB.out.cell (wlt_ w _ hw124_1)).trans hw124_1), ((HB.out.cell (wlt_ w _ hw124_2)).trans hw124_2), ((HB.out.cell (wlt_ w _ hw124_3)).trans hw124_3), ((HB.out.cell (wlt_ w _ hw124_4)).trans hw124_4), ((HB.out.cell (wlt_ w _ hw124_5)).trans hw124_5)⟩ (fun hHeld => ?_)
            clear hK K; refine norm_ (a' := ?_) ?_ ?_
            rotate_left
            ·show Act.put _ (some 58) _ = _
             simp only [Act.put, lsa_, List.set_cons_zero, List.set_cons_succ, i64_w, i32_w]; rfl
            refine one_ (i := 11) (N := some 64) #[true, true, true, true, true, true, true, true, true, true, true, true, false, false] rfl rfl (one_of HT_.out (by kernel_rfl)) (by decide) (fun K hK => ?_)
            refine goes_ Try.func25 (by kernel_rfl) rfl #[.agg #[.int .i64 ((rd_T32 m5 1).f0), .int .i64 ((rd_T32 m5 1).f1), .bool ((rd_T32 m5 1).f2.f0), .slice A124_3 ((rd_T32 m5 1).f2.f1).length c124_3, .slice A124_4 ((rd_T32 m5 1).f2.f2).length c124_4, .slice A124_5 ((rd_T32 m5 1).f3).length c124_5], .slice A1 l1.length c1] (by rfl) rfl rfl (by (try simp only [List.map_toArray, List.map_cons, List.map_nil]); first | done | rfl | (simp only [List.length_drop, List.length_take]; rfl)) ?_
            with_reducible refine (ih k (by omega) ((rd_T32 m5 1).f0) ((rd_T32 m5 1).f1) ((rd_T32 m5 1).f2.f0) _ _ ((rd_T32 m5 1).f2.f1) _ _ ((rd_T32 m5 1).f2.f2) _ _ ((rd_T32 m5 1).f3) _ _ l1 t125 _ ?side1 ?side2 ?side3 ?side4 ?side5 ?side6 ?side7 ?side8 A43.out).mono ?_
            (case side1 => repeat (first | exact (Kd.C_below HR124_3.out HB.out) | (with_reducible refine Kd.C_alloc ?_ _) | (with_reducible refine Kd.C_drewN ?_ _) | (with_reducible refine Kd.C_drew ?_)))
            (case side2 => exact HC124_3.out)
            (case side3 => repeat (first | exact (Kd.C_below HR124_4.out HB.out) | (with_reducible refine Kd.C_alloc ?_ _) | (with_reducible refine Kd.C_drewN ?_ _) | (with_reducible refine Kd.C_drew ?_)))
            (case side4 => exact HC124_4.out)
            (case side5 => repeat (first | exact (Kd.C_below HR124_5.out HB.out) | (with_reducible refine Kd.C_alloc ?_ _) | (with_reducible refine Kd.C_drewN ?_ _) | (with_reducible refine Kd.C_drew ?_)))
            (case side6 => exact HC124_5.out)
            (case side7 => repeat (first | exact (Kd.C_below HR1.out HB.out) | (with_reducible refine Kd.C_alloc ?_ _) | (with_reducible refine Kd.C_drewN ?_ _) | (with_reducible refine Kd.C_drew ?_)))
            (case side8 => exact HC1.out)
            rintro e w98 ⟨rfl, hb⟩
            refine ⟨_, rfl, ?_⟩
            replace BK109 := Aside0.mk (blk_below (g := gb109) (o := .cells #[.int .i64 v0, .int .i64 v1, .bool v2, .slice B3 m3.length k_3, .slice B4 m4.length k_4, .slice (some ad122) m5.length k_5] 32 (0, 0)) bk_ hb); replace HB := Aside0.mk (below_step bl_ hb); (try clear hb)
            (try clear hb2)
            (try clear hk)
            (try clear hi)
            refine hK.out _ _ ⟨(blk_cell BK109.out 0).trans rfl, (blk_cell BK109.out 1).trans rfl, (blk_cell BK109.out 2).trans rfl, (blk_cell BK109.out 3).trans rfl, (blk_cell BK109.out 4).trans rfl, (blk_cell BK109.out 5).trans rfl, ((HB.out.cell (wlt_ w _ hw122_0)).trans hw122_0), ((HB.out.cell (wlt_ w _ hw122_1)).trans hw122_1), ((HB.out.cell (wlt_ w _ hw122_2)).trans hw122_2), ((HB.out.cell (wlt_ w _ hw122_3)).trans hw122_3), ((HB.out.cell (wlt_ w _ hw122_4)).trans hw122_4), ((HB.out.cell (wlt_ w _ hw122_5)).trans hw122_5), ((HB.out.cell (wlt_ w _ hw124_0)).trans hw124_0), ((HB.out.cell (wlt_ w _ hw124_1)).trans hw124_1), ((HB.out.cell (wlt_ w _ hw124_2)).trans hw124_2), ((HB.out.cell (wlt_ w _ hw124_3)).trans hw124_3), ((HB.out.cell (wlt_ w _ hw124_4)).trans hw124_4), ((HB.out.cell (wlt_ w _ hw124_5)).trans hw124_5)⟩ (fun hHeld => ?_)
            clear hK K; refine norm_ (a' := ?_) ?_ ?_
            rotate_left
            ·show Act.put _ (some 64) _ = _
             simp only [Act.put, lsa_, List.set_cons_zero, List.set_cons_succ, i64_w, i32_w]; rfl
            refine pure_ (i := 12) (N := some 5) (v := ?_) (a' := ?_) #[true, true, true, true, true, true, true, true, true, true, true, true, true, false] rfl rfl (any_of HT_.out (by kernel_rfl)) (fun _ _ _ h => h) (Or.inl ⟨by rfl, ?_⟩) ?_ ?_
            rotate_left
            ·intro w'; go_simp; with_reducible rfl
            rotate_left
            ·simp only [Act.put, lsa_, List.set_cons_zero, List.set_cons_succ, i64_w, i32_w]; rfl
            refine pure_ (i := 13) (N := some 6) (v := ?_) (a' := ?_) #[true, true, true, true, true, true, true, true, true, true, true, true, true, true] rfl rfl (any_of HT_.out (by kernel_rfl)) (fun _ _ _ h => h) (Or.inl ⟨by rfl, ?_⟩) ?_ ?_
            rotate_left
            ·intro w'; go_simp; with_reducible rfl
            rotate_left
            ·simp only [Act.put, lsa_, List.set_cons_zero, List.set_cons_succ, i64_w, i32_w]; rfl
            refine done_ (done_of HT_.out (by kernel_rfl)) ?_
            obtain ⟨hcz99_0, hcz99_1, hcz99_2, hcz99_3, hcz99_4, hcz99_5, hfz99_0, hfz99_1, hfz99_2, hfz99_3, hfz99_4, hfz99_5⟩ := cf6_ BK109.out; try go_wp2_with (first | ((with_reducible refine gate_callee (f := 20) rfl ?_); refine goesL_ (some 102) rfl rfl Try.func20 (by kernel_rfl) rfl #[.bool (decide (t123 ≤ t125))] rfl (by (try simp only [List.map_toArray, List.map_cons, List.map_nil]); first | done | rfl | (simp only [List.length_drop, List.length_take]; rfl)) ?_; (with_reducible refine (core_truth.calls (decide (t123 ≤ t125)) t132 _ A93.out).mono ?_); rintro e w' ⟨rfl, ⟨nd, rfl⟩⟩; refine ⟨_, rfl, ?_⟩))
            go_ret; exact ⟨re_, bl_⟩
           ·rw [if_neg c92] at H; have c92b0 : (v0 == 9) = false := beq_eq_false_iff_ne.mpr c92; have c92b1 : (v0 != 9) = true := bne_iff_ne.mpr c92; by_cases c100 : v0 = 10
            ·rw [if_pos c100] at H; have c100b0 : (v0 == 10) = true := beq_iff_eq.mpr c100; have c100b1 : (v0 != 10) = false := bne_eq_false_iff_eq.mpr c100; clear c100; replace H := Option.bind_eq_some_iff.mp H; obtain ⟨t133, A1010, H⟩ := H; replace H : (some t133) = some r := H; have A101 := Aside0.mk A1010; clear A1010; obtain rfl := Option.some.inj H; go_enter Try.func25, Try.ntmps25; try go_wp2_with (first | ((with_reducible refine gate_dst (N := 2) rfl ?_); refine box_event ?hg (N := 2) ?hd (cs := #[.int .i64 v0, .int .i64 v1, .bool v2, .slice B3 m3.length k_3, .slice B4 m4.length k_4, .slice B5 m5.length k_5]) (t := 32) ?hr ?_; (case hd => rfl); (case hg => rfl); (case hr => first | (go_simp; done) | (go_simp; rfl)); intro gb109 hg w102 hbox hb; have BK109 := Aside0.mk (hbox); have GW109 : Aside0 (w.heap.size ≤ gb109) := gw_ hg (below_size bl_); have GE109 := GW109; replace HB := Aside0.mk (below_step bl_ hb); clear hb hbox hg; obtain ⟨hcz103_0, hcz103_1, hcz103_2, hcz103_3, hcz103_4, hcz103_5, hfz103_0, hfz103_1, hfz103_2, hfz103_3, hfz103_4, hfz103_5⟩ := cf6_ BK109.out))
             replace BK109 := Aside0.mk (blk_drew BK109.out); replace HB := Aside0.mk (below_drew1 HB.out); have p122 : 0 ≤ (0 : Int) := (by omega); have q122 : 0 < (m5.length : Int) := dt_; obtain ⟨ad122, A122_3, c122_3, A122_4, c122_4, A122_5, c122_5, e122, hx122_0, hx122_1, hx122_2, hx122_3, hx122_4, hx122_5, hl122_3, hi122_3, hl122_4, hi122_4, hl122_5, hi122_5⟩ := at_T32 X5.out 0 p122 q122; have hw122_5 := hx122_5; (try rw [show ((0 : Int)).toNat = 0 from rfl] at hw122_5)
             (try rw [show 0 * 6 = 0 from rfl] at hw122_5)
             (try rw [Addr.add_zero'] at hw122_5)
             have hw122_4 := hx122_4; (try rw [show ((0 : Int)).toNat = 0 from rfl] at hw122_4)
             (try rw [show 0 * 6 = 0 from rfl] at hw122_4)
             (try rw [Addr.add_zero'] at hw122_4)
             have hw122_3 := hx122_3; (try rw [show ((0 : Int)).toNat = 0 from rfl] at hw122_3)
             (try rw [show 0 * 6 = 0 from rfl] at hw122_3)
             (try rw [Addr.add_zero'] at hw122_3)
             have hw122_2 := hx122_2; (try rw [show ((0 : Int)).toNat = 0 from rfl] at hw122_2)
             (try rw [show 0 * 6 = 0 from rfl] at hw122_2)
             (try rw [Addr.add_zero'] at hw122_2)
             have hw122_1 := hx122_1; (try rw [show ((0 : Int)).toNat = 0 from rfl] at hw122_1)
             (try rw [show 0 * 6 = 0 from rfl] at hw122_1)
             (try rw [Addr.add_zero'] at hw122_1)
             have hw122_0 := hx122_0; (try rw [show ((0 : Int)).toNat = 0 from rfl] at hw122_0)
             (try rw [show 0 * 6 = 0 from rfl] at hw122_0)
             (try rw [Addr.add_zero'] at hw122_0)
             cases e122; have qi122 : (0 < m5.length) = True := eq_true (by omega); (try rw [show ((0 : Int)).toNat = 0 from rfl] at hx122_0)
             (try rw [show 0 * 6 = 0 from rfl] at hx122_0)
             (try rw [Addr.add_zero'] at hx122_0)
             (try rw [show ((0 : Int)).toNat = 0 from rfl] at hx122_1)
             (try rw [show 0 * 6 = 0 from rfl] at hx122_1)
             (try rw [Addr.add_zero'] at hx122_1)
             (try rw [show ((0 : Int)).toNat = 0 from rfl] at hx122_2)
             (try rw [show 0 * 6 = 0 from rfl] at hx122_2)
             (try rw [Addr.add_zero'] at hx122_2)
             (try rw [show ((0 : Int)).toNat = 0 from rfl] at hx122_3)
             (try rw [show 0 * 6 = 0 from rfl] at hx122_3)
             (try rw [Addr.add_zero'] at hx122_3)
             (try rw [show ((0 : Int)).toNat = 0 from rfl] at hx122_4)
             (try rw [show 0 * 6 = 0 from rfl] at hx122_4)
             (try rw [Addr.add_zero'] at hx122_4)
             (try rw [show ((0 : Int)).toNat = 0 from rfl] at hx122_5)
             (try rw [show 0 * 6 = 0 from rfl] at hx122_5)
             (try rw [Addr.add_zero'] at hx122_5)
             replace hx122_0 := (HB.out.cell (wlt_ w _ hx122_0)).trans hx122_0; replace hx122_1 := (HB.out.cell (wlt_ w _ hx122_1)).trans hx122_1; replace hx122_2 := (HB.out.cell (wlt_ w _ hx122_2)).trans hx122_2; replace hx122_3 := (HB.out.cell (wlt_ w _ hx122_3)).trans hx122_3; replace hx122_4 := (HB.out.cell (wlt_ w _ hx122_4)).trans hx122_4; replace hx122_5 := (HB.out.cell (wlt_ w _ hx122_5)).trans hx122_5; have HR122_3 := Aside0.mk hi122_3; have HC122_3 := Aside0.mk hl122_3; clear hi122_3 hl122_3; have HR122_4 := Aside0.mk hi122_4; have HC122_4 := Aside0.mk hl122_4; clear hi122_4 hl122_4; have HR122_5 := Aside0.mk hi122_5; have HC122_5 := Aside0.mk hl122_5; clear hi122_5 hl122_5; replace p122 := eq_true p122; replace q122 := eq_true q122; have p124 : 0 ≤ (1 : Int) := (by omega); have q124 : 1 < (m5.length : Int) := dt_; obtain ⟨ad124, A124_3, c124_3, A124_4, c124_4, A124_5, c124_5, e124, hx124_0, hx124_1, hx124_2, hx124_3, hx124_4, hx124_5, hl124_3, hi124_3, hl124_4, hi124_4, hl124_5, hi124_5⟩ := at_T32 X5.out 1 p124 q124; have hw124_5 := hx124_5; (try rw [show ((1 : Int)).toNat = 1 from rfl] at hw124_5)
             (try rw [show 1 * 6 = 6 from rfl] at hw124_5)
             (try simp only [Nat.reduceMul, Nat.reduceEqDiff, Go.Addr.add, ↓reduceIte] at hw124_5)
             have hw124_4 := hx124_4; (try rw [show ((1 : Int)).toNat = 1 from rfl] at hw124_4)
             (try rw [show 1 * 6 = 6 from rfl] at hw124_4)
             (try simp only [Nat.reduceMul, Nat.reduceEqDiff, Go.Addr.add, ↓reduceIte] at hw124_4)
             have hw124_3 := hx124_3; (try rw [show ((1 : Int)).toNat = 1 from rfl] at hw124_3)
             (try rw [show 1 * 6 = 6 from rfl] at hw124_3)
             (try simp only [Nat.reduceMul, Nat.reduceEqDiff, Go.Addr.add, ↓reduceIte] at hw124_3)
             have hw124_2 := hx124_2; (try rw [show ((1 : Int)).toNat = 1 from rfl] at hw124_2)
             (try rw [show 1 * 6 = 6 from rfl] at hw124_2)
             (try simp only [Nat.reduceMul, Nat.reduceEqDiff, Go.Addr.add, ↓reduceIte] at hw124_2)
             have hw124_1 := hx124_1; (try rw [show ((1 : Int)).toNat = 1 from rfl] at hw124_1)
             (try rw [show 1 * 6 = 6 from rfl] at hw124_1)
             (try simp only [Nat.reduceMul, Nat.reduceEqDiff, Go.Addr.add, ↓reduceIte] at hw124_1)
             have hw124_0 := hx124_0; (try rw [show ((1 : Int)).toNat = 1 from rfl] at hw124_0)
             (try rw [show 1 * 6 = 6 from rfl] at hw124_0)
             (try simp only [Nat.reduceMul, Nat.reduceEqDiff, Go.Addr.add, ↓reduceIte] at hw124_0)
             obtain rfl : ad122 = ad124 := (by injection e124); (try simp only [show (1 : Int).toNat = 1 from rfl, Nat.reduceMul, Nat.reduceEqDiff, Go.Addr.add, ↓reduceIte] at hx124_0)
             (try simp only [show (1 : Int).toNat = 1 from rfl, Nat.reduceMul, Nat.reduceEqDiff, Go.Addr.add, ↓reduceIte] at hx124_1)
             (try simp only [show (1 : Int).toNat = 1 from rfl, Nat.reduceMul, Nat.reduceEqDiff, Go.Addr.add, ↓reduceIte] at hx124_2)
             (try simp only [show (1 : Int).toNat = 1 from rfl, Nat.reduceMul, Nat.reduceEqDiff, Go.Addr.add, ↓reduceIte] at hx124_3)
             (try simp only [show (1 : Int).toNat = 1 from rfl, Nat.reduceMul, Nat.reduceEqDiff, Go.Addr.add, ↓reduceIte] at hx124_4)
             (try simp only [show (1 : Int).toNat = 1 from rfl, Nat.reduceMul, Nat.reduceEqDiff, Go.Addr.add, ↓reduceIte] at hx124_5)
             have qi124 : (1 < m5.length) = True := eq_true (by omega); (try rw [show ((1 : Int)).toNat = 1 from rfl] at hx124_0)
             (try rw [show 1 * 6 = 6 from rfl] at hx124_0)
             (try rw [show ((1 : Int)).toNat = 1 from rfl] at hx124_1)
             (try rw [show 1 * 6 = 6 from rfl] at hx124_1)
             (try rw [show ((1 : Int)).toNat = 1 from rfl] at hx124_2)
             (try rw [show 1 * 6 = 6 from rfl] at hx124_2)
             (try rw [show ((1 : Int)).toNat = 1 from rfl] at hx124_3)
             (try rw [show 1 * 6 = 6 from rfl] at hx124_3)
             (try rw [show ((1 : Int)).toNat = 1 from rfl] at hx124_4)
             (try rw [show 1 * 6 = 6 from rfl] at hx124_4)
             (try rw [show ((1 : Int)).toNat = 1 from rfl] at hx124_5)
             (try rw [show 1 * 6 = 6 from rfl] at hx124_5)
             replace hx124_0 := (HB.out.cell (wlt_ w _ hx124_0)).trans hx124_0; replace hx124_1 := (HB.out.cell (wlt_ w _ hx124_1)).trans hx124_1; replace hx124_2 := (HB.out.cell (wlt_ w _ hx124_2)).trans hx124_2; replace hx124_3 := (HB.out.cell (wlt_ w _ hx124_3)).trans hx124_3; replace hx124_4 := (HB.out.cell (wlt_ w _ hx124_4)).trans hx124_4; replace hx124_5 := (HB.out.cell (wlt_ w _ hx124_5)).trans hx124_5; have HR124_3 := Aside0.mk hi124_3; have HC124_3 := Aside0.mk hl124_3; clear hi124_3 hl124_3; have HR124_4 := Aside0.mk hi124_4; have HC124_4 := Aside0.mk hl124_4; clear hi124_4 hl124_4; have HR124_5 := Aside0.mk hi124_5; have HC124_5 := Aside0.mk hl124_5; clear hi124_5 hl124_5; replace p124 := eq_true p124; replace q124 := eq_true q124; refine start_ (n := 14) (S := fun w' => w'.cell? ⟨gb109, 0, none⟩ = some (.int .i64 v0) ∧ w'.cell? ⟨gb109, 1, none⟩ = some (.int .i64 v1) ∧ w'.cell? ⟨gb109, 2, none⟩ = some (.bool v2) ∧ w'.cell? ⟨gb109, 3, none⟩ = some (.slice B3 m3.length k_3) ∧ w'.cell? ⟨gb109, 4, none⟩ = some (.slice B4 m4.length k_4) ∧ w'.cell? ⟨gb109, 5, none⟩ = some (.slice (some ad122) m5.length k_5) ∧ w'.cell? ad122 = some (.int .i64 ((rd_T32 m5 0).f0)) ∧ w'.cell? ⟨ad122.block, ad122.off + 1, none⟩ = some (.int .i64 ((rd_T32 m5 0).f1)) ∧ w'.cell? ⟨ad122.block, ad122.off + 2, none⟩ = some (.bool ((rd_T32 m5 0).f2.f0)) ∧ w'.cell? ⟨ad122.block, ad122.off + 3, none⟩ = some (.slice A122_3 ((rd_T32 m5 0).f2.f1).length c122_3) ∧ w'.cell? ⟨ad122.block, ad122.off + 4, none⟩ = some (.slice A122_4 ((rd_T32 m5 0).f2.f2).length c122_4) ∧ w'.cell? ⟨ad122.block, ad122.off + 5, none⟩ = some (.slice A122_5 ((rd_T32 m5 0).f3).length c122_5) ∧ w'.cell? ⟨ad122.block, ad122.off + 6, none⟩ = some (.int .i64 ((rd_T32 m5 1).f0)) ∧ w'.cell? ⟨ad122.block, ad122.off + 6 + 1, none⟩ = some (.int .i64 ((rd_T32 m5 1).f1)) ∧ w'.cell? ⟨ad122.block, ad122.off + 6 + 2, none⟩ = some (.bool ((rd_T32 m5 1).f2.f0)) ∧ w'.cell? ⟨ad122.block, ad122.off + 6 + 3, none⟩ = some (.slice A124_3 ((rd_T32 m5 1).f2.f1).length c124_3) ∧ w'.cell? ⟨ad122.block, ad122.off + 6 + 4, none⟩ = some (.slice A124_4 ((rd_T32 m5 1).f2.f2).length c124_4) ∧ w'.cell? ⟨ad122.block, ad122.off + 6 + 5, none⟩ = some (.slice A124_5 ((rd_T32 m5 1).f3).length c124_5)) (ds := []) #[false, false, false, false, false, false, false, false, false, false, false, false, false, false] (by kernel_rfl) rfl rfl ⟨(blk_cell BK109.out 0).trans rfl, (blk_cell BK109.out 1).trans rfl, (blk_cell BK109.out 2).trans rfl, (blk_cell BK109.out 3).trans rfl, (blk_cell BK109.out 4).trans rfl, (blk_cell BK109.out 5).trans rfl, ((HB.out.cell (wlt_ w _ hw122_0)).trans hw122_0), ((HB.out.cell (wlt_ w _ hw122_1)).trans hw122_1), ((HB.out.cell (wlt_ w _ hw122_2)).trans hw122_2), ((HB.out.cell (wlt_ w _ hw122_3)).trans hw122_3), ((HB.out.cell (wlt_ w _ hw122_4)).trans hw122_4), ((HB.out.cell (wlt_ w _ hw122_5)).trans hw122_5), ((HB.out.cell (wlt_ w _ hw124_0)).trans hw124_0), ((HB.out.cell (wlt_ w _ hw124_1)).trans hw124_1), ((HB.out.cell (wlt_ w _ hw124_2)).trans hw124_2), ((HB.out.cell (wlt_ w _ hw124_3)).trans hw124_3), ((HB.out.cell (wlt_ w _ hw124_4)).trans hw124_4), ((HB.out.cell (wlt_ w _ hw124_5)).trans hw124_5)⟩ (fun hHeld => ?_); refine with_tabW core_eval.tab12 core_eval.bits12 (fun HT_ HW_ => ?_)
             generalize w102.drew = w104 at BK109 HB HR122_3 HR122_4 HR122_5 HR124_3 HR124_4 HR124_5 hx122_0 hx122_1 hx122_2 hx122_3 hx122_4 hx122_5 hx124_0 hx124_1 hx124_2 hx124_3 hx124_4 hx124_5 hHeld ⊢
             refine pure_ (i := 0) (N := some 53) (v := ?_) (a' := ?_) #[true, false, false, false, false, false, false, false, false, false, false, false, false, false] rfl rfl (any_of HT_.out (by kernel_rfl)) (fun _ _ _ h => h) (Or.inl ⟨by rfl, ?_⟩) ?_ ?_
             rotate_left
             ·intro w'; go_simp; with_reducible rfl
             rotate_left
             ·simp only [Act.put, lsa_, List.set_cons_zero, List.set_cons_succ, i64_w, i32_w]; rfl
             refine pure_ (i := 4) (N := some 57) (v := ?_) (a' := ?_) #[true, false, false, false, true, false, false, false, false, false, false, false, false, false] rfl rfl (any_of HT_.out (by kernel_rfl)) (fun _ _ _ h => h) (Or.inl ⟨by rfl, ?_⟩) ?_ ?_
             rotate_left
             ·intro w'; go_simp; with_reducible rfl
             rotate_left
             ·simp only [Act.put, lsa_, List.set_cons_zero, List.set_cons_succ, i64_w, i32_w]; rfl
             refine pure_ (i := 6) (N := some 59) (v := ?_) (a' := ?_) #[true, false, false, false, true, false, true, false, false, false, false, false, false, false] rfl rfl (any_of HT_.out (by kernel_rfl)) (fun _ _ _ h => h) (Or.inl ⟨by rfl, ?_⟩) ?_ ?_
             rotate_left
             ·intro w'; go_simp; with_reducible rfl
             rotate_left
             ·simp only [Act.put, lsa_, List.set_cons_zero, List.set_cons_succ, i64_w, i32_w]; rfl
             refine pure_ (i := 10) (N := some 63) (v := ?_) (a' := ?_) #[true, false, false, false, true, false, true, false, false, false, true, false, false, false] rfl rfl (any_of HT_.out (by kernel_rfl)) (fun _ _ _ h => h) (Or.inl ⟨by rfl, ?_⟩) ?_ ?_
             rotate_left
             ·intro w'; go_simp; with_reducible rfl
             rotate_left
             ·simp only [Act.put, lsa_, List.set_cons_zero, List.set_cons_succ, i64_w, i32_w]; rfl
             refine take_ (i := 1) (N := some 54) (v := ?_) (a' := ?_) #[true, true, false, false, true, false, true, false, false, false, true, false, false, false] rfl rfl (take_ofW HT_.out HW_.out (by kernel_rfl)) (fun _ _ _ h => h) (Or.inl ⟨by rfl, ?_⟩) hHeld ?_ ?_
             rotate_left
             ·rintro w' ⟨s0, s1, s2, s3, s4, s5, s6, s7, s8, s9, s10, s11, s12, s13, s14, s15, s16, s17⟩
              go_simp; with_reducible rfl
             rotate_left
             ·simp only [Act.put, lsa_, List.set_cons_zero, List.set_cons_succ, i64_w, i32_w]; rfl
             refine pure_ (i := 2) (N := some 55) (v := ?_) (a' := ?_) #[true, true, true, false, true, false, true, false, false, false, true, false, false, false] rfl rfl (any_of HT_.out (by kernel_rfl)) (fun _ _ _ h => h) (Or.inl ⟨by rfl, ?_⟩) ?_ ?_
             rotate_left
             ·intro w'; go_simp; with_reducible rfl
             rotate_left
             ·simp only [Act.put, lsa_, List.set_cons_zero, List.set_cons_succ, i64_w, i32_w]; rfl
             refine take_ (i := 3) (N := some 56) (v := ?_) (a' := ?_) #[true, true, true, true, true, false, true, false, false, false, true, false, false, false] rfl rfl (take_ofW HT_.out HW_.out (by kernel_rfl)) (fun _ _ _ h => h) (Or.inl ⟨by rfl, ?_⟩) hHeld ?_ ?_
             rotate_left
             ·rintro w' ⟨s0, s1, s2, s3, s4, s5, s6, s7, s8, s9, s10, s11, s12, s13, s14, s15, s16, s17⟩
              go_simp; with_reducible rfl
             rotate_left
             ·simp only [Act.put, lsa_, List.set_cons_zero, List.set_cons_succ, i64_w, i32_w]; rfl
             refine take_ (i := 7) (N := some 60) (v := ?_) (a' := ?_) #[true, true, true, true, true, false, true, true, false, false, true, false, false, false] rfl rfl (take_ofW HT_.out HW_.out (by kernel_rfl)) (fun _ _ _ h => h) (Or.inl ⟨by rfl, ?_⟩) hHeld ?_ ?_
             rotate_left
             ·rintro w' ⟨s0, s1, s2, s3, s4, s5, s6, s7, s8, s9, s10, s11, s12, s13, s14, s15, s16, s17⟩
              go_simp; with_reducible rfl
             rotate_left
             ·simp only [Act.put, lsa_, List.set_cons_zero, List.set_cons_succ, i64_w, i32_w]; rfl
             refine pure_ (i := 8) (N := some 61) (v := ?_) (a' := ?_) #[true, true, true, true, true, false, true, true, true, false, true, false, false, false] rfl rfl (any_of HT_.out (by kernel_rfl)) (fun _ _ _ h => h) (Or.inl ⟨by rfl, ?_⟩) ?_ ?_
             rotate_left
             ·intro w'; go_simp; with_reducible rfl
             rotate_left
             ·simp only [Act.put, lsa_, List.set_cons_zero, List.set_cons_succ, i64_w, i32_w]; rfl
             refine take_ (i := 9) (N := some 62) (v := ?_) (a' := ?_) #[true, true, true, true, true, false, true, true, true, true, true, false, false, false] rfl rfl (take_ofW HT_.out HW_.out (by kernel_rfl)) (fun _ _ _ h => h) (Or.inl ⟨by rfl, ?_⟩) hHeld ?_ ?_
             rotate_left
             ·rintro w' ⟨s0, s1, s2, s3, s4, s5, s6, s7, s8, s9, s10, s11, s12, s13, s14, s15, s16, s17⟩
              go_simp; with_reducible rfl
             rotate_left
             ·simp only [Act.put, lsa_, List.set_cons_zero, List.set_cons_succ, i64_w, i32_w]; rfl
             refine one_ (i := 5) (N := some 58) #[true, true, true, true, true, true, true, true, true, true, true, false, false, false] rfl rfl (one_of HT_.out (by kernel_rfl)) (by decide) (fun K hK => ?_)
             refine goes_ Try.func25 (by kernel_rfl) rfl #[.agg #[.int .i64 ((rd_T32 m5 0).f0), .int .i64 ((rd_T32 m5 0).f1), .bool ((rd_T32 m5 0).f2.f0), .slice A122_3 ((rd_T32 m5 0).f2.f1).length c122_3, .slice A122_4 ((rd_T32 m5 0).f2.f2).length c122_4, .slice A122_5 ((rd_T32 m5 0).f3).length c122_5], .slice A1 l1.length c1] (by rfl) rfl rfl (by (try simp only [List.map_toArray, List.map_cons, List.map_nil]); first | done | rfl | (simp only [List.length_drop, List.length_take]; rfl)) ?_
             with_reducible refine (ih k (by omega) ((rd_T32 m5 0).f0) ((rd_T32 m5 0).f1) ((rd_T32 m5 0).f2.f0) _ _ ((rd_T32 m5 0).f2.f1) _ _ ((rd_T32 m5 0).f2.f2) _ _ ((rd_T32 m5 0).f3) _ _ l1 t123 _ ?side1 ?side2 ?side3 ?side4 ?side5 ?side6 ?side7 ?side8 A41.out).mono ?_
             (case side1 => repeat (first | exact (Kd.C_below HR122_3.out HB.out) | (with_reducible refine Kd.C_alloc ?_ _) | (with_reducible refine Kd.C_drewN ?_ _) | (with_reducible refine Kd.C_drew ?_)))
             (case side2 => exact HC122_3.out)
             (case side3 => repeat (first | exact (Kd.C_below HR122_4.out HB.out) | (with_reducible refine Kd.C_alloc ?_ _) | (with_reducible refine Kd.C_drewN ?_ _) | (with_reducible refine Kd.C_drew ?_)))
             (case side4 => exact HC122_4.out)
             (case side5 => repeat (first | exact (Kd.C_below HR122_5.out HB.out) | (with_reducible refine Kd.C_alloc ?_ _) | (with_reducible refine Kd.C_drewN ?_ _) | (with_reducible refine Kd.C_drew ?_)))
             (case side6 => exact HC122_5.out)
             (case side7 => repeat (first | exact (Kd.C_below HR1.out HB.out) | (with_reducible refine Kd.C_alloc ?_ _) | (with_reducible refine Kd.C_drewN ?_ _) | (with_reducible refine Kd.C_drew ?_)))
             (case side8 => exact HC1.out)
             rintro e w105 ⟨rfl, hb⟩
             refine ⟨_, rfl, ?_⟩
             replace BK109 := Aside0.mk (blk_below (g := gb109) (o := .cells #[.int .i64 v0, .int .i64 v1, .bool v2, .slice B3 m3.length k_3, .slice B4 m4.length k_4, .slice (some ad122) m5.length k_5] 32 (0, 0)) bk_ hb); replace HB := Aside0.mk (below_step bl_ hb); (try clear hb)
             (try clear hb2)
             (try clear hk)
             (try clear hi)
             refine hK.out _ _ ⟨(blk_cell BK109.out 0).trans rfl, (blk_cell BK109.out 1).trans rfl, (blk_cell BK109.out 2).trans rfl, (blk_cell BK109.out 3).trans rfl, (blk_cell BK109.out 4).trans rfl, (blk_cell BK109.out 5).trans rfl, ((HB.out.cell (wlt_ w _ hw122_0)).trans hw122_0), ((HB.out.cell (wlt_ w _ hw122_1)).trans hw122_1), ((HB.out.cell (wlt_ w _ hw122_2)).trans hw122_2), ((HB.out.cell (wlt_ w _ hw122_3)).trans hw122_3), ((HB.out.cell (wlt_ w _ hw122_4)).trans hw122_4), ((HB.out.cell (wlt_ w _ hw122_5)).trans hw122_5), ((HB.out.cell (wlt_ w _ hw124_0)).trans hw124_0), ((HB.out.cell (wlt_ w _ hw124_1)).trans hw124_1), ((HB.out.cell (wlt_ w _ hw124_2)).trans hw124_2), ((HB.out.cell (wlt_ w _ hw124_3)).trans hw124_3), ((HB.out.cell (wlt_ w _ hw124_4)).trans hw124_4), ((HB.out.cell (wlt_ w _ hw124_5)).trans hw124_5)⟩ (fun hHeld => ?_)
             clear hK K; refine norm_ (a' := ?_) ?_ ?_
             rotate_left
             ·show Act.put _ (some 58) _ = _
              simp only [Act.put, lsa_, List.set_cons_zero, List.set_cons_succ, i64_w, i32_w]; rfl
             refine one_ (i := 11) (N := some 64) #[true, true, true, true, true, true, true, true, true, true, true, true, false, false] rfl rfl (one_of HT_.out (by kernel_rfl)) (by decide) (fun K hK => ?_)
             refine goes_ Try.func25 (by kernel_rfl) rfl #[.agg #[.int .i64 ((rd_T32 m5 1).f0), .int .i64 ((rd_T32 m5 1).f1), .bool ((rd_T32 m5 1).f2.f0), .slice A124_3 ((rd_T32 m5 1).f2.f1).length c124_3, .slice A124_4 ((rd_T32 m5 1).f2.f2).length c124_4, .slice A124_5 ((rd_T32 m5 1).f3).length c124_5], .slice A1 l1.length c1] (by rfl) rfl rfl (by (try simp only [List.map_toArray, List.map_cons, List.map_nil]); first | done | rfl | (simp only [List.length_drop, List.length_take]; rfl)) ?_
             with_reducible refine (ih k (by omega) ((rd_T32 m5 1).f0) ((rd_T32 m5 1).f1) ((rd_T32 m5 1).f2.f0) _ _ ((rd_T32 m5 1).f2.f1) _ _ ((rd_T32 m5 1).f2.f2) _ _ ((rd_T32 m5 1).f3) _ _ l1 t125 _ ?side1 ?side2 ?side3 ?side4 ?side5 ?side6 ?side7 ?side8 A43.out).mono ?_
             (case side1 => repeat (first | exact (Kd.C_below HR124_3.out HB.out) | (with_reducible refine Kd.C_alloc ?_ _) | (with_reducible refine Kd.C_drewN ?_ _) | (with_reducible refine Kd.C_drew ?_)))
             (case side2 => exact HC124_3.out)
             (case side3 => repeat (first | exact (Kd.C_below HR124_4.out HB.out) | (with_reducible refine Kd.C_alloc ?_ _) | (with_reducible refine Kd.C_drewN ?_ _) | (with_reducible refine Kd.C_drew ?_)))
             (case side4 => exact HC124_4.out)
             (case side5 => repeat (first | exact (Kd.C_below HR124_5.out HB.out) | (with_reducible refine Kd.C_alloc ?_ _) | (with_reducible refine Kd.C_drewN ?_ _) | (with_reducible refine Kd.C_drew ?_)))
             (case side6 => exact HC124_5.out)
             (case side7 => repeat (first | exact (Kd.C_below HR1.out HB.out) | (with_reducible refine Kd.C_alloc ?_ _) | (with_reducible refine Kd.C_drewN ?_ _) | (with_reducible refine Kd.C_drew ?_)))
             (case side8 => exact HC1.out)
             rintro e w106 ⟨rfl, hb⟩
             refine ⟨_, rfl, ?_⟩
             replace BK109 := Aside0.mk (blk_below (g := gb109) (o := .cells #[.int .i64 v0, .int .i64 v1, .bool v2, .slice B3 m3.length k_3, .slice B4 m4.length k_4, .slice (some ad122) m5.length k_5] 32 (0, 0)) bk_ hb); replace HB := Aside0.mk (below_step bl_ hb); (try clear hb)
             (try clear hb2)
             (try clear hk)
             (try clear hi)
             refine hK.out _ _ ⟨(blk_cell BK109.out 0).trans rfl, (blk_cell BK109.out 1).trans rfl, (blk_cell BK109.out 2).trans rfl, (blk_cell BK109.out 3).trans rfl, (blk_cell BK109.out 4).trans rfl, (blk_cell BK109.out 5).trans rfl, ((HB.out.cell (wlt_ w _ hw122_0)).trans hw122_0), ((HB.out.cell (wlt_ w _ hw122_1)).trans hw122_1), ((HB.out.cell (wlt_ w _ hw122_2)).trans hw122_2), ((HB.out.cell (wlt_ w _ hw122_3)).trans hw122_3), ((HB.out.cell (wlt_ w _ hw122_4)).trans hw122_4), ((HB.out.cell (wlt_ w _ hw122_5)).trans hw122_5), ((HB.out.cell (wlt_ w _ hw124_0)).trans hw124_0), ((HB.out.cell (wlt_ w _ hw124_1)).trans hw124_1), ((HB.out.cell (wlt_ w _ hw124_2)).trans hw124_2), ((HB.out.cell (wlt_ w _ hw124_3)).trans hw124_3), ((HB.out.cell (wlt_ w _ hw124_4)).trans hw124_4), ((HB.out.cell (wlt_ w _ hw124_5)).trans hw124_5)⟩ (fun hHeld => ?_)
             clear hK K; refine norm_ (a' := ?_) ?_ ?_
             rotate_left
             ·show Act.put _ (some 64) _ = _
              simp only [Act.put, lsa_, List.set_cons_zero, List.set_cons_succ, i64_w, i32_w]; rfl
             refine pure_ (i := 12) (N := some 5) (v := ?_) (a' := ?_) #[true, true, true, true, true, true, true, true, true, true, true, true, true, false] rfl rfl (any_of HT_.out (by kernel_rfl)) (fun _ _ _ h => h) (Or.inl ⟨by rfl, ?_⟩) ?_ ?_
             rotate_left
             ·intro w'; go_simp; with_reducible rfl
             rotate_left
             ·simp only [Act.put, lsa_, List.set_cons_zero, List.set_cons_succ, i64_w, i32_w]; rfl
             refine pure_ (i := 13) (N := some 6) (v := ?_) (a' := ?_) #[true, true, true, true, true, true, true, true, true, true, true, true, true, true] rfl rfl (any_of HT_.out (by kernel_rfl)) (fun _ _ _ h => h) (Or.inl ⟨by rfl, ?_⟩) ?_ ?_
             rotate_left
             ·intro w'; go_simp; with_reducible rfl
             rotate_left
             ·simp only [Act.put, lsa_, List.set_cons_zero, List.set_cons_succ, i64_w, i32_w]; rfl
             refine done_ (done_of HT_.out (by kernel_rfl)) ?_
             obtain ⟨hcz107_0, hcz107_1, hcz107_2, hcz107_3, hcz107_4, hcz107_5, hfz107_0, hfz107_1, hfz107_2, hfz107_3, hfz107_4, hfz107_5⟩ := cf6_ BK109.out; try go_wp2_with (first | ((with_reducible refine gate_callee (f := 36) rfl ?_); refine goesL_ (some 108) rfl rfl Try.func36 (by kernel_rfl) rfl #[.int .i64 (wrap64 (t123 + t125))] rfl (by (try simp only [List.map_toArray, List.map_cons, List.map_nil]); first | done | rfl | (simp only [List.length_drop, List.length_take]; rfl)) ?_; (with_reducible refine (core_saturate.calls (wrap64 (t123 + t125)) t133 _ A101.out).mono ?_); rintro e w108 ⟨rfl, hb⟩; refine ⟨_, rfl, ?_⟩; replace BK109 := Aside0.mk (blk_below (g := gb109) (o := .cells #[.int .i64 v0, .int .i64 v1, .bool v2, .slice B3 m3.length k_3, .slice B4 m4.length k_4, .slice (some ad122) m5.length k_5] 32 (0, 0)) bk_ hb); replace HB := Aside0.mk (below_step bl_ hb); (try clear hb); (try clear hb2); (try clear hk); (try clear hi)))
             go_ret; exact ⟨re_, bl_⟩
            ·rw [if_neg c100] at H; have c100b0 : (v0 == 10) = false := beq_eq_false_iff_ne.mpr c100; have c100b1 : (v0 != 10) = true := bne_iff_ne.mpr c100; by_cases c109 : v0 = 11
             ·rw [if_pos c109] at H; have c109b0 : (v0 == 11) = true := beq_iff_eq.mpr c109; have c109b1 : (v0 != 11) = false := bne_eq_false_iff_eq.mpr c109; clear c109; replace H := Option.bind_eq_some_iff.mp H; obtain ⟨t134, A1100, H⟩ := H; replace H : (some t134) = some r := H; have A110 := Aside0.mk A1100; clear A1100; obtain rfl := Option.some.inj H; go_enter Try.func25, Try.ntmps25; try go_wp2_with (first | ((with_reducible refine gate_dst (N := 2) rfl ?_); refine box_event ?hg (N := 2) ?hd (cs := #[.int .i64 v0, .int .i64 v1, .bool v2, .slice B3 m3.length k_3, .slice B4 m4.length k_4, .slice B5 m5.length k_5]) (t := 32) ?hr ?_; (case hd => rfl); (case hg => rfl); (case hr => first | (go_simp; done) | (go_simp; rfl)); intro gb109 hg w111 hbox hb; have BK109 := Aside0.mk (hbox); have GW109 : Aside0 (w.heap.size ≤ gb109) := gw_ hg (below_size bl_); have GE109 := GW109; replace HB := Aside0.mk (below_step bl_ hb); clear hb hbox hg; obtain ⟨hcz112_0, hcz112_1, hcz112_2, hcz112_3, hcz112_4, hcz112_5, hfz112_0, hfz112_1, hfz112_2, hfz112_3, hfz112_4, hfz112_5⟩ := cf6_ BK109.out))
              replace BK109 := Aside0.mk (blk_drew BK109.out); replace HB := Aside0.mk (below_drew1 HB.out); have p122 : 0 ≤ (0 : Int) := (by omega); have q122 : 0 < (m5.length : Int) := dt_; obtain ⟨ad122, A122_3, c122_3, A122_4, c122_4, A122_5, c122_5, e122, hx122_0, hx122_1, hx122_2, hx122_3, hx122_4, hx122_5, hl122_3, hi122_3, hl122_4, hi122_4, hl122_5, hi122_5⟩ := at_T32 X5.out 0 p122 q122; have hw122_5 := hx122_5; (try rw [show ((0 : Int)).toNat = 0 from rfl] at hw122_5)
              (try rw [show 0 * 6 = 0 from rfl] at hw122_5)
              (try rw [Addr.add_zero'] at hw122_5)
              have hw122_4 := hx122_4; (try rw [show ((0 : Int)).toNat = 0 from rfl] at hw122_4)
              (try rw [show 0 * 6 = 0 from rfl] at hw122_4)
              (try rw [Addr.add_zero'] at hw122_4)
              have hw122_3 := hx122_3; (try rw [show ((0 : Int)).toNat = 0 from rfl] at hw122_3)
              (try rw [show 0 * 6 = 0 from rfl] at hw122_3)
              (try rw [Addr.add_zero'] at hw122_3)
              have hw122_2 := hx122_2; (try rw [show ((0 : Int)).toNat = 0 from rfl] at hw122_2)
              (try rw [show 0 * 6 = 0 from rfl] at hw122_2)
              (try rw [Addr.add_zero'] at hw122_2)
              have hw122_1 := hx122_1; (try rw [show ((0 : Int)).toNat = 0 from rfl] at hw122_1)
              (try rw [show 0 * 6 = 0 from rfl] at hw122_1)
              (try rw [Addr.add_zero'] at hw122_1)
              have hw122_0 := hx122_0; (try rw [show ((0 : Int)).toNat = 0 from rfl] at hw122_0)
              (try rw [show 0 * 6 = 0 from rfl] at hw122_0)
              (try rw [Addr.add_zero'] at hw122_0)
              cases e122; have qi122 : (0 < m5.length) = True := eq_true (by omega); (try rw [show ((0 : Int)).toNat = 0 from rfl] at hx122_0)
              (try rw [show 0 * 6 = 0 from rfl] at hx122_0)
              (try rw [Addr.add_zero'] at hx122_0)
              (try rw [show ((0 : Int)).toNat = 0 from rfl] at hx122_1)
              (try rw [show 0 * 6 = 0 from rfl] at hx122_1)
              (try rw [Addr.add_zero'] at hx122_1)
              (try rw [show ((0 : Int)).toNat = 0 from rfl] at hx122_2)
              (try rw [show 0 * 6 = 0 from rfl] at hx122_2)
              (try rw [Addr.add_zero'] at hx122_2)
              (try rw [show ((0 : Int)).toNat = 0 from rfl] at hx122_3)
              (try rw [show 0 * 6 = 0 from rfl] at hx122_3)
              (try rw [Addr.add_zero'] at hx122_3)
              (try rw [show ((0 : Int)).toNat = 0 from rfl] at hx122_4)
              (try rw [show 0 * 6 = 0 from rfl] at hx122_4)
              (try rw [Addr.add_zero'] at hx122_4)
              (try rw [show ((0 : Int)).toNat = 0 from rfl] at hx122_5)
              (try rw [show 0 * 6 = 0 from rfl] at hx122_5)
              (try rw [Addr.add_zero'] at hx122_5)
              replace hx122_0 := (HB.out.cell (wlt_ w _ hx122_0)).trans hx122_0; replace hx122_1 := (HB.out.cell (wlt_ w _ hx122_1)).trans hx122_1; replace hx122_2 := (HB.out.cell (wlt_ w _ hx122_2)).trans hx122_2; replace hx122_3 := (HB.out.cell (wlt_ w _ hx122_3)).trans hx122_3; replace hx122_4 := (HB.out.cell (wlt_ w _ hx122_4)).trans hx122_4; replace hx122_5 := (HB.out.cell (wlt_ w _ hx122_5)).trans hx122_5; have HR122_3 := Aside0.mk hi122_3; have HC122_3 := Aside0.mk hl122_3; clear hi122_3 hl122_3; have HR122_4 := Aside0.mk hi122_4; have HC122_4 := Aside0.mk hl122_4; clear hi122_4 hl122_4; have HR122_5 := Aside0.mk hi122_5; have HC122_5 := Aside0.mk hl122_5; clear hi122_5 hl122_5; replace p122 := eq_true p122; replace q122 := eq_true q122; have p124 : 0 ≤ (1 : Int) := (by omega); have q124 : 1 < (m5.length : Int) := dt_; obtain ⟨ad124, A124_3, c124_3, A124_4, c124_4, A124_5, c124_5, e124, hx124_0, hx124_1, hx124_2, hx124_3, hx124_4, hx124_5, hl124_3, hi124_3, hl124_4, hi124_4, hl124_5, hi124_5⟩ := at_T32 X5.out 1 p124 q124; have hw124_5 := hx124_5; (try rw [show ((1 : Int)).toNat = 1 from rfl] at hw124_5)
              (try rw [show 1 * 6 = 6 from rfl] at hw124_5)
              (try simp only [Nat.reduceMul, Nat.reduceEqDiff, Go.Addr.add, ↓reduceIte] at hw124_5)
              have hw124_4 := hx124_4; (try rw [show ((1 : Int)).toNat = 1 from rfl] at hw124_4)
              (try rw [show 1 * 6 = 6 from rfl] at hw124_4)
              (try simp only [Nat.reduceMul, Nat.reduceEqDiff, Go.Addr.add, ↓reduceIte] at hw124_4)
              have hw124_3 := hx124_3; (try rw [show ((1 : Int)).toNat = 1 from rfl] at hw124_3)
              (try rw [show 1 * 6 = 6 from rfl] at hw124_3)
              (try simp only [Nat.reduceMul, Nat.reduceEqDiff, Go.Addr.add, ↓reduceIte] at hw124_3)
              have hw124_2 := hx124_2; (try rw [show ((1 : Int)).toNat = 1 from rfl] at hw124_2)
              (try rw [show 1 * 6 = 6 from rfl] at hw124_2)
              (try simp only [Nat.reduceMul, Nat.reduceEqDiff, Go.Addr.add, ↓reduceIte] at hw124_2)
              have hw124_1 := hx124_1; (try rw [show ((1 : Int)).toNat = 1 from rfl] at hw124_1)
              (try rw [show 1 * 6 = 6 from rfl] at hw124_1)
              (try simp only [Nat.reduceMul, Nat.reduceEqDiff, Go.Addr.add, ↓reduceIte] at hw124_1)
              have hw124_0 := hx124_0; (try rw [show ((1 : Int)).toNat = 1 from rfl] at hw124_0)
              (try rw [show 1 * 6 = 6 from rfl] at hw124_0)
              (try simp only [Nat.reduceMul, Nat.reduceEqDiff, Go.Addr.add, ↓reduceIte] at hw124_0)
              obtain rfl : ad122 = ad124 := (by injection e124); (try simp only [show (1 : Int).toNat = 1 from rfl, Nat.reduceMul, Nat.reduceEqDiff, Go.Addr.add, ↓reduceIte] at hx124_0)
              (try simp only [show (1 : Int).toNat = 1 from rfl, Nat.reduceMul, Nat.reduceEqDiff, Go.Addr.add, ↓reduceIte] at hx124_1)
              (try simp only [show (1 : Int).toNat = 1 from rfl, Nat.reduceMul, Nat.reduceEqDiff, Go.Addr.add, ↓reduceIte] at hx124_2)
              (try simp only [show (1 : Int).toNat = 1 from rfl, Nat.reduceMul, Nat.reduceEqDiff, Go.Addr.add, ↓reduceIte] at hx124_3)
              (try simp only [show (1 : Int).toNat = 1 from rfl, Nat.reduceMul, Nat.reduceEqDiff, Go.Addr.add, ↓reduceIte] at hx124_4)
              (try simp only [show (1 : Int).toNat = 1 from rfl, Nat.reduceMul, Nat.reduceEqDiff, Go.Addr.add, ↓reduceIte] at hx124_5)
              have qi124 : (1 < m5.length) = True := eq_true (by omega); (try rw [show ((1 : Int)).toNat = 1 from rfl] at hx124_0)
              (try rw [show 1 * 6 = 6 from rfl] at hx124_0)
              (try rw [show ((1 : Int)).toNat = 1 from rfl] at hx124_1)
              (try rw [show 1 * 6 = 6 from rfl] at hx124_1)
              (try rw [show ((1 : Int)).toNat = 1 from rfl] at hx124_2)
              (try rw [show 1 * 6 = 6 from rfl] at hx124_2)
              (try rw [show ((1 : Int)).toNat = 1 from rfl] at hx124_3)
              (try rw [show 1 * 6 = 6 from rfl] at hx124_3)
              (try rw [show ((1 : Int)).toNat = 1 from rfl] at hx124_4)
              (try rw [show 1 * 6 = 6 from rfl] at hx124_4)
              (try rw [show ((1 : Int)).toNat = 1 from rfl] at hx124_5)
              (try rw [show 1 * 6 = 6 from rfl] at hx124_5)
              replace hx124_0 := (HB.out.cell (wlt_ w _ hx124_0)).trans hx124_0; replace hx124_1 := (HB.out.cell (wlt_ w _ hx124_1)).trans hx124_1; replace hx124_2 := (HB.out.cell (wlt_ w _ hx124_2)).trans hx124_2; replace hx124_3 := (HB.out.cell (wlt_ w _ hx124_3)).trans hx124_3; replace hx124_4 := (HB.out.cell (wlt_ w _ hx124_4)).trans hx124_4; replace hx124_5 := (HB.out.cell (wlt_ w _ hx124_5)).trans hx124_5; have HR124_3 := Aside0.mk hi124_3; have HC124_3 := Aside0.mk hl124_3; clear hi124_3 hl124_3; have HR124_4 := Aside0.mk hi124_4; have HC124_4 := Aside0.mk hl124_4; clear hi124_4 hl124_4; have HR124_5 := Aside0.mk hi124_5; have HC124_5 := Aside0.mk hl124_5; clear hi124_5 hl124_5; replace p124 := eq_true p124; replace q124 := eq_true q124; refine start_ (n := 14) (S := fun w' => w'.cell? ⟨gb109, 0, none⟩ = some (.int .i64 v0) ∧ w'.cell? ⟨gb109, 1, none⟩ = some (.int .i64 v1) ∧ w'.cell? ⟨gb109, 2, none⟩ = some (.bool v2) ∧ w'.cell? ⟨gb109, 3, none⟩ = some (.slice B3 m3.length k_3) ∧ w'.cell? ⟨gb109, 4, none⟩ = some (.slice B4 m4.length k_4) ∧ w'.cell? ⟨gb109, 5, none⟩ = some (.slice (some ad122) m5.length k_5) ∧ w'.cell? ad122 = some (.int .i64 ((rd_T32 m5 0).f0)) ∧ w'.cell? ⟨ad122.block, ad122.off + 1, none⟩ = some (.int .i64 ((rd_T32 m5 0).f1)) ∧ w'.cell? ⟨ad122.block, ad122.off + 2, none⟩ = some (.bool ((rd_T32 m5 0).f2.f0)) ∧ w'.cell? ⟨ad122.block, ad122.off + 3, none⟩ = some (.slice A122_3 ((rd_T32 m5 0).f2.f1).length c122_3) ∧ w'.cell? ⟨ad122.block, ad122.off + 4, none⟩ = some (.slice A122_4 ((rd_T32 m5 0).f2.f2).length c122_4) ∧ w'.cell? ⟨ad122.block, ad122.off + 5, none⟩ = some (.slice A122_5 ((rd_T32 m5 0).f3).length c122_5) ∧ w'.cell? ⟨ad122.block, ad122.off + 6, none⟩ = some (.int .i64 ((rd_T32 m5 1).f0)) ∧ w'.cell? ⟨ad122.block, ad122.off + 6 + 1, none⟩ = some (.int .i64 ((rd_T32 m5 1).f1)) ∧ w'.cell? ⟨ad122.block, ad122.off + 6 + 2, none⟩ = some (.bool ((rd_T32 m5 1).f2.f0)) ∧ w'.cell? ⟨ad122.block, ad122.off + 6 + 3, none⟩ = some (.slice A124_3 ((rd_T32 m5 1).f2.f1).length c124_3) ∧ w'.cell? ⟨ad122.block, ad122.off + 6 + 4, none⟩ = some (.slice A124_4 ((rd_T32 m5 1).f2.f2).length c124_4) ∧ w'.cell? ⟨ad122.block, ad122.off + 6 + 5, none⟩ = some (.slice A124_5 ((rd_T32 m5 1).f3).length c124_5)) (ds := []) #[false, false, false, false, false, false, false, false, false, false, false, false, false, false] (by kernel_rfl) rfl rfl ⟨(blk_cell BK109.out 0).trans rfl, (blk_cell BK109.out 1).trans rfl, (blk_cell BK109.out 2).trans rfl, (blk_cell BK109.out 3).trans rfl, (blk_cell BK109.out 4).trans rfl, (blk_cell BK109.out 5).trans rfl, ((HB.out.cell (wlt_ w _ hw122_0)).trans hw122_0), ((HB.out.cell (wlt_ w _ hw122_1)).trans hw122_1), ((HB.out.cell (wlt_ w _ hw122_2)).trans hw122_2), ((HB.out.cell (wlt_ w _ hw122_3)).trans hw122_3), ((HB.out.cell (wlt_ w _ hw122_4)).trans hw122_4), ((HB.out.cell (wlt_ w _ hw122_5)).trans hw122_5), ((HB.out.cell (wlt_ w _ hw124_0)).trans hw124_0), ((HB.out.cell (wlt_ w _ hw124_1)).trans hw124_1), ((HB.out.cell (wlt_ w _ hw124_2)).trans hw124_2), ((HB.out.cell (wlt_ w _ hw124_3)).trans hw124_3), ((HB.out.cell (wlt_ w _ hw124_4)).trans hw124_4), ((HB.out.cell (wlt_ w _ hw124_5)).trans hw124_5)⟩ (fun hHeld => ?_); refine with_tabW core_eval.tab12 core_eval.bits12 (fun HT_ HW_ => ?_)
              generalize w111.drew = w113 at BK109 HB HR122_3 HR122_4 HR122_5 HR124_3 HR124_4 HR124_5 hx122_0 hx122_1 hx122_2 hx122_3 hx122_4 hx122_5 hx124_0 hx124_1 hx124_2 hx124_3 hx124_4 hx124_5 hHeld ⊢
              refine pure_ (i := 0) (N := some 53) (v := ?_) (a' := ?_) #[true, false, false, false, false, false, false, false, false, false, false, false, false, false] rfl rfl (any_of HT_.out (by kernel_rfl)) (fun _ _ _ h => h) (Or.inl ⟨by rfl, ?_⟩) ?_ ?_
              rotate_left
              ·intro w'; go_simp; with_reducible rfl
              rotate_left
              ·simp only [Act.put, lsa_, List.set_cons_zero, List.set_cons_succ, i64_w, i32_w]; rfl
              refine pure_ (i := 4) (N := some 57) (v := ?_) (a' := ?_) #[true, false, false, false, true, false, false, false, false, false, false, false, false, false] rfl rfl (any_of HT_.out (by kernel_rfl)) (fun _ _ _ h => h) (Or.inl ⟨by rfl, ?_⟩) ?_ ?_
              rotate_left
              ·intro w'; go_simp; with_reducible rfl
              rotate_left
              ·simp only [Act.put, lsa_, List.set_cons_zero, List.set_cons_succ, i64_w, i32_w]; rfl
              refine pure_ (i := 6) (N := some 59) (v := ?_) (a' := ?_) #[true, false, false, false, true, false, true, false, false, false, false, false, false, false] rfl rfl (any_of HT_.out (by kernel_rfl)) (fun _ _ _ h => h) (Or.inl ⟨by rfl, ?_⟩) ?_ ?_
              rotate_left
              ·intro w'; go_simp; with_reducible rfl
              rotate_left
              ·simp only [Act.put, lsa_, List.set_cons_zero, List.set_cons_succ, i64_w, i32_w]; rfl
              refine pure_ (i := 10) (N := some 63) (v := ?_) (a' := ?_) #[true, false, false, false, true, false, true, false, false, false, true, false, false, false] rfl rfl (any_of HT_.out (by kernel_rfl)) (fun _ _ _ h => h) (Or.inl ⟨by rfl, ?_⟩) ?_ ?_
              rotate_left
              ·intro w'; go_simp; with_reducible rfl
              rotate_left
              ·simp only [Act.put, lsa_, List.set_cons_zero, List.set_cons_succ, i64_w, i32_w]; rfl
              refine take_ (i := 1) (N := some 54) (v := ?_) (a' := ?_) #[true, true, false, false, true, false, true, false, false, false, true, false, false, false] rfl rfl (take_ofW HT_.out HW_.out (by kernel_rfl)) (fun _ _ _ h => h) (Or.inl ⟨by rfl, ?_⟩) hHeld ?_ ?_
              rotate_left
              ·rintro w' ⟨s0, s1, s2, s3, s4, s5, s6, s7, s8, s9, s10, s11, s12, s13, s14, s15, s16, s17⟩
               go_simp; with_reducible rfl
              rotate_left
              ·simp only [Act.put, lsa_, List.set_cons_zero, List.set_cons_succ, i64_w, i32_w]; rfl
              refine pure_ (i := 2) (N := some 55) (v := ?_) (a' := ?_) #[true, true, true, false, true, false, true, false, false, false, true, false, false, false] rfl rfl (any_of HT_.out (by kernel_rfl)) (fun _ _ _ h => h) (Or.inl ⟨by rfl, ?_⟩) ?_ ?_
              rotate_left
              ·intro w'; go_simp; with_reducible rfl
              rotate_left
              ·simp only [Act.put, lsa_, List.set_cons_zero, List.set_cons_succ, i64_w, i32_w]; rfl
              refine take_ (i := 3) (N := some 56) (v := ?_) (a' := ?_) #[true, true, true, true, true, false, true, false, false, false, true, false, false, false] rfl rfl (take_ofW HT_.out HW_.out (by kernel_rfl)) (fun _ _ _ h => h) (Or.inl ⟨by rfl, ?_⟩) hHeld ?_ ?_
              rotate_left
              ·rintro w' ⟨s0, s1, s2, s3, s4, s5, s6, s7, s8, s9, s10, s11, s12, s13, s14, s15, s16, s17⟩
               go_simp; with_reducible rfl
              rotate_left
              ·simp only [Act.put, lsa_, List.set_cons_zero, List.set_cons_succ, i64_w, i32_w]; rfl
              refine take_ (i := 7) (N := some 60) (v := ?_) (a' := ?_) #[true, true, true, true, true, false, true, true, false, false, true, false, false, false] rfl rfl (take_ofW HT_.out HW_.out (by kernel_rfl)) (fun _ _ _ h => h) (Or.inl ⟨by rfl, ?_⟩) hHeld ?_ ?_
              rotate_left
              ·rintro w' ⟨s0, s1, s2, s3, s4, s5, s6, s7, s8, s9, s10, s11, s12, s13, s14, s15, s16, s17⟩
               go_simp; with_reducible rfl
              rotate_left
              ·simp only [Act.put, lsa_, List.set_cons_zero, List.set_cons_succ, i64_w, i32_w]; rfl
              refine pure_ (i := 8) (N := some 61) (v := ?_) (a' := ?_) #[true, true, true, true, true, false, true, true, true, false, true, false, false, false] rfl rfl (any_of HT_.out (by kernel_rfl)) (fun _ _ _ h => h) (Or.inl ⟨by rfl, ?_⟩) ?_ ?_
              rotate_left
              ·intro w'; go_simp; with_reducible rfl
              rotate_left
              ·simp only [Act.put, lsa_, List.set_cons_zero, List.set_cons_succ, i64_w, i32_w]; rfl
              refine take_ (i := 9) (N := some 62) (v := ?_) (a' := ?_) #[true, true, true, true, true, false, true, true, true, true, true, false, false, false] rfl rfl (take_ofW HT_.out HW_.out (by kernel_rfl)) (fun _ _ _ h => h) (Or.inl ⟨by rfl, ?_⟩) hHeld ?_ ?_
              rotate_left
              ·rintro w' ⟨s0, s1, s2, s3, s4, s5, s6, s7, s8, s9, s10, s11, s12, s13, s14, s15, s16, s17⟩
               go_simp; with_reducible rfl
              rotate_left
              ·simp only [Act.put, lsa_, List.set_cons_zero, List.set_cons_succ, i64_w, i32_w]; rfl
              refine one_ (i := 5) (N := some 58) #[true, true, true, true, true, true, true, true, true, true, true, false, false, false] rfl rfl (one_of HT_.out (by kernel_rfl)) (by decide) (fun K hK => ?_)
              refine goes_ Try.func25 (by kernel_rfl) rfl #[.agg #[.int .i64 ((rd_T32 m5 0).f0), .int .i64 ((rd_T32 m5 0).f1), .bool ((rd_T32 m5 0).f2.f0), .slice A122_3 ((rd_T32 m5 0).f2.f1).length c122_3, .slice A122_4 ((rd_T32 m5 0).f2.f2).length c122_4, .slice A122_5 ((rd_T32 m5 0).f3).length c122_5], .slice A1 l1.length c1] (by rfl) rfl rfl (by (try simp only [List.map_toArray, List.map_cons, List.map_nil]); first | done | rfl | (simp only [List.length_drop, List.length_take]; rfl)) ?_
              with_reducible refine (ih k (by omega) ((rd_T32 m5 0).f0) ((rd_T32 m5 0).f1) ((rd_T32 m5 0).f2.f0) _ _ ((rd_T32 m5 0).f2.f1) _ _ ((rd_T32 m5 0).f2.f2) _ _ ((rd_T32 m5 0).f3) _ _ l1 t123 _ ?side1 ?side2 ?side3 ?side4 ?side5 ?side6 ?side7 ?side8 A41.out).mono ?_
              (case side1 => repeat (first | exact (Kd.C_below HR122_3.out HB.out) | (with_reducible refine Kd.C_alloc ?_ _) | (with_reducible refine Kd.C_drewN ?_ _) | (with_reducible refine Kd.C_drew ?_)))
              (case side2 => exact HC122_3.out)
              (case side3 => repeat (first | exact (Kd.C_below HR122_4.out HB.out) | (with_reducible refine Kd.C_alloc ?_ _) | (with_reducible refine Kd.C_drewN ?_ _) | (with_reducible refine Kd.C_drew ?_)))
              (case side4 => exact HC122_4.out)
              (case side5 => repeat (first | exact (Kd.C_below HR122_5.out HB.out) | (with_reducible refine Kd.C_alloc ?_ _) | (with_reducible refine Kd.C_drewN ?_ _) | (with_reducible refine Kd.C_drew ?_)))
              (case side6 => exact HC122_5.out)
              (case side7 => repeat (first | exact (Kd.C_below HR1.out HB.out) | (with_reducible refine Kd.C_alloc ?_ _) | (with_reducible refine Kd.C_drewN ?_ _) | (with_reducible refine Kd.C_drew ?_)))
              (case side8 => exact HC1.out)
              rintro e w114 ⟨rfl, hb⟩
              refine ⟨_, rfl, ?_⟩
              replace BK109 := Aside0.mk (blk_below (g := gb109) (o := .cells #[.int .i64 v0, .int .i64 v1, .bool v2, .slice B3 m3.length k_3, .slice B4 m4.length k_4, .slice (some ad122) m5.length k_5] 32 (0, 0)) bk_ hb); replace HB := Aside0.mk (below_step bl_ hb); (try clear hb)
              (try clear hb2)
              (try clear hk)
              (try clear hi)
              refine hK.out _ _ ⟨(blk_cell BK109.out 0).trans rfl, (blk_cell BK109.out 1).trans rfl, (blk_cell BK109.out 2).trans rfl, (blk_cell BK109.out 3).trans rfl, (blk_cell BK109.out 4).trans rfl, (blk_cell BK109.out 5).trans rfl, ((HB.out.cell (wlt_ w _ hw122_0)).trans hw122_0), ((HB.out.cell (wlt_ w _ hw122_1)).trans hw122_1), ((HB.out.cell (wlt_ w _ hw122_2)).trans hw122_2), ((HB.out.cell (wlt_ w _ hw122_3)).trans hw122_3), ((HB.out.cell (wlt_ w _ hw122_4)).trans hw122_4), ((HB.out.cell (wlt_ w _ hw122_5)).trans hw122_5), ((HB.out.cell (wlt_ w _ hw124_0)).trans hw124_0), ((HB.out.cell (wlt_ w _ hw124_1)).trans hw124_1), ((HB.out.cell (wlt_ w _ hw124_2)).trans hw124_2), ((HB.out.cell (wlt_ w _ hw124_3)).trans hw124_3), ((HB.out.cell (wlt_ w _ hw124_4)).trans hw124_4), ((HB.out.cell (wlt_ w _ hw124_5)).trans hw124_5)⟩ (fun hHeld => ?_)
              clear hK K; refine norm_ (a' := ?_) ?_ ?_
              rotate_left
              ·show Act.put _ (some 58) _ = _
               simp only [Act.put, lsa_, List.set_cons_zero, List.set_cons_succ, i64_w, i32_w]; rfl
              refine one_ (i := 11) (N := some 64) #[true, true, true, true, true, true, true, true, true, true, true, true, false, false] rfl rfl (one_of HT_.out (by kernel_rfl)) (by decide) (fun K hK => ?_)
              refine goes_ Try.func25 (by kernel_rfl) rfl #[.agg #[.int .i64 ((rd_T32 m5 1).f0), .int .i64 ((rd_T32 m5 1).f1), .bool ((rd_T32 m5 1).f2.f0), .slice A124_3 ((rd_T32 m5 1).f2.f1).length c124_3, .slice A124_4 ((rd_T32 m5 1).f2.f2).length c124_4, .slice A124_5 ((rd_T32 m5 1).f3).length c124_5], .slice A1 l1.length c1] (by rfl) rfl rfl (by (try simp only [List.map_toArray, List.map_cons, List.map_nil]); first | done | rfl | (simp only [List.length_drop, List.length_take]; rfl)) ?_
              with_reducible refine (ih k (by omega) ((rd_T32 m5 1).f0) ((rd_T32 m5 1).f1) ((rd_T32 m5 1).f2.f0) _ _ ((rd_T32 m5 1).f2.f1) _ _ ((rd_T32 m5 1).f2.f2) _ _ ((rd_T32 m5 1).f3) _ _ l1 t125 _ ?side1 ?side2 ?side3 ?side4 ?side5 ?side6 ?side7 ?side8 A43.out).mono ?_
              (case side1 => repeat (first | exact (Kd.C_below HR124_3.out HB.out) | (with_reducible refine Kd.C_alloc ?_ _) | (with_reducible refine Kd.C_drewN ?_ _) | (with_reducible refine Kd.C_drew ?_)))
              (case side2 => exact HC124_3.out)
              (case side3 => repeat (first | exact (Kd.C_below HR124_4.out HB.out) | (with_reducible refine Kd.C_alloc ?_ _) | (with_reducible refine Kd.C_drewN ?_ _) | (with_reducible refine Kd.C_drew ?_)))
              (case side4 => exact HC124_4.out)
              (case side5 => repeat (first | exact (Kd.C_below HR124_5.out HB.out) | (with_reducible refine Kd.C_alloc ?_ _) | (with_reducible refine Kd.C_drewN ?_ _) | (with_reducible refine Kd.C_drew ?_)))
              (case side6 => exact HC124_5.out)
              (case side7 => repeat (first | exact (Kd.C_below HR1.out HB.out) | (with_reducible refine Kd.C_alloc ?_ _) | (with_reducible refine Kd.C_drewN ?_ _) | (with_reducible refine Kd.C_drew ?_)))
              (case side8 => exact HC1.out)
              rintro e w115 ⟨rfl, hb⟩
              refine ⟨_, rfl, ?_⟩
              replace BK109 := Aside0.mk (blk_below (g := gb109) (o := .cells #[.int .i64 v0, .int .i64 v1, .bool v2, .slice B3 m3.length k_3, .slice B4 m4.length k_4, .slice (some ad122) m5.length k_5] 32 (0, 0)) bk_ hb); replace HB := Aside0.mk (below_step bl_ hb); (try clear hb)
              (try clear hb2)
              (try clear hk)
              (try clear hi)
              refine hK.out _ _ ⟨(blk_cell BK109.out 0).trans rfl, (blk_cell BK109.out 1).trans rfl, (blk_cell BK109.out 2).trans rfl, (blk_cell BK109.out 3).trans rfl, (blk_cell BK109.out 4).trans rfl, (blk_cell BK109.out 5).trans rfl, ((HB.out.cell (wlt_ w _ hw122_0)).trans hw122_0), ((HB.out.cell (wlt_ w _ hw122_1)).trans hw122_1), ((HB.out.cell (wlt_ w _ hw122_2)).trans hw122_2), ((HB.out.cell (wlt_ w _ hw122_3)).trans hw122_3), ((HB.out.cell (wlt_ w _ hw122_4)).trans hw122_4), ((HB.out.cell (wlt_ w _ hw122_5)).trans hw122_5), ((HB.out.cell (wlt_ w _ hw124_0)).trans hw124_0), ((HB.out.cell (wlt_ w _ hw124_1)).trans hw124_1), ((HB.out.cell (wlt_ w _ hw124_2)).trans hw124_2), ((HB.out.cell (wlt_ w _ hw124_3)).trans hw124_3), ((HB.out.cell (wlt_ w _ hw124_4)).trans hw124_4), ((HB.out.cell (wlt_ w _ hw124_5)).trans hw124_5)⟩ (fun hHeld => ?_)
              clear hK K; refine norm_ (a' := ?_) ?_ ?_
              rotate_left
              ·show Act.put _ (some 64) _ = _
               simp only [Act.put, lsa_, List.set_cons_zero, List.set_cons_succ, i64_w, i32_w]; rfl
              refine pure_ (i := 12) (N := some 5) (v := ?_) (a' := ?_) #[true, true, true, true, true, true, true, true, true, true, true, true, true, false] rfl rfl (any_of HT_.out (by kernel_rfl)) (fun _ _ _ h => h) (Or.inl ⟨by rfl, ?_⟩) ?_ ?_
              rotate_left
              ·intro w'; go_simp; with_reducible rfl
              rotate_left
              ·simp only [Act.put, lsa_, List.set_cons_zero, List.set_cons_succ, i64_w, i32_w]; rfl
              refine pure_ (i := 13) (N := some 6) (v := ?_) (a' := ?_) #[true, true, true, true, true, true, true, true, true, true, true, true, true, true] rfl rfl (any_of HT_.out (by kernel_rfl)) (fun _ _ _ h => h) (Or.inl ⟨by rfl, ?_⟩) ?_ ?_
              rotate_left
              ·intro w'; go_simp; with_reducible rfl
              rotate_left
              ·simp only [Act.put, lsa_, List.set_cons_zero, List.set_cons_succ, i64_w, i32_w]; rfl
              refine done_ (done_of HT_.out (by kernel_rfl)) ?_
              obtain ⟨hcz116_0, hcz116_1, hcz116_2, hcz116_3, hcz116_4, hcz116_5, hfz116_0, hfz116_1, hfz116_2, hfz116_3, hfz116_4, hfz116_5⟩ := cf6_ BK109.out; try go_wp2_with (first | ((with_reducible refine gate_callee (f := 36) rfl ?_); refine goesL_ (some 114) rfl rfl Try.func36 (by kernel_rfl) rfl #[.int .i64 (wrap64 (t123 - t125))] rfl (by (try simp only [List.map_toArray, List.map_cons, List.map_nil]); first | done | rfl | (simp only [List.length_drop, List.length_take]; rfl)) ?_; (with_reducible refine (core_saturate.calls (wrap64 (t123 - t125)) t134 _ A110.out).mono ?_); rintro e w117 ⟨rfl, hb⟩; refine ⟨_, rfl, ?_⟩; replace BK109 := Aside0.mk (blk_below (g := gb109) (o := .cells #[.int .i64 v0, .int .i64 v1, .bool v2, .slice B3 m3.length k_3, .slice B4 m4.length k_4, .slice (some ad122) m5.length k_5] 32 (0, 0)) bk_ hb); replace HB := Aside0.mk (below_step bl_ hb); (try clear hb); (try clear hb2); (try clear hk); (try clear hi)))
              go_ret; exact ⟨re_, bl_⟩
             ·rw [if_neg c109] at H; have c109b0 : (v0 == 11) = false := beq_eq_false_iff_ne.mpr c109; have c109b1 : (v0 != 11) = true := bne_iff_ne.mpr c109; replace H := Option.bind_eq_some_iff.mp H; obtain ⟨t135, A1180, H⟩ := H; replace H : (some t135) = some r := H; have A118 := Aside0.mk A1180; clear A1180; obtain rfl := Option.some.inj H; go_enter Try.func25, Try.ntmps25; try go_wp2_with (first | ((with_reducible refine gate_dst (N := 2) rfl ?_); refine box_event ?hg (N := 2) ?hd (cs := #[.int .i64 v0, .int .i64 v1, .bool v2, .slice B3 m3.length k_3, .slice B4 m4.length k_4, .slice B5 m5.length k_5]) (t := 32) ?hr ?_; (case hd => rfl); (case hg => rfl); (case hr => first | (go_simp; done) | (go_simp; rfl)); intro gb109 hg w119 hbox hb; have BK109 := Aside0.mk (hbox); have GW109 : Aside0 (w.heap.size ≤ gb109) := gw_ hg (below_size bl_); have GE109 := GW109; replace HB := Aside0.mk (below_step bl_ hb); clear hb hbox hg; obtain ⟨hcz120_0, hcz120_1, hcz120_2, hcz120_3, hcz120_4, hcz120_5, hfz120_0, hfz120_1, hfz120_2, hfz120_3, hfz120_4, hfz120_5⟩ := cf6_ BK109.out))
              replace BK109 := Aside0.mk (blk_drew BK109.out); replace HB := Aside0.mk (below_drew1 HB.out); have p122 : 0 ≤ (0 : Int) := (by omega); have q122 : 0 < (m5.length : Int) := dt_; obtain ⟨ad122, A122_3, c122_3, A122_4, c122_4, A122_5, c122_5, e122, hx122_0, hx122_1, hx122_2, hx122_3, hx122_4, hx122_5, hl122_3, hi122_3, hl122_4, hi122_4, hl122_5, hi122_5⟩ := at_T32 X5.out 0 p122 q122; have hw122_5 := hx122_5; (try rw [show ((0 : Int)).toNat = 0 from rfl] at hw122_5)
              (try rw [show 0 * 6 = 0 from rfl] at hw122_5)
              (try rw [Addr.add_zero'] at hw122_5)
              have hw122_4 := hx122_4; (try rw [show ((0 : Int)).toNat = 0 from rfl] at hw122_4)
              (try rw [show 0 * 6 = 0 from rfl] at hw122_4)
              (try rw [Addr.add_zero'] at hw122_4)
              have hw122_3 := hx122_3; (try rw [show ((0 : Int)).toNat = 0 from rfl] at hw122_3)
              (try rw [show 0 * 6 = 0 from rfl] at hw122_3)
              (try rw [Addr.add_zero'] at hw122_3)
              have hw122_2 := hx122_2; (try rw [show ((0 : Int)).toNat = 0 from rfl] at hw122_2)
              (try rw [show 0 * 6 = 0 from rfl] at hw122_2)
              (try rw [Addr.add_zero'] at hw122_2)
              have hw122_1 := hx122_1; (try rw [show ((0 : Int)).toNat = 0 from rfl] at hw122_1)
              (try rw [show 0 * 6 = 0 from rfl] at hw122_1)
              (try rw [Addr.add_zero'] at hw122_1)
              have hw122_0 := hx122_0; (try rw [show ((0 : Int)).toNat = 0 from rfl] at hw122_0)
              (try rw [show 0 * 6 = 0 from rfl] at hw122_0)
              (try rw [Addr.add_zero'] at hw122_0)
              cases e122; have qi122 : (0 < m5.length) = True := eq_true (by omega); (try rw [show ((0 : Int)).toNat = 0 from rfl] at hx122_0)
              (try rw [show 0 * 6 = 0 from rfl] at hx122_0)
              (try rw [Addr.add_zero'] at hx122_0)
              (try rw [show ((0 : Int)).toNat = 0 from rfl] at hx122_1)
              (try rw [show 0 * 6 = 0 from rfl] at hx122_1)
              (try rw [Addr.add_zero'] at hx122_1)
              (try rw [show ((0 : Int)).toNat = 0 from rfl] at hx122_2)
              (try rw [show 0 * 6 = 0 from rfl] at hx122_2)
              (try rw [Addr.add_zero'] at hx122_2)
              (try rw [show ((0 : Int)).toNat = 0 from rfl] at hx122_3)
              (try rw [show 0 * 6 = 0 from rfl] at hx122_3)
              (try rw [Addr.add_zero'] at hx122_3)
              (try rw [show ((0 : Int)).toNat = 0 from rfl] at hx122_4)
              (try rw [show 0 * 6 = 0 from rfl] at hx122_4)
              (try rw [Addr.add_zero'] at hx122_4)
              (try rw [show ((0 : Int)).toNat = 0 from rfl] at hx122_5)
              (try rw [show 0 * 6 = 0 from rfl] at hx122_5)
              (try rw [Addr.add_zero'] at hx122_5)
              replace hx122_0 := (HB.out.cell (wlt_ w _ hx122_0)).trans hx122_0; replace hx122_1 := (HB.out.cell (wlt_ w _ hx122_1)).trans hx122_1; replace hx122_2 := (HB.out.cell (wlt_ w _ hx122_2)).trans hx122_2; replace hx122_3 := (HB.out.cell (wlt_ w _ hx122_3)).trans hx122_3; replace hx122_4 := (HB.out.cell (wlt_ w _ hx122_4)).trans hx122_4; replace hx122_5 := (HB.out.cell (wlt_ w _ hx122_5)).trans hx122_5; have HR122_3 := Aside0.mk hi122_3; have HC122_3 := Aside0.mk hl122_3; clear hi122_3 hl122_3; have HR122_4 := Aside0.mk hi122_4; have HC122_4 := Aside0.mk hl122_4; clear hi122_4 hl122_4; have HR122_5 := Aside0.mk hi122_5; have HC122_5 := Aside0.mk hl122_5; clear hi122_5 hl122_5; replace p122 := eq_true p122; replace q122 := eq_true q122; have p124 : 0 ≤ (1 : Int) := (by omega); have q124 : 1 < (m5.length : Int) := dt_; obtain ⟨ad124, A124_3, c124_3, A124_4, c124_4, A124_5, c124_5, e124, hx124_0, hx124_1, hx124_2, hx124_3, hx124_4, hx124_5, hl124_3, hi124_3, hl124_4, hi124_4, hl124_5, hi124_5⟩ := at_T32 X5.out 1 p124 q124; have hw124_5 := hx124_5; (try rw [show ((1 : Int)).toNat = 1 from rfl] at hw124_5)
              (try rw [show 1 * 6 = 6 from rfl] at hw124_5)
              (try simp only [Nat.reduceMul, Nat.reduceEqDiff, Go.Addr.add, ↓reduceIte] at hw124_5)
              have hw124_4 := hx124_4; (try rw [show ((1 : Int)).toNat = 1 from rfl] at hw124_4)
              (try rw [show 1 * 6 = 6 from rfl] at hw124_4)
              (try simp only [Nat.reduceMul, Nat.reduceEqDiff, Go.Addr.add, ↓reduceIte] at hw124_4)
              have hw124_3 := hx124_3; (try rw [show ((1 : Int)).toNat = 1 from rfl] at hw124_3)
              (try rw [show 1 * 6 = 6 from rfl] at hw124_3)
              (try simp only [Nat.reduceMul, Nat.reduceEqDiff, Go.Addr.add, ↓reduceIte] at hw124_3)
              have hw124_2 := hx124_2; (try rw [show ((1 : Int)).toNat = 1 from rfl] at hw124_2)
              (try rw [show 1 * 6 = 6 from rfl] at hw124_2)
              (try simp only [Nat.reduceMul, Nat.reduceEqDiff, Go.Addr.add, ↓reduceIte] at hw124_2)
              have hw124_1 := hx124_1; (try rw [show ((1 : Int)).toNat = 1 from rfl] at hw124_1)
              (try rw [show 1 * 6 = 6 from rfl] at hw124_1)
              (try simp only [Nat.reduceMul, Nat.reduceEqDiff, Go.Addr.add, ↓reduceIte] at hw124_1)
              have hw124_0 := hx124_0; (try rw [show ((1 : Int)).toNat = 1 from rfl] at hw124_0)
              (try rw [show 1 * 6 = 6 from rfl] at hw124_0)
              (try simp only [Nat.reduceMul, Nat.reduceEqDiff, Go.Addr.add, ↓reduceIte] at hw124_0)
              obtain rfl : ad122 = ad124 := (by injection e124); (try simp only [show (1 : Int).toNat = 1 from rfl, Nat.reduceMul, Nat.reduceEqDiff, Go.Addr.add, ↓reduceIte] at hx124_0)
              (try simp only [show (1 : Int).toNat = 1 from rfl, Nat.reduceMul, Nat.reduceEqDiff, Go.Addr.add, ↓reduceIte] at hx124_1)
              (try simp only [show (1 : Int).toNat = 1 from rfl, Nat.reduceMul, Nat.reduceEqDiff, Go.Addr.add, ↓reduceIte] at hx124_2)
              (try simp only [show (1 : Int).toNat = 1 from rfl, Nat.reduceMul, Nat.reduceEqDiff, Go.Addr.add, ↓reduceIte] at hx124_3)
              (try simp only [show (1 : Int).toNat = 1 from rfl, Nat.reduceMul, Nat.reduceEqDiff, Go.Addr.add, ↓reduceIte] at hx124_4)
              (try simp only [show (1 : Int).toNat = 1 from rfl, Nat.reduceMul, Nat.reduceEqDiff, Go.Addr.add, ↓reduceIte] at hx124_5)
              have qi124 : (1 < m5.length) = True := eq_true (by omega); (try rw [show ((1 : Int)).toNat = 1 from rfl] at hx124_0)
              (try rw [show 1 * 6 = 6 from rfl] at hx124_0)
              (try rw [show ((1 : Int)).toNat = 1 from rfl] at hx124_1)
              (try rw [show 1 * 6 = 6 from rfl] at hx124_1)
              (try rw [show ((1 : Int)).toNat = 1 from rfl] at hx124_2)
              (try rw [show 1 * 6 = 6 from rfl] at hx124_2)
              (try rw [show ((1 : Int)).toNat = 1 from rfl] at hx124_3)
              (try rw [show 1 * 6 = 6 from rfl] at hx124_3)
              (try rw [show ((1 : Int)).toNat = 1 from rfl] at hx124_4)
              (try rw [show 1 * 6 = 6 from rfl] at hx124_4)
              (try rw [show ((1 : Int)).toNat = 1 from rfl] at hx124_5)
              (try rw [show 1 * 6 = 6 from rfl] at hx124_5)
              replace hx124_0 := (HB.out.cell (wlt_ w _ hx124_0)).trans hx124_0; replace hx124_1 := (HB.out.cell (wlt_ w _ hx124_1)).trans hx124_1; replace hx124_2 := (HB.out.cell (wlt_ w _ hx124_2)).trans hx124_2; replace hx124_3 := (HB.out.cell (wlt_ w _ hx124_3)).trans hx124_3; replace hx124_4 := (HB.out.cell (wlt_ w _ hx124_4)).trans hx124_4; replace hx124_5 := (HB.out.cell (wlt_ w _ hx124_5)).trans hx124_5; have HR124_3 := Aside0.mk hi124_3; have HC124_3 := Aside0.mk hl124_3; clear hi124_3 hl124_3; have HR124_4 := Aside0.mk hi124_4; have HC124_4 := Aside0.mk hl124_4; clear hi124_4 hl124_4; have HR124_5 := Aside0.mk hi124_5; have HC124_5 := Aside0.mk hl124_5; clear hi124_5 hl124_5; replace p124 := eq_true p124; replace q124 := eq_true q124; refine start_ (n := 14) (S := fun w' => w'.cell? ⟨gb109, 0, none⟩ = some (.int .i64 v0) ∧ w'.cell? ⟨gb109, 1, none⟩ = some (.int .i64 v1) ∧ w'.cell? ⟨gb109, 2, none⟩ = some (.bool v2) ∧ w'.cell? ⟨gb109, 3, none⟩ = some (.slice B3 m3.length k_3) ∧ w'.cell? ⟨gb109, 4, none⟩ = some (.slice B4 m4.length k_4) ∧ w'.cell? ⟨gb109, 5, none⟩ = some (.slice (some ad122) m5.length k_5) ∧ w'.cell? ad122 = some (.int .i64 ((rd_T32 m5 0).f0)) ∧ w'.cell? ⟨ad122.block, ad122.off + 1, none⟩ = some (.int .i64 ((rd_T32 m5 0).f1)) ∧ w'.cell? ⟨ad122.block, ad122.off + 2, none⟩ = some (.bool ((rd_T32 m5 0).f2.f0)) ∧ w'.cell? ⟨ad122.block, ad122.off + 3, none⟩ = some (.slice A122_3 ((rd_T32 m5 0).f2.f1).length c122_3) ∧ w'.cell? ⟨ad122.block, ad122.off + 4, none⟩ = some (.slice A122_4 ((rd_T32 m5 0).f2.f2).length c122_4) ∧ w'.cell? ⟨ad122.block, ad122.off + 5, none⟩ = some (.slice A122_5 ((rd_T32 m5 0).f3).length c122_5) ∧ w'.cell? ⟨ad122.block, ad122.off + 6, none⟩ = some (.int .i64 ((rd_T32 m5 1).f0)) ∧ w'.cell? ⟨ad122.block, ad122.off + 6 + 1, none⟩ = some (.int .i64 ((rd_T32 m5 1).f1)) ∧ w'.cell? ⟨ad122.block, ad122.off + 6 + 2, none⟩ = some (.bool ((rd_T32 m5 1).f2.f0)) ∧ w'.cell? ⟨ad122.block, ad122.off + 6 + 3, none⟩ = some (.slice A124_3 ((rd_T32 m5 1).f2.f1).length c124_3) ∧ w'.cell? ⟨ad122.block, ad122.off + 6 + 4, none⟩ = some (.slice A124_4 ((rd_T32 m5 1).f2.f2).length c124_4) ∧ w'.cell? ⟨ad122.block, ad122.off + 6 + 5, none⟩ = some (.slice A124_5 ((rd_T32 m5 1).f3).length c124_5)) (ds := []) #[false, false, false, false, false, false, false, false, false, false, false, false, false, false] (by kernel_rfl) rfl rfl ⟨(blk_cell BK109.out 0).trans rfl, (blk_cell BK109.out 1).trans rfl, (blk_cell BK109.out 2).trans rfl, (blk_cell BK109.out 3).trans rfl, (blk_cell BK109.out 4).trans rfl, (blk_cell BK109.out 5).trans rfl, ((HB.out.cell (wlt_ w _ hw122_0)).trans hw122_0), ((HB.out.cell (wlt_ w _ hw122_1)).trans hw122_1), ((HB.out.cell (wlt_ w _ hw122_2)).trans hw122_2), ((HB.out.cell (wlt_ w _ hw122_3)).trans hw122_3), ((HB.out.cell (wlt_ w _ hw122_4)).trans hw122_4), ((HB.out.cell (wlt_ w _ hw122_5)).trans hw122_5), ((HB.out.cell (wlt_ w _ hw124_0)).trans hw124_0), ((HB.out.cell (wlt_ w _ hw124_1)).trans hw124_1), ((HB.out.cell (wlt_ w _ hw124_2)).trans hw124_2), ((HB.out.cell (wlt_ w _ hw124_3)).trans hw124_3), ((HB.out.cell (wlt_ w _ hw124_4)).trans hw124_4), ((HB.out.cell (wlt_ w _ hw124_5)).trans hw124_5)⟩ (fun hHeld => ?_); refine with_tabW core_eval.tab12 core_eval.bits12 (fun HT_ HW_ => ?_)
              generalize w119.drew = w121 at BK109 HB HR122_3 HR122_4 HR122_5 HR124_3 HR124_4 HR124_5 hx122_0 hx122_1 hx122_2 hx122_3 hx122_4 hx122_5 hx124_0 hx124_1 hx124_2 hx124_3 hx124_4 hx124_5 hHeld ⊢
              refine pure_ (i := 0) (N := some 53) (v := ?_) (a' := ?_) #[true, false, false, false, false, false, false, false, false, false, false, false, false, false] rfl rfl (any_of HT_.out (by kernel_rfl)) (fun _ _ _ h => h) (Or.inl ⟨by rfl, ?_⟩) ?_ ?_
              rotate_left
              ·intro w'; go_simp; with_reducible rfl
              rotate_left
              ·simp only [Act.put, lsa_, List.set_cons_zero, List.set_cons_succ, i64_w, i32_w]; rfl
              refine pure_ (i := 4) (N := some 57) (v := ?_) (a' := ?_) #[true, false, false, false, true, false, false, false, false, false, false, false, false, false] rfl rfl (any_of HT_.out (by kernel_rfl)) (fun _ _ _ h => h) (Or.inl ⟨by rfl, ?_⟩) ?_ ?_
              rotate_left
              ·intro w'; go_simp; with_reducible rfl
              rotate_left
              ·simp only [Act.put, lsa_, List.set_cons_zero, List.set_cons_succ, i64_w, i32_w]; rfl
              refine pure_ (i := 6) (N := some 59) (v := ?_) (a' := ?_) #[true, false, false, false, true, false, true, false, false, false, false, false, false, false] rfl rfl (any_of HT_.out (by kernel_rfl)) (fun _ _ _ h => h) (Or.inl ⟨by rfl, ?_⟩) ?_ ?_
              rotate_left
              ·intro w'; go_simp; with_reducible rfl
              rotate_left
              ·simp only [Act.put, lsa_, List.set_cons_zero, List.set_cons_succ, i64_w, i32_w]; rfl
              refine pure_ (i := 10) (N := some 63) (v := ?_) (a' := ?_) #[true, false, false, false, true, false, true, false, false, false, true, false, false, false] rfl rfl (any_of HT_.out (by kernel_rfl)) (fun _ _ _ h => h) (Or.inl ⟨by rfl, ?_⟩) ?_ ?_
              rotate_left
              ·intro w'; go_simp; with_reducible rfl
              rotate_left
              ·simp only [Act.put, lsa_, List.set_cons_zero, List.set_cons_succ, i64_w, i32_w]; rfl
              refine take_ (i := 1) (N := some 54) (v := ?_) (a' := ?_) #[true, true, false, false, true, false, true, false, false, false, true, false, false, false] rfl rfl (take_ofW HT_.out HW_.out (by kernel_rfl)) (fun _ _ _ h => h) (Or.inl ⟨by rfl, ?_⟩) hHeld ?_ ?_
              rotate_left
              ·rintro w' ⟨s0, s1, s2, s3, s4, s5, s6, s7, s8, s9, s10, s11, s12, s13, s14, s15, s16, s17⟩
               go_simp; with_reducible rfl
              rotate_left
              ·simp only [Act.put, lsa_, List.set_cons_zero, List.set_cons_succ, i64_w, i32_w]; rfl
              refine pure_ (i := 2) (N := some 55) (v := ?_) (a' := ?_) #[true, true, true, false, true, false, true, false, false, false, true, false, false, false] rfl rfl (any_of HT_.out (by kernel_rfl)) (fun _ _ _ h => h) (Or.inl ⟨by rfl, ?_⟩) ?_ ?_
              rotate_left
              ·intro w'; go_simp; with_reducible rfl
              rotate_left
              ·simp only [Act.put, lsa_, List.set_cons_zero, List.set_cons_succ, i64_w, i32_w]; rfl
              refine take_ (i := 3) (N := some 56) (v := ?_) (a' := ?_) #[true, true, true, true, true, false, true, false, false, false, true, false, false, false] rfl rfl (take_ofW HT_.out HW_.out (by kernel_rfl)) (fun _ _ _ h => h) (Or.inl ⟨by rfl, ?_⟩) hHeld ?_ ?_
              rotate_left
              ·rintro w' ⟨s0, s1, s2, s3, s4, s5, s6, s7, s8, s9, s10, s11, s12, s13, s14, s15, s16, s17⟩
               go_simp; with_reducible rfl
              rotate_left
              ·simp only [Act.put, lsa_, List.set_cons_zero, List.set_cons_succ, i64_w, i32_w]; rfl
              refine take_ (i := 7) (N := some 60) (v := ?_) (a' := ?_) #[true, true, true, true, true, false, true, true, false, false, true, false, false, false] rfl rfl (take_ofW HT_.out HW_.out (by kernel_rfl)) (fun _ _ _ h => h) (Or.inl ⟨by rfl, ?_⟩) hHeld ?_ ?_
              rotate_left
              ·rintro w' ⟨s0, s1, s2, s3, s4, s5, s6, s7, s8, s9, s10, s11, s12, s13, s14, s15, s16, s17⟩
               go_simp; with_reducible rfl
              rotate_left
              ·simp only [Act.put, lsa_, List.set_cons_zero, List.set_cons_succ, i64_w, i32_w]; rfl
              refine pure_ (i := 8) (N := some 61) (v := ?_) (a' := ?_) #[true, true, true, true, true, false, true, true, true, false, true, false, false, false] rfl rfl (any_of HT_.out (by kernel_rfl)) (fun _ _ _ h => h) (Or.inl ⟨by rfl, ?_⟩) ?_ ?_
              rotate_left
              ·intro w'; go_simp; with_reducible rfl
              rotate_left
              ·simp only [Act.put, lsa_, List.set_cons_zero, List.set_cons_succ, i64_w, i32_w]; rfl
              refine take_ (i := 9) (N := some 62) (v := ?_) (a' := ?_) #[true, true, true, true, true, false, true, true, true, true, true, false, false, false] rfl rfl (take_ofW HT_.out HW_.out (by kernel_rfl)) (fun _ _ _ h => h) (Or.inl ⟨by rfl, ?_⟩) hHeld ?_ ?_
              rotate_left
              ·rintro w' ⟨s0, s1, s2, s3, s4, s5, s6, s7, s8, s9, s10, s11, s12, s13, s14, s15, s16, s17⟩
               go_simp; with_reducible rfl
              rotate_left
              ·simp only [Act.put, lsa_, List.set_cons_zero, List.set_cons_succ, i64_w, i32_w]; rfl
              refine one_ (i := 5) (N := some 58) #[true, true, true, true, true, true, true, true, true, true, true, false, false, false] rfl rfl (one_of HT_.out (by kernel_rfl)) (by decide) (fun K hK => ?_)
              refine goes_ Try.func25 (by kernel_rfl) rfl #[.agg #[.int .i64 ((rd_T32 m5 0).f0), .int .i64 ((rd_T32 m5 0).f1), .bool ((rd_T32 m5 0).f2.f0), .slice A122_3 ((rd_T32 m5 0).f2.f1).length c122_3, .slice A122_4 ((rd_T32 m5 0).f2.f2).length c122_4, .slice A122_5 ((rd_T32 m5 0).f3).length c122_5], .slice A1 l1.length c1] (by rfl) rfl rfl (by (try simp only [List.map_toArray, List.map_cons, List.map_nil]); first | done | rfl | (simp only [List.length_drop, List.length_take]; rfl)) ?_
              with_reducible refine (ih k (by omega) ((rd_T32 m5 0).f0) ((rd_T32 m5 0).f1) ((rd_T32 m5 0).f2.f0) _ _ ((rd_T32 m5 0).f2.f1) _ _ ((rd_T32 m5 0).f2.f2) _ _ ((rd_T32 m5 0).f3) _ _ l1 t123 _ ?side1 ?side2 ?side3 ?side4 ?side5 ?side6 ?side7 ?side8 A41.out).mono ?_
              (case side1 => repeat (first | exact (Kd.C_below HR122_3.out HB.out) | (with_reducible refine Kd.C_alloc ?_ _) | (with_reducible refine Kd.C_drewN ?_ _) | (with_reducible refine Kd.C_drew ?_)))
              (case side2 => exact HC122_3.out)
              (case side3 => repeat (first | exact (Kd.C_below HR122_4.out HB.out) | (with_reducible refine Kd.C_alloc ?_ _) | (with_reducible refine Kd.C_drewN ?_ _) | (with_reducible refine Kd.C_drew ?_)))
              (case side4 => exact HC122_4.out)
              (case side5 => repeat (first | exact (Kd.C_below HR122_5.out HB.out) | (with_reducible refine Kd.C_alloc ?_ _) | (with_reducible refine Kd.C_drewN ?_ _) | (with_reducible refine Kd.C_drew ?_)))
              (case side6 => exact HC122_5.out)
              (case side7 => repeat (first | exact (Kd.C_below HR1.out HB.out) | (with_reducible refine Kd.C_alloc ?_ _) | (with_reducible refine Kd.C_drewN ?_ _) | (with_reducible refine Kd.C_drew ?_)))
              (case side8 => exact HC1.out)
              rintro e w122 ⟨rfl, hb⟩
              refine ⟨_, rfl, ?_⟩
              replace BK109 := Aside0.mk (blk_below (g := gb109) (o := .cells #[.int .i64 v0, .int .i64 v1, .bool v2, .slice B3 m3.length k_3, .slice B4 m4.length k_4, .slice (some ad122) m5.length k_5] 32 (0, 0)) bk_ hb); replace HB := Aside0.mk (below_step bl_ hb); (try clear hb)
              (try clear hb2)
              (try clear hk)
              (try clear hi)
              refine hK.out _ _ ⟨(blk_cell BK109.out 0).trans rfl, (blk_cell BK109.out 1).trans rfl, (blk_cell BK109.out 2).trans rfl, (blk_cell BK109.out 3).trans rfl, (blk_cell BK109.out 4).trans rfl, (blk_cell BK109.out 5).trans rfl, ((HB.out.cell (wlt_ w _ hw122_0)).trans hw122_0), ((HB.out.cell (wlt_ w _ hw122_1)).trans hw122_1), ((HB.out.cell (wlt_ w _ hw122_2)).trans hw122_2), ((HB.out.cell (wlt_ w _ hw122_3)).trans hw122_3), ((HB.out.cell (wlt_ w _ hw122_4)).trans hw122_4), ((HB.out.cell (wlt_ w _ hw122_5)).trans hw122_5), ((HB.out.cell (wlt_ w _ hw124_0)).trans hw124_0), ((HB.out.cell (wlt_ w _ hw124_1)).trans hw124_1), ((HB.out.cell (wlt_ w _ hw124_2)).trans hw124_2), ((HB.out.cell (wlt_ w _ hw124_3)).trans hw124_3), ((HB.out.cell (wlt_ w _ hw124_4)).trans hw124_4), ((HB.out.cell (wlt_ w _ hw124_5)).trans hw124_5)⟩ (fun hHeld => ?_)
              clear hK K; refine norm_ (a' := ?_) ?_ ?_
              rotate_left
              ·show Act.put _ (some 58) _ = _
               simp only [Act.put, lsa_, List.set_cons_zero, List.set_cons_succ, i64_w, i32_w]; rfl
              refine one_ (i := 11) (N := some 64) #[true, true, true, true, true, true, true, true, true, true, true, true, false, false] rfl rfl (one_of HT_.out (by kernel_rfl)) (by decide) (fun K hK => ?_)
              refine goes_ Try.func25 (by kernel_rfl) rfl #[.agg #[.int .i64 ((rd_T32 m5 1).f0), .int .i64 ((rd_T32 m5 1).f1), .bool ((rd_T32 m5 1).f2.f0), .slice A124_3 ((rd_T32 m5 1).f2.f1).length c124_3, .slice A124_4 ((rd_T32 m5 1).f2.f2).length c124_4, .slice A124_5 ((rd_T32 m5 1).f3).length c124_5], .slice A1 l1.length c1] (by rfl) rfl rfl (by (try simp only [List.map_toArray, List.map_cons, List.map_nil]); first | done | rfl | (simp only [List.length_drop, List.length_take]; rfl)) ?_
              with_reducible refine (ih k (by omega) ((rd_T32 m5 1).f0) ((rd_T32 m5 1).f1) ((rd_T32 m5 1).f2.f0) _ _ ((rd_T32 m5 1).f2.f1) _ _ ((rd_T32 m5 1).f2.f2) _ _ ((rd_T32 m5 1).f3) _ _ l1 t125 _ ?side1 ?side2 ?side3 ?side4 ?side5 ?side6 ?side7 ?side8 A43.out).mono ?_
              (case side1 => repeat (first | exact (Kd.C_below HR124_3.out HB.out) | (with_reducible refine Kd.C_alloc ?_ _) | (with_reducible refine Kd.C_drewN ?_ _) | (with_reducible refine Kd.C_drew ?_)))
              (case side2 => exact HC124_3.out)
              (case side3 => repeat (first | exact (Kd.C_below HR124_4.out HB.out) | (with_reducible refine Kd.C_alloc ?_ _) | (with_reducible refine Kd.C_drewN ?_ _) | (with_reducible refine Kd.C_drew ?_)))
              (case side4 => exact HC124_4.out)
              (case side5 => repeat (first | exact (Kd.C_below HR124_5.out HB.out) | (with_reducible refine Kd.C_alloc ?_ _) | (with_reducible refine Kd.C_drewN ?_ _) | (with_reducible refine Kd.C_drew ?_)))
              (case side6 => exact HC124_5.out)
              (case side7 => repeat (first | exact (Kd.C_below HR1.out HB.out) | (with_reducible refine Kd.C_alloc ?_ _) | (with_reducible refine Kd.C_drewN ?_ _) | (with_reducible refine Kd.C_drew ?_)))
              (case side8 => exact HC1.out)
              rintro e w123 ⟨rfl, hb⟩
              refine ⟨_, rfl, ?_⟩
              replace BK109 := Aside0.mk (blk_below (g := gb109) (o := .cells #[.int .i64 v0, .int .i64 v1, .bool v2, .slice B3 m3.length k_3, .slice B4 m4.length k_4, .slice (some ad122) m5.length k_5] 32 (0, 0)) bk_ hb); replace HB := Aside0.mk (below_step bl_ hb); (try clear hb)
              (try clear hb2)
              (try clear hk)
              (try clear hi)
              refine hK.out _ _ ⟨(blk_cell BK109.out 0).trans rfl, (blk_cell BK109.out 1).trans rfl, (blk_cell BK109.out 2).trans rfl, (blk_cell BK109.out 3).trans rfl, (blk_cell BK109.out 4).trans rfl, (blk_cell BK109.out 5).trans rfl, ((HB.out.cell (wlt_ w _ hw122_0)).trans hw122_0), ((HB.out.cell (wlt_ w _ hw122_1)).trans hw122_1), ((HB.out.cell (wlt_ w _ hw122_2)).trans hw122_2), ((HB.out.cell (wlt_ w _ hw122_3)).trans hw122_3), ((HB.out.cell (wlt_ w _ hw122_4)).trans hw122_4), ((HB.out.cell (wlt_ w _ hw122_5)).trans hw122_5), ((HB.out.cell (wlt_ w _ hw124_0)).trans hw124_0), ((HB.out.cell (wlt_ w _ hw124_1)).trans hw124_1), ((HB.out.cell (wlt_ w _ hw124_2)).trans hw124_2), ((HB.out.cell (wlt_ w _ hw124_3)).trans hw124_3), ((HB.out.cell (wlt_ w _ hw124_4)).trans hw124_4), ((HB.out.cell (wlt_ w _ hw124_5)).trans hw124_5)⟩ (fun hHeld => ?_)
              clear hK K; refine norm_ (a' := ?_) ?_ ?_
              rotate_left
              ·show Act.put _ (some 64) _ = _
               simp only [Act.put, lsa_, List.set_cons_zero, List.set_cons_succ, i64_w, i32_w]; rfl
              refine pure_ (i := 12) (N := some 5) (v := ?_) (a' := ?_) #[true, true, true, true, true, true, true, true, true, true, true, true, true, false] rfl rfl (any_of HT_.out (by kernel_rfl)) (fun _ _ _ h => h) (Or.inl ⟨by rfl, ?_⟩) ?_ ?_
              rotate_left
              ·intro w'; go_simp; with_reducible rfl
              rotate_left
              ·simp only [Act.put, lsa_, List.set_cons_zero, List.set_cons_succ, i64_w, i32_w]; rfl
              refine pure_ (i := 13) (N := some 6) (v := ?_) (a' := ?_) #[true, true, true, true, true, true, true, true, true, true, true, true, true, true] rfl rfl (any_of HT_.out (by kernel_rfl)) (fun _ _ _ h => h) (Or.inl ⟨by rfl, ?_⟩) ?_ ?_
              rotate_left
              ·intro w'; go_simp; with_reducible rfl
              rotate_left
              ·simp only [Act.put, lsa_, List.set_cons_zero, List.set_cons_succ, i64_w, i32_w]; rfl
              refine done_ (done_of HT_.out (by kernel_rfl)) ?_
              obtain ⟨hcz124_0, hcz124_1, hcz124_2, hcz124_3, hcz124_4, hcz124_5, hfz124_0, hfz124_1, hfz124_2, hfz124_3, hfz124_4, hfz124_5⟩ := cf6_ BK109.out; try go_wp2_with (first | ((with_reducible refine gate_callee (f := 36) rfl ?_); refine goesL_ (some 118) rfl rfl Try.func36 (by kernel_rfl) rfl #[.int .i64 (wrap64 (t123 * t125))] rfl (by (try simp only [List.map_toArray, List.map_cons, List.map_nil]); first | done | rfl | (simp only [List.length_drop, List.length_take]; rfl)) ?_; (with_reducible refine (core_saturate.calls (wrap64 (t123 * t125)) t135 _ A118.out).mono ?_); rintro e w125 ⟨rfl, hb⟩; refine ⟨_, rfl, ?_⟩; replace BK109 := Aside0.mk (blk_below (g := gb109) (o := .cells #[.int .i64 v0, .int .i64 v1, .bool v2, .slice B3 m3.length k_3, .slice B4 m4.length k_4, .slice (some ad122) m5.length k_5] 32 (0, 0)) bk_ hb); replace HB := Aside0.mk (below_step bl_ hb); (try clear hb); (try clear hb2); (try clear hk); (try clear hi)))
              go_ret; exact ⟨re_, bl_⟩
      ·rw [if_neg c42] at H; exact absurd H (by simp)
     ·rw [if_neg c40] at H; exact absurd H (by simp)

end Go.Proofs.Ytdijehgibejflaa.K
