-- By a program of this session
import Derived.Test.YtdijehgibejflaaC0
namespace Go.Proofs.Ytdijehgibejflaa.K
open Go.RowKit Go.Proofs.YtdijehgibejflaaW.PrintWords Go.Proofs.YtdijehgibejflaaW.PrintLast Go.Proofs.YtdijehgibejflaaW.PrintMore
attribute [local go_sem] max2_int min2_int max_two min_two max_three min_three max_four min_four   -- for this text's walks alone
set_option linter.unusedVariables false
set_option linter.unusedSimpArgs false

/-! ### core_truth: function 20 -/
def core_truth.f (a0 : Bool) : Option (Int) := if a0 = true then (some 1) else (some 0)
set_option maxHeartbeats 8000000 in
set_option maxRecDepth 100000 in
theorem core_truth.calls (a0 : Bool) (r : Int) (w : World) (h : core_truth.f a0 = some r) :
  Calls Try.prog 20 #[.bool a0] w fun e w' => e = .returned (.int .i64 r) ∧ Drawn0 w w' := by
 have H : (if a0 = true then (some 1) else (some 0)) = some r := h
 clear h
 by_cases c2 : a0 = true
 ·subst c2
  have H1 : (some 1) = some r := by rw [if_pos rfl] at H; exact H
  clear H
  have H := H1
  clear H1
  obtain rfl := Option.some.inj H
  go_enter Try.func20, Try.ntmps20
  go_wp2
  go_ret
  exact ⟨by first | rfl | (simp; done) | (simp [*]; done), by repeat (first | exact Drawn0.refl _ | apply Drawn0.step)⟩
 ·replace c2 := Bool.eq_false_iff.mpr c2
  subst c2
  have H1 : (some 0) = some r := by rw [if_neg (show ¬ (false = true) by decide)] at H; exact H
  clear H
  have H := H1
  clear H1
  obtain rfl := Option.some.inj H
  go_enter Try.func20, Try.ntmps20
  go_wp2
  go_ret
  exact ⟨by first | rfl | (simp; done) | (simp [*]; done), by repeat (first | exact Drawn0.refl _ | apply Drawn0.step)⟩

/-! ### core_Clamp: function 6 -/
def core_Clamp.f (a0_0 : Int) (a0_1 : Int) (a0_2 : Int) (a1 : Int) : Option (Int) := if a0_0 = 1 then ((core_truth.f (a1 != 0)).bind fun t102 => (some t102)) else (if a0_0 = 2 then (some (mx a0_1 (mn a1 a0_2))) else (if a0_0 = 3 then (some (mx a1 0)) else (some a1)))
set_option maxHeartbeats 8000000 in
set_option maxRecDepth 100000 in
theorem core_Clamp.calls (a0_0 : Int) (a0_1 : Int) (a0_2 : Int) (a1 : Int) (r : Int) (w : World) (h : core_Clamp.f a0_0 a0_1 a0_2 a1 = some r) :
  Calls Try.prog 6 #[.agg #[.int .i64 a0_0, .int .i64 a0_1, .int .i64 a0_2], .int .i64 a1] w fun e w' => e = .returned (.int .i64 r) ∧ Below w.heap.size w w' := by
 have hu23 := Try.underlying23
 have HB := Aside0.mk (Below.refl w.heap.size w)
 have H : (if a0_0 = 1 then ((core_truth.f (a1 != 0)).bind fun t102 => (some t102)) else (if a0_0 = 2 then (some (mx a0_1 (mn a1 a0_2))) else (if a0_0 = 3 then (some (mx a1 0)) else (some a1)))) = some r := h
 clear h
 by_cases c3 : a0_0 = 1
 ·rw [if_pos c3] at H
  have c3b0 : (a0_0 == 1) = true := beq_iff_eq.mpr c3
  have c3b1 : (a0_0 != 1) = false := bne_eq_false_iff_eq.mpr c3
  clear c3
  replace H := Option.bind_eq_some_iff.mp H
  obtain ⟨t102, A40, H⟩ := H
  replace H : (some t102) = some r := H
  have A4 := Aside0.mk A40
  clear A40
  obtain rfl := Option.some.inj H
  go_enter Try.func6, Try.ntmps6
  go_wp2_with (first | ((with_reducible refine gate_dst (N := 2) rfl ?_); refine box_event ?hg (N := 2) ?hd (cs := #[.int .i64 a0_0, .int .i64 a0_1, .int .i64 a0_2]) (t := 23) ?hr ?_; (case hd => rfl); (case hg => rfl); (case hr => first | (go_simp; done) | (go_simp; rfl)); intro gb101 hg w5 hbox hb; have BK101 := Aside0.mk (hbox); have GW101 : Aside0 (w.heap.size ≤ gb101) := gw_ hg (below_size bl_); have GE101 := GW101; replace HB := Aside0.mk (below_step bl_ hb); clear hb hbox hg; obtain ⟨hcz6_0, hcz6_1, hcz6_2, hfz6_0, hfz6_1, hfz6_2⟩ := cf3_ BK101.out) | ((with_reducible refine gate_callee (f := 20) rfl ?_); refine goesL_ (some 11) rfl rfl Try.func20 (by kernel_rfl) rfl #[.bool (a1 != 0)] rfl (by (try simp only [List.map_toArray, List.map_cons, List.map_nil]); first | done | rfl | (simp only [List.length_drop, List.length_take]; rfl)) ?_; (with_reducible refine (core_truth.calls (a1 != 0) t102 _ A4.out).mono ?_); rintro e w' ⟨rfl, ⟨nd, rfl⟩⟩; refine ⟨_, rfl, ?_⟩))
  go_ret
  exact ⟨re_, bl_⟩
 ·rw [if_neg c3] at H
  have c3b0 : (a0_0 == 1) = false := beq_eq_false_iff_ne.mpr c3
  have c3b1 : (a0_0 != 1) = true := bne_iff_ne.mpr c3
  by_cases c7 : a0_0 = 2
  ·rw [if_pos c7] at H
   have c7b0 : (a0_0 == 2) = true := beq_iff_eq.mpr c7
   have c7b1 : (a0_0 != 2) = false := bne_eq_false_iff_eq.mpr c7
   clear c7
   obtain ⟨ji8, hji8⟩ : ∃ j_ : Int, (mn a1 a0_2) = j_ := ⟨_, rfl⟩
   replace H : (some (mx a0_1 (ji8))) = some r := by first | (rw [hji8] at H; exact H) | (simp only [hji8] at H ⊢; exact H)
   have hji8_ : (if a0_2 < a1 then a0_2 else a1) = ji8 := hji8
   obtain ⟨ji9, hji9⟩ : ∃ j_ : Int, (mx a0_1 (ji8)) = j_ := ⟨_, rfl⟩
   replace H : (some ji9) = some r := by first | (rw [hji9] at H; exact H) | (simp only [hji9] at H ⊢; exact H)
   have hji9_ : (if a0_1 < (ji8) then (ji8) else a0_1) = ji9 := hji9
   obtain rfl := Option.some.inj H
   go_enter Try.func6, Try.ntmps6
   go_wp2_with (first | ((with_reducible refine gate_dst (N := 2) rfl ?_); refine box_event ?hg (N := 2) ?hd (cs := #[.int .i64 a0_0, .int .i64 a0_1, .int .i64 a0_2]) (t := 23) ?hr ?_; (case hd => rfl); (case hg => rfl); (case hr => first | (go_simp; done) | (go_simp; rfl)); intro gb101 hg w10 hbox hb; have BK101 := Aside0.mk (hbox); have GW101 : Aside0 (w.heap.size ≤ gb101) := gw_ hg (below_size bl_); have GE101 := GW101; replace HB := Aside0.mk (below_step bl_ hb); clear hb hbox hg; obtain ⟨hcz11_0, hcz11_1, hcz11_2, hfz11_0, hfz11_1, hfz11_2⟩ := cf3_ BK101.out))
   go_ret
   exact ⟨by first | rfl | (simp [errW_none, errW_some] <;> rfl) | (simp only [← hji8, ← hji9]; first | rfl | (simp [errW_none, errW_some] <;> rfl)) | (simp [*, errW_none, errW_some] <;> rfl), bl_⟩
  ·rw [if_neg c7] at H
   have c7b0 : (a0_0 == 2) = false := beq_eq_false_iff_ne.mpr c7
   have c7b1 : (a0_0 != 2) = true := bne_iff_ne.mpr c7
   by_cases c12 : a0_0 = 3
   ·rw [if_pos c12] at H
    have c12b0 : (a0_0 == 3) = true := beq_iff_eq.mpr c12
    have c12b1 : (a0_0 != 3) = false := bne_eq_false_iff_eq.mpr c12
    clear c12
    obtain ⟨ji13, hji13⟩ : ∃ j_ : Int, (mx a1 0) = j_ := ⟨_, rfl⟩
    replace H : (some ji13) = some r := by first | (rw [hji13] at H; exact H) | (simp only [hji13] at H ⊢; exact H)
    (try (have hji13l : 0 ≤ ji13 := by (rw [← hji13]; unfold mx; (repeat' split) <;> omega)))
    (try (have hji13m : 0 ≤ ji13 := by omega))
    have hji13_ : (if a1 < 0 then 0 else a1) = ji13 := hji13
    obtain rfl := Option.some.inj H
    go_enter Try.func6, Try.ntmps6
    go_wp2_with (first | ((with_reducible refine gate_dst (N := 2) rfl ?_); refine box_event ?hg (N := 2) ?hd (cs := #[.int .i64 a0_0, .int .i64 a0_1, .int .i64 a0_2]) (t := 23) ?hr ?_; (case hd => rfl); (case hg => rfl); (case hr => first | (go_simp; done) | (go_simp; rfl)); intro gb101 hg w14 hbox hb; have BK101 := Aside0.mk (hbox); have GW101 : Aside0 (w.heap.size ≤ gb101) := gw_ hg (below_size bl_); have GE101 := GW101; replace HB := Aside0.mk (below_step bl_ hb); clear hb hbox hg; obtain ⟨hcz15_0, hcz15_1, hcz15_2, hfz15_0, hfz15_1, hfz15_2⟩ := cf3_ BK101.out))
    all_goals go_ret
    all_goals exact ⟨by first | rfl | (simp [errW_none, errW_some] <;> rfl) | (simp only [← hji13]; first | rfl | (simp [errW_none, errW_some] <;> rfl)) | (simp; rw [← hji13]; (first | unfold mn | unfold mx); split <;> omega) | (simp; (first | unfold mn at hji13 | unfold mx at hji13); split at hji13 <;> omega) | (simp [*, errW_none, errW_some] <;> rfl), bl_⟩
   ·rw [if_neg c12] at H
    have c12b0 : (a0_0 == 3) = false := beq_eq_false_iff_ne.mpr c12
    have c12b1 : (a0_0 != 3) = true := bne_iff_ne.mpr c12
    obtain rfl := Option.some.inj H
    go_enter Try.func6, Try.ntmps6
    go_wp2_with (first | ((with_reducible refine gate_dst (N := 2) rfl ?_); refine box_event ?hg (N := 2) ?hd (cs := #[.int .i64 a0_0, .int .i64 a0_1, .int .i64 a0_2]) (t := 23) ?hr ?_; (case hd => rfl); (case hg => rfl); (case hr => first | (go_simp; done) | (go_simp; rfl)); intro gb101 hg w16 hbox hb; have BK101 := Aside0.mk (hbox); have GW101 : Aside0 (w.heap.size ≤ gb101) := gw_ hg (below_size bl_); have GE101 := GW101; replace HB := Aside0.mk (below_step bl_ hb); clear hb hbox hg; obtain ⟨hcz17_0, hcz17_1, hcz17_2, hfz17_0, hfz17_1, hfz17_2⟩ := cf3_ BK101.out))
    go_ret
    exact ⟨re_, bl_⟩

/-! ### exactpplref13_Clamp: function 7 -/
def exactpplref13_Clamp.f (a0_0 : Int) (a0_1 : Int) (a0_2 : Int) (a1 : Int) : Option (Int) := if a0_0 = 1 then (if a1 = 0 then (some 0) else (some 1)) else (if a0_0 = 2 then (some (mx a0_1 (mn a0_2 a1))) else (if a0_0 = 3 then (some (mx a1 0)) else (some a1)))
set_option maxHeartbeats 8000000 in
set_option maxRecDepth 100000 in
theorem exactpplref13_Clamp.calls (a0_0 : Int) (a0_1 : Int) (a0_2 : Int) (a1 : Int) (r : Int) (w : World) (h : exactpplref13_Clamp.f a0_0 a0_1 a0_2 a1 = some r) :
  Calls Try.prog 7 #[.agg #[.int .i64 a0_0, .int .i64 a0_1, .int .i64 a0_2], .int .i64 a1] w fun e w' => e = .returned (.int .i64 r) ∧ Below w.heap.size w w' := by
 have hu23 := Try.underlying23
 have HB := Aside0.mk (Below.refl w.heap.size w)
 have H : (if a0_0 = 1 then (if a1 = 0 then (some 0) else (some 1)) else (if a0_0 = 2 then (some (mx a0_1 (mn a0_2 a1))) else (if a0_0 = 3 then (some (mx a1 0)) else (some a1)))) = some r := h
 clear h
 by_cases c3 : a0_0 = 1
 ·rw [if_pos c3] at H
  have c3b0 : (a0_0 == 1) = true := beq_iff_eq.mpr c3
  have c3b1 : (a0_0 != 1) = false := bne_eq_false_iff_eq.mpr c3
  clear c3
  by_cases c4 : a1 = 0
  ·rw [if_pos c4] at H
   have c4b0 : (a1 == 0) = true := beq_iff_eq.mpr c4
   have c4b1 : (a1 != 0) = false := bne_eq_false_iff_eq.mpr c4
   clear c4
   obtain rfl := Option.some.inj H
   go_enter Try.func7, Try.ntmps7
   go_wp2_with (first | ((with_reducible refine gate_dst (N := 2) rfl ?_); refine box_event ?hg (N := 2) ?hd (cs := #[.int .i64 a0_0, .int .i64 a0_1, .int .i64 a0_2]) (t := 23) ?hr ?_; (case hd => rfl); (case hg => rfl); (case hr => first | (go_simp; done) | (go_simp; rfl)); intro gb103 hg w5 hbox hb; have BK103 := Aside0.mk (hbox); have GW103 : Aside0 (w.heap.size ≤ gb103) := gw_ hg (below_size bl_); have GE103 := GW103; replace HB := Aside0.mk (below_step bl_ hb); clear hb hbox hg; obtain ⟨hcz6_0, hcz6_1, hcz6_2, hfz6_0, hfz6_1, hfz6_2⟩ := cf3_ BK103.out))
   go_ret
   exact ⟨re_, bl_⟩
  ·rw [if_neg c4] at H
   have c4b0 : (a1 == 0) = false := beq_eq_false_iff_ne.mpr c4
   have c4b1 : (a1 != 0) = true := bne_iff_ne.mpr c4
   obtain rfl := Option.some.inj H
   go_enter Try.func7, Try.ntmps7
   go_wp2_with (first | ((with_reducible refine gate_dst (N := 2) rfl ?_); refine box_event ?hg (N := 2) ?hd (cs := #[.int .i64 a0_0, .int .i64 a0_1, .int .i64 a0_2]) (t := 23) ?hr ?_; (case hd => rfl); (case hg => rfl); (case hr => first | (go_simp; done) | (go_simp; rfl)); intro gb103 hg w7 hbox hb; have BK103 := Aside0.mk (hbox); have GW103 : Aside0 (w.heap.size ≤ gb103) := gw_ hg (below_size bl_); have GE103 := GW103; replace HB := Aside0.mk (below_step bl_ hb); clear hb hbox hg; obtain ⟨hcz8_0, hcz8_1, hcz8_2, hfz8_0, hfz8_1, hfz8_2⟩ := cf3_ BK103.out))
   go_ret
   exact ⟨re_, bl_⟩
 ·rw [if_neg c3] at H
  have c3b0 : (a0_0 == 1) = false := beq_eq_false_iff_ne.mpr c3
  have c3b1 : (a0_0 != 1) = true := bne_iff_ne.mpr c3
  by_cases c9 : a0_0 = 2
  ·rw [if_pos c9] at H
   have c9b0 : (a0_0 == 2) = true := beq_iff_eq.mpr c9
   have c9b1 : (a0_0 != 2) = false := bne_eq_false_iff_eq.mpr c9
   clear c9
   obtain ⟨ji10, hji10⟩ : ∃ j_ : Int, (mn a0_2 a1) = j_ := ⟨_, rfl⟩
   replace H : (some (mx a0_1 (ji10))) = some r := by first | (rw [hji10] at H; exact H) | (simp only [hji10] at H ⊢; exact H)
   have hji10_ : (if a1 < a0_2 then a1 else a0_2) = ji10 := hji10
   obtain ⟨ji11, hji11⟩ : ∃ j_ : Int, (mx a0_1 (ji10)) = j_ := ⟨_, rfl⟩
   replace H : (some ji11) = some r := by first | (rw [hji11] at H; exact H) | (simp only [hji11] at H ⊢; exact H)
   have hji11_ : (if a0_1 < (ji10) then (ji10) else a0_1) = ji11 := hji11
   obtain rfl := Option.some.inj H
   go_enter Try.func7, Try.ntmps7
   go_wp2_with (first | ((with_reducible refine gate_dst (N := 2) rfl ?_); refine box_event ?hg (N := 2) ?hd (cs := #[.int .i64 a0_0, .int .i64 a0_1, .int .i64 a0_2]) (t := 23) ?hr ?_; (case hd => rfl); (case hg => rfl); (case hr => first | (go_simp; done) | (go_simp; rfl)); intro gb103 hg w12 hbox hb; have BK103 := Aside0.mk (hbox); have GW103 : Aside0 (w.heap.size ≤ gb103) := gw_ hg (below_size bl_); have GE103 := GW103; replace HB := Aside0.mk (below_step bl_ hb); clear hb hbox hg; obtain ⟨hcz13_0, hcz13_1, hcz13_2, hfz13_0, hfz13_1, hfz13_2⟩ := cf3_ BK103.out))
   go_ret
   exact ⟨by first | rfl | (simp [errW_none, errW_some] <;> rfl) | (simp only [← hji10, ← hji11]; first | rfl | (simp [errW_none, errW_some] <;> rfl)) | (simp [*, errW_none, errW_some] <;> rfl), bl_⟩
  ·rw [if_neg c9] at H
   have c9b0 : (a0_0 == 2) = false := beq_eq_false_iff_ne.mpr c9
   have c9b1 : (a0_0 != 2) = true := bne_iff_ne.mpr c9
   by_cases c14 : a0_0 = 3
   ·rw [if_pos c14] at H
    have c14b0 : (a0_0 == 3) = true := beq_iff_eq.mpr c14
    have c14b1 : (a0_0 != 3) = false := bne_eq_false_iff_eq.mpr c14
    clear c14
    obtain ⟨ji15, hji15⟩ : ∃ j_ : Int, (mx a1 0) = j_ := ⟨_, rfl⟩
    replace H : (some ji15) = some r := by first | (rw [hji15] at H; exact H) | (simp only [hji15] at H ⊢; exact H)
    (try (have hji15l : 0 ≤ ji15 := by (rw [← hji15]; unfold mx; (repeat' split) <;> omega)))
    (try (have hji15m : 0 ≤ ji15 := by omega))
    have hji15_ : (if a1 < 0 then 0 else a1) = ji15 := hji15
    obtain rfl := Option.some.inj H
    go_enter Try.func7, Try.ntmps7
    go_wp2_with (first | ((with_reducible refine gate_dst (N := 2) rfl ?_); refine box_event ?hg (N := 2) ?hd (cs := #[.int .i64 a0_0, .int .i64 a0_1, .int .i64 a0_2]) (t := 23) ?hr ?_; (case hd => rfl); (case hg => rfl); (case hr => first | (go_simp; done) | (go_simp; rfl)); intro gb103 hg w16 hbox hb; have BK103 := Aside0.mk (hbox); have GW103 : Aside0 (w.heap.size ≤ gb103) := gw_ hg (below_size bl_); have GE103 := GW103; replace HB := Aside0.mk (below_step bl_ hb); clear hb hbox hg; obtain ⟨hcz17_0, hcz17_1, hcz17_2, hfz17_0, hfz17_1, hfz17_2⟩ := cf3_ BK103.out))
    all_goals go_ret
    all_goals exact ⟨by first | rfl | (simp [errW_none, errW_some] <;> rfl) | (simp only [← hji15]; first | rfl | (simp [errW_none, errW_some] <;> rfl)) | (simp; rw [← hji15]; (first | unfold mn | unfold mx); split <;> omega) | (simp; (first | unfold mn at hji15 | unfold mx at hji15); split at hji15 <;> omega) | (simp [*, errW_none, errW_some] <;> rfl), bl_⟩
   ·rw [if_neg c14] at H
    have c14b0 : (a0_0 == 3) = false := beq_eq_false_iff_ne.mpr c14
    have c14b1 : (a0_0 != 3) = true := bne_iff_ne.mpr c14
    obtain rfl := Option.some.inj H
    go_enter Try.func7, Try.ntmps7
    go_wp2_with (first | ((with_reducible refine gate_dst (N := 2) rfl ?_); refine box_event ?hg (N := 2) ?hd (cs := #[.int .i64 a0_0, .int .i64 a0_1, .int .i64 a0_2]) (t := 23) ?hr ?_; (case hd => rfl); (case hg => rfl); (case hr => first | (go_simp; done) | (go_simp; rfl)); intro gb103 hg w18 hbox hb; have BK103 := Aside0.mk (hbox); have GW103 : Aside0 (w.heap.size ≤ gb103) := gw_ hg (below_size bl_); have GE103 := GW103; replace HB := Aside0.mk (below_step bl_ hb); clear hb hbox hg; obtain ⟨hcz19_0, hcz19_1, hcz19_2, hfz19_0, hfz19_1, hfz19_2⟩ := cf3_ BK103.out))
    go_ret
    exact ⟨re_, bl_⟩

/-! ### core_extent: function 22 -/
mutual
def core_extent.l0 : Nat → Int → Int → List (S32) → Int → Int → Option (Int × Int)
 | 0, _, _, _, _, _ => none
 | k + 1, x2, x3, x9, x10, x11 => if x11 < x10 then (if 0 ≤ x11 then (if x11 < (x9.length : Int) then ((core_extent.f k ((rd_T32 x9 x11).f0) ((rd_T32 x9 x11).f1) ((rd_T32 x9 x11).f2.f0) ((rd_T32 x9 x11).f2.f1) ((rd_T32 x9 x11).f2.f2) ((rd_T32 x9 x11).f3)).bind fun bt107 => (core_extent.l0 k (mx x2 bt107.1) (mn (wrap64 (x3 + bt107.2)) 20001) x9 x10 (wrap64 (x11 + 1)))) else (none)) else (none)) else (some (wrap64 (x2 + 1), x3))
def core_extent.f : Nat → Int → Int → Bool → List Int → List Int → List (S32) → Option (Int × Int)
 | 0, _, _, _, _, _, _ => none
 | k + 1, a0_0, a0_1, a0_2, l0_3, l0_4, l0_5 => core_extent.l0 k 0 1 l0_5 (l0_5.length : Int) 0
end
theorem core_extent.mono_l : ∀ k, (∀ y0 y1 y2 y3 y4 y5, LeO (core_extent.f k y0 y1 y2 y3 y4 y5) (core_extent.f (k + 1) y0 y1 y2 y3 y4 y5)) ∧ (∀ y0 y1 y2 y3 y4, LeO (core_extent.l0 k y0 y1 y2 y3 y4) (core_extent.l0 (k + 1) y0 y1 y2 y3 y4))
 | 0 => ⟨fun _ _ _ _ _ _ r h => by simp [core_extent.f] at h, fun _ _ _ _ _ r h => by simp [core_extent.l0] at h⟩
 | k + 1 => by
  obtain ⟨ih0, ih1⟩ := core_extent.mono_l k
  refine ⟨?_, ?_⟩
  ·intro y0 y1 y2 y3 y4 y5
   unfold core_extent.f
   repeat' first
   | (with_reducible exact ih0 _ _ _ _ _ _)
   | (with_reducible exact ih1 _ _ _ _ _)
   | (with_reducible exact LeO.refl _)
   | (with_reducible exact LeO.none _)
   | (with_reducible refine LeO.ite ?_ ?_)
   | (with_reducible refine LeO.bind ?_ (fun _ => ?_))
   | exact ih0 _ _ _ _ _ _
   | exact ih1 _ _ _ _ _
   | exact LeO.none _
   | refine LeO.ite ?_ ?_
   | refine LeO.bind ?_ (fun _ => ?_)
  ·intro y0 y1 y2 y3 y4
   unfold core_extent.l0
   repeat' first
   | (with_reducible exact ih0 _ _ _ _ _ _)
   | (with_reducible exact ih1 _ _ _ _ _)
   | (with_reducible exact LeO.refl _)
   | (with_reducible exact LeO.none _)
   | (with_reducible refine LeO.ite ?_ ?_)
   | (with_reducible refine LeO.bind ?_ (fun _ => ?_))
   | exact ih0 _ _ _ _ _ _
   | exact ih1 _ _ _ _ _
   | exact LeO.none _
   | refine LeO.ite ?_ ?_
   | refine LeO.bind ?_ (fun _ => ?_)
theorem core_extent.mono : ∀ a0 a1 a2 a3 a4 a5 k, LeO (core_extent.f k a0 a1 a2 a3 a4 a5) (core_extent.f (k + 1) a0 a1 a2 a3 a4 a5) := by
 intro a0 a1 a2 a3 a4 a5 k
 obtain ⟨ih0, ih1⟩ := core_extent.mono_l k
 exact ih0 a0 a1 a2 a3 a4 a5
set_option maxHeartbeats 8000000 in
set_option maxRecDepth 100000 in
theorem core_extent.calls (k : Nat) : ∀ (a0_0 : Int) (a0_1 : Int) (a0_2 : Bool) (A0_3 : Option Addr) (c0_3 : Nat) (l0_3 : List Int) (A0_4 : Option Addr) (c0_4 : Nat) (l0_4 : List Int) (A0_5 : Option Addr) (c0_5 : Nat) (l0_5 : List (S32)) (r1 : Int) (r2 : Int) (w : World) (hr0_3 : Kd.C (Kd.int .u32) w A0_3 l0_3.length l0_3) (hc0_3 : l0_3.length ≤ c0_3) (hr0_4 : Kd.C (Kd.int .u32) w A0_4 l0_4.length l0_4) (hc0_4 : l0_4.length ≤ c0_4) (hr0_5 : Kd.C k32 w A0_5 l0_5.length l0_5) (hc0_5 : l0_5.length ≤ c0_5) (h : core_extent.f k a0_0 a0_1 a0_2 l0_3 l0_4 l0_5 = some (r1, r2)),
  Calls Try.prog 22 #[.agg #[.int .i64 a0_0, .int .i64 a0_1, .bool a0_2, .slice A0_3 l0_3.length c0_3, .slice A0_4 l0_4.length c0_4, .slice A0_5 l0_5.length c0_5]] w fun e w' => e = .returned (.tuple #[.int .i64 r1, .int .i64 r2]) ∧ Below w.heap.size w w' := by
 induction k using Nat.strongRecOn with
 | _ k ih =>
 intro a0_0 a0_1 a0_2 A0_3 c0_3 l0_3 A0_4 c0_4 l0_4 A0_5 c0_5 l0_5 r1 r2 w hr0_3 hc0_3 hr0_4 hc0_4 hr0_5 hc0_5 h
 cases k with
 | zero => exact absurd h (by simp [core_extent.f])
 | succ k =>
 simp only [core_extent.f] at h
 have hu32 := Try.underlying32
 have HR0_3 := Aside0.mk hr0_3
 have HC0_3 := Aside0.mk hc0_3
 clear hr0_3 hc0_3
 have HR0_4 := Aside0.mk hr0_4
 have HC0_4 := Aside0.mk hc0_4
 clear hr0_4 hc0_4
 have HR0_5 := Aside0.mk hr0_5
 have HC0_5 := Aside0.mk hc0_5
 clear hr0_5 hc0_5
 have HB := Aside0.mk (Below.refl w.heap.size w)
 have H : (core_extent.l0 k 0 1 l0_5 (l0_5.length : Int) 0) = some (r1, r2) := h
 clear h
 have H' := Aside0.mk H
 clear H
 go_enter Try.func22, Try.ntmps22
 go_wp2_with (first | ((with_reducible refine gate_dst (N := 1) rfl ?_); refine box_event ?hg (N := 1) ?hd (cs := #[.int .i64 a0_0, .int .i64 a0_1, .bool a0_2, .slice A0_3 l0_3.length c0_3, .slice A0_4 l0_4.length c0_4, .slice A0_5 l0_5.length c0_5]) (t := 32) ?hr ?_; (case hd => rfl); (case hg => rfl); (case hr => first | (go_simp; done) | (go_simp; rfl)); intro gb104 hg w2 hbox hb; have BK104 := Aside0.mk (hbox); have GW104 : Aside0 (w.heap.size ≤ gb104) := gw_ hg (below_size bl_); have GE104 := GW104; replace HB := Aside0.mk (below_step bl_ hb); clear hb hbox hg; obtain ⟨hcz3_0, hcz3_1, hcz3_2, hcz3_3, hcz3_4, hcz3_5, hfz3_0, hfz3_1, hfz3_2, hfz3_3, hfz3_4, hfz3_5⟩ := cf6_ BK104.out))
 go_loopg [2, 3, 11] k (fun kq v2 v3 v11 w' => ∃ (x2_1 : Int) (x3_1 : Int) (x11_1 : Int), v2 = .int .i64 x2_1 ∧ v3 = .int .i64 x3_1 ∧ v11 = .int .i64 x11_1 ∧ Aside0 (core_extent.l0 kq x2_1 x3_1 l0_5 (l0_5.length : Int) x11_1 = some (r1, r2)) ∧ Aside0 (kq ≤ k) ∧ Aside0 (w'.heap[gb104]? = some (.cells #[.int .i64 a0_0, .int .i64 a0_1, .bool a0_2, (.slice A0_3 l0_3.length c0_3), (.slice A0_4 l0_4.length c0_4), (.slice A0_5 l0_5.length c0_5)] 32 (0, 0))) ∧ Aside0 (Below w.heap.size w w'))
 case atStart => exact ⟨(0), (1), (0), rs_, rs_, rs_, H', ⟨Nat.le_refl _⟩, ⟨bk_⟩, ⟨bl_⟩⟩
 case round =>
  clear H'
  try clear c2
  try clear p2
  try clear hcz3_0 hcz3_1 hcz3_2 hcz3_3 hcz3_4 hcz3_5 hfz3_0 hfz3_1 hfz3_2 hfz3_3 hfz3_4 hfz3_5
  obtain ⟨x2_1, x3_1, x11_1, rfl, rfl, rfl, HA, HK1, BK104, HB⟩ := hrel
  cases gk with
  | zero => exact absurd HA.out (by simp [core_extent.l0])
  | succ k1 =>
   have H := HA.out
   clear HA
   simp only [core_extent.l0] at H
   by_cases c4 : x11_1 < (l0_5.length : Int)
   ·rw [if_pos c4] at H
    have c4b0 : decide (x11_1 < (l0_5.length : Int)) = true := decide_eq_true c4
    clear c4
    by_cases c5 : 0 ≤ x11_1
    ·rw [if_pos c5] at H
     have c5b0 : decide (0 ≤ x11_1) = true := decide_eq_true c5
     clear c5
     by_cases c6 : x11_1 < (l0_5.length : Int)
     ·rw [if_pos c6] at H
      have c6b0 : decide (x11_1 < (l0_5.length : Int)) = true := decide_eq_true c6
      clear c6
      replace H := Option.bind_eq_some_iff.mp H
      obtain ⟨⟨t107, t108⟩, A70, H⟩ := H
      replace H : (core_extent.l0 k1 (mx x2_1 t107) (mn (wrap64 (x3_1 + t108)) 20001) l0_5 (l0_5.length : Int) (wrap64 (x11_1 + 1))) = some (r1, r2) := H
      have A7 := Aside0.mk A70
      clear A70
      obtain ⟨ji8, hji8⟩ : ∃ j_ : Int, (mx x2_1 t107) = j_ := ⟨_, rfl⟩
      replace H : (core_extent.l0 k1 ji8 (mn (wrap64 (x3_1 + t108)) 20001) l0_5 (l0_5.length : Int) (wrap64 (x11_1 + 1))) = some (r1, r2) := by first | (rw [hji8] at H; exact H) | (simp only [hji8] at H ⊢; exact H)
      (try rw [hji8] at A7)
      have hji8_ : (if x2_1 < t107 then t107 else x2_1) = ji8 := hji8
      obtain ⟨ji9, hji9⟩ : ∃ j_ : Int, (mn (wrap64 (x3_1 + t108)) 20001) = j_ := ⟨_, rfl⟩
      replace H : (core_extent.l0 k1 ji8 ji9 l0_5 (l0_5.length : Int) (wrap64 (x11_1 + 1))) = some (r1, r2) := by first | (rw [hji9] at H; exact H) | (simp only [hji9] at H ⊢; exact H)
      (try rw [hji9] at A7)
      have hji9_ : (if 20001 < (wrap64 (x3_1 + t108)) then 20001 else (wrap64 (x3_1 + t108))) = ji9 := hji9
      have H' := Aside0.mk H
      clear H
      have p105 : 0 ≤ (x11_1 : Int) := dt_
      have q105 : x11_1 < (l0_5.length : Int) := dt_
      obtain ⟨ad105, A105_3, c105_3, A105_4, c105_4, A105_5, c105_5, e105, hx105_0, hx105_1, hx105_2, hx105_3, hx105_4, hx105_5, hl105_3, hi105_3, hl105_4, hi105_4, hl105_5, hi105_5⟩ := at_T32 HR0_5.out x11_1 p105 q105
      cases e105
      replace hx105_0 := (HB.out.cell (World.block_lt_of_cell? w _ hx105_0)).trans hx105_0
      replace hx105_1 := (HB.out.cell (World.block_lt_of_cell? w _ hx105_1)).trans hx105_1
      replace hx105_2 := (HB.out.cell (World.block_lt_of_cell? w _ hx105_2)).trans hx105_2
      replace hx105_3 := (HB.out.cell (World.block_lt_of_cell? w _ hx105_3)).trans hx105_3
      replace hx105_4 := (HB.out.cell (World.block_lt_of_cell? w _ hx105_4)).trans hx105_4
      replace hx105_5 := (HB.out.cell (World.block_lt_of_cell? w _ hx105_5)).trans hx105_5
      have HR105_3 := Aside0.mk hi105_3
      have HC105_3 := Aside0.mk hl105_3
      clear hi105_3 hl105_3
      have HR105_4 := Aside0.mk hi105_4
      have HC105_4 := Aside0.mk hl105_4
      clear hi105_4 hl105_4
      have HR105_5 := Aside0.mk hi105_5
      have HC105_5 := Aside0.mk hl105_5
      clear hi105_5 hl105_5
      replace p105 := eq_true p105
      replace q105 := eq_true q105
      go_wp2_with (first | ((with_reducible refine gate_dst (N := 5) rfl ?_); refine box_event ?hg (N := 5) ?hd (cs := #[.int .i64 0, .int .i64 0, .bool false, .slice none 0 0, .slice none 0 0, .slice none 0 0]) (t := 32) ?hr ?_; (case hd => rfl); (case hg => rfl); (case hr => first | (go_simp; done) | (go_simp; rfl)); intro gb106 hg w10 hbox hb; have BK106 := Aside0.mk (hbox); have GW106 : Aside0 (w.heap.size ≤ gb106) := gw_ hg (below_size bl_); have GE106 := GW106; have NB104_106 := Aside0.mk ((by rw [hg]; exact Nat.ne_of_lt (blk_lt (g := gb104) (o := .cells #[.int .i64 a0_0, .int .i64 a0_1, .bool a0_2, .slice A0_3 l0_3.length c0_3, .slice A0_4 l0_4.length c0_4, .slice (some ad105) l0_5.length c0_5] 32 (0, 0)) bk_) : gb104 ≠ gb106)); have NB106_104 := Aside0.mk ((by rw [hg]; exact Nat.ne_of_gt (blk_lt (g := gb104) (o := .cells #[.int .i64 a0_0, .int .i64 a0_1, .bool a0_2, .slice A0_3 l0_3.length c0_3, .slice A0_4 l0_4.length c0_4, .slice (some ad105) l0_5.length c0_5] 32 (0, 0)) bk_) : gb106 ≠ gb104)); replace BK104 := Aside0.mk (blk_below (g := gb104) (o := .cells #[.int .i64 a0_0, .int .i64 a0_1, .bool a0_2, .slice A0_3 l0_3.length c0_3, .slice A0_4 l0_4.length c0_4, .slice (some ad105) l0_5.length c0_5] 32 (0, 0)) bk_ hb); replace HB := Aside0.mk (below_step bl_ hb); clear hb hbox hg; have hnb11 := NB106_104.out; have hnc11 := NB104_106.out; obtain ⟨hcz12_0, hcz12_1, hcz12_2, hcz12_3, hcz12_4, hcz12_5, hfz12_0, hfz12_1, hfz12_2, hfz12_3, hfz12_4, hfz12_5⟩ := cf6_ BK106.out) | ((with_reducible refine gate_callee (f := 22) rfl ?_); refine goesL_ (some 17) rfl rfl Try.func22 (by kernel_rfl) rfl #[.agg #[.int .i64 ((rd_T32 l0_5 x11_1).f0), .int .i64 ((rd_T32 l0_5 x11_1).f1), .bool ((rd_T32 l0_5 x11_1).f2.f0), .slice A105_3 ((rd_T32 l0_5 x11_1).f2.f1).length c105_3, .slice A105_4 ((rd_T32 l0_5 x11_1).f2.f2).length c105_4, .slice A105_5 ((rd_T32 l0_5 x11_1).f3).length c105_5]] rfl (by (try simp only [List.map_toArray, List.map_cons, List.map_nil]); first | done | rfl | (simp only [List.length_drop, List.length_take]; rfl)) ?_; (with_reducible refine (ih k1 (by have := HK1.out; omega) ((rd_T32 l0_5 x11_1).f0) ((rd_T32 l0_5 x11_1).f1) ((rd_T32 l0_5 x11_1).f2.f0) _ _ ((rd_T32 l0_5 x11_1).f2.f1) _ _ ((rd_T32 l0_5 x11_1).f2.f2) _ _ ((rd_T32 l0_5 x11_1).f3) t107 t108 _ ?side1 ?side2 ?side3 ?side4 ?side5 ?side6 A7.out).mono ?_); (case side1 => exact Kd.C_below HR105_3.out bl_); (case side2 => exact HC105_3.out); (case side3 => exact Kd.C_below HR105_4.out bl_); (case side4 => exact HC105_4.out); (case side5 => exact Kd.C_below HR105_5.out bl_); (case side6 => exact HC105_5.out); rintro e w13 ⟨rfl, hb⟩; refine ⟨_, rfl, ?_⟩; replace BK104 := Aside0.mk (blk_below (g := gb104) (o := .cells #[.int .i64 a0_0, .int .i64 a0_1, .bool a0_2, .slice A0_3 l0_3.length c0_3, .slice A0_4 l0_4.length c0_4, .slice (some ad105) l0_5.length c0_5] 32 (0, 0)) (by (with_reducible repeat (first | refine blk_drewN ?_ _ | refine blk_drew ?_ | refine blk_alloc ?_ _)); refine blk_far ?_ NB104_106.out _; (with_reducible repeat (first | refine blk_drewN ?_ _ | refine blk_drew ?_ | refine blk_alloc ?_ _)); refine blk_far ?_ NB104_106.out _; (with_reducible repeat (first | refine blk_drewN ?_ _ | refine blk_drew ?_ | refine blk_alloc ?_ _)); refine blk_far ?_ NB104_106.out _; (with_reducible repeat (first | refine blk_drewN ?_ _ | refine blk_drew ?_ | refine blk_alloc ?_ _)); refine blk_far ?_ NB104_106.out _; (with_reducible repeat (first | refine blk_drewN ?_ _ | refine blk_drew ?_ | refine blk_alloc ?_ _)); refine blk_far ?_ NB104_106.out _; (with_reducible repeat (first | refine blk_drewN ?_ _ | refine blk_drew ?_ | refine blk_alloc ?_ _)); refine blk_far ?_ NB104_106.out _; (with_reducible repeat (first | refine blk_drewN ?_ _ | refine blk_drew ?_ | refine blk_alloc ?_ _)); exact BK104.out) hb); replace BK106 := Aside0.mk (blk_below (g := gb106) (o := .cells #[.int .i64 ((rd_T32 l0_5 x11_1).f0), .int .i64 ((rd_T32 l0_5 x11_1).f1), .bool ((rd_T32 l0_5 x11_1).f2.f0), .slice A105_3 ((rd_T32 l0_5 x11_1).f2.f1).length c105_3, .slice A105_4 ((rd_T32 l0_5 x11_1).f2.f2).length c105_4, .slice A105_5 ((rd_T32 l0_5 x11_1).f3).length c105_5] 32 (0, 0)) (by (with_reducible repeat (first | refine blk_drewN ?_ _ | refine blk_drew ?_ | refine blk_alloc ?_ _)); refine blk_put (cs := #[.int .i64 ((rd_T32 l0_5 x11_1).f0), .int .i64 ((rd_T32 l0_5 x11_1).f1), .bool ((rd_T32 l0_5 x11_1).f2.f0), .slice A105_3 ((rd_T32 l0_5 x11_1).f2.f1).length c105_3, .slice A105_4 ((rd_T32 l0_5 x11_1).f2.f2).length c105_4, .slice none 0 0]) ?_ 5 _ rfl; (with_reducible repeat (first | refine blk_drewN ?_ _ | refine blk_drew ?_ | refine blk_alloc ?_ _)); refine blk_put (cs := #[.int .i64 ((rd_T32 l0_5 x11_1).f0), .int .i64 ((rd_T32 l0_5 x11_1).f1), .bool ((rd_T32 l0_5 x11_1).f2.f0), .slice A105_3 ((rd_T32 l0_5 x11_1).f2.f1).length c105_3, .slice none 0 0, .slice none 0 0]) ?_ 4 _ rfl; (with_reducible repeat (first | refine blk_drewN ?_ _ | refine blk_drew ?_ | refine blk_alloc ?_ _)); refine blk_put (cs := #[.int .i64 ((rd_T32 l0_5 x11_1).f0), .int .i64 ((rd_T32 l0_5 x11_1).f1), .bool ((rd_T32 l0_5 x11_1).f2.f0), .slice none 0 0, .slice none 0 0, .slice none 0 0]) ?_ 3 _ rfl; (with_reducible repeat (first | refine blk_drewN ?_ _ | refine blk_drew ?_ | refine blk_alloc ?_ _)); refine blk_put (cs := #[.int .i64 ((rd_T32 l0_5 x11_1).f0), .int .i64 ((rd_T32 l0_5 x11_1).f1), .bool false, .slice none 0 0, .slice none 0 0, .slice none 0 0]) ?_ 2 _ rfl; (with_reducible repeat (first | refine blk_drewN ?_ _ | refine blk_drew ?_ | refine blk_alloc ?_ _)); refine blk_put (cs := #[.int .i64 ((rd_T32 l0_5 x11_1).f0), .int .i64 0, .bool false, .slice none 0 0, .slice none 0 0, .slice none 0 0]) ?_ 1 _ rfl; (with_reducible repeat (first | refine blk_drewN ?_ _ | refine blk_drew ?_ | refine blk_alloc ?_ _)); refine blk_put (cs := #[.int .i64 0, .int .i64 0, .bool false, .slice none 0 0, .slice none 0 0, .slice none 0 0]) ?_ 0 _ rfl; (with_reducible repeat (first | refine blk_drewN ?_ _ | refine blk_drew ?_ | refine blk_alloc ?_ _)); exact BK106.out) hb); replace HB := Aside0.mk (below_step bl_ hb); (try clear hb); (try clear hb2); (try clear hk); (try clear hi)))
      go_roundg k1
      case measure => have := HK1.out; omega
      case rel => exact ⟨(ji8), (ji9), (wrap64 (x11_1 + 1)), (by first | rfl | (simp; done) | (simp only [← hji8] <;> (first | rfl | simp)) | (simp [*]; done)), (by first | rfl | (simp; done) | (simp only [← hji9] <;> (first | rfl | simp)) | (simp [*]; done)), rs_, H', ⟨by have := HK1.out; omega⟩, ⟨bk_⟩, ⟨bl_⟩⟩
     ·rw [if_neg c6] at H
      exact absurd H (by simp)
    ·rw [if_neg c5] at H
     exact absurd H (by simp)
   ·rw [if_neg c4] at H
    have c4b0 : decide (x11_1 < (l0_5.length : Int)) = false := decide_eq_false c4
    clear c4
    simp only [Option.some.injEq, Prod.mk.injEq] at H
    obtain ⟨rfl, rfl⟩ := H
    go_wp2
    go_ret2
    exact ⟨re_, bl_⟩

-- NOT PRINTED: function 23 (core_within)

/-! ### core_arity: function 24 -/
def core_arity.j0 : Nat → Int → Bool → Option (Int)
 | 0, _, _ => none
 | k + 1, x3, x6 => if x6 = true then (some 0) else (if x3 = 4 then (some 1) else (if x3 = 13 then (some 3) else (if x3 = 5 then (some 2) else (if x3 = 6 then (some 2) else (if x3 = 7 then (some 2) else (if x3 = 8 then (some 2) else (if x3 = 9 then (some 2) else (if x3 = 10 then (some 2) else (if x3 = 11 then (some 2) else (if x3 = 12 then (some 2) else (some (-1))))))))))))
def core_arity.f (k : Nat) (a0 : Int) : Option (Int) := if a0 = 1 then (some 0) else (if a0 = 2 then (core_arity.j0 k a0 (a0 == 2)) else (core_arity.j0 k a0 (a0 == 3)))
theorem core_arity.mono_l : ∀ k, (∀ y0 y1, LeO (core_arity.j0 k y0 y1) (core_arity.j0 (k + 1) y0 y1))
 | 0 => fun _ _ r h => by simp [core_arity.j0] at h
 | k + 1 => by
  have ih0 := core_arity.mono_l k
  ·intro y0 y1
   unfold core_arity.j0
   repeat' first
   | (with_reducible exact ih0 _ _)
   | (with_reducible exact LeO.refl _)
   | (with_reducible exact LeO.none _)
   | (with_reducible refine LeO.ite ?_ ?_)
   | (with_reducible refine LeO.bind ?_ (fun _ => ?_))
   | exact ih0 _ _
   | exact LeO.none _
   | refine LeO.ite ?_ ?_
   | refine LeO.bind ?_ (fun _ => ?_)
theorem core_arity.mono : ∀ a0 k, LeO (core_arity.f k a0) (core_arity.f (k + 1) a0) := by
 intro a0 k
 have ih0 := core_arity.mono_l k
 unfold core_arity.f
 repeat' first
   | (with_reducible exact ih0 _ _)
   | (with_reducible exact LeO.refl _)
   | (with_reducible exact LeO.none _)
   | (with_reducible refine LeO.ite ?_ ?_)
   | (with_reducible refine LeO.bind ?_ (fun _ => ?_))
   | exact ih0 _ _
   | exact LeO.none _
   | refine LeO.ite ?_ ?_
   | refine LeO.bind ?_ (fun _ => ?_)
set_option maxHeartbeats 8000000 in
set_option maxRecDepth 100000 in
theorem core_arity.calls (k : Nat) (a0 : Int) (r : Int) (w : World) (h : core_arity.f k a0 = some r) :
  Calls Try.prog 24 #[.int .i64 a0] w fun e w' => e = .returned (.int .i64 r) ∧ Drawn0 w w' := by
 have H : (if a0 = 1 then (some 0) else (if a0 = 2 then (core_arity.j0 k a0 (a0 == 2)) else (core_arity.j0 k a0 (a0 == 3)))) = some r := h
 clear h
 by_cases c2 : a0 = 1
 ·rw [if_pos c2] at H
  have c2b0 : (a0 == 1) = true := beq_iff_eq.mpr c2
  have c2b1 : (a0 != 1) = false := bne_eq_false_iff_eq.mpr c2
  clear c2
  obtain rfl := Option.some.inj H
  go_enter Try.func24, Try.ntmps24
  go_wp2
  go_ret
  exact ⟨by first | rfl | (simp; done) | (simp [*]; done), by repeat (first | exact Drawn0.refl _ | apply Drawn0.step)⟩
 ·rw [if_neg c2] at H
  have c2b0 : (a0 == 1) = false := beq_eq_false_iff_ne.mpr c2
  have c2b1 : (a0 != 1) = true := bne_iff_ne.mpr c2
  have HC3 := Aside0.mk H
  clear H
  go_enter Try.func24, Try.ntmps24
  go_upto_if 6 with (fail)
  go_cut [6] (fun v6 wc => ∃ (kq : Nat) (x6_2 : Bool), v6 = .bool x6_2 ∧ Aside0 (core_arity.j0 kq a0 x6_2 = some r) ∧ Aside0 (kq ≤ k) ∧ Drawn0 w wc)
  case first =>
   have H := HC3.out
   clear HC3
   by_cases c4 : a0 = 2
   ·rw [if_pos c4] at H
    have c4b0 : (a0 == 2) = true := beq_iff_eq.mpr c4
    have c4b1 : (a0 != 2) = false := bne_eq_false_iff_eq.mpr c4
    clear c4
    (first | rw [c4b0] | (simp only [i64_w, i32_w]; rw [c4b0]) | skip)
    have H' := Aside0.mk H
    clear H
    go_wp2
    go_meet
    case rel => exact ⟨_, ((a0 == 2)), rs_, H', ⟨by first | omega | exact Nat.le_refl _⟩, by repeat (first | exact Drawn0.refl _ | apply Drawn0.step)⟩
   ·rw [if_neg c4] at H
    have c4b0 : (a0 == 2) = false := beq_eq_false_iff_ne.mpr c4
    have c4b1 : (a0 != 2) = true := bne_iff_ne.mpr c4
    (first | rw [c4b0] | (simp only [i64_w, i32_w]; rw [c4b0]) | skip)
    have H' := Aside0.mk H
    clear H
    go_wp2
    go_meet
    case rel => exact ⟨_, ((a0 == 3)), rs_, H', ⟨by first | omega | exact Nat.le_refl _⟩, by repeat (first | exact Drawn0.refl _ | apply Drawn0.step)⟩
  case rest =>
   clear HC3
   try clear c2
   try clear c2b0
   try clear c2b1
   try clear p2
   try clear c4
   try clear c4b0
   try clear c4b1
   obtain ⟨kq, x6_2, rfl, HA, HJ2, ⟨mc2, rfl⟩⟩ := hcut
   cases kq with
   | zero => exact absurd HA.out (by simp [core_arity.j0])
   | succ kj2 =>
    have H := HA.out
    clear HA
    simp only [core_arity.j0] at H
    by_cases c5 : x6_2 = true
    ·subst c5
     have H1 : (some 0) = some r := by rw [if_pos rfl] at H; exact H
     clear H
     have H := H1
     clear H1
     obtain rfl := Option.some.inj H
     go_wp2
     go_ret
     exact ⟨by first | rfl | (simp; done) | (simp [*]; done), by repeat (first | exact Drawn0.refl _ | apply Drawn0.step)⟩
    ·replace c5 := Bool.eq_false_iff.mpr c5
     subst c5
     have H1 : (if a0 = 4 then (some 1) else (if a0 = 13 then (some 3) else (if a0 = 5 then (some 2) else (if a0 = 6 then (some 2) else (if a0 = 7 then (some 2) else (if a0 = 8 then (some 2) else (if a0 = 9 then (some 2) else (if a0 = 10 then (some 2) else (if a0 = 11 then (some 2) else (if a0 = 12 then (some 2) else (some (-1)))))))))))) = some r := by rw [if_neg (show ¬ (false = true) by decide)] at H; exact H
     clear H
     have H := H1
     clear H1
     by_cases c6 : a0 = 4
     ·rw [if_pos c6] at H
      have c6b0 : (a0 == 4) = true := beq_iff_eq.mpr c6
      have c6b1 : (a0 != 4) = false := bne_eq_false_iff_eq.mpr c6
      clear c6
      obtain rfl := Option.some.inj H
      go_wp2
      go_ret
      exact ⟨by first | rfl | (simp; done) | (simp [*]; done), by repeat (first | exact Drawn0.refl _ | apply Drawn0.step)⟩
     ·rw [if_neg c6] at H
      have c6b0 : (a0 == 4) = false := beq_eq_false_iff_ne.mpr c6
      have c6b1 : (a0 != 4) = true := bne_iff_ne.mpr c6
      by_cases c7 : a0 = 13
      ·rw [if_pos c7] at H
       have c7b0 : (a0 == 13) = true := beq_iff_eq.mpr c7
       have c7b1 : (a0 != 13) = false := bne_eq_false_iff_eq.mpr c7
       clear c7
       obtain rfl := Option.some.inj H
       go_wp2
       go_ret
       exact ⟨by first | rfl | (simp; done) | (simp [*]; done), by repeat (first | exact Drawn0.refl _ | apply Drawn0.step)⟩
      ·rw [if_neg c7] at H
       have c7b0 : (a0 == 13) = false := beq_eq_false_iff_ne.mpr c7
       have c7b1 : (a0 != 13) = true := bne_iff_ne.mpr c7
       by_cases c8 : a0 = 5
       ·rw [if_pos c8] at H
        have c8b0 : (a0 == 5) = true := beq_iff_eq.mpr c8
        have c8b1 : (a0 != 5) = false := bne_eq_false_iff_eq.mpr c8
        clear c8
        obtain rfl := Option.some.inj H
        go_wp2
        go_ret
        exact ⟨by first | rfl | (simp; done) | (simp [*]; done), by repeat (first | exact Drawn0.refl _ | apply Drawn0.step)⟩
       ·rw [if_neg c8] at H
        have c8b0 : (a0 == 5) = false := beq_eq_false_iff_ne.mpr c8
        have c8b1 : (a0 != 5) = true := bne_iff_ne.mpr c8
        by_cases c9 : a0 = 6
        ·rw [if_pos c9] at H
         have c9b0 : (a0 == 6) = true := beq_iff_eq.mpr c9
         have c9b1 : (a0 != 6) = false := bne_eq_false_iff_eq.mpr c9
         clear c9
         obtain rfl := Option.some.inj H
         go_wp2
         go_ret
         exact ⟨by first | rfl | (simp; done) | (simp [*]; done), by repeat (first | exact Drawn0.refl _ | apply Drawn0.step)⟩
        ·rw [if_neg c9] at H
         have c9b0 : (a0 == 6) = false := beq_eq_false_iff_ne.mpr c9
         have c9b1 : (a0 != 6) = true := bne_iff_ne.mpr c9
         by_cases c10 : a0 = 7
         ·rw [if_pos c10] at H
          have c10b0 : (a0 == 7) = true := beq_iff_eq.mpr c10
          have c10b1 : (a0 != 7) = false := bne_eq_false_iff_eq.mpr c10
          clear c10
          obtain rfl := Option.some.inj H
          go_wp2
          go_ret
          exact ⟨by first | rfl | (simp; done) | (simp [*]; done), by repeat (first | exact Drawn0.refl _ | apply Drawn0.step)⟩
         ·rw [if_neg c10] at H
          have c10b0 : (a0 == 7) = false := beq_eq_false_iff_ne.mpr c10
          have c10b1 : (a0 != 7) = true := bne_iff_ne.mpr c10
          by_cases c11 : a0 = 8
          ·rw [if_pos c11] at H
           have c11b0 : (a0 == 8) = true := beq_iff_eq.mpr c11
           have c11b1 : (a0 != 8) = false := bne_eq_false_iff_eq.mpr c11
           clear c11
           obtain rfl := Option.some.inj H
           go_wp2
           go_ret
           exact ⟨by first | rfl | (simp; done) | (simp [*]; done), by repeat (first | exact Drawn0.refl _ | apply Drawn0.step)⟩
          ·rw [if_neg c11] at H
           have c11b0 : (a0 == 8) = false := beq_eq_false_iff_ne.mpr c11
           have c11b1 : (a0 != 8) = true := bne_iff_ne.mpr c11
           by_cases c12 : a0 = 9
           ·rw [if_pos c12] at H
            have c12b0 : (a0 == 9) = true := beq_iff_eq.mpr c12
            have c12b1 : (a0 != 9) = false := bne_eq_false_iff_eq.mpr c12
            clear c12
            obtain rfl := Option.some.inj H
            go_wp2
            go_ret
            exact ⟨by first | rfl | (simp; done) | (simp [*]; done), by repeat (first | exact Drawn0.refl _ | apply Drawn0.step)⟩
           ·rw [if_neg c12] at H
            have c12b0 : (a0 == 9) = false := beq_eq_false_iff_ne.mpr c12
            have c12b1 : (a0 != 9) = true := bne_iff_ne.mpr c12
            by_cases c13 : a0 = 10
            ·rw [if_pos c13] at H
             have c13b0 : (a0 == 10) = true := beq_iff_eq.mpr c13
             have c13b1 : (a0 != 10) = false := bne_eq_false_iff_eq.mpr c13
             clear c13
             obtain rfl := Option.some.inj H
             go_wp2
             go_ret
             exact ⟨by first | rfl | (simp; done) | (simp [*]; done), by repeat (first | exact Drawn0.refl _ | apply Drawn0.step)⟩
            ·rw [if_neg c13] at H
             have c13b0 : (a0 == 10) = false := beq_eq_false_iff_ne.mpr c13
             have c13b1 : (a0 != 10) = true := bne_iff_ne.mpr c13
             by_cases c14 : a0 = 11
             ·rw [if_pos c14] at H
              have c14b0 : (a0 == 11) = true := beq_iff_eq.mpr c14
              have c14b1 : (a0 != 11) = false := bne_eq_false_iff_eq.mpr c14
              clear c14
              obtain rfl := Option.some.inj H
              go_wp2
              go_ret
              exact ⟨by first | rfl | (simp; done) | (simp [*]; done), by repeat (first | exact Drawn0.refl _ | apply Drawn0.step)⟩
             ·rw [if_neg c14] at H
              have c14b0 : (a0 == 11) = false := beq_eq_false_iff_ne.mpr c14
              have c14b1 : (a0 != 11) = true := bne_iff_ne.mpr c14
              by_cases c15 : a0 = 12
              ·rw [if_pos c15] at H
               have c15b0 : (a0 == 12) = true := beq_iff_eq.mpr c15
               have c15b1 : (a0 != 12) = false := bne_eq_false_iff_eq.mpr c15
               clear c15
               obtain rfl := Option.some.inj H
               go_wp2
               go_ret
               exact ⟨by first | rfl | (simp; done) | (simp [*]; done), by repeat (first | exact Drawn0.refl _ | apply Drawn0.step)⟩
              ·rw [if_neg c15] at H
               have c15b0 : (a0 == 12) = false := beq_eq_false_iff_ne.mpr c15
               have c15b1 : (a0 != 12) = true := bne_iff_ne.mpr c15
               obtain rfl := Option.some.inj H
               go_wp2
               go_ret
               exact ⟨by first | rfl | (simp; done) | (simp [*]; done), by repeat (first | exact Drawn0.refl _ | apply Drawn0.step)⟩

/-! ### core_saturate: function 36 -/
def core_saturate.f (a0 : Int) : Option (Int) := some (mx (-1073741824) (mn a0 1073741824))
set_option maxHeartbeats 8000000 in
set_option maxRecDepth 100000 in
theorem core_saturate.calls (a0 : Int) (r : Int) (w : World) (h : core_saturate.f a0 = some r) :
  Calls Try.prog 36 #[.int .i64 a0] w fun e w' => e = .returned (.int .i64 r) ∧ Below w.heap.size w w' := by
 have HB := Aside0.mk (Below.refl w.heap.size w)
 have H : (some (mx (-1073741824) (mn a0 1073741824))) = some r := h
 clear h
 obtain ⟨ji2, hji2⟩ : ∃ j_ : Int, (mn a0 1073741824) = j_ := ⟨_, rfl⟩
 replace H : (some (mx (-1073741824) (ji2))) = some r := by first | (rw [hji2] at H; exact H) | (simp only [hji2] at H ⊢; exact H)
 (try (have hji2h : ji2 ≤ 1073741824 := by (rw [← hji2]; unfold mn; (repeat' split) <;> omega)))
 (try (have hji2g : ji2 ≤ 64 := by omega))
 have hji2_ : (if 1073741824 < a0 then 1073741824 else a0) = ji2 := hji2
 obtain ⟨ji3, hji3⟩ : ∃ j_ : Int, (mx (-1073741824) (ji2)) = j_ := ⟨_, rfl⟩
 replace H : (some ji3) = some r := by first | (rw [hji3] at H; exact H) | (simp only [hji3] at H ⊢; exact H)
 have hji3_ : (if (-1073741824) < (ji2) then (ji2) else (-1073741824)) = ji3 := hji3
 obtain rfl := Option.some.inj H
 go_enter Try.func36, Try.ntmps36
 go_wp2
 go_ret
 exact ⟨by first | rfl | (simp [errW_none, errW_some] <;> rfl) | (simp only [← hji2, ← hji3]; first | rfl | (simp [errW_none, errW_some] <;> rfl)) | (simp [*, errW_none, errW_some] <;> rfl), bl_⟩

theorem wlt_ (w : World) (a : Addr) {u : Value} (h : w.cell? a = some u) : a.block < w.heap.size := World.block_lt_of_cell? w a h
theorem lsa_ {α : Type} (l : List α) (i : Nat) (a : α) : l.toArray.setIfInBounds i a = (l.set i a).toArray := List.setIfInBounds_toArray l i a
end Go.Proofs.Ytdijehgibejflaa.K
