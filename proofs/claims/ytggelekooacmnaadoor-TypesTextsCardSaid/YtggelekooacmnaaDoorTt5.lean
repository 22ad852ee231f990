/- Lemmas for: Proved: the tied card of exactppllaw06.TypesTexts (for every input the law returns true). Conditions: none beyond the given row. -/
import Derived.StillTailTactics
import Derived.Lib.ItoaLen
import Derived.Lib.Join
import Derived.Lib.Strings
import Derived.SizedLaws
import Derived.ChangeSlices
import Derived.Test.YtggelekooacmnaaDoorTt2
import Derived.Test.YtggelekooacmnaaDoorTt3
import Derived.Test.YtggelekooacmnaaDoorTt4
namespace Go.Proofs.YtggelekooacmnaaDoor.Q
open Go.RowKit Go.Proofs.YtggelekooacmnaaDoorW.PrintWords Go.Proofs.YtggelekooacmnaaDoorW.PrintLast Go.Proofs.YtggelekooacmnaaDoorW.PrintMore
attribute [local go_sem] max2_int min2_int max_two min_two max_three min_three max_four min_four   -- for this text's walks alone
set_option linter.unusedVariables false
set_option linter.unusedSimpArgs false

/-! ### exactpplref06_Validate: function 22 -/
def exactpplref06_Validate.f (k : Nat) (a0_0 : Int) (a0_1 : Int) (a0_2 : Int) (a0_3 : Int) (l0_4 : List (S24)) : Option (Int) := (exactpplref06_Depth.f k a0_0 a0_1 a0_2 a0_3 l0_4 11).bind fun t306 => (if t306 > 10 then (some 9) else ((exactpplref06_wrong.f k a0_0 a0_1 a0_2 a0_3 l0_4).bind fun t307 => (if t307 = 0 then ((exactpplref06_Parts.f k a0_0 a0_1 a0_2 a0_3 l0_4).bind fun t308 => (if (t308.length : Int) > 24 then (some 9) else (some 0))) else (some t307))))
theorem exactpplref06_Validate.mono : ∀ a0 a1 a2 a3 a4 k, LeO (exactpplref06_Validate.f k a0 a1 a2 a3 a4) (exactpplref06_Validate.f (k + 1) a0 a1 a2 a3 a4) := by
  intro a0 a1 a2 a3 a4 k
  unfold exactpplref06_Validate.f
  repeat' first
      | (with_reducible exact exactpplref06_Depth.mono _ _ _ _ _ _ _)
      | (with_reducible exact exactpplref06_Parts.mono _ _ _ _ _ _)
      | (with_reducible exact exactpplref06_wrong.mono _ _ _ _ _ _)
      | (with_reducible exact LeO.refl _)
      | (with_reducible exact LeO.none _)
      | (with_reducible refine LeO.ite ?_ ?_)
      | (with_reducible refine LeO.bind ?_ (fun _ => ?_))
      | exact exactpplref06_Depth.mono _ _ _ _ _ _ _
      | exact exactpplref06_Parts.mono _ _ _ _ _ _
      | exact exactpplref06_wrong.mono _ _ _ _ _ _
      | exact LeO.none _
      | refine LeO.ite ?_ ?_
      | refine LeO.bind ?_ (fun _ => ?_)
set_option maxHeartbeats 8000000 in
set_option maxRecDepth 100000 in
theorem exactpplref06_Validate.calls (k : Nat) (a0_0 : Int) (a0_1 : Int) (a0_2 : Int) (a0_3 : Int) (A0_4 : Option Addr) (c0_4 : Nat) (l0_4 : List (S24)) (r : Int) (w : World) (hr0_4 : Kd.C k24 w A0_4 l0_4.length l0_4) (hc0_4 : l0_4.length ≤ c0_4) (h : exactpplref06_Validate.f k a0_0 a0_1 a0_2 a0_3 l0_4 = some r) :
    Calls Tryd.prog 22 #[.agg #[.int .i64 a0_0, .int .i64 a0_1, .int .i64 a0_2, .int .i64 a0_3, .slice A0_4 l0_4.length c0_4]] w fun e w' => e = .returned (.int .i64 r) ∧ Below w.heap.size w w' := by
  have hu24 := Tryd.underlying24
  have HR0_4 := Aside0.mk hr0_4
  have HC0_4 := Aside0.mk hc0_4
  clear hr0_4 hc0_4
  have HB := Aside0.mk (Below.refl w.heap.size w)
  have H : ((exactpplref06_Depth.f k a0_0 a0_1 a0_2 a0_3 l0_4 11).bind fun t306 => (if t306 > 10 then (some 9) else ((exactpplref06_wrong.f k a0_0 a0_1 a0_2 a0_3 l0_4).bind fun t307 => (if t307 = 0 then ((exactpplref06_Parts.f k a0_0 a0_1 a0_2 a0_3 l0_4).bind fun t308 => (if (t308.length : Int) > 24 then (some 9) else (some 0))) else (some t307))))) = some r := h
  clear h
  replace H := Option.bind_eq_some_iff.mp H
  obtain ⟨t306, A20, H⟩ := H
  replace H : (if t306 > 10 then (some 9) else ((exactpplref06_wrong.f k a0_0 a0_1 a0_2 a0_3 l0_4).bind fun t307 => (if t307 = 0 then ((exactpplref06_Parts.f k a0_0 a0_1 a0_2 a0_3 l0_4).bind fun t308 => (if (t308.length : Int) > 24 then (some 9) else (some 0))) else (some t307)))) = some r := H
  have A2 := Aside0.mk A20
  clear A20
  by_cases c3 : t306 > 10
  · rw [if_pos c3] at H
    have c3b0 : decide (10 < t306) = true := decide_eq_true c3
    clear c3
    obtain rfl := Option.some.inj H
    go_enter Tryd.func22, Tryd.ntmps22
    go_wp2_with (first | ((with_reducible refine gate_dst (N := 1) rfl ?_); refine box_event ?hg (N := 1) ?hd (cs := #[.int .i64 a0_0, .int .i64 a0_1, .int .i64 a0_2, .int .i64 a0_3, .slice A0_4 l0_4.length c0_4]) (t := 24) ?hr ?_; (case hd => rfl); (case hg => rfl); (case hr => first | (go_simp; done) | (go_simp; rfl)); intro gb305 hg w4 hbox hb; have n0_ := Aside0.mk (below_step (by repeat (first | (with_reducible first | exact HB.out | apply below_alloc | apply pw_below_drewN | apply below_drew1) | exact HB.out)) hb); have n1_ := Aside0.mk (hbox); have n2_ := Aside0.mk ((by rw [hg]; exact (below_size (by repeat (first | (with_reducible first | exact HB.out | apply below_alloc | apply pw_below_drewN | apply below_drew1) | exact HB.out))) : w.heap.size ≤ gb305)); have n3_ := Aside0.mk ((by rw [hg]; exact (below_size (by repeat (first | (with_reducible first | exact HB.out | apply below_alloc | apply pw_below_drewN | apply below_drew1) | exact HB.out))) : w.heap.size ≤ gb305)); clear HB; have HB := n0_; have BK305 := n1_; have GW305 := n2_; have GE305 := n3_; clear n0_ n1_ n2_ n3_; clear hb hbox hg; have hcz5_0 : w4.cell? ⟨gb305, 0, none⟩ = some (.int .i64 a0_0) := (blk_cell BK305.out 0).trans rfl; have hcz5_1 : w4.cell? ⟨gb305, 1, none⟩ = some (.int .i64 a0_1) := (blk_cell BK305.out 1).trans rfl; have hcz5_2 : w4.cell? ⟨gb305, 2, none⟩ = some (.int .i64 a0_2) := (blk_cell BK305.out 2).trans rfl; have hcz5_3 : w4.cell? ⟨gb305, 3, none⟩ = some (.int .i64 a0_3) := (blk_cell BK305.out 3).trans rfl; have hcz5_4 : w4.cell? ⟨gb305, 4, none⟩ = some (.slice A0_4 l0_4.length c0_4) := (blk_cell BK305.out 4).trans rfl; have hfz5_0 := blk_frozen BK305.out 0; have hfz5_1 := blk_frozen BK305.out 1; have hfz5_2 := blk_frozen BK305.out 2; have hfz5_3 := blk_frozen BK305.out 3; have hfz5_4 := blk_frozen BK305.out 4) | ((with_reducible refine gate_callee (f := 45) rfl ?_); refine goesL_ (some 5) rfl rfl Tryd.func45 (by kernel_rfl) rfl #[.agg #[.int .i64 a0_0, .int .i64 a0_1, .int .i64 a0_2, .int .i64 a0_3, .slice A0_4 l0_4.length c0_4], .int .i64 11] rfl (by (try simp only [List.map_toArray, List.map_cons, List.map_nil]); first | done | rfl | (simp only [List.length_drop, List.length_take]; rfl)) ?_; (with_reducible refine (exactpplref06_Depth.calls k a0_0 a0_1 a0_2 a0_3 _ _ l0_4 11 t306 _ ?side1 ?side2 A2.out).mono ?_); (case side1 => repeat (first | exact (Kd.C_below HR0_4.out HB.out) | (with_reducible refine Kd.C_alloc ?_ _) | (with_reducible refine Kd.C_drewN ?_ _) | (with_reducible refine Kd.C_drew ?_))); (case side2 => exact HC0_4.out); rintro e w6 ⟨rfl, hb⟩; refine ⟨_, rfl, ?_⟩; have n0_ := Aside0.mk (blk_below (g := gb305) (o := .cells #[.int .i64 a0_0, .int .i64 a0_1, .int .i64 a0_2, .int .i64 a0_3, .slice A0_4 l0_4.length c0_4] 24 (0, 0)) (by (with_reducible repeat (first | refine blk_drewN ?_ _ | refine blk_drew ?_ | refine blk_alloc ?_ _)); exact BK305.out) hb); have n1_ := Aside0.mk (below_step (by repeat (first | (with_reducible first | exact HB.out | apply below_alloc | apply pw_below_drewN | apply below_drew1 | refine below_set ?_ GE305.out) | exact HB.out)) hb); clear BK305; clear HB; have BK305 := n0_; have HB := n1_; clear n0_ n1_; (try clear hb); (try clear hb2); (try clear hk); (try clear hi)))
    go_ret
    exact ⟨by first | rfl | (simp [errW_none, errW_some] <;> rfl) | (simp [*, errW_none, errW_some] <;> rfl), by repeat (first | (with_reducible first | exact HB.out | apply below_alloc | apply pw_below_drewN | apply below_drew1 | refine below_set ?_ GE305.out) | exact HB.out)⟩
  · rw [if_neg c3] at H
    have c3b0 : decide (10 < t306) = false := decide_eq_false c3
    clear c3
    replace H := Option.bind_eq_some_iff.mp H
    obtain ⟨t307, A70, H⟩ := H
    replace H : (if t307 = 0 then ((exactpplref06_Parts.f k a0_0 a0_1 a0_2 a0_3 l0_4).bind fun t308 => (if (t308.length : Int) > 24 then (some 9) else (some 0))) else (some t307)) = some r := H
    have A7 := Aside0.mk A70
    clear A70
    by_cases c8 : t307 = 0
    · rw [if_pos c8] at H
      have c8b0 : (t307 == 0) = true := beq_iff_eq.mpr c8
      have c8b1 : (t307 != 0) = false := bne_eq_false_iff_eq.mpr c8
      clear c8
      replace H := Option.bind_eq_some_iff.mp H
      obtain ⟨t308, A90, H⟩ := H
      replace H : (if (t308.length : Int) > 24 then (some 9) else (some 0)) = some r := H
      have A9 := Aside0.mk A90
      clear A90
      by_cases c10 : (t308.length : Int) > 24
      · rw [if_pos c10] at H
        have c10b0 : decide (24 < (t308.length : Int)) = true := decide_eq_true c10
        have c10b1 : decide (24 < t308.length) = true := decide_eq_true (by omega)
        clear c10
        obtain rfl := Option.some.inj H
        go_enter Tryd.func22, Tryd.ntmps22
        go_wp2_with (first | ((with_reducible refine gate_dst (N := 1) rfl ?_); refine box_event ?hg (N := 1) ?hd (cs := #[.int .i64 a0_0, .int .i64 a0_1, .int .i64 a0_2, .int .i64 a0_3, .slice A0_4 l0_4.length c0_4]) (t := 24) ?hr ?_; (case hd => rfl); (case hg => rfl); (case hr => first | (go_simp; done) | (go_simp; rfl)); intro gb305 hg w11 hbox hb; have n0_ := Aside0.mk (below_step (by repeat (first | (with_reducible first | exact HB.out | apply below_alloc | apply pw_below_drewN | apply below_drew1) | exact HB.out)) hb); have n1_ := Aside0.mk (hbox); have n2_ := Aside0.mk ((by rw [hg]; exact (below_size (by repeat (first | (with_reducible first | exact HB.out | apply below_alloc | apply pw_below_drewN | apply below_drew1) | exact HB.out))) : w.heap.size ≤ gb305)); have n3_ := Aside0.mk ((by rw [hg]; exact (below_size (by repeat (first | (with_reducible first | exact HB.out | apply below_alloc | apply pw_below_drewN | apply below_drew1) | exact HB.out))) : w.heap.size ≤ gb305)); clear HB; have HB := n0_; have BK305 := n1_; have GW305 := n2_; have GE305 := n3_; clear n0_ n1_ n2_ n3_; clear hb hbox hg; have hcz12_0 : w11.cell? ⟨gb305, 0, none⟩ = some (.int .i64 a0_0) := (blk_cell BK305.out 0).trans rfl; have hcz12_1 : w11.cell? ⟨gb305, 1, none⟩ = some (.int .i64 a0_1) := (blk_cell BK305.out 1).trans rfl; have hcz12_2 : w11.cell? ⟨gb305, 2, none⟩ = some (.int .i64 a0_2) := (blk_cell BK305.out 2).trans rfl; have hcz12_3 : w11.cell? ⟨gb305, 3, none⟩ = some (.int .i64 a0_3) := (blk_cell BK305.out 3).trans rfl; have hcz12_4 : w11.cell? ⟨gb305, 4, none⟩ = some (.slice A0_4 l0_4.length c0_4) := (blk_cell BK305.out 4).trans rfl; have hfz12_0 := blk_frozen BK305.out 0; have hfz12_1 := blk_frozen BK305.out 1; have hfz12_2 := blk_frozen BK305.out 2; have hfz12_3 := blk_frozen BK305.out 3; have hfz12_4 := blk_frozen BK305.out 4) | ((with_reducible refine gate_callee (f := 45) rfl ?_); refine goesL_ (some 5) rfl rfl Tryd.func45 (by kernel_rfl) rfl #[.agg #[.int .i64 a0_0, .int .i64 a0_1, .int .i64 a0_2, .int .i64 a0_3, .slice A0_4 l0_4.length c0_4], .int .i64 11] rfl (by (try simp only [List.map_toArray, List.map_cons, List.map_nil]); first | done | rfl | (simp only [List.length_drop, List.length_take]; rfl)) ?_; (with_reducible refine (exactpplref06_Depth.calls k a0_0 a0_1 a0_2 a0_3 _ _ l0_4 11 t306 _ ?side1 ?side2 A2.out).mono ?_); (case side1 => repeat (first | exact (Kd.C_below HR0_4.out HB.out) | (with_reducible refine Kd.C_alloc ?_ _) | (with_reducible refine Kd.C_drewN ?_ _) | (with_reducible refine Kd.C_drew ?_))); (case side2 => exact HC0_4.out); rintro e w13 ⟨rfl, hb⟩; refine ⟨_, rfl, ?_⟩; have n0_ := Aside0.mk (blk_below (g := gb305) (o := .cells #[.int .i64 a0_0, .int .i64 a0_1, .int .i64 a0_2, .int .i64 a0_3, .slice A0_4 l0_4.length c0_4] 24 (0, 0)) (by (with_reducible repeat (first | refine blk_drewN ?_ _ | refine blk_drew ?_ | refine blk_alloc ?_ _)); exact BK305.out) hb); have n1_ := Aside0.mk (below_step (by repeat (first | (with_reducible first | exact HB.out | apply below_alloc | apply pw_below_drewN | apply below_drew1 | refine below_set ?_ GE305.out) | exact HB.out)) hb); clear BK305; clear HB; have BK305 := n0_; have HB := n1_; clear n0_ n1_; (try clear hb); (try clear hb2); (try clear hk); (try clear hi); have hcz14_0 : w13.cell? ⟨gb305, 0, none⟩ = some (.int .i64 a0_0) := (blk_cell BK305.out 0).trans rfl; have hcz14_1 : w13.cell? ⟨gb305, 1, none⟩ = some (.int .i64 a0_1) := (blk_cell BK305.out 1).trans rfl; have hcz14_2 : w13.cell? ⟨gb305, 2, none⟩ = some (.int .i64 a0_2) := (blk_cell BK305.out 2).trans rfl; have hcz14_3 : w13.cell? ⟨gb305, 3, none⟩ = some (.int .i64 a0_3) := (blk_cell BK305.out 3).trans rfl; have hcz14_4 : w13.cell? ⟨gb305, 4, none⟩ = some (.slice A0_4 l0_4.length c0_4) := (blk_cell BK305.out 4).trans rfl; have hfz14_0 := blk_frozen BK305.out 0; have hfz14_1 := blk_frozen BK305.out 1; have hfz14_2 := blk_frozen BK305.out 2; have hfz14_3 := blk_frozen BK305.out 3; have hfz14_4 := blk_frozen BK305.out 4) | ((with_reducible refine gate_callee (f := 46) rfl ?_); refine goesL_ (some 8) rfl rfl Tryd.func46 (by kernel_rfl) rfl #[.agg #[.int .i64 a0_0, .int .i64 a0_1, .int .i64 a0_2, .int .i64 a0_3, .slice A0_4 l0_4.length c0_4]] rfl (by (try simp only [List.map_toArray, List.map_cons, List.map_nil]); first | done | rfl | (simp only [List.length_drop, List.length_take]; rfl)) ?_; (with_reducible refine (exactpplref06_wrong.calls k a0_0 a0_1 a0_2 a0_3 _ _ l0_4 t307 _ ?side1 ?side2 A7.out).mono ?_); (case side1 => repeat (first | exact (Kd.C_below HR0_4.out HB.out) | (with_reducible refine Kd.C_alloc ?_ _) | (with_reducible refine Kd.C_drewN ?_ _) | (with_reducible refine Kd.C_drew ?_))); (case side2 => exact HC0_4.out); rintro e w15 ⟨rfl, hb⟩; refine ⟨_, rfl, ?_⟩; have n0_ := Aside0.mk (blk_below (g := gb305) (o := .cells #[.int .i64 a0_0, .int .i64 a0_1, .int .i64 a0_2, .int .i64 a0_3, .slice A0_4 l0_4.length c0_4] 24 (0, 0)) (by (with_reducible repeat (first | refine blk_drewN ?_ _ | refine blk_drew ?_ | refine blk_alloc ?_ _)); exact BK305.out) hb); have n1_ := Aside0.mk (below_step (by repeat (first | (with_reducible first | exact HB.out | apply below_alloc | apply pw_below_drewN | apply below_drew1 | refine below_set ?_ GE305.out) | exact HB.out)) hb); clear BK305; clear HB; have BK305 := n0_; have HB := n1_; clear n0_ n1_; (try clear hb); (try clear hb2); (try clear hk); (try clear hi); have hcz16_0 : w15.cell? ⟨gb305, 0, none⟩ = some (.int .i64 a0_0) := (blk_cell BK305.out 0).trans rfl; have hcz16_1 : w15.cell? ⟨gb305, 1, none⟩ = some (.int .i64 a0_1) := (blk_cell BK305.out 1).trans rfl; have hcz16_2 : w15.cell? ⟨gb305, 2, none⟩ = some (.int .i64 a0_2) := (blk_cell BK305.out 2).trans rfl; have hcz16_3 : w15.cell? ⟨gb305, 3, none⟩ = some (.int .i64 a0_3) := (blk_cell BK305.out 3).trans rfl; have hcz16_4 : w15.cell? ⟨gb305, 4, none⟩ = some (.slice A0_4 l0_4.length c0_4) := (blk_cell BK305.out 4).trans rfl; have hfz16_0 := blk_frozen BK305.out 0; have hfz16_1 := blk_frozen BK305.out 1; have hfz16_2 := blk_frozen BK305.out 2; have hfz16_3 := blk_frozen BK305.out 3; have hfz16_4 := blk_frozen BK305.out 4) | ((with_reducible refine gate_callee (f := 47) rfl ?_); refine goesL_ (some 13) rfl rfl Tryd.func47 (by kernel_rfl) rfl #[.agg #[.int .i64 a0_0, .int .i64 a0_1, .int .i64 a0_2, .int .i64 a0_3, .slice A0_4 l0_4.length c0_4]] rfl (by (try simp only [List.map_toArray, List.map_cons, List.map_nil]); first | done | rfl | (simp only [List.length_drop, List.length_take]; rfl)) ?_; (with_reducible refine (exactpplref06_Parts.calls k a0_0 a0_1 a0_2 a0_3 _ _ l0_4 t308 _ ?side1 ?side2 A9.out).mono ?_); (case side1 => repeat (first | exact (Kd.C_below HR0_4.out HB.out) | (with_reducible refine Kd.C_alloc ?_ _) | (with_reducible refine Kd.C_drewN ?_ _) | (with_reducible refine Kd.C_drew ?_))); (case side2 => exact HC0_4.out); rintro e w17 ⟨v309, rfl, ho0, hb⟩; refine ⟨_, rfl, ?_⟩; have n0_ := Aside0.mk (Kd.R_lower ho0 (below_size (by repeat (first | (with_reducible first | exact HB.out | apply below_alloc | apply pw_below_drewN | apply below_drew1 | refine below_set ?_ GE305.out) | exact HB.out)))); have n1_ := Aside0.mk (blk_below (g := gb305) (o := .cells #[.int .i64 a0_0, .int .i64 a0_1, .int .i64 a0_2, .int .i64 a0_3, .slice A0_4 l0_4.length c0_4] 24 (0, 0)) (by (with_reducible repeat (first | refine blk_drewN ?_ _ | refine blk_drew ?_ | refine blk_alloc ?_ _)); exact BK305.out) hb); have n2_ := Aside0.mk (below_step (by repeat (first | (with_reducible first | exact HB.out | apply below_alloc | apply pw_below_drewN | apply below_drew1 | refine below_set ?_ GE305.out) | exact HB.out)) hb); clear BK305; clear HB; have HO310 := n0_; have BK305 := n1_; have HB := n2_; clear n0_ n1_ n2_; (try clear hb); (try clear hb2); (try clear hk); (try clear hi); (try clear ho0); obtain ⟨Ao18, co18, eo18⟩ := Kd.R_slice HO310.out; subst eo18))
        go_ret
        exact ⟨by first | rfl | (simp [errW_none, errW_some] <;> rfl) | (simp [*, errW_none, errW_some] <;> rfl), by repeat (first | (with_reducible first | exact HB.out | apply below_alloc | apply pw_below_drewN | apply below_drew1 | refine below_set ?_ GE305.out) | exact HB.out)⟩
      · rw [if_neg c10] at H
        have c10b0 : decide (24 < (t308.length : Int)) = false := decide_eq_false c10
        have c10b1 : decide (24 < t308.length) = false := decide_eq_false (by omega)
        clear c10
        obtain rfl := Option.some.inj H
        go_enter Tryd.func22, Tryd.ntmps22
        go_wp2_with (first | ((with_reducible refine gate_dst (N := 1) rfl ?_); refine box_event ?hg (N := 1) ?hd (cs := #[.int .i64 a0_0, .int .i64 a0_1, .int .i64 a0_2, .int .i64 a0_3, .slice A0_4 l0_4.length c0_4]) (t := 24) ?hr ?_; (case hd => rfl); (case hg => rfl); (case hr => first | (go_simp; done) | (go_simp; rfl)); intro gb305 hg w19 hbox hb; have n0_ := Aside0.mk (below_step (by repeat (first | (with_reducible first | exact HB.out | apply below_alloc | apply pw_below_drewN | apply below_drew1) | exact HB.out)) hb); have n1_ := Aside0.mk (hbox); have n2_ := Aside0.mk ((by rw [hg]; exact (below_size (by repeat (first | (with_reducible first | exact HB.out | apply below_alloc | apply pw_below_drewN | apply below_drew1) | exact HB.out))) : w.heap.size ≤ gb305)); have n3_ := Aside0.mk ((by rw [hg]; exact (below_size (by repeat (first | (with_reducible first | exact HB.out | apply below_alloc | apply pw_below_drewN | apply below_drew1) | exact HB.out))) : w.heap.size ≤ gb305)); clear HB; have HB := n0_; have BK305 := n1_; have GW305 := n2_; have GE305 := n3_; clear n0_ n1_ n2_ n3_; clear hb hbox hg; have hcz20_0 : w19.cell? ⟨gb305, 0, none⟩ = some (.int .i64 a0_0) := (blk_cell BK305.out 0).trans rfl; have hcz20_1 : w19.cell? ⟨gb305, 1, none⟩ = some (.int .i64 a0_1) := (blk_cell BK305.out 1).trans rfl; have hcz20_2 : w19.cell? ⟨gb305, 2, none⟩ = some (.int .i64 a0_2) := (blk_cell BK305.out 2).trans rfl; have hcz20_3 : w19.cell? ⟨gb305, 3, none⟩ = some (.int .i64 a0_3) := (blk_cell BK305.out 3).trans rfl; have hcz20_4 : w19.cell? ⟨gb305, 4, none⟩ = some (.slice A0_4 l0_4.length c0_4) := (blk_cell BK305.out 4).trans rfl; have hfz20_0 := blk_frozen BK305.out 0; have hfz20_1 := blk_frozen BK305.out 1; have hfz20_2 := blk_frozen BK305.out 2; have hfz20_3 := blk_frozen BK305.out 3; have hfz20_4 := blk_frozen BK305.out 4) | ((with_reducible refine gate_callee (f := 45) rfl ?_); refine goesL_ (some 5) rfl rfl Tryd.func45 (by kernel_rfl) rfl #[.agg #[.int .i64 a0_0, .int .i64 a0_1, .int .i64 a0_2, .int .i64 a0_3, .slice A0_4 l0_4.length c0_4], .int .i64 11] rfl (by (try simp only [List.map_toArray, List.map_cons, List.map_nil]); first | done | rfl | (simp only [List.length_drop, List.length_take]; rfl)) ?_; (with_reducible refine (exactpplref06_Depth.calls k a0_0 a0_1 a0_2 a0_3 _ _ l0_4 11 t306 _ ?side1 ?side2 A2.out).mono ?_); (case side1 => repeat (first | exact (Kd.C_below HR0_4.out HB.out) | (with_reducible refine Kd.C_alloc ?_ _) | (with_reducible refine Kd.C_drewN ?_ _) | (with_reducible refine Kd.C_drew ?_))); (case side2 => exact HC0_4.out); rintro e w21 ⟨rfl, hb⟩; refine ⟨_, rfl, ?_⟩; have n0_ := Aside0.mk (blk_below (g := gb305) (o := .cells #[.int .i64 a0_0, .int .i64 a0_1, .int .i64 a0_2, .int .i64 a0_3, .slice A0_4 l0_4.length c0_4] 24 (0, 0)) (by (with_reducible repeat (first | refine blk_drewN ?_ _ | refine blk_drew ?_ | refine blk_alloc ?_ _)); exact BK305.out) hb); have n1_ := Aside0.mk (below_step (by repeat (first | (with_reducible first | exact HB.out | apply below_alloc | apply pw_below_drewN | apply below_drew1 | refine below_set ?_ GE305.out) | exact HB.out)) hb); clear BK305; clear HB; have BK305 := n0_; have HB := n1_; clear n0_ n1_; (try clear hb); (try clear hb2); (try clear hk); (try clear hi); have hcz22_0 : w21.cell? ⟨gb305, 0, none⟩ = some (.int .i64 a0_0) := (blk_cell BK305.out 0).trans rfl; have hcz22_1 : w21.cell? ⟨gb305, 1, none⟩ = some (.int .i64 a0_1) := (blk_cell BK305.out 1).trans rfl; have hcz22_2 : w21.cell? ⟨gb305, 2, none⟩ = some (.int .i64 a0_2) := (blk_cell BK305.out 2).trans rfl; have hcz22_3 : w21.cell? ⟨gb305, 3, none⟩ = some (.int .i64 a0_3) := (blk_cell BK305.out 3).trans rfl; have hcz22_4 : w21.cell? ⟨gb305, 4, none⟩ = some (.slice A0_4 l0_4.length c0_4) := (blk_cell BK305.out 4).trans rfl; have hfz22_0 := blk_frozen BK305.out 0; have hfz22_1 := blk_frozen BK305.out 1; have hfz22_2 := blk_frozen BK305.out 2; have hfz22_3 := blk_frozen BK305.out 3; have hfz22_4 := blk_frozen BK305.out 4) | ((with_reducible refine gate_callee (f := 46) rfl ?_); refine goesL_ (some 8) rfl rfl Tryd.func46 (by kernel_rfl) rfl #[.agg #[.int .i64 a0_0, .int .i64 a0_1, .int .i64 a0_2, .int .i64 a0_3, .slice A0_4 l0_4.length c0_4]] rfl (by (try simp only [List.map_toArray, List.map_cons, List.map_nil]); first | done | rfl | (simp only [List.length_drop, List.length_take]; rfl)) ?_; (with_reducible refine (exactpplref06_wrong.calls k a0_0 a0_1 a0_2 a0_3 _ _ l0_4 t307 _ ?side1 ?side2 A7.out).mono ?_); (case side1 => repeat (first | exact (Kd.C_below HR0_4.out HB.out) | (with_reducible refine Kd.C_alloc ?_ _) | (with_reducible refine Kd.C_drewN ?_ _) | (with_reducible refine Kd.C_drew ?_))); (case side2 => exact HC0_4.out); rintro e w23 ⟨rfl, hb⟩; refine ⟨_, rfl, ?_⟩; have n0_ := Aside0.mk (blk_below (g := gb305) (o := .cells #[.int .i64 a0_0, .int .i64 a0_1, .int .i64 a0_2, .int .i64 a0_3, .slice A0_4 l0_4.length c0_4] 24 (0, 0)) (by (with_reducible repeat (first | refine blk_drewN ?_ _ | refine blk_drew ?_ | refine blk_alloc ?_ _)); exact BK305.out) hb); have n1_ := Aside0.mk (below_step (by repeat (first | (with_reducible first | exact HB.out | apply below_alloc | apply pw_below_drewN | apply below_drew1 | refine below_set ?_ GE305.out) | exact HB.out)) hb); clear BK305; clear HB; have BK305 := n0_; have HB := n1_; clear n0_ n1_; (try clear hb); (try clear hb2); (try clear hk); (try clear hi); have hcz24_0 : w23.cell? ⟨gb305, 0, none⟩ = some (.int .i64 a0_0) := (blk_cell BK305.out 0).trans rfl; have hcz24_1 : w23.cell? ⟨gb305, 1, none⟩ = some (.int .i64 a0_1) := (blk_cell BK305.out 1).trans rfl; have hcz24_2 : w23.cell? ⟨gb305, 2, none⟩ = some (.int .i64 a0_2) := (blk_cell BK305.out 2).trans rfl; have hcz24_3 : w23.cell? ⟨gb305, 3, none⟩ = some (.int .i64 a0_3) := (blk_cell BK305.out 3).trans rfl; have hcz24_4 : w23.cell? ⟨gb305, 4, none⟩ = some (.slice A0_4 l0_4.length c0_4) := (blk_cell BK305.out 4).trans rfl; have hfz24_0 := blk_frozen BK305.out 0; have hfz24_1 := blk_frozen BK305.out 1; have hfz24_2 := blk_frozen BK305.out 2; have hfz24_3 := blk_frozen BK305.out 3; have hfz24_4 := blk_frozen BK305.out 4) | ((with_reducible refine gate_callee (f := 47) rfl ?_); refine goesL_ (some 13) rfl rfl Tryd.func47 (by kernel_rfl) rfl #[.agg #[.int .i64 a0_0, .int .i64 a0_1, .int .i64 a0_2, .int .i64 a0_3, .slice A0_4 l0_4.length c0_4]] rfl (by (try simp only [List.map_toArray, List.map_cons, List.map_nil]); first | done | rfl | (simp only [List.length_drop, List.length_take]; rfl)) ?_; (with_reducible refine (exactpplref06_Parts.calls k a0_0 a0_1 a0_2 a0_3 _ _ l0_4 t308 _ ?side1 ?side2 A9.out).mono ?_); (case side1 => repeat (first | exact (Kd.C_below HR0_4.out HB.out) | (with_reducible refine Kd.C_alloc ?_ _) | (with_reducible refine Kd.C_drewN ?_ _) | (with_reducible refine Kd.C_drew ?_))); (case side2 => exact HC0_4.out); rintro e w25 ⟨v309, rfl, ho0, hb⟩; refine ⟨_, rfl, ?_⟩; have n0_ := Aside0.mk (Kd.R_lower ho0 (below_size (by repeat (first | (with_reducible first | exact HB.out | apply below_alloc | apply pw_below_drewN | apply below_drew1 | refine below_set ?_ GE305.out) | exact HB.out)))); have n1_ := Aside0.mk (blk_below (g := gb305) (o := .cells #[.int .i64 a0_0, .int .i64 a0_1, .int .i64 a0_2, .int .i64 a0_3, .slice A0_4 l0_4.length c0_4] 24 (0, 0)) (by (with_reducible repeat (first | refine blk_drewN ?_ _ | refine blk_drew ?_ | refine blk_alloc ?_ _)); exact BK305.out) hb); have n2_ := Aside0.mk (below_step (by repeat (first | (with_reducible first | exact HB.out | apply below_alloc | apply pw_below_drewN | apply below_drew1 | refine below_set ?_ GE305.out) | exact HB.out)) hb); clear BK305; clear HB; have HO310 := n0_; have BK305 := n1_; have HB := n2_; clear n0_ n1_ n2_; (try clear hb); (try clear hb2); (try clear hk); (try clear hi); (try clear ho0); obtain ⟨Ao26, co26, eo26⟩ := Kd.R_slice HO310.out; subst eo26))
        go_ret
        exact ⟨by first | rfl | (simp [errW_none, errW_some] <;> rfl) | (simp [*, errW_none, errW_some] <;> rfl), by repeat (first | (with_reducible first | exact HB.out | apply below_alloc | apply pw_below_drewN | apply below_drew1 | refine below_set ?_ GE305.out) | exact HB.out)⟩
    · rw [if_neg c8] at H
      have c8b0 : (t307 == 0) = false := beq_eq_false_iff_ne.mpr c8
      have c8b1 : (t307 != 0) = true := bne_iff_ne.mpr c8
      obtain rfl := Option.some.inj H
      go_enter Tryd.func22, Tryd.ntmps22
      go_wp2_with (first | ((with_reducible refine gate_dst (N := 1) rfl ?_); refine box_event ?hg (N := 1) ?hd (cs := #[.int .i64 a0_0, .int .i64 a0_1, .int .i64 a0_2, .int .i64 a0_3, .slice A0_4 l0_4.length c0_4]) (t := 24) ?hr ?_; (case hd => rfl); (case hg => rfl); (case hr => first | (go_simp; done) | (go_simp; rfl)); intro gb305 hg w27 hbox hb; have n0_ := Aside0.mk (below_step (by repeat (first | (with_reducible first | exact HB.out | apply below_alloc | apply pw_below_drewN | apply below_drew1) | exact HB.out)) hb); have n1_ := Aside0.mk (hbox); have n2_ := Aside0.mk ((by rw [hg]; exact (below_size (by repeat (first | (with_reducible first | exact HB.out | apply below_alloc | apply pw_below_drewN | apply below_drew1) | exact HB.out))) : w.heap.size ≤ gb305)); have n3_ := Aside0.mk ((by rw [hg]; exact (below_size (by repeat (first | (with_reducible first | exact HB.out | apply below_alloc | apply pw_below_drewN | apply below_drew1) | exact HB.out))) : w.heap.size ≤ gb305)); clear HB; have HB := n0_; have BK305 := n1_; have GW305 := n2_; have GE305 := n3_; clear n0_ n1_ n2_ n3_; clear hb hbox hg; have hcz28_0 : w27.cell? ⟨gb305, 0, none⟩ = some (.int .i64 a0_0) := (blk_cell BK305.out 0).trans rfl; have hcz28_1 : w27.cell? ⟨gb305, 1, none⟩ = some (.int .i64 a0_1) := (blk_cell BK305.out 1).trans rfl; have hcz28_2 : w27.cell? ⟨gb305, 2, none⟩ = some (.int .i64 a0_2) := (blk_cell BK305.out 2).trans rfl; have hcz28_3 : w27.cell? ⟨gb305, 3, none⟩ = some (.int .i64 a0_3) := (blk_cell BK305.out 3).trans rfl; have hcz28_4 : w27.cell? ⟨gb305, 4, none⟩ = some (.slice A0_4 l0_4.length c0_4) := (blk_cell BK305.out 4).trans rfl; have hfz28_0 := blk_frozen BK305.out 0; have hfz28_1 := blk_frozen BK305.out 1; have hfz28_2 := blk_frozen BK305.out 2; have hfz28_3 := blk_frozen BK305.out 3; have hfz28_4 := blk_frozen BK305.out 4) | ((with_reducible refine gate_callee (f := 45) rfl ?_); refine goesL_ (some 5) rfl rfl Tryd.func45 (by kernel_rfl) rfl #[.agg #[.int .i64 a0_0, .int .i64 a0_1, .int .i64 a0_2, .int .i64 a0_3, .slice A0_4 l0_4.length c0_4], .int .i64 11] rfl (by (try simp only [List.map_toArray, List.map_cons, List.map_nil]); first | done | rfl | (simp only [List.length_drop, List.length_take]; rfl)) ?_; (with_reducible refine (exactpplref06_Depth.calls k a0_0 a0_1 a0_2 a0_3 _ _ l0_4 11 t306 _ ?side1 ?side2 A2.out).mono ?_); (case side1 => repeat (first | exact (Kd.C_below HR0_4.out HB.out) | (with_reducible refine Kd.C_alloc ?_ _) | (with_reducible refine Kd.C_drewN ?_ _) | (with_reducible refine Kd.C_drew ?_))); (case side2 => exact HC0_4.out); rintro e w29 ⟨rfl, hb⟩; refine ⟨_, rfl, ?_⟩; have n0_ := Aside0.mk (blk_below (g := gb305) (o := .cells #[.int .i64 a0_0, .int .i64 a0_1, .int .i64 a0_2, .int .i64 a0_3, .slice A0_4 l0_4.length c0_4] 24 (0, 0)) (by (with_reducible repeat (first | refine blk_drewN ?_ _ | refine blk_drew ?_ | refine blk_alloc ?_ _)); exact BK305.out) hb); have n1_ := Aside0.mk (below_step (by repeat (first | (with_reducible first | exact HB.out | apply below_alloc | apply pw_below_drewN | apply below_drew1 | refine below_set ?_ GE305.out) | exact HB.out)) hb); clear BK305; clear HB; have BK305 := n0_; have HB := n1_; clear n0_ n1_; (try clear hb); (try clear hb2); (try clear hk); (try clear hi); have hcz30_0 : w29.cell? ⟨gb305, 0, none⟩ = some (.int .i64 a0_0) := (blk_cell BK305.out 0).trans rfl; have hcz30_1 : w29.cell? ⟨gb305, 1, none⟩ = some (.int .i64 a0_1) := (blk_cell BK305.out 1).trans rfl; have hcz30_2 : w29.cell? ⟨gb305, 2, none⟩ = some (.int .i64 a0_2) := (blk_cell BK305.out 2).trans rfl; have hcz30_3 : w29.cell? ⟨gb305, 3, none⟩ = some (.int .i64 a0_3) := (blk_cell BK305.out 3).trans rfl; have hcz30_4 : w29.cell? ⟨gb305, 4, none⟩ = some (.slice A0_4 l0_4.length c0_4) := (blk_cell BK305.out 4).trans rfl; have hfz30_0 := blk_frozen BK305.out 0; have hfz30_1 := blk_frozen BK305.out 1; have hfz30_2 := blk_frozen BK305.out 2; have hfz30_3 := blk_frozen BK305.out 3; have hfz30_4 := blk_frozen BK305.out 4) | ((with_reducible refine gate_callee (f := 46) rfl ?_); refine goesL_ (some 8) rfl rfl Tryd.func46 (by kernel_rfl) rfl #[.agg #[.int .i64 a0_0, .int .i64 a0_1, .int .i64 a0_2, .int .i64 a0_3, .slice A0_4 l0_4.length c0_4]] rfl (by (try simp only [List.map_toArray, List.map_cons, List.map_nil]); first | done | rfl | (simp only [List.length_drop, List.length_take]; rfl)) ?_; (with_reducible refine (exactpplref06_wrong.calls k a0_0 a0_1 a0_2 a0_3 _ _ l0_4 t307 _ ?side1 ?side2 A7.out).mono ?_); (case side1 => repeat (first | exact (Kd.C_below HR0_4.out HB.out) | (with_reducible refine Kd.C_alloc ?_ _) | (with_reducible refine Kd.C_drewN ?_ _) | (with_reducible refine Kd.C_drew ?_))); (case side2 => exact HC0_4.out); rintro e w31 ⟨rfl, hb⟩; refine ⟨_, rfl, ?_⟩; have n0_ := Aside0.mk (blk_below (g := gb305) (o := .cells #[.int .i64 a0_0, .int .i64 a0_1, .int .i64 a0_2, .int .i64 a0_3, .slice A0_4 l0_4.length c0_4] 24 (0, 0)) (by (with_reducible repeat (first | refine blk_drewN ?_ _ | refine blk_drew ?_ | refine blk_alloc ?_ _)); exact BK305.out) hb); have n1_ := Aside0.mk (below_step (by repeat (first | (with_reducible first | exact HB.out | apply below_alloc | apply pw_below_drewN | apply below_drew1 | refine below_set ?_ GE305.out) | exact HB.out)) hb); clear BK305; clear HB; have BK305 := n0_; have HB := n1_; clear n0_ n1_; (try clear hb); (try clear hb2); (try clear hk); (try clear hi)))
      go_ret
      exact ⟨by first | rfl | (simp [errW_none, errW_some] <;> rfl) | (simp [*, errW_none, errW_some] <;> rfl), by repeat (first | (with_reducible first | exact HB.out | apply below_alloc | apply pw_below_drewN | apply below_drew1 | refine below_set ?_ GE305.out) | exact HB.out)⟩

end Go.Proofs.YtggelekooacmnaaDoor.Q
namespace Go.Proofs.YtggelekooacmnaaDoor.Q
open Go.RowKit Go.Proofs.YtggelekooacmnaaDoorW.PrintWords Go.Proofs.YtggelekooacmnaaDoorW.PrintLast Go.Proofs.YtggelekooacmnaaDoorW.PrintMore
attribute [local go_sem] max2_int min2_int max_two min_two max_three min_three max_four min_four   -- for this text's walks alone
set_option linter.unusedVariables false
set_option linter.unusedSimpArgs false

/-! ### exactpplref06_Equal: function 24 -/
mutual
def exactpplref06_Equal.j0 : Nat → Bool → Int → Int → Int → Int → List (S24) → Int → Int → Int → Int → List (S24) → Option (Bool)
 | 0, _, _, _, _, _, _, _, _, _, _, _ => none
 | k + 1, x40, x312000, x312001, x312002, x312003, x312004, x313000, x313001, x313002, x313003, x313004 => if x40 = true then (some false) else (exactpplref06_Equal.l0 k 0 x312000 x312001 x312002 x312003 x312004 x313000 x313001 x313002 x313003 x313004)
def exactpplref06_Equal.l0 : Nat → Int → Int → Int → Int → Int → List (S24) → Int → Int → Int → Int → List (S24) → Option (Bool)
 | 0, _, _, _, _, _, _, _, _, _, _, _ => none
 | k + 1, x5, x312000, x312001, x312002, x312003, x312004, x313000, x313001, x313002, x313003, x313004 => if x5 < (x312004.length : Int) then (if 0 ≤ x5 then (if x5 < (x313004.length : Int) then ((exactpplref06_Equal.f k ((rd_T24 x312004 x5).f0) ((rd_T24 x312004 x5).f1) ((rd_T24 x312004 x5).f2) ((rd_T24 x312004 x5).f3) ((rd_T24 x312004 x5).f4) ((rd_T24 x313004 x5).f0) ((rd_T24 x313004 x5).f1) ((rd_T24 x313004 x5).f2) ((rd_T24 x313004 x5).f3) ((rd_T24 x313004 x5).f4)).bind fun t315 => (if t315 = true then (exactpplref06_Equal.l0 k (wrap64 (x5 + 1)) x312000 x312001 x312002 x312003 x312004 x313000 x313001 x313002 x313003 x313004) else (some false))) else (none)) else (none)) else (some true)
def exactpplref06_Equal.f : Nat → Int → Int → Int → Int → List (S24) → Int → Int → Int → Int → List (S24) → Option (Bool)
 | 0, _, _, _, _, _, _, _, _, _, _ => none
 | k + 1, a0_0, a0_1, a0_2, a0_3, l0_4, a1_0, a1_1, a1_2, a1_3, l1_4 => if a0_0 = a1_0 then (if a0_1 = a1_1 then (if a0_2 = a1_2 then (if a0_3 = a1_3 then (exactpplref06_Equal.j0 k ((l0_4.length : Int) != (l1_4.length : Int)) a0_0 a0_1 a0_2 a0_3 l0_4 a1_0 a1_1 a1_2 a1_3 l1_4) else (exactpplref06_Equal.j0 k true a0_0 a0_1 a0_2 a0_3 l0_4 a1_0 a1_1 a1_2 a1_3 l1_4)) else (exactpplref06_Equal.j0 k true a0_0 a0_1 a0_2 a0_3 l0_4 a1_0 a1_1 a1_2 a1_3 l1_4)) else (exactpplref06_Equal.j0 k true a0_0 a0_1 a0_2 a0_3 l0_4 a1_0 a1_1 a1_2 a1_3 l1_4)) else (exactpplref06_Equal.j0 k true a0_0 a0_1 a0_2 a0_3 l0_4 a1_0 a1_1 a1_2 a1_3 l1_4)
end
theorem exactpplref06_Equal.mono_l : ∀ k, (∀ y0 y1 y2 y3 y4 y5 y6 y7 y8 y9, LeO (exactpplref06_Equal.f k y0 y1 y2 y3 y4 y5 y6 y7 y8 y9) (exactpplref06_Equal.f (k + 1) y0 y1 y2 y3 y4 y5 y6 y7 y8 y9)) ∧ (∀ y0 y1 y2 y3 y4 y5 y6 y7 y8 y9 y10, LeO (exactpplref06_Equal.j0 k y0 y1 y2 y3 y4 y5 y6 y7 y8 y9 y10) (exactpplref06_Equal.j0 (k + 1) y0 y1 y2 y3 y4 y5 y6 y7 y8 y9 y10)) ∧ (∀ y0 y1 y2 y3 y4 y5 y6 y7 y8 y9 y10, LeO (exactpplref06_Equal.l0 k y0 y1 y2 y3 y4 y5 y6 y7 y8 y9 y10) (exactpplref06_Equal.l0 (k + 1) y0 y1 y2 y3 y4 y5 y6 y7 y8 y9 y10))
 | 0 => ⟨fun _ _ _ _ _ _ _ _ _ _ r h => by simp [exactpplref06_Equal.f] at h, fun _ _ _ _ _ _ _ _ _ _ _ r h => by simp [exactpplref06_Equal.j0] at h, fun _ _ _ _ _ _ _ _ _ _ _ r h => by simp [exactpplref06_Equal.l0] at h⟩
 | k + 1 => by
  obtain ⟨ih0, ih1, ih2⟩ := exactpplref06_Equal.mono_l k
  refine ⟨?_, ?_, ?_⟩
  ·intro y0 y1 y2 y3 y4 y5 y6 y7 y8 y9
   unfold exactpplref06_Equal.f
   repeat' first
   | (with_reducible exact ih0 _ _ _ _ _ _ _ _ _ _)
   | (with_reducible exact ih1 _ _ _ _ _ _ _ _ _ _ _)
   | (with_reducible exact ih2 _ _ _ _ _ _ _ _ _ _ _)
   | (with_reducible exact LeO.refl _)
   | (with_reducible exact LeO.none _)
   | (with_reducible refine LeO.ite ?_ ?_)
   | (with_reducible refine LeO.bind ?_ (fun _ => ?_))
   | exact ih0 _ _ _ _ _ _ _ _ _ _
   | exact ih1 _ _ _ _ _ _ _ _ _ _ _
   | exact ih2 _ _ _ _ _ _ _ _ _ _ _
   | exact LeO.none _
   | refine LeO.ite ?_ ?_
   | refine LeO.bind ?_ (fun _ => ?_)
  ·intro y0 y1 y2 y3 y4 y5 y6 y7 y8 y9 y10
   unfold exactpplref06_Equal.j0
   repeat' first
   | (with_reducible exact ih0 _ _ _ _ _ _ _ _ _ _)
   | (with_reducible exact ih1 _ _ _ _ _ _ _ _ _ _ _)
   | (with_reducible exact ih2 _ _ _ _ _ _ _ _ _ _ _)
   | (with_reducible exact LeO.refl _)
   | (with_reducible exact LeO.none _)
   | (with_reducible refine LeO.ite ?_ ?_)
   | (with_reducible refine LeO.bind ?_ (fun _ => ?_))
   | exact ih0 _ _ _ _ _ _ _ _ _ _
   | exact ih1 _ _ _ _ _ _ _ _ _ _ _
   | exact ih2 _ _ _ _ _ _ _ _ _ _ _
   | exact LeO.none _
   | refine LeO.ite ?_ ?_
   | refine LeO.bind ?_ (fun _ => ?_)
  ·intro y0 y1 y2 y3 y4 y5 y6 y7 y8 y9 y10
   unfold exactpplref06_Equal.l0
   repeat' first
   | (with_reducible exact ih0 _ _ _ _ _ _ _ _ _ _)
   | (with_reducible exact ih1 _ _ _ _ _ _ _ _ _ _ _)
   | (with_reducible exact ih2 _ _ _ _ _ _ _ _ _ _ _)
   | (with_reducible exact LeO.refl _)
   | (with_reducible exact LeO.none _)
   | (with_reducible refine LeO.ite ?_ ?_)
   | (with_reducible refine LeO.bind ?_ (fun _ => ?_))
   | exact ih0 _ _ _ _ _ _ _ _ _ _
   | exact ih1 _ _ _ _ _ _ _ _ _ _ _
   | exact ih2 _ _ _ _ _ _ _ _ _ _ _
   | exact LeO.none _
   | refine LeO.ite ?_ ?_
   | refine LeO.bind ?_ (fun _ => ?_)
theorem exactpplref06_Equal.mono : ∀ a0 a1 a2 a3 a4 a5 a6 a7 a8 a9 k, LeO (exactpplref06_Equal.f k a0 a1 a2 a3 a4 a5 a6 a7 a8 a9) (exactpplref06_Equal.f (k + 1) a0 a1 a2 a3 a4 a5 a6 a7 a8 a9) := by
 intro a0 a1 a2 a3 a4 a5 a6 a7 a8 a9 k
 obtain ⟨ih0, ih1, ih2⟩ := exactpplref06_Equal.mono_l k
 exact ih0 a0 a1 a2 a3 a4 a5 a6 a7 a8 a9
def exactpplref06_Equal.T6 : Bool × List (List Nat × List Nat) := (true, [([], []), ([0], [0]), ([], []), ([1, 2], [1, 2]), ([3], [3]), ([], []), ([5], [5]), ([], []), ([6, 7], [6, 7]), ([8], [8]), ([4, 9], [4, 9]), ([10], [10])])
def exactpplref06_Equal.B6 : List Nat := [0, 1, 0, 7, 15, 0, 32, 0, 224, 480, 1023, 2047]
theorem exactpplref06_Equal.tab6 : rtab .any (opsOf Tryd.f24 6) = exactpplref06_Equal.T6 := by kernel_rfl
theorem exactpplref06_Equal.bits6 : waitsOk exactpplref06_Equal.T6.2 exactpplref06_Equal.B6 = true := by kernel_rfl
set_option maxHeartbeats 8000000 in
set_option maxRecDepth 100000 in
theorem exactpplref06_Equal.calls (k : Nat) : ∀ (a0_0 : Int) (a0_1 : Int) (a0_2 : Int) (a0_3 : Int) (A0_4 : Option Addr) (c0_4 : Nat) (l0_4 : List (S24)) (a1_0 : Int) (a1_1 : Int) (a1_2 : Int) (a1_3 : Int) (A1_4 : Option Addr) (c1_4 : Nat) (l1_4 : List (S24)) (r : Bool) (w : World) (hr0_4 : Kd.C k24 w A0_4 l0_4.length l0_4) (hc0_4 : l0_4.length ≤ c0_4) (hr1_4 : Kd.C k24 w A1_4 l1_4.length l1_4) (hc1_4 : l1_4.length ≤ c1_4) (h : exactpplref06_Equal.f k a0_0 a0_1 a0_2 a0_3 l0_4 a1_0 a1_1 a1_2 a1_3 l1_4 = some r),
  Calls Tryd.prog 24 #[.agg #[.int .i64 a0_0, .int .i64 a0_1, .int .i64 a0_2, .int .i64 a0_3, .slice A0_4 l0_4.length c0_4], .agg #[.int .i64 a1_0, .int .i64 a1_1, .int .i64 a1_2, .int .i64 a1_3, .slice A1_4 l1_4.length c1_4]] w fun e w' => e = .returned (.bool r) ∧ Below w.heap.size w w' := by
 induction k using Nat.strongRecOn with
 | _ k ih =>
 intro a0_0 a0_1 a0_2 a0_3 A0_4 c0_4 l0_4 a1_0 a1_1 a1_2 a1_3 A1_4 c1_4 l1_4 r w hr0_4 hc0_4 hr1_4 hc1_4 h
 cases k with
 | zero => exact absurd h (by simp [exactpplref06_Equal.f])
 | succ k =>
 simp only [exactpplref06_Equal.f] at h
 have hu24 := Tryd.underlying24
 have HR0_4 := Aside0.mk hr0_4
 have HC0_4 := Aside0.mk hc0_4
 clear hr0_4 hc0_4
 have HR1_4 := Aside0.mk hr1_4
 have HC1_4 := Aside0.mk hc1_4
 clear hr1_4 hc1_4
 have HB := Aside0.mk (Below.refl w.heap.size w)
 have H : (if a0_0 = a1_0 then (if a0_1 = a1_1 then (if a0_2 = a1_2 then (if a0_3 = a1_3 then (exactpplref06_Equal.j0 k ((l0_4.length : Int) != (l1_4.length : Int)) a0_0 a0_1 a0_2 a0_3 l0_4 a1_0 a1_1 a1_2 a1_3 l1_4) else (exactpplref06_Equal.j0 k true a0_0 a0_1 a0_2 a0_3 l0_4 a1_0 a1_1 a1_2 a1_3 l1_4)) else (exactpplref06_Equal.j0 k true a0_0 a0_1 a0_2 a0_3 l0_4 a1_0 a1_1 a1_2 a1_3 l1_4)) else (exactpplref06_Equal.j0 k true a0_0 a0_1 a0_2 a0_3 l0_4 a1_0 a1_1 a1_2 a1_3 l1_4)) else (exactpplref06_Equal.j0 k true a0_0 a0_1 a0_2 a0_3 l0_4 a1_0 a1_1 a1_2 a1_3 l1_4)) = some r := h
 clear h
 have HC3 := Aside0.mk H
 clear H
 go_enter Tryd.func24, Tryd.ntmps24
 go_upto_region 1 with (first | ((with_reducible refine gate_dst (N := 2) rfl ?_); (try (refine gate_guard (by rfl) ?_; dsimp only)); refine box_event ?hg (N := 2) ?hd (cs := #[.int .i64 a0_0, .int .i64 a0_1, .int .i64 a0_2, .int .i64 a0_3, .slice A0_4 l0_4.length c0_4]) (t := 24) ?hr ?_; (case hd => rfl); (case hg => rfl); (case hr => first | (go_simp; done) | (go_simp; rfl)); intro gb311 hg w4 hbox hb; have BK311 := Aside0.mk (hbox); have GW311 : Aside0 (w.heap.size ≤ gb311) := gw_ hg (below_size bl_); have GE311 := GW311; replace HB := Aside0.mk (below_step bl_ hb); clear hb hbox hg) | ((with_reducible refine gate_dst (N := 3) rfl ?_); (try (refine gate_guard (by rfl) ?_; dsimp only)); refine box_event ?hg (N := 3) ?hd (cs := #[.int .i64 a1_0, .int .i64 a1_1, .int .i64 a1_2, .int .i64 a1_3, .slice A1_4 l1_4.length c1_4]) (t := 24) ?hr ?_; (case hd => rfl); (case hg => rfl); (case hr => first | (go_simp; done) | (go_simp; rfl)); intro gb312 hg w5 hbox hb; have BK312 := Aside0.mk (hbox); have GW312 : Aside0 (w.heap.size ≤ gb312) := gw_ hg (below_size bl_); have GE312 := GW312; have NB311_312 := Aside0.mk ((by rw [hg]; exact Nat.ne_of_lt (blk_lt (g := gb311) (o := .cells #[.int .i64 a0_0, .int .i64 a0_1, .int .i64 a0_2, .int .i64 a0_3, .slice A0_4 l0_4.length c0_4] 24 (0, 0)) bk_) : gb311 ≠ gb312)); have NB312_311 := Aside0.mk ((by rw [hg]; exact Nat.ne_of_gt (blk_lt (g := gb311) (o := .cells #[.int .i64 a0_0, .int .i64 a0_1, .int .i64 a0_2, .int .i64 a0_3, .slice A0_4 l0_4.length c0_4] 24 (0, 0)) bk_) : gb312 ≠ gb311)); replace BK311 := Aside0.mk (blk_below (g := gb311) (o := .cells #[.int .i64 a0_0, .int .i64 a0_1, .int .i64 a0_2, .int .i64 a0_3, .slice A0_4 l0_4.length c0_4] 24 (0, 0)) bk_ hb); replace HB := Aside0.mk (below_step bl_ hb); clear hb hbox hg))
 (try simp only [Act.put, List.setIfInBounds_toArray, List.set_cons_zero, List.set_cons_succ])
 go_cut [40] (fun v40 wc => ∃ (kq : Nat) (x40_2 : Bool), v40 = .bool x40_2 ∧ Aside0 (exactpplref06_Equal.j0 kq x40_2 a0_0 a0_1 a0_2 a0_3 l0_4 a1_0 a1_1 a1_2 a1_3 l1_4 = some r) ∧ Aside0 (kq ≤ k) ∧ Aside0 (wc.heap[gb311]? = some (.cells #[.int .i64 a0_0, .int .i64 a0_1, .int .i64 a0_2, .int .i64 a0_3, (.slice A0_4 l0_4.length c0_4)] 24 (0, 0))) ∧ Aside0 (wc.heap[gb312]? = some (.cells #[.int .i64 a1_0, .int .i64 a1_1, .int .i64 a1_2, .int .i64 a1_3, (.slice A1_4 l1_4.length c1_4)] 24 (0, 0))) ∧ Aside0 (Below w.heap.size w wc))
 case first =>
  have H := HC3.out
  clear HC3
  by_cases c6 : a0_0 = a1_0
  ·rw [if_pos c6] at H
   have c6b0 : (a0_0 == a1_0) = true := beq_iff_eq.mpr c6
   have c6b1 : (a0_0 != a1_0) = false := bne_eq_false_iff_eq.mpr c6
   clear c6
   (first | rw [c6b0] | (simp only [i64_w, i32_w]; rw [c6b0]) | skip)
   by_cases c7 : a0_1 = a1_1
   ·rw [if_pos c7] at H
    have c7b0 : (a0_1 == a1_1) = true := beq_iff_eq.mpr c7
    have c7b1 : (a0_1 != a1_1) = false := bne_eq_false_iff_eq.mpr c7
    clear c7
    by_cases c8 : a0_2 = a1_2
    ·rw [if_pos c8] at H
     have c8b0 : (a0_2 == a1_2) = true := beq_iff_eq.mpr c8
     have c8b1 : (a0_2 != a1_2) = false := bne_eq_false_iff_eq.mpr c8
     clear c8
     by_cases c9 : a0_3 = a1_3
     ·rw [if_pos c9] at H
      have c9b0 : (a0_3 == a1_3) = true := beq_iff_eq.mpr c9
      have c9b1 : (a0_3 != a1_3) = false := bne_eq_false_iff_eq.mpr c9
      clear c9
      have H' := Aside0.mk H
      clear H
      have hnb10 := NB311_312.out
      have hnc10 := NB312_311.out
      obtain ⟨hcz11_0, hcz11_1, hcz11_2, hcz11_3, hcz11_4, hfz11_0, hfz11_1, hfz11_2, hfz11_3, hfz11_4⟩ := cf5_ BK311.out
      obtain ⟨hcz12_0, hcz12_1, hcz12_2, hcz12_3, hcz12_4, hfz12_0, hfz12_1, hfz12_2, hfz12_3, hfz12_4⟩ := cf5_ BK312.out
      go_wp2
      go_meet
      case rel => exact ⟨_, (((l0_4.length : Int) != (l1_4.length : Int))), rs_, H', ⟨by first | omega | exact Nat.le_refl _⟩, ⟨bk_⟩, ⟨bk_⟩, ⟨bl_⟩⟩
     ·rw [if_neg c9] at H
      have c9b0 : (a0_3 == a1_3) = false := beq_eq_false_iff_ne.mpr c9
      have c9b1 : (a0_3 != a1_3) = true := bne_iff_ne.mpr c9
      have H' := Aside0.mk H
      clear H
      have hnb13 := NB311_312.out
      have hnc13 := NB312_311.out
      obtain ⟨hcz14_0, hcz14_1, hcz14_2, hcz14_3, hcz14_4, hfz14_0, hfz14_1, hfz14_2, hfz14_3, hfz14_4⟩ := cf5_ BK311.out
      obtain ⟨hcz15_0, hcz15_1, hcz15_2, hcz15_3, hcz15_4, hfz15_0, hfz15_1, hfz15_2, hfz15_3, hfz15_4⟩ := cf5_ BK312.out
      go_wp2
      go_meet
      case rel => exact ⟨_, (true), rs_, H', ⟨by first | omega | exact Nat.le_refl _⟩, ⟨bk_⟩, ⟨bk_⟩, ⟨bl_⟩⟩
    ·rw [if_neg c8] at H
     have c8b0 : (a0_2 == a1_2) = false := beq_eq_false_iff_ne.mpr c8
     have c8b1 : (a0_2 != a1_2) = true := bne_iff_ne.mpr c8
     have H' := Aside0.mk H
     clear H
     have hnb16 := NB311_312.out
     have hnc16 := NB312_311.out
     obtain ⟨hcz17_0, hcz17_1, hcz17_2, hcz17_3, hcz17_4, hfz17_0, hfz17_1, hfz17_2, hfz17_3, hfz17_4⟩ := cf5_ BK311.out
     obtain ⟨hcz18_0, hcz18_1, hcz18_2, hcz18_3, hcz18_4, hfz18_0, hfz18_1, hfz18_2, hfz18_3, hfz18_4⟩ := cf5_ BK312.out
     go_wp2
     go_meet
     case rel => exact ⟨_, (true), rs_, H', ⟨by first | omega | exact Nat.le_refl _⟩, ⟨bk_⟩, ⟨bk_⟩, ⟨bl_⟩⟩
   ·rw [if_neg c7] at H
    have c7b0 : (a0_1 == a1_1) = false := beq_eq_false_iff_ne.mpr c7
    have c7b1 : (a0_1 != a1_1) = true := bne_iff_ne.mpr c7
    have H' := Aside0.mk H
    clear H
    have hnb19 := NB311_312.out
    have hnc19 := NB312_311.out
    obtain ⟨hcz20_0, hcz20_1, hcz20_2, hcz20_3, hcz20_4, hfz20_0, hfz20_1, hfz20_2, hfz20_3, hfz20_4⟩ := cf5_ BK311.out
    obtain ⟨hcz21_0, hcz21_1, hcz21_2, hcz21_3, hcz21_4, hfz21_0, hfz21_1, hfz21_2, hfz21_3, hfz21_4⟩ := cf5_ BK312.out
    go_wp2
    go_meet
    case rel => exact ⟨_, (true), rs_, H', ⟨by first | omega | exact Nat.le_refl _⟩, ⟨bk_⟩, ⟨bk_⟩, ⟨bl_⟩⟩
  ·rw [if_neg c6] at H
   have c6b0 : (a0_0 == a1_0) = false := beq_eq_false_iff_ne.mpr c6
   have c6b1 : (a0_0 != a1_0) = true := bne_iff_ne.mpr c6
   (first | rw [c6b0] | (simp only [i64_w, i32_w]; rw [c6b0]) | skip)
   have H' := Aside0.mk H
   clear H
   have hnb22 := NB311_312.out
   have hnc22 := NB312_311.out
   obtain ⟨hcz23_0, hcz23_1, hcz23_2, hcz23_3, hcz23_4, hfz23_0, hfz23_1, hfz23_2, hfz23_3, hfz23_4⟩ := cf5_ BK311.out
   obtain ⟨hcz24_0, hcz24_1, hcz24_2, hcz24_3, hcz24_4, hfz24_0, hfz24_1, hfz24_2, hfz24_3, hfz24_4⟩ := cf5_ BK312.out
   go_wp2
   go_meet
   case rel => exact ⟨_, (true), rs_, H', ⟨by first | omega | exact Nat.le_refl _⟩, ⟨bk_⟩, ⟨bk_⟩, ⟨bl_⟩⟩
 case rest =>
  clear HC3
  try clear c1
  try clear c2
  try clear p2
  try clear c6
  try clear c6b0
  try clear c6b1
  try clear c7
  try clear c7b0
  try clear c7b1
  try clear c8
  try clear c8b0
  try clear c8b1
  try clear c9
  try clear c9b0
  try clear c9b1
  try clear c10
  try clear c13
  try clear c16
  try clear c19
  try clear c22
  try clear c24
  try clear hcz11_0 hcz11_1 hcz11_2 hcz11_3 hcz11_4 hfz11_0 hfz11_1 hfz11_2 hfz11_3 hfz11_4
  try clear hcz12_0 hcz12_1 hcz12_2 hcz12_3 hcz12_4 hfz12_0 hfz12_1 hfz12_2 hfz12_3 hfz12_4
  try clear hcz14_0 hcz14_1 hcz14_2 hcz14_3 hcz14_4 hfz14_0 hfz14_1 hfz14_2 hfz14_3 hfz14_4
  try clear hcz15_0 hcz15_1 hcz15_2 hcz15_3 hcz15_4 hfz15_0 hfz15_1 hfz15_2 hfz15_3 hfz15_4
  try clear hcz17_0 hcz17_1 hcz17_2 hcz17_3 hcz17_4 hfz17_0 hfz17_1 hfz17_2 hfz17_3 hfz17_4
  try clear hcz18_0 hcz18_1 hcz18_2 hcz18_3 hcz18_4 hfz18_0 hfz18_1 hfz18_2 hfz18_3 hfz18_4
  try clear hcz20_0 hcz20_1 hcz20_2 hcz20_3 hcz20_4 hfz20_0 hfz20_1 hfz20_2 hfz20_3 hfz20_4
  try clear hcz21_0 hcz21_1 hcz21_2 hcz21_3 hcz21_4 hfz21_0 hfz21_1 hfz21_2 hfz21_3 hfz21_4
  try clear hcz23_0 hcz23_1 hcz23_2 hcz23_3 hcz23_4 hfz23_0 hfz23_1 hfz23_2 hfz23_3 hfz23_4
  try clear hcz24_0 hcz24_1 hcz24_2 hcz24_3 hcz24_4 hfz24_0 hfz24_1 hfz24_2 hfz24_3 hfz24_4
  obtain ⟨kq, x40_2, rfl, HA, HJ2, BK311, BK312, HB⟩ := hcut
  cases kq with
  | zero => exact absurd HA.out (by simp [exactpplref06_Equal.j0])
  | succ kj2 =>
   have H := HA.out
   clear HA
   simp only [exactpplref06_Equal.j0] at H
   by_cases c25 : x40_2 = true
   ·subst c25
    have H1 : (some false) = some r := by rw [if_pos rfl] at H; exact H
    clear H
    have H := H1
    clear H1
    obtain rfl := Option.some.inj H
    go_wp2
    go_ret
    exact ⟨re_, bl_⟩
   ·replace c25 := Bool.eq_false_iff.mpr c25
    subst c25
    have H1 : (exactpplref06_Equal.l0 kj2 0 a0_0 a0_1 a0_2 a0_3 l0_4 a1_0 a1_1 a1_2 a1_3 l1_4) = some r := by rw [if_neg (show ¬ (false = true) by decide)] at H; exact H
    clear H
    have H := H1
    clear H1
    have H' := Aside0.mk H
    clear H
    go_wp2
    go_loopg [5] kj2 (fun kq v5 w' => ∃ (x5_2 : Int), v5 = .int .i64 x5_2 ∧ Aside0 (exactpplref06_Equal.l0 kq x5_2 a0_0 a0_1 a0_2 a0_3 l0_4 a1_0 a1_1 a1_2 a1_3 l1_4 = some r) ∧ Aside0 (kq ≤ kj2) ∧ Aside0 (w'.heap[gb311]? = some (.cells #[.int .i64 a0_0, .int .i64 a0_1, .int .i64 a0_2, .int .i64 a0_3, (.slice A0_4 l0_4.length c0_4)] 24 (0, 0))) ∧ Aside0 (w'.heap[gb312]? = some (.cells #[.int .i64 a1_0, .int .i64 a1_1, .int .i64 a1_2, .int .i64 a1_3, (.slice A1_4 l1_4.length c1_4)] 24 (0, 0))) ∧ Aside0 (Below w.heap.size w w'))
    case atStart => exact ⟨(0), rs_, H', ⟨Nat.le_refl _⟩, ⟨bk_⟩, ⟨bk_⟩, ⟨bl_⟩⟩
    case round =>
     clear H'
     try clear c1
     try clear c2
     try clear p2
     try clear c6
     try clear c6b0
     try clear c6b1
     try clear c7
     try clear c7b0
     try clear c7b1
     try clear c8
     try clear c8b0
     try clear c8b1
     try clear c9
     try clear c9b0
     try clear c9b1
     try clear c10
     try clear c13
     try clear c16
     try clear c19
     try clear c22
     try clear c24
     try clear c25
     try clear hcz11_0 hcz11_1 hcz11_2 hcz11_3 hcz11_4 hfz11_0 hfz11_1 hfz11_2 hfz11_3 hfz11_4
     try clear hcz12_0 hcz12_1 hcz12_2 hcz12_3 hcz12_4 hfz12_0 hfz12_1 hfz12_2 hfz12_3 hfz12_4
     try clear hcz14_0 hcz14_1 hcz14_2 hcz14_3 hcz14_4 hfz14_0 hfz14_1 hfz14_2 hfz14_3 hfz14_4
     try clear hcz15_0 hcz15_1 hcz15_2 hcz15_3 hcz15_4 hfz15_0 hfz15_1 hfz15_2 hfz15_3 hfz15_4
     try clear hcz17_0 hcz17_1 hcz17_2 hcz17_3 hcz17_4 hfz17_0 hfz17_1 hfz17_2 hfz17_3 hfz17_4
     try clear hcz18_0 hcz18_1 hcz18_2 hcz18_3 hcz18_4 hfz18_0 hfz18_1 hfz18_2 hfz18_3 hfz18_4
     try clear hcz20_0 hcz20_1 hcz20_2 hcz20_3 hcz20_4 hfz20_0 hfz20_1 hfz20_2 hfz20_3 hfz20_4
     try clear hcz21_0 hcz21_1 hcz21_2 hcz21_3 hcz21_4 hfz21_0 hfz21_1 hfz21_2 hfz21_3 hfz21_4
     try clear hcz23_0 hcz23_1 hcz23_2 hcz23_3 hcz23_4 hfz23_0 hfz23_1 hfz23_2 hfz23_3 hfz23_4
     try clear hcz24_0 hcz24_1 hcz24_2 hcz24_3 hcz24_4 hfz24_0 hfz24_1 hfz24_2 hfz24_3 hfz24_4
     try clear p2
     obtain ⟨x5_2, rfl, HA, HK2, BK311, BK312, HB⟩ := hrel
     cases gk with
     | zero => exact absurd HA.out (by simp [exactpplref06_Equal.l0])
     | succ k2 =>
      have H := HA.out
      clear HA
      simp only [exactpplref06_Equal.l0] at H
      by_cases c26 : x5_2 < (l0_4.length : Int)
      ·rw [if_pos c26] at H
       have c26b0 : decide (x5_2 < (l0_4.length : Int)) = true := decide_eq_true c26
       clear c26
       by_cases c27 : 0 ≤ x5_2
       ·rw [if_pos c27] at H
        have c27b0 : decide (0 ≤ x5_2) = true := decide_eq_true c27
        clear c27
        by_cases c28 : x5_2 < (l1_4.length : Int)
        ·rw [if_pos c28] at H
         have c28b0 : decide (x5_2 < (l1_4.length : Int)) = true := decide_eq_true c28
         clear c28
         replace H := Option.bind_eq_some_iff.mp H
         obtain ⟨t315, A290, H⟩ := H
         replace H : (if t315 = true then (exactpplref06_Equal.l0 k2 (wrap64 (x5_2 + 1)) a0_0 a0_1 a0_2 a0_3 l0_4 a1_0 a1_1 a1_2 a1_3 l1_4) else (some false)) = some r := H
         have A29 := Aside0.mk A290
         clear A290
         by_cases c30 : t315 = true
         ·subst c30
          have H1 : (exactpplref06_Equal.l0 k2 (wrap64 (x5_2 + 1)) a0_0 a0_1 a0_2 a0_3 l0_4 a1_0 a1_1 a1_2 a1_3 l1_4) = some r := by rw [if_pos rfl] at H; exact H
          clear H
          have H := H1
          clear H1
          have H' := Aside0.mk H
          clear H
          have hnb31 := NB311_312.out
          have hnc31 := NB312_311.out
          obtain ⟨hcz32_0, hcz32_1, hcz32_2, hcz32_3, hcz32_4, hfz32_0, hfz32_1, hfz32_2, hfz32_3, hfz32_4⟩ := cf5_ BK311.out
          try go_wp2
          replace BK311 := Aside0.mk (blk_drew BK311.out)
          replace BK312 := Aside0.mk (blk_drew BK312.out)
          replace HB := Aside0.mk (below_drew1 HB.out)
          have p313 : 0 ≤ (x5_2 : Int) := dt_
          have q313 : x5_2 < (l0_4.length : Int) := dt_
          obtain ⟨ad313, A313_4, c313_4, e313, hx313_0, hx313_1, hx313_2, hx313_3, hx313_4, hl313_4, hi313_4⟩ := at_T24 HR0_4.out x5_2 p313 q313
          have hw313_4 := hx313_4
          have hw313_3 := hx313_3
          have hw313_2 := hx313_2
          have hw313_1 := hx313_1
          have hw313_0 := hx313_0
          cases e313
          replace hx313_0 := (HB.out.cell (World.block_lt_of_cell? w _ hx313_0)).trans hx313_0
          replace hx313_1 := (HB.out.cell (World.block_lt_of_cell? w _ hx313_1)).trans hx313_1
          replace hx313_2 := (HB.out.cell (World.block_lt_of_cell? w _ hx313_2)).trans hx313_2
          replace hx313_3 := (HB.out.cell (World.block_lt_of_cell? w _ hx313_3)).trans hx313_3
          replace hx313_4 := (HB.out.cell (World.block_lt_of_cell? w _ hx313_4)).trans hx313_4
          have HR313_4 := Aside0.mk hi313_4
          have HC313_4 := Aside0.mk hl313_4
          clear hi313_4 hl313_4
          replace p313 := eq_true p313
          replace q313 := eq_true q313
          have p314 : 0 ≤ (x5_2 : Int) := dt_
          have q314 : x5_2 < (l1_4.length : Int) := dt_
          obtain ⟨ad314, A314_4, c314_4, e314, hx314_0, hx314_1, hx314_2, hx314_3, hx314_4, hl314_4, hi314_4⟩ := at_T24 HR1_4.out x5_2 p314 q314
          have hw314_4 := hx314_4
          have hw314_3 := hx314_3
          have hw314_2 := hx314_2
          have hw314_1 := hx314_1
          have hw314_0 := hx314_0
          cases e314
          replace hx314_0 := (HB.out.cell (World.block_lt_of_cell? w _ hx314_0)).trans hx314_0
          replace hx314_1 := (HB.out.cell (World.block_lt_of_cell? w _ hx314_1)).trans hx314_1
          replace hx314_2 := (HB.out.cell (World.block_lt_of_cell? w _ hx314_2)).trans hx314_2
          replace hx314_3 := (HB.out.cell (World.block_lt_of_cell? w _ hx314_3)).trans hx314_3
          replace hx314_4 := (HB.out.cell (World.block_lt_of_cell? w _ hx314_4)).trans hx314_4
          have HR314_4 := Aside0.mk hi314_4
          have HC314_4 := Aside0.mk hl314_4
          clear hi314_4 hl314_4
          replace p314 := eq_true p314
          replace q314 := eq_true q314
          refine start_ (n := 12) (S := fun w' => w'.cell? ⟨gb311, 0, none⟩ = some (.int .i64 a0_0) ∧ w'.cell? ⟨gb311, 1, none⟩ = some (.int .i64 a0_1) ∧ w'.cell? ⟨gb311, 2, none⟩ = some (.int .i64 a0_2) ∧ w'.cell? ⟨gb311, 3, none⟩ = some (.int .i64 a0_3) ∧ w'.cell? ⟨gb311, 4, none⟩ = some (.slice (some ad313) l0_4.length c0_4) ∧ w'.cell? ⟨gb312, 0, none⟩ = some (.int .i64 a1_0) ∧ w'.cell? ⟨gb312, 1, none⟩ = some (.int .i64 a1_1) ∧ w'.cell? ⟨gb312, 2, none⟩ = some (.int .i64 a1_2) ∧ w'.cell? ⟨gb312, 3, none⟩ = some (.int .i64 a1_3) ∧ w'.cell? ⟨gb312, 4, none⟩ = some (.slice (some ad314) l1_4.length c1_4) ∧ w'.cell? (ad313.add ((x5_2).toNat * 5)) = some (.int .i64 ((rd_T24 l0_4 x5_2).f0)) ∧ w'.cell? ⟨(ad313.add ((x5_2).toNat * 5)).block, (ad313.add ((x5_2).toNat * 5)).off + 1, none⟩ = some (.int .i64 ((rd_T24 l0_4 x5_2).f1)) ∧ w'.cell? ⟨(ad313.add ((x5_2).toNat * 5)).block, (ad313.add ((x5_2).toNat * 5)).off + 2, none⟩ = some (.int .i64 ((rd_T24 l0_4 x5_2).f2)) ∧ w'.cell? ⟨(ad313.add ((x5_2).toNat * 5)).block, (ad313.add ((x5_2).toNat * 5)).off + 3, none⟩ = some (.int .i64 ((rd_T24 l0_4 x5_2).f3)) ∧ w'.cell? ⟨(ad313.add ((x5_2).toNat * 5)).block, (ad313.add ((x5_2).toNat * 5)).off + 4, none⟩ = some (.slice A313_4 ((rd_T24 l0_4 x5_2).f4).length c313_4) ∧ w'.cell? (ad314.add ((x5_2).toNat * 5)) = some (.int .i64 ((rd_T24 l1_4 x5_2).f0)) ∧ w'.cell? ⟨(ad314.add ((x5_2).toNat * 5)).block, (ad314.add ((x5_2).toNat * 5)).off + 1, none⟩ = some (.int .i64 ((rd_T24 l1_4 x5_2).f1)) ∧ w'.cell? ⟨(ad314.add ((x5_2).toNat * 5)).block, (ad314.add ((x5_2).toNat * 5)).off + 2, none⟩ = some (.int .i64 ((rd_T24 l1_4 x5_2).f2)) ∧ w'.cell? ⟨(ad314.add ((x5_2).toNat * 5)).block, (ad314.add ((x5_2).toNat * 5)).off + 3, none⟩ = some (.int .i64 ((rd_T24 l1_4 x5_2).f3)) ∧ w'.cell? ⟨(ad314.add ((x5_2).toNat * 5)).block, (ad314.add ((x5_2).toNat * 5)).off + 4, none⟩ = some (.slice A314_4 ((rd_T24 l1_4 x5_2).f4).length c314_4)) (ds := []) #[false, false, false, false, false, false, false, false, false, false, false, false] (by kernel_rfl) rfl rfl ⟨(blk_cell BK311.out 0).trans rfl, (blk_cell BK311.out 1).trans rfl, (blk_cell BK311.out 2).trans rfl, (blk_cell BK311.out 3).trans rfl, (blk_cell BK311.out 4).trans rfl, (blk_cell BK312.out 0).trans rfl, (blk_cell BK312.out 1).trans rfl, (blk_cell BK312.out 2).trans rfl, (blk_cell BK312.out 3).trans rfl, (blk_cell BK312.out 4).trans rfl, ((HB.out.cell (World.block_lt_of_cell? w _ hw313_0)).trans hw313_0), ((HB.out.cell (World.block_lt_of_cell? w _ hw313_1)).trans hw313_1), ((HB.out.cell (World.block_lt_of_cell? w _ hw313_2)).trans hw313_2), ((HB.out.cell (World.block_lt_of_cell? w _ hw313_3)).trans hw313_3), ((HB.out.cell (World.block_lt_of_cell? w _ hw313_4)).trans hw313_4), ((HB.out.cell (World.block_lt_of_cell? w _ hw314_0)).trans hw314_0), ((HB.out.cell (World.block_lt_of_cell? w _ hw314_1)).trans hw314_1), ((HB.out.cell (World.block_lt_of_cell? w _ hw314_2)).trans hw314_2), ((HB.out.cell (World.block_lt_of_cell? w _ hw314_3)).trans hw314_3), ((HB.out.cell (World.block_lt_of_cell? w _ hw314_4)).trans hw314_4)⟩ (fun hHeld => ?_); refine with_tabW exactpplref06_Equal.tab6 exactpplref06_Equal.bits6 (fun HT_ HW_ => ?_)
          generalize wr.drew = w33 at BK311 BK312 HB HR313_4 HR314_4 hx313_0 hx313_1 hx313_2 hx313_3 hx313_4 hx314_0 hx314_1 hx314_2 hx314_3 hx314_4 hHeld ⊢
          refine pu_ HT_ 0 48 (bm 12 1) ?_
          refine pu_ HT_ 2 50 (bm 12 5) ?_
          refine pu_ HT_ 5 53 (bm 12 37) ?_
          refine pu_ HT_ 7 55 (bm 12 165) ?_
          refine ta_ HT_ HW_ 1 49 (bm 12 167) hHeld ?_
          refine pu_ HT_ 3 51 (bm 12 175) ?_
          refine ta_ HT_ HW_ 4 52 (bm 12 191) hHeld ?_
          refine ta_ HT_ HW_ 6 54 (bm 12 255) hHeld ?_
          refine pu_ HT_ 8 56 (bm 12 511) ?_
          refine ta_ HT_ HW_ 9 57 (bm 12 1023) hHeld ?_
          refine one_ (i := 10) (N := some 58) #[true, true, true, true, true, true, true, true, true, true, true, false] rfl rfl (one_of HT_.out (by kernel_rfl)) (by decide) (fun K hK => ?_)
          refine goes_ Tryd.func24 (by kernel_rfl) rfl #[.agg #[.int .i64 ((rd_T24 l0_4 x5_2).f0), .int .i64 ((rd_T24 l0_4 x5_2).f1), .int .i64 ((rd_T24 l0_4 x5_2).f2), .int .i64 ((rd_T24 l0_4 x5_2).f3), .slice A313_4 ((rd_T24 l0_4 x5_2).f4).length c313_4], .agg #[.int .i64 ((rd_T24 l1_4 x5_2).f0), .int .i64 ((rd_T24 l1_4 x5_2).f1), .int .i64 ((rd_T24 l1_4 x5_2).f2), .int .i64 ((rd_T24 l1_4 x5_2).f3), .slice A314_4 ((rd_T24 l1_4 x5_2).f4).length c314_4]] (by rfl) rfl rfl (by (try simp only [List.map_toArray, List.map_cons, List.map_nil]); first | done | rfl | (simp only [List.length_drop, List.length_take]; rfl)) ?_
          with_reducible refine (ih k2 (by have := HJ2.out; have := HK2.out; omega) ((rd_T24 l0_4 x5_2).f0) ((rd_T24 l0_4 x5_2).f1) ((rd_T24 l0_4 x5_2).f2) ((rd_T24 l0_4 x5_2).f3) _ _ ((rd_T24 l0_4 x5_2).f4) ((rd_T24 l1_4 x5_2).f0) ((rd_T24 l1_4 x5_2).f1) ((rd_T24 l1_4 x5_2).f2) ((rd_T24 l1_4 x5_2).f3) _ _ ((rd_T24 l1_4 x5_2).f4) true _ ?side1 ?side2 ?side3 ?side4 A29.out).mono ?_
          (case side1 => repeat (first | exact (Kd.C_below HR313_4.out HB.out) | (with_reducible refine Kd.C_alloc ?_ _) | (with_reducible refine Kd.C_drewN ?_ _) | (with_reducible refine Kd.C_drew ?_)))
          (case side2 => exact HC313_4.out)
          (case side3 => repeat (first | exact (Kd.C_below HR314_4.out HB.out) | (with_reducible refine Kd.C_alloc ?_ _) | (with_reducible refine Kd.C_drewN ?_ _) | (with_reducible refine Kd.C_drew ?_)))
          (case side4 => exact HC314_4.out)
          rintro e w34 ⟨rfl, hb⟩
          refine ⟨_, rfl, ?_⟩
          replace BK311 := Aside0.mk (blk_below (g := gb311) (o := .cells #[.int .i64 a0_0, .int .i64 a0_1, .int .i64 a0_2, .int .i64 a0_3, .slice (some ad313) l0_4.length c0_4] 24 (0, 0)) bk_ hb)
          replace BK312 := Aside0.mk (blk_below (g := gb312) (o := .cells #[.int .i64 a1_0, .int .i64 a1_1, .int .i64 a1_2, .int .i64 a1_3, .slice (some ad314) l1_4.length c1_4] 24 (0, 0)) bk_ hb)
          replace HB := Aside0.mk (below_step bl_ hb)
          (try clear hb)
          (try clear hb2)
          (try clear hk)
          (try clear hi)
          refine hK.out _ _ ⟨(blk_cell BK311.out 0).trans rfl, (blk_cell BK311.out 1).trans rfl, (blk_cell BK311.out 2).trans rfl, (blk_cell BK311.out 3).trans rfl, (blk_cell BK311.out 4).trans rfl, (blk_cell BK312.out 0).trans rfl, (blk_cell BK312.out 1).trans rfl, (blk_cell BK312.out 2).trans rfl, (blk_cell BK312.out 3).trans rfl, (blk_cell BK312.out 4).trans rfl, ((HB.out.cell (World.block_lt_of_cell? w _ hw313_0)).trans hw313_0), ((HB.out.cell (World.block_lt_of_cell? w _ hw313_1)).trans hw313_1), ((HB.out.cell (World.block_lt_of_cell? w _ hw313_2)).trans hw313_2), ((HB.out.cell (World.block_lt_of_cell? w _ hw313_3)).trans hw313_3), ((HB.out.cell (World.block_lt_of_cell? w _ hw313_4)).trans hw313_4), ((HB.out.cell (World.block_lt_of_cell? w _ hw314_0)).trans hw314_0), ((HB.out.cell (World.block_lt_of_cell? w _ hw314_1)).trans hw314_1), ((HB.out.cell (World.block_lt_of_cell? w _ hw314_2)).trans hw314_2), ((HB.out.cell (World.block_lt_of_cell? w _ hw314_3)).trans hw314_3), ((HB.out.cell (World.block_lt_of_cell? w _ hw314_4)).trans hw314_4)⟩ (fun hHeld => ?_)
          clear hK K
          refine norm_ (a' := ?_) ?_ ?_
          rotate_left
          ·show Act.put _ (some 58) _ = _
           simp only [Act.put, List.setIfInBounds_toArray, List.set_cons_zero, List.set_cons_succ, i64_w, i32_w]
           rfl
          refine pu_ HT_ 11 59 #[true, true, true, true, true, true, true, true, true, true, true, true] ?_
          refine done_ (done_of HT_.out (by kernel_rfl)) ?_
          try go_wp2
          go_roundg k2
          case measure => have := HJ2.out; have := HK2.out; omega
          case rel => exact ⟨(wrap64 (x5_2 + 1)), rs_, H', ⟨by have := HJ2.out; have := HK2.out; omega⟩, ⟨bk_⟩, ⟨bk_⟩, ⟨bl_⟩⟩
         ·replace c30 := Bool.eq_false_iff.mpr c30
          subst c30
          have H1 : (some false) = some r := by rw [if_neg (show ¬ (false = true) by decide)] at H; exact H
          clear H
          have H := H1
          clear H1
          obtain rfl := Option.some.inj H
          have hnb35 := NB311_312.out
          have hnc35 := NB312_311.out
          obtain ⟨hcz36_0, hcz36_1, hcz36_2, hcz36_3, hcz36_4, hfz36_0, hfz36_1, hfz36_2, hfz36_3, hfz36_4⟩ := cf5_ BK311.out
          try go_wp2
          replace BK311 := Aside0.mk (blk_drew BK311.out)
          replace BK312 := Aside0.mk (blk_drew BK312.out)
          replace HB := Aside0.mk (below_drew1 HB.out)
          have p313 : 0 ≤ (x5_2 : Int) := dt_
          have q313 : x5_2 < (l0_4.length : Int) := dt_
          obtain ⟨ad313, A313_4, c313_4, e313, hx313_0, hx313_1, hx313_2, hx313_3, hx313_4, hl313_4, hi313_4⟩ := at_T24 HR0_4.out x5_2 p313 q313
          have hw313_4 := hx313_4
          have hw313_3 := hx313_3
          have hw313_2 := hx313_2
          have hw313_1 := hx313_1
          have hw313_0 := hx313_0
          cases e313
          replace hx313_0 := (HB.out.cell (World.block_lt_of_cell? w _ hx313_0)).trans hx313_0
          replace hx313_1 := (HB.out.cell (World.block_lt_of_cell? w _ hx313_1)).trans hx313_1
          replace hx313_2 := (HB.out.cell (World.block_lt_of_cell? w _ hx313_2)).trans hx313_2
          replace hx313_3 := (HB.out.cell (World.block_lt_of_cell? w _ hx313_3)).trans hx313_3
          replace hx313_4 := (HB.out.cell (World.block_lt_of_cell? w _ hx313_4)).trans hx313_4
          have HR313_4 := Aside0.mk hi313_4
          have HC313_4 := Aside0.mk hl313_4
          clear hi313_4 hl313_4
          replace p313 := eq_true p313
          replace q313 := eq_true q313
          have p314 : 0 ≤ (x5_2 : Int) := dt_
          have q314 : x5_2 < (l1_4.length : Int) := dt_
          obtain ⟨ad314, A314_4, c314_4, e314, hx314_0, hx314_1, hx314_2, hx314_3, hx314_4, hl314_4, hi314_4⟩ := at_T24 HR1_4.out x5_2 p314 q314
          have hw314_4 := hx314_4
          have hw314_3 := hx314_3
          have hw314_2 := hx314_2
          have hw314_1 := hx314_1
          have hw314_0 := hx314_0
          cases e314
          replace hx314_0 := (HB.out.cell (World.block_lt_of_cell? w _ hx314_0)).trans hx314_0
          replace hx314_1 := (HB.out.cell (World.block_lt_of_cell? w _ hx314_1)).trans hx314_1
          replace hx314_2 := (HB.out.cell (World.block_lt_of_cell? w _ hx314_2)).trans hx314_2
          replace hx314_3 := (HB.out.cell (World.block_lt_of_cell? w _ hx314_3)).trans hx314_3
          replace hx314_4 := (HB.out.cell (World.block_lt_of_cell? w _ hx314_4)).trans hx314_4
          have HR314_4 := Aside0.mk hi314_4
          have HC314_4 := Aside0.mk hl314_4
          clear hi314_4 hl314_4
          replace p314 := eq_true p314
          replace q314 := eq_true q314
          refine start_ (n := 12) (S := fun w' => w'.cell? ⟨gb311, 0, none⟩ = some (.int .i64 a0_0) ∧ w'.cell? ⟨gb311, 1, none⟩ = some (.int .i64 a0_1) ∧ w'.cell? ⟨gb311, 2, none⟩ = some (.int .i64 a0_2) ∧ w'.cell? ⟨gb311, 3, none⟩ = some (.int .i64 a0_3) ∧ w'.cell? ⟨gb311, 4, none⟩ = some (.slice (some ad313) l0_4.length c0_4) ∧ w'.cell? ⟨gb312, 0, none⟩ = some (.int .i64 a1_0) ∧ w'.cell? ⟨gb312, 1, none⟩ = some (.int .i64 a1_1) ∧ w'.cell? ⟨gb312, 2, none⟩ = some (.int .i64 a1_2) ∧ w'.cell? ⟨gb312, 3, none⟩ = some (.int .i64 a1_3) ∧ w'.cell? ⟨gb312, 4, none⟩ = some (.slice (some ad314) l1_4.length c1_4) ∧ w'.cell? (ad313.add ((x5_2).toNat * 5)) = some (.int .i64 ((rd_T24 l0_4 x5_2).f0)) ∧ w'.cell? ⟨(ad313.add ((x5_2).toNat * 5)).block, (ad313.add ((x5_2).toNat * 5)).off + 1, none⟩ = some (.int .i64 ((rd_T24 l0_4 x5_2).f1)) ∧ w'.cell? ⟨(ad313.add ((x5_2).toNat * 5)).block, (ad313.add ((x5_2).toNat * 5)).off + 2, none⟩ = some (.int .i64 ((rd_T24 l0_4 x5_2).f2)) ∧ w'.cell? ⟨(ad313.add ((x5_2).toNat * 5)).block, (ad313.add ((x5_2).toNat * 5)).off + 3, none⟩ = some (.int .i64 ((rd_T24 l0_4 x5_2).f3)) ∧ w'.cell? ⟨(ad313.add ((x5_2).toNat * 5)).block, (ad313.add ((x5_2).toNat * 5)).off + 4, none⟩ = some (.slice A313_4 ((rd_T24 l0_4 x5_2).f4).length c313_4) ∧ w'.cell? (ad314.add ((x5_2).toNat * 5)) = some (.int .i64 ((rd_T24 l1_4 x5_2).f0)) ∧ w'.cell? ⟨(ad314.add ((x5_2).toNat * 5)).block, (ad314.add ((x5_2).toNat * 5)).off + 1, none⟩ = some (.int .i64 ((rd_T24 l1_4 x5_2).f1)) ∧ w'.cell? ⟨(ad314.add ((x5_2).toNat * 5)).block, (ad314.add ((x5_2).toNat * 5)).off + 2, none⟩ = some (.int .i64 ((rd_T24 l1_4 x5_2).f2)) ∧ w'.cell? ⟨(ad314.add ((x5_2).toNat * 5)).block, (ad314.add ((x5_2).toNat * 5)).off + 3, none⟩ = some (.int .i64 ((rd_T24 l1_4 x5_2).f3)) ∧ w'.cell? ⟨(ad314.add ((x5_2).toNat * 5)).block, (ad314.add ((x5_2).toNat * 5)).off + 4, none⟩ = some (.slice A314_4 ((rd_T24 l1_4 x5_2).f4).length c314_4)) (ds := []) #[false, false, false, false, false, false, false, false, false, false, false, false] (by kernel_rfl) rfl rfl ⟨(blk_cell BK311.out 0).trans rfl, (blk_cell BK311.out 1).trans rfl, (blk_cell BK311.out 2).trans rfl, (blk_cell BK311.out 3).trans rfl, (blk_cell BK311.out 4).trans rfl, (blk_cell BK312.out 0).trans rfl, (blk_cell BK312.out 1).trans rfl, (blk_cell BK312.out 2).trans rfl, (blk_cell BK312.out 3).trans rfl, (blk_cell BK312.out 4).trans rfl, ((HB.out.cell (World.block_lt_of_cell? w _ hw313_0)).trans hw313_0), ((HB.out.cell (World.block_lt_of_cell? w _ hw313_1)).trans hw313_1), ((HB.out.cell (World.block_lt_of_cell? w _ hw313_2)).trans hw313_2), ((HB.out.cell (World.block_lt_of_cell? w _ hw313_3)).trans hw313_3), ((HB.out.cell (World.block_lt_of_cell? w _ hw313_4)).trans hw313_4), ((HB.out.cell (World.block_lt_of_cell? w _ hw314_0)).trans hw314_0), ((HB.out.cell (World.block_lt_of_cell? w _ hw314_1)).trans hw314_1), ((HB.out.cell (World.block_lt_of_cell? w _ hw314_2)).trans hw314_2), ((HB.out.cell (World.block_lt_of_cell? w _ hw314_3)).trans hw314_3), ((HB.out.cell (World.block_lt_of_cell? w _ hw314_4)).trans hw314_4)⟩ (fun hHeld => ?_); refine with_tabW exactpplref06_Equal.tab6 exactpplref06_Equal.bits6 (fun HT_ HW_ => ?_)
          generalize wr.drew = w37 at BK311 BK312 HB HR313_4 HR314_4 hx313_0 hx313_1 hx313_2 hx313_3 hx313_4 hx314_0 hx314_1 hx314_2 hx314_3 hx314_4 hHeld ⊢
          refine pu_ HT_ 0 48 (bm 12 1) ?_
          refine pu_ HT_ 2 50 (bm 12 5) ?_
          refine pu_ HT_ 5 53 (bm 12 37) ?_
          refine pu_ HT_ 7 55 (bm 12 165) ?_
          refine ta_ HT_ HW_ 1 49 (bm 12 167) hHeld ?_
          refine pu_ HT_ 3 51 (bm 12 175) ?_
          refine ta_ HT_ HW_ 4 52 (bm 12 191) hHeld ?_
          refine ta_ HT_ HW_ 6 54 (bm 12 255) hHeld ?_
          refine pu_ HT_ 8 56 (bm 12 511) ?_
          refine ta_ HT_ HW_ 9 57 (bm 12 1023) hHeld ?_
          refine one_ (i := 10) (N := some 58) #[true, true, true, true, true, true, true, true, true, true, true, false] rfl rfl (one_of HT_.out (by kernel_rfl)) (by decide) (fun K hK => ?_)
          refine goes_ Tryd.func24 (by kernel_rfl) rfl #[.agg #[.int .i64 ((rd_T24 l0_4 x5_2).f0), .int .i64 ((rd_T24 l0_4 x5_2).f1), .int .i64 ((rd_T24 l0_4 x5_2).f2), .int .i64 ((rd_T24 l0_4 x5_2).f3), .slice A313_4 ((rd_T24 l0_4 x5_2).f4).length c313_4], .agg #[.int .i64 ((rd_T24 l1_4 x5_2).f0), .int .i64 ((rd_T24 l1_4 x5_2).f1), .int .i64 ((rd_T24 l1_4 x5_2).f2), .int .i64 ((rd_T24 l1_4 x5_2).f3), .slice A314_4 ((rd_T24 l1_4 x5_2).f4).length c314_4]] (by rfl) rfl rfl (by (try simp only [List.map_toArray, List.map_cons, List.map_nil]); first | done | rfl | (simp only [List.length_drop, List.length_take]; rfl)) ?_
          with_reducible refine (ih k2 (by have := HJ2.out; have := HK2.out; omega) ((rd_T24 l0_4 x5_2).f0) ((rd_T24 l0_4 x5_2).f1) ((rd_T24 l0_4 x5_2).f2) ((rd_T24 l0_4 x5_2).f3) _ _ ((rd_T24 l0_4 x5_2).f4) ((rd_T24 l1_4 x5_2).f0) ((rd_T24 l1_4 x5_2).f1) ((rd_T24 l1_4 x5_2).f2) ((rd_T24 l1_4 x5_2).f3) _ _ ((rd_T24 l1_4 x5_2).f4) false _ ?side1 ?side2 ?side3 ?side4 A29.out).mono ?_
          (case side1 => repeat (first | exact (Kd.C_below HR313_4.out HB.out) | (with_reducible refine Kd.C_alloc ?_ _) | (with_reducible refine Kd.C_drewN ?_ _) | (with_reducible refine Kd.C_drew ?_)))
          (case side2 => exact HC313_4.out)
          (case side3 => repeat (first | exact (Kd.C_below HR314_4.out HB.out) | (with_reducible refine Kd.C_alloc ?_ _) | (with_reducible refine Kd.C_drewN ?_ _) | (with_reducible refine Kd.C_drew ?_)))
          (case side4 => exact HC314_4.out)
          rintro e w38 ⟨rfl, hb⟩
          refine ⟨_, rfl, ?_⟩
          replace BK311 := Aside0.mk (blk_below (g := gb311) (o := .cells #[.int .i64 a0_0, .int .i64 a0_1, .int .i64 a0_2, .int .i64 a0_3, .slice (some ad313) l0_4.length c0_4] 24 (0, 0)) bk_ hb)
          replace BK312 := Aside0.mk (blk_below (g := gb312) (o := .cells #[.int .i64 a1_0, .int .i64 a1_1, .int .i64 a1_2, .int .i64 a1_3, .slice (some ad314) l1_4.length c1_4] 24 (0, 0)) bk_ hb)
          replace HB := Aside0.mk (below_step bl_ hb)
          (try clear hb)
          (try clear hb2)
          (try clear hk)
          (try clear hi)
          refine hK.out _ _ ⟨(blk_cell BK311.out 0).trans rfl, (blk_cell BK311.out 1).trans rfl, (blk_cell BK311.out 2).trans rfl, (blk_cell BK311.out 3).trans rfl, (blk_cell BK311.out 4).trans rfl, (blk_cell BK312.out 0).trans rfl, (blk_cell BK312.out 1).trans rfl, (blk_cell BK312.out 2).trans rfl, (blk_cell BK312.out 3).trans rfl, (blk_cell BK312.out 4).trans rfl, ((HB.out.cell (World.block_lt_of_cell? w _ hw313_0)).trans hw313_0), ((HB.out.cell (World.block_lt_of_cell? w _ hw313_1)).trans hw313_1), ((HB.out.cell (World.block_lt_of_cell? w _ hw313_2)).trans hw313_2), ((HB.out.cell (World.block_lt_of_cell? w _ hw313_3)).trans hw313_3), ((HB.out.cell (World.block_lt_of_cell? w _ hw313_4)).trans hw313_4), ((HB.out.cell (World.block_lt_of_cell? w _ hw314_0)).trans hw314_0), ((HB.out.cell (World.block_lt_of_cell? w _ hw314_1)).trans hw314_1), ((HB.out.cell (World.block_lt_of_cell? w _ hw314_2)).trans hw314_2), ((HB.out.cell (World.block_lt_of_cell? w _ hw314_3)).trans hw314_3), ((HB.out.cell (World.block_lt_of_cell? w _ hw314_4)).trans hw314_4)⟩ (fun hHeld => ?_)
          clear hK K
          refine norm_ (a' := ?_) ?_ ?_
          rotate_left
          ·show Act.put _ (some 58) _ = _
           simp only [Act.put, List.setIfInBounds_toArray, List.set_cons_zero, List.set_cons_succ, i64_w, i32_w]
           rfl
          refine pu_ HT_ 11 59 #[true, true, true, true, true, true, true, true, true, true, true, true] ?_
          refine done_ (done_of HT_.out (by kernel_rfl)) ?_
          try go_wp2
          go_ret
          exact ⟨re_, bl_⟩
        ·rw [if_neg c28] at H
         exact absurd H (by simp)
       ·rw [if_neg c27] at H
        exact absurd H (by simp)
      ·rw [if_neg c26] at H
       have c26b0 : decide (x5_2 < (l0_4.length : Int)) = false := decide_eq_false c26
       clear c26
       obtain rfl := Option.some.inj H
       have hnb39 := NB311_312.out
       have hnc39 := NB312_311.out
       obtain ⟨hcz40_0, hcz40_1, hcz40_2, hcz40_3, hcz40_4, hfz40_0, hfz40_1, hfz40_2, hfz40_3, hfz40_4⟩ := cf5_ BK311.out
       go_wp2
       go_ret
       exact ⟨re_, bl_⟩

end Go.Proofs.YtggelekooacmnaaDoor.Q
-- types.Equal and slices.EqualFunc at types, walked by hand
namespace Go.Proofs.YtggelekooacmnaaDoor.Q
open Go.RowKit Go.Proofs.YtggelekooacmnaaDoorW.PrintWords Go.Proofs.YtggelekooacmnaaDoorW.PrintLast Go.Proofs.YtggelekooacmnaaDoorW.PrintMore
set_option linter.unusedVariables false
set_option linter.unusedSimpArgs false
mutual
def eqT : S24 → S24 → Bool
  | ⟨a0, a1, a2, a3, l⟩, ⟨b0, b1, b2, b3, m⟩ => a0 == b0 && a1 == b1 && a2 == b2 && a3 == b3 && eqTs l m
def eqTs : List S24 → List S24 → Bool
  | [], [] => true
  | x :: l, y :: m => eqT x y && eqTs l m
  | [], _ :: _ => false
  | _ :: _, [] => false
end
mutual
theorem eqT_iff : ∀ x y : S24, eqT x y = true ↔ x = y
  | ⟨a0, a1, a2, a3, l⟩, ⟨b0, b1, b2, b3, m⟩ => by
    unfold eqT
    simp only [Bool.and_eq_true, beq_iff_eq, eqTs_iff l m, S24.mk.injEq]
    constructor <;> rintro h <;> simp_all
theorem eqTs_iff : ∀ l m : List S24, eqTs l m = true ↔ l = m
  | [], [] => by simp [eqTs]
  | x :: l, y :: m => by unfold eqTs; simp only [Bool.and_eq_true, eqT_iff x y, eqTs_iff l m, List.cons.injEq]
  | [], _ :: _ => by simp [eqTs]
  | _ :: _, [] => by simp [eqTs]
end
theorem eqTs_len : ∀ {l m : List S24}, l.length ≠ m.length → eqTs l m = false := by
  intro l m h
  cases hq : eqTs l m with
  | false => rfl
  | true => exact absurd (by rw [(eqTs_iff l m).1 hq]) h
theorem eqTs_at {l m : List S24} (hl : l.length = m.length) {k : Nat} (hk : k < l.length) (h : eqT (rd_T24 l (k : Int)) (rd_T24 m (k : Int)) = false) : eqTs l m = false := by
  cases hq : eqTs l m with
  | false => rfl
  | true =>
    rw [(eqTs_iff l m).1 hq] at h
    rw [(eqT_iff _ _).2 rfl] at h; cases h
theorem eqTs_all {l m : List S24} (hl : l.length = m.length) (h : ∀ k, k < l.length → eqT (rd_T24 l (k : Int)) (rd_T24 m (k : Int)) = true) : eqTs l m = true := by
  refine (eqTs_iff l m).2 (List.ext_getElem hl fun k h1 h2 => ?_)
  have := (eqT_iff _ _).1 (h k h1)
  unfold rd_T24 at this
  simpa [List.getD_eq_getElem?_getD, h1, h2] using this
def types_Equal.f (a0 a1 a2 a3 : Int) (l : List S24) (b0 b1 b2 b3 : Int) (m : List S24) : Option Bool := some (eqT ⟨a0, a1, a2, a3, l⟩ ⟨b0, b1, b2, b3, m⟩)
/-- what Equal says of two types that stand in a row -/
def EqSays (x y : S24) : Prop := ∀ (A : Option Addr) (c : Nat) (B : Option Addr) (d : Nat) (w : World), Kd.C k24 w A x.f4.length x.f4 → x.f4.length ≤ c → Kd.C k24 w B y.f4.length y.f4 → y.f4.length ≤ d →
  Calls Tryd.prog 23 #[.agg #[.int .i64 x.f0, .int .i64 x.f1, .int .i64 x.f2, .int .i64 x.f3, .slice A x.f4.length c], .agg #[.int .i64 y.f0, .int .i64 y.f1, .int .i64 y.f2, .int .i64 y.f3, .slice B y.f4.length d]] w fun e w' => e = .returned (.bool (eqT x y)) ∧ Below w.heap.size w w'
set_option maxHeartbeats 8000000 in
set_option maxRecDepth 100000 in
theorem equalFunc_calls (l m : List S24) (A B : Option Addr) (c d : Nat) (w : World) (hA : Kd.C k24 w A l.length l) (hc : l.length ≤ c) (hB : Kd.C k24 w B m.length m) (hd : m.length ≤ d)
    (hE : ∀ x ∈ l, ∀ y, EqSays x y) :
    Calls Tryd.prog 48 #[.slice A l.length c, .slice B m.length d, .func (.func 23) #[] #[]] w fun e w' => e = .returned (.bool (eqTs l m)) ∧ Below w.heap.size w w' := by
  have hn := hA.2.1
  have hn2 := hB.2.1
  have HA := Lib.hid hA
  have HB := Lib.hid hB
  have HE := Lib.hid hE
  clear hA hB hE
  by_cases hl : l.length = m.length
  · obtain ⟨N, hN⟩ : ∃ N, N = l.length := ⟨_, rfl⟩
    have HL := Lib.hid hl
    have HN := Lib.hid hN
    rw [← hl] at hd ⊢
    rw [← hN] at hc hd hn ⊢
    clear hl hN hn2
    go_enter Tryd.func48, Tryd.ntmps48
    go_wp2
    go_loopw [17] (fun i wr => ∃ k : Nat, i = .int .i64 k ∧ k ≤ N ∧ Below w.heap.size w wr ∧ Aside0 (∀ j, j < k → eqT (rd_T24 l (j : Int)) (rd_T24 m (j : Int)) = true)) (fun i _ => N - (intOf i).toNat)
    case atStart => exact ⟨0, rfl, Nat.zero_le _, Below.refl _ _, ⟨fun j hj => by omega⟩⟩
    case round =>
      obtain ⟨k, rfl, hk, hbw, hal⟩ := hrel
      by_cases hlt : k < N
      · obtain ⟨ad, A4, c4, rfl, d0, d1, d2, d3, d4, l4, g4⟩ := at_T24 (Kd.C_below HA.out hbw) (k : Int) (by omega) (by have := HN.out; omega)
        obtain ⟨ae, B4, e4, rfl, q0, q1, q2, q3, q4, m4, r4⟩ := at_T24 (Kd.C_below HB.out hbw) (k : Int) (by omega) (by have := HN.out; have := HL.out; omega)
        rw [Int.toNat_natCast] at d0 d1 d2 d3 d4 q0 q1 q2 q3 q4
        have hx : rd_T24 l (k : Int) ∈ l := by
          have h := (HN.out ▸ hlt : k < l.length)
          unfold rd_T24; rw [Int.toNat_natCast, List.getD_eq_getElem?_getD, List.getElem?_eq_getElem h]; exact List.getElem_mem h
        have hEE := HE.out _ hx (rd_T24 m (k : Int))
        have HX := Lib.hid hx
        obtain ⟨x, hxe⟩ : ∃ x, x = rd_T24 l (k : Int) := ⟨_, rfl⟩
        obtain ⟨y, hye⟩ : ∃ y, y = rd_T24 m (k : Int) := ⟨_, rfl⟩
        rw [← hxe] at d0 d1 d2 d3 d4 l4 g4 hEE
        rw [← hye] at q0 q1 q2 q3 q4 m4 r4 hEE
        have HXE := Lib.hid hxe
        have HYE := Lib.hid hye
        have HG4 := Lib.hid g4
        have HR4 := Lib.hid r4
        have HBW := Lib.hid hbw
        have HAL := Lib.hid hal.out
        have HEE := Lib.hid hEE
        have hki : (k : Int) < (N : Int) := by omega
        have u1 := World.block_lt_of_cell? _ _ d0
        have u2 := World.block_lt_of_cell? _ _ q0
        have hb2 : Below wr.heap.size wr ((wr.alloc (.cells #[.int .i64 x.f0, .int .i64 x.f1, .int .i64 x.f2, .int .i64 x.f3, .slice A4 x.f4.length c4] 24)).alloc (.cells #[.int .i64 y.f0, .int .i64 y.f1, .int .i64 y.f2, .int .i64 y.f3, .slice B4 y.f4.length e4] 24)) := ((Below.refl _ wr).alloc (Nat.le_refl _) _).alloc (by simp) _
        have hF := HEE.out A4 c4 B4 e4 _ (Kd.C_below HG4.out hb2) l4 (Kd.C_below HR4.out hb2) m4
        have HB2 := Lib.hid hb2
        clear hx hxe hye g4 r4 hbw hal hEE hb2
        cases hq : eqT x y with
        | false =>
          rw [hq] at hF
          go_wp2_with (go_at_call 23; refine hF.mono ?_; clear hF; rintro e w3 ⟨rfl, hb3⟩; have HB3 := Lib.hid hb3; clear hb3)
          go_ret
          exact ⟨by rw [eqTs_at HL.out (k := k) (by have := HN.out; omega) (by rw [← HXE.out, ← HYE.out]; exact hq)]; rfl, (HBW.out.trans (HB2.out.mono HBW.out.size)).trans (HB3.out.mono (HBW.out.trans (HB2.out.mono HBW.out.size)).size)⟩
        | true =>
          rw [hq] at hF
          go_wp2_with (go_at_call 23; refine hF.mono ?_; clear hF; rintro e w3 ⟨rfl, hb3⟩; have HB3 := Lib.hid hb3; clear hb3)
          go_roundw
          case rel =>
            refine ⟨k + 1, by go_num, hlt, (HBW.out.trans (HB2.out.mono HBW.out.size)).trans (HB3.out.mono (HBW.out.trans (HB2.out.mono HBW.out.size)).size), ⟨fun j hj => ?_⟩⟩
            by_cases hjk : j = k
            · rw [hjk, ← HXE.out, ← HYE.out]; exact hq
            · exact HAL.out j (by omega)
          case measure => simp [intOf]; omega
      · go_wp2
        go_ret
        refine ⟨?_, hbw⟩
        rw [eqTs_all HL.out (fun j hj => hal.out j (by have := HN.out; omega))]
        rfl
  · have hf := eqTs_len hl
    have hb0 : ((l.length : Int) != (m.length : Int)) = true := by simp; omega
    go_enter Tryd.func48, Tryd.ntmps48
    go_wp2
    go_ret
    exact ⟨by rw [hf]; rfl, Below.refl _ _⟩
set_option maxHeartbeats 8000000 in
set_option maxRecDepth 100000 in
theorem equal_says : ∀ (n : Nat) (x y : S24), SizeOf.sizeOf x ≤ n → EqSays x y := by
  intro n
  induction n with
  | zero => intro x y h; cases x; simp at h
  | succ n ih =>
    intro x y hn A c B d w hA hc hB hd
    obtain ⟨x0, x1, x2, x3, l⟩ := x
    obtain ⟨y0, y1, y2, y3, m⟩ := y
    dsimp only at hA hc hB hd ⊢
    have hl := hA.2.1
    have hm := hB.2.1
    have hb2 : Below w.heap.size w ((w.alloc (.cells #[.int .i64 x0, .int .i64 x1, .int .i64 x2, .int .i64 x3, .slice A l.length c] 24)).alloc (.cells #[.int .i64 y0, .int .i64 y1, .int .i64 y2, .int .i64 y3, .slice B m.length d] 24)) := ((Below.refl _ w).alloc (Nat.le_refl _) _).alloc (by simp) _
    have hF := equalFunc_calls l m A B c d _ (Kd.C_below hA hb2) hc (Kd.C_below hB hb2) hd (fun z hz v => ih z v (by have := List.sizeOf_lt_of_mem hz; simp at hn; omega))
    have hE : eqT ⟨x0, x1, x2, x3, l⟩ ⟨y0, y1, y2, y3, m⟩ = (x0 == y0 && x1 == y1 && x2 == y2 && x3 == y3 && eqTs l m) := by unfold eqT; rfl
    have HE := Lib.hid hE
    have HB2 := Lib.hid hb2
    clear hA hB hE hb2 ih hn
    rw [HE.out]
    by_cases h0 : x0 = y0
    · subst h0
      by_cases h1 : x1 = y1
      · subst h1
        by_cases h2 : x2 = y2
        · subst h2
          by_cases h3 : x3 = y3
          · subst h3
            go_enter Tryd.func23, Tryd.ntmps23
            go_wp2_with (go_at_call 48; refine hF.mono ?_; clear hF; rintro e w3 ⟨rfl, hb3⟩; have HB3 := Lib.hid hb3; clear hb3)
            go_ret
            exact ⟨by simp, HB2.out.trans (HB3.out.mono HB2.out.size)⟩
          · have q3 : (x3 == y3) = false := beq_false_of_ne h3
            clear hF
            go_enter Tryd.func23, Tryd.ntmps23
            go_wp2
            go_ret
            exact ⟨by simp [q3], HB2.out⟩
        · have q2 : (x2 == y2) = false := beq_false_of_ne h2
          clear hF
          go_enter Tryd.func23, Tryd.ntmps23
          go_wp2
          go_ret
          exact ⟨by simp [q2], HB2.out⟩
      · have q1 : (x1 == y1) = false := beq_false_of_ne h1
        clear hF
        go_enter Tryd.func23, Tryd.ntmps23
        go_wp2
        go_ret
        exact ⟨by simp [q1], HB2.out⟩
    · have q0 : (x0 == y0) = false := beq_false_of_ne h0
      clear hF
      go_enter Tryd.func23, Tryd.ntmps23
      go_wp2
      go_ret
      exact ⟨by simp [q0], HB2.out⟩
theorem types_Equal.calls (a0 a1 a2 a3 : Int) (A : Option Addr) (c : Nat) (l : List S24) (b0 b1 b2 b3 : Int) (B : Option Addr) (d : Nat) (m : List S24) (r : Bool) (w : World) (hA : Kd.C k24 w A l.length l) (hc : l.length ≤ c) (hB : Kd.C k24 w B m.length m) (hd : m.length ≤ d) (h : types_Equal.f a0 a1 a2 a3 l b0 b1 b2 b3 m = some r) :
    Calls Tryd.prog 23 #[.agg #[.int .i64 a0, .int .i64 a1, .int .i64 a2, .int .i64 a3, .slice A l.length c], .agg #[.int .i64 b0, .int .i64 b1, .int .i64 b2, .int .i64 b3, .slice B m.length d]] w fun e w' => e = .returned (.bool r) ∧ Below w.heap.size w w' := by
  obtain rfl := Option.some.inj h
  exact equal_says _ ⟨a0, a1, a2, a3, l⟩ ⟨b0, b1, b2, b3, m⟩ (Nat.le_refl _) A c B d w hA hc hB hd
end Go.Proofs.YtggelekooacmnaaDoor.Q
namespace Go.Proofs.YtggelekooacmnaaDoor.Q
open Go.RowKit Go.Proofs.YtggelekooacmnaaDoorW.PrintWords Go.Proofs.YtggelekooacmnaaDoorW.PrintLast Go.Proofs.YtggelekooacmnaaDoorW.PrintMore
attribute [local go_sem] max2_int min2_int max_two min_two max_three min_three max_four min_four   -- for this text's walks alone
set_option linter.unusedVariables false
set_option linter.unusedSimpArgs false

/-! ### exactppllaw06_TypesTexts: function 6 -/
mutual
def exactppllaw06_TypesTexts.j0 : Nat → Int → Int → Int → Int → List (S24) → Int → Int → Int → Int → List (S24) → Option (Bool)
 | 0, _, _, _, _, _, _, _, _, _, _ => none
 | k + 1, x339000, x339001, x339002, x339003, x339004, x340000, x340001, x340002, x340003, x340004 => (types_Format.f k x339000 x339001 x339002 x339003 x339004).bind fun bt343 => ((types_Format.f k x340000 x340001 x340002 x340003 x340004).bind fun bt345 => ((exactpplref06_Validate.f k x339000 x339001 x339002 x339003 x339004).bind fun t347 => (if t347 = 0 then ((exactpplref06_Validate.f k x340000 x340001 x340002 x340003 x340004).bind fun t348 => (exactppllaw06_TypesTexts.j1 k bt343.1 bt343.2 bt345.1 bt345.2 (t348 != 0) x339000 x339001 x339002 x339003 x339004 x340000 x340001 x340002 x340003 x340004)) else (exactppllaw06_TypesTexts.j1 k bt343.1 bt343.2 bt345.1 bt345.2 true x339000 x339001 x339002 x339003 x339004 x340000 x340001 x340002 x340003 x340004))))
def exactppllaw06_TypesTexts.j1 : Nat → ByteArray → Int → ByteArray → Int → Bool → Int → Int → Int → Int → List (S24) → Int → Int → Int → Int → List (S24) → Option (Bool)
 | 0, _, _, _, _, _, _, _, _, _, _, _, _, _, _, _ => none
 | k + 1, x6, x7, x8, x9, x37, x339000, x339001, x339002, x339003, x339004, x340000, x340001, x340002, x340003, x340004 => if x37 = true then ((exactpplref06_Validate.f k x339000 x339001 x339002 x339003 x339004).bind fun t349 => (if ((x7 == 0) == (t349 == 0)) = true then ((exactppllaw06_awake.f k).bind fun t350 => (some t350)) else (some false))) else (if x7 = 0 then (if x9 = 0 then ((types_Equal.f x339000 x339001 x339002 x339003 x339004 x340000 x340001 x340002 x340003 x340004).bind fun t351 => (if ((x6.toList == x8.toList) == t351) = true then ((types_Equal.f x339000 x339001 x339002 x339003 x339004 x340000 x340001 x340002 x340003 x340004).bind fun t352 => ((exactpplref06_Equal.f k x339000 x339001 x339002 x339003 x339004 x340000 x340001 x340002 x340003 x340004).bind fun t353 => (if (t352 == t353) = true then ((exactppllaw06_awake.f k).bind fun t354 => (some t354)) else (some false)))) else (some false))) else (some false)) else (some false))
end
def exactppllaw06_TypesTexts.f (k : Nat) (l0 : List Int) : Option (Bool) := (exactpplmake_New.f l0).bind fun bt316 => ((exactpplmake_Src_Type.f k bt316.1 bt316.2.1 bt316.2.2 3).bind fun bt320 => ((exactpplmake_Src_Type.f k bt316.1 bt320.2.2.2.2.2.1 bt320.2.2.2.2.2.2 3).bind fun bt329 => ((exactpplmake_Src_N.f bt316.1 bt329.2.2.2.2.2.1 bt329.2.2.2.2.2.2 4).bind fun bt340 => (if bt340.1 = 0 then (exactppllaw06_TypesTexts.j0 k bt320.1 bt320.2.1 bt320.2.2.1 bt320.2.2.2.1 bt320.2.2.2.2.1 bt320.1 bt320.2.1 bt320.2.2.1 bt320.2.2.2.1 bt320.2.2.2.2.1) else (exactppllaw06_TypesTexts.j0 k bt320.1 bt320.2.1 bt320.2.2.1 bt320.2.2.2.1 bt320.2.2.2.2.1 bt329.1 bt329.2.1 bt329.2.2.1 bt329.2.2.2.1 bt329.2.2.2.2.1)))))
theorem exactppllaw06_TypesTexts.mono_l : ∀ k, (∀ y0 y1 y2 y3 y4 y5 y6 y7 y8 y9, LeO (exactppllaw06_TypesTexts.j0 k y0 y1 y2 y3 y4 y5 y6 y7 y8 y9) (exactppllaw06_TypesTexts.j0 (k + 1) y0 y1 y2 y3 y4 y5 y6 y7 y8 y9)) ∧ (∀ y0 y1 y2 y3 y4 y5 y6 y7 y8 y9 y10 y11 y12 y13 y14, LeO (exactppllaw06_TypesTexts.j1 k y0 y1 y2 y3 y4 y5 y6 y7 y8 y9 y10 y11 y12 y13 y14) (exactppllaw06_TypesTexts.j1 (k + 1) y0 y1 y2 y3 y4 y5 y6 y7 y8 y9 y10 y11 y12 y13 y14))
 | 0 => ⟨fun _ _ _ _ _ _ _ _ _ _ r h => by simp [exactppllaw06_TypesTexts.j0] at h, fun _ _ _ _ _ _ _ _ _ _ _ _ _ _ _ r h => by simp [exactppllaw06_TypesTexts.j1] at h⟩
 | k + 1 => by
  obtain ⟨ih0, ih1⟩ := exactppllaw06_TypesTexts.mono_l k
  refine ⟨?_, ?_⟩
  ·intro y0 y1 y2 y3 y4 y5 y6 y7 y8 y9
   unfold exactppllaw06_TypesTexts.j0
   repeat' first
   | (with_reducible exact ih0 _ _ _ _ _ _ _ _ _ _)
   | (with_reducible exact ih1 _ _ _ _ _ _ _ _ _ _ _ _ _ _ _)
   | (with_reducible exact exactppllaw06_awake.mono _)
   | (with_reducible exact exactpplmake_Src_Type.mono _ _ _ _ _)
   | (with_reducible exact exactpplref06_Equal.mono _ _ _ _ _ _ _ _ _ _ _)
   | (with_reducible exact exactpplref06_Validate.mono _ _ _ _ _ _)
   | (with_reducible exact types_Format.mono _ _ _ _ _ _)
   | (with_reducible exact LeO.refl _)
   | (with_reducible exact LeO.none _)
   | (with_reducible refine LeO.ite ?_ ?_)
   | (with_reducible refine LeO.bind ?_ (fun _ => ?_))
   | exact ih0 _ _ _ _ _ _ _ _ _ _
   | exact ih1 _ _ _ _ _ _ _ _ _ _ _ _ _ _ _
   | exact exactppllaw06_awake.mono _
   | exact exactpplmake_Src_Type.mono _ _ _ _ _
   | exact exactpplref06_Equal.mono _ _ _ _ _ _ _ _ _ _ _
   | exact exactpplref06_Validate.mono _ _ _ _ _ _
   | exact types_Format.mono _ _ _ _ _ _
   | exact LeO.none _
   | refine LeO.ite ?_ ?_
   | refine LeO.bind ?_ (fun _ => ?_)
  ·intro y0 y1 y2 y3 y4 y5 y6 y7 y8 y9 y10 y11 y12 y13 y14
   unfold exactppllaw06_TypesTexts.j1
   repeat' first
   | (with_reducible exact ih0 _ _ _ _ _ _ _ _ _ _)
   | (with_reducible exact ih1 _ _ _ _ _ _ _ _ _ _ _ _ _ _ _)
   | (with_reducible exact exactppllaw06_awake.mono _)
   | (with_reducible exact exactpplmake_Src_Type.mono _ _ _ _ _)
   | (with_reducible exact exactpplref06_Equal.mono _ _ _ _ _ _ _ _ _ _ _)
   | (with_reducible exact exactpplref06_Validate.mono _ _ _ _ _ _)
   | (with_reducible exact types_Format.mono _ _ _ _ _ _)
   | (with_reducible exact LeO.refl _)
   | (with_reducible exact LeO.none _)
   | (with_reducible refine LeO.ite ?_ ?_)
   | (with_reducible refine LeO.bind ?_ (fun _ => ?_))
   | exact ih0 _ _ _ _ _ _ _ _ _ _
   | exact ih1 _ _ _ _ _ _ _ _ _ _ _ _ _ _ _
   | exact exactppllaw06_awake.mono _
   | exact exactpplmake_Src_Type.mono _ _ _ _ _
   | exact exactpplref06_Equal.mono _ _ _ _ _ _ _ _ _ _ _
   | exact exactpplref06_Validate.mono _ _ _ _ _ _
   | exact types_Format.mono _ _ _ _ _ _
   | exact LeO.none _
   | refine LeO.ite ?_ ?_
   | refine LeO.bind ?_ (fun _ => ?_)
theorem exactppllaw06_TypesTexts.mono : ∀ a0 k, LeO (exactppllaw06_TypesTexts.f k a0) (exactppllaw06_TypesTexts.f (k + 1) a0) := by
 intro a0 k
 obtain ⟨ih0, ih1⟩ := exactppllaw06_TypesTexts.mono_l k
 unfold exactppllaw06_TypesTexts.f
 repeat' first
   | (with_reducible exact ih0 _ _ _ _ _ _ _ _ _ _)
   | (with_reducible exact ih1 _ _ _ _ _ _ _ _ _ _ _ _ _ _ _)
   | (with_reducible exact exactppllaw06_awake.mono _)
   | (with_reducible exact exactpplmake_Src_Type.mono _ _ _ _ _)
   | (with_reducible exact exactpplref06_Equal.mono _ _ _ _ _ _ _ _ _ _ _)
   | (with_reducible exact exactpplref06_Validate.mono _ _ _ _ _ _)
   | (with_reducible exact types_Format.mono _ _ _ _ _ _)
   | (with_reducible exact LeO.refl _)
   | (with_reducible exact LeO.none _)
   | (with_reducible refine LeO.ite ?_ ?_)
   | (with_reducible refine LeO.bind ?_ (fun _ => ?_))
   | exact ih0 _ _ _ _ _ _ _ _ _ _
   | exact ih1 _ _ _ _ _ _ _ _ _ _ _ _ _ _ _
   | exact exactppllaw06_awake.mono _
   | exact exactpplmake_Src_Type.mono _ _ _ _ _
   | exact exactpplref06_Equal.mono _ _ _ _ _ _ _ _ _ _ _
   | exact exactpplref06_Validate.mono _ _ _ _ _ _
   | exact types_Format.mono _ _ _ _ _ _
   | exact LeO.none _
   | refine LeO.ite ?_ ?_
   | refine LeO.bind ?_ (fun _ => ?_)
def exactppllaw06_TypesTexts.T9 : Bool × List (List Nat × List Nat) := (true, [([], []), ([0], [0]), ([1], [1]), ([2], [2]), ([3, 2], [2, 3]), ([2, 4], [2, 4]), ([5, 2], [5]), ([6], [6]), ([6], [6]), ([7, 8, 6], [6, 7, 8]), ([6], [6]), ([6], [6]), ([10, 11, 6, 6], [6, 10, 11]), ([9, 12, 6], [6, 9, 12]), ([6, 13], [6, 13]), ([14, 12], [14]), ([15], [15]), ([15], [15]), ([16, 17, 15, 15], [15, 16, 17]), ([15], [15]), ([15], [15]), ([19, 20, 18, 15], [15, 19, 20]), ([18, 21, 15], [15, 18, 21]), ([15, 22], [15, 22]), ([23, 21], [23]), ([24, 24], [24]), ([24, 25], [24, 25]), ([26, 25, 0, 1, 2, 3, 4, 5, 6, 7, 8, 9, 10, 11, 12, 13, 14, 15, 16, 17, 18, 19, 20, 21, 22, 23, 24, 25, 26], [26])])
def exactppllaw06_TypesTexts.B9 : List Nat := [0, 1, 3, 7, 15, 31, 63, 127, 127, 511, 127, 127, 3199, 8191, 16383, 32767, 65535, 65535, 262143, 65535, 65535, 2097151, 4194303, 8388607, 16777215, 33554431, 67108863, 134217727]
theorem exactppllaw06_TypesTexts.tab9 : rtab .any (opsOf Tryd.f6 9) = exactppllaw06_TypesTexts.T9 := by kernel_rfl
theorem exactppllaw06_TypesTexts.bits9 : waitsOk exactppllaw06_TypesTexts.T9.2 exactppllaw06_TypesTexts.B9 = true := by kernel_rfl
set_option maxHeartbeats 8000000 in
set_option maxRecDepth 100000 in
theorem exactppllaw06_TypesTexts.calls (k : Nat) (A0 : Option Addr) (c0 : Nat) (l0 : List Int) (r : Bool) (w : World) (hr0 : Kd.C (Kd.int .i64) w A0 l0.length l0) (hc0 : l0.length ≤ c0) (h : exactppllaw06_TypesTexts.f k l0 = some r) (htab : PowTab w.heap.size w) :
  Calls Tryd.prog 6 #[.slice A0 l0.length c0] w fun e w' => e = .returned (.bool r) ∧ Below w.heap.size w w' := by
 have HTAB := Aside0.mk htab
 clear htab
 have hu24 := Tryd.underlying24
 have HR0 := Aside0.mk hr0
 have HC0 := Aside0.mk hc0
 clear hr0 hc0
 have HB := Aside0.mk (Below.refl w.heap.size w)
 have H : ((exactpplmake_New.f l0).bind fun bt316 => ((exactpplmake_Src_Type.f k bt316.1 bt316.2.1 bt316.2.2 3).bind fun bt320 => ((exactpplmake_Src_Type.f k bt316.1 bt320.2.2.2.2.2.1 bt320.2.2.2.2.2.2 3).bind fun bt329 => ((exactpplmake_Src_N.f bt316.1 bt329.2.2.2.2.2.1 bt329.2.2.2.2.2.2 4).bind fun bt340 => (if bt340.1 = 0 then (exactppllaw06_TypesTexts.j0 k bt320.1 bt320.2.1 bt320.2.2.1 bt320.2.2.2.1 bt320.2.2.2.2.1 bt320.1 bt320.2.1 bt320.2.2.1 bt320.2.2.2.1 bt320.2.2.2.2.1) else (exactppllaw06_TypesTexts.j0 k bt320.1 bt320.2.1 bt320.2.2.1 bt320.2.2.2.1 bt320.2.2.2.2.1 bt329.1 bt329.2.1 bt329.2.2.1 bt329.2.2.2.1 bt329.2.2.2.2.1)))))) = some r := h
 clear h
 replace H := Option.bind_eq_some_iff.mp H
 obtain ⟨⟨t316, t317, t318⟩, A20, H⟩ := H
 replace H : ((exactpplmake_Src_Type.f k t316 t317 t318 3).bind fun bt320 => ((exactpplmake_Src_Type.f k t316 bt320.2.2.2.2.2.1 bt320.2.2.2.2.2.2 3).bind fun bt329 => ((exactpplmake_Src_N.f t316 bt329.2.2.2.2.2.1 bt329.2.2.2.2.2.2 4).bind fun bt340 => (if bt340.1 = 0 then (exactppllaw06_TypesTexts.j0 k bt320.1 bt320.2.1 bt320.2.2.1 bt320.2.2.2.1 bt320.2.2.2.2.1 bt320.1 bt320.2.1 bt320.2.2.1 bt320.2.2.2.1 bt320.2.2.2.2.1) else (exactppllaw06_TypesTexts.j0 k bt320.1 bt320.2.1 bt320.2.2.1 bt320.2.2.2.1 bt320.2.2.2.2.1 bt329.1 bt329.2.1 bt329.2.2.1 bt329.2.2.2.1 bt329.2.2.2.2.1))))) = some r := H
 have A2 := Aside0.mk A20
 clear A20
 replace H := Option.bind_eq_some_iff.mp H
 obtain ⟨⟨t320, t321, t322, t323, t324, t327, t328⟩, A30, H⟩ := H
 replace H : ((exactpplmake_Src_Type.f k t316 t327 t328 3).bind fun bt329 => ((exactpplmake_Src_N.f t316 bt329.2.2.2.2.2.1 bt329.2.2.2.2.2.2 4).bind fun bt340 => (if bt340.1 = 0 then (exactppllaw06_TypesTexts.j0 k t320 t321 t322 t323 t324 t320 t321 t322 t323 t324) else (exactppllaw06_TypesTexts.j0 k t320 t321 t322 t323 t324 bt329.1 bt329.2.1 bt329.2.2.1 bt329.2.2.2.1 bt329.2.2.2.2.1)))) = some r := H
 have A3 := Aside0.mk A30
 clear A30
 replace H := Option.bind_eq_some_iff.mp H
 obtain ⟨⟨t329, t330, t331, t332, t333, t336, t337⟩, A40, H⟩ := H
 replace H : ((exactpplmake_Src_N.f t316 t336 t337 4).bind fun bt340 => (if bt340.1 = 0 then (exactppllaw06_TypesTexts.j0 k t320 t321 t322 t323 t324 t320 t321 t322 t323 t324) else (exactppllaw06_TypesTexts.j0 k t320 t321 t322 t323 t324 t329 t330 t331 t332 t333))) = some r := H
 have A4 := Aside0.mk A40
 clear A40
 replace H := Option.bind_eq_some_iff.mp H
 obtain ⟨⟨t340, t341, t342⟩, A50, H⟩ := H
 replace H : (if t340 = 0 then (exactppllaw06_TypesTexts.j0 k t320 t321 t322 t323 t324 t320 t321 t322 t323 t324) else (exactppllaw06_TypesTexts.j0 k t320 t321 t322 t323 t324 t329 t330 t331 t332 t333)) = some r := H
 have A5 := Aside0.mk A50
 clear A50
 have HC6 := Aside0.mk H
 clear H
 go_enter Tryd.func6, Tryd.ntmps6
 go_upto_if 18 with (first | ((with_reducible refine gate_callee (f := 14) rfl ?_); refine goesL_ (some 11) rfl rfl Tryd.func14 (by kernel_rfl) rfl #[.slice A0 l0.length c0] rfl (by (try simp only [List.map_toArray, List.map_cons, List.map_nil]); first | done | rfl | (simp only [List.length_drop, List.length_take]; rfl)) ?_; (with_reducible refine (exactpplmake_New.calls _ _ l0 t316 t317 t318 w _ ?side1 ?side2 ?side3 A2.out).mono ?_); (case side1 => repeat (first | (with_reducible first | exact HB.out | apply below_alloc | apply pw_below_drewN | apply below_drew1) | exact HB.out)); (case side2 => exact HR0.out); (case side3 => exact HC0.out); rintro e w7 ⟨g319, rfl, hi, hb, hb2⟩; refine ⟨_, rfl, ?_⟩; have HI319 := Aside0.mk (hi); replace HB := Aside0.mk (hb); (try clear hb); (try clear hb2); (try clear hk); (try clear hi)) | ((with_reducible refine gate_callee (f := 15) rfl ?_); refine goesL_ (some 13) rfl rfl Tryd.func15 (by kernel_rfl) rfl #[.pointer (some ⟨g319, 0, none⟩), .int .i64 3] rfl (by (try simp only [List.map_toArray, List.map_cons, List.map_nil]); first | done | rfl | (simp only [List.length_drop, List.length_take]; rfl)) ?_; (with_reducible refine (exactpplmake_Src_Type.calls k g319 t316 t317 t318 3 t320 t321 t322 t323 t324 t327 t328 w _ ?side1 ?side2 A3.out).mono ?_); (case side1 => repeat (first | (with_reducible first | exact HI319.out | apply IsS63.alloc | apply IsS63.drewN | apply IsS63.drew | apply IsS63.set_1 | apply IsS63.set_2) | exact HI319.out)); (case side2 => repeat (first | (with_reducible first | exact HB.out | apply below_alloc | apply pw_below_drewN | apply below_drew1 | refine below_set ?_ (IsS63.ge HI319.out)) | exact HB.out)); rintro e w8 ⟨v325, rfl, ho0, hi, hb, hk⟩; refine ⟨_, rfl, ?_⟩; have HO326 := Aside0.mk (Kd.N_lower (Kd.N_mono (ok' := fun k_ => k_ ≠ g319) ho0 (fun k_ hk_ => (IsS63.fresh si_ k_ hk_))) (below_size bl_)); replace HB := Aside0.mk (hb); replace HI319 := Aside0.mk (hi); (try clear hb); (try clear hb2); (try clear hk); (try clear hi); (try clear ho0)) | ((with_reducible refine gate_callee (f := 15) rfl ?_); refine goesL_ (some 15) rfl rfl Tryd.func15 (by kernel_rfl) rfl #[.pointer (some ⟨g319, 0, none⟩), .int .i64 3] rfl (by (try simp only [List.map_toArray, List.map_cons, List.map_nil]); first | done | rfl | (simp only [List.length_drop, List.length_take]; rfl)) ?_; (with_reducible refine (exactpplmake_Src_Type.calls k g319 t316 t327 t328 3 t329 t330 t331 t332 t333 t336 t337 w _ ?side1 ?side2 A4.out).mono ?_); (case side1 => repeat (first | (with_reducible first | exact HI319.out | apply IsS63.alloc | apply IsS63.drewN | apply IsS63.drew | apply IsS63.set_1 | apply IsS63.set_2) | exact HI319.out)); (case side2 => repeat (first | (with_reducible first | exact HB.out | apply below_alloc | apply pw_below_drewN | apply below_drew1 | refine below_set ?_ (IsS63.ge HI319.out)) | exact HB.out)); rintro e w9 ⟨v334, rfl, ho0, hi, hb, hk⟩; refine ⟨_, rfl, ?_⟩; have HO335 := Aside0.mk (Kd.N_lower (Kd.N_mono (ok' := fun k_ => some k_ ≠ (v325 : Value).ownBlock ∧ k_ ≠ g319) ho0 (fun k_ hk_ => ⟨(Kd.fresh' (Kd.N_lt (pN_ HO326.out)) k_ hk_), (IsS63.fresh si_ k_ hk_)⟩)) (below_size bl_)); replace HO326 := Aside0.mk (Kd.N_mono (Kd.N_told (Kd.N_oldK (Kd.N_mono (ok := fun k_ => k_ ≠ g319) (pN_ HO326.out) (fun k_ hk_ => (⟨hk_, hk_⟩ : _ ∧ k_ ≠ g319))) hk) (by first | exact Kd.N_base ho0 | exact Kd.R_base ho0 | exact Kd.N_base (Kd.S_N ho0))) (fun _ h_ => h_.1)); replace HB := Aside0.mk (hb); replace HI319 := Aside0.mk (hi); (try clear hb); (try clear hb2); (try clear hk); (try clear hi); (try clear ho0)) | ((with_reducible refine gate_dst (N := 4) rfl ?_); refine box_event ?hg (N := 4) ?hd (cs := #[.int .i64 0, .int .i64 0, .int .i64 0, .int .i64 0, .slice none 0 0]) (t := 24) ?hr ?_; (case hd => rfl); (case hg => rfl); (case hr => first | (go_simp; done) | (go_simp; rfl)); intro gb338 hg w10 hbox hb; have BK338 := Aside0.mk (hbox); have GW338 : Aside0 (w.heap.size ≤ gb338) := gw_ hg (below_size bl_); have GE338 := GW338; have NB319_338 := Aside0.mk ((by rw [hg]; exact Nat.ne_of_lt (IsS63.lt (show IsS63 w _ g319 t316 t336 t337 from si_)) : g319 ≠ gb338)); have NB338_319 := Aside0.mk ((by rw [hg]; exact Nat.ne_of_gt (IsS63.lt (show IsS63 w _ g319 t316 t336 t337 from si_)) : gb338 ≠ g319)); replace HO326 := Aside0.mk (Kd.N_below (Kd.N_elderB (pN_ HO326.out) gb338 (Nat.le_of_eq hg.symm)) hb); replace HO335 := Aside0.mk (Kd.N_below (Kd.N_elderB (pN_ HO335.out) gb338 (Nat.le_of_eq hg.symm)) hb); replace HI319 := Aside0.mk (IsS63.below si_ hb); replace HB := Aside0.mk (below_step bl_ hb); clear hb hbox hg) | ((with_reducible refine gate_dst (N := 5) rfl ?_); refine box_event ?hg (N := 5) ?hd (cs := #[.int .i64 0, .int .i64 0, .int .i64 0, .int .i64 0, .slice none 0 0]) (t := 24) ?hr ?_; (case hd => rfl); (case hg => rfl); (case hr => first | (go_simp; done) | (go_simp; rfl)); intro gb339 hg w11 hbox hb; have BK339 := Aside0.mk (hbox); have GW339 : Aside0 (w.heap.size ≤ gb339) := gw_ hg (below_size bl_); have GE339 := GW339; have NB338_339 := Aside0.mk ((by rw [hg]; exact Nat.ne_of_lt (blk_lt (g := gb338) (o := .cells #[.int .i64 0, .int .i64 0, .int .i64 0, .int .i64 0, .slice none 0 0] 24 (0, 0)) bk_) : gb338 ≠ gb339)); have NB339_338 := Aside0.mk ((by rw [hg]; exact Nat.ne_of_gt (blk_lt (g := gb338) (o := .cells #[.int .i64 0, .int .i64 0, .int .i64 0, .int .i64 0, .slice none 0 0] 24 (0, 0)) bk_) : gb339 ≠ gb338)); have NB319_339 := Aside0.mk ((by rw [hg]; exact Nat.ne_of_lt (IsS63.lt (show IsS63 w _ g319 t316 t336 t337 from si_)) : g319 ≠ gb339)); have NB339_319 := Aside0.mk ((by rw [hg]; exact Nat.ne_of_gt (IsS63.lt (show IsS63 w _ g319 t316 t336 t337 from si_)) : gb339 ≠ g319)); replace HO326 := Aside0.mk (Kd.N_below (Kd.N_elderB (pN_ HO326.out) gb339 (Nat.le_of_eq hg.symm)) hb); replace HO335 := Aside0.mk (Kd.N_below (Kd.N_elderB (pN_ HO335.out) gb339 (Nat.le_of_eq hg.symm)) hb); replace HI319 := Aside0.mk (IsS63.below si_ hb); replace BK338 := Aside0.mk (blk_below (g := gb338) (o := .cells #[.int .i64 0, .int .i64 0, .int .i64 0, .int .i64 0, .slice none 0 0] 24 (0, 0)) bk_ hb); replace HB := Aside0.mk (below_step bl_ hb); clear hb hbox hg; have hnb12 := NB338_339.out; have hnc12 := NB339_338.out; have hnb13 := NB338_319.out; have hnc13 := NB319_338.out; obtain ⟨hcz14_0, hcz14_1, hcz14_2, hcz14_3, hcz14_4, hfz14_0, hfz14_1, hfz14_2, hfz14_3, hfz14_4⟩ := cf5_ BK338.out; obtain ⟨Ao15, co15, eo15⟩ := Kd.N_slice HO326.out; subst eo15; have hnb16 := NB339_319.out; have hnc16 := NB319_339.out; obtain ⟨hcz17_0, hcz17_1, hcz17_2, hcz17_3, hcz17_4, hfz17_0, hfz17_1, hfz17_2, hfz17_3, hfz17_4⟩ := cf5_ BK339.out; obtain ⟨Ao18, co18, eo18⟩ := Kd.N_slice HO335.out; subst eo18) | ((with_reducible refine gate_callee (f := 20) rfl ?_); refine goesL_ (some 17) rfl rfl Tryd.func20 (by kernel_rfl) rfl #[.pointer (some ⟨g319, 0, none⟩), .int .i64 4] rfl (by (try simp only [List.map_toArray, List.map_cons, List.map_nil]); first | done | rfl | (simp only [List.length_drop, List.length_take]; rfl)) ?_; (with_reducible refine (exactpplmake_Src_N.calls g319 t316 t336 t337 4 t340 t341 t342 w _ ?side1 ?side2 A5.out).mono ?_); (case side1 => repeat (first | (with_reducible first | exact HI319.out | apply IsS63.alloc | apply IsS63.drewN | apply IsS63.drew | apply IsS63.set_1 | apply IsS63.set_2 | refine IsS63.far ?_ NB319_338.out _ | refine IsS63.far ?_ NB319_339.out _) | exact HI319.out)); (case side2 => repeat (first | (with_reducible first | exact HB.out | apply below_alloc | apply pw_below_drewN | apply below_drew1 | refine below_set ?_ (IsS63.ge HI319.out) | refine below_set ?_ GE338.out | refine below_set ?_ GE339.out) | exact HB.out)); rintro e w19 ⟨rfl, hi, hb, hk⟩; refine ⟨_, rfl, ?_⟩; replace HO326 := Aside0.mk (Kd.N_mono (Kd.N_keep (Kd.N_mono (ok := fun k_ => (((k_ ≠ g319 ∧ some k_ ≠ (.slice Ao18 t333.length co18 : Value).ownBlock) ∧ k_ ≠ gb338) ∧ k_ ≠ gb339)) (by (with_reducible repeat (first | apply Kd.N_alloc | apply Kd.N_drewN | apply Kd.N_drew)); exact (Kd.N_mono (Kd.N_mono (Kd.N_far (p := ⟨gb339, 4, none⟩) (Kd.N_far (p := ⟨gb339, 3, none⟩) (Kd.N_far (p := ⟨gb339, 2, none⟩) (Kd.N_far (p := ⟨gb339, 1, none⟩) (Kd.N_far (p := ⟨gb339, 0, none⟩) (Kd.N_far (p := ⟨gb338, 4, none⟩) (Kd.N_far (p := ⟨gb338, 3, none⟩) (Kd.N_far (p := ⟨gb338, 2, none⟩) (Kd.N_far (p := ⟨gb338, 1, none⟩) (Kd.N_far (p := ⟨gb338, 0, none⟩) (Kd.N_mono (Kd.N_mono HO326.out (fun k_ hk => (⟨hk, by first | exact hk.1.2 | exact hk.1 | exact hk.2 | exact hk.1.1 | exact hk.1.2⟩ : _ ∧ k_ ≠ gb338))) (fun k_ hk => (⟨hk, by first | exact hk.1.2 | exact hk.1 | exact hk.2 | exact hk.1.1 | exact hk.1.2⟩ : _ ∧ k_ ≠ gb339))) (fun _ hk => hk.1.2) (.int .i64 t320)) (fun _ hk => hk.1.2) (.int .i64 t321)) (fun _ hk => hk.1.2) (.int .i64 t322)) (fun _ hk => hk.1.2) (.int .i64 t323)) (fun _ hk => hk.1.2) (.slice Ao15 t324.length co15)) (fun _ hk => hk.2) (.int .i64 t329)) (fun _ hk => hk.2) (.int .i64 t330)) (fun _ hk => hk.2) (.int .i64 t331)) (fun _ hk => hk.2) (.int .i64 t332)) (fun _ hk => hk.2) (.slice Ao18 t333.length co18)) (fun _ h_ => h_.1)) (fun _ h_ => h_.1))) (fun k_ hk_ => (⟨hk_, hk_.1.1.1⟩ : _ ∧ k_ ≠ g319))) hk (fun _ h => h.2)) (fun _ h => h.1)); replace HO335 := Aside0.mk (Kd.N_mono (Kd.N_keep (Kd.N_mono (ok := fun k_ => (((some k_ ≠ (.slice Ao15 t324.length co15 : Value).ownBlock ∧ k_ ≠ g319) ∧ k_ ≠ gb338) ∧ k_ ≠ gb339)) (by (with_reducible repeat (first | apply Kd.N_alloc | apply Kd.N_drewN | apply Kd.N_drew)); exact (Kd.N_mono (Kd.N_mono (Kd.N_far (p := ⟨gb339, 4, none⟩) (Kd.N_far (p := ⟨gb339, 3, none⟩) (Kd.N_far (p := ⟨gb339, 2, none⟩) (Kd.N_far (p := ⟨gb339, 1, none⟩) (Kd.N_far (p := ⟨gb339, 0, none⟩) (Kd.N_far (p := ⟨gb338, 4, none⟩) (Kd.N_far (p := ⟨gb338, 3, none⟩) (Kd.N_far (p := ⟨gb338, 2, none⟩) (Kd.N_far (p := ⟨gb338, 1, none⟩) (Kd.N_far (p := ⟨gb338, 0, none⟩) (Kd.N_mono (Kd.N_mono HO335.out (fun k_ hk => (⟨hk, by first | exact hk.1.2 | exact hk.1 | exact hk.2 | exact hk.1.1 | exact hk.1.2⟩ : _ ∧ k_ ≠ gb338))) (fun k_ hk => (⟨hk, by first | exact hk.1.2 | exact hk.1 | exact hk.2 | exact hk.1.1 | exact hk.1.2⟩ : _ ∧ k_ ≠ gb339))) (fun _ hk => hk.1.2) (.int .i64 t320)) (fun _ hk => hk.1.2) (.int .i64 t321)) (fun _ hk => hk.1.2) (.int .i64 t322)) (fun _ hk => hk.1.2) (.int .i64 t323)) (fun _ hk => hk.1.2) (.slice Ao15 t324.length co15)) (fun _ hk => hk.2) (.int .i64 t329)) (fun _ hk => hk.2) (.int .i64 t330)) (fun _ hk => hk.2) (.int .i64 t331)) (fun _ hk => hk.2) (.int .i64 t332)) (fun _ hk => hk.2) (.slice Ao18 t333.length co18)) (fun _ h_ => h_.1)) (fun _ h_ => h_.1))) (fun k_ hk_ => (⟨hk_, hk_.1.1.2⟩ : _ ∧ k_ ≠ g319))) hk (fun _ h => h.2)) (fun _ h => h.1)); replace BK338 := Aside0.mk (KeepBut.blk hk (g' := gb338) (o := .cells #[.int .i64 t320, .int .i64 t321, .int .i64 t322, .int .i64 t323, .slice Ao15 t324.length co15] 24 (0, 0)) (by (with_reducible repeat (first | refine blk_drewN ?_ _ | refine blk_drew ?_ | refine blk_alloc ?_ _)); refine blk_far ?_ NB338_339.out _; (with_reducible repeat (first | refine blk_drewN ?_ _ | refine blk_drew ?_ | refine blk_alloc ?_ _)); refine blk_far ?_ NB338_339.out _; (with_reducible repeat (first | refine blk_drewN ?_ _ | refine blk_drew ?_ | refine blk_alloc ?_ _)); refine blk_far ?_ NB338_339.out _; (with_reducible repeat (first | refine blk_drewN ?_ _ | refine blk_drew ?_ | refine blk_alloc ?_ _)); refine blk_far ?_ NB338_339.out _; (with_reducible repeat (first | refine blk_drewN ?_ _ | refine blk_drew ?_ | refine blk_alloc ?_ _)); refine blk_far ?_ NB338_339.out _; (with_reducible repeat (first | refine blk_drewN ?_ _ | refine blk_drew ?_ | refine blk_alloc ?_ _)); refine blk_put (cs := #[.int .i64 t320, .int .i64 t321, .int .i64 t322, .int .i64 t323, .slice none 0 0]) ?_ 4 _ rfl; (with_reducible repeat (first | refine blk_drewN ?_ _ | refine blk_drew ?_ | refine blk_alloc ?_ _)); refine blk_put (cs := #[.int .i64 t320, .int .i64 t321, .int .i64 t322, .int .i64 0, .slice none 0 0]) ?_ 3 _ rfl; (with_reducible repeat (first | refine blk_drewN ?_ _ | refine blk_drew ?_ | refine blk_alloc ?_ _)); refine blk_put (cs := #[.int .i64 t320, .int .i64 t321, .int .i64 0, .int .i64 0, .slice none 0 0]) ?_ 2 _ rfl; (with_reducible repeat (first | refine blk_drewN ?_ _ | refine blk_drew ?_ | refine blk_alloc ?_ _)); refine blk_put (cs := #[.int .i64 t320, .int .i64 0, .int .i64 0, .int .i64 0, .slice none 0 0]) ?_ 1 _ rfl; (with_reducible repeat (first | refine blk_drewN ?_ _ | refine blk_drew ?_ | refine blk_alloc ?_ _)); refine blk_put (cs := #[.int .i64 0, .int .i64 0, .int .i64 0, .int .i64 0, .slice none 0 0]) ?_ 0 _ rfl; (with_reducible repeat (first | refine blk_drewN ?_ _ | refine blk_drew ?_ | refine blk_alloc ?_ _)); exact BK338.out) NB338_319.out (by simp)); replace BK339 := Aside0.mk (KeepBut.blk hk (g' := gb339) (o := .cells #[.int .i64 t329, .int .i64 t330, .int .i64 t331, .int .i64 t332, .slice Ao18 t333.length co18] 24 (0, 0)) (by (with_reducible repeat (first | refine blk_drewN ?_ _ | refine blk_drew ?_ | refine blk_alloc ?_ _)); refine blk_put (cs := #[.int .i64 t329, .int .i64 t330, .int .i64 t331, .int .i64 t332, .slice none 0 0]) ?_ 4 _ rfl; (with_reducible repeat (first | refine blk_drewN ?_ _ | refine blk_drew ?_ | refine blk_alloc ?_ _)); refine blk_put (cs := #[.int .i64 t329, .int .i64 t330, .int .i64 t331, .int .i64 0, .slice none 0 0]) ?_ 3 _ rfl; (with_reducible repeat (first | refine blk_drewN ?_ _ | refine blk_drew ?_ | refine blk_alloc ?_ _)); refine blk_put (cs := #[.int .i64 t329, .int .i64 t330, .int .i64 0, .int .i64 0, .slice none 0 0]) ?_ 2 _ rfl; (with_reducible repeat (first | refine blk_drewN ?_ _ | refine blk_drew ?_ | refine blk_alloc ?_ _)); refine blk_put (cs := #[.int .i64 t329, .int .i64 0, .int .i64 0, .int .i64 0, .slice none 0 0]) ?_ 1 _ rfl; (with_reducible repeat (first | refine blk_drewN ?_ _ | refine blk_drew ?_ | refine blk_alloc ?_ _)); refine blk_put (cs := #[.int .i64 0, .int .i64 0, .int .i64 0, .int .i64 0, .slice none 0 0]) ?_ 0 _ rfl; (with_reducible repeat (first | refine blk_drewN ?_ _ | refine blk_drew ?_ | refine blk_alloc ?_ _)); refine blk_far ?_ NB339_338.out _; (with_reducible repeat (first | refine blk_drewN ?_ _ | refine blk_drew ?_ | refine blk_alloc ?_ _)); refine blk_far ?_ NB339_338.out _; (with_reducible repeat (first | refine blk_drewN ?_ _ | refine blk_drew ?_ | refine blk_alloc ?_ _)); refine blk_far ?_ NB339_338.out _; (with_reducible repeat (first | refine blk_drewN ?_ _ | refine blk_drew ?_ | refine blk_alloc ?_ _)); refine blk_far ?_ NB339_338.out _; (with_reducible repeat (first | refine blk_drewN ?_ _ | refine blk_drew ?_ | refine blk_alloc ?_ _)); refine blk_far ?_ NB339_338.out _; (with_reducible repeat (first | refine blk_drewN ?_ _ | refine blk_drew ?_ | refine blk_alloc ?_ _)); exact BK339.out) NB339_319.out (by simp)); replace HB := Aside0.mk (hb); replace HI319 := Aside0.mk (hi); (try clear hb); (try clear hb2); (try clear hk); (try clear hi)))
 (try simp only [Act.put, List.setIfInBounds_toArray, List.set_cons_zero, List.set_cons_succ])
 go_cut [] (fun wc => ∃ (kq : Nat) (x340000_5 : Int) (x340001_5 : Int) (x340002_5 : Int) (x340003_5 : Int) (x340004_5 : List (S24)) (u340004 : Value), Aside0 (exactppllaw06_TypesTexts.j0 kq t320 t321 t322 t323 t324 x340000_5 x340001_5 x340002_5 x340003_5 x340004_5 = some r) ∧ Aside0 (kq ≤ k) ∧ Aside0 (Kd.N k24 24 wc w.heap.size (fun k_ => k_ ≠ gb338 ∧ k_ ≠ gb339) (.slice Ao15 t324.length co15) t324) ∧ Aside0 (Kd.N k24 24 wc w.heap.size (fun k_ => k_ ≠ gb338 ∧ k_ ≠ gb339) u340004 x340004_5) ∧ Aside0 (wc.heap[gb338]? = some (.cells #[.int .i64 t320, .int .i64 t321, .int .i64 t322, .int .i64 t323, (.slice Ao15 t324.length co15)] 24 (0, 0))) ∧ Aside0 (wc.heap[gb339]? = some (.cells #[.int .i64 x340000_5, .int .i64 x340001_5, .int .i64 x340002_5, .int .i64 x340003_5, u340004] 24 (0, 0))) ∧ Aside0 (Below w.heap.size w wc))
 case first =>
  have H := HC6.out
  clear HC6
  by_cases c20 : t340 = 0
  ·rw [if_pos c20] at H
   have c20b0 : (t340 == 0) = true := beq_iff_eq.mpr c20
   have c20b1 : (t340 != 0) = false := bne_eq_false_iff_eq.mpr c20
   clear c20
   (first | rw [c20b0] | (simp only [i64_w, i32_w]; rw [c20b0]) | skip)
   have H' := Aside0.mk H
   clear H
   have hnb21 := NB338_339.out
   have hnc21 := NB339_338.out
   have hnb22 := NB338_319.out
   have hnc22 := NB319_338.out
   obtain ⟨hcz23_0, hcz23_1, hcz23_2, hcz23_3, hcz23_4, hfz23_0, hfz23_1, hfz23_2, hfz23_3, hfz23_4⟩ := cf5_ BK338.out
   have hnb24 := NB339_319.out
   have hnc24 := NB319_339.out
   obtain ⟨hcz25_0, hcz25_1, hcz25_2, hcz25_3, hcz25_4, hfz25_0, hfz25_1, hfz25_2, hfz25_3, hfz25_4⟩ := cf5_ BK339.out
   go_wp2
   go_meet
   case rel => exact ⟨_, (t320), (t321), (t322), (t323), (t324), (.slice Ao15 t324.length co15), H', ⟨by first | omega | exact Nat.le_refl _⟩, ⟨by (with_reducible repeat (first | apply Kd.N_alloc | apply Kd.N_drewN | apply Kd.N_drew)); exact Kd.N_mono (Kd.N_far (p := ⟨gb339, 4, none⟩) (Kd.N_far (p := ⟨gb339, 3, none⟩) (Kd.N_far (p := ⟨gb339, 2, none⟩) (Kd.N_far (p := ⟨gb339, 1, none⟩) (Kd.N_far (p := ⟨gb339, 0, none⟩) (Kd.N_mono HO326.out (fun k_ hk => (⟨hk, by first | exact hk.2 | exact hk.1 | exact hk.2 | exact hk.1.1 | exact hk.1.2⟩ : _ ∧ k_ ≠ gb339))) (fun _ hk => hk.2) (.int .i64 t320)) (fun _ hk => hk.2) (.int .i64 t321)) (fun _ hk => hk.2) (.int .i64 t322)) (fun _ hk => hk.2) (.int .i64 t323)) (fun _ hk => hk.2) (.slice Ao15 t324.length co15)) (fun _ hk => by refine ⟨?_, ?_⟩ <;> first | exact hk.1.1.2 | exact hk.1.2 | exact hk.1.1.1.2 | exact hk.1.1.1.1 | exact hk.1.1.1 | exact hk.1.1 | exact hk.1 | exact hk.2)⟩, ⟨by (with_reducible repeat (first | apply Kd.N_alloc | apply Kd.N_drewN | apply Kd.N_drew)); exact Kd.N_mono (Kd.N_far (p := ⟨gb339, 4, none⟩) (Kd.N_far (p := ⟨gb339, 3, none⟩) (Kd.N_far (p := ⟨gb339, 2, none⟩) (Kd.N_far (p := ⟨gb339, 1, none⟩) (Kd.N_far (p := ⟨gb339, 0, none⟩) (Kd.N_mono HO326.out (fun k_ hk => (⟨hk, by first | exact hk.2 | exact hk.1 | exact hk.2 | exact hk.1.1 | exact hk.1.2⟩ : _ ∧ k_ ≠ gb339))) (fun _ hk => hk.2) (.int .i64 t320)) (fun _ hk => hk.2) (.int .i64 t321)) (fun _ hk => hk.2) (.int .i64 t322)) (fun _ hk => hk.2) (.int .i64 t323)) (fun _ hk => hk.2) (.slice Ao15 t324.length co15)) (fun _ hk => by refine ⟨?_, ?_⟩ <;> first | exact hk.1.1.2 | exact hk.1.2 | exact hk.1.1.1.2 | exact hk.1.1.1.1 | exact hk.1.1.1 | exact hk.1.1 | exact hk.1 | exact hk.2)⟩, ⟨by (with_reducible repeat (first | refine blk_drewN ?_ _ | refine blk_drew ?_ | refine blk_alloc ?_ _)); refine blk_far ?_ NB338_339.out _; (with_reducible repeat (first | refine blk_drewN ?_ _ | refine blk_drew ?_ | refine blk_alloc ?_ _)); refine blk_far ?_ NB338_339.out _; (with_reducible repeat (first | refine blk_drewN ?_ _ | refine blk_drew ?_ | refine blk_alloc ?_ _)); refine blk_far ?_ NB338_339.out _; (with_reducible repeat (first | refine blk_drewN ?_ _ | refine blk_drew ?_ | refine blk_alloc ?_ _)); refine blk_far ?_ NB338_339.out _; (with_reducible repeat (first | refine blk_drewN ?_ _ | refine blk_drew ?_ | refine blk_alloc ?_ _)); refine blk_far ?_ NB338_339.out _; (with_reducible repeat (first | refine blk_drewN ?_ _ | refine blk_drew ?_ | refine blk_alloc ?_ _)); exact BK338.out⟩, ⟨by (with_reducible repeat (first | refine blk_drewN ?_ _ | refine blk_drew ?_ | refine blk_alloc ?_ _)); refine blk_put (cs := #[.int .i64 t320, .int .i64 t321, .int .i64 t322, .int .i64 t323, .slice Ao18 t333.length co18]) ?_ 4 _ rfl; (with_reducible repeat (first | refine blk_drewN ?_ _ | refine blk_drew ?_ | refine blk_alloc ?_ _)); refine blk_put (cs := #[.int .i64 t320, .int .i64 t321, .int .i64 t322, .int .i64 t332, .slice Ao18 t333.length co18]) ?_ 3 _ rfl; (with_reducible repeat (first | refine blk_drewN ?_ _ | refine blk_drew ?_ | refine blk_alloc ?_ _)); refine blk_put (cs := #[.int .i64 t320, .int .i64 t321, .int .i64 t331, .int .i64 t332, .slice Ao18 t333.length co18]) ?_ 2 _ rfl; (with_reducible repeat (first | refine blk_drewN ?_ _ | refine blk_drew ?_ | refine blk_alloc ?_ _)); refine blk_put (cs := #[.int .i64 t320, .int .i64 t330, .int .i64 t331, .int .i64 t332, .slice Ao18 t333.length co18]) ?_ 1 _ rfl; (with_reducible repeat (first | refine blk_drewN ?_ _ | refine blk_drew ?_ | refine blk_alloc ?_ _)); refine blk_put (cs := #[.int .i64 t329, .int .i64 t330, .int .i64 t331, .int .i64 t332, .slice Ao18 t333.length co18]) ?_ 0 _ rfl; (with_reducible repeat (first | refine blk_drewN ?_ _ | refine blk_drew ?_ | refine blk_alloc ?_ _)); exact BK339.out⟩, ⟨bl_⟩⟩
  ·rw [if_neg c20] at H
   have c20b0 : (t340 == 0) = false := beq_eq_false_iff_ne.mpr c20
   have c20b1 : (t340 != 0) = true := bne_iff_ne.mpr c20
   (first | rw [c20b0] | (simp only [i64_w, i32_w]; rw [c20b0]) | skip)
   have H' := Aside0.mk H
   clear H
   go_wp2
   go_meet
   case rel => exact ⟨_, (t329), (t330), (t331), (t332), (t333), (.slice Ao18 t333.length co18), H', ⟨by first | omega | exact Nat.le_refl _⟩, ⟨by (with_reducible repeat (first | apply Kd.N_alloc | apply Kd.N_drewN | apply Kd.N_drew)); exact Kd.N_mono HO326.out (fun _ hk => ⟨hk.1.2, hk.2⟩)⟩, ⟨by (with_reducible repeat (first | apply Kd.N_alloc | apply Kd.N_drewN | apply Kd.N_drew)); exact Kd.N_mono HO335.out (fun _ hk => ⟨hk.1.2, hk.2⟩)⟩, ⟨bk_⟩, ⟨bk_⟩, ⟨bl_⟩⟩
 case rest =>
  clear HC6
  try clear c1
  try clear c2
  try clear p2
  try clear c6
  try clear c12
  try clear c13
  try clear c14
  try clear c15
  try clear c16
  try clear c20
  try clear c20b0
  try clear c20b1
  try clear c21
  try clear c22
  try clear c24
  try clear hcz14_0 hcz14_1 hcz14_2 hcz14_3 hcz14_4 hfz14_0 hfz14_1 hfz14_2 hfz14_3 hfz14_4
  try clear hcz17_0 hcz17_1 hcz17_2 hcz17_3 hcz17_4 hfz17_0 hfz17_1 hfz17_2 hfz17_3 hfz17_4
  try clear hcz23_0 hcz23_1 hcz23_2 hcz23_3 hcz23_4 hfz23_0 hfz23_1 hfz23_2 hfz23_3 hfz23_4
  try clear hcz25_0 hcz25_1 hcz25_2 hcz25_3 hcz25_4 hfz25_0 hfz25_1 hfz25_2 hfz25_3 hfz25_4
  obtain ⟨kq, x340000_5, x340001_5, x340002_5, x340003_5, x340004_5, u340004, HA, HJ5, HO_339004, HO_340004, BK338, BK339, HB⟩ := hcut
  cases kq with
  | zero => exact absurd HA.out (by simp [exactppllaw06_TypesTexts.j0])
  | succ kj5 =>
   have H := HA.out
   clear HA
   simp only [exactppllaw06_TypesTexts.j0] at H
   replace H := Option.bind_eq_some_iff.mp H
   obtain ⟨⟨t343, t344⟩, A260, H⟩ := H
   replace H : ((types_Format.f kj5 x340000_5 x340001_5 x340002_5 x340003_5 x340004_5).bind fun bt345 => ((exactpplref06_Validate.f kj5 t320 t321 t322 t323 t324).bind fun t347 => (if t347 = 0 then ((exactpplref06_Validate.f kj5 x340000_5 x340001_5 x340002_5 x340003_5 x340004_5).bind fun t348 => (exactppllaw06_TypesTexts.j1 kj5 t343 t344 bt345.1 bt345.2 (t348 != 0) t320 t321 t322 t323 t324 x340000_5 x340001_5 x340002_5 x340003_5 x340004_5)) else (exactppllaw06_TypesTexts.j1 kj5 t343 t344 bt345.1 bt345.2 true t320 t321 t322 t323 t324 x340000_5 x340001_5 x340002_5 x340003_5 x340004_5)))) = some r := H
   have A26 := Aside0.mk A260
   clear A260
   replace H := Option.bind_eq_some_iff.mp H
   obtain ⟨⟨t345, t346⟩, A270, H⟩ := H
   replace H : ((exactpplref06_Validate.f kj5 t320 t321 t322 t323 t324).bind fun t347 => (if t347 = 0 then ((exactpplref06_Validate.f kj5 x340000_5 x340001_5 x340002_5 x340003_5 x340004_5).bind fun t348 => (exactppllaw06_TypesTexts.j1 kj5 t343 t344 t345 t346 (t348 != 0) t320 t321 t322 t323 t324 x340000_5 x340001_5 x340002_5 x340003_5 x340004_5)) else (exactppllaw06_TypesTexts.j1 kj5 t343 t344 t345 t346 true t320 t321 t322 t323 t324 x340000_5 x340001_5 x340002_5 x340003_5 x340004_5))) = some r := H
   have A27 := Aside0.mk A270
   clear A270
   have HC28 := Aside0.mk H
   clear H
   have hnb29 := NB338_339.out
   have hnc29 := NB339_338.out
   obtain ⟨hcz30_0, hcz30_1, hcz30_2, hcz30_3, hcz30_4, hfz30_0, hfz30_1, hfz30_2, hfz30_3, hfz30_4⟩ := cf5_ BK338.out
   go_upto_region 7 with (first | ((with_reducible refine gate_callee (f := 21) rfl ?_); refine goesL_ (some 22) rfl rfl Tryd.func21 (by kernel_rfl) rfl #[.agg #[.int .i64 t320, .int .i64 t321, .int .i64 t322, .int .i64 t323, .slice Ao15 t324.length co15]] rfl (by (try simp only [List.map_toArray, List.map_cons, List.map_nil]); first | done | rfl | (simp only [List.length_drop, List.length_take]; rfl)) ?_; (with_reducible refine (types_Format.calls kj5 t320 t321 t322 t323 _ _ t324 t343 t344 _ ?side1 ?side2 A26.out ?tab).mono ?_); (case tab => exact ptab HTAB.out bl_); (case side1 => repeat (first | exact (Kd.N_reads' HO_339004.out).2.2 | (with_reducible refine Kd.C_alloc ?_ _) | (with_reducible refine Kd.C_drewN ?_ _) | (with_reducible refine Kd.C_drew ?_))); (case side2 => exact (Kd.N_reads' HO_339004.out).2.1); rintro e w31 ⟨rfl, hb⟩; refine ⟨_, rfl, ?_⟩; replace HO_339004 := Aside0.mk (Kd.N_below (pN_ HO_339004.out) hb); replace HO_340004 := Aside0.mk (Kd.N_below (pN_ HO_340004.out) hb); replace BK338 := Aside0.mk (blk_below (g := gb338) (o := .cells #[.int .i64 t320, .int .i64 t321, .int .i64 t322, .int .i64 t323, .slice Ao15 t324.length co15] 24 (0, 0)) bk_ hb); replace BK339 := Aside0.mk (blk_below (g := gb339) (o := .cells #[.int .i64 x340000_5, .int .i64 x340001_5, .int .i64 x340002_5, .int .i64 x340003_5, u340004] 24 (0, 0)) bk_ hb); replace HB := Aside0.mk (below_step bl_ hb); (try clear hb); (try clear hb2); (try clear hk); (try clear hi); obtain ⟨hcz32_0, hcz32_1, hcz32_2, hcz32_3, hcz32_4, hfz32_0, hfz32_1, hfz32_2, hfz32_3, hfz32_4⟩ := cf5_ BK339.out; obtain ⟨Ao33, co33, eo33⟩ := Kd.N_slice HO_340004.out; subst eo33) | ((with_reducible refine gate_callee (f := 21) rfl ?_); refine goesL_ (some 27) rfl rfl Tryd.func21 (by kernel_rfl) rfl #[.agg #[.int .i64 x340000_5, .int .i64 x340001_5, .int .i64 x340002_5, .int .i64 x340003_5, .slice Ao33 x340004_5.length co33]] rfl (by (try simp only [List.map_toArray, List.map_cons, List.map_nil]); first | done | rfl | (simp only [List.length_drop, List.length_take]; rfl)) ?_; (with_reducible refine (types_Format.calls kj5 x340000_5 x340001_5 x340002_5 x340003_5 _ _ x340004_5 t345 t346 _ ?side1 ?side2 A27.out ?tab).mono ?_); (case tab => exact ptab HTAB.out bl_); (case side1 => repeat (first | exact (Kd.N_reads' HO_340004.out).2.2 | (with_reducible refine Kd.C_alloc ?_ _) | (with_reducible refine Kd.C_drewN ?_ _) | (with_reducible refine Kd.C_drew ?_))); (case side2 => exact (Kd.N_reads' HO_340004.out).2.1); rintro e w34 ⟨rfl, hb⟩; refine ⟨_, rfl, ?_⟩; replace HO_339004 := Aside0.mk (Kd.N_below (pN_ HO_339004.out) hb); replace HO_340004 := Aside0.mk (Kd.N_below (pN_ HO_340004.out) hb); replace BK338 := Aside0.mk (blk_below (g := gb338) (o := .cells #[.int .i64 t320, .int .i64 t321, .int .i64 t322, .int .i64 t323, .slice Ao15 t324.length co15] 24 (0, 0)) bk_ hb); replace BK339 := Aside0.mk (blk_below (g := gb339) (o := .cells #[.int .i64 x340000_5, .int .i64 x340001_5, .int .i64 x340002_5, .int .i64 x340003_5, .slice Ao33 x340004_5.length co33] 24 (0, 0)) bk_ hb); replace HB := Aside0.mk (below_step bl_ hb); (try clear hb); (try clear hb2); (try clear hk); (try clear hi)))
   (try simp only [Act.put, List.setIfInBounds_toArray, List.set_cons_zero, List.set_cons_succ])
   go_cut [37] (fun v37 wc => ∃ (kq : Nat) (x37_27 : Bool), v37 = .bool x37_27 ∧ Aside0 (exactppllaw06_TypesTexts.j1 kq t343 t344 t345 t346 x37_27 t320 t321 t322 t323 t324 x340000_5 x340001_5 x340002_5 x340003_5 x340004_5 = some r) ∧ Aside0 (kq ≤ kj5) ∧ Aside0 (Kd.N k24 24 wc w.heap.size (fun k_ => k_ ≠ gb338 ∧ k_ ≠ gb339) (.slice Ao15 t324.length co15) t324) ∧ Aside0 (Kd.N k24 24 wc w.heap.size (fun k_ => k_ ≠ gb338 ∧ k_ ≠ gb339) (.slice Ao33 x340004_5.length co33) x340004_5) ∧ Aside0 (wc.heap[gb338]? = some (.cells #[.int .i64 t320, .int .i64 t321, .int .i64 t322, .int .i64 t323, (.slice Ao15 t324.length co15)] 24 (0, 0))) ∧ Aside0 (wc.heap[gb339]? = some (.cells #[.int .i64 x340000_5, .int .i64 x340001_5, .int .i64 x340002_5, .int .i64 x340003_5, (.slice Ao33 x340004_5.length co33)] 24 (0, 0))) ∧ Aside0 (Below w.heap.size w wc))
   case first =>
    have H := HC28.out
    clear HC28
    replace H := Option.bind_eq_some_iff.mp H
    obtain ⟨t347, A350, H⟩ := H
    replace H : (if t347 = 0 then ((exactpplref06_Validate.f kj5 x340000_5 x340001_5 x340002_5 x340003_5 x340004_5).bind fun t348 => (exactppllaw06_TypesTexts.j1 kj5 t343 t344 t345 t346 (t348 != 0) t320 t321 t322 t323 t324 x340000_5 x340001_5 x340002_5 x340003_5 x340004_5)) else (exactppllaw06_TypesTexts.j1 kj5 t343 t344 t345 t346 true t320 t321 t322 t323 t324 x340000_5 x340001_5 x340002_5 x340003_5 x340004_5)) = some r := H
    have A35 := Aside0.mk A350
    clear A350
    by_cases c36 : t347 = 0
    ·rw [if_pos c36] at H
     have c36b0 : (t347 == 0) = true := beq_iff_eq.mpr c36
     have c36b1 : (t347 != 0) = false := bne_eq_false_iff_eq.mpr c36
     clear c36
     (first | rw [c36b0] | (simp only [i64_w, i32_w]; rw [c36b0]) | skip)
     replace H := Option.bind_eq_some_iff.mp H
     obtain ⟨t348, A370, H⟩ := H
     replace H : (exactppllaw06_TypesTexts.j1 kj5 t343 t344 t345 t346 (t348 != 0) t320 t321 t322 t323 t324 x340000_5 x340001_5 x340002_5 x340003_5 x340004_5) = some r := H
     have A37 := Aside0.mk A370
     clear A370
     have H' := Aside0.mk H
     clear H
     have hnb38 := NB338_339.out
     have hnc38 := NB339_338.out
     obtain ⟨hcz39_0, hcz39_1, hcz39_2, hcz39_3, hcz39_4, hfz39_0, hfz39_1, hfz39_2, hfz39_3, hfz39_4⟩ := cf5_ BK338.out
     go_wp2_with (first | ((with_reducible refine gate_callee (f := 22) rfl ?_); refine goesL_ (some 31) rfl rfl Tryd.func22 (by kernel_rfl) rfl #[.agg #[.int .i64 t320, .int .i64 t321, .int .i64 t322, .int .i64 t323, .slice Ao15 t324.length co15]] rfl (by (try simp only [List.map_toArray, List.map_cons, List.map_nil]); first | done | rfl | (simp only [List.length_drop, List.length_take]; rfl)) ?_; (with_reducible refine (exactpplref06_Validate.calls kj5 t320 t321 t322 t323 _ _ t324 t347 _ ?side1 ?side2 A35.out).mono ?_); (case side1 => repeat (first | exact (Kd.N_reads' HO_339004.out).2.2 | (with_reducible refine Kd.C_alloc ?_ _) | (with_reducible refine Kd.C_drewN ?_ _) | (with_reducible refine Kd.C_drew ?_))); (case side2 => exact (Kd.N_reads' HO_339004.out).2.1); rintro e w40 ⟨rfl, hb⟩; refine ⟨_, rfl, ?_⟩; replace HO_339004 := Aside0.mk (Kd.N_below (pN_ HO_339004.out) hb); replace HO_340004 := Aside0.mk (Kd.N_below (pN_ HO_340004.out) hb); replace BK338 := Aside0.mk (blk_below (g := gb338) (o := .cells #[.int .i64 t320, .int .i64 t321, .int .i64 t322, .int .i64 t323, .slice Ao15 t324.length co15] 24 (0, 0)) bk_ hb); replace BK339 := Aside0.mk (blk_below (g := gb339) (o := .cells #[.int .i64 x340000_5, .int .i64 x340001_5, .int .i64 x340002_5, .int .i64 x340003_5, .slice Ao33 x340004_5.length co33] 24 (0, 0)) bk_ hb); replace HB := Aside0.mk (below_step bl_ hb); (try clear hb); (try clear hb2); (try clear hk); (try clear hi); obtain ⟨hcz41_0, hcz41_1, hcz41_2, hcz41_3, hcz41_4, hfz41_0, hfz41_1, hfz41_2, hfz41_3, hfz41_4⟩ := cf5_ BK339.out) | (go_at_call 22; (with_reducible refine (exactpplref06_Validate.calls kj5 x340000_5 x340001_5 x340002_5 x340003_5 _ _ x340004_5 t348 _ ?side1 ?side2 A37.out).mono ?_); (case side1 => repeat (first | exact (Kd.N_reads' HO_340004.out).2.2 | (with_reducible refine Kd.C_alloc ?_ _) | (with_reducible refine Kd.C_drewN ?_ _) | (with_reducible refine Kd.C_drew ?_))); (case side2 => exact (Kd.N_reads' HO_340004.out).2.1); rintro e w42 ⟨rfl, hb⟩; replace HO_339004 := Aside0.mk (Kd.N_below (pN_ HO_339004.out) hb); replace HO_340004 := Aside0.mk (Kd.N_below (pN_ HO_340004.out) hb); replace BK338 := Aside0.mk (blk_below (g := gb338) (o := .cells #[.int .i64 t320, .int .i64 t321, .int .i64 t322, .int .i64 t323, .slice Ao15 t324.length co15] 24 (0, 0)) bk_ hb); replace BK339 := Aside0.mk (blk_below (g := gb339) (o := .cells #[.int .i64 x340000_5, .int .i64 x340001_5, .int .i64 x340002_5, .int .i64 x340003_5, .slice Ao33 x340004_5.length co33] 24 (0, 0)) bk_ hb); replace HB := Aside0.mk (below_step bl_ hb); (try clear hb); (try clear hb2); (try clear hk); (try clear hi)))
     go_meet
     case rel => exact ⟨_, ((t348 != 0)), rs_, H', ⟨by have := HJ5.out; first | omega | exact Nat.le_refl _⟩, ⟨pN_ HO_339004.out⟩, ⟨pN_ HO_340004.out⟩, ⟨bk_⟩, ⟨bk_⟩, ⟨bl_⟩⟩
    ·rw [if_neg c36] at H
     have c36b0 : (t347 == 0) = false := beq_eq_false_iff_ne.mpr c36
     have c36b1 : (t347 != 0) = true := bne_iff_ne.mpr c36
     (first | rw [c36b0] | (simp only [i64_w, i32_w]; rw [c36b0]) | skip)
     have H' := Aside0.mk H
     clear H
     have hnb43 := NB338_339.out
     have hnc43 := NB339_338.out
     obtain ⟨hcz44_0, hcz44_1, hcz44_2, hcz44_3, hcz44_4, hfz44_0, hfz44_1, hfz44_2, hfz44_3, hfz44_4⟩ := cf5_ BK338.out
     go_wp2_with (first | ((with_reducible refine gate_callee (f := 22) rfl ?_); refine goesL_ (some 31) rfl rfl Tryd.func22 (by kernel_rfl) rfl #[.agg #[.int .i64 t320, .int .i64 t321, .int .i64 t322, .int .i64 t323, .slice Ao15 t324.length co15]] rfl (by (try simp only [List.map_toArray, List.map_cons, List.map_nil]); first | done | rfl | (simp only [List.length_drop, List.length_take]; rfl)) ?_; (with_reducible refine (exactpplref06_Validate.calls kj5 t320 t321 t322 t323 _ _ t324 t347 _ ?side1 ?side2 A35.out).mono ?_); (case side1 => repeat (first | exact (Kd.N_reads' HO_339004.out).2.2 | (with_reducible refine Kd.C_alloc ?_ _) | (with_reducible refine Kd.C_drewN ?_ _) | (with_reducible refine Kd.C_drew ?_))); (case side2 => exact (Kd.N_reads' HO_339004.out).2.1); rintro e w45 ⟨rfl, hb⟩; refine ⟨_, rfl, ?_⟩; replace HO_339004 := Aside0.mk (Kd.N_below (pN_ HO_339004.out) hb); replace HO_340004 := Aside0.mk (Kd.N_below (pN_ HO_340004.out) hb); replace BK338 := Aside0.mk (blk_below (g := gb338) (o := .cells #[.int .i64 t320, .int .i64 t321, .int .i64 t322, .int .i64 t323, .slice Ao15 t324.length co15] 24 (0, 0)) bk_ hb); replace BK339 := Aside0.mk (blk_below (g := gb339) (o := .cells #[.int .i64 x340000_5, .int .i64 x340001_5, .int .i64 x340002_5, .int .i64 x340003_5, .slice Ao33 x340004_5.length co33] 24 (0, 0)) bk_ hb); replace HB := Aside0.mk (below_step bl_ hb); (try clear hb); (try clear hb2); (try clear hk); (try clear hi)))
     go_meet
     case rel => exact ⟨_, (true), rs_, H', ⟨by have := HJ5.out; first | omega | exact Nat.le_refl _⟩, ⟨pN_ HO_339004.out⟩, ⟨pN_ HO_340004.out⟩, ⟨bk_⟩, ⟨bk_⟩, ⟨bl_⟩⟩
   case rest =>
    clear HC28
    try clear c1
    try clear c2
    try clear p2
    try clear c3
    try clear c4
    try clear c6
    try clear c12
    try clear c13
    try clear c14
    try clear c15
    try clear c16
    try clear c20
    try clear c20b0
    try clear c20b1
    try clear c21
    try clear c22
    try clear c24
    try clear c29
    try clear c36
    try clear c36b0
    try clear c36b1
    try clear c38
    try clear c43
    try clear hcz14_0 hcz14_1 hcz14_2 hcz14_3 hcz14_4 hfz14_0 hfz14_1 hfz14_2 hfz14_3 hfz14_4
    try clear hcz17_0 hcz17_1 hcz17_2 hcz17_3 hcz17_4 hfz17_0 hfz17_1 hfz17_2 hfz17_3 hfz17_4
    try clear hcz23_0 hcz23_1 hcz23_2 hcz23_3 hcz23_4 hfz23_0 hfz23_1 hfz23_2 hfz23_3 hfz23_4
    try clear hcz25_0 hcz25_1 hcz25_2 hcz25_3 hcz25_4 hfz25_0 hfz25_1 hfz25_2 hfz25_3 hfz25_4
    try clear hcz30_0 hcz30_1 hcz30_2 hcz30_3 hcz30_4 hfz30_0 hfz30_1 hfz30_2 hfz30_3 hfz30_4
    try clear hcz32_0 hcz32_1 hcz32_2 hcz32_3 hcz32_4 hfz32_0 hfz32_1 hfz32_2 hfz32_3 hfz32_4
    try clear hcz39_0 hcz39_1 hcz39_2 hcz39_3 hcz39_4 hfz39_0 hfz39_1 hfz39_2 hfz39_3 hfz39_4
    try clear hcz41_0 hcz41_1 hcz41_2 hcz41_3 hcz41_4 hfz41_0 hfz41_1 hfz41_2 hfz41_3 hfz41_4
    try clear hcz44_0 hcz44_1 hcz44_2 hcz44_3 hcz44_4 hfz44_0 hfz44_1 hfz44_2 hfz44_3 hfz44_4
    try clear p2
    obtain ⟨kq, x37_27, rfl, HA, HJ27, HO_339004, HO_340004, BK338, BK339, HB⟩ := hcut
    cases kq with
    | zero => exact absurd HA.out (by simp [exactppllaw06_TypesTexts.j1])
    | succ kj27 =>
     have H := HA.out
     clear HA
     simp only [exactppllaw06_TypesTexts.j1] at H
     by_cases c46 : x37_27 = true
     ·subst c46
      have H1 : ((exactpplref06_Validate.f kj27 t320 t321 t322 t323 t324).bind fun t349 => (if ((t344 == 0) == (t349 == 0)) = true then ((exactppllaw06_awake.f kj27).bind fun t350 => (some t350)) else (some false))) = some r := by rw [if_pos rfl] at H; exact H
      clear H
      have H := H1
      clear H1
      replace H := Option.bind_eq_some_iff.mp H
      obtain ⟨t349, A470, H⟩ := H
      replace H : (if ((t344 == 0) == (t349 == 0)) = true then ((exactppllaw06_awake.f kj27).bind fun t350 => (some t350)) else (some false)) = some r := H
      have A47 := Aside0.mk A470
      clear A470
      by_cases c48 : ((t344 == 0) == (t349 == 0)) = true
      ·rw [if_pos c48] at H
       have c48b0 : ((t344 == 0) == (t349 == 0)) = true := c48
       (try (have c48b1 : decide ((t344 == 0) = (t349 == 0)) = true := by simpa using c48))
       (try (have c48b2 : ((t344 == 0) == (t349 == 0)) = true := by simpa using c48))
       clear c48
       replace H := Option.bind_eq_some_iff.mp H
       obtain ⟨t350, A490, H⟩ := H
       replace H : (some t350) = some r := H
       have A49 := Aside0.mk A490
       clear A490
       obtain rfl := Option.some.inj H
       have hnb50 := NB338_339.out
       have hnc50 := NB339_338.out
       obtain ⟨hcz51_0, hcz51_1, hcz51_2, hcz51_3, hcz51_4, hfz51_0, hfz51_1, hfz51_2, hfz51_3, hfz51_4⟩ := cf5_ BK338.out
       go_wp2_with (first | ((with_reducible refine gate_callee (f := 22) rfl ?_); refine goesL_ (some 41) rfl rfl Tryd.func22 (by kernel_rfl) rfl #[.agg #[.int .i64 t320, .int .i64 t321, .int .i64 t322, .int .i64 t323, .slice Ao15 t324.length co15]] rfl (by (try simp only [List.map_toArray, List.map_cons, List.map_nil]); first | done | rfl | (simp only [List.length_drop, List.length_take]; rfl)) ?_; (with_reducible refine (exactpplref06_Validate.calls kj27 t320 t321 t322 t323 _ _ t324 t349 _ ?side1 ?side2 A47.out).mono ?_); (case side1 => repeat (first | exact (Kd.N_reads' HO_339004.out).2.2 | (with_reducible refine Kd.C_alloc ?_ _) | (with_reducible refine Kd.C_drewN ?_ _) | (with_reducible refine Kd.C_drew ?_))); (case side2 => exact (Kd.N_reads' HO_339004.out).2.1); rintro e w52 ⟨rfl, hb⟩; refine ⟨_, rfl, ?_⟩; replace HO_339004 := Aside0.mk (Kd.N_below (pN_ HO_339004.out) hb); replace HO_340004 := Aside0.mk (Kd.N_below (pN_ HO_340004.out) hb); replace BK338 := Aside0.mk (blk_below (g := gb338) (o := .cells #[.int .i64 t320, .int .i64 t321, .int .i64 t322, .int .i64 t323, .slice Ao15 t324.length co15] 24 (0, 0)) bk_ hb); replace BK339 := Aside0.mk (blk_below (g := gb339) (o := .cells #[.int .i64 x340000_5, .int .i64 x340001_5, .int .i64 x340002_5, .int .i64 x340003_5, .slice Ao33 x340004_5.length co33] 24 (0, 0)) bk_ hb); replace HB := Aside0.mk (below_step bl_ hb); (try clear hb); (try clear hb2); (try clear hk); (try clear hi)) | (go_at_call 13; (with_reducible refine (exactppllaw06_awake.calls kj27  t350 _ A49.out ?tab).mono ?_); (case tab => exact ptab HTAB.out bl_); rintro e w53 ⟨rfl, hb⟩; replace HO_339004 := Aside0.mk (Kd.N_below (pN_ HO_339004.out) hb); replace HO_340004 := Aside0.mk (Kd.N_below (pN_ HO_340004.out) hb); replace BK338 := Aside0.mk (blk_below (g := gb338) (o := .cells #[.int .i64 t320, .int .i64 t321, .int .i64 t322, .int .i64 t323, .slice Ao15 t324.length co15] 24 (0, 0)) bk_ hb); replace BK339 := Aside0.mk (blk_below (g := gb339) (o := .cells #[.int .i64 x340000_5, .int .i64 x340001_5, .int .i64 x340002_5, .int .i64 x340003_5, .slice Ao33 x340004_5.length co33] 24 (0, 0)) bk_ hb); replace HB := Aside0.mk (below_step bl_ hb); (try clear hb); (try clear hb2); (try clear hk); (try clear hi)))
       go_ret
       exact ⟨re_, bl_⟩
      ·rw [if_neg c48] at H
       have c48b0 : ((t344 == 0) == (t349 == 0)) = false := by simpa using c48
       (try (have c48b1 : decide ((t344 == 0) = (t349 == 0)) = false := by simpa using c48))
       (try (have c48b2 : ((t344 == 0) == (t349 == 0)) = false := by simpa using c48))
       (try (have c48b3 : ¬ ((t344 == 0) = (t349 == 0)) := by simpa using c48))
       clear c48
       obtain rfl := Option.some.inj H
       have hnb54 := NB338_339.out
       have hnc54 := NB339_338.out
       obtain ⟨hcz55_0, hcz55_1, hcz55_2, hcz55_3, hcz55_4, hfz55_0, hfz55_1, hfz55_2, hfz55_3, hfz55_4⟩ := cf5_ BK338.out
       go_wp2_with (first | ((with_reducible refine gate_callee (f := 22) rfl ?_); refine goesL_ (some 41) rfl rfl Tryd.func22 (by kernel_rfl) rfl #[.agg #[.int .i64 t320, .int .i64 t321, .int .i64 t322, .int .i64 t323, .slice Ao15 t324.length co15]] rfl (by (try simp only [List.map_toArray, List.map_cons, List.map_nil]); first | done | rfl | (simp only [List.length_drop, List.length_take]; rfl)) ?_; (with_reducible refine (exactpplref06_Validate.calls kj27 t320 t321 t322 t323 _ _ t324 t349 _ ?side1 ?side2 A47.out).mono ?_); (case side1 => repeat (first | exact (Kd.N_reads' HO_339004.out).2.2 | (with_reducible refine Kd.C_alloc ?_ _) | (with_reducible refine Kd.C_drewN ?_ _) | (with_reducible refine Kd.C_drew ?_))); (case side2 => exact (Kd.N_reads' HO_339004.out).2.1); rintro e w56 ⟨rfl, hb⟩; refine ⟨_, rfl, ?_⟩; replace HO_339004 := Aside0.mk (Kd.N_below (pN_ HO_339004.out) hb); replace HO_340004 := Aside0.mk (Kd.N_below (pN_ HO_340004.out) hb); replace BK338 := Aside0.mk (blk_below (g := gb338) (o := .cells #[.int .i64 t320, .int .i64 t321, .int .i64 t322, .int .i64 t323, .slice Ao15 t324.length co15] 24 (0, 0)) bk_ hb); replace BK339 := Aside0.mk (blk_below (g := gb339) (o := .cells #[.int .i64 x340000_5, .int .i64 x340001_5, .int .i64 x340002_5, .int .i64 x340003_5, .slice Ao33 x340004_5.length co33] 24 (0, 0)) bk_ hb); replace HB := Aside0.mk (below_step bl_ hb); (try clear hb); (try clear hb2); (try clear hk); (try clear hi)))
       go_ret
       exact ⟨re_, bl_⟩
     ·replace c46 := Bool.eq_false_iff.mpr c46
      subst c46
      have H1 : (if t344 = 0 then (if t346 = 0 then ((types_Equal.f t320 t321 t322 t323 t324 x340000_5 x340001_5 x340002_5 x340003_5 x340004_5).bind fun t351 => (if ((t343.toList == t345.toList) == t351) = true then ((types_Equal.f t320 t321 t322 t323 t324 x340000_5 x340001_5 x340002_5 x340003_5 x340004_5).bind fun t352 => ((exactpplref06_Equal.f kj27 t320 t321 t322 t323 t324 x340000_5 x340001_5 x340002_5 x340003_5 x340004_5).bind fun t353 => (if (t352 == t353) = true then ((exactppllaw06_awake.f kj27).bind fun t354 => (some t354)) else (some false)))) else (some false))) else (some false)) else (some false)) = some r := by rw [if_neg (show ¬ (false = true) by decide)] at H; exact H
      clear H
      have H := H1
      clear H1
      by_cases c57 : t344 = 0
      ·rw [if_pos c57] at H
       have c57b0 : (t344 == 0) = true := beq_iff_eq.mpr c57
       have c57b1 : (t344 != 0) = false := bne_eq_false_iff_eq.mpr c57
       clear c57
       by_cases c58 : t346 = 0
       ·rw [if_pos c58] at H
        have c58b0 : (t346 == 0) = true := beq_iff_eq.mpr c58
        have c58b1 : (t346 != 0) = false := bne_eq_false_iff_eq.mpr c58
        clear c58
        replace H := Option.bind_eq_some_iff.mp H
        obtain ⟨t351, A590, H⟩ := H
        replace H : (if ((t343.toList == t345.toList) == t351) = true then ((types_Equal.f t320 t321 t322 t323 t324 x340000_5 x340001_5 x340002_5 x340003_5 x340004_5).bind fun t352 => ((exactpplref06_Equal.f kj27 t320 t321 t322 t323 t324 x340000_5 x340001_5 x340002_5 x340003_5 x340004_5).bind fun t353 => (if (t352 == t353) = true then ((exactppllaw06_awake.f kj27).bind fun t354 => (some t354)) else (some false)))) else (some false)) = some r := H
        have A59 := Aside0.mk A590
        clear A590
        by_cases c60 : ((t343.toList == t345.toList) == t351) = true
        ·rw [if_pos c60] at H
         have c60b0 : ((t343.toList == t345.toList) == t351) = true := c60
         (try (have c60b1 : decide ((t343.toList == t345.toList) = t351) = true := by simpa using c60))
         (try (have c60b2 : ((t343.toList == t345.toList) == t351) = true := by simpa using c60))
         clear c60
         replace H := Option.bind_eq_some_iff.mp H
         obtain ⟨t352, A610, H⟩ := H
         replace H : ((exactpplref06_Equal.f kj27 t320 t321 t322 t323 t324 x340000_5 x340001_5 x340002_5 x340003_5 x340004_5).bind fun t353 => (if (t352 == t353) = true then ((exactppllaw06_awake.f kj27).bind fun t354 => (some t354)) else (some false))) = some r := H
         have A61 := Aside0.mk A610
         clear A610
         replace H := Option.bind_eq_some_iff.mp H
         obtain ⟨t353, A620, H⟩ := H
         replace H : (if (t352 == t353) = true then ((exactppllaw06_awake.f kj27).bind fun t354 => (some t354)) else (some false)) = some r := H
         have A62 := Aside0.mk A620
         clear A620
         by_cases c63 : (t352 == t353) = true
         ·rw [if_pos c63] at H
          have c63b0 : (t352 == t353) = true := c63
          (try (have c63b1 : decide (t352 = t353) = true := by simpa using c63))
          (try (have c63b2 : (t352 == t353) = true := by simpa using c63))
          clear c63
          replace H := Option.bind_eq_some_iff.mp H
          obtain ⟨t354, A640, H⟩ := H
          replace H : (some t354) = some r := H
          have A64 := Aside0.mk A640
          clear A640
          obtain rfl := Option.some.inj H
          try go_wp2
          replace HO_339004 := Aside0.mk (Kd.N_drew HO_339004.out)
          replace HO_340004 := Aside0.mk (Kd.N_drew HO_340004.out)
          replace BK338 := Aside0.mk (blk_drew BK338.out)
          replace BK339 := Aside0.mk (blk_drew BK339.out)
          replace HB := Aside0.mk (below_drew1 HB.out)
          refine start_ (n := 28) (S := fun w' => w'.cell? ⟨gb338, 0, none⟩ = some (.int .i64 t320) ∧ w'.cell? ⟨gb338, 1, none⟩ = some (.int .i64 t321) ∧ w'.cell? ⟨gb338, 2, none⟩ = some (.int .i64 t322) ∧ w'.cell? ⟨gb338, 3, none⟩ = some (.int .i64 t323) ∧ w'.cell? ⟨gb338, 4, none⟩ = some (.slice Ao15 t324.length co15) ∧ w'.cell? ⟨gb339, 0, none⟩ = some (.int .i64 x340000_5) ∧ w'.cell? ⟨gb339, 1, none⟩ = some (.int .i64 x340001_5) ∧ w'.cell? ⟨gb339, 2, none⟩ = some (.int .i64 x340002_5) ∧ w'.cell? ⟨gb339, 3, none⟩ = some (.int .i64 x340003_5) ∧ w'.cell? ⟨gb339, 4, none⟩ = some (.slice Ao33 x340004_5.length co33)) (ds := []) #[false, false, false, false, false, false, false, false, false, false, false, false, false, false, false, false, false, false, false, false, false, false, false, false, false, false, false, false] (by kernel_rfl) rfl rfl ⟨(blk_cell BK338.out 0).trans rfl, (blk_cell BK338.out 1).trans rfl, (blk_cell BK338.out 2).trans rfl, (blk_cell BK338.out 3).trans rfl, (blk_cell BK338.out 4).trans rfl, (blk_cell BK339.out 0).trans rfl, (blk_cell BK339.out 1).trans rfl, (blk_cell BK339.out 2).trans rfl, (blk_cell BK339.out 3).trans rfl, (blk_cell BK339.out 4).trans rfl⟩ (fun hHeld => ?_); refine with_tabW exactppllaw06_TypesTexts.tab9 exactppllaw06_TypesTexts.bits9 (fun HT_ HW_ => ?_)
          generalize wc.drew = w65 at HO_339004 HO_340004 BK338 BK339 HB hHeld ⊢
          refine pu_ HT_ 0 47 (bm 28 1) ?_
          refine pu_ HT_ 1 48 (bm 28 3) ?_
          refine pu_ HT_ 2 49 (bm 28 7) ?_
          refine pu_ HT_ 3 50 (bm 28 15) ?_
          refine pu_ HT_ 4 51 (bm 28 31) ?_
          refine pu_ HT_ 5 52 (bm 28 63) ?_
          refine pu_ HT_ 6 53 (bm 28 127) ?_
          refine pu_ HT_ 7 54 (bm 28 255) ?_
          refine pu_ HT_ 8 55 (bm 28 511) ?_
          refine pu_ HT_ 9 56 (bm 28 1023) ?_
          refine ta_ HT_ HW_ 10 57 (bm 28 2047) hHeld ?_
          refine ta_ HT_ HW_ 11 58 (bm 28 4095) hHeld ?_
          refine one_ (i := 12) (N := some 59) #[true, true, true, true, true, true, true, true, true, true, true, true, true, false, false, false, false, false, false, false, false, false, false, false, false, false, false, false] rfl rfl (one_of HT_.out (by kernel_rfl)) (by decide) (fun K hK => ?_)
          refine goes_ Tryd.func23 (by kernel_rfl) rfl #[.agg #[.int .i64 t320, .int .i64 t321, .int .i64 t322, .int .i64 t323, .slice Ao15 t324.length co15], .agg #[.int .i64 x340000_5, .int .i64 x340001_5, .int .i64 x340002_5, .int .i64 x340003_5, .slice Ao33 x340004_5.length co33]] (by rfl) rfl rfl (by (try simp only [List.map_toArray, List.map_cons, List.map_nil]); first | done | rfl | (simp only [List.length_drop, List.length_take]; rfl)) ?_
          with_reducible refine (types_Equal.calls t320 t321 t322 t323 _ _ t324 x340000_5 x340001_5 x340002_5 x340003_5 _ _ x340004_5 t351 _ ?side1 ?side2 ?side3 ?side4 A59.out).mono ?_
          (case side1 => repeat (first | exact (Kd.N_reads' HO_339004.out).2.2 | (with_reducible refine Kd.C_alloc ?_ _) | (with_reducible refine Kd.C_drewN ?_ _) | (with_reducible refine Kd.C_drew ?_)))
          (case side2 => exact (Kd.N_reads' HO_339004.out).2.1)
          (case side3 => repeat (first | exact (Kd.N_reads' HO_340004.out).2.2 | (with_reducible refine Kd.C_alloc ?_ _) | (with_reducible refine Kd.C_drewN ?_ _) | (with_reducible refine Kd.C_drew ?_)))
          (case side4 => exact (Kd.N_reads' HO_340004.out).2.1)
          rintro e w66 ⟨rfl, hb⟩
          refine ⟨_, rfl, ?_⟩
          replace HO_339004 := Aside0.mk (Kd.N_below (pN_ HO_339004.out) hb)
          replace HO_340004 := Aside0.mk (Kd.N_below (pN_ HO_340004.out) hb)
          replace BK338 := Aside0.mk (blk_below (g := gb338) (o := .cells #[.int .i64 t320, .int .i64 t321, .int .i64 t322, .int .i64 t323, .slice Ao15 t324.length co15] 24 (0, 0)) bk_ hb)
          replace BK339 := Aside0.mk (blk_below (g := gb339) (o := .cells #[.int .i64 x340000_5, .int .i64 x340001_5, .int .i64 x340002_5, .int .i64 x340003_5, .slice Ao33 x340004_5.length co33] 24 (0, 0)) bk_ hb)
          replace HB := Aside0.mk (below_step bl_ hb)
          (try clear hb)
          (try clear hb2)
          (try clear hk)
          (try clear hi)
          refine hK.out _ _ ⟨(blk_cell BK338.out 0).trans rfl, (blk_cell BK338.out 1).trans rfl, (blk_cell BK338.out 2).trans rfl, (blk_cell BK338.out 3).trans rfl, (blk_cell BK338.out 4).trans rfl, (blk_cell BK339.out 0).trans rfl, (blk_cell BK339.out 1).trans rfl, (blk_cell BK339.out 2).trans rfl, (blk_cell BK339.out 3).trans rfl, (blk_cell BK339.out 4).trans rfl⟩ (fun hHeld => ?_)
          clear hK K
          refine norm_ (a' := ?_) ?_ ?_
          rotate_left
          ·show Act.put _ (some 59) _ = _
           simp only [Act.put, List.setIfInBounds_toArray, List.set_cons_zero, List.set_cons_succ, i64_w, i32_w]
           rfl
          refine pu_ HT_ 13 60 (bm 28 16383) ?_
          refine pu_ HT_ 14 61 (bm 28 32767) ?_
          refine pu_ HT_ 15 62 (bm 28 65535) ?_
          refine ta_ HT_ HW_ 16 63 (bm 28 131071) hHeld ?_
          refine ta_ HT_ HW_ 17 64 (bm 28 262143) hHeld ?_
          refine ta_ HT_ HW_ 19 66 (bm 28 786431) hHeld ?_
          refine ta_ HT_ HW_ 20 67 (bm 28 1835007) hHeld ?_
          refine one_ (i := 18) (N := some 65) #[true, true, true, true, true, true, true, true, true, true, true, true, true, true, true, true, true, true, true, true, true, false, false, false, false, false, false, false] rfl rfl (one_of HT_.out (by kernel_rfl)) (by decide) (fun K hK => ?_)
          refine goes_ Tryd.func23 (by kernel_rfl) rfl #[.agg #[.int .i64 t320, .int .i64 t321, .int .i64 t322, .int .i64 t323, .slice Ao15 t324.length co15], .agg #[.int .i64 x340000_5, .int .i64 x340001_5, .int .i64 x340002_5, .int .i64 x340003_5, .slice Ao33 x340004_5.length co33]] (by rfl) rfl rfl (by (try simp only [List.map_toArray, List.map_cons, List.map_nil]); first | done | rfl | (simp only [List.length_drop, List.length_take]; rfl)) ?_
          with_reducible refine (types_Equal.calls t320 t321 t322 t323 _ _ t324 x340000_5 x340001_5 x340002_5 x340003_5 _ _ x340004_5 t352 _ ?side1 ?side2 ?side3 ?side4 A61.out).mono ?_
          (case side1 => repeat (first | exact (Kd.N_reads' HO_339004.out).2.2 | (with_reducible refine Kd.C_alloc ?_ _) | (with_reducible refine Kd.C_drewN ?_ _) | (with_reducible refine Kd.C_drew ?_)))
          (case side2 => exact (Kd.N_reads' HO_339004.out).2.1)
          (case side3 => repeat (first | exact (Kd.N_reads' HO_340004.out).2.2 | (with_reducible refine Kd.C_alloc ?_ _) | (with_reducible refine Kd.C_drewN ?_ _) | (with_reducible refine Kd.C_drew ?_)))
          (case side4 => exact (Kd.N_reads' HO_340004.out).2.1)
          rintro e w67 ⟨rfl, hb⟩
          refine ⟨_, rfl, ?_⟩
          replace HO_339004 := Aside0.mk (Kd.N_below (pN_ HO_339004.out) hb)
          replace HO_340004 := Aside0.mk (Kd.N_below (pN_ HO_340004.out) hb)
          replace BK338 := Aside0.mk (blk_below (g := gb338) (o := .cells #[.int .i64 t320, .int .i64 t321, .int .i64 t322, .int .i64 t323, .slice Ao15 t324.length co15] 24 (0, 0)) bk_ hb)
          replace BK339 := Aside0.mk (blk_below (g := gb339) (o := .cells #[.int .i64 x340000_5, .int .i64 x340001_5, .int .i64 x340002_5, .int .i64 x340003_5, .slice Ao33 x340004_5.length co33] 24 (0, 0)) bk_ hb)
          replace HB := Aside0.mk (below_step bl_ hb)
          (try clear hb)
          (try clear hb2)
          (try clear hk)
          (try clear hi)
          refine hK.out _ _ ⟨(blk_cell BK338.out 0).trans rfl, (blk_cell BK338.out 1).trans rfl, (blk_cell BK338.out 2).trans rfl, (blk_cell BK338.out 3).trans rfl, (blk_cell BK338.out 4).trans rfl, (blk_cell BK339.out 0).trans rfl, (blk_cell BK339.out 1).trans rfl, (blk_cell BK339.out 2).trans rfl, (blk_cell BK339.out 3).trans rfl, (blk_cell BK339.out 4).trans rfl⟩ (fun hHeld => ?_)
          clear hK K
          refine norm_ (a' := ?_) ?_ ?_
          rotate_left
          ·show Act.put _ (some 65) _ = _
           simp only [Act.put, List.setIfInBounds_toArray, List.set_cons_zero, List.set_cons_succ, i64_w, i32_w]
           rfl
          refine one_ (i := 21) (N := some 68) #[true, true, true, true, true, true, true, true, true, true, true, true, true, true, true, true, true, true, true, true, true, true, false, false, false, false, false, false] rfl rfl (one_of HT_.out (by kernel_rfl)) (by decide) (fun K hK => ?_)
          refine goes_ Tryd.func24 (by kernel_rfl) rfl #[.agg #[.int .i64 t320, .int .i64 t321, .int .i64 t322, .int .i64 t323, .slice Ao15 t324.length co15], .agg #[.int .i64 x340000_5, .int .i64 x340001_5, .int .i64 x340002_5, .int .i64 x340003_5, .slice Ao33 x340004_5.length co33]] (by rfl) rfl rfl (by (try simp only [List.map_toArray, List.map_cons, List.map_nil]); first | done | rfl | (simp only [List.length_drop, List.length_take]; rfl)) ?_
          with_reducible refine (exactpplref06_Equal.calls kj27 t320 t321 t322 t323 _ _ t324 x340000_5 x340001_5 x340002_5 x340003_5 _ _ x340004_5 t353 _ ?side1 ?side2 ?side3 ?side4 A62.out).mono ?_
          (case side1 => repeat (first | exact (Kd.N_reads' HO_339004.out).2.2 | (with_reducible refine Kd.C_alloc ?_ _) | (with_reducible refine Kd.C_drewN ?_ _) | (with_reducible refine Kd.C_drew ?_)))
          (case side2 => exact (Kd.N_reads' HO_339004.out).2.1)
          (case side3 => repeat (first | exact (Kd.N_reads' HO_340004.out).2.2 | (with_reducible refine Kd.C_alloc ?_ _) | (with_reducible refine Kd.C_drewN ?_ _) | (with_reducible refine Kd.C_drew ?_)))
          (case side4 => exact (Kd.N_reads' HO_340004.out).2.1)
          rintro e w68 ⟨rfl, hb⟩
          refine ⟨_, rfl, ?_⟩
          replace HO_339004 := Aside0.mk (Kd.N_below (pN_ HO_339004.out) hb)
          replace HO_340004 := Aside0.mk (Kd.N_below (pN_ HO_340004.out) hb)
          replace BK338 := Aside0.mk (blk_below (g := gb338) (o := .cells #[.int .i64 t320, .int .i64 t321, .int .i64 t322, .int .i64 t323, .slice Ao15 t324.length co15] 24 (0, 0)) bk_ hb)
          replace BK339 := Aside0.mk (blk_below (g := gb339) (o := .cells #[.int .i64 x340000_5, .int .i64 x340001_5, .int .i64 x340002_5, .int .i64 x340003_5, .slice Ao33 x340004_5.length co33] 24 (0, 0)) bk_ hb)
          replace HB := Aside0.mk (below_step bl_ hb)
          (try clear hb)
          (try clear hb2)
          (try clear hk)
          (try clear hi)
          refine hK.out _ _ ⟨(blk_cell BK338.out 0).trans rfl, (blk_cell BK338.out 1).trans rfl, (blk_cell BK338.out 2).trans rfl, (blk_cell BK338.out 3).trans rfl, (blk_cell BK338.out 4).trans rfl, (blk_cell BK339.out 0).trans rfl, (blk_cell BK339.out 1).trans rfl, (blk_cell BK339.out 2).trans rfl, (blk_cell BK339.out 3).trans rfl, (blk_cell BK339.out 4).trans rfl⟩ (fun hHeld => ?_)
          clear hK K
          refine norm_ (a' := ?_) ?_ ?_
          rotate_left
          ·show Act.put _ (some 68) _ = _
           simp only [Act.put, List.setIfInBounds_toArray, List.set_cons_zero, List.set_cons_succ, i64_w, i32_w]
           rfl
          refine pu_ HT_ 22 69 (bm 28 8388607) ?_
          refine pu_ HT_ 23 70 (bm 28 16777215) ?_
          refine pu_ HT_ 24 71 (bm 28 33554431) ?_
          refine one_ (i := 25) (N := some 72) #[true, true, true, true, true, true, true, true, true, true, true, true, true, true, true, true, true, true, true, true, true, true, true, true, true, true, false, false] rfl rfl (one_of HT_.out (by kernel_rfl)) (by decide) (fun K hK => ?_)
          refine goes_ Tryd.func13 (by kernel_rfl) rfl #[] (by rfl) rfl rfl (by (try simp only [List.map_toArray, List.map_cons, List.map_nil]); first | done | rfl | (simp only [List.length_drop, List.length_take]; rfl)) ?_
          with_reducible refine (exactppllaw06_awake.calls kj27  t354 _ A64.out ?tab).mono ?_
          (case tab => exact ptab HTAB.out bl_)
          rintro e w69 ⟨rfl, hb⟩
          refine ⟨_, rfl, ?_⟩
          replace HO_339004 := Aside0.mk (Kd.N_below (pN_ HO_339004.out) hb)
          replace HO_340004 := Aside0.mk (Kd.N_below (pN_ HO_340004.out) hb)
          replace BK338 := Aside0.mk (blk_below (g := gb338) (o := .cells #[.int .i64 t320, .int .i64 t321, .int .i64 t322, .int .i64 t323, .slice Ao15 t324.length co15] 24 (0, 0)) bk_ hb)
          replace BK339 := Aside0.mk (blk_below (g := gb339) (o := .cells #[.int .i64 x340000_5, .int .i64 x340001_5, .int .i64 x340002_5, .int .i64 x340003_5, .slice Ao33 x340004_5.length co33] 24 (0, 0)) bk_ hb)
          replace HB := Aside0.mk (below_step bl_ hb)
          (try clear hb)
          (try clear hb2)
          (try clear hk)
          (try clear hi)
          refine hK.out _ _ ⟨(blk_cell BK338.out 0).trans rfl, (blk_cell BK338.out 1).trans rfl, (blk_cell BK338.out 2).trans rfl, (blk_cell BK338.out 3).trans rfl, (blk_cell BK338.out 4).trans rfl, (blk_cell BK339.out 0).trans rfl, (blk_cell BK339.out 1).trans rfl, (blk_cell BK339.out 2).trans rfl, (blk_cell BK339.out 3).trans rfl, (blk_cell BK339.out 4).trans rfl⟩ (fun hHeld => ?_)
          clear hK K
          refine norm_ (a' := ?_) ?_ ?_
          rotate_left
          ·show Act.put _ (some 72) _ = _
           simp only [Act.put, List.setIfInBounds_toArray, List.set_cons_zero, List.set_cons_succ, i64_w, i32_w]
           rfl
          refine pu_ HT_ 26 73 (bm 28 134217727) ?_
          refine pu_ HT_ 27 2 #[true, true, true, true, true, true, true, true, true, true, true, true, true, true, true, true, true, true, true, true, true, true, true, true, true, true, true, true] ?_
          refine done_ (done_of HT_.out (by kernel_rfl)) ?_
          try go_wp2
          go_ret
          exact ⟨re_, bl_⟩
         ·rw [if_neg c63] at H
          have c63b0 : (t352 == t353) = false := by simpa using c63
          (try (have c63b1 : decide (t352 = t353) = false := by simpa using c63))
          (try (have c63b2 : (t352 == t353) = false := by simpa using c63))
          (try (have c63b3 : ¬ (t352 = t353) := by simpa using c63))
          clear c63
          obtain rfl := Option.some.inj H
          try go_wp2
          replace HO_339004 := Aside0.mk (Kd.N_drew HO_339004.out)
          replace HO_340004 := Aside0.mk (Kd.N_drew HO_340004.out)
          replace BK338 := Aside0.mk (blk_drew BK338.out)
          replace BK339 := Aside0.mk (blk_drew BK339.out)
          replace HB := Aside0.mk (below_drew1 HB.out)
          refine start_ (n := 28) (S := fun w' => w'.cell? ⟨gb338, 0, none⟩ = some (.int .i64 t320) ∧ w'.cell? ⟨gb338, 1, none⟩ = some (.int .i64 t321) ∧ w'.cell? ⟨gb338, 2, none⟩ = some (.int .i64 t322) ∧ w'.cell? ⟨gb338, 3, none⟩ = some (.int .i64 t323) ∧ w'.cell? ⟨gb338, 4, none⟩ = some (.slice Ao15 t324.length co15) ∧ w'.cell? ⟨gb339, 0, none⟩ = some (.int .i64 x340000_5) ∧ w'.cell? ⟨gb339, 1, none⟩ = some (.int .i64 x340001_5) ∧ w'.cell? ⟨gb339, 2, none⟩ = some (.int .i64 x340002_5) ∧ w'.cell? ⟨gb339, 3, none⟩ = some (.int .i64 x340003_5) ∧ w'.cell? ⟨gb339, 4, none⟩ = some (.slice Ao33 x340004_5.length co33)) (ds := []) #[false, false, false, false, false, false, false, false, false, false, false, false, false, false, false, false, false, false, false, false, false, false, false, false, false, false, false, false] (by kernel_rfl) rfl rfl ⟨(blk_cell BK338.out 0).trans rfl, (blk_cell BK338.out 1).trans rfl, (blk_cell BK338.out 2).trans rfl, (blk_cell BK338.out 3).trans rfl, (blk_cell BK338.out 4).trans rfl, (blk_cell BK339.out 0).trans rfl, (blk_cell BK339.out 1).trans rfl, (blk_cell BK339.out 2).trans rfl, (blk_cell BK339.out 3).trans rfl, (blk_cell BK339.out 4).trans rfl⟩ (fun hHeld => ?_); refine with_tabW exactppllaw06_TypesTexts.tab9 exactppllaw06_TypesTexts.bits9 (fun HT_ HW_ => ?_)
          generalize wc.drew = w70 at HO_339004 HO_340004 BK338 BK339 HB hHeld ⊢
          refine pu_ HT_ 0 47 (bm 28 1) ?_
          refine pu_ HT_ 1 48 (bm 28 3) ?_
          refine pu_ HT_ 2 49 (bm 28 7) ?_
          refine pu_ HT_ 3 50 (bm 28 15) ?_
          refine pu_ HT_ 4 51 (bm 28 31) ?_
          refine pu_ HT_ 5 52 (bm 28 63) ?_
          refine pu_ HT_ 6 53 (bm 28 127) ?_
          refine pu_ HT_ 7 54 (bm 28 255) ?_
          refine pu_ HT_ 8 55 (bm 28 511) ?_
          refine pu_ HT_ 9 56 (bm 28 1023) ?_
          refine ta_ HT_ HW_ 10 57 (bm 28 2047) hHeld ?_
          refine ta_ HT_ HW_ 11 58 (bm 28 4095) hHeld ?_
          refine one_ (i := 12) (N := some 59) #[true, true, true, true, true, true, true, true, true, true, true, true, true, false, false, false, false, false, false, false, false, false, false, false, false, false, false, false] rfl rfl (one_of HT_.out (by kernel_rfl)) (by decide) (fun K hK => ?_)
          refine goes_ Tryd.func23 (by kernel_rfl) rfl #[.agg #[.int .i64 t320, .int .i64 t321, .int .i64 t322, .int .i64 t323, .slice Ao15 t324.length co15], .agg #[.int .i64 x340000_5, .int .i64 x340001_5, .int .i64 x340002_5, .int .i64 x340003_5, .slice Ao33 x340004_5.length co33]] (by rfl) rfl rfl (by (try simp only [List.map_toArray, List.map_cons, List.map_nil]); first | done | rfl | (simp only [List.length_drop, List.length_take]; rfl)) ?_
          with_reducible refine (types_Equal.calls t320 t321 t322 t323 _ _ t324 x340000_5 x340001_5 x340002_5 x340003_5 _ _ x340004_5 t351 _ ?side1 ?side2 ?side3 ?side4 A59.out).mono ?_
          (case side1 => repeat (first | exact (Kd.N_reads' HO_339004.out).2.2 | (with_reducible refine Kd.C_alloc ?_ _) | (with_reducible refine Kd.C_drewN ?_ _) | (with_reducible refine Kd.C_drew ?_)))
          (case side2 => exact (Kd.N_reads' HO_339004.out).2.1)
          (case side3 => repeat (first | exact (Kd.N_reads' HO_340004.out).2.2 | (with_reducible refine Kd.C_alloc ?_ _) | (with_reducible refine Kd.C_drewN ?_ _) | (with_reducible refine Kd.C_drew ?_)))
          (case side4 => exact (Kd.N_reads' HO_340004.out).2.1)
          rintro e w71 ⟨rfl, hb⟩
          refine ⟨_, rfl, ?_⟩
          replace HO_339004 := Aside0.mk (Kd.N_below (pN_ HO_339004.out) hb)
          replace HO_340004 := Aside0.mk (Kd.N_below (pN_ HO_340004.out) hb)
          replace BK338 := Aside0.mk (blk_below (g := gb338) (o := .cells #[.int .i64 t320, .int .i64 t321, .int .i64 t322, .int .i64 t323, .slice Ao15 t324.length co15] 24 (0, 0)) bk_ hb)
          replace BK339 := Aside0.mk (blk_below (g := gb339) (o := .cells #[.int .i64 x340000_5, .int .i64 x340001_5, .int .i64 x340002_5, .int .i64 x340003_5, .slice Ao33 x340004_5.length co33] 24 (0, 0)) bk_ hb)
          replace HB := Aside0.mk (below_step bl_ hb)
          (try clear hb)
          (try clear hb2)
          (try clear hk)
          (try clear hi)
          refine hK.out _ _ ⟨(blk_cell BK338.out 0).trans rfl, (blk_cell BK338.out 1).trans rfl, (blk_cell BK338.out 2).trans rfl, (blk_cell BK338.out 3).trans rfl, (blk_cell BK338.out 4).trans rfl, (blk_cell BK339.out 0).trans rfl, (blk_cell BK339.out 1).trans rfl, (blk_cell BK339.out 2).trans rfl, (blk_cell BK339.out 3).trans rfl, (blk_cell BK339.out 4).trans rfl⟩ (fun hHeld => ?_)
          clear hK K
          refine norm_ (a' := ?_) ?_ ?_
          rotate_left
          ·show Act.put _ (some 59) _ = _
           simp only [Act.put, List.setIfInBounds_toArray, List.set_cons_zero, List.set_cons_succ, i64_w, i32_w]
           rfl
          refine pu_ HT_ 13 60 (bm 28 16383) ?_
          refine pu_ HT_ 14 61 (bm 28 32767) ?_
          refine pu_ HT_ 15 62 (bm 28 65535) ?_
          refine ta_ HT_ HW_ 16 63 (bm 28 131071) hHeld ?_
          refine ta_ HT_ HW_ 17 64 (bm 28 262143) hHeld ?_
          refine ta_ HT_ HW_ 19 66 (bm 28 786431) hHeld ?_
          refine ta_ HT_ HW_ 20 67 (bm 28 1835007) hHeld ?_
          refine one_ (i := 18) (N := some 65) #[true, true, true, true, true, true, true, true, true, true, true, true, true, true, true, true, true, true, true, true, true, false, false, false, false, false, false, false] rfl rfl (one_of HT_.out (by kernel_rfl)) (by decide) (fun K hK => ?_)
          refine goes_ Tryd.func23 (by kernel_rfl) rfl #[.agg #[.int .i64 t320, .int .i64 t321, .int .i64 t322, .int .i64 t323, .slice Ao15 t324.length co15], .agg #[.int .i64 x340000_5, .int .i64 x340001_5, .int .i64 x340002_5, .int .i64 x340003_5, .slice Ao33 x340004_5.length co33]] (by rfl) rfl rfl (by (try simp only [List.map_toArray, List.map_cons, List.map_nil]); first | done | rfl | (simp only [List.length_drop, List.length_take]; rfl)) ?_
          with_reducible refine (types_Equal.calls t320 t321 t322 t323 _ _ t324 x340000_5 x340001_5 x340002_5 x340003_5 _ _ x340004_5 t352 _ ?side1 ?side2 ?side3 ?side4 A61.out).mono ?_
          (case side1 => repeat (first | exact (Kd.N_reads' HO_339004.out).2.2 | (with_reducible refine Kd.C_alloc ?_ _) | (with_reducible refine Kd.C_drewN ?_ _) | (with_reducible refine Kd.C_drew ?_)))
          (case side2 => exact (Kd.N_reads' HO_339004.out).2.1)
          (case side3 => repeat (first | exact (Kd.N_reads' HO_340004.out).2.2 | (with_reducible refine Kd.C_alloc ?_ _) | (with_reducible refine Kd.C_drewN ?_ _) | (with_reducible refine Kd.C_drew ?_)))
          (case side4 => exact (Kd.N_reads' HO_340004.out).2.1)
          rintro e w72 ⟨rfl, hb⟩
          refine ⟨_, rfl, ?_⟩
          replace HO_339004 := Aside0.mk (Kd.N_below (pN_ HO_339004.out) hb)
          replace HO_340004 := Aside0.mk (Kd.N_below (pN_ HO_340004.out) hb)
          replace BK338 := Aside0.mk (blk_below (g := gb338) (o := .cells #[.int .i64 t320, .int .i64 t321, .int .i64 t322, .int .i64 t323, .slice Ao15 t324.length co15] 24 (0, 0)) bk_ hb)
          replace BK339 := Aside0.mk (blk_below (g := gb339) (o := .cells #[.int .i64 x340000_5, .int .i64 x340001_5, .int .i64 x340002_5, .int .i64 x340003_5, .slice Ao33 x340004_5.length co33] 24 (0, 0)) bk_ hb)
          replace HB := Aside0.mk (below_step bl_ hb)
          (try clear hb)
          (try clear hb2)
          (try clear hk)
          (try clear hi)
          refine hK.out _ _ ⟨(blk_cell BK338.out 0).trans rfl, (blk_cell BK338.out 1).trans rfl, (blk_cell BK338.out 2).trans rfl, (blk_cell BK338.out 3).trans rfl, (blk_cell BK338.out 4).trans rfl, (blk_cell BK339.out 0).trans rfl, (blk_cell BK339.out 1).trans rfl, (blk_cell BK339.out 2).trans rfl, (blk_cell BK339.out 3).trans rfl, (blk_cell BK339.out 4).trans rfl⟩ (fun hHeld => ?_)
          clear hK K
          refine norm_ (a' := ?_) ?_ ?_
          rotate_left
          ·show Act.put _ (some 65) _ = _
           simp only [Act.put, List.setIfInBounds_toArray, List.set_cons_zero, List.set_cons_succ, i64_w, i32_w]
           rfl
          refine one_ (i := 21) (N := some 68) #[true, true, true, true, true, true, true, true, true, true, true, true, true, true, true, true, true, true, true, true, true, true, false, false, false, false, false, false] rfl rfl (one_of HT_.out (by kernel_rfl)) (by decide) (fun K hK => ?_)
          refine goes_ Tryd.func24 (by kernel_rfl) rfl #[.agg #[.int .i64 t320, .int .i64 t321, .int .i64 t322, .int .i64 t323, .slice Ao15 t324.length co15], .agg #[.int .i64 x340000_5, .int .i64 x340001_5, .int .i64 x340002_5, .int .i64 x340003_5, .slice Ao33 x340004_5.length co33]] (by rfl) rfl rfl (by (try simp only [List.map_toArray, List.map_cons, List.map_nil]); first | done | rfl | (simp only [List.length_drop, List.length_take]; rfl)) ?_
          with_reducible refine (exactpplref06_Equal.calls kj27 t320 t321 t322 t323 _ _ t324 x340000_5 x340001_5 x340002_5 x340003_5 _ _ x340004_5 t353 _ ?side1 ?side2 ?side3 ?side4 A62.out).mono ?_
          (case side1 => repeat (first | exact (Kd.N_reads' HO_339004.out).2.2 | (with_reducible refine Kd.C_alloc ?_ _) | (with_reducible refine Kd.C_drewN ?_ _) | (with_reducible refine Kd.C_drew ?_)))
          (case side2 => exact (Kd.N_reads' HO_339004.out).2.1)
          (case side3 => repeat (first | exact (Kd.N_reads' HO_340004.out).2.2 | (with_reducible refine Kd.C_alloc ?_ _) | (with_reducible refine Kd.C_drewN ?_ _) | (with_reducible refine Kd.C_drew ?_)))
          (case side4 => exact (Kd.N_reads' HO_340004.out).2.1)
          rintro e w73 ⟨rfl, hb⟩
          refine ⟨_, rfl, ?_⟩
          replace HO_339004 := Aside0.mk (Kd.N_below (pN_ HO_339004.out) hb)
          replace HO_340004 := Aside0.mk (Kd.N_below (pN_ HO_340004.out) hb)
          replace BK338 := Aside0.mk (blk_below (g := gb338) (o := .cells #[.int .i64 t320, .int .i64 t321, .int .i64 t322, .int .i64 t323, .slice Ao15 t324.length co15] 24 (0, 0)) bk_ hb)
          replace BK339 := Aside0.mk (blk_below (g := gb339) (o := .cells #[.int .i64 x340000_5, .int .i64 x340001_5, .int .i64 x340002_5, .int .i64 x340003_5, .slice Ao33 x340004_5.length co33] 24 (0, 0)) bk_ hb)
          replace HB := Aside0.mk (below_step bl_ hb)
          (try clear hb)
          (try clear hb2)
          (try clear hk)
          (try clear hi)
          refine hK.out _ _ ⟨(blk_cell BK338.out 0).trans rfl, (blk_cell BK338.out 1).trans rfl, (blk_cell BK338.out 2).trans rfl, (blk_cell BK338.out 3).trans rfl, (blk_cell BK338.out 4).trans rfl, (blk_cell BK339.out 0).trans rfl, (blk_cell BK339.out 1).trans rfl, (blk_cell BK339.out 2).trans rfl, (blk_cell BK339.out 3).trans rfl, (blk_cell BK339.out 4).trans rfl⟩ (fun hHeld => ?_)
          clear hK K
          refine norm_ (a' := ?_) ?_ ?_
          rotate_left
          ·show Act.put _ (some 68) _ = _
           simp only [Act.put, List.setIfInBounds_toArray, List.set_cons_zero, List.set_cons_succ, i64_w, i32_w]
           rfl
          refine pu_ HT_ 22 69 (bm 28 8388607) ?_
          refine pu_ HT_ 23 70 (bm 28 16777215) ?_
          refine pu_ HT_ 24 71 (bm 28 33554431) ?_
          refine pf_ HT_ 25 72 (bm 28 67108863) ?_
          refine pu_ HT_ 26 73 (bm 28 134217727) ?_
          refine pu_ HT_ 27 2 #[true, true, true, true, true, true, true, true, true, true, true, true, true, true, true, true, true, true, true, true, true, true, true, true, true, true, true, true] ?_
          refine done_ (done_of HT_.out (by kernel_rfl)) ?_
          try go_wp2
          go_ret
          exact ⟨re_, bl_⟩
        ·rw [if_neg c60] at H
         have c60b0 : ((t343.toList == t345.toList) == t351) = false := by simpa using c60
         (try (have c60b1 : decide ((t343.toList == t345.toList) = t351) = false := by simpa using c60))
         (try (have c60b2 : ((t343.toList == t345.toList) == t351) = false := by simpa using c60))
         (try (have c60b3 : ¬ ((t343.toList == t345.toList) = t351) := by simpa using c60))
         clear c60
         obtain rfl := Option.some.inj H
         try go_wp2
         replace HO_339004 := Aside0.mk (Kd.N_drew HO_339004.out)
         replace HO_340004 := Aside0.mk (Kd.N_drew HO_340004.out)
         replace BK338 := Aside0.mk (blk_drew BK338.out)
         replace BK339 := Aside0.mk (blk_drew BK339.out)
         replace HB := Aside0.mk (below_drew1 HB.out)
         refine start_ (n := 28) (S := fun w' => w'.cell? ⟨gb338, 0, none⟩ = some (.int .i64 t320) ∧ w'.cell? ⟨gb338, 1, none⟩ = some (.int .i64 t321) ∧ w'.cell? ⟨gb338, 2, none⟩ = some (.int .i64 t322) ∧ w'.cell? ⟨gb338, 3, none⟩ = some (.int .i64 t323) ∧ w'.cell? ⟨gb338, 4, none⟩ = some (.slice Ao15 t324.length co15) ∧ w'.cell? ⟨gb339, 0, none⟩ = some (.int .i64 x340000_5) ∧ w'.cell? ⟨gb339, 1, none⟩ = some (.int .i64 x340001_5) ∧ w'.cell? ⟨gb339, 2, none⟩ = some (.int .i64 x340002_5) ∧ w'.cell? ⟨gb339, 3, none⟩ = some (.int .i64 x340003_5) ∧ w'.cell? ⟨gb339, 4, none⟩ = some (.slice Ao33 x340004_5.length co33)) (ds := []) #[false, false, false, false, false, false, false, false, false, false, false, false, false, false, false, false, false, false, false, false, false, false, false, false, false, false, false, false] (by kernel_rfl) rfl rfl ⟨(blk_cell BK338.out 0).trans rfl, (blk_cell BK338.out 1).trans rfl, (blk_cell BK338.out 2).trans rfl, (blk_cell BK338.out 3).trans rfl, (blk_cell BK338.out 4).trans rfl, (blk_cell BK339.out 0).trans rfl, (blk_cell BK339.out 1).trans rfl, (blk_cell BK339.out 2).trans rfl, (blk_cell BK339.out 3).trans rfl, (blk_cell BK339.out 4).trans rfl⟩ (fun hHeld => ?_); refine with_tabW exactppllaw06_TypesTexts.tab9 exactppllaw06_TypesTexts.bits9 (fun HT_ HW_ => ?_)
         generalize wc.drew = w74 at HO_339004 HO_340004 BK338 BK339 HB hHeld ⊢
         refine pu_ HT_ 0 47 (bm 28 1) ?_
         refine pu_ HT_ 1 48 (bm 28 3) ?_
         refine pu_ HT_ 2 49 (bm 28 7) ?_
         refine pu_ HT_ 3 50 (bm 28 15) ?_
         refine pu_ HT_ 4 51 (bm 28 31) ?_
         refine pu_ HT_ 5 52 (bm 28 63) ?_
         refine pu_ HT_ 6 53 (bm 28 127) ?_
         refine pu_ HT_ 7 54 (bm 28 255) ?_
         refine pu_ HT_ 8 55 (bm 28 511) ?_
         refine pu_ HT_ 9 56 (bm 28 1023) ?_
         refine ta_ HT_ HW_ 10 57 (bm 28 2047) hHeld ?_
         refine ta_ HT_ HW_ 11 58 (bm 28 4095) hHeld ?_
         refine one_ (i := 12) (N := some 59) #[true, true, true, true, true, true, true, true, true, true, true, true, true, false, false, false, false, false, false, false, false, false, false, false, false, false, false, false] rfl rfl (one_of HT_.out (by kernel_rfl)) (by decide) (fun K hK => ?_)
         refine goes_ Tryd.func23 (by kernel_rfl) rfl #[.agg #[.int .i64 t320, .int .i64 t321, .int .i64 t322, .int .i64 t323, .slice Ao15 t324.length co15], .agg #[.int .i64 x340000_5, .int .i64 x340001_5, .int .i64 x340002_5, .int .i64 x340003_5, .slice Ao33 x340004_5.length co33]] (by rfl) rfl rfl (by (try simp only [List.map_toArray, List.map_cons, List.map_nil]); first | done | rfl | (simp only [List.length_drop, List.length_take]; rfl)) ?_
         with_reducible refine (types_Equal.calls t320 t321 t322 t323 _ _ t324 x340000_5 x340001_5 x340002_5 x340003_5 _ _ x340004_5 t351 _ ?side1 ?side2 ?side3 ?side4 A59.out).mono ?_
         (case side1 => repeat (first | exact (Kd.N_reads' HO_339004.out).2.2 | (with_reducible refine Kd.C_alloc ?_ _) | (with_reducible refine Kd.C_drewN ?_ _) | (with_reducible refine Kd.C_drew ?_)))
         (case side2 => exact (Kd.N_reads' HO_339004.out).2.1)
         (case side3 => repeat (first | exact (Kd.N_reads' HO_340004.out).2.2 | (with_reducible refine Kd.C_alloc ?_ _) | (with_reducible refine Kd.C_drewN ?_ _) | (with_reducible refine Kd.C_drew ?_)))
         (case side4 => exact (Kd.N_reads' HO_340004.out).2.1)
         rintro e w75 ⟨rfl, hb⟩
         refine ⟨_, rfl, ?_⟩
         replace HO_339004 := Aside0.mk (Kd.N_below (pN_ HO_339004.out) hb)
         replace HO_340004 := Aside0.mk (Kd.N_below (pN_ HO_340004.out) hb)
         replace BK338 := Aside0.mk (blk_below (g := gb338) (o := .cells #[.int .i64 t320, .int .i64 t321, .int .i64 t322, .int .i64 t323, .slice Ao15 t324.length co15] 24 (0, 0)) bk_ hb)
         replace BK339 := Aside0.mk (blk_below (g := gb339) (o := .cells #[.int .i64 x340000_5, .int .i64 x340001_5, .int .i64 x340002_5, .int .i64 x340003_5, .slice Ao33 x340004_5.length co33] 24 (0, 0)) bk_ hb)
         replace HB := Aside0.mk (below_step bl_ hb)
         (try clear hb)
         (try clear hb2)
         (try clear hk)
         (try clear hi)
         refine hK.out _ _ ⟨(blk_cell BK338.out 0).trans rfl, (blk_cell BK338.out 1).trans rfl, (blk_cell BK338.out 2).trans rfl, (blk_cell BK338.out 3).trans rfl, (blk_cell BK338.out 4).trans rfl, (blk_cell BK339.out 0).trans rfl, (blk_cell BK339.out 1).trans rfl, (blk_cell BK339.out 2).trans rfl, (blk_cell BK339.out 3).trans rfl, (blk_cell BK339.out 4).trans rfl⟩ (fun hHeld => ?_)
         clear hK K
         refine norm_ (a' := ?_) ?_ ?_
         rotate_left
         ·show Act.put _ (some 59) _ = _
          simp only [Act.put, List.setIfInBounds_toArray, List.set_cons_zero, List.set_cons_succ, i64_w, i32_w]
          rfl
         refine pu_ HT_ 13 60 (bm 28 16383) ?_
         refine pu_ HT_ 14 61 (bm 28 32767) ?_
         refine pu_ HT_ 15 62 (bm 28 65535) ?_
         refine pf_ HT_ 16 63 (bm 28 131071) ?_
         refine pf_ HT_ 17 64 (bm 28 262143) ?_
         refine pf_ HT_ 18 65 (bm 28 524287) ?_
         refine pf_ HT_ 19 66 (bm 28 1048575) ?_
         refine pf_ HT_ 20 67 (bm 28 2097151) ?_
         refine pf_ HT_ 21 68 (bm 28 4194303) ?_
         refine pf_ HT_ 22 69 (bm 28 8388607) ?_
         refine pu_ HT_ 23 70 (bm 28 16777215) ?_
         refine pu_ HT_ 24 71 (bm 28 33554431) ?_
         refine pf_ HT_ 25 72 (bm 28 67108863) ?_
         refine pu_ HT_ 26 73 (bm 28 134217727) ?_
         refine pu_ HT_ 27 2 #[true, true, true, true, true, true, true, true, true, true, true, true, true, true, true, true, true, true, true, true, true, true, true, true, true, true, true, true] ?_
         refine done_ (done_of HT_.out (by kernel_rfl)) ?_
         try go_wp2
         go_ret
         exact ⟨re_, bl_⟩
       ·rw [if_neg c58] at H
        have c58b0 : (t346 == 0) = false := beq_eq_false_iff_ne.mpr c58
        have c58b1 : (t346 != 0) = true := bne_iff_ne.mpr c58
        obtain rfl := Option.some.inj H
        try go_wp2
        replace HO_339004 := Aside0.mk (Kd.N_drew HO_339004.out)
        replace HO_340004 := Aside0.mk (Kd.N_drew HO_340004.out)
        replace BK338 := Aside0.mk (blk_drew BK338.out)
        replace BK339 := Aside0.mk (blk_drew BK339.out)
        replace HB := Aside0.mk (below_drew1 HB.out)
        refine start_ (n := 28) (S := fun w' => True) (ds := []) #[false, false, false, false, false, false, false, false, false, false, false, false, false, false, false, false, false, false, false, false, false, false, false, false, false, false, false, false] (by kernel_rfl) rfl rfl trivial (fun hHeld => ?_); refine with_tabW exactppllaw06_TypesTexts.tab9 exactppllaw06_TypesTexts.bits9 (fun HT_ HW_ => ?_)
        generalize wc.drew = w76 at HO_339004 HO_340004 BK338 BK339 HB hHeld ⊢
        refine pu_ HT_ 0 47 (bm 28 1) ?_
        refine pu_ HT_ 1 48 (bm 28 3) ?_
        refine pu_ HT_ 2 49 (bm 28 7) ?_
        refine pu_ HT_ 3 50 (bm 28 15) ?_
        refine pu_ HT_ 4 51 (bm 28 31) ?_
        refine pu_ HT_ 5 52 (bm 28 63) ?_
        refine pu_ HT_ 6 53 (bm 28 127) ?_
        refine pf_ HT_ 7 54 (bm 28 255) ?_
        refine pf_ HT_ 8 55 (bm 28 511) ?_
        refine pf_ HT_ 9 56 (bm 28 1023) ?_
        refine pf_ HT_ 10 57 (bm 28 2047) ?_
        refine pf_ HT_ 11 58 (bm 28 4095) ?_
        refine pf_ HT_ 12 59 (bm 28 8191) ?_
        refine pf_ HT_ 13 60 (bm 28 16383) ?_
        refine pu_ HT_ 14 61 (bm 28 32767) ?_
        refine pu_ HT_ 15 62 (bm 28 65535) ?_
        refine pf_ HT_ 16 63 (bm 28 131071) ?_
        refine pf_ HT_ 17 64 (bm 28 262143) ?_
        refine pf_ HT_ 18 65 (bm 28 524287) ?_
        refine pf_ HT_ 19 66 (bm 28 1048575) ?_
        refine pf_ HT_ 20 67 (bm 28 2097151) ?_
        refine pf_ HT_ 21 68 (bm 28 4194303) ?_
        refine pf_ HT_ 22 69 (bm 28 8388607) ?_
        refine pu_ HT_ 23 70 (bm 28 16777215) ?_
        refine pu_ HT_ 24 71 (bm 28 33554431) ?_
        refine pf_ HT_ 25 72 (bm 28 67108863) ?_
        refine pu_ HT_ 26 73 (bm 28 134217727) ?_
        refine pu_ HT_ 27 2 #[true, true, true, true, true, true, true, true, true, true, true, true, true, true, true, true, true, true, true, true, true, true, true, true, true, true, true, true] ?_
        refine done_ (done_of HT_.out (by kernel_rfl)) ?_
        try go_wp2
        go_ret
        exact ⟨re_, bl_⟩
      ·rw [if_neg c57] at H
       have c57b0 : (t344 == 0) = false := beq_eq_false_iff_ne.mpr c57
       have c57b1 : (t344 != 0) = true := bne_iff_ne.mpr c57
       obtain rfl := Option.some.inj H
       try go_wp2
       replace HO_339004 := Aside0.mk (Kd.N_drew HO_339004.out)
       replace HO_340004 := Aside0.mk (Kd.N_drew HO_340004.out)
       replace BK338 := Aside0.mk (blk_drew BK338.out)
       replace BK339 := Aside0.mk (blk_drew BK339.out)
       replace HB := Aside0.mk (below_drew1 HB.out)
       refine start_ (n := 28) (S := fun w' => True) (ds := []) #[false, false, false, false, false, false, false, false, false, false, false, false, false, false, false, false, false, false, false, false, false, false, false, false, false, false, false, false] (by kernel_rfl) rfl rfl trivial (fun hHeld => ?_); refine with_tabW exactppllaw06_TypesTexts.tab9 exactppllaw06_TypesTexts.bits9 (fun HT_ HW_ => ?_)
       generalize wc.drew = w77 at HO_339004 HO_340004 BK338 BK339 HB hHeld ⊢
       refine pu_ HT_ 0 47 (bm 28 1) ?_
       refine pu_ HT_ 1 48 (bm 28 3) ?_
       refine pu_ HT_ 2 49 (bm 28 7) ?_
       refine pf_ HT_ 3 50 (bm 28 15) ?_
       refine pf_ HT_ 4 51 (bm 28 31) ?_
       refine pu_ HT_ 5 52 (bm 28 63) ?_
       refine pu_ HT_ 6 53 (bm 28 127) ?_
       refine pf_ HT_ 7 54 (bm 28 255) ?_
       refine pf_ HT_ 8 55 (bm 28 511) ?_
       refine pf_ HT_ 9 56 (bm 28 1023) ?_
       refine pf_ HT_ 10 57 (bm 28 2047) ?_
       refine pf_ HT_ 11 58 (bm 28 4095) ?_
       refine pf_ HT_ 12 59 (bm 28 8191) ?_
       refine pf_ HT_ 13 60 (bm 28 16383) ?_
       refine pu_ HT_ 14 61 (bm 28 32767) ?_
       refine pu_ HT_ 15 62 (bm 28 65535) ?_
       refine pf_ HT_ 16 63 (bm 28 131071) ?_
       refine pf_ HT_ 17 64 (bm 28 262143) ?_
       refine pf_ HT_ 18 65 (bm 28 524287) ?_
       refine pf_ HT_ 19 66 (bm 28 1048575) ?_
       refine pf_ HT_ 20 67 (bm 28 2097151) ?_
       refine pf_ HT_ 21 68 (bm 28 4194303) ?_
       refine pf_ HT_ 22 69 (bm 28 8388607) ?_
       refine pu_ HT_ 23 70 (bm 28 16777215) ?_
       refine pu_ HT_ 24 71 (bm 28 33554431) ?_
       refine pf_ HT_ 25 72 (bm 28 67108863) ?_
       refine pu_ HT_ 26 73 (bm 28 134217727) ?_
       refine pu_ HT_ 27 2 #[true, true, true, true, true, true, true, true, true, true, true, true, true, true, true, true, true, true, true, true, true, true, true, true, true, true, true, true] ?_
       refine done_ (done_of HT_.out (by kernel_rfl)) ?_
       try go_wp2
       go_ret
       exact ⟨re_, bl_⟩

/-- THE ONE PURE STATEMENT of exactppllaw06_TypesTexts: yours. -/
def exactppllaw06_TypesTexts.Pure : Prop := ∀ (l0 : List Int), l0.length ≤ maxLen → l0.length * 8 ≤ 140737488351232 → (∀ x ∈ l0, (Lit.int .i64 x).wf = true) → ∃ k, exactppllaw06_TypesTexts.f k l0 = some true
theorem exactppllaw06_TypesTexts.walk (P : exactppllaw06_TypesTexts.Pure) (a0 : Option Addr) (len0 cap0 : Nat) (z0 : List Int) (w : World) (htab : PowTab w.heap.size w) (w0 : (a0 = none ∧ len0 = 0 ∧ cap0 = 0 ∧ z0 = []) ∨ ∃ x, a0 = some x ∧ len0 ≤ cap0 ∧ cap0 ≤ maxLen ∧ z0.length = cap0 ∧ (∀ i, i < z0.length → w.cell? (x.add i) = some (.int .i64 (z0.getD i 0))) ∧ ∀ n ∈ z0, (Lit.int .i64 n).wf = true) (y0 : len0 * 8 ≤ 140737488351232) :
  Calls Tryd.prog 6 #[.slice a0 len0 cap0] w fun e w' => e = .returned (.bool true) ∧ Below w.heap.size w w' := by
 obtain ⟨l0, rfl, hr0, hm0, hw0, hc0⟩ := ReadsInt.ofRowC w0
 obtain ⟨k, h⟩ := P l0 hm0 y0 hw0
 refine (exactppllaw06_TypesTexts.calls k _ _ l0 true w (Kd.C_of_reads (d := (0 : Int)) (h1 := fun _ => rfl) hr0) hc0 h htab).mono ?_
 rintro e w' ⟨rfl, hd⟩
 exact ⟨rfl, hd⟩

end Go.Proofs.YtggelekooacmnaaDoor.Q
set_option linter.unusedVariables false
set_option linter.unusedSimpArgs false
namespace Go.Proofs.YtggelekooacmnaaDoor.Pure
open Go.RowKit Go.Proofs.YtggelekooacmnaaDoor.Q Go.Proofs.YtggelekooacmnaaDoorW.PrintWords Go.Proofs.YtggelekooacmnaaDoorW.PrintLast Go.Proofs.YtggelekooacmnaaDoorW.PrintMore
-- plain laws on types: what the printed functions of the types come to
theorem wrap_in {n : Int} (h1 : -9223372036854775808 ≤ n) (h2 : n ≤ 9223372036854775807) : wrap64 n = n := by unfold wrap64; omega
theorem wrap_nat {n : Nat} (h2 : n ≤ 1000000000) : wrap64 ((n : Int) + 1) = ((n + 1 : Nat) : Int) := by unfold wrap64; omega
theorem rdT {l : List S24} {i : Nat} (h : i < l.length) : rd_T24 l (i : Int) = l[i] := by
  unfold rd_T24; simp [List.getD, h]
theorem rdT0 {l : List S24} (h : 0 < l.length) : rd_T24 l 0 = l[0] := by
  unfold rd_T24; simp [List.getD, h]
/-- bounded: n levels at most, each list of at most a thousand -/
def Bd : Nat → S24 → Prop
  | 0, _ => False
  | n + 1, t => t.f4.length ≤ 1000 ∧ ∀ x ∈ t.f4, Bd n x
theorem Bd.mono {n : Nat} : ∀ {t : S24}, Bd n t → Bd (n + 1) t := by
  induction n with
  | zero => intro t h; exact h.elim
  | succ n ih => intro t h; exact ⟨h.1, fun x hx => ih (h.2 x hx)⟩
/-- an evaluation of a function of types at a type -/
def at_ {α : Type} (g : Nat → Int → Int → Int → Int → List S24 → Option α) (t : S24) : Nat → Option α := fun k => g k t.f0 t.f1 t.f2 t.f3 t.f4
def mxl (f : S24 → Int) : List S24 → Int → Int
  | [], m => m
  | x :: l, m => mxl f l (mx m (f x))
def dep : Nat → S24 → Int
  | 0, _ => 0
  | n + 1, t => mxl (dep n) t.f4 0 + 1
theorem mx_le {a b c : Int} (h1 : a ≤ c) (h2 : b ≤ c) : mx a b ≤ c := by unfold mx; split <;> omega
theorem mx_ge {a b : Int} : a ≤ mx a b ∧ b ≤ mx a b := by unfold mx; split <;> omega
theorem mxl_ge (f : S24 → Int) : ∀ (l : List S24) (m : Int), m ≤ mxl f l m
  | [], m => Int.le_refl _
  | x :: l, m => Int.le_trans mx_ge.1 (mxl_ge f l _)
theorem mxl_le {f : S24 → Int} {c : Int} : ∀ {l : List S24} {m : Int}, (∀ x ∈ l, f x ≤ c) → m ≤ c → mxl f l m ≤ c
  | [], m, _, h => h
  | x :: l, m, h, hm => mxl_le (l := l) (fun y hy => h y (List.mem_cons_of_mem x hy)) (mx_le hm (h x List.mem_cons_self))
theorem dep_bd : ∀ (n : Nat) (t : S24), 0 ≤ dep n t ∧ dep n t ≤ n
  | 0, t => by simp [dep]
  | n + 1, t => by
    have h1 := mxl_ge (dep n) t.f4 0
    have h2 := mxl_le (f := dep n) (c := n) (l := t.f4) (m := 0) (fun x _ => (dep_bd n x).2) (by omega)
    simp only [dep]; omega
theorem depth_l0 (n : Nat) (hn : n ≤ 1000) (l : List S24) (hl : l.length ≤ 1000) (ih : ∀ t ∈ l, Ev (at_ types_depth.f t) (dep n t)) :
    ∀ (d i : Nat) (m : Int), 0 ≤ m → m ≤ 1000 → i + d = l.length → Ev (fun k => types_depth.l0 k m l l.length i) (mxl (dep n) (l.drop i) m + 1) := by
  intro d
  induction d with
  | zero =>
    intro i m h0 h1 hi
    refine ⟨1, fun k hk => ?_⟩
    obtain ⟨k, rfl⟩ : ∃ j, k = j + 1 := ⟨k - 1, by omega⟩
    simp only [types_depth.l0]
    rw [if_neg (by omega), List.drop_eq_nil_of_le (by omega), wrap_in (by omega) (by omega)]; rfl
  | succ d IH =>
    intro i m h0 h1 hi
    have hlt : i < l.length := by omega
    obtain ⟨K1, e1⟩ := ih l[i] (List.getElem_mem hlt)
    have hb := dep_bd n l[i]
    obtain ⟨K2, e2⟩ := IH (i + 1) (mx m (dep n l[i])) (Int.le_trans h0 mx_ge.1) (mx_le h1 (by omega)) (by omega)
    refine ⟨max K1 K2 + 1, fun k hk => ?_⟩
    obtain ⟨k, rfl⟩ : ∃ j, k = j + 1 := ⟨k - 1, by omega⟩
    have e1' := e1 k (by omega)
    have e2' := e2 k (by omega)
    unfold at_ at e1'
    dsimp only at e1' e2'
    simp only [types_depth.l0]
    rw [if_pos (by omega), if_pos (by omega), if_pos (by omega), rdT hlt, e1', Option.bind_some, wrap_nat (by omega), e2', List.drop_eq_getElem_cons hlt]; rfl
theorem depth_ev (n : Nat) : ∀ (t : S24), n ≤ 1000 → Bd n t → Ev (at_ types_depth.f t) (dep n t) := by
  induction n with
  | zero => intro t _ h; exact h.elim
  | succ n ih =>
    intro t hn hb
    have h := depth_l0 n (by omega) t.f4 hb.1 (fun x hx => ih x (by omega) (hb.2 x hx)) t.f4.length 0 0 (by omega) (by omega) (by omega)
    exact h.step (fun k => by simp only [at_, types_depth.f]; rfl)
/-- the reference's depth -/
theorem mn_eq (a b : Int) : mn a b = min a b := by unfold mn; split <;> omega
theorem mx_eq (a b : Int) : mx a b = max a b := by unfold mx; split <;> omega
theorem mxl_eq (f : S24 → Int) : ∀ (l : List S24) (m c : Int), mxl (fun x => min (f x) c) l (min m c) = min (mxl f l m) c
  | [], m, c => rfl
  | x :: l, m, c => by
    simp only [mxl]
    rw [show mx (min m c) (min (f x) c) = min (mx m (f x)) c from by simp only [mx_eq]; omega]
    exact mxl_eq f l _ c
theorem Depth_l0 (n : Nat) (hn : n ≤ 1000) (l : List S24) (hl : l.length ≤ 1000) (c a b m' : Int) (hc : 1 ≤ c) (hc' : c ≤ 1000) (ih : ∀ t ∈ l, Ev (fun k => exactpplref06_Depth.f k t.f0 t.f1 t.f2 t.f3 t.f4 c) (min (dep n t) c)) (k0 : Int) :
    ∀ (d i : Nat) (m : Int), 0 ≤ m → m ≤ c → i + d = l.length → Ev (fun k => exactpplref06_Depth.l0 k (c + 1) m i k0 a b m' l) (min (mxl (fun x => min (dep n x) c) (l.drop i) m + 1) (c + 1)) := by
  intro d
  induction d with
  | zero =>
    intro i m h0 h1 hi
    refine ⟨1, fun k hk => ?_⟩
    obtain ⟨k, rfl⟩ : ∃ j, k = j + 1 := ⟨k - 1, by omega⟩
    simp only [exactpplref06_Depth.l0]
    rw [if_neg (by omega), List.drop_eq_nil_of_le (by omega), wrap_in (by omega) (by omega), mn_eq]; rfl
  | succ d IH =>
    intro i m h0 h1 hi
    have hlt : i < l.length := by omega
    obtain ⟨K1, e1⟩ := ih l[i] (List.getElem_mem hlt)
    have hb := dep_bd n l[i]
    obtain ⟨K2, e2⟩ := IH (i + 1) (mx m (min (dep n l[i]) c)) (Int.le_trans h0 mx_ge.1) (mx_le h1 (by omega)) (by omega)
    refine ⟨max K1 K2 + 1, fun k hk => ?_⟩
    obtain ⟨k, rfl⟩ : ∃ j, k = j + 1 := ⟨k - 1, by omega⟩
    have e1' := e1 k (by omega)
    have e2' := e2 k (by omega)
    dsimp only at e1' e2'
    have ew : wrap64 (c + 1 - 1) = c := by unfold wrap64; omega
    simp only [exactpplref06_Depth.l0]
    rw [if_pos (by omega), if_pos (by omega), rdT hlt, ew, e1', Option.bind_some, wrap_nat (by omega), e2', List.drop_eq_getElem_cons hlt]; rfl
theorem Depth_ev (n : Nat) : ∀ (t : S24) (c : Int), n ≤ 1000 → 1 ≤ c → c ≤ 1000 → Bd n t → Ev (fun k => exactpplref06_Depth.f k t.f0 t.f1 t.f2 t.f3 t.f4 c) (min (dep n t) c) := by
  induction n with
  | zero => intro t c _ _ _ h; exact h.elim
  | succ n ih =>
    intro t c hn h1 h2 hb
    by_cases hc : c = 1
    · subst hc
      have hd := dep_bd n
      have hd1 : 1 ≤ dep (n + 1) t := by have := mxl_ge (dep n) t.f4 0; simp only [dep]; omega
      refine ⟨1, fun k hk => ?_⟩
      obtain ⟨k, rfl⟩ : ∃ j, k = j + 1 := ⟨k - 1, by omega⟩
      simp only [exactpplref06_Depth.f]
      rw [if_neg (by omega)]
      have : min (dep (n + 1) t) 1 = 1 := by omega
      rw [this]
      split
      · rfl
      · rw [mn_eq]; rfl
    · obtain ⟨c, rfl⟩ : ∃ e, c = e + 1 := ⟨c - 1, by omega⟩
      have h := Depth_l0 n (by omega) t.f4 hb.1 c t.f1 t.f2 t.f3 (by omega) (by omega) (fun x hx => ih x c (by omega) (by omega) (by omega) (hb.2 x hx)) t.f0 t.f4.length 0 0 (by omega) (by omega) (by omega)
      have e : min (mxl (fun x => min (dep n x) c) (t.f4.drop 0) 0 + 1) (c + 1) = min (dep (n + 1) t) (c + 1) := by
        have := mxl_eq (dep n) t.f4 0 c
        rw [show min (0 : Int) c = 0 from by omega] at this
        simp only [dep, List.drop_zero, this]; omega
      rw [← e]
      exact h.step (fun k => by simp only [exactpplref06_Depth.f]; rw [if_pos (by omega)]; rfl)

end Go.Proofs.YtggelekooacmnaaDoor.Pure
set_option linter.unusedVariables false
set_option linter.unusedSimpArgs false
namespace Go.Proofs.YtggelekooacmnaaDoor.Pure
open Go.RowKit Go.Proofs.YtggelekooacmnaaDoor.Q Go.Proofs.YtggelekooacmnaaDoorW.PrintWords Go.Proofs.YtggelekooacmnaaDoorW.PrintLast Go.Proofs.YtggelekooacmnaaDoorW.PrintMore
-- faults
def fl1 (f : S24 → Int) : List S24 → Int
  | [] => 0
  | x :: l => if f x = 0 then (if x.f0 = 3 then 8 else if x.f0 = 4 then 8 else fl1 f l) else f x
abbrev unus (a0 a1 a2 a3 : Int) (l : List S24) : Prop := (a0 ≠ 2 ∧ (a1 ≠ 0 ∨ a2 ≠ 0)) ∨ (a0 ≠ 6 ∧ a3 ≠ 0) ∨ (a0 < 5 ∧ l.length ≠ 0)
def lst1 (f : S24 → Int) : List S24 → Int
  | [x] => if f x = 0 then (if x.f0 = 1 then 0 else if x.f0 = 2 then 0 else 8) else f x
  | _ => 2
def flt : Nat → S24 → Int
  | 0, _ => 0
  | n + 1, t => if t.f0 < 1 ∨ 6 < t.f0 then 14 else if unus t.f0 t.f1 t.f2 t.f3 t.f4 then 2
    else if t.f0 = 2 then (if t.f1 < -1000 ∨ t.f1 > t.f2 ∨ t.f2 > 1000 then 1 else 0)
    else if t.f0 = 5 then (if t.f4.length < 2 ∨ t.f4.length > 4 then 1 else fl1 (flt n) t.f4)
    else if t.f0 = 6 then (if t.f3 < 1 ∨ t.f3 > 4 then 1 else lst1 (flt n) t.f4)
    else 0
theorem kinds_of {a : Int} (h : ¬ (a < 1 ∨ 6 < a)) : a = 1 ∨ a = 2 ∨ a = 3 ∨ a = 4 ∨ a = 5 ∨ a = 6 := by omega
theorem unused_eq {a0 a1 a2 a3 : Int} {l : List S24} (h : ¬ (a0 < 1 ∨ 6 < a0)) : types_unused.f a0 a1 a2 a3 l = some (decide (unus a0 a1 a2 a3 l)) := by
  unfold types_unused.f unus
  rcases kinds_of h with rfl | rfl | rfl | rfl | rfl | rfl <;> by_cases h1 : a1 = 0 <;> by_cases h2 : a2 = 0 <;> by_cases h3 : a3 = 0 <;> by_cases h4 : l = [] <;> simp [h1, h2, h3, h4]
theorem fault_l0 (n : Nat) (l : List S24) (hl : l.length ≤ 1000) (ih : ∀ t ∈ l, Ev (at_ types_fault.f t) (flt n t)) :
    ∀ (d i : Nat), i + d = l.length → Ev (fun k => types_fault.l0 k l l.length i) (fl1 (flt n) (l.drop i)) := by
  intro d
  induction d with
  | zero =>
    intro i hi
    refine ⟨1, fun k hk => ?_⟩
    obtain ⟨k, rfl⟩ : ∃ j, k = j + 1 := ⟨k - 1, by omega⟩
    simp only [types_fault.l0]
    rw [if_neg (by omega), List.drop_eq_nil_of_le (by omega)]; rfl
  | succ d IH =>
    intro i hi
    have hlt : i < l.length := by omega
    obtain ⟨K1, e1⟩ := ih l[i] (List.getElem_mem hlt)
    obtain ⟨K2, e2⟩ := IH (i + 1) (by omega)
    refine ⟨max K1 K2 + 1, fun k hk => ?_⟩
    obtain ⟨k, rfl⟩ : ∃ j, k = j + 1 := ⟨k - 1, by omega⟩
    have e1' := e1 k (by omega)
    have e2' := e2 k (by omega)
    unfold at_ at e1'
    dsimp only at e1' e2'
    simp only [types_fault.l0]
    rw [if_pos (by omega), if_pos (by omega), if_pos (by omega), rdT hlt, e1', Option.bind_some, wrap_nat (by omega), e2', List.drop_eq_getElem_cons hlt]
    simp only [fl1]
    repeat' split
    all_goals rfl
theorem fault_ev (n : Nat) : ∀ (t : S24), n ≤ 1000 → Bd n t → Ev (at_ types_fault.f t) (flt n t) := by
  induction n with
  | zero => intro t _ h; exact h.elim
  | succ n ih =>
    intro t hn hb
    obtain ⟨a0, a1, a2, a3, l⟩ := t
    have hl : l.length ≤ 1000 := hb.1
    by_cases hk : a0 < 1 ∨ 6 < a0
    · refine ⟨2, fun k hk2 => ?_⟩
      obtain ⟨k, rfl⟩ : ∃ j, k = j + 2 := ⟨k - 2, by omega⟩
      simp only [at_, types_fault.f, flt]
      rw [if_pos hk]
      split
      · simp only [types_fault.j0, if_true]
      · rw [show decide (a0 > 6) = true from by simp; omega]; simp only [types_fault.j0, if_true]
    · have hj : ∀ k, at_ types_fault.f ⟨a0, a1, a2, a3, l⟩ (k + 2) = types_fault.j0 (k + 1) false a0 a1 a2 a3 l := by
        intro k
        simp only [at_, types_fault.f]
        rw [if_neg (by omega), show decide (a0 > 6) = false from by simp; omega]
      by_cases hu : unus a0 a1 a2 a3 l
      · refine ⟨2, fun k hk2 => ?_⟩
        obtain ⟨k, rfl⟩ : ∃ j, k = j + 2 := ⟨k - 2, by omega⟩
        rw [hj]
        simp only [types_fault.j0]
        rw [unused_eq hk, decide_eq_true hu]
        simp only [flt, if_neg hk, if_pos hu]; rfl
      · have hj0 : ∀ k, at_ types_fault.f ⟨a0, a1, a2, a3, l⟩ (k + 2) = (if a0 = 2 then (if a1 < (-1000) then (some 1) else (if a1 > a2 then (some 1) else (if a2 > 1000 then (some 1) else (some 0)))) else (if a0 = 5 then (if (l.length : Int) < 2 then (types_fault.j1 k true a0 a1 a2 a3 l) else (types_fault.j1 k (decide ((l.length : Int) > 4)) a0 a1 a2 a3 l)) else (if a0 = 6 then (if a3 < 1 then (types_fault.j3 k true a0 a1 a2 a3 l) else (types_fault.j3 k (decide (a3 > 4)) a0 a1 a2 a3 l)) else (some 0)))) := by
          intro k
          rw [hj]
          simp only [types_fault.j0]
          rw [unused_eq hk, decide_eq_false hu]; rfl
        have hs : flt (n + 1) ⟨a0, a1, a2, a3, l⟩ = (if a0 = 2 then (if a1 < -1000 ∨ a1 > a2 ∨ a2 > 1000 then 1 else 0) else if a0 = 5 then (if l.length < 2 ∨ l.length > 4 then 1 else fl1 (flt n) l) else if a0 = 6 then (if a3 < 1 ∨ a3 > 4 then 1 else lst1 (flt n) l) else 0) := by
          simp only [flt, if_neg hk, if_neg hu]
        rw [hs]
        by_cases k2 : a0 = 2
        · refine ⟨2, fun k hk2 => ?_⟩
          obtain ⟨k, rfl⟩ : ∃ j, k = j + 2 := ⟨k - 2, by omega⟩
          rw [hj0, if_pos k2, if_pos k2]
          by_cases c1 : a1 < -1000
          · rw [if_pos c1, if_pos (by omega)]
          · by_cases c2 : a1 > a2
            · rw [if_neg c1, if_pos c2, if_pos (by omega)]
            · by_cases c3 : a2 > 1000
              · rw [if_neg c1, if_neg c2, if_pos c3, if_pos (by omega)]
              · rw [if_neg c1, if_neg c2, if_neg c3, if_neg (by omega)]
        · by_cases k5 : a0 = 5
          · by_cases c : l.length < 2 ∨ l.length > 4
            · refine ⟨3, fun k hk2 => ?_⟩
              obtain ⟨k, rfl⟩ : ∃ j, k = j + 3 := ⟨k - 3, by omega⟩
              rw [hj0, if_neg k2, if_neg k2, if_pos k5, if_pos k5, if_pos c]
              split
              · simp only [types_fault.j1, if_true]
              · rw [show decide ((l.length : Int) > 4) = true from by simp; omega]; simp only [types_fault.j1, if_true]
            · obtain ⟨K, e⟩ := fault_l0 n l hl (fun x hx => ih x (by omega) (hb.2 x hx)) l.length 0 (by omega)
              refine ⟨K + 3, fun k hk2 => ?_⟩
              obtain ⟨k, rfl⟩ : ∃ j, k = j + 3 := ⟨k - 3, by omega⟩
              rw [hj0, if_neg k2, if_neg k2, if_pos k5, if_pos k5, if_neg c, if_neg (by omega), show decide ((l.length : Int) > 4) = false from by simp; omega]
              have e' := e k (by omega)
              dsimp only at e'
              simp only [types_fault.j1]
              rw [if_neg (by decide)]
              exact e'
          · by_cases k6 : a0 = 6
            · by_cases c : a3 < 1 ∨ a3 > 4
              · refine ⟨3, fun k hk2 => ?_⟩
                obtain ⟨k, rfl⟩ : ∃ j, k = j + 3 := ⟨k - 3, by omega⟩
                rw [hj0, if_neg k2, if_neg k2, if_neg k5, if_neg k5, if_pos k6, if_pos k6, if_pos c]
                split
                · simp only [types_fault.j3, if_true]
                · rw [show decide (a3 > 4) = true from by simp; omega]; simp only [types_fault.j3, if_true]
              · have hj3 : ∀ k, at_ types_fault.f ⟨a0, a1, a2, a3, l⟩ (k + 3) = types_fault.j3 (k + 1) false a0 a1 a2 a3 l := by
                  intro k
                  rw [hj0, if_neg k2, if_neg k5, if_pos k6, if_neg (by omega), show decide (a3 > 4) = false from by simp; omega]
                rw [if_neg k2, if_neg k5, if_pos k6, if_neg c]
                match l, hl, hb, hj3 with
                | [x], hl, hb, hj3 =>
                  obtain ⟨K, e⟩ := ih x (by omega) (hb.2 x List.mem_cons_self)
                  refine ⟨K + 3, fun k hk2 => ?_⟩
                  obtain ⟨k, rfl⟩ : ∃ j, k = j + 3 := ⟨k - 3, by omega⟩
                  have e' := e k (by omega)
                  unfold at_ at e'
                  rw [hj3]
                  simp only [types_fault.j3]
                  rw [if_neg (by decide), if_pos (by simp), if_pos (by simp), rdT0 (by simp), List.getElem_cons_zero, e', Option.bind_some]
                  simp only [lst1]
                  repeat' split
                  all_goals rfl
                | [], hl, hb, hj3 =>
                  refine ⟨3, fun k hk2 => ?_⟩
                  obtain ⟨k, rfl⟩ : ∃ j, k = j + 3 := ⟨k - 3, by omega⟩
                  rw [hj3]; simp only [types_fault.j3]; rfl
                | x :: y :: l, hl, hb, hj3 =>
                  refine ⟨3, fun k hk2 => ?_⟩
                  obtain ⟨k, rfl⟩ : ∃ j, k = j + 3 := ⟨k - 3, by omega⟩
                  rw [hj3]; simp only [types_fault.j3]
                  rw [if_neg (by decide), if_neg (by simp; omega)]; rfl
            · refine ⟨2, fun k hk2 => ?_⟩
              obtain ⟨k, rfl⟩ : ∃ j, k = j + 2 := ⟨k - 2, by omega⟩
              rw [hj0]
              simp only [if_neg k2, if_neg k5, if_neg k6]
theorem wrong_j0 {a0 a1 a2 a3 : Int} {l : List S24} (k : Nat) (h : ¬ (a0 < 1 ∨ 6 < a0)) : exactpplref06_wrong.j0 (k + 1) a0 false a0 a1 a2 a3 l = exactpplref06_wrong.j1 k a0 (decide (unus a0 a1 a2 a3 l)) a0 a1 a2 a3 l := by
  unfold unus
  simp only [exactpplref06_wrong.j0]
  rcases kinds_of h with rfl | rfl | rfl | rfl | rfl | rfl <;> by_cases h1 : a1 = 0 <;> by_cases h2 : a2 = 0 <;> by_cases h3 : a3 = 0 <;> by_cases h4 : l = [] <;> simp [h1, h2, h3, h4] <;> (congr 1; cases l <;> simp_all <;> omega)
theorem wrong_l0 (n : Nat) (l : List S24) (hl : l.length ≤ 1000) (a0 a1 a2 a3 : Int) (ih : ∀ t ∈ l, Ev (at_ exactpplref06_wrong.f t) (flt n t)) :
    ∀ (d i : Nat), i + d = l.length → Ev (fun k => exactpplref06_wrong.l0 k i a0 a1 a2 a3 l) (fl1 (flt n) (l.drop i)) := by
  intro d
  induction d with
  | zero =>
    intro i hi
    refine ⟨1, fun k hk => ?_⟩
    obtain ⟨k, rfl⟩ : ∃ j, k = j + 1 := ⟨k - 1, by omega⟩
    simp only [exactpplref06_wrong.l0]
    rw [if_neg (by omega), List.drop_eq_nil_of_le (by omega)]; rfl
  | succ d IH =>
    intro i hi
    have hlt : i < l.length := by omega
    obtain ⟨K1, e1⟩ := ih l[i] (List.getElem_mem hlt)
    obtain ⟨K2, e2⟩ := IH (i + 1) (by omega)
    refine ⟨max K1 K2 + 1, fun k hk => ?_⟩
    obtain ⟨k, rfl⟩ : ∃ j, k = j + 1 := ⟨k - 1, by omega⟩
    have e1' := e1 k (by omega)
    have e2' := e2 k (by omega)
    unfold at_ at e1'
    dsimp only at e1' e2'
    simp only [exactpplref06_wrong.l0]
    rw [if_pos (by omega), if_pos (by omega), rdT hlt, e1', Option.bind_some, wrap_nat (by omega), e2', List.drop_eq_getElem_cons hlt]
    simp only [fl1]
    repeat' split
    all_goals rfl
theorem wrong_ev (n : Nat) : ∀ (t : S24), n ≤ 1000 → Bd n t → Ev (at_ exactpplref06_wrong.f t) (flt n t) := by
  induction n with
  | zero => intro t _ h; exact h.elim
  | succ n ih =>
    intro t hn hb
    obtain ⟨a0, a1, a2, a3, l⟩ := t
    have hl : l.length ≤ 1000 := hb.1
    by_cases hk : a0 < 1 ∨ 6 < a0
    · refine ⟨2, fun k hk2 => ?_⟩
      obtain ⟨k, rfl⟩ : ∃ j, k = j + 2 := ⟨k - 2, by omega⟩
      simp only [at_, exactpplref06_wrong.f, flt]
      rw [if_pos hk]
      split
      · simp only [exactpplref06_wrong.j0, if_true]
      · rw [show decide (a0 > 6) = true from by simp; omega]; simp only [exactpplref06_wrong.j0, if_true]
    · have hj : ∀ k, at_ exactpplref06_wrong.f ⟨a0, a1, a2, a3, l⟩ (k + 2) = exactpplref06_wrong.j1 k a0 (decide (unus a0 a1 a2 a3 l)) a0 a1 a2 a3 l := by
        intro k
        simp only [at_, exactpplref06_wrong.f]
        rw [if_neg (by omega), show decide (a0 > 6) = false from by simp; omega, wrong_j0 k hk]
      by_cases hu : unus a0 a1 a2 a3 l
      · refine ⟨3, fun k hk2 => ?_⟩
        obtain ⟨k, rfl⟩ : ∃ j, k = j + 3 := ⟨k - 3, by omega⟩
        rw [hj, decide_eq_true hu]
        simp only [exactpplref06_wrong.j1, flt, if_neg hk, if_pos hu, if_true]
      · have hj0 : ∀ k, at_ exactpplref06_wrong.f ⟨a0, a1, a2, a3, l⟩ (k + 3) = (if a0 = 2 then (if a1 < (-1000) then (some 1) else (if a1 > a2 then (some 1) else (if a2 > 1000 then (some 1) else (some 0)))) else (if a0 = 5 then (if (l.length : Int) < 2 then (exactpplref06_wrong.j2 k true a0 a1 a2 a3 l) else (exactpplref06_wrong.j2 k (decide ((l.length : Int) > 4)) a0 a1 a2 a3 l)) else (if a0 = 6 then (if a3 < 1 then (exactpplref06_wrong.j4 k true a0 a1 a2 a3 l) else (exactpplref06_wrong.j4 k (decide (a3 > 4)) a0 a1 a2 a3 l)) else (some 0)))) := by
          intro k
          rw [hj, decide_eq_false hu]
          simp only [exactpplref06_wrong.j1]
          rw [if_neg (by decide)]
        have hs : flt (n + 1) ⟨a0, a1, a2, a3, l⟩ = (if a0 = 2 then (if a1 < -1000 ∨ a1 > a2 ∨ a2 > 1000 then 1 else 0) else if a0 = 5 then (if l.length < 2 ∨ l.length > 4 then 1 else fl1 (flt n) l) else if a0 = 6 then (if a3 < 1 ∨ a3 > 4 then 1 else lst1 (flt n) l) else 0) := by
          simp only [flt, if_neg hk, if_neg hu]
        rw [hs]
        by_cases k2 : a0 = 2
        · refine ⟨3, fun k hk2 => ?_⟩
          obtain ⟨k, rfl⟩ : ∃ j, k = j + 3 := ⟨k - 3, by omega⟩
          rw [hj0, if_pos k2, if_pos k2]
          by_cases c1 : a1 < -1000
          · rw [if_pos c1, if_pos (by omega)]
          · by_cases c2 : a1 > a2
            · rw [if_neg c1, if_pos c2, if_pos (by omega)]
            · by_cases c3 : a2 > 1000
              · rw [if_neg c1, if_neg c2, if_pos c3, if_pos (by omega)]
              · rw [if_neg c1, if_neg c2, if_neg c3, if_neg (by omega)]
        · by_cases k5 : a0 = 5
          · by_cases c : l.length < 2 ∨ l.length > 4
            · refine ⟨4, fun k hk2 => ?_⟩
              obtain ⟨k, rfl⟩ : ∃ j, k = j + 4 := ⟨k - 4, by omega⟩
              rw [hj0, if_neg k2, if_neg k2, if_pos k5, if_pos k5, if_pos c]
              split
              · simp only [exactpplref06_wrong.j2, if_true]
              · rw [show decide ((l.length : Int) > 4) = true from by simp; omega]; simp only [exactpplref06_wrong.j2, if_true]
            · obtain ⟨K, e⟩ := wrong_l0 n l hl a0 a1 a2 a3 (fun x hx => ih x (by omega) (hb.2 x hx)) l.length 0 (by omega)
              refine ⟨K + 4, fun k hk2 => ?_⟩
              obtain ⟨k, rfl⟩ : ∃ j, k = j + 4 := ⟨k - 4, by omega⟩
              rw [hj0, if_neg k2, if_neg k2, if_pos k5, if_pos k5, if_neg c, if_neg (by omega), show decide ((l.length : Int) > 4) = false from by simp; omega]
              have e' := e k (by omega)
              dsimp only at e'
              simp only [exactpplref06_wrong.j2]
              rw [if_neg (by decide)]
              exact e'
          · by_cases k6 : a0 = 6
            · by_cases c : a3 < 1 ∨ a3 > 4
              · refine ⟨4, fun k hk2 => ?_⟩
                obtain ⟨k, rfl⟩ : ∃ j, k = j + 4 := ⟨k - 4, by omega⟩
                rw [hj0, if_neg k2, if_neg k2, if_neg k5, if_neg k5, if_pos k6, if_pos k6, if_pos c]
                split
                · simp only [exactpplref06_wrong.j4, if_true]
                · rw [show decide (a3 > 4) = true from by simp; omega]; simp only [exactpplref06_wrong.j4, if_true]
              · have hj3 : ∀ k, at_ exactpplref06_wrong.f ⟨a0, a1, a2, a3, l⟩ (k + 4) = exactpplref06_wrong.j4 (k + 1) false a0 a1 a2 a3 l := by
                  intro k
                  rw [hj0, if_neg k2, if_neg k5, if_pos k6, if_neg (by omega), show decide (a3 > 4) = false from by simp; omega]
                rw [if_neg k2, if_neg k5, if_pos k6, if_neg c]
                match l, hl, hb, hj3 with
                | [x], hl, hb, hj3 =>
                  obtain ⟨K, e⟩ := ih x (by omega) (hb.2 x List.mem_cons_self)
                  refine ⟨K + 4, fun k hk2 => ?_⟩
                  obtain ⟨k, rfl⟩ : ∃ j, k = j + 4 := ⟨k - 4, by omega⟩
                  have e' := e k (by omega)
                  unfold at_ at e'
                  rw [hj3]
                  simp only [exactpplref06_wrong.j4]
                  rw [if_neg (by decide), if_pos (by simp), if_pos (by simp), rdT0 (by simp), List.getElem_cons_zero, e', Option.bind_some]
                  simp only [lst1]
                  repeat' split
                  all_goals rfl
                | [], hl, hb, hj3 =>
                  refine ⟨4, fun k hk2 => ?_⟩
                  obtain ⟨k, rfl⟩ : ∃ j, k = j + 4 := ⟨k - 4, by omega⟩
                  rw [hj3]; simp only [exactpplref06_wrong.j4]; rfl
                | x :: y :: l, hl, hb, hj3 =>
                  refine ⟨4, fun k hk2 => ?_⟩
                  obtain ⟨k, rfl⟩ : ∃ j, k = j + 4 := ⟨k - 4, by omega⟩
                  rw [hj3]; simp only [exactpplref06_wrong.j4]
                  rw [if_neg (by decide), if_neg (by simp; omega)]; rfl
            · refine ⟨3, fun k hk2 => ?_⟩
              obtain ⟨k, rfl⟩ : ∃ j, k = j + 3 := ⟨k - 3, by omega⟩
              rw [hj0]
              simp only [if_neg k2, if_neg k5, if_neg k6]

end Go.Proofs.YtggelekooacmnaaDoor.Pure
set_option linter.unusedVariables false
set_option linter.unusedSimpArgs false
namespace Go.Proofs.YtggelekooacmnaaDoor.Pure
open Go.RowKit Go.Proofs.YtggelekooacmnaaDoor.Q Go.Proofs.YtggelekooacmnaaDoorW.PrintWords Go.Proofs.YtggelekooacmnaaDoorW.PrintLast Go.Proofs.YtggelekooacmnaaDoorW.PrintMore
-- valid types, their parts, Validate
inductive Vt : Nat → S24 → Prop
  | bool (n : Nat) : Vt (n + 1) ⟨1, 0, 0, 0, []⟩
  | int (n : Nat) (lo hi : Int) (h1 : -1000 ≤ lo) (h2 : lo ≤ hi) (h3 : hi ≤ 1000) : Vt (n + 1) ⟨2, lo, hi, 0, []⟩
  | nat (n : Nat) : Vt (n + 1) ⟨3, 0, 0, 0, []⟩
  | real (n : Nat) : Vt (n + 1) ⟨4, 0, 0, 0, []⟩
  | tup (n : Nat) (l : List S24) (h1 : 2 ≤ l.length) (h2 : l.length ≤ 4) (h3 : ∀ x ∈ l, Vt n x) (h4 : ∀ x ∈ l, x.f0 ≠ 3 ∧ x.f0 ≠ 4) : Vt (n + 1) ⟨5, 0, 0, 0, l⟩
  | lst (n : Nat) (m : Int) (x : S24) (h1 : 1 ≤ m) (h2 : m ≤ 4) (h3 : Vt n x) (h4 : x.f0 = 1 ∨ x.f0 = 2) : Vt (n + 1) ⟨6, 0, 0, m, [x]⟩
theorem Vt.up {n : Nat} : ∀ {t : S24}, Vt n t → Vt (n + 1) t := by
  induction n with
  | zero => intro t h; cases h
  | succ n ih =>
    intro t h
    cases h with
    | bool => exact .bool _
    | int _ lo hi h1 h2 h3 => exact .int _ _ _ h1 h2 h3
    | nat => exact .nat _
    | real => exact .real _
    | tup _ l h1 h2 h3 h4 => exact .tup _ _ h1 h2 (fun x hx => ih (h3 x hx)) h4
    | lst _ m x h1 h2 h3 h4 => exact .lst _ _ _ h1 h2 (ih h3) h4
theorem Vt.mono {n m : Nat} (h : n ≤ m) {t : S24} (ht : Vt n t) : Vt m t := by
  induction h with
  | refl => exact ht
  | step _ ih => exact ih.up
theorem Vt.bd {n : Nat} : ∀ {t : S24}, Vt n t → Bd n t := by
  induction n with
  | zero => intro t h; cases h
  | succ n ih =>
    intro t h
    cases h with
    | bool => exact ⟨by simp, by simp⟩
    | int _ lo hi h1 h2 h3 => exact ⟨by simp, by simp⟩
    | nat => exact ⟨by simp, by simp⟩
    | real => exact ⟨by simp, by simp⟩
    | tup _ l h1 h2 h3 h4 => exact ⟨by show l.length ≤ 1000; omega, fun x hx => ih (h3 x hx)⟩
    | lst _ m x h1 h2 h3 h4 => exact ⟨by simp, fun y hy => by simp at hy; subst hy; exact ih h3⟩
theorem fl1_zero {f : S24 → Int} : ∀ {l : List S24}, fl1 f l = 0 ↔ ∀ x ∈ l, f x = 0 ∧ x.f0 ≠ 3 ∧ x.f0 ≠ 4
  | [] => by simp [fl1]
  | x :: l => by
    simp only [fl1, List.forall_mem_cons]
    by_cases h : f x = 0
    · by_cases h3 : x.f0 = 3
      · simp [h, h3]
      · by_cases h4 : x.f0 = 4
        · simp [h, h4]
        · simp only [h, h3, h4, if_true, if_false, true_and, not_false_eq_true, ne_eq, fl1_zero]
    · simp [h]
theorem flt_vt (n : Nat) : ∀ {t : S24}, Bd n t → flt n t = 0 → Vt n t := by
  induction n with
  | zero => intro t h; exact h.elim
  | succ n ih =>
    intro t hb h
    obtain ⟨a0, a1, a2, a3, l⟩ := t
    simp only [flt] at h
    by_cases hk : a0 < 1 ∨ 6 < a0
    · rw [if_pos hk] at h; omega
    · rw [if_neg hk] at h
      by_cases hu : unus a0 a1 a2 a3 l
      · rw [if_pos hu] at h; omega
      · rw [if_neg hu] at h
        unfold unus at hu
        have hnil : a0 < 5 → l = [] := fun h5 => List.eq_nil_of_length_eq_zero (by omega)
        rcases kinds_of hk with rfl | rfl | rfl | rfl | rfl | rfl
        · obtain rfl := hnil (by omega)
          obtain rfl : a1 = 0 := by omega
          obtain rfl : a2 = 0 := by omega
          obtain rfl : a3 = 0 := by omega
          exact .bool _
        · obtain rfl := hnil (by omega)
          obtain rfl : a3 = 0 := by omega
          simp at h
          exact .int _ _ _ (by omega) (by omega) (by omega)
        · obtain rfl := hnil (by omega)
          obtain rfl : a1 = 0 := by omega
          obtain rfl : a2 = 0 := by omega
          obtain rfl : a3 = 0 := by omega
          exact .nat _
        · obtain rfl := hnil (by omega)
          obtain rfl : a1 = 0 := by omega
          obtain rfl : a2 = 0 := by omega
          obtain rfl : a3 = 0 := by omega
          exact .real _
        · obtain rfl : a1 = 0 := by omega
          obtain rfl : a2 = 0 := by omega
          obtain rfl : a3 = 0 := by omega
          rw [if_neg (by omega), if_pos rfl] at h
          by_cases hc : l.length < 2 ∨ l.length > 4
          · rw [if_pos hc] at h; omega
          · rw [if_neg hc, fl1_zero] at h
            exact .tup _ _ (by omega) (by omega) (fun x hx => ih (hb.2 x hx) (h x hx).1) (fun x hx => (h x hx).2)
        · obtain rfl : a1 = 0 := by omega
          obtain rfl : a2 = 0 := by omega
          rw [if_neg (by omega), if_neg (by omega), if_pos rfl] at h
          by_cases hc : a3 < 1 ∨ a3 > 4
          · rw [if_pos hc] at h; omega
          · rw [if_neg hc] at h
            match l, hb, h with
            | [x], hb, h =>
              simp only [lst1] at h
              by_cases hx : flt n x = 0
              · rw [if_pos hx] at h
                refine .lst _ _ _ (by omega) (by omega) (ih (hb.2 x List.mem_cons_self) hx) ?_
                by_cases h1 : x.f0 = 1
                · exact .inl h1
                · by_cases h2 : x.f0 = 2
                  · exact .inr h2
                  · simp [h1, h2] at h
              · rw [if_neg hx] at h; exact absurd h hx
            | [], _, h => simp [lst1] at h
            | _ :: _ :: _, _, h => simp [lst1] at h
theorem vt_flt (n : Nat) : ∀ {t : S24}, Vt n t → flt n t = 0 := by
  induction n with
  | zero => intro t h; cases h
  | succ n ih =>
    intro t h
    cases h with
    | bool => simp [flt]
    | int _ lo hi h1 h2 h3 =>
      simp only [flt]
      rw [if_neg (by omega), if_neg (by simp), if_pos trivial, if_neg (by omega)]
    | nat => simp [flt]
    | real => simp [flt]
    | tup _ l h1 h2 h3 h4 =>
      simp only [flt]
      rw [if_neg (by omega), if_neg (by simp), if_neg (by omega), if_pos trivial, if_neg (by omega), fl1_zero]
      exact fun x hx => ⟨ih (h3 x hx), h4 x hx⟩
    | lst _ m x h1 h2 h3 h4 =>
      simp only [flt]
      rw [if_neg (by omega), if_neg (by simp), if_neg (by omega), if_neg (by omega), if_pos trivial, if_neg (by omega)]
      simp only [lst1]
      rw [if_pos (ih h3)]
      rcases h4 with h4 | h4 <;> simp [h4]
theorem vt_dep (n : Nat) : ∀ {t : S24}, Vt n t → ∀ m, dep m t ≤ n := by
  induction n with
  | zero => intro t h; cases h
  | succ n ih =>
    intro t h m
    cases m with
    | zero => simp [dep]; omega
    | succ m =>
      simp only [dep]
      have : mxl (dep m) t.f4 0 ≤ n := by
        refine mxl_le (fun x hx => ?_) (by omega)
        cases h with
        | bool => simp at hx
        | int _ lo hi h1 h2 h3 => simp at hx
        | nat => simp at hx
        | real => simp at hx
        | tup _ l h1 h2 h3 h4 => exact ih (h3 x hx) m
        | lst _ m' y h1 h2 h3 h4 => simp at hx; subst hx; exact ih h3 m
      omega
theorem mxl_mem {f : S24 → Int} : ∀ {l : List S24} {m : Int} {x : S24}, x ∈ l → f x ≤ mxl f l m
  | y :: l, m, x, h => by
    simp only [mxl]
    rcases List.mem_cons.1 h with rfl | h
    · exact Int.le_trans mx_ge.2 (mxl_ge f l _)
    · exact mxl_mem h
theorem vt_low (n : Nat) : ∀ {t : S24} (d : Nat), Vt n t → dep n t ≤ d → Vt d t := by
  induction n with
  | zero => intro t d h; cases h
  | succ n ih =>
    intro t d h hd
    simp only [dep] at hd
    have h0 := mxl_ge (dep n) t.f4 0
    obtain ⟨d, rfl⟩ : ∃ e, d = e + 1 := ⟨d - 1, by omega⟩
    cases h with
    | bool => exact .bool _
    | int _ lo hi h1 h2 h3 => exact .int _ _ _ h1 h2 h3
    | nat => exact .nat _
    | real => exact .real _
    | tup _ l h1 h2 h3 h4 => exact .tup _ _ h1 h2 (fun x hx => ih d (h3 x hx) (by have := mxl_mem (f := dep n) (m := 0) hx; simp only at hd; omega)) h4
    | lst _ m x h1 h2 h3 h4 => exact .lst _ _ _ h1 h2 (ih d h3 (by have := mxl_mem (f := dep n) (m := 0) (x := x) (l := [x]) List.mem_cons_self; simp only at hd; omega)) h4
def prt : Nat → S24 → List S41
  | 0, _ => []
  | n + 1, t => if t.f0 = 1 then [⟨1, 0, 1⟩] else if t.f0 = 2 then [⟨2, t.f1, t.f2⟩] else if t.f0 = 3 ∨ t.f0 = 4 then [⟨t.f0, 0, 0⟩]
    else if t.f0 = 6 then ⟨2, 0, t.f3⟩ :: (List.replicate t.f3.toNat (prt n (rd_T24 t.f4 0))).flatten else (t.f4.map (prt n)).flatten
theorem flat_len {l : List S24} {f : S24 → List S41} {c : Nat} (h : ∀ x ∈ l, (f x).length ≤ c) : (l.map f).flatten.length ≤ l.length * c := by
  induction l with
  | nil => simp
  | cons x l ih =>
    have h1 := h x List.mem_cons_self
    have h2 := ih (fun y hy => h y (List.mem_cons_of_mem x hy))
    simp only [List.map_cons, List.flatten_cons, List.length_append, List.length_cons, Nat.add_mul]
    omega
theorem rep_len {α : Type} (m : Nat) (l : List α) : (List.replicate m l).flatten.length = m * l.length := by simp
theorem rd1 (x : S24) : rd_T24 [x] 0 = x := by simp [rd_T24]
theorem prt_len (n : Nat) : ∀ {t : S24}, Vt n t → (prt n t).length ≤ 5 ^ n ∧ 1 ≤ (prt n t).length := by
  induction n with
  | zero => intro t h; cases h
  | succ n ih =>
    intro t h
    have hp : 1 ≤ 5 ^ n := Nat.pos_of_ne_zero (by simp)
    have h5 : 5 ^ (n + 1) = 5 ^ n * 5 := Nat.pow_succ ..
    cases h with
    | bool => simp [prt]; omega
    | int _ lo hi h1 h2 h3 => simp [prt]; omega
    | nat => simp [prt]; omega
    | real => simp [prt]; omega
    | tup _ l h1 h2 h3 h4 =>
      have e : prt (n + 1) ⟨5, 0, 0, 0, l⟩ = (l.map (prt n)).flatten := by simp [prt]
      rw [e]
      have hl := flat_len (fun x hx => (ih (h3 x hx)).1)
      have : l.length * 5 ^ n ≤ 4 * 5 ^ n := Nat.mul_le_mul_right _ h2
      refine ⟨by omega, ?_⟩
      match l, h1, h3 with
      | x :: l, _, h3 =>
        have := (ih (h3 x List.mem_cons_self)).2
        simp only [List.map_cons, List.flatten_cons, List.length_append]; omega
    | lst _ m x h1 h2 h3 h4 =>
      have e : prt (n + 1) ⟨6, 0, 0, m, [x]⟩ = ⟨2, 0, m⟩ :: (List.replicate m.toNat (prt n x)).flatten := by simp [prt, rd1]
      have e1 : (prt n x).length = 1 := by
        cases h3 with
        | bool => simp [prt]
        | int _ lo hi h1 h2 h3 => simp [prt]
        | nat => simp at h4
        | real => simp at h4
        | tup _ l _ _ _ _ => simp at h4
        | lst _ m x _ _ _ _ => simp at h4
      rw [e, List.length_cons, rep_len, e1]
      omega

end Go.Proofs.YtggelekooacmnaaDoor.Pure
set_option linter.unusedVariables false
set_option linter.unusedSimpArgs false
namespace Go.Proofs.YtggelekooacmnaaDoor.Pure
open Go.RowKit Go.Proofs.YtggelekooacmnaaDoor.Q Go.Proofs.YtggelekooacmnaaDoorW.PrintWords Go.Proofs.YtggelekooacmnaaDoorW.PrintLast Go.Proofs.YtggelekooacmnaaDoorW.PrintMore
-- width, Parts, Validate
theorem wid_l0 (n : Nat) (l : List S24) (hl : l.length ≤ 4) (B : Nat) (hB : B ≤ 10000000) (ih : ∀ t ∈ l, Ev (at_ types_width.f t) ((prt n t).length : Int) ∧ (prt n t).length ≤ B) :
    ∀ (d i m : Nat), m ≤ i * B → i + d = l.length → Ev (fun k => types_width.l0 k m l l.length i) ((m + ((l.drop i).map (prt n)).flatten.length : Nat) : Int) := by
  intro d
  induction d with
  | zero =>
    intro i m h0 hi
    refine ⟨1, fun k hk => ?_⟩
    obtain ⟨k, rfl⟩ : ∃ j, k = j + 1 := ⟨k - 1, by omega⟩
    simp only [types_width.l0]
    rw [if_neg (by omega), List.drop_eq_nil_of_le (by omega)]; rfl
  | succ d IH =>
    intro i m h0 hi
    have hlt : i < l.length := by omega
    obtain ⟨⟨K1, e1⟩, hb⟩ := ih l[i] (List.getElem_mem hlt)
    have hm : m + (prt n l[i]).length ≤ (i + 1) * B := by rw [Nat.add_mul]; omega
    have hm2 : (i + 1) * B ≤ 4 * B := Nat.mul_le_mul_right _ (by omega)
    obtain ⟨K2, e2⟩ := IH (i + 1) (m + (prt n l[i]).length) hm (by omega)
    refine ⟨max K1 K2 + 1, fun k hk => ?_⟩
    obtain ⟨k, rfl⟩ : ∃ j, k = j + 1 := ⟨k - 1, by omega⟩
    have e1' := e1 k (by omega)
    have e2' := e2 k (by omega)
    unfold at_ at e1'
    dsimp only at e1' e2'
    simp only [types_width.l0]
    have ew : wrap64 ((m : Int) + ((prt n l[i]).length : Int)) = ((m + (prt n l[i]).length : Nat) : Int) := by unfold wrap64; omega
    rw [if_pos (by omega), if_pos (by omega), if_pos (by omega), rdT hlt, e1', Option.bind_some, wrap_nat (by omega), ew, e2', List.drop_eq_getElem_cons hlt]
    simp only [List.map_cons, List.flatten_cons, List.length_append, Nat.add_assoc]
theorem sc_len {n : Nat} {x : S24} (h3 : Vt n x) (h4 : x.f0 = 1 ∨ x.f0 = 2) : (prt n x).length = 1 := by
  cases h3 with
  | bool => simp [prt]
  | int _ lo hi h1 h2 h3 => simp [prt]
  | nat => simp at h4
  | real => simp at h4
  | tup _ l _ _ _ _ => simp at h4
  | lst _ m x _ _ _ _ => simp at h4
theorem prt5 (n : Nat) (a1 a2 a3 : Int) (l : List S24) : prt (n + 1) ⟨5, a1, a2, a3, l⟩ = (l.map (prt n)).flatten := by simp [prt]
theorem prt6 (n : Nat) (a1 a2 m : Int) (x : S24) : prt (n + 1) ⟨6, a1, a2, m, [x]⟩ = ⟨2, 0, m⟩ :: (List.replicate m.toNat (prt n x)).flatten := by simp [prt, rd1]
theorem pow5 {n : Nat} (h : n ≤ 9) : 5 ^ n ≤ 5 ^ 9 := Nat.pow_le_pow_right (by omega) h
theorem width_ev (n : Nat) : ∀ {t : S24}, n ≤ 10 → Vt n t → Ev (at_ types_width.f t) ((prt n t).length : Int) := by
  induction n with
  | zero => intro t _ h; cases h
  | succ n ih =>
    intro t hn h
    have one : ∀ a0 a1 a2 a3 : Int, ∀ l, a0 ≠ 5 → a0 ≠ 6 → Ev (at_ types_width.f ⟨a0, a1, a2, a3, l⟩) (1 : Int) := by
      intro a0 a1 a2 a3 l h5 h6
      refine ⟨1, fun k hk => ?_⟩
      obtain ⟨k, rfl⟩ : ∃ j, k = j + 1 := ⟨k - 1, by omega⟩
      simp only [at_, types_width.f, if_neg h5, if_neg h6]
    cases h with
    | bool => exact one _ _ _ _ _ (by decide) (by decide)
    | int _ lo hi h1 h2 h3 => exact one _ _ _ _ _ (by decide) (by decide)
    | nat => exact one _ _ _ _ _ (by decide) (by decide)
    | real => exact one _ _ _ _ _ (by decide) (by decide)
    | tup _ l h1 h2 h3 h4 =>
      have hp := pow5 (show n ≤ 9 by omega)
      obtain ⟨K, e⟩ := wid_l0 n l h2 (5 ^ n) (by omega) (fun x hx => ⟨ih (by omega) (h3 x hx), (prt_len n (h3 x hx)).1⟩) l.length 0 0 (by omega) (by omega)
      rw [prt5]
      refine ⟨K + 1, fun k hk => ?_⟩
      obtain ⟨k, rfl⟩ : ∃ j, k = j + 1 := ⟨k - 1, by omega⟩
      have e' := e k (by omega)
      simp only [at_, types_width.f, if_pos]
      simpa using e'
    | lst _ m x h1 h2 h3 h4 =>
      obtain ⟨K, e⟩ := ih (by omega) h3
      have e1 := sc_len h3 h4
      rw [prt6, List.length_cons, rep_len, e1]
      refine ⟨K + 1, fun k hk => ?_⟩
      obtain ⟨k, rfl⟩ : ∃ j, k = j + 1 := ⟨k - 1, by omega⟩
      have e' := e k (by omega)
      unfold at_ at e'
      simp only [at_, types_width.f]
      rw [if_neg (by decide), if_pos trivial, if_pos (by simp), rd1, e', Option.bind_some, e1]
      have : wrap64 (1 + wrap64 (m * ((1 : Nat) : Int))) = ((m.toNat * 1 + 1 : Nat) : Int) := by unfold wrap64; omega
      rw [this]
theorem Parts_l0 (n : Nat) (x : S24) (a0 a1 a2 m : Int) (hm : m ≤ 4) (ih : Ev (at_ exactpplref06_Parts.f x) (prt n x)) (hx : (prt n x).length = 1) :
    ∀ (d i : Nat) (o : List S41), o.length ≤ i + 1 → (i : Int) + d = m → Ev (fun k => exactpplref06_Parts.l0 k o i a0 a1 a2 m [x]) (o ++ (List.replicate d (prt n x)).flatten) := by
  intro d
  induction d with
  | zero =>
    intro i o ho hi
    refine ⟨1, fun k hk => ?_⟩
    obtain ⟨k, rfl⟩ : ∃ j, k = j + 1 := ⟨k - 1, by omega⟩
    simp only [exactpplref06_Parts.l0]
    rw [if_neg (by omega)]; simp
  | succ d IH =>
    intro i o ho hi
    obtain ⟨K1, e1⟩ := ih
    obtain ⟨K2, e2⟩ := IH (i + 1) (o ++ prt n x) (by rw [List.length_append]; omega) (by omega)
    refine ⟨max K1 K2 + 1, fun k hk => ?_⟩
    obtain ⟨k, rfl⟩ : ∃ j, k = j + 1 := ⟨k - 1, by omega⟩
    have e1' := e1 k (by omega)
    have e2' := e2 k (by omega)
    unfold at_ at e1'
    dsimp only at e1' e2'
    simp only [exactpplref06_Parts.l0]
    rw [if_pos (by omega), if_pos (by simp), rd1, e1', Option.bind_some, if_pos (by omega), wrap_nat (by omega), e2', List.append_assoc]
    simp only [List.replicate_succ, List.flatten_cons]
theorem Parts_l1 (n : Nat) (l : List S24) (hl : l.length ≤ 4) (a0 a1 a2 a3 : Int) (B : Nat) (hB : B ≤ 10000000) (ih : ∀ t ∈ l, Ev (at_ exactpplref06_Parts.f t) (prt n t) ∧ (prt n t).length ≤ B) :
    ∀ (d i : Nat) (o : List S41), o.length ≤ i * B → i + d = l.length → Ev (fun k => exactpplref06_Parts.l1 k o i a0 a1 a2 a3 l) (o ++ ((l.drop i).map (prt n)).flatten) := by
  intro d
  induction d with
  | zero =>
    intro i o ho hi
    refine ⟨1, fun k hk => ?_⟩
    obtain ⟨k, rfl⟩ : ∃ j, k = j + 1 := ⟨k - 1, by omega⟩
    simp only [exactpplref06_Parts.l1]
    rw [if_neg (by omega), List.drop_eq_nil_of_le (by omega)]; simp
  | succ d IH =>
    intro i o ho hi
    have hlt : i < l.length := by omega
    obtain ⟨⟨K1, e1⟩, hb⟩ := ih l[i] (List.getElem_mem hlt)
    have hm : (o ++ prt n l[i]).length ≤ (i + 1) * B := by rw [List.length_append, Nat.add_mul]; omega
    have hm2 : (i + 1) * B ≤ 4 * B := Nat.mul_le_mul_right _ (by omega)
    obtain ⟨K2, e2⟩ := IH (i + 1) (o ++ prt n l[i]) hm (by omega)
    refine ⟨max K1 K2 + 1, fun k hk => ?_⟩
    obtain ⟨k, rfl⟩ : ∃ j, k = j + 1 := ⟨k - 1, by omega⟩
    have e1' := e1 k (by omega)
    have e2' := e2 k (by omega)
    unfold at_ at e1'
    dsimp only at e1' e2'
    simp only [exactpplref06_Parts.l1]
    rw [List.length_append] at hm
    rw [if_pos (by omega), if_pos (by omega), rdT hlt, e1', Option.bind_some, if_pos (by omega), wrap_nat (by omega), e2', List.append_assoc, List.drop_eq_getElem_cons hlt]
    simp only [List.map_cons, List.flatten_cons]
theorem Parts_ev (n : Nat) : ∀ {t : S24}, n ≤ 10 → Vt n t → Ev (at_ exactpplref06_Parts.f t) (prt n t) := by
  induction n with
  | zero => intro t _ h; cases h
  | succ n ih =>
    intro t hn h
    cases h with
    | bool =>
      refine ⟨2, fun k hk => ?_⟩
      obtain ⟨k, rfl⟩ : ∃ j, k = j + 2 := ⟨k - 2, by omega⟩
      simp [at_, exactpplref06_Parts.f, prt]
    | int _ lo hi h1 h2 h3 =>
      refine ⟨2, fun k hk => ?_⟩
      obtain ⟨k, rfl⟩ : ∃ j, k = j + 2 := ⟨k - 2, by omega⟩
      simp [at_, exactpplref06_Parts.f, prt]
    | nat =>
      refine ⟨2, fun k hk => ?_⟩
      obtain ⟨k, rfl⟩ : ∃ j, k = j + 2 := ⟨k - 2, by omega⟩
      simp [at_, exactpplref06_Parts.f, exactpplref06_Parts.j0, prt]
    | real =>
      refine ⟨2, fun k hk => ?_⟩
      obtain ⟨k, rfl⟩ : ∃ j, k = j + 2 := ⟨k - 2, by omega⟩
      simp [at_, exactpplref06_Parts.f, exactpplref06_Parts.j0, prt]
    | tup _ l h1 h2 h3 h4 =>
      have hp := pow5 (show n ≤ 9 by omega)
      obtain ⟨K, e⟩ := Parts_l1 n l h2 5 0 0 0 (5 ^ n) (by omega) (fun x hx => ⟨ih (by omega) (h3 x hx), (prt_len n (h3 x hx)).1⟩) l.length 0 [] (by simp) (by omega)
      rw [prt5]
      refine ⟨K + 2, fun k hk => ?_⟩
      obtain ⟨k, rfl⟩ : ∃ j, k = j + 2 := ⟨k - 2, by omega⟩
      have e' := e k (by omega)
      simp [at_, exactpplref06_Parts.f, exactpplref06_Parts.j0]
      simpa using e'
    | lst _ m x h1 h2 h3 h4 =>
      have e1 := sc_len h3 h4
      obtain ⟨K, e⟩ := Parts_l0 n x 6 0 0 m h2 (ih (by omega) h3) e1 m.toNat 0 [⟨2, 0, m⟩] (by simp) (by omega)
      rw [prt6]
      refine ⟨K + 2, fun k hk => ?_⟩
      obtain ⟨k, rfl⟩ : ∃ j, k = j + 2 := ⟨k - 2, by omega⟩
      have e' := e k (by omega)
      simp [at_, exactpplref06_Parts.f, exactpplref06_Parts.j0]
      simpa using e'
/-- Validate, of whatever type within the bounds: program and reference agree; and what is valid. -/
theorem validate_ev {n : Nat} {t : S24} (hn : n ≤ 1000) (hb : Bd n t) : ∃ e, Ev (at_ types_Validate.f t) e ∧ Ev (at_ exactpplref06_Validate.f t) e ∧ (e = 0 → Vt 10 t ∧ (prt 10 t).length ≤ 24) := by
  obtain ⟨K1, e1⟩ := depth_ev n t hn hb
  obtain ⟨K2, e2⟩ := fault_ev n t hn hb
  obtain ⟨K3, e3⟩ := Depth_ev n t 11 hn (by omega) (by omega) hb
  obtain ⟨K4, e4⟩ := wrong_ev n t hn hb
  unfold at_ at e1 e2 e4
  dsimp only at e3
  by_cases hd : dep n t > 10
  · refine ⟨9, ⟨K1, fun k hk => ?_⟩, ⟨K3, fun k hk => ?_⟩, fun h => absurd h (by decide)⟩
    · simp only [at_, types_Validate.f]
      rw [e1 k hk, Option.bind_some, if_pos hd]
    · simp only [at_, exactpplref06_Validate.f]
      rw [e3 k hk, Option.bind_some, if_pos (by omega)]
  · by_cases hf : flt n t = 0
    · have hv := vt_low n 10 (flt_vt n hb hf) (by omega)
      obtain ⟨K5, e5⟩ := width_ev 10 (by omega) hv
      obtain ⟨K6, e6⟩ := Parts_ev 10 (by omega) hv
      unfold at_ at e5 e6
      refine ⟨if (prt 10 t).length > 24 then 9 else 0, ⟨K1 + K2 + K5, fun k hk => ?_⟩, ⟨K3 + K4 + K6, fun k hk => ?_⟩, fun h => ⟨hv, ?_⟩⟩
      · simp only [at_, types_Validate.f]
        rw [e1 k (by omega), Option.bind_some, if_neg hd, e2 k (by omega), Option.bind_some, if_pos hf, e5 k (by omega), Option.bind_some]
        split <;> split <;> first | rfl | omega
      · simp only [at_, exactpplref06_Validate.f]
        rw [e3 k (by omega), Option.bind_some, if_neg (by omega), e4 k (by omega), Option.bind_some, if_pos hf, e6 k (by omega), Option.bind_some]
        split <;> split <;> first | rfl | omega
      · split at h <;> omega
    · refine ⟨flt n t, ⟨K1 + K2, fun k hk => ?_⟩, ⟨K3 + K4, fun k hk => ?_⟩, fun h => absurd h hf⟩
      · simp only [at_, types_Validate.f]
        rw [e1 k (by omega), Option.bind_some, if_neg hd, e2 k (by omega), Option.bind_some, if_neg hf]
      · simp only [at_, exactpplref06_Validate.f]
        rw [e3 k (by omega), Option.bind_some, if_neg (by omega), e4 k (by omega), Option.bind_some, if_neg hf]
theorem validate_ok {t : S24} (hv : Vt 10 t) (hl : (prt 10 t).length ≤ 24) : Ev (at_ types_Validate.f t) 0 ∧ Ev (at_ exactpplref06_Validate.f t) 0 := by
  obtain ⟨K1, e1⟩ := depth_ev 10 t (by omega) hv.bd
  obtain ⟨K2, e2⟩ := fault_ev 10 t (by omega) hv.bd
  obtain ⟨K3, e3⟩ := Depth_ev 10 t 11 (by omega) (by omega) (by omega) hv.bd
  obtain ⟨K4, e4⟩ := wrong_ev 10 t (by omega) hv.bd
  obtain ⟨K5, e5⟩ := width_ev 10 (by omega) hv
  obtain ⟨K6, e6⟩ := Parts_ev 10 (by omega) hv
  unfold at_ at e1 e2 e4 e5 e6
  dsimp only at e3
  have hd := vt_dep 10 hv 10
  have hf := vt_flt 10 hv
  refine ⟨⟨K1 + K2 + K5, fun k hk => ?_⟩, ⟨K3 + K4 + K6, fun k hk => ?_⟩⟩
  · simp only [at_, types_Validate.f]
    rw [e1 k (by omega), Option.bind_some, if_neg (by omega), e2 k (by omega), Option.bind_some, if_pos hf, e5 k (by omega), Option.bind_some, if_neg (by omega)]
  · simp only [at_, exactpplref06_Validate.f]
    rw [e3 k (by omega), Option.bind_some, if_neg (by omega), e4 k (by omega), Option.bind_some, if_pos hf, e6 k (by omega), Option.bind_some, if_neg (by omega)]

end Go.Proofs.YtggelekooacmnaaDoor.Pure
set_option linter.unusedVariables false
set_option linter.unusedSimpArgs false
namespace Go.Proofs.YtggelekooacmnaaDoor.Pure
open Go.RowKit Go.Proofs.YtggelekooacmnaaDoor.Q Go.Proofs.YtggelekooacmnaaDoorW.PrintWords Go.Proofs.YtggelekooacmnaaDoorW.PrintLast Go.Proofs.YtggelekooacmnaaDoorW.PrintMore
theorem eta_s (x : S24) : (⟨x.f0, x.f1, x.f2, x.f3, x.f4⟩ : S24) = x := by cases x; rfl

-- the reader of numbers, and the types that are built
/-- a reader's state -/
structure Rs (l : List Int) (at0 : Int) : Prop where
  len : l.length ≤ 1000
  lo : 0 ≤ at0
  hi : at0 ≤ l.length
theorem raw_ok {l : List Int} {p s : Int} (h : Rs l p) : ∃ x p', exactpplmake_Src_Raw.f l p s = some (x, p', s) ∧ Rs l p' := by
  obtain ⟨h1, h2, h3⟩ := h
  unfold exactpplmake_Src_Raw.f
  by_cases c : p ≥ (l.length : Int)
  · exact ⟨0, p, by rw [if_pos c], ⟨h1, h2, h3⟩⟩
  · have e : wrap64 (p + 1) = p + 1 := by unfold wrap64; omega
    have e2 : wrap64 (p + 1 - 1) = p := by unfold wrap64; omega
    rw [if_neg c, e, e2, if_pos h2, if_pos (by omega)]
    exact ⟨_, _, rfl, ⟨h1, by omega, by omega⟩⟩
theorem tmod_bd (x a : Int) (ha : 0 < a) : -a < Int.tmod x a ∧ Int.tmod x a < a := by
  have h1 := Int.tmod_lt_of_pos x ha
  have h2 := Int.tmod_lt_of_pos (-x) ha
  rw [Int.neg_tmod] at h2
  omega
theorem N_ok {l : List Int} {p s a : Int} (h : Rs l p) (ha : a ≤ 1000000) : ∃ x p', exactpplmake_Src_N.f l p s a = some (x, p', s) ∧ Rs l p' ∧ 0 ≤ x ∧ (1 ≤ a → x < a) ∧ (a < 1 → x = 0) := by
  unfold exactpplmake_Src_N.f
  by_cases c : a < 1
  · exact ⟨0, p, by rw [if_pos c], h, by omega, by omega, fun _ => rfl⟩
  · obtain ⟨x, p', e, h'⟩ := raw_ok (s := s) h
    have hb := tmod_bd x a (by omega)
    rw [if_neg c, e, Option.bind_some, if_neg (by omega)]
    dsimp only
    by_cases c2 : Int.tmod x a < 0
    · have ew : wrap64 (Int.tmod x a + a) = Int.tmod x a + a := by unfold wrap64; omega
      rw [if_pos c2, ew]
      exact ⟨_, _, rfl, h', by omega, by omega, by omega⟩
    · rw [if_neg c2]
      exact ⟨_, _, rfl, h', by omega, by omega, by omega⟩
theorem Range_ok {l : List Int} {p s lo hi : Int} (h : Rs l p) (h1 : -100000 ≤ lo) (h2 : lo ≤ hi) (h3 : hi ≤ 100000) : ∃ x p', exactpplmake_Src_Range.f l p s lo hi = some (x, p', s) ∧ Rs l p' ∧ lo ≤ x ∧ x ≤ hi := by
  unfold exactpplmake_Src_Range.f
  have e : wrap64 (wrap64 (hi - lo) + 1) = hi - lo + 1 := by unfold wrap64; omega
  obtain ⟨x, p', e1, h', hx0, hx1, _⟩ := N_ok (s := s) (a := hi - lo + 1) h (by omega)
  have hx := hx1 (by omega)
  have ew : wrap64 (lo + x) = lo + x := by unfold wrap64; omega
  rw [e, e1, Option.bind_some]
  dsimp only
  rw [ew]
  exact ⟨_, _, rfl, h', by omega, by omega⟩
theorem New_ok (l : List Int) : exactpplmake_New.f l = some (l.take 1000, 0, 0) ∧ Rs (l.take 1000) 0 := by
  unfold exactpplmake_New.f
  refine ⟨?_, ⟨by rw [List.length_take]; omega, by omega, by omega⟩⟩
  by_cases c : (l.length : Int) > 1000
  · rw [if_pos c, if_pos (by omega)]
  · rw [if_neg c, List.take_of_length_le (by omega)]
/-- the types that are built, at most d deep -/
inductive Gt : Nat → S24 → Prop
  | bool (d : Nat) : Gt (d + 1) ⟨1, 0, 0, 0, []⟩
  | int (d : Nat) (lo hi : Int) (h1 : -2 ≤ lo) (h2 : lo ≤ hi) (h3 : hi ≤ lo + 3) (h4 : lo ≤ 3) : Gt (d + 1) ⟨2, lo, hi, 0, []⟩
  | tup (d : Nat) (l : List S24) (h1 : 2 ≤ l.length) (h2 : l.length ≤ 3) (h3 : ∀ x ∈ l, Gt d x) : Gt (d + 1) ⟨5, 0, 0, 0, l⟩
  | lst (d : Nat) (m : Int) (x : S24) (h1 : 1 ≤ m) (h2 : m ≤ 2) (h3 : Gt 1 x) (h4 : x.f0 = 1 ∨ x.f0 = 2) (h5 : 1 ≤ d) : Gt (d + 1) ⟨6, 0, 0, m, [x]⟩
theorem Gt.kind {d : Nat} {t : S24} (h : Gt d t) : t.f0 ≠ 3 ∧ t.f0 ≠ 4 ∧ 1 ≤ t.f0 ∧ t.f0 ≤ 6 := by cases h <;> simp
theorem Gt.vt {d : Nat} : ∀ {t : S24}, Gt d t → Vt d t := by
  induction d with
  | zero => intro t h; cases h
  | succ d ih =>
    intro t h
    cases h with
    | bool => exact .bool _
    | int _ lo hi h1 h2 h3 h4 => exact .int _ _ _ (by omega) h2 (by omega)
    | tup _ l h1 h2 h3 => exact .tup _ _ h1 (by omega) (fun x hx => ih (h3 x hx)) (fun x hx => ⟨(h3 x hx).kind.1, (h3 x hx).kind.2.1⟩)
    | lst _ m x h1 h2 h3 h4 h5 =>
      refine .lst _ _ _ h1 (by omega) (Vt.mono h5 ?_) h4
      cases h3 with
      | bool => exact .bool _
      | int _ lo hi h1 h2 h3 h4 => exact .int _ _ _ (by omega) h2 (by omega)
      | tup _ l h1 h2 h3 => simp at h4
      | lst _ m x h1 h2 h3 h4 h5 => omega
theorem Gt.prt_len {d : Nat} : ∀ {t : S24} {n : Nat}, Gt d t → d ≤ n → (prt n t).length ≤ 3 ^ (d - 1) := by
  induction d with
  | zero => intro t n h; cases h
  | succ d ih =>
    intro t n h hn
    obtain ⟨n, rfl⟩ : ∃ e, n = e + 1 := ⟨n - 1, by omega⟩
    have hp : 1 ≤ 3 ^ (d + 1 - 1) := Nat.pos_of_ne_zero (by simp)
    cases h with
    | bool => simpa [prt] using hp
    | int _ lo hi h1 h2 h3 h4 => simpa [prt] using hp
    | tup _ l h1 h2 h3 =>
      rw [prt5]
      have hl := flat_len (f := prt n) (fun x hx => ih (h3 x hx) (show d ≤ n by omega))
      obtain ⟨d, rfl⟩ : ∃ e, d = e + 1 := by
        match l, h1, h3 with
        | x :: _, _, h3 => exact ⟨d - 1, by have := h3 x List.mem_cons_self; cases d with
            | zero => cases this
            | succ d => omega⟩
      have h5 : 3 ^ (d + 1 + 1 - 1) = 3 ^ (d + 1 - 1) * 3 := Nat.pow_succ ..
      have : l.length * 3 ^ (d + 1 - 1) ≤ 3 * 3 ^ (d + 1 - 1) := Nat.mul_le_mul_right _ h2
      omega
    | lst _ m x h1 h2 h3 h4 h5 =>
      have hv : Vt n x := Vt.mono (by omega) h3.vt
      rw [prt6, List.length_cons, rep_len, sc_len hv h4]
      have : 3 ^ 1 ≤ 3 ^ (d + 1 - 1) := Nat.pow_le_pow_right (by omega) (by omega)
      omega
theorem Type_l0 (d : Nat) (hd : d ≤ 100) (l : List Int) (s : Int) (ih : ∀ p, Rs l p → ∃ t p', Ev (fun k => exactpplmake_Src_Type.f k l p s d) (t.f0, t.f1, t.f2, t.f3, t.f4, p', s) ∧ Gt d t ∧ Rs l p') :
    ∀ (c : Nat) (p : Int) (o : List S24), c ≤ 3 → o.length + c ≤ 3 → Rs l p → (∀ x ∈ o, Gt d x) → ∃ o' p', Ev (fun k => exactpplmake_Src_Type.l0 k (d + 1 : Nat) c l p s 5 0 0 0 o) (5, 0, 0, 0, o', p', s) ∧ o'.length = o.length + c ∧ (∀ x ∈ o', Gt d x) ∧ Rs l p' := by
  intro c
  induction c with
  | zero =>
    intro p o hc ho hr hg
    refine ⟨o, p, ⟨1, fun k hk => ?_⟩, by omega, hg, hr⟩
    obtain ⟨k, rfl⟩ : ∃ j, k = j + 1 := ⟨k - 1, by omega⟩
    simp only [exactpplmake_Src_Type.l0]
    rw [if_neg (by omega)]
  | succ c IH =>
    intro p o hc ho hr hg
    obtain ⟨t, p1, ⟨K1, e1⟩, g1, hr1⟩ := ih p hr
    obtain ⟨o', p', ⟨K2, e2⟩, hl, hg', hr'⟩ := IH p1 (o ++ [t]) (by omega) (by rw [List.length_append, List.length_singleton]; omega) hr1 (by
      intro x hx
      rcases List.mem_append.1 hx with hx | hx
      · exact hg x hx
      · rw [List.mem_singleton] at hx; rw [hx]; exact g1)
    refine ⟨o', p', ⟨max K1 K2 + 1, fun k hk => ?_⟩, by rw [hl, List.length_append, List.length_singleton]; omega, hg', hr'⟩
    obtain ⟨k, rfl⟩ : ∃ j, k = j + 1 := ⟨k - 1, by omega⟩
    have e1' := e1 k (by omega)
    have e2' := e2 k (by omega)
    dsimp only at e1' e2'
    have ew : wrap64 (((d + 1 : Nat) : Int) - 1) = (d : Int) := by unfold wrap64; omega
    have ec : wrap64 (((c + 1 : Nat) : Int) - 1) = (c : Int) := by unfold wrap64; omega
    simp only [exactpplmake_Src_Type.l0]
    rw [if_pos (by omega), ew, e1', Option.bind_some]
    dsimp only
    rw [if_pos (by omega), ec, eta_s, e2']
theorem Type_ev (d : Nat) : ∀ {l : List Int} {p s : Int}, 1 ≤ d → d ≤ 100 → Rs l p → ∃ t p', Ev (fun k => exactpplmake_Src_Type.f k l p s d) (t.f0, t.f1, t.f2, t.f3, t.f4, p', s) ∧ Gt d t ∧ Rs l p' := by
  induction d with
  | zero => intro l p s h; omega
  | succ d ih =>
    intro l p s h1 h2 hr
    obtain ⟨k1, p1, e1, hr1, b1, b1', _⟩ := N_ok (s := s) (a := 6) hr (by omega)
    have b1' := b1' (by omega)
    have leaf : ∀ (kd q : Int), Rs l q → 0 ≤ kd → kd < 3 → ∃ t p', (∃ K, ∀ k, K ≤ k → exactpplmake_Src_Type.j0 k ((d + 1 : Nat) : Int) kd l q s = some (t.f0, t.f1, t.f2, t.f3, t.f4, p', s)) ∧ Gt (d + 1) t ∧ Rs l p' := by
      intro kd q hq c0 c3
      by_cases c : kd = 0
      · refine ⟨⟨1, 0, 0, 0, []⟩, q, ⟨1, fun k hk => ?_⟩, .bool _, hq⟩
        obtain ⟨k, rfl⟩ : ∃ j, k = j + 1 := ⟨k - 1, by omega⟩
        simp only [exactpplmake_Src_Type.j0]
        rw [if_pos c]
      · obtain ⟨lo, q1, e2, hq1, l1, l2⟩ := Range_ok (s := s) (lo := -2) (hi := 3) hq (by omega) (by omega) (by omega)
        obtain ⟨w, q2, e3, hq2, w1, w2, _⟩ := N_ok (s := s) (a := 4) hq1 (by omega)
        have w2 := w2 (by omega)
        have ew : wrap64 (lo + w) = lo + w := by unfold wrap64; omega
        refine ⟨⟨2, lo, lo + w, 0, []⟩, q2, ⟨2, fun k hk => ?_⟩, .int _ _ _ l1 (by omega) (by omega) (by omega), hq2⟩
        obtain ⟨k, rfl⟩ : ∃ j, k = j + 2 := ⟨k - 2, by omega⟩
        simp only [exactpplmake_Src_Type.j0]
        rw [if_neg c]
        have hb : ∀ b, b = true → exactpplmake_Src_Type.j1 (k + 1) ((d + 1 : Nat) : Int) kd b l q s = some (2, lo, lo + w, 0, [], q2, s) := by
          intro b hb
          simp only [exactpplmake_Src_Type.j1]
          rw [if_pos hb, e2, Option.bind_some]
          dsimp only
          rw [e3, Option.bind_some]
          dsimp only
          rw [ew]
        by_cases c1 : kd = 1
        · rw [if_pos c1]; exact hb _ (by rw [c1]; rfl)
        · rw [if_neg c1]; exact hb _ (by rw [show kd = 2 from by omega]; rfl)
    by_cases hd : d = 0
    · subst hd
      obtain ⟨k2, p2, e2, hr2, b2, b2', _⟩ := N_ok (s := s) (a := 3) hr1 (by omega)
      have b2' := b2' (by omega)
      obtain ⟨t, p', ⟨K, e⟩, g, hr'⟩ := leaf k2 p2 hr2 b2 b2'
      refine ⟨t, p', ⟨K + 1, fun k hk => ?_⟩, g, hr'⟩
      obtain ⟨k, rfl⟩ : ∃ j, k = j + 1 := ⟨k - 1, by omega⟩
      simp only [exactpplmake_Src_Type.f]
      rw [e1, Option.bind_some, if_pos (by omega)]
      dsimp only
      rw [e2, Option.bind_some]
      exact e k (by omega)
    · have hf : ∀ k, exactpplmake_Src_Type.f (k + 1) l p s ((d + 1 : Nat) : Int) = exactpplmake_Src_Type.j0 k ((d + 1 : Nat) : Int) k1 l p1 s := by
        intro k
        simp only [exactpplmake_Src_Type.f]
        rw [e1, Option.bind_some, if_neg (by omega)]
      by_cases c3 : k1 < 3
      · obtain ⟨t, p', ⟨K, e⟩, g, hr'⟩ := leaf k1 p1 hr1 b1 c3
        refine ⟨t, p', ⟨K + 1, fun k hk => ?_⟩, g, hr'⟩
        obtain ⟨k, rfl⟩ : ∃ j, k = j + 1 := ⟨k - 1, by omega⟩
        show exactpplmake_Src_Type.f (k + 1) l p s ((d + 1 : Nat) : Int) = _
        rw [hf]
        exact e k (by omega)
      · have hj : ∀ k, exactpplmake_Src_Type.f (k + 3) l p s ((d + 1 : Nat) : Int) = (if k1 = 3 then exactpplmake_Src_Type.j2 k ((d + 1 : Nat) : Int) true l p1 s else exactpplmake_Src_Type.j2 k ((d + 1 : Nat) : Int) (k1 == 4) l p1 s) := by
          intro k
          rw [hf]
          simp only [exactpplmake_Src_Type.j0]
          rw [if_neg (by omega), if_neg (by omega), show (k1 == 2) = false from by simp; omega]
          simp only [exactpplmake_Src_Type.j1]
          rw [if_neg (by decide)]
          by_cases c : k1 = 3
          · rw [if_pos c, if_pos c, c]; rfl
          · rw [if_neg c, if_neg c]
        by_cases c4 : k1 = 3 ∨ k1 = 4
        · obtain ⟨c, p2, e2, hr2, g1, g2⟩ := Range_ok (s := s) (lo := 2) (hi := 3) hr1 (by omega) (by omega) (by omega)
          obtain ⟨o', p', ⟨K, e⟩, hl, hg, hr'⟩ := Type_l0 d (by omega) l s (fun p hp => ih (by omega) (by omega) hp) c.toNat p2 [] (by omega) (by simp; omega) hr2 (by simp)
          refine ⟨⟨5, 0, 0, 0, o'⟩, p', ⟨K + 4, fun k hk => ?_⟩, .tup _ _ (by simp at hl; omega) (by simp at hl; omega) hg, hr'⟩
          obtain ⟨k, rfl⟩ : ∃ j, k = j + 4 := ⟨k - 4, by omega⟩
          show exactpplmake_Src_Type.f (k + 1 + 3) l p s ((d + 1 : Nat) : Int) = _
          have hb : ∀ b, b = true → exactpplmake_Src_Type.j2 (k + 1) ((d + 1 : Nat) : Int) b l p1 s = some (5, 0, 0, 0, o', p', s) := by
            intro b hb
            have e' := e k (by omega)
            dsimp only at e'
            simp only [exactpplmake_Src_Type.j2]
            rw [if_pos hb, e2, Option.bind_some]
            dsimp only
            rw [show c = (c.toNat : Int) from by omega]
            exact e'
          rw [hj]
          by_cases c : k1 = 3
          · rw [if_pos c]; exact hb _ rfl
          · rw [if_neg c]; exact hb _ (by rw [show k1 = 4 from by omega]; rfl)
        · obtain ⟨m, p2, e2, hr2, g1, g2⟩ := Range_ok (s := s) (lo := 1) (hi := 2) hr1 (by omega) (by omega) (by omega)
          have h1t : ∃ x p', Ev (fun k => exactpplmake_Src_Type.f k l p2 s 1) (x.f0, x.f1, x.f2, x.f3, x.f4, p', s) ∧ Gt 1 x ∧ Rs l p' := by
            obtain ⟨k3, p3, e3, hr3, b3, b3', _⟩ := N_ok (s := s) (a := 6) hr2 (by omega)
            obtain ⟨k4, p4, e4, hr4, b4, b4', _⟩ := N_ok (s := s) (a := 3) hr3 (by omega)
            have b4' := b4' (by omega)
            have fin : ∃ x p', (∃ K, ∀ k, K ≤ k → exactpplmake_Src_Type.j0 k 1 k4 l p4 s = some (x.f0, x.f1, x.f2, x.f3, x.f4, p', s)) ∧ Gt 1 x ∧ Rs l p' := by
              by_cases c : k4 = 0
              · refine ⟨⟨1, 0, 0, 0, []⟩, p4, ⟨1, fun k hk => ?_⟩, .bool _, hr4⟩
                obtain ⟨k, rfl⟩ : ∃ j, k = j + 1 := ⟨k - 1, by omega⟩
                simp only [exactpplmake_Src_Type.j0]
                rw [if_pos c]
              · obtain ⟨lo, q1, e5, hq1, l1, l2⟩ := Range_ok (s := s) (lo := -2) (hi := 3) hr4 (by omega) (by omega) (by omega)
                obtain ⟨w, q2, e6, hq2, w1, w2, _⟩ := N_ok (s := s) (a := 4) hq1 (by omega)
                have w2 := w2 (by omega)
                have ew : wrap64 (lo + w) = lo + w := by unfold wrap64; omega
                refine ⟨⟨2, lo, lo + w, 0, []⟩, q2, ⟨2, fun k hk => ?_⟩, .int _ _ _ l1 (by omega) (by omega) (by omega), hq2⟩
                obtain ⟨k, rfl⟩ : ∃ j, k = j + 2 := ⟨k - 2, by omega⟩
                simp only [exactpplmake_Src_Type.j0]
                rw [if_neg c]
                have hb : ∀ b, b = true → exactpplmake_Src_Type.j1 (k + 1) 1 k4 b l p4 s = some (2, lo, lo + w, 0, [], q2, s) := by
                  intro b hb
                  simp only [exactpplmake_Src_Type.j1]
                  rw [if_pos hb, e5, Option.bind_some]
                  dsimp only
                  rw [e6, Option.bind_some]
                  dsimp only
                  rw [ew]
                by_cases c1 : k4 = 1
                · rw [if_pos c1]; exact hb _ (by rw [c1]; rfl)
                · rw [if_neg c1]; exact hb _ (by rw [show k4 = 2 from by omega]; rfl)
            obtain ⟨x, p', ⟨K, e⟩, g, hr'⟩ := fin
            refine ⟨x, p', ⟨K + 1, fun k hk => ?_⟩, g, hr'⟩
            obtain ⟨k, rfl⟩ : ∃ j, k = j + 1 := ⟨k - 1, by omega⟩
            simp only [exactpplmake_Src_Type.f]
            rw [e3, Option.bind_some, if_pos (by omega)]
            dsimp only
            rw [e4, Option.bind_some]
            exact e k (by omega)
          obtain ⟨x, p', ⟨K, e⟩, g, hr'⟩ := h1t
          have hk12 : x.f0 = 1 ∨ x.f0 = 2 := by
            cases g with
            | bool => exact .inl rfl
            | int => exact .inr rfl
            | tup _ l h1 h2 h3 =>
              match l, h1, h3 with
              | y :: _, _, h3 => exact nomatch h3 y List.mem_cons_self
            | lst _ _ _ _ _ _ _ h5 => omega
          refine ⟨⟨6, 0, 0, m, [x]⟩, p', ⟨K + 4, fun k hk => ?_⟩, .lst _ _ _ g1 g2 g hk12 (by omega), hr'⟩
          obtain ⟨k, rfl⟩ : ∃ j, k = j + 4 := ⟨k - 4, by omega⟩
          have e' := e (k) (by omega)
          dsimp only at e'
          show exactpplmake_Src_Type.f (k + 1 + 3) l p s ((d + 1 : Nat) : Int) = _
          rw [hj, if_neg (by omega), show (k1 == 4) = false from by simp; omega]
          simp only [exactpplmake_Src_Type.j2]
          rw [if_neg (by decide), e2, Option.bind_some]
          dsimp only
          rw [e', Option.bind_some]
          dsimp only
          rw [eta_s]

end Go.Proofs.YtggelekooacmnaaDoor.Pure
set_option linter.unusedVariables false
set_option linter.unusedSimpArgs false
namespace Go.Proofs.YtggelekooacmnaaDoor.Pure
open Go.RowKit Go.Proofs.YtggelekooacmnaaDoor.Q Go.Proofs.YtggelekooacmnaaDoorW.PrintWords Go.Proofs.YtggelekooacmnaaDoorW.PrintLast Go.Proofs.YtggelekooacmnaaDoorW.PrintMore
-- texts of types: one text, one type
theorem split_by (p : UInt8 → Bool) : ∀ (l l' r r' : List UInt8), (∀ x ∈ l, p x = true) → (∀ x ∈ l', p x = true) → (∀ x, r.head? = some x → p x = false) → (∀ x, r'.head? = some x → p x = false) → l ++ r = l' ++ r' → l = l' ∧ r = r'
  | [], [], r, r', _, _, _, _, h => ⟨rfl, h⟩
  | [], y :: l', r, r', _, h2, h3, _, h => by
    have : r.head? = some y := by rw [List.nil_append] at h; rw [h]; rfl
    have h5 := h3 y this
    rw [h2 y List.mem_cons_self] at h5; cases h5
  | x :: l, [], r, r', h1, _, _, h4, h => by
    have : r'.head? = some x := by rw [List.nil_append] at h; rw [← h]; rfl
    have h5 := h4 x this
    rw [h1 x List.mem_cons_self] at h5; cases h5
  | x :: l, y :: l', r, r', h1, h2, h3, h4, h => by
    simp only [List.cons_append, List.cons.injEq] at h
    obtain ⟨rfl, h⟩ := h
    obtain ⟨rfl, hr⟩ := split_by p l l' r r' (fun x hx => h1 x (List.mem_cons_of_mem _ hx)) (fun x hx => h2 x (List.mem_cons_of_mem _ hx)) h3 h4 h
    exact ⟨rfl, hr⟩
def valD (l : List UInt8) : Nat := l.foldl (fun a d => a * 10 + (d.toNat - 48)) 0
theorem valD_snoc (l : List UInt8) (d : UInt8) : valD (l ++ [d]) = valD l * 10 + (d.toNat - 48) := by simp [valD]
theorem digit_toNat {i : Nat} (h : i < 10) : (UInt8.ofNat (48 + i)).toNat = 48 + i := by
  rw [UInt8.toNat_ofNat']; exact Nat.mod_eq_of_lt (by omega)
theorem valD_dec (u : Nat) : valD (Go.Lib.decDigits u) = u := by
  induction u using Nat.strongRecOn with
  | _ u ih =>
    by_cases h : u < 10
    · rw [Go.Lib.decDigits, dif_pos h]
      show (0 * 10 + ((UInt8.ofNat (48 + u)).toNat - 48)) = u
      rw [digit_toNat h]; omega
    · rw [Go.Lib.decDigits, dif_neg h, valD_snoc, ih (u / 10) (by omega), digit_toNat (by omega)]; omega
theorem dec_digits (u : Nat) : ∀ x ∈ Go.Lib.decDigits u, 48 ≤ x.toNat ∧ x.toNat ≤ 57 := by
  induction u using Nat.strongRecOn with
  | _ u ih =>
    intro x hx
    by_cases h : u < 10
    · rw [Go.Lib.decDigits, dif_pos h, List.mem_singleton] at hx
      subst hx; rw [digit_toNat h]; omega
    · rw [Go.Lib.decDigits, dif_neg h, List.mem_append, List.mem_singleton] at hx
      rcases hx with hx | rfl
      · exact ih (u / 10) (by omega) x hx
      · rw [digit_toNat (by omega)]; omega
theorem itoa_inj {a b : Int} (h : Go.Lib.itoa a = Go.Lib.itoa b) : a = b := by
  unfold Go.Lib.itoa at h
  have no45 : ∀ u l, (45 : UInt8) :: l ≠ Go.Lib.decDigits u := by
    intro u l e
    have := dec_digits u 45 (by rw [← e]; exact List.mem_cons_self)
    have h45 : (45 : UInt8).toNat = 45 := rfl
    omega
  by_cases ha : a < 0 <;> by_cases hb : b < 0
  · rw [if_pos ha, if_pos hb] at h
    have := congrArg valD (List.cons.inj h).2
    rw [valD_dec, valD_dec] at this; omega
  · rw [if_pos ha, if_neg hb] at h; exact absurd h (no45 _ _)
  · rw [if_neg ha, if_pos hb] at h; exact absurd h.symm (no45 _ _)
  · rw [if_neg ha, if_neg hb] at h
    have := congrArg valD h
    rw [valD_dec, valD_dec] at this; omega
/-- a numeral's bytes -/
def isNum (x : UInt8) : Bool := x == 45 || decide (48 ≤ x.toNat ∧ x.toNat ≤ 57)
theorem itoa_num (a : Int) : ∀ x ∈ Go.Lib.itoa a, isNum x = true := by
  intro x hx
  unfold Go.Lib.itoa at hx
  unfold isNum
  split at hx
  · rcases List.mem_cons.1 hx with h | h
    · subst h; rfl
    · rw [decide_eq_true (dec_digits _ _ h)]; simp
  · rw [decide_eq_true (dec_digits _ _ hx)]; simp
theorem num_split {a b : Int} {c d : UInt8} {r r' : List UInt8} (hc : isNum c = false) (hd : isNum d = false) (h : Go.Lib.itoa a ++ c :: r = Go.Lib.itoa b ++ d :: r') : a = b ∧ c = d ∧ r = r' := by
  obtain ⟨h1, h2⟩ := split_by isNum _ _ _ _ (itoa_num a) (itoa_num b) (by intro x hx; simp at hx; rw [← hx]; exact hc) (by intro x hx; simp at hx; rw [← hx]; exact hd) h
  injection h2 with h2 h3
  exact ⟨itoa_inj h1, h2, h3⟩
/-- texts with ', ' between them -/
def sepd : List (List UInt8) → List UInt8
  | [] => []
  | [x] => x
  | x :: y :: l => x ++ 44 :: 32 :: sepd (y :: l)
/-- a type's text -/
def txT : Nat → S24 → List UInt8
  | 0, _ => []
  | n + 1, t => if t.f0 = 1 then [98, 111, 111, 108] else if t.f0 = 2 then 105 :: 110 :: 116 :: 91 :: (Go.Lib.itoa t.f1 ++ 44 :: 32 :: (Go.Lib.itoa t.f2 ++ [93])) else if t.f0 = 3 then [110, 97, 116] else if t.f0 = 4 then [114, 101, 97, 108]
    else if t.f0 = 6 then 108 :: 105 :: 115 :: 116 :: 91 :: (Go.Lib.itoa t.f3 ++ 93 :: 32 :: txT n (rd_T24 t.f4 0)) else 40 :: (sepd (t.f4.map (txT n)) ++ [41])
theorem sepd_inj {α : Type} {f : α → List UInt8} {P : α → Prop} (ih : ∀ {x y : α} (r r' : List UInt8), P x → P y → f x ++ r = f y ++ r' → x = y ∧ r = r') (e : UInt8) (he : e ≠ 44) : ∀ (l l' : List α), l ≠ [] → l' ≠ [] → (∀ x ∈ l, P x) → (∀ x ∈ l', P x) → ∀ r r', sepd (l.map f) ++ e :: r = sepd (l'.map f) ++ e :: r' → l = l' ∧ r = r'
  | [], _, h, _, _, _, _, _, _ => absurd rfl h
  | _, [], _, h, _, _, _, _, _ => absurd rfl h
  | [x], [y], _, _, hx, hy, r, r', h => by
    simp only [List.map_cons, List.map_nil, sepd] at h
    obtain ⟨h1, h2⟩ := ih _ _ (hx x List.mem_cons_self) (hy y List.mem_cons_self) h
    injection h2 with _ h2
    exact ⟨by rw [h1], h2⟩
  | [x], y :: z :: l', _, _, hx, hy, r, r', h => by
    simp only [List.map_cons, List.map_nil, sepd, List.append_assoc, List.cons_append] at h
    obtain ⟨_, h2⟩ := ih _ _ (hx x List.mem_cons_self) (hy y List.mem_cons_self) h
    injection h2 with h2 _
    exact absurd h2 he
  | x :: w :: l, [y], _, _, hx, hy, r, r', h => by
    simp only [List.map_cons, List.map_nil, sepd, List.append_assoc, List.cons_append] at h
    obtain ⟨_, h2⟩ := ih _ _ (hx x List.mem_cons_self) (hy y List.mem_cons_self) h
    injection h2 with h2 _
    exact absurd h2.symm he
  | x :: w :: l, y :: z :: l', _, _, hx, hy, r, r', h => by
    simp only [List.map_cons, sepd, List.append_assoc, List.cons_append] at h
    obtain ⟨h1, h2⟩ := ih _ _ (hx x List.mem_cons_self) (hy y List.mem_cons_self) h
    injection h2 with _ h2
    injection h2 with _ h2
    obtain ⟨h3, h4⟩ := sepd_inj ih e he (w :: l) (z :: l') (by simp) (by simp) (fun a ha => hx a (List.mem_cons_of_mem _ ha)) (fun a ha => hy a (List.mem_cons_of_mem _ ha)) r r' h2
    exact ⟨by rw [h1, h3], h4⟩
theorem txT_inj (n : Nat) : ∀ {t u : S24} (r r' : List UInt8), Vt n t → Vt n u → txT n t ++ r = txT n u ++ r' → t = u ∧ r = r' := by
  induction n with
  | zero => intro t u r r' h; cases h
  | succ n ih =>
    intro t u r r' ht hu h
    have n44 : isNum 44 = false := by decide
    have n93 : isNum 93 = false := by decide
    cases ht with
    | bool => cases hu <;> simp [txT] at h <;> exact ⟨rfl, h⟩
    | nat => cases hu <;> simp [txT] at h <;> exact ⟨rfl, h⟩
    | real => cases hu <;> simp [txT] at h <;> exact ⟨rfl, h⟩
    | int _ lo hi h1 h2 h3 =>
      cases hu with
      | int _ lo' hi' g1 g2 g3 =>
        simp only [txT] at h
        rw [if_neg (by omega), if_pos trivial, if_neg (by omega), if_pos trivial] at h
        simp only [List.cons_append, List.append_assoc, List.cons.injEq, true_and] at h
        obtain ⟨e1, _, e2⟩ := num_split n44 n44 h
        injection e2 with _ e2
        obtain ⟨e3, _, e4⟩ := num_split n93 n93 e2
        subst e1; subst e3
        exact ⟨rfl, by simpa using e4⟩
      | bool => simp [txT] at h
      | nat => simp [txT] at h
      | real => simp [txT] at h
      | tup => simp [txT] at h
      | lst => simp [txT] at h
    | lst _ m x h1 h2 h3 h4 =>
      cases hu with
      | lst _ m' x' g1 g2 g3 g4 =>
        simp only [txT] at h
        rw [if_neg (by omega), if_neg (by omega), if_neg (by omega), if_neg (by omega), if_pos trivial, if_neg (by omega), if_neg (by omega), if_neg (by omega), if_neg (by omega), if_pos trivial] at h
        simp only [List.cons_append, List.append_assoc, List.cons.injEq, true_and] at h
        obtain ⟨e1, _, e2⟩ := num_split n93 n93 h
        injection e2 with _ e2
        obtain ⟨e3, e4⟩ := ih r r' (show Vt n (rd_T24 [x] 0) from h3) (show Vt n (rd_T24 [x'] 0) from g3) e2
        have e5 : x = x' := e3
        subst e1; subst e5
        exact ⟨rfl, e4⟩
      | bool => simp [txT] at h
      | int => simp [txT] at h
      | nat => simp [txT] at h
      | real => simp [txT] at h
      | tup => simp [txT] at h
    | tup _ l h1 h2 h3 h4 =>
      cases hu with
      | tup _ l' g1 g2 g3 g4 =>
        simp only [txT] at h
        rw [if_neg (by omega), if_neg (by omega), if_neg (by omega), if_neg (by omega), if_neg (by omega), if_neg (by omega), if_neg (by omega), if_neg (by omega), if_neg (by omega), if_neg (by omega)] at h
        simp only [List.cons_append, List.append_assoc, List.cons.injEq, true_and, List.nil_append] at h
        obtain ⟨e1, e2⟩ := sepd_inj (P := Vt n) (fun r r' hx hy => ih r r' hx hy) 41 (by decide) l l' (by intro e; rw [e] at h1; simp at h1) (by intro e; rw [e] at g1; simp at g1) h3 g3 r r' h
        subst e1
        exact ⟨rfl, e2⟩
      | bool => simp [txT] at h
      | int => simp [txT] at h
      | nat => simp [txT] at h
      | real => simp [txT] at h
      | lst => simp [txT] at h

end Go.Proofs.YtggelekooacmnaaDoor.Pure
set_option linter.unusedVariables false
set_option linter.unusedSimpArgs false
namespace Go.Proofs.YtggelekooacmnaaDoor.Pure
open Go.RowKit Go.Proofs.YtggelekooacmnaaDoor.Q Go.Proofs.YtggelekooacmnaaDoorW.PrintWords Go.Proofs.YtggelekooacmnaaDoorW.PrintLast Go.Proofs.YtggelekooacmnaaDoorW.PrintMore
-- what types.Format says of a valid type: its text
theorem sepd_join : ∀ xs : List (List UInt8), Lib.join xs [44, 32] = sepd xs
  | [] => rfl
  | [x] => by rw [Lib.join_one]; rfl
  | x :: y :: l => by
    have ih := sepd_join (y :: l)
    rw [Lib.join_cons] at ih ⊢
    simp only [sepd, Lib.joinTail, List.map_cons, List.flatten_cons] at ih ⊢
    rw [← ih]; simp
theorem ba_eq {a : ByteArray} {l : List UInt8} (h : a.data.toList = l) : a = ⟨l.toArray⟩ := by cases a; subst h; simp
theorem ba_size (l : List UInt8) : (⟨l.toArray⟩ : ByteArray).size = l.length := by show l.toArray.size = l.length; simp
theorem itoa_len21 {a : Int} (h0 : -1000 ≤ a) (h1 : a ≤ 1000) : (Go.Lib.itoa a).length ≤ 21 := Lib.itoa_length_le a (by omega) (by omega)
theorem sepd_len {c : Nat} : ∀ xs : List (List UInt8), (∀ x ∈ xs, x.length ≤ c) → (sepd xs).length ≤ xs.length * (c + 2)
  | [], _ => by simp [sepd]
  | [x], h => by have := h x List.mem_cons_self; simp only [sepd, List.length_cons, List.length_nil]; omega
  | x :: y :: l, h => by
    have h1 := h x List.mem_cons_self
    have ih := sepd_len (y :: l) (fun z hz => h z (List.mem_cons_of_mem _ hz))
    simp only [sepd, List.length_append, List.length_cons] at ih ⊢
    rw [Nat.add_mul]
    omega
theorem txT_len (n : Nat) : ∀ {t : S24}, Vt n t → (txT n t).length ≤ 100 * 5 ^ n := by
  induction n with
  | zero => intro t h; cases h
  | succ n ih =>
    intro t h
    have hp : 1 ≤ 5 ^ n := Nat.pos_of_ne_zero (by simp)
    have h5 : 5 ^ (n + 1) = 5 ^ n * 5 := Nat.pow_succ ..
    cases h with
    | bool => simp only [txT]; rw [if_pos trivial]; simp only [List.length_cons, List.length_nil]; omega
    | nat => simp only [txT]; rw [if_neg (by omega), if_neg (by omega), if_pos trivial]; simp only [List.length_cons, List.length_nil]; omega
    | real => simp only [txT]; rw [if_neg (by omega), if_neg (by omega), if_neg (by omega), if_pos trivial]; simp only [List.length_cons, List.length_nil]; omega
    | int _ lo hi h1 h2 h3 =>
      have a1 := itoa_len21 h1 (show lo ≤ 1000 by omega)
      have a2 := itoa_len21 (show -1000 ≤ hi by omega) h3
      simp only [txT]; rw [if_neg (by omega), if_pos trivial]
      simp only [List.length_cons, List.length_append, List.length_nil]; omega
    | lst _ m x h1 h2 h3 h4 =>
      have a1 := itoa_len21 (show -1000 ≤ m by omega) (show m ≤ 1000 by omega)
      have a2 := ih h3
      simp only [txT]; rw [if_neg (by omega), if_neg (by omega), if_neg (by omega), if_neg (by omega), if_pos trivial, rd1]
      simp only [List.length_cons, List.length_append, List.length_nil]; omega
    | tup _ l h1 h2 h3 h4 =>
      have a1 := sepd_len (c := 100 * 5 ^ n) (l.map (txT n)) (by intro x hx; obtain ⟨y, hy, rfl⟩ := List.mem_map.1 hx; exact ih (h3 y hy))
      rw [List.length_map] at a1
      have a2 : l.length * (100 * 5 ^ n + 2) ≤ 4 * (100 * 5 ^ n + 2) := Nat.mul_le_mul_right _ h2
      simp only [txT]; rw [if_neg (by omega), if_neg (by omega), if_neg (by omega), if_neg (by omega), if_neg (by omega)]
      simp only [List.length_cons, List.length_append, List.length_nil]; omega
theorem txT_len10 {n : Nat} (hn : n ≤ 10) {t : S24} (h : Vt n t) : (txT n t).length ≤ 1000000000 :=
  Nat.le_trans (txT_len n h) (Nat.le_trans (Nat.mul_le_mul_left 100 (Nat.pow_le_pow_right (by omega) hn)) (by decide))
theorem itoa_f {a : Int} (h0 : -1000 ≤ a) (h1 : a ≤ 1000) : strconv_Itoa_71.f a = some ⟨(Go.Lib.itoa a).toArray⟩ := by
  unfold strconv_Itoa_71.f; rw [if_pos (by omega)]
def tB (n : Nat) (t : S24) : ByteArray := ⟨(txT n t).toArray⟩
theorem tB_list (n : Nat) (t : S24) : (tB n t).data.toList = txT n t := by simp [tB]
theorem join_f (xs : List ByteArray) (h : xs.length ≤ 1000) (hb : (sepd (xs.map (·.data.toList))).length ≤ 100000000000) : strings_Join.f xs (⟨#[44, 32]⟩ : ByteArray) = some ⟨(sepd (xs.map (·.data.toList))).toArray⟩ := by
  unfold strings_Join.f
  have e : (⟨#[44, 32]⟩ : ByteArray).data.toList = [44, 32] := rfl
  rw [e, sepd_join, if_pos (by omega)]
theorem map_tB (n : Nat) (l : List S24) : (l.map (tB n)).map (·.data.toList) = l.map (txT n) := by
  rw [List.map_map]; exact List.map_congr_left (fun x _ => tB_list n x)
theorem format_l0 (n : Nat) (hn : n ≤ 9) (l : List S24) (hl : l.length ≤ 4) (hv : ∀ x ∈ l, Vt n x) (ih : ∀ t ∈ l, Ev (at_ types_format.f t) (tB n t)) :
    ∀ (d i : Nat), i + d = l.length → Ev (fun k => types_format.l0 k ((l.take i).map (tB n)) l l.length i) ⟨(40 :: (sepd (l.map (txT n)) ++ [41])).toArray⟩ := by
  intro d
  induction d with
  | zero =>
    intro i hi
    refine ⟨1, fun k hk => ?_⟩
    obtain ⟨k, rfl⟩ : ∃ j, k = j + 1 := ⟨k - 1, by omega⟩
    have hs : (sepd (l.map (txT n))).length ≤ 10000000000 := by
      have a1 := sepd_len (c := 1000000000) (l.map (txT n)) (by intro x hx; obtain ⟨y, hy, rfl⟩ := List.mem_map.1 hx; exact txT_len10 (by omega) (hv y hy))
      rw [List.length_map] at a1
      have a2 : l.length * (1000000000 + 2) ≤ 4 * (1000000000 + 2) := Nat.mul_le_mul_right _ hl
      omega
    have hj := join_f (l.map (tB n)) (by rw [List.length_map]; omega) (by rw [map_tB]; omega)
    rw [map_tB] at hj
    simp only [types_format.l0]
    rw [if_neg (by omega), List.take_of_length_le (by omega), hj, Option.bind_some, ba_size, if_pos (by omega)]
    have e2 : ((⟨#[40]⟩ : ByteArray) ++ ⟨(sepd (l.map (txT n))).toArray⟩).size = 1 + (sepd (l.map (txT n))).length := by rw [ByteArray.size_append, ba_size]; rfl
    rw [if_pos (by rw [e2]; omega)]
    first | rfl | (refine congrArg some (ba_eq ?_); simp)
  | succ d IH =>
    intro i hi
    have hlt : i < l.length := by omega
    obtain ⟨K1, e1⟩ := ih l[i] (List.getElem_mem hlt)
    obtain ⟨K2, e2⟩ := IH (i + 1) (by omega)
    refine ⟨max K1 K2 + 1, fun k hk => ?_⟩
    obtain ⟨k, rfl⟩ : ∃ j, k = j + 1 := ⟨k - 1, by omega⟩
    have e1' := e1 k (by omega)
    have e2' := e2 k (by omega)
    unfold at_ at e1'
    dsimp only at e1' e2'
    have ht : (l.take i).map (tB n) ++ [tB n l[i]] = (l.take (i + 1)).map (tB n) := by rw [List.take_succ_eq_append_getElem hlt, List.map_append]; rfl
    simp only [types_format.l0]
    rw [if_pos (by omega), if_pos (by omega), if_pos (by omega), rdT hlt, e1', Option.bind_some, if_pos (by rw [List.length_map, List.length_take]; omega), ht, wrap_nat (by omega), e2']
theorem format_ev (n : Nat) : ∀ {t : S24}, n ≤ 10 → Vt n t → Ev (at_ types_format.f t) (tB n t) := by
  induction n with
  | zero => intro t _ h; cases h
  | succ n ih =>
    intro t hn h
    cases h with
    | bool => refine ⟨1, fun k hk => ?_⟩; obtain ⟨k, rfl⟩ : ∃ j, k = j + 1 := ⟨k - 1, by omega⟩; simp only [at_, types_format.f, tB, txT]; rfl
    | nat => refine ⟨1, fun k hk => ?_⟩; obtain ⟨k, rfl⟩ : ∃ j, k = j + 1 := ⟨k - 1, by omega⟩; simp only [at_, types_format.f, tB, txT]; rfl
    | real => refine ⟨1, fun k hk => ?_⟩; obtain ⟨k, rfl⟩ : ∃ j, k = j + 1 := ⟨k - 1, by omega⟩; simp only [at_, types_format.f, tB, txT]; rfl
    | int _ lo hi h1 h2 h3 =>
      refine ⟨1, fun k hk => ?_⟩
      obtain ⟨k, rfl⟩ : ∃ j, k = j + 1 := ⟨k - 1, by omega⟩
      have a1 := itoa_len21 h1 (show lo ≤ 1000 by omega)
      have a2 := itoa_len21 (show -1000 ≤ hi by omega) h3
      simp only [at_, types_format.f]
      rw [if_neg (by omega), if_pos trivial, itoa_f h1 (by omega), Option.bind_some, itoa_f (by omega) h3, ba_size]
      simp only [ByteArray.size_append, ba_size, lit_size, List.size_toArray, List.length_cons, List.length_nil]
      rw [if_pos (by omega), if_pos (by omega), Option.bind_some]
      simp only [ba_size]
      rw [if_pos (by omega), if_pos (by omega)]
      refine congrArg some (ba_eq ?_)
      simp [txT]
    | lst _ m x h1 h2 h3 h4 =>
      obtain ⟨K, e⟩ := ih (by omega) h3
      refine ⟨K + 1, fun k hk => ?_⟩
      obtain ⟨k, rfl⟩ : ∃ j, k = j + 1 := ⟨k - 1, by omega⟩
      have e' := e k (by omega)
      unfold at_ at e'
      try dsimp only at e'
      have a1 := itoa_len21 (show -1000 ≤ m by omega) (show m ≤ 1000 by omega)
      have a2 := txT_len10 (by omega) h3
      simp only [at_, types_format.f]
      rw [if_neg (by omega), if_neg (by omega), if_neg (by omega), if_neg (by omega), if_pos trivial, itoa_f (by omega) (by omega), Option.bind_some, rdT0 (by simp)]
      simp only [List.getElem_cons_zero]
      rw [e', Option.bind_some]
      have e3 : (tB n x).size = (txT n x).length := ba_size _
      simp only [ByteArray.size_append, ba_size, lit_size, List.size_toArray, List.length_cons, List.length_nil, e3]
      rw [if_pos (by omega), if_pos (by omega), if_pos (by omega), if_pos (by omega)]
      refine congrArg some (ba_eq ?_)
      simp [txT, rd1, tB]
    | tup _ l h1 h2 h3 h4 =>
      obtain ⟨K, e⟩ := format_l0 n (by omega) l h2 h3 (fun t ht => ih (by omega) (h3 t ht)) l.length 0 (by omega)
      refine ⟨K + 1, fun k hk => ?_⟩
      obtain ⟨k, rfl⟩ : ∃ j, k = j + 1 := ⟨k - 1, by omega⟩
      have e' := e k (by omega)
      try dsimp only at e'
      simp only [at_, types_format.f]
      rw [if_neg (by omega), if_neg (by omega), if_neg (by omega), if_neg (by omega), if_neg (by omega)]
      simpa [tB, txT] using e'
theorem Format_ok {t : S24} (hv : Vt 10 t) (hl : (prt 10 t).length ≤ 24) : Ev (at_ types_Format.f t) (tB 10 t, 0) := by
  obtain ⟨K1, e1⟩ := (validate_ok hv hl).1
  obtain ⟨K2, e2⟩ := format_ev 10 (by omega) hv
  unfold at_ at e1 e2
  refine ⟨K1 + K2, fun k hk => ?_⟩
  simp only [at_, types_Format.f]
  rw [e1 k (by omega), Option.bind_some, if_pos rfl, e2 k (by omega), Option.bind_some]
theorem tB_eq {t u : S24} {n : Nat} (ht : Vt n t) (hu : Vt n u) : ((tB n t).toList == (tB n u).toList) = eqT t u := by
  rw [Lib.toList_data, Lib.toList_data, tB_list, tB_list]
  by_cases h : t = u
  · subst h
    rw [(eqT_iff t t).2 rfl]; simp
  · have h1 : eqT t u = false := by
      cases hq : eqT t u with
      | false => rfl
      | true => exact absurd ((eqT_iff _ _).1 hq) h
    rw [h1]
    refine beq_false_of_ne fun e => h ?_
    exact (txT_inj n [] [] ht hu (by rw [e])).1

end Go.Proofs.YtggelekooacmnaaDoor.Pure
set_option linter.unusedVariables false
set_option linter.unusedSimpArgs false
namespace Go.Proofs.YtggelekooacmnaaDoor.Pure
open Go.RowKit Go.Proofs.YtggelekooacmnaaDoor.Q Go.Proofs.YtggelekooacmnaaDoorW.PrintWords Go.Proofs.YtggelekooacmnaaDoorW.PrintLast Go.Proofs.YtggelekooacmnaaDoorW.PrintMore
-- what the reference's Equal says
theorem eqR_l0 (n : Nat) (l m : List S24) (hl : l.length = m.length) (h : l.length ≤ 1000) (a0 a1 a2 a3 b0 b1 b2 b3 : Int)
    (ih : ∀ x ∈ l, ∀ y, Ev (fun k => exactpplref06_Equal.f k x.f0 x.f1 x.f2 x.f3 x.f4 y.f0 y.f1 y.f2 y.f3 y.f4) (eqT x y)) :
    ∀ (d i : Nat), i + d = l.length → Ev (fun k => exactpplref06_Equal.l0 k i a0 a1 a2 a3 l b0 b1 b2 b3 m) (eqTs (l.drop i) (m.drop i)) := by
  intro d
  induction d with
  | zero =>
    intro i hi
    refine ⟨1, fun k hk => ?_⟩
    obtain ⟨k, rfl⟩ : ∃ j, k = j + 1 := ⟨k - 1, by omega⟩
    simp only [exactpplref06_Equal.l0]
    rw [if_neg (by omega), List.drop_eq_nil_of_le (by omega), List.drop_eq_nil_of_le (by omega)]
    simp [eqTs]
  | succ d IH =>
    intro i hi
    have hlt : i < l.length := by omega
    have hlm : i < m.length := by omega
    obtain ⟨K1, e1⟩ := ih l[i] (List.getElem_mem hlt) m[i]
    obtain ⟨K2, e2⟩ := IH (i + 1) (by omega)
    refine ⟨max K1 K2 + 1, fun k hk => ?_⟩
    obtain ⟨k, rfl⟩ : ∃ j, k = j + 1 := ⟨k - 1, by omega⟩
    have e1' := e1 k (by omega)
    have e2' := e2 k (by omega)
    dsimp only at e1' e2'
    simp only [exactpplref06_Equal.l0]
    rw [if_pos (by omega), if_pos (by omega), if_pos (by omega), rdT hlt, rdT hlm, e1', Option.bind_some, wrap_nat (by omega), e2', List.drop_eq_getElem_cons hlt, List.drop_eq_getElem_cons hlm]
    have q : eqTs (l[i] :: l.drop (i + 1)) (m[i] :: m.drop (i + 1)) = (eqT l[i] m[i] && eqTs (l.drop (i + 1)) (m.drop (i + 1))) := by rw [eqTs]
    rw [q]
    cases eqT l[i] m[i] <;> simp
theorem eqR_ev (n : Nat) : ∀ (x y : S24), n ≤ 1000 → Bd n x → Ev (fun k => exactpplref06_Equal.f k x.f0 x.f1 x.f2 x.f3 x.f4 y.f0 y.f1 y.f2 y.f3 y.f4) (eqT x y) := by
  induction n with
  | zero => intro x y _ h; exact h.elim
  | succ n ih =>
    intro x y hn hb
    obtain ⟨a0, a1, a2, a3, l⟩ := x
    obtain ⟨b0, b1, b2, b3, m⟩ := y
    dsimp only
    have hE : eqT ⟨a0, a1, a2, a3, l⟩ ⟨b0, b1, b2, b3, m⟩ = (a0 == b0 && a1 == b1 && a2 == b2 && a3 == b3 && eqTs l m) := by unfold eqT; rfl
    rw [hE]
    have J : ∀ k c, exactpplref06_Equal.j0 (k + 1) true a0 a1 a2 a3 l b0 b1 b2 b3 m = some c ↔ false = c := by intro k c; simp [exactpplref06_Equal.j0]
    by_cases h0 : a0 = b0
    · by_cases h1 : a1 = b1
      · by_cases h2 : a2 = b2
        · by_cases h3 : a3 = b3
          · by_cases hl : l.length = m.length
            · obtain ⟨K, e⟩ := eqR_l0 n l m hl hb.1 a0 a1 a2 a3 b0 b1 b2 b3 (fun x hx y => ih x y (by omega) (hb.2 x hx)) l.length 0 (by omega)
              refine ⟨K + 2, fun k hk => ?_⟩
              obtain ⟨k, rfl⟩ : ∃ j, k = j + 2 := ⟨k - 2, by omega⟩
              have e' := e k (by omega)
              dsimp only at e'
              simp only [exactpplref06_Equal.f, exactpplref06_Equal.j0]
              rw [if_pos h0, if_pos h1, if_pos h2, if_pos h3, if_neg (by simp [hl])]
              have e3 : ((0 : Nat) : Int) = 0 := rfl
              rw [e3] at e'
              rw [e']
              simp [h0, h1, h2, h3]
            · refine ⟨2, fun k hk => ?_⟩
              obtain ⟨k, rfl⟩ : ∃ j, k = j + 2 := ⟨k - 2, by omega⟩
              simp only [exactpplref06_Equal.f, exactpplref06_Equal.j0]
              rw [if_pos h0, if_pos h1, if_pos h2, if_pos h3, if_pos (by simp; omega), eqTs_len hl]; simp
          · refine ⟨2, fun k hk => ?_⟩
            obtain ⟨k, rfl⟩ : ∃ j, k = j + 2 := ⟨k - 2, by omega⟩
            simp only [exactpplref06_Equal.f]
            rw [if_pos h0, if_pos h1, if_pos h2, if_neg h3]; simp [exactpplref06_Equal.j0, h3]
        · refine ⟨2, fun k hk => ?_⟩
          obtain ⟨k, rfl⟩ : ∃ j, k = j + 2 := ⟨k - 2, by omega⟩
          simp only [exactpplref06_Equal.f]
          rw [if_pos h0, if_pos h1, if_neg h2]; simp [exactpplref06_Equal.j0, h2]
      · refine ⟨2, fun k hk => ?_⟩
        obtain ⟨k, rfl⟩ : ∃ j, k = j + 2 := ⟨k - 2, by omega⟩
        simp only [exactpplref06_Equal.f]
        rw [if_pos h0, if_neg h1]; simp [exactpplref06_Equal.j0, h1]
    · refine ⟨2, fun k hk => ?_⟩
      obtain ⟨k, rfl⟩ : ∃ j, k = j + 2 := ⟨k - 2, by omega⟩
      simp only [exactpplref06_Equal.f]
      rw [if_neg h0]; simp [exactpplref06_Equal.j0, h0]

end Go.Proofs.YtggelekooacmnaaDoor.Pure
set_option linter.unusedVariables false
set_option linter.unusedSimpArgs false
namespace Go.Proofs.YtggelekooacmnaaDoor.Pure
open Go.RowKit Go.Proofs.YtggelekooacmnaaDoor.Q Go.Proofs.YtggelekooacmnaaDoorW.PrintWords Go.Proofs.YtggelekooacmnaaDoorW.PrintLast Go.Proofs.YtggelekooacmnaaDoorW.PrintMore
-- TypesTexts: two valid types have one text just if they are equal
theorem awake_ev : Ev (fun k => exactppllaw06_awake.f k) true := by
  have h : exactppllaw06_awake.f 40 = some true := by kernel_rfl
  refine ⟨40, fun k hk => ?_⟩
  obtain ⟨j, rfl⟩ : ∃ j, k = 40 + j := ⟨k - 40, by omega⟩
  clear hk
  induction j with
  | zero => exact h
  | succ j ih => exact exactppllaw06_awake.mono (40 + j) true ih
theorem texts_j0 {t u : S24} (g1 : Gt 3 t) (g2 : Gt 3 u) : Ev (fun k => exactppllaw06_TypesTexts.j0 k t.f0 t.f1 t.f2 t.f3 t.f4 u.f0 u.f1 u.f2 u.f3 u.f4) true := by
  have v1 : Vt 10 t := Vt.mono (by omega) g1.vt
  have v2 : Vt 10 u := Vt.mono (by omega) g2.vt
  have q1 := g1.prt_len (n := 10) (by omega)
  have q2 := g2.prt_len (n := 10) (by omega)
  simp at q1 q2
  obtain ⟨K1, e1⟩ := Format_ok v1 (by omega)
  obtain ⟨K2, e2⟩ := Format_ok v2 (by omega)
  obtain ⟨K3, e3⟩ := (validate_ok v1 (by omega)).2
  obtain ⟨K4, e4⟩ := (validate_ok v2 (by omega)).2
  obtain ⟨K5, e5⟩ := eqR_ev 10 t u (by omega) v1.bd
  obtain ⟨K0, e0⟩ := awake_ev
  unfold at_ at e1 e2 e3 e4
  dsimp only at e0 e5
  refine ⟨K0 + K1 + K2 + K3 + K4 + K5 + 2, fun k hk => ?_⟩
  obtain ⟨k, rfl⟩ : ∃ j, k = j + 2 := ⟨k - 2, by omega⟩
  have e0' := e0 k (by omega)
  have e1' := e1 (k + 1) (by omega)
  have e2' := e2 (k + 1) (by omega)
  have e3' := e3 (k + 1) (by omega)
  have e4' := e4 (k + 1) (by omega)
  have e5' := e5 k (by omega)
  have hq : types_Equal.f t.f0 t.f1 t.f2 t.f3 t.f4 u.f0 u.f1 u.f2 u.f3 u.f4 = some (eqT t u) := by unfold types_Equal.f; rw [eta_s, eta_s]
  simp only [exactppllaw06_TypesTexts.j0]
  rw [e1', Option.bind_some, e2', Option.bind_some, e3', Option.bind_some, if_pos rfl, e4', Option.bind_some]
  simp only [exactppllaw06_TypesTexts.j1]
  rw [if_neg (by simp), if_pos trivial, if_pos trivial, hq, Option.bind_some, if_pos (by rw [tB_eq v1 v2]; simp), Option.bind_some, e5', Option.bind_some, if_pos (by simp), e0', Option.bind_some]
theorem TypesTexts : exactppllaw06_TypesTexts.Pure := by
  intro l hl _ _
  obtain ⟨eN, r0⟩ := New_ok l
  obtain ⟨t1, p1, ⟨K1, e1⟩, g1, r1⟩ := Type_ev 3 (s := 0) (by omega) (by omega) r0
  obtain ⟨t2, p2, ⟨K2, e2⟩, g2, r2⟩ := Type_ev 3 (s := 0) (by omega) (by omega) r1
  obtain ⟨x, p3, e3, r3, _, _, _⟩ := N_ok (s := 0) (a := 4) r2 (by omega)
  obtain ⟨K4, e4⟩ := texts_j0 g1 g1
  obtain ⟨K5, e5⟩ := texts_j0 g1 g2
  dsimp only at e1 e2 e4 e5
  refine ⟨K1 + K2 + K4 + K5, ?_⟩
  have e1' := e1 (K1 + K2 + K4 + K5) (by omega)
  have e2' := e2 (K1 + K2 + K4 + K5) (by omega)
  have e4' := e4 (K1 + K2 + K4 + K5) (by omega)
  have e5' := e5 (K1 + K2 + K4 + K5) (by omega)
  simp only [Int.natCast_one, Int.cast_ofNat_Int] at e1' e2'
  simp only [exactppllaw06_TypesTexts.f]
  rw [eN, Option.bind_some, e1', Option.bind_some]
  dsimp only
  rw [e2', Option.bind_some]
  dsimp only
  rw [e3, Option.bind_some]
  dsimp only
  by_cases h : x = 0
  · rw [if_pos h, e4']
  · rw [if_neg h, e5']

end Go.Proofs.YtggelekooacmnaaDoor.Pure
namespace Go.Proofs.YtggelekooacmnaaDoorW.PrintWords
open Go.ChangeShapes Go.WideShapes
theorem sized_ints {H : Type} {enc : TypeId × Value → H} {P : Program} {W : World} {base : Nat} {spare : Nat → Bool} {held : Bool} {t e : TypeId} {k : IntKind} {a : Option Addr} {len cap : Nat} {d : DataW H} {ps : List MemPlace} {ts : List TypeId} {ds : List (DataW H)} {j : Nat}
    (hsz : (DataW.weightsEach P ts ds).all (· ≤ reachBytes) = true) (ht : ts[j]? = some t) (hd : ds[j]? = some d) (hu : P.underlying t = some (.slice e)) (he : P.underlying e = some (.int k)) (hc : P.cellsOf e = 1) {B : Nat} (hB : P.bytesOf e = B)
    (h : DataW.Trod enc P W base spare held t (.slice a len cap) d ps) : len * B ≤ 140737488351232 := by
  obtain ⟨fuel, hf⟩ := h
  rcases open_ints hu he hc hf with ⟨hcs, _⟩ | ⟨x, l, c, zs, hcs, _, hl, _, hz, hx, _, _⟩
  · simp [Value.cells] at hcs
    obtain ⟨rfl, rfl, rfl⟩ := hcs
    simp
  · simp [Value.cells] at hcs
    obtain ⟨rfl, rfl, rfl⟩ := hcs
    obtain ⟨hx, _⟩ := Prod.mk.inj hx
    subst hx
    have z := sized_slice hsz ht hd hu
    rw [hB] at z
    have hl2 : len ≤ zs.length := by
      rw [hz]
      split
      · exact hl
      · exact Nat.le_refl _
    have h1 : (lits (H := H) k (zs.take len)).length + (lits (H := H) k (zs.drop len)).length = zs.length := by
      simp [lits]
      omega
    rw [h1] at z
    exact Nat.le_trans (Nat.mul_le_mul_right _ hl2) z
end Go.Proofs.YtggelekooacmnaaDoorW.PrintWords
