/- Lemmas for: Proved: the tied card of exactppllaw06.TypesTexts (for every input the law returns true). Conditions: none beyond the given row. -/
import Derived.Test.YtggelekooacmnaaDoorTt2
namespace Go.Proofs.YtggelekooacmnaaDoor.Q
open Go.RowKit Go.Proofs.YtggelekooacmnaaDoorW.PrintWords Go.Proofs.YtggelekooacmnaaDoorW.PrintLast Go.Proofs.YtggelekooacmnaaDoorW.PrintMore
attribute [local go_sem] max2_int min2_int max_two min_two max_three min_three max_four min_four   -- for this text's walks alone
set_option linter.unusedVariables false
set_option linter.unusedSimpArgs false

/-! ### types_Validate: function 12 -/
def types_Validate.f (k : Nat) (a0_0 : Int) (a0_1 : Int) (a0_2 : Int) (a0_3 : Int) (l0_4 : List (S24)) : Option (Int) := (types_depth.f k a0_0 a0_1 a0_2 a0_3 l0_4).bind fun t121 => (if t121 > 10 then (some 9) else ((types_fault.f k a0_0 a0_1 a0_2 a0_3 l0_4).bind fun t122 => (if t122 = 0 then ((types_width.f k a0_0 a0_1 a0_2 a0_3 l0_4).bind fun t123 => (if t123 > 24 then (some 9) else (some 0))) else (some t122))))
theorem types_Validate.mono : ∀ a0 a1 a2 a3 a4 k, LeO (types_Validate.f k a0 a1 a2 a3 a4) (types_Validate.f (k + 1) a0 a1 a2 a3 a4) := by
  intro a0 a1 a2 a3 a4 k
  unfold types_Validate.f
  repeat' first
      | (with_reducible exact types_depth.mono _ _ _ _ _ _)
      | (with_reducible exact types_fault.mono _ _ _ _ _ _)
      | (with_reducible exact types_width.mono _ _ _ _ _ _)
      | (with_reducible exact LeO.refl _)
      | (with_reducible exact LeO.none _)
      | (with_reducible refine LeO.ite ?_ ?_)
      | (with_reducible refine LeO.bind ?_ (fun _ => ?_))
      | exact types_depth.mono _ _ _ _ _ _
      | exact types_fault.mono _ _ _ _ _ _
      | exact types_width.mono _ _ _ _ _ _
      | exact LeO.none _
      | refine LeO.ite ?_ ?_
      | refine LeO.bind ?_ (fun _ => ?_)
set_option maxHeartbeats 8000000 in
set_option maxRecDepth 100000 in
theorem types_Validate.calls (k : Nat) (a0_0 : Int) (a0_1 : Int) (a0_2 : Int) (a0_3 : Int) (A0_4 : Option Addr) (c0_4 : Nat) (l0_4 : List (S24)) (r : Int) (w : World) (hr0_4 : Kd.C k24 w A0_4 l0_4.length l0_4) (hc0_4 : l0_4.length ≤ c0_4) (h : types_Validate.f k a0_0 a0_1 a0_2 a0_3 l0_4 = some r) :
    Calls Tryd.prog 12 #[.agg #[.int .i64 a0_0, .int .i64 a0_1, .int .i64 a0_2, .int .i64 a0_3, .slice A0_4 l0_4.length c0_4]] w fun e w' => e = .returned (.int .i64 r) ∧ Below w.heap.size w w' := by
  have hu24 := Tryd.underlying24
  have HR0_4 := Aside0.mk hr0_4
  have HC0_4 := Aside0.mk hc0_4
  clear hr0_4 hc0_4
  have HB := Aside0.mk (Below.refl w.heap.size w)
  have H : ((types_depth.f k a0_0 a0_1 a0_2 a0_3 l0_4).bind fun t121 => (if t121 > 10 then (some 9) else ((types_fault.f k a0_0 a0_1 a0_2 a0_3 l0_4).bind fun t122 => (if t122 = 0 then ((types_width.f k a0_0 a0_1 a0_2 a0_3 l0_4).bind fun t123 => (if t123 > 24 then (some 9) else (some 0))) else (some t122))))) = some r := h
  clear h
  replace H := Option.bind_eq_some_iff.mp H
  obtain ⟨t121, A20, H⟩ := H
  replace H : (if t121 > 10 then (some 9) else ((types_fault.f k a0_0 a0_1 a0_2 a0_3 l0_4).bind fun t122 => (if t122 = 0 then ((types_width.f k a0_0 a0_1 a0_2 a0_3 l0_4).bind fun t123 => (if t123 > 24 then (some 9) else (some 0))) else (some t122)))) = some r := H
  have A2 := Aside0.mk A20
  clear A20
  by_cases c3 : t121 > 10
  · rw [if_pos c3] at H
    have c3b0 : decide (10 < t121) = true := decide_eq_true c3
    clear c3
    obtain rfl := Option.some.inj H
    go_enter Tryd.func12, Tryd.ntmps12
    go_wp2_with (first | ((with_reducible refine gate_dst (N := 1) rfl ?_); refine box_event ?hg (N := 1) ?hd (cs := #[.int .i64 a0_0, .int .i64 a0_1, .int .i64 a0_2, .int .i64 a0_3, .slice A0_4 l0_4.length c0_4]) (t := 24) ?hr ?_; (case hd => rfl); (case hg => rfl); (case hr => first | (go_simp; done) | (go_simp; rfl)); intro gb120 hg w4 hbox hb; have n0_ := Aside0.mk (below_step (by repeat (first | (with_reducible first | exact HB.out | apply below_alloc | apply pw_below_drewN | apply below_drew1) | exact HB.out)) hb); have n1_ := Aside0.mk (hbox); have n2_ := Aside0.mk ((by rw [hg]; exact (below_size (by repeat (first | (with_reducible first | exact HB.out | apply below_alloc | apply pw_below_drewN | apply below_drew1) | exact HB.out))) : w.heap.size ≤ gb120)); have n3_ := Aside0.mk ((by rw [hg]; exact (below_size (by repeat (first | (with_reducible first | exact HB.out | apply below_alloc | apply pw_below_drewN | apply below_drew1) | exact HB.out))) : w.heap.size ≤ gb120)); clear HB; have HB := n0_; have BK120 := n1_; have GW120 := n2_; have GE120 := n3_; clear n0_ n1_ n2_ n3_; clear hb hbox hg; have hcz5_0 : w4.cell? ⟨gb120, 0, none⟩ = some (.int .i64 a0_0) := (blk_cell BK120.out 0).trans rfl; have hcz5_1 : w4.cell? ⟨gb120, 1, none⟩ = some (.int .i64 a0_1) := (blk_cell BK120.out 1).trans rfl; have hcz5_2 : w4.cell? ⟨gb120, 2, none⟩ = some (.int .i64 a0_2) := (blk_cell BK120.out 2).trans rfl; have hcz5_3 : w4.cell? ⟨gb120, 3, none⟩ = some (.int .i64 a0_3) := (blk_cell BK120.out 3).trans rfl; have hcz5_4 : w4.cell? ⟨gb120, 4, none⟩ = some (.slice A0_4 l0_4.length c0_4) := (blk_cell BK120.out 4).trans rfl; have hfz5_0 := blk_frozen BK120.out 0; have hfz5_1 := blk_frozen BK120.out 1; have hfz5_2 := blk_frozen BK120.out 2; have hfz5_3 := blk_frozen BK120.out 3; have hfz5_4 := blk_frozen BK120.out 4) | ((with_reducible refine gate_callee (f := 38) rfl ?_); refine goesL_ (some 5) rfl rfl Tryd.func38 (by kernel_rfl) rfl #[.agg #[.int .i64 a0_0, .int .i64 a0_1, .int .i64 a0_2, .int .i64 a0_3, .slice A0_4 l0_4.length c0_4]] rfl (by (try simp only [List.map_toArray, List.map_cons, List.map_nil]); first | done | rfl | (simp only [List.length_drop, List.length_take]; rfl)) ?_; (with_reducible refine (types_depth.calls k a0_0 a0_1 a0_2 a0_3 _ _ l0_4 t121 _ ?side1 ?side2 A2.out).mono ?_); (case side1 => repeat (first | exact (Kd.C_below HR0_4.out HB.out) | (with_reducible refine Kd.C_alloc ?_ _) | (with_reducible refine Kd.C_drewN ?_ _) | (with_reducible refine Kd.C_drew ?_))); (case side2 => exact HC0_4.out); rintro e w6 ⟨rfl, hb⟩; refine ⟨_, rfl, ?_⟩; have n0_ := Aside0.mk (blk_below (g := gb120) (o := .cells #[.int .i64 a0_0, .int .i64 a0_1, .int .i64 a0_2, .int .i64 a0_3, .slice A0_4 l0_4.length c0_4] 24 (0, 0)) (by (with_reducible repeat (first | refine blk_drewN ?_ _ | refine blk_drew ?_ | refine blk_alloc ?_ _)); exact BK120.out) hb); have n1_ := Aside0.mk (below_step (by repeat (first | (with_reducible first | exact HB.out | apply below_alloc | apply pw_below_drewN | apply below_drew1 | refine below_set ?_ GE120.out) | exact HB.out)) hb); clear BK120; clear HB; have BK120 := n0_; have HB := n1_; clear n0_ n1_; (try clear hb); (try clear hb2); (try clear hk); (try clear hi)))
    go_ret
    exact ⟨by first | rfl | (simp [errW_none, errW_some] <;> rfl) | (simp [*, errW_none, errW_some] <;> rfl), by repeat (first | (with_reducible first | exact HB.out | apply below_alloc | apply pw_below_drewN | apply below_drew1 | refine below_set ?_ GE120.out) | exact HB.out)⟩
  · rw [if_neg c3] at H
    have c3b0 : decide (10 < t121) = false := decide_eq_false c3
    clear c3
    replace H := Option.bind_eq_some_iff.mp H
    obtain ⟨t122, A70, H⟩ := H
    replace H : (if t122 = 0 then ((types_width.f k a0_0 a0_1 a0_2 a0_3 l0_4).bind fun t123 => (if t123 > 24 then (some 9) else (some 0))) else (some t122)) = some r := H
    have A7 := Aside0.mk A70
    clear A70
    by_cases c8 : t122 = 0
    · rw [if_pos c8] at H
      have c8b0 : (t122 == 0) = true := beq_iff_eq.mpr c8
      have c8b1 : (t122 != 0) = false := bne_eq_false_iff_eq.mpr c8
      clear c8
      replace H := Option.bind_eq_some_iff.mp H
      obtain ⟨t123, A90, H⟩ := H
      replace H : (if t123 > 24 then (some 9) else (some 0)) = some r := H
      have A9 := Aside0.mk A90
      clear A90
      by_cases c10 : t123 > 24
      · rw [if_pos c10] at H
        have c10b0 : decide (24 < t123) = true := decide_eq_true c10
        clear c10
        obtain rfl := Option.some.inj H
        go_enter Tryd.func12, Tryd.ntmps12
        go_wp2_with (first | ((with_reducible refine gate_dst (N := 1) rfl ?_); refine box_event ?hg (N := 1) ?hd (cs := #[.int .i64 a0_0, .int .i64 a0_1, .int .i64 a0_2, .int .i64 a0_3, .slice A0_4 l0_4.length c0_4]) (t := 24) ?hr ?_; (case hd => rfl); (case hg => rfl); (case hr => first | (go_simp; done) | (go_simp; rfl)); intro gb120 hg w11 hbox hb; have n0_ := Aside0.mk (below_step (by repeat (first | (with_reducible first | exact HB.out | apply below_alloc | apply pw_below_drewN | apply below_drew1) | exact HB.out)) hb); have n1_ := Aside0.mk (hbox); have n2_ := Aside0.mk ((by rw [hg]; exact (below_size (by repeat (first | (with_reducible first | exact HB.out | apply below_alloc | apply pw_below_drewN | apply below_drew1) | exact HB.out))) : w.heap.size ≤ gb120)); have n3_ := Aside0.mk ((by rw [hg]; exact (below_size (by repeat (first | (with_reducible first | exact HB.out | apply below_alloc | apply pw_below_drewN | apply below_drew1) | exact HB.out))) : w.heap.size ≤ gb120)); clear HB; have HB := n0_; have BK120 := n1_; have GW120 := n2_; have GE120 := n3_; clear n0_ n1_ n2_ n3_; clear hb hbox hg; have hcz12_0 : w11.cell? ⟨gb120, 0, none⟩ = some (.int .i64 a0_0) := (blk_cell BK120.out 0).trans rfl; have hcz12_1 : w11.cell? ⟨gb120, 1, none⟩ = some (.int .i64 a0_1) := (blk_cell BK120.out 1).trans rfl; have hcz12_2 : w11.cell? ⟨gb120, 2, none⟩ = some (.int .i64 a0_2) := (blk_cell BK120.out 2).trans rfl; have hcz12_3 : w11.cell? ⟨gb120, 3, none⟩ = some (.int .i64 a0_3) := (blk_cell BK120.out 3).trans rfl; have hcz12_4 : w11.cell? ⟨gb120, 4, none⟩ = some (.slice A0_4 l0_4.length c0_4) := (blk_cell BK120.out 4).trans rfl; have hfz12_0 := blk_frozen BK120.out 0; have hfz12_1 := blk_frozen BK120.out 1; have hfz12_2 := blk_frozen BK120.out 2; have hfz12_3 := blk_frozen BK120.out 3; have hfz12_4 := blk_frozen BK120.out 4) | ((with_reducible refine gate_callee (f := 38) rfl ?_); refine goesL_ (some 5) rfl rfl Tryd.func38 (by kernel_rfl) rfl #[.agg #[.int .i64 a0_0, .int .i64 a0_1, .int .i64 a0_2, .int .i64 a0_3, .slice A0_4 l0_4.length c0_4]] rfl (by (try simp only [List.map_toArray, List.map_cons, List.map_nil]); first | done | rfl | (simp only [List.length_drop, List.length_take]; rfl)) ?_; (with_reducible refine (types_depth.calls k a0_0 a0_1 a0_2 a0_3 _ _ l0_4 t121 _ ?side1 ?side2 A2.out).mono ?_); (case side1 => repeat (first | exact (Kd.C_below HR0_4.out HB.out) | (with_reducible refine Kd.C_alloc ?_ _) | (with_reducible refine Kd.C_drewN ?_ _) | (with_reducible refine Kd.C_drew ?_))); (case side2 => exact HC0_4.out); rintro e w13 ⟨rfl, hb⟩; refine ⟨_, rfl, ?_⟩; have n0_ := Aside0.mk (blk_below (g := gb120) (o := .cells #[.int .i64 a0_0, .int .i64 a0_1, .int .i64 a0_2, .int .i64 a0_3, .slice A0_4 l0_4.length c0_4] 24 (0, 0)) (by (with_reducible repeat (first | refine blk_drewN ?_ _ | refine blk_drew ?_ | refine blk_alloc ?_ _)); exact BK120.out) hb); have n1_ := Aside0.mk (below_step (by repeat (first | (with_reducible first | exact HB.out | apply below_alloc | apply pw_below_drewN | apply below_drew1 | refine below_set ?_ GE120.out) | exact HB.out)) hb); clear BK120; clear HB; have BK120 := n0_; have HB := n1_; clear n0_ n1_; (try clear hb); (try clear hb2); (try clear hk); (try clear hi); have hcz14_0 : w13.cell? ⟨gb120, 0, none⟩ = some (.int .i64 a0_0) := (blk_cell BK120.out 0).trans rfl; have hcz14_1 : w13.cell? ⟨gb120, 1, none⟩ = some (.int .i64 a0_1) := (blk_cell BK120.out 1).trans rfl; have hcz14_2 : w13.cell? ⟨gb120, 2, none⟩ = some (.int .i64 a0_2) := (blk_cell BK120.out 2).trans rfl; have hcz14_3 : w13.cell? ⟨gb120, 3, none⟩ = some (.int .i64 a0_3) := (blk_cell BK120.out 3).trans rfl; have hcz14_4 : w13.cell? ⟨gb120, 4, none⟩ = some (.slice A0_4 l0_4.length c0_4) := (blk_cell BK120.out 4).trans rfl; have hfz14_0 := blk_frozen BK120.out 0; have hfz14_1 := blk_frozen BK120.out 1; have hfz14_2 := blk_frozen BK120.out 2; have hfz14_3 := blk_frozen BK120.out 3; have hfz14_4 := blk_frozen BK120.out 4) | ((with_reducible refine gate_callee (f := 39) rfl ?_); refine goesL_ (some 8) rfl rfl Tryd.func39 (by kernel_rfl) rfl #[.agg #[.int .i64 a0_0, .int .i64 a0_1, .int .i64 a0_2, .int .i64 a0_3, .slice A0_4 l0_4.length c0_4]] rfl (by (try simp only [List.map_toArray, List.map_cons, List.map_nil]); first | done | rfl | (simp only [List.length_drop, List.length_take]; rfl)) ?_; (with_reducible refine (types_fault.calls k a0_0 a0_1 a0_2 a0_3 _ _ l0_4 t122 _ ?side1 ?side2 A7.out).mono ?_); (case side1 => repeat (first | exact (Kd.C_below HR0_4.out HB.out) | (with_reducible refine Kd.C_alloc ?_ _) | (with_reducible refine Kd.C_drewN ?_ _) | (with_reducible refine Kd.C_drew ?_))); (case side2 => exact HC0_4.out); rintro e w15 ⟨rfl, hb⟩; refine ⟨_, rfl, ?_⟩; have n0_ := Aside0.mk (blk_below (g := gb120) (o := .cells #[.int .i64 a0_0, .int .i64 a0_1, .int .i64 a0_2, .int .i64 a0_3, .slice A0_4 l0_4.length c0_4] 24 (0, 0)) (by (with_reducible repeat (first | refine blk_drewN ?_ _ | refine blk_drew ?_ | refine blk_alloc ?_ _)); exact BK120.out) hb); have n1_ := Aside0.mk (below_step (by repeat (first | (with_reducible first | exact HB.out | apply below_alloc | apply pw_below_drewN | apply below_drew1 | refine below_set ?_ GE120.out) | exact HB.out)) hb); clear BK120; clear HB; have BK120 := n0_; have HB := n1_; clear n0_ n1_; (try clear hb); (try clear hb2); (try clear hk); (try clear hi); have hcz16_0 : w15.cell? ⟨gb120, 0, none⟩ = some (.int .i64 a0_0) := (blk_cell BK120.out 0).trans rfl; have hcz16_1 : w15.cell? ⟨gb120, 1, none⟩ = some (.int .i64 a0_1) := (blk_cell BK120.out 1).trans rfl; have hcz16_2 : w15.cell? ⟨gb120, 2, none⟩ = some (.int .i64 a0_2) := (blk_cell BK120.out 2).trans rfl; have hcz16_3 : w15.cell? ⟨gb120, 3, none⟩ = some (.int .i64 a0_3) := (blk_cell BK120.out 3).trans rfl; have hcz16_4 : w15.cell? ⟨gb120, 4, none⟩ = some (.slice A0_4 l0_4.length c0_4) := (blk_cell BK120.out 4).trans rfl; have hfz16_0 := blk_frozen BK120.out 0; have hfz16_1 := blk_frozen BK120.out 1; have hfz16_2 := blk_frozen BK120.out 2; have hfz16_3 := blk_frozen BK120.out 3; have hfz16_4 := blk_frozen BK120.out 4) | ((with_reducible refine gate_callee (f := 40) rfl ?_); refine goesL_ (some 13) rfl rfl Tryd.func40 (by kernel_rfl) rfl #[.agg #[.int .i64 a0_0, .int .i64 a0_1, .int .i64 a0_2, .int .i64 a0_3, .slice A0_4 l0_4.length c0_4]] rfl (by (try simp only [List.map_toArray, List.map_cons, List.map_nil]); first | done | rfl | (simp only [List.length_drop, List.length_take]; rfl)) ?_; (with_reducible refine (types_width.calls k a0_0 a0_1 a0_2 a0_3 _ _ l0_4 t123 _ ?side1 ?side2 A9.out).mono ?_); (case side1 => repeat (first | exact (Kd.C_below HR0_4.out HB.out) | (with_reducible refine Kd.C_alloc ?_ _) | (with_reducible refine Kd.C_drewN ?_ _) | (with_reducible refine Kd.C_drew ?_))); (case side2 => exact HC0_4.out); rintro e w17 ⟨rfl, hb⟩; refine ⟨_, rfl, ?_⟩; have n0_ := Aside0.mk (blk_below (g := gb120) (o := .cells #[.int .i64 a0_0, .int .i64 a0_1, .int .i64 a0_2, .int .i64 a0_3, .slice A0_4 l0_4.length c0_4] 24 (0, 0)) (by (with_reducible repeat (first | refine blk_drewN ?_ _ | refine blk_drew ?_ | refine blk_alloc ?_ _)); exact BK120.out) hb); have n1_ := Aside0.mk (below_step (by repeat (first | (with_reducible first | exact HB.out | apply below_alloc | apply pw_below_drewN | apply below_drew1 | refine below_set ?_ GE120.out) | exact HB.out)) hb); clear BK120; clear HB; have BK120 := n0_; have HB := n1_; clear n0_ n1_; (try clear hb); (try clear hb2); (try clear hk); (try clear hi)))
        go_ret
        exact ⟨by first | rfl | (simp [errW_none, errW_some] <;> rfl) | (simp [*, errW_none, errW_some] <;> rfl), by repeat (first | (with_reducible first | exact HB.out | apply below_alloc | apply pw_below_drewN | apply below_drew1 | refine below_set ?_ GE120.out) | exact HB.out)⟩
      · rw [if_neg c10] at H
        have c10b0 : decide (24 < t123) = false := decide_eq_false c10
        clear c10
        obtain rfl := Option.some.inj H
        go_enter Tryd.func12, Tryd.ntmps12
        go_wp2_with (first | ((with_reducible refine gate_dst (N := 1) rfl ?_); refine box_event ?hg (N := 1) ?hd (cs := #[.int .i64 a0_0, .int .i64 a0_1, .int .i64 a0_2, .int .i64 a0_3, .slice A0_4 l0_4.length c0_4]) (t := 24) ?hr ?_; (case hd => rfl); (case hg => rfl); (case hr => first | (go_simp; done) | (go_simp; rfl)); intro gb120 hg w18 hbox hb; have n0_ := Aside0.mk (below_step (by repeat (first | (with_reducible first | exact HB.out | apply below_alloc | apply pw_below_drewN | apply below_drew1) | exact HB.out)) hb); have n1_ := Aside0.mk (hbox); have n2_ := Aside0.mk ((by rw [hg]; exact (below_size (by repeat (first | (with_reducible first | exact HB.out | apply below_alloc | apply pw_below_drewN | apply below_drew1) | exact HB.out))) : w.heap.size ≤ gb120)); have n3_ := Aside0.mk ((by rw [hg]; exact (below_size (by repeat (first | (with_reducible first | exact HB.out | apply below_alloc | apply pw_below_drewN | apply below_drew1) | exact HB.out))) : w.heap.size ≤ gb120)); clear HB; have HB := n0_; have BK120 := n1_; have GW120 := n2_; have GE120 := n3_; clear n0_ n1_ n2_ n3_; clear hb hbox hg; have hcz19_0 : w18.cell? ⟨gb120, 0, none⟩ = some (.int .i64 a0_0) := (blk_cell BK120.out 0).trans rfl; have hcz19_1 : w18.cell? ⟨gb120, 1, none⟩ = some (.int .i64 a0_1) := (blk_cell BK120.out 1).trans rfl; have hcz19_2 : w18.cell? ⟨gb120, 2, none⟩ = some (.int .i64 a0_2) := (blk_cell BK120.out 2).trans rfl; have hcz19_3 : w18.cell? ⟨gb120, 3, none⟩ = some (.int .i64 a0_3) := (blk_cell BK120.out 3).trans rfl; have hcz19_4 : w18.cell? ⟨gb120, 4, none⟩ = some (.slice A0_4 l0_4.length c0_4) := (blk_cell BK120.out 4).trans rfl; have hfz19_0 := blk_frozen BK120.out 0; have hfz19_1 := blk_frozen BK120.out 1; have hfz19_2 := blk_frozen BK120.out 2; have hfz19_3 := blk_frozen BK120.out 3; have hfz19_4 := blk_frozen BK120.out 4) | ((with_reducible refine gate_callee (f := 38) rfl ?_); refine goesL_ (some 5) rfl rfl Tryd.func38 (by kernel_rfl) rfl #[.agg #[.int .i64 a0_0, .int .i64 a0_1, .int .i64 a0_2, .int .i64 a0_3, .slice A0_4 l0_4.length c0_4]] rfl (by (try simp only [List.map_toArray, List.map_cons, List.map_nil]); first | done | rfl | (simp only [List.length_drop, List.length_take]; rfl)) ?_; (with_reducible refine (types_depth.calls k a0_0 a0_1 a0_2 a0_3 _ _ l0_4 t121 _ ?side1 ?side2 A2.out).mono ?_); (case side1 => repeat (first | exact (Kd.C_below HR0_4.out HB.out) | (with_reducible refine Kd.C_alloc ?_ _) | (with_reducible refine Kd.C_drewN ?_ _) | (with_reducible refine Kd.C_drew ?_))); (case side2 => exact HC0_4.out); rintro e w20 ⟨rfl, hb⟩; refine ⟨_, rfl, ?_⟩; have n0_ := Aside0.mk (blk_below (g := gb120) (o := .cells #[.int .i64 a0_0, .int .i64 a0_1, .int .i64 a0_2, .int .i64 a0_3, .slice A0_4 l0_4.length c0_4] 24 (0, 0)) (by (with_reducible repeat (first | refine blk_drewN ?_ _ | refine blk_drew ?_ | refine blk_alloc ?_ _)); exact BK120.out) hb); have n1_ := Aside0.mk (below_step (by repeat (first | (with_reducible first | exact HB.out | apply below_alloc | apply pw_below_drewN | apply below_drew1 | refine below_set ?_ GE120.out) | exact HB.out)) hb); clear BK120; clear HB; have BK120 := n0_; have HB := n1_; clear n0_ n1_; (try clear hb); (try clear hb2); (try clear hk); (try clear hi); have hcz21_0 : w20.cell? ⟨gb120, 0, none⟩ = some (.int .i64 a0_0) := (blk_cell BK120.out 0).trans rfl; have hcz21_1 : w20.cell? ⟨gb120, 1, none⟩ = some (.int .i64 a0_1) := (blk_cell BK120.out 1).trans rfl; have hcz21_2 : w20.cell? ⟨gb120, 2, none⟩ = some (.int .i64 a0_2) := (blk_cell BK120.out 2).trans rfl; have hcz21_3 : w20.cell? ⟨gb120, 3, none⟩ = some (.int .i64 a0_3) := (blk_cell BK120.out 3).trans rfl; have hcz21_4 : w20.cell? ⟨gb120, 4, none⟩ = some (.slice A0_4 l0_4.length c0_4) := (blk_cell BK120.out 4).trans rfl; have hfz21_0 := blk_frozen BK120.out 0; have hfz21_1 := blk_frozen BK120.out 1; have hfz21_2 := blk_frozen BK120.out 2; have hfz21_3 := blk_frozen BK120.out 3; have hfz21_4 := blk_frozen BK120.out 4) | ((with_reducible refine gate_callee (f := 39) rfl ?_); refine goesL_ (some 8) rfl rfl Tryd.func39 (by kernel_rfl) rfl #[.agg #[.int .i64 a0_0, .int .i64 a0_1, .int .i64 a0_2, .int .i64 a0_3, .slice A0_4 l0_4.length c0_4]] rfl (by (try simp only [List.map_toArray, List.map_cons, List.map_nil]); first | done | rfl | (simp only [List.length_drop, List.length_take]; rfl)) ?_; (with_reducible refine (types_fault.calls k a0_0 a0_1 a0_2 a0_3 _ _ l0_4 t122 _ ?side1 ?side2 A7.out).mono ?_); (case side1 => repeat (first | exact (Kd.C_below HR0_4.out HB.out) | (with_reducible refine Kd.C_alloc ?_ _) | (with_reducible refine Kd.C_drewN ?_ _) | (with_reducible refine Kd.C_drew ?_))); (case side2 => exact HC0_4.out); rintro e w22 ⟨rfl, hb⟩; refine ⟨_, rfl, ?_⟩; have n0_ := Aside0.mk (blk_below (g := gb120) (o := .cells #[.int .i64 a0_0, .int .i64 a0_1, .int .i64 a0_2, .int .i64 a0_3, .slice A0_4 l0_4.length c0_4] 24 (0, 0)) (by (with_reducible repeat (first | refine blk_drewN ?_ _ | refine blk_drew ?_ | refine blk_alloc ?_ _)); exact BK120.out) hb); have n1_ := Aside0.mk (below_step (by repeat (first | (with_reducible first | exact HB.out | apply below_alloc | apply pw_below_drewN | apply below_drew1 | refine below_set ?_ GE120.out) | exact HB.out)) hb); clear BK120; clear HB; have BK120 := n0_; have HB := n1_; clear n0_ n1_; (try clear hb); (try clear hb2); (try clear hk); (try clear hi); have hcz23_0 : w22.cell? ⟨gb120, 0, none⟩ = some (.int .i64 a0_0) := (blk_cell BK120.out 0).trans rfl; have hcz23_1 : w22.cell? ⟨gb120, 1, none⟩ = some (.int .i64 a0_1) := (blk_cell BK120.out 1).trans rfl; have hcz23_2 : w22.cell? ⟨gb120, 2, none⟩ = some (.int .i64 a0_2) := (blk_cell BK120.out 2).trans rfl; have hcz23_3 : w22.cell? ⟨gb120, 3, none⟩ = some (.int .i64 a0_3) := (blk_cell BK120.out 3).trans rfl; have hcz23_4 : w22.cell? ⟨gb120, 4, none⟩ = some (.slice A0_4 l0_4.length c0_4) := (blk_cell BK120.out 4).trans rfl; have hfz23_0 := blk_frozen BK120.out 0; have hfz23_1 := blk_frozen BK120.out 1; have hfz23_2 := blk_frozen BK120.out 2; have hfz23_3 := blk_frozen BK120.out 3; have hfz23_4 := blk_frozen BK120.out 4) | ((with_reducible refine gate_callee (f := 40) rfl ?_); refine goesL_ (some 13) rfl rfl Tryd.func40 (by kernel_rfl) rfl #[.agg #[.int .i64 a0_0, .int .i64 a0_1, .int .i64 a0_2, .int .i64 a0_3, .slice A0_4 l0_4.length c0_4]] rfl (by (try simp only [List.map_toArray, List.map_cons, List.map_nil]); first | done | rfl | (simp only [List.length_drop, List.length_take]; rfl)) ?_; (with_reducible refine (types_width.calls k a0_0 a0_1 a0_2 a0_3 _ _ l0_4 t123 _ ?side1 ?side2 A9.out).mono ?_); (case side1 => repeat (first | exact (Kd.C_below HR0_4.out HB.out) | (with_reducible refine Kd.C_alloc ?_ _) | (with_reducible refine Kd.C_drewN ?_ _) | (with_reducible refine Kd.C_drew ?_))); (case side2 => exact HC0_4.out); rintro e w24 ⟨rfl, hb⟩; refine ⟨_, rfl, ?_⟩; have n0_ := Aside0.mk (blk_below (g := gb120) (o := .cells #[.int .i64 a0_0, .int .i64 a0_1, .int .i64 a0_2, .int .i64 a0_3, .slice A0_4 l0_4.length c0_4] 24 (0, 0)) (by (with_reducible repeat (first | refine blk_drewN ?_ _ | refine blk_drew ?_ | refine blk_alloc ?_ _)); exact BK120.out) hb); have n1_ := Aside0.mk (below_step (by repeat (first | (with_reducible first | exact HB.out | apply below_alloc | apply pw_below_drewN | apply below_drew1 | refine below_set ?_ GE120.out) | exact HB.out)) hb); clear BK120; clear HB; have BK120 := n0_; have HB := n1_; clear n0_ n1_; (try clear hb); (try clear hb2); (try clear hk); (try clear hi)))
        go_ret
        exact ⟨by first | rfl | (simp [errW_none, errW_some] <;> rfl) | (simp [*, errW_none, errW_some] <;> rfl), by repeat (first | (with_reducible first | exact HB.out | apply below_alloc | apply pw_below_drewN | apply below_drew1 | refine below_set ?_ GE120.out) | exact HB.out)⟩
    · rw [if_neg c8] at H
      have c8b0 : (t122 == 0) = false := beq_eq_false_iff_ne.mpr c8
      have c8b1 : (t122 != 0) = true := bne_iff_ne.mpr c8
      obtain rfl := Option.some.inj H
      go_enter Tryd.func12, Tryd.ntmps12
      go_wp2_with (first | ((with_reducible refine gate_dst (N := 1) rfl ?_); refine box_event ?hg (N := 1) ?hd (cs := #[.int .i64 a0_0, .int .i64 a0_1, .int .i64 a0_2, .int .i64 a0_3, .slice A0_4 l0_4.length c0_4]) (t := 24) ?hr ?_; (case hd => rfl); (case hg => rfl); (case hr => first | (go_simp; done) | (go_simp; rfl)); intro gb120 hg w25 hbox hb; have n0_ := Aside0.mk (below_step (by repeat (first | (with_reducible first | exact HB.out | apply below_alloc | apply pw_below_drewN | apply below_drew1) | exact HB.out)) hb); have n1_ := Aside0.mk (hbox); have n2_ := Aside0.mk ((by rw [hg]; exact (below_size (by repeat (first | (with_reducible first | exact HB.out | apply below_alloc | apply pw_below_drewN | apply below_drew1) | exact HB.out))) : w.heap.size ≤ gb120)); have n3_ := Aside0.mk ((by rw [hg]; exact (below_size (by repeat (first | (with_reducible first | exact HB.out | apply below_alloc | apply pw_below_drewN | apply below_drew1) | exact HB.out))) : w.heap.size ≤ gb120)); clear HB; have HB := n0_; have BK120 := n1_; have GW120 := n2_; have GE120 := n3_; clear n0_ n1_ n2_ n3_; clear hb hbox hg; have hcz26_0 : w25.cell? ⟨gb120, 0, none⟩ = some (.int .i64 a0_0) := (blk_cell BK120.out 0).trans rfl; have hcz26_1 : w25.cell? ⟨gb120, 1, none⟩ = some (.int .i64 a0_1) := (blk_cell BK120.out 1).trans rfl; have hcz26_2 : w25.cell? ⟨gb120, 2, none⟩ = some (.int .i64 a0_2) := (blk_cell BK120.out 2).trans rfl; have hcz26_3 : w25.cell? ⟨gb120, 3, none⟩ = some (.int .i64 a0_3) := (blk_cell BK120.out 3).trans rfl; have hcz26_4 : w25.cell? ⟨gb120, 4, none⟩ = some (.slice A0_4 l0_4.length c0_4) := (blk_cell BK120.out 4).trans rfl; have hfz26_0 := blk_frozen BK120.out 0; have hfz26_1 := blk_frozen BK120.out 1; have hfz26_2 := blk_frozen BK120.out 2; have hfz26_3 := blk_frozen BK120.out 3; have hfz26_4 := blk_frozen BK120.out 4) | ((with_reducible refine gate_callee (f := 38) rfl ?_); refine goesL_ (some 5) rfl rfl Tryd.func38 (by kernel_rfl) rfl #[.agg #[.int .i64 a0_0, .int .i64 a0_1, .int .i64 a0_2, .int .i64 a0_3, .slice A0_4 l0_4.length c0_4]] rfl (by (try simp only [List.map_toArray, List.map_cons, List.map_nil]); first | done | rfl | (simp only [List.length_drop, List.length_take]; rfl)) ?_; (with_reducible refine (types_depth.calls k a0_0 a0_1 a0_2 a0_3 _ _ l0_4 t121 _ ?side1 ?side2 A2.out).mono ?_); (case side1 => repeat (first | exact (Kd.C_below HR0_4.out HB.out) | (with_reducible refine Kd.C_alloc ?_ _) | (with_reducible refine Kd.C_drewN ?_ _) | (with_reducible refine Kd.C_drew ?_))); (case side2 => exact HC0_4.out); rintro e w27 ⟨rfl, hb⟩; refine ⟨_, rfl, ?_⟩; have n0_ := Aside0.mk (blk_below (g := gb120) (o := .cells #[.int .i64 a0_0, .int .i64 a0_1, .int .i64 a0_2, .int .i64 a0_3, .slice A0_4 l0_4.length c0_4] 24 (0, 0)) (by (with_reducible repeat (first | refine blk_drewN ?_ _ | refine blk_drew ?_ | refine blk_alloc ?_ _)); exact BK120.out) hb); have n1_ := Aside0.mk (below_step (by repeat (first | (with_reducible first | exact HB.out | apply below_alloc | apply pw_below_drewN | apply below_drew1 | refine below_set ?_ GE120.out) | exact HB.out)) hb); clear BK120; clear HB; have BK120 := n0_; have HB := n1_; clear n0_ n1_; (try clear hb); (try clear hb2); (try clear hk); (try clear hi); have hcz28_0 : w27.cell? ⟨gb120, 0, none⟩ = some (.int .i64 a0_0) := (blk_cell BK120.out 0).trans rfl; have hcz28_1 : w27.cell? ⟨gb120, 1, none⟩ = some (.int .i64 a0_1) := (blk_cell BK120.out 1).trans rfl; have hcz28_2 : w27.cell? ⟨gb120, 2, none⟩ = some (.int .i64 a0_2) := (blk_cell BK120.out 2).trans rfl; have hcz28_3 : w27.cell? ⟨gb120, 3, none⟩ = some (.int .i64 a0_3) := (blk_cell BK120.out 3).trans rfl; have hcz28_4 : w27.cell? ⟨gb120, 4, none⟩ = some (.slice A0_4 l0_4.length c0_4) := (blk_cell BK120.out 4).trans rfl; have hfz28_0 := blk_frozen BK120.out 0; have hfz28_1 := blk_frozen BK120.out 1; have hfz28_2 := blk_frozen BK120.out 2; have hfz28_3 := blk_frozen BK120.out 3; have hfz28_4 := blk_frozen BK120.out 4) | ((with_reducible refine gate_callee (f := 39) rfl ?_); refine goesL_ (some 8) rfl rfl Tryd.func39 (by kernel_rfl) rfl #[.agg #[.int .i64 a0_0, .int .i64 a0_1, .int .i64 a0_2, .int .i64 a0_3, .slice A0_4 l0_4.length c0_4]] rfl (by (try simp only [List.map_toArray, List.map_cons, List.map_nil]); first | done | rfl | (simp only [List.length_drop, List.length_take]; rfl)) ?_; (with_reducible refine (types_fault.calls k a0_0 a0_1 a0_2 a0_3 _ _ l0_4 t122 _ ?side1 ?side2 A7.out).mono ?_); (case side1 => repeat (first | exact (Kd.C_below HR0_4.out HB.out) | (with_reducible refine Kd.C_alloc ?_ _) | (with_reducible refine Kd.C_drewN ?_ _) | (with_reducible refine Kd.C_drew ?_))); (case side2 => exact HC0_4.out); rintro e w29 ⟨rfl, hb⟩; refine ⟨_, rfl, ?_⟩; have n0_ := Aside0.mk (blk_below (g := gb120) (o := .cells #[.int .i64 a0_0, .int .i64 a0_1, .int .i64 a0_2, .int .i64 a0_3, .slice A0_4 l0_4.length c0_4] 24 (0, 0)) (by (with_reducible repeat (first | refine blk_drewN ?_ _ | refine blk_drew ?_ | refine blk_alloc ?_ _)); exact BK120.out) hb); have n1_ := Aside0.mk (below_step (by repeat (first | (with_reducible first | exact HB.out | apply below_alloc | apply pw_below_drewN | apply below_drew1 | refine below_set ?_ GE120.out) | exact HB.out)) hb); clear BK120; clear HB; have BK120 := n0_; have HB := n1_; clear n0_ n1_; (try clear hb); (try clear hb2); (try clear hk); (try clear hi)))
      go_ret
      exact ⟨by first | rfl | (simp [errW_none, errW_some] <;> rfl) | (simp [*, errW_none, errW_some] <;> rfl), by repeat (first | (with_reducible first | exact HB.out | apply below_alloc | apply pw_below_drewN | apply below_drew1 | refine below_set ?_ GE120.out) | exact HB.out)⟩

end Go.Proofs.YtggelekooacmnaaDoor.Q
namespace Go.Proofs.YtggelekooacmnaaDoor.Q
open Go.RowKit Go.Proofs.YtggelekooacmnaaDoorW.PrintWords Go.Proofs.YtggelekooacmnaaDoorW.PrintLast Go.Proofs.YtggelekooacmnaaDoorW.PrintMore
attribute [local go_sem] max2_int min2_int max_two min_two max_three min_three max_four min_four   -- for this text's walks alone
set_option linter.unusedVariables false
set_option linter.unusedSimpArgs false

/-! ### strconv_Itoa_71: function 71 -/
def strconv_Itoa_71.f (a0 : Int) : Option ByteArray := if -9223372036854775808 ≤ a0 ∧ a0 ≤ 9223372036854775807 then some ⟨(Lib.itoa a0).toArray⟩ else none
theorem strconv_Itoa_71.calls (a0 : Int) (r : ByteArray) (w : World) (h : strconv_Itoa_71.f a0 = some r) (htab : PowTab w.heap.size w) :
    Calls Tryd.prog 71 #[.int .i64 a0] w fun e w' => e = .returned (.string r) ∧ Below w.heap.size w w' := by
  unfold strconv_Itoa_71.f at h
  by_cases h0 : -9223372036854775808 ≤ a0 ∧ a0 ≤ 9223372036854775807
  · rw [if_pos h0] at h
    obtain rfl := Option.some.inj h
    refine (Tryd.strconv_Itoa a0 h0.1 h0.2 w htab.here).mono ?_
    rintro e w' ⟨rfl, k, os, rfl⟩
    exact ⟨rfl, grow_below_ w k os⟩
  · rw [if_neg h0] at h; cases h

end Go.Proofs.YtggelekooacmnaaDoor.Q
namespace Go.Proofs.YtggelekooacmnaaDoor.Q
open Go.RowKit Go.Proofs.YtggelekooacmnaaDoorW.PrintWords Go.Proofs.YtggelekooacmnaaDoorW.PrintLast Go.Proofs.YtggelekooacmnaaDoorW.PrintMore
attribute [local go_sem] max2_int min2_int max_two min_two max_three min_three max_four min_four   -- for this text's walks alone
set_option linter.unusedVariables false
set_option linter.unusedSimpArgs false

/-! ### strings_Join: function 72 -/
def strings_Join.f (l0 : List ByteArray) (a1 : ByteArray) : Option ByteArray := if l0.length ≤ 140737488355328 ∧ (Lib.join (l0.map (·.data.toList)) a1.data.toList).length ≤ 140737488355328 then some ⟨(Lib.join (l0.map (·.data.toList)) a1.data.toList).toArray⟩ else none
theorem strings_Join.calls (A0 : Option Addr) (c0 : Nat) (l0 : List ByteArray) (a1 : ByteArray) (r : ByteArray) (w : World) (hr0 : Kd.C Kd.string w A0 l0.length l0) (hc0 : l0.length ≤ c0) (h : strings_Join.f l0 a1 = some r) :
    Calls Tryd.prog 72 #[.slice A0 l0.length c0, .string a1] w fun e w' => e = .returned (.string r) ∧ Below w.heap.size w w' := by
  unfold strings_Join.f at h
  by_cases h0 : l0.length ≤ 140737488355328 ∧ (Lib.join (l0.map (·.data.toList)) a1.data.toList).length ≤ 140737488355328
  · rw [if_pos h0] at h
    obtain rfl := Option.some.inj h
    exact join_calls_ A0 c0 l0 a1 w hr0 hc0 h0.1 h0.2
  · rw [if_neg h0] at h; cases h

end Go.Proofs.YtggelekooacmnaaDoor.Q
namespace Go.Proofs.YtggelekooacmnaaDoor.Q
open Go.RowKit Go.Proofs.YtggelekooacmnaaDoorW.PrintWords Go.Proofs.YtggelekooacmnaaDoorW.PrintLast Go.Proofs.YtggelekooacmnaaDoorW.PrintMore
attribute [local go_sem] max2_int min2_int max_two min_two max_three min_three max_four min_four   -- for this text's walks alone
set_option linter.unusedVariables false
set_option linter.unusedSimpArgs false

/-! ### types_format: function 44 -/
mutual
def types_format.l0 : Nat → List ByteArray → List (S24) → Int → Int → Option (ByteArray)
 | 0, _, _, _, _ => none
 | k + 1, x3, x40, x41, x42 => if x42 < x41 then (if 0 ≤ x42 then (if x42 < (x40.length : Int) then ((types_format.f k ((rd_T24 x40 x42).f0) ((rd_T24 x40 x42).f1) ((rd_T24 x40 x42).f2) ((rd_T24 x40 x42).f3) ((rd_T24 x40 x42).f4)).bind fun t196 => (if x3.length < 8796093022208 then (types_format.l0 k (x3 ++ [t196]) x40 x41 (wrap64 (x42 + 1))) else (none))) else (none)) else (none)) else ((strings_Join.f x3 (⟨#[44, 32]⟩ : ByteArray)).bind fun t200 => (if 1 + t200.size ≤ 9223372036854775807 then (if ((⟨#[40]⟩ : ByteArray) ++ t200).size + 1 ≤ 9223372036854775807 then (some (((⟨#[40]⟩ : ByteArray) ++ t200) ++ (⟨#[41]⟩ : ByteArray))) else (none)) else (none)))
def types_format.f : Nat → Int → Int → Int → Int → List (S24) → Option (ByteArray)
 | 0, _, _, _, _, _ => none
 | k + 1, a0_0, a0_1, a0_2, a0_3, l0_4 => if a0_0 = 1 then (some (⟨#[98, 111, 111, 108]⟩ : ByteArray)) else (if a0_0 = 2 then ((strconv_Itoa_71.f a0_1).bind fun t189 => (if 4 + t189.size ≤ 9223372036854775807 then (if ((⟨#[105, 110, 116, 91]⟩ : ByteArray) ++ t189).size + 2 ≤ 9223372036854775807 then ((strconv_Itoa_71.f a0_2).bind fun t190 => (if (((⟨#[105, 110, 116, 91]⟩ : ByteArray) ++ t189) ++ (⟨#[44, 32]⟩ : ByteArray)).size + t190.size ≤ 9223372036854775807 then (if ((((⟨#[105, 110, 116, 91]⟩ : ByteArray) ++ t189) ++ (⟨#[44, 32]⟩ : ByteArray)) ++ t190).size + 1 ≤ 9223372036854775807 then (some (((((⟨#[105, 110, 116, 91]⟩ : ByteArray) ++ t189) ++ (⟨#[44, 32]⟩ : ByteArray)) ++ t190) ++ (⟨#[93]⟩ : ByteArray))) else (none)) else (none))) else (none)) else (none))) else (if a0_0 = 3 then (some (⟨#[110, 97, 116]⟩ : ByteArray)) else (if a0_0 = 4 then (some (⟨#[114, 101, 97, 108]⟩ : ByteArray)) else (if a0_0 = 6 then ((strconv_Itoa_71.f a0_3).bind fun t191 => (if 5 + t191.size ≤ 9223372036854775807 then (if ((⟨#[108, 105, 115, 116, 91]⟩ : ByteArray) ++ t191).size + 2 ≤ 9223372036854775807 then (if 0 < (l0_4.length : Int) then ((types_format.f k ((rd_T24 l0_4 0).f0) ((rd_T24 l0_4 0).f1) ((rd_T24 l0_4 0).f2) ((rd_T24 l0_4 0).f3) ((rd_T24 l0_4 0).f4)).bind fun t193 => (if (((⟨#[108, 105, 115, 116, 91]⟩ : ByteArray) ++ t191) ++ (⟨#[93, 32]⟩ : ByteArray)).size + t193.size ≤ 9223372036854775807 then (some ((((⟨#[108, 105, 115, 116, 91]⟩ : ByteArray) ++ t191) ++ (⟨#[93, 32]⟩ : ByteArray)) ++ t193)) else (none))) else (none)) else (none)) else (none))) else (types_format.l0 k ([] : List ByteArray) l0_4 (l0_4.length : Int) 0)))))
end
theorem types_format.mono_l : ∀ k, (∀ y0 y1 y2 y3 y4, LeO (types_format.f k y0 y1 y2 y3 y4) (types_format.f (k + 1) y0 y1 y2 y3 y4)) ∧ (∀ y0 y1 y2 y3, LeO (types_format.l0 k y0 y1 y2 y3) (types_format.l0 (k + 1) y0 y1 y2 y3))
 | 0 => ⟨fun _ _ _ _ _ r h => by simp [types_format.f] at h, fun _ _ _ _ r h => by simp [types_format.l0] at h⟩
 | k + 1 => by
  obtain ⟨ih0, ih1⟩ := types_format.mono_l k
  refine ⟨?_, ?_⟩
  ·intro y0 y1 y2 y3 y4
   unfold types_format.f
   repeat' first
   | (with_reducible exact ih0 _ _ _ _ _)
   | (with_reducible exact ih1 _ _ _ _)
   | (with_reducible exact LeO.refl _)
   | (with_reducible exact LeO.none _)
   | (with_reducible refine LeO.ite ?_ ?_)
   | (with_reducible refine LeO.bind ?_ (fun _ => ?_))
   | exact ih0 _ _ _ _ _
   | exact ih1 _ _ _ _
   | exact LeO.none _
   | refine LeO.ite ?_ ?_
   | refine LeO.bind ?_ (fun _ => ?_)
  ·intro y0 y1 y2 y3
   unfold types_format.l0
   repeat' first
   | (with_reducible exact ih0 _ _ _ _ _)
   | (with_reducible exact ih1 _ _ _ _)
   | (with_reducible exact LeO.refl _)
   | (with_reducible exact LeO.none _)
   | (with_reducible refine LeO.ite ?_ ?_)
   | (with_reducible refine LeO.bind ?_ (fun _ => ?_))
   | exact ih0 _ _ _ _ _
   | exact ih1 _ _ _ _
   | exact LeO.none _
   | refine LeO.ite ?_ ?_
   | refine LeO.bind ?_ (fun _ => ?_)
theorem types_format.mono : ∀ a0 a1 a2 a3 a4 k, LeO (types_format.f k a0 a1 a2 a3 a4) (types_format.f (k + 1) a0 a1 a2 a3 a4) := by
 intro a0 a1 a2 a3 a4 k
 obtain ⟨ih0, ih1⟩ := types_format.mono_l k
 exact ih0 a0 a1 a2 a3 a4
def types_format.T5 : Bool × List (List Nat × List Nat) := (true, [([], []), ([0], [0]), ([1], [1]), ([2], [2]), ([3], [3]), ([], []), ([5], [5]), ([6, 2], [6]), ([4, 7], [4, 7]), ([8], [8]), ([9, 7, 0, 1, 2, 3, 4, 5, 6, 7, 8, 9], [9])])
def types_format.B5 : List Nat := [0, 1, 3, 7, 15, 0, 32, 103, 255, 511, 1023]
theorem types_format.tab5 : rtab .any (opsOf Tryd.f44 5) = types_format.T5 := by kernel_rfl
theorem types_format.bits5 : waitsOk types_format.T5.2 types_format.B5 = true := by kernel_rfl
def types_format.T11 : Bool × List (List Nat × List Nat) := (true, [([], []), ([0], [0]), ([1], [1]), ([2], [2]), ([3], [3]), ([], []), ([5], [5]), ([6], [6]), ([7], [7]), ([8, 2], [8]), ([4, 9], [4, 9]), ([10, 9, 0, 1, 2, 3, 4, 5, 6, 7, 8, 9, 10], [10])])
def types_format.B11 : List Nat := [0, 1, 3, 7, 15, 0, 32, 96, 224, 487, 1023, 2047]
theorem types_format.tab11 : rtab .any (opsOf Tryd.f44 11) = types_format.T11 := by kernel_rfl
theorem types_format.bits11 : waitsOk types_format.T11.2 types_format.B11 = true := by kernel_rfl
set_option maxHeartbeats 8000000 in
set_option maxRecDepth 100000 in
theorem types_format.calls (k : Nat) : ∀ (a0_0 : Int) (a0_1 : Int) (a0_2 : Int) (a0_3 : Int) (A0_4 : Option Addr) (c0_4 : Nat) (l0_4 : List (S24)) (r : ByteArray) (w : World) (hr0_4 : Kd.C k24 w A0_4 l0_4.length l0_4) (hc0_4 : l0_4.length ≤ c0_4) (h : types_format.f k a0_0 a0_1 a0_2 a0_3 l0_4 = some r) (htab : PowTab w.heap.size w),
  Calls Tryd.prog 44 #[.agg #[.int .i64 a0_0, .int .i64 a0_1, .int .i64 a0_2, .int .i64 a0_3, .slice A0_4 l0_4.length c0_4]] w fun e w' => e = .returned (.string r) ∧ Below w.heap.size w w' := by
 induction k using Nat.strongRecOn with
 | _ k ih =>
 intro a0_0 a0_1 a0_2 a0_3 A0_4 c0_4 l0_4 r w hr0_4 hc0_4 h htab
 have HTAB := Aside0.mk htab
 clear htab
 cases k with
 | zero => exact absurd h (by simp [types_format.f])
 | succ k =>
 simp only [types_format.f] at h
 have hu24 := Tryd.underlying24
 have HR0_4 := Aside0.mk hr0_4
 have HC0_4 := Aside0.mk hc0_4
 clear hr0_4 hc0_4
 have HB := Aside0.mk (Below.refl w.heap.size w)
 have H : (if a0_0 = 1 then (some (⟨#[98, 111, 111, 108]⟩ : ByteArray)) else (if a0_0 = 2 then ((strconv_Itoa_71.f a0_1).bind fun t189 => (if 4 + t189.size ≤ 9223372036854775807 then (if ((⟨#[105, 110, 116, 91]⟩ : ByteArray) ++ t189).size + 2 ≤ 9223372036854775807 then ((strconv_Itoa_71.f a0_2).bind fun t190 => (if (((⟨#[105, 110, 116, 91]⟩ : ByteArray) ++ t189) ++ (⟨#[44, 32]⟩ : ByteArray)).size + t190.size ≤ 9223372036854775807 then (if ((((⟨#[105, 110, 116, 91]⟩ : ByteArray) ++ t189) ++ (⟨#[44, 32]⟩ : ByteArray)) ++ t190).size + 1 ≤ 9223372036854775807 then (some (((((⟨#[105, 110, 116, 91]⟩ : ByteArray) ++ t189) ++ (⟨#[44, 32]⟩ : ByteArray)) ++ t190) ++ (⟨#[93]⟩ : ByteArray))) else (none)) else (none))) else (none)) else (none))) else (if a0_0 = 3 then (some (⟨#[110, 97, 116]⟩ : ByteArray)) else (if a0_0 = 4 then (some (⟨#[114, 101, 97, 108]⟩ : ByteArray)) else (if a0_0 = 6 then ((strconv_Itoa_71.f a0_3).bind fun t191 => (if 5 + t191.size ≤ 9223372036854775807 then (if ((⟨#[108, 105, 115, 116, 91]⟩ : ByteArray) ++ t191).size + 2 ≤ 9223372036854775807 then (if 0 < (l0_4.length : Int) then ((types_format.f k ((rd_T24 l0_4 0).f0) ((rd_T24 l0_4 0).f1) ((rd_T24 l0_4 0).f2) ((rd_T24 l0_4 0).f3) ((rd_T24 l0_4 0).f4)).bind fun t193 => (if (((⟨#[108, 105, 115, 116, 91]⟩ : ByteArray) ++ t191) ++ (⟨#[93, 32]⟩ : ByteArray)).size + t193.size ≤ 9223372036854775807 then (some ((((⟨#[108, 105, 115, 116, 91]⟩ : ByteArray) ++ t191) ++ (⟨#[93, 32]⟩ : ByteArray)) ++ t193)) else (none))) else (none)) else (none)) else (none))) else (types_format.l0 k ([] : List ByteArray) l0_4 (l0_4.length : Int) 0)))))) = some r := h
 clear h
 by_cases c2 : a0_0 = 1
 ·rw [if_pos c2] at H
  have c2b0 : (a0_0 == 1) = true := beq_iff_eq.mpr c2
  have c2b1 : (a0_0 != 1) = false := bne_eq_false_iff_eq.mpr c2
  clear c2
  obtain rfl := Option.some.inj H
  go_enter Tryd.func44, Tryd.ntmps44
  go_wp2_with (first | ((with_reducible refine gate_dst (N := 1) rfl ?_); refine box_event ?hg (N := 1) ?hd (cs := #[.int .i64 a0_0, .int .i64 a0_1, .int .i64 a0_2, .int .i64 a0_3, .slice A0_4 l0_4.length c0_4]) (t := 24) ?hr ?_; (case hd => rfl); (case hg => rfl); (case hr => first | (go_simp; done) | (go_simp; rfl)); intro gb188 hg w3 hbox hb; have BK188 := Aside0.mk (hbox); have GW188 : Aside0 (w.heap.size ≤ gb188) := gw_ hg (below_size bl_); have GE188 := GW188; replace HB := Aside0.mk (below_step bl_ hb); clear hb hbox hg; obtain ⟨hcz4_0, hcz4_1, hcz4_2, hcz4_3, hcz4_4, hfz4_0, hfz4_1, hfz4_2, hfz4_3, hfz4_4⟩ := cf5_ BK188.out))
  go_ret
  exact ⟨re_, bl_⟩
 ·rw [if_neg c2] at H
  have c2b0 : (a0_0 == 1) = false := beq_eq_false_iff_ne.mpr c2
  have c2b1 : (a0_0 != 1) = true := bne_iff_ne.mpr c2
  by_cases c5 : a0_0 = 2
  ·rw [if_pos c5] at H
   have c5b0 : (a0_0 == 2) = true := beq_iff_eq.mpr c5
   have c5b1 : (a0_0 != 2) = false := bne_eq_false_iff_eq.mpr c5
   clear c5
   replace H := Option.bind_eq_some_iff.mp H
   obtain ⟨t189, A60, H⟩ := H
   replace H : (if 4 + t189.size ≤ 9223372036854775807 then (if ((⟨#[105, 110, 116, 91]⟩ : ByteArray) ++ t189).size + 2 ≤ 9223372036854775807 then ((strconv_Itoa_71.f a0_2).bind fun t190 => (if (((⟨#[105, 110, 116, 91]⟩ : ByteArray) ++ t189) ++ (⟨#[44, 32]⟩ : ByteArray)).size + t190.size ≤ 9223372036854775807 then (if ((((⟨#[105, 110, 116, 91]⟩ : ByteArray) ++ t189) ++ (⟨#[44, 32]⟩ : ByteArray)) ++ t190).size + 1 ≤ 9223372036854775807 then (some (((((⟨#[105, 110, 116, 91]⟩ : ByteArray) ++ t189) ++ (⟨#[44, 32]⟩ : ByteArray)) ++ t190) ++ (⟨#[93]⟩ : ByteArray))) else (none)) else (none))) else (none)) else (none)) = some r := H
   have A6 := Aside0.mk A60
   clear A60
   by_cases c7 : 4 + t189.size ≤ 9223372036854775807
   ·rw [if_pos c7] at H
    have c7b0 := eq_true c7
    have c7b1 : decide (4 + t189.size ≤ 9223372036854775807) = true := decide_eq_true c7
    try have c7b2 : (9223372036854775807 < 4 + t189.size) = False := eq_false (Nat.not_lt.2 c7)
    by_cases c8 : ((⟨#[105, 110, 116, 91]⟩ : ByteArray) ++ t189).size + 2 ≤ 9223372036854775807
    ·rw [if_pos c8] at H
     have c8b0 := eq_true c8
     have c8b1 : decide (((⟨#[105, 110, 116, 91]⟩ : ByteArray) ++ t189).size + 2 ≤ 9223372036854775807) = true := decide_eq_true c8
     try have c8b2 : (9223372036854775807 < ((⟨#[105, 110, 116, 91]⟩ : ByteArray) ++ t189).size + 2) = False := eq_false (Nat.not_lt.2 c8)
     have c8b9 : (9223372036854775807 < 4 + t189.size + 2) = False := by have h := c8; simp only [ByteArray.size_append, lit_size, List.size_toArray, List.length_cons, List.length_nil] at h; exact eq_false (by omega)
     replace H := Option.bind_eq_some_iff.mp H
     obtain ⟨t190, A90, H⟩ := H
     replace H : (if (((⟨#[105, 110, 116, 91]⟩ : ByteArray) ++ t189) ++ (⟨#[44, 32]⟩ : ByteArray)).size + t190.size ≤ 9223372036854775807 then (if ((((⟨#[105, 110, 116, 91]⟩ : ByteArray) ++ t189) ++ (⟨#[44, 32]⟩ : ByteArray)) ++ t190).size + 1 ≤ 9223372036854775807 then (some (((((⟨#[105, 110, 116, 91]⟩ : ByteArray) ++ t189) ++ (⟨#[44, 32]⟩ : ByteArray)) ++ t190) ++ (⟨#[93]⟩ : ByteArray))) else (none)) else (none)) = some r := H
     have A9 := Aside0.mk A90
     clear A90
     by_cases c10 : (((⟨#[105, 110, 116, 91]⟩ : ByteArray) ++ t189) ++ (⟨#[44, 32]⟩ : ByteArray)).size + t190.size ≤ 9223372036854775807
     ·rw [if_pos c10] at H
      have c10b0 := eq_true c10
      have c10b1 : decide ((((⟨#[105, 110, 116, 91]⟩ : ByteArray) ++ t189) ++ (⟨#[44, 32]⟩ : ByteArray)).size + t190.size ≤ 9223372036854775807) = true := decide_eq_true c10
      try have c10b2 : (9223372036854775807 < (((⟨#[105, 110, 116, 91]⟩ : ByteArray) ++ t189) ++ (⟨#[44, 32]⟩ : ByteArray)).size + t190.size) = False := eq_false (Nat.not_lt.2 c10)
      have c10b9 : (9223372036854775807 < 4 + t189.size + 2 + t190.size) = False := by have h := c10; simp only [ByteArray.size_append, lit_size, List.size_toArray, List.length_cons, List.length_nil] at h; exact eq_false (by omega)
      by_cases c11 : ((((⟨#[105, 110, 116, 91]⟩ : ByteArray) ++ t189) ++ (⟨#[44, 32]⟩ : ByteArray)) ++ t190).size + 1 ≤ 9223372036854775807
      ·rw [if_pos c11] at H
       have c11b0 := eq_true c11
       have c11b1 : decide (((((⟨#[105, 110, 116, 91]⟩ : ByteArray) ++ t189) ++ (⟨#[44, 32]⟩ : ByteArray)) ++ t190).size + 1 ≤ 9223372036854775807) = true := decide_eq_true c11
       try have c11b2 : (9223372036854775807 < ((((⟨#[105, 110, 116, 91]⟩ : ByteArray) ++ t189) ++ (⟨#[44, 32]⟩ : ByteArray)) ++ t190).size + 1) = False := eq_false (Nat.not_lt.2 c11)
       have c11b9 : (9223372036854775807 < 4 + t189.size + 2 + t190.size + 1) = False := by have h := c11; simp only [ByteArray.size_append, lit_size, List.size_toArray, List.length_cons, List.length_nil] at h; exact eq_false (by omega)
       obtain rfl := Option.some.inj H
       go_enter Tryd.func44, Tryd.ntmps44
       try go_wp2_with (first | ((with_reducible refine gate_dst (N := 1) rfl ?_); refine box_event ?hg (N := 1) ?hd (cs := #[.int .i64 a0_0, .int .i64 a0_1, .int .i64 a0_2, .int .i64 a0_3, .slice A0_4 l0_4.length c0_4]) (t := 24) ?hr ?_; (case hd => rfl); (case hg => rfl); (case hr => first | (go_simp; done) | (go_simp; rfl)); intro gb188 hg w12 hbox hb; have BK188 := Aside0.mk (hbox); have GW188 : Aside0 (w.heap.size ≤ gb188) := gw_ hg (below_size bl_); have GE188 := GW188; replace HB := Aside0.mk (below_step bl_ hb); clear hb hbox hg; obtain ⟨hcz13_0, hcz13_1, hcz13_2, hcz13_3, hcz13_4, hfz13_0, hfz13_1, hfz13_2, hfz13_3, hfz13_4⟩ := cf5_ BK188.out))
       replace BK188 := Aside0.mk (blk_drew BK188.out)
       replace HB := Aside0.mk (below_drew1 HB.out)
       refine start_ (n := 11) (S := fun w' => w'.cell? ⟨gb188, 0, none⟩ = some (.int .i64 a0_0) ∧ w'.cell? ⟨gb188, 1, none⟩ = some (.int .i64 a0_1) ∧ w'.cell? ⟨gb188, 2, none⟩ = some (.int .i64 a0_2) ∧ w'.cell? ⟨gb188, 3, none⟩ = some (.int .i64 a0_3) ∧ w'.cell? ⟨gb188, 4, none⟩ = some (.slice A0_4 l0_4.length c0_4)) (ds := []) #[false, false, false, false, false, false, false, false, false, false, false] (by kernel_rfl) rfl rfl ⟨(blk_cell BK188.out 0).trans rfl, (blk_cell BK188.out 1).trans rfl, (blk_cell BK188.out 2).trans rfl, (blk_cell BK188.out 3).trans rfl, (blk_cell BK188.out 4).trans rfl⟩ (fun hHeld => ?_); refine with_tabW types_format.tab5 types_format.bits5 (fun HT_ HW_ => ?_)
       generalize w12.drew = w14 at BK188 HB hHeld ⊢
       refine pu_ HT_ 0 12 (bm 11 1) ?_
       refine pu_ HT_ 5 17 (bm 11 33) ?_
       refine ta_ HT_ HW_ 1 13 (bm 11 35) hHeld ?_
       refine ta_ HT_ HW_ 6 18 (bm 11 99) hHeld ?_
       refine one_ (i := 2) (N := some 14) #[true, true, true, false, false, true, true, false, false, false, false] rfl rfl (one_of HT_.out (by kernel_rfl)) (by decide) (fun K hK => ?_)
       refine goes_ Tryd.func71 (by kernel_rfl) rfl #[.int .i64 a0_1] (by rfl) rfl rfl (by (try simp only [List.map_toArray, List.map_cons, List.map_nil]); first | done | rfl | (simp only [List.length_drop, List.length_take]; rfl)) ?_
       with_reducible refine (strconv_Itoa_71.calls a0_1 t189 _ A6.out ?tab).mono ?_
       (case tab => exact ptab HTAB.out bl_)
       rintro e w15 ⟨rfl, hb⟩
       refine ⟨_, rfl, ?_⟩
       replace BK188 := Aside0.mk (blk_below (g := gb188) (o := .cells #[.int .i64 a0_0, .int .i64 a0_1, .int .i64 a0_2, .int .i64 a0_3, .slice A0_4 l0_4.length c0_4] 24 (0, 0)) bk_ hb)
       replace HB := Aside0.mk (below_step bl_ hb)
       (try clear hb)
       (try clear hb2)
       (try clear hk)
       (try clear hi)
       refine hK.out _ _ ⟨(blk_cell BK188.out 0).trans rfl, (blk_cell BK188.out 1).trans rfl, (blk_cell BK188.out 2).trans rfl, (blk_cell BK188.out 3).trans rfl, (blk_cell BK188.out 4).trans rfl⟩ (fun hHeld => ?_)
       clear hK K
       refine norm_ (a' := ?_) ?_ ?_
       rotate_left
       ·show Act.put _ (some 14) _ = _
        simp only [Act.put, List.setIfInBounds_toArray, List.set_cons_zero, List.set_cons_succ, i64_w, i32_w]
        rfl
       refine pu_ HT_ 3 15 (bm 11 111) ?_
       refine pu_ HT_ 4 16 (bm 11 127) ?_
       refine one_ (i := 7) (N := some 19) #[true, true, true, true, true, true, true, true, false, false, false] rfl rfl (one_of HT_.out (by kernel_rfl)) (by decide) (fun K hK => ?_)
       refine goes_ Tryd.func71 (by kernel_rfl) rfl #[.int .i64 a0_2] (by rfl) rfl rfl (by (try simp only [List.map_toArray, List.map_cons, List.map_nil]); first | done | rfl | (simp only [List.length_drop, List.length_take]; rfl)) ?_
       with_reducible refine (strconv_Itoa_71.calls a0_2 t190 _ A9.out ?tab).mono ?_
       (case tab => exact ptab HTAB.out bl_)
       rintro e w16 ⟨rfl, hb⟩
       refine ⟨_, rfl, ?_⟩
       replace BK188 := Aside0.mk (blk_below (g := gb188) (o := .cells #[.int .i64 a0_0, .int .i64 a0_1, .int .i64 a0_2, .int .i64 a0_3, .slice A0_4 l0_4.length c0_4] 24 (0, 0)) bk_ hb)
       replace HB := Aside0.mk (below_step bl_ hb)
       (try clear hb)
       (try clear hb2)
       (try clear hk)
       (try clear hi)
       refine hK.out _ _ ⟨(blk_cell BK188.out 0).trans rfl, (blk_cell BK188.out 1).trans rfl, (blk_cell BK188.out 2).trans rfl, (blk_cell BK188.out 3).trans rfl, (blk_cell BK188.out 4).trans rfl⟩ (fun hHeld => ?_)
       clear hK K
       refine norm_ (a' := ?_) ?_ ?_
       rotate_left
       ·show Act.put _ (some 19) _ = _
        simp only [Act.put, List.setIfInBounds_toArray, List.set_cons_zero, List.set_cons_succ, i64_w, i32_w]
        rfl
       refine pu_ HT_ 8 20 (bm 11 511) ?_
       refine pu_ HT_ 9 21 (bm 11 1023) ?_
       refine pu_ HT_ 10 2 #[true, true, true, true, true, true, true, true, true, true, true] ?_
       refine done_ (done_of HT_.out (by kernel_rfl)) ?_
       try go_wp2
       go_ret
       exact ⟨re_, bl_⟩
      ·rw [if_neg c11] at H
       exact absurd H (by simp)
     ·rw [if_neg c10] at H
      exact absurd H (by simp)
    ·rw [if_neg c8] at H
     exact absurd H (by simp)
   ·rw [if_neg c7] at H
    exact absurd H (by simp)
  ·rw [if_neg c5] at H
   have c5b0 : (a0_0 == 2) = false := beq_eq_false_iff_ne.mpr c5
   have c5b1 : (a0_0 != 2) = true := bne_iff_ne.mpr c5
   by_cases c17 : a0_0 = 3
   ·rw [if_pos c17] at H
    have c17b0 : (a0_0 == 3) = true := beq_iff_eq.mpr c17
    have c17b1 : (a0_0 != 3) = false := bne_eq_false_iff_eq.mpr c17
    clear c17
    obtain rfl := Option.some.inj H
    go_enter Tryd.func44, Tryd.ntmps44
    go_wp2_with (first | ((with_reducible refine gate_dst (N := 1) rfl ?_); refine box_event ?hg (N := 1) ?hd (cs := #[.int .i64 a0_0, .int .i64 a0_1, .int .i64 a0_2, .int .i64 a0_3, .slice A0_4 l0_4.length c0_4]) (t := 24) ?hr ?_; (case hd => rfl); (case hg => rfl); (case hr => first | (go_simp; done) | (go_simp; rfl)); intro gb188 hg w18 hbox hb; have BK188 := Aside0.mk (hbox); have GW188 : Aside0 (w.heap.size ≤ gb188) := gw_ hg (below_size bl_); have GE188 := GW188; replace HB := Aside0.mk (below_step bl_ hb); clear hb hbox hg; obtain ⟨hcz19_0, hcz19_1, hcz19_2, hcz19_3, hcz19_4, hfz19_0, hfz19_1, hfz19_2, hfz19_3, hfz19_4⟩ := cf5_ BK188.out))
    go_ret
    exact ⟨re_, bl_⟩
   ·rw [if_neg c17] at H
    have c17b0 : (a0_0 == 3) = false := beq_eq_false_iff_ne.mpr c17
    have c17b1 : (a0_0 != 3) = true := bne_iff_ne.mpr c17
    by_cases c20 : a0_0 = 4
    ·rw [if_pos c20] at H
     have c20b0 : (a0_0 == 4) = true := beq_iff_eq.mpr c20
     have c20b1 : (a0_0 != 4) = false := bne_eq_false_iff_eq.mpr c20
     clear c20
     obtain rfl := Option.some.inj H
     go_enter Tryd.func44, Tryd.ntmps44
     go_wp2_with (first | ((with_reducible refine gate_dst (N := 1) rfl ?_); refine box_event ?hg (N := 1) ?hd (cs := #[.int .i64 a0_0, .int .i64 a0_1, .int .i64 a0_2, .int .i64 a0_3, .slice A0_4 l0_4.length c0_4]) (t := 24) ?hr ?_; (case hd => rfl); (case hg => rfl); (case hr => first | (go_simp; done) | (go_simp; rfl)); intro gb188 hg w21 hbox hb; have BK188 := Aside0.mk (hbox); have GW188 : Aside0 (w.heap.size ≤ gb188) := gw_ hg (below_size bl_); have GE188 := GW188; replace HB := Aside0.mk (below_step bl_ hb); clear hb hbox hg; obtain ⟨hcz22_0, hcz22_1, hcz22_2, hcz22_3, hcz22_4, hfz22_0, hfz22_1, hfz22_2, hfz22_3, hfz22_4⟩ := cf5_ BK188.out))
     go_ret
     exact ⟨re_, bl_⟩
    ·rw [if_neg c20] at H
     have c20b0 : (a0_0 == 4) = false := beq_eq_false_iff_ne.mpr c20
     have c20b1 : (a0_0 != 4) = true := bne_iff_ne.mpr c20
     by_cases c23 : a0_0 = 6
     ·rw [if_pos c23] at H
      have c23b0 : (a0_0 == 6) = true := beq_iff_eq.mpr c23
      have c23b1 : (a0_0 != 6) = false := bne_eq_false_iff_eq.mpr c23
      clear c23
      replace H := Option.bind_eq_some_iff.mp H
      obtain ⟨t191, A240, H⟩ := H
      replace H : (if 5 + t191.size ≤ 9223372036854775807 then (if ((⟨#[108, 105, 115, 116, 91]⟩ : ByteArray) ++ t191).size + 2 ≤ 9223372036854775807 then (if 0 < (l0_4.length : Int) then ((types_format.f k ((rd_T24 l0_4 0).f0) ((rd_T24 l0_4 0).f1) ((rd_T24 l0_4 0).f2) ((rd_T24 l0_4 0).f3) ((rd_T24 l0_4 0).f4)).bind fun t193 => (if (((⟨#[108, 105, 115, 116, 91]⟩ : ByteArray) ++ t191) ++ (⟨#[93, 32]⟩ : ByteArray)).size + t193.size ≤ 9223372036854775807 then (some ((((⟨#[108, 105, 115, 116, 91]⟩ : ByteArray) ++ t191) ++ (⟨#[93, 32]⟩ : ByteArray)) ++ t193)) else (none))) else (none)) else (none)) else (none)) = some r := H
      have A24 := Aside0.mk A240
      clear A240
      by_cases c25 : 5 + t191.size ≤ 9223372036854775807
      ·rw [if_pos c25] at H
       have c25b0 := eq_true c25
       have c25b1 : decide (5 + t191.size ≤ 9223372036854775807) = true := decide_eq_true c25
       try have c25b2 : (9223372036854775807 < 5 + t191.size) = False := eq_false (Nat.not_lt.2 c25)
       by_cases c26 : ((⟨#[108, 105, 115, 116, 91]⟩ : ByteArray) ++ t191).size + 2 ≤ 9223372036854775807
       ·rw [if_pos c26] at H
        have c26b0 := eq_true c26
        have c26b1 : decide (((⟨#[108, 105, 115, 116, 91]⟩ : ByteArray) ++ t191).size + 2 ≤ 9223372036854775807) = true := decide_eq_true c26
        try have c26b2 : (9223372036854775807 < ((⟨#[108, 105, 115, 116, 91]⟩ : ByteArray) ++ t191).size + 2) = False := eq_false (Nat.not_lt.2 c26)
        have c26b9 : (9223372036854775807 < 5 + t191.size + 2) = False := by have h := c26; simp only [ByteArray.size_append, lit_size, List.size_toArray, List.length_cons, List.length_nil] at h; exact eq_false (by omega)
        by_cases c27 : 0 < (l0_4.length : Int)
        ·rw [if_pos c27] at H
         have c27b0 : decide (0 < (l0_4.length : Int)) = true := decide_eq_true c27
         have c27b1 : decide (0 < l0_4.length) = true := decide_eq_true (by omega)
         clear c27
         replace H := Option.bind_eq_some_iff.mp H
         obtain ⟨t193, A280, H⟩ := H
         replace H : (if (((⟨#[108, 105, 115, 116, 91]⟩ : ByteArray) ++ t191) ++ (⟨#[93, 32]⟩ : ByteArray)).size + t193.size ≤ 9223372036854775807 then (some ((((⟨#[108, 105, 115, 116, 91]⟩ : ByteArray) ++ t191) ++ (⟨#[93, 32]⟩ : ByteArray)) ++ t193)) else (none)) = some r := H
         have A28 := Aside0.mk A280
         clear A280
         by_cases c29 : (((⟨#[108, 105, 115, 116, 91]⟩ : ByteArray) ++ t191) ++ (⟨#[93, 32]⟩ : ByteArray)).size + t193.size ≤ 9223372036854775807
         ·rw [if_pos c29] at H
          have c29b0 := eq_true c29
          have c29b1 : decide ((((⟨#[108, 105, 115, 116, 91]⟩ : ByteArray) ++ t191) ++ (⟨#[93, 32]⟩ : ByteArray)).size + t193.size ≤ 9223372036854775807) = true := decide_eq_true c29
          try have c29b2 : (9223372036854775807 < (((⟨#[108, 105, 115, 116, 91]⟩ : ByteArray) ++ t191) ++ (⟨#[93, 32]⟩ : ByteArray)).size + t193.size) = False := eq_false (Nat.not_lt.2 c29)
          have c29b9 : (9223372036854775807 < 5 + t191.size + 2 + t193.size) = False := by have h := c29; simp only [ByteArray.size_append, lit_size, List.size_toArray, List.length_cons, List.length_nil] at h; exact eq_false (by omega)
          obtain rfl := Option.some.inj H
          go_enter Tryd.func44, Tryd.ntmps44
          try go_wp2_with (first | ((with_reducible refine gate_dst (N := 1) rfl ?_); refine box_event ?hg (N := 1) ?hd (cs := #[.int .i64 a0_0, .int .i64 a0_1, .int .i64 a0_2, .int .i64 a0_3, .slice A0_4 l0_4.length c0_4]) (t := 24) ?hr ?_; (case hd => rfl); (case hg => rfl); (case hr => first | (go_simp; done) | (go_simp; rfl)); intro gb188 hg w30 hbox hb; have BK188 := Aside0.mk (hbox); have GW188 : Aside0 (w.heap.size ≤ gb188) := gw_ hg (below_size bl_); have GE188 := GW188; replace HB := Aside0.mk (below_step bl_ hb); clear hb hbox hg; obtain ⟨hcz31_0, hcz31_1, hcz31_2, hcz31_3, hcz31_4, hfz31_0, hfz31_1, hfz31_2, hfz31_3, hfz31_4⟩ := cf5_ BK188.out))
          replace BK188 := Aside0.mk (blk_drew BK188.out)
          replace HB := Aside0.mk (below_drew1 HB.out)
          have p192 : 0 ≤ (0 : Int) := (by omega)
          have q192 : 0 < (l0_4.length : Int) := dt_
          obtain ⟨ad192, A192_4, c192_4, e192, hx192_0, hx192_1, hx192_2, hx192_3, hx192_4, hl192_4, hi192_4⟩ := at_T24 HR0_4.out 0 p192 q192
          have hw192_4 := hx192_4
          (try rw [show ((0 : Int)).toNat = 0 from rfl] at hw192_4)
          (try rw [show 0 * 5 = 0 from rfl] at hw192_4)
          (try rw [Addr.add_zero'] at hw192_4)
          have hw192_3 := hx192_3
          (try rw [show ((0 : Int)).toNat = 0 from rfl] at hw192_3)
          (try rw [show 0 * 5 = 0 from rfl] at hw192_3)
          (try rw [Addr.add_zero'] at hw192_3)
          have hw192_2 := hx192_2
          (try rw [show ((0 : Int)).toNat = 0 from rfl] at hw192_2)
          (try rw [show 0 * 5 = 0 from rfl] at hw192_2)
          (try rw [Addr.add_zero'] at hw192_2)
          have hw192_1 := hx192_1
          (try rw [show ((0 : Int)).toNat = 0 from rfl] at hw192_1)
          (try rw [show 0 * 5 = 0 from rfl] at hw192_1)
          (try rw [Addr.add_zero'] at hw192_1)
          have hw192_0 := hx192_0
          (try rw [show ((0 : Int)).toNat = 0 from rfl] at hw192_0)
          (try rw [show 0 * 5 = 0 from rfl] at hw192_0)
          (try rw [Addr.add_zero'] at hw192_0)
          cases e192
          have qi192 : (0 < l0_4.length) = True := eq_true (by omega)
          (try rw [show ((0 : Int)).toNat = 0 from rfl] at hx192_0)
          (try rw [show 0 * 5 = 0 from rfl] at hx192_0)
          (try rw [Addr.add_zero'] at hx192_0)
          (try rw [show ((0 : Int)).toNat = 0 from rfl] at hx192_1)
          (try rw [show 0 * 5 = 0 from rfl] at hx192_1)
          (try rw [Addr.add_zero'] at hx192_1)
          (try rw [show ((0 : Int)).toNat = 0 from rfl] at hx192_2)
          (try rw [show 0 * 5 = 0 from rfl] at hx192_2)
          (try rw [Addr.add_zero'] at hx192_2)
          (try rw [show ((0 : Int)).toNat = 0 from rfl] at hx192_3)
          (try rw [show 0 * 5 = 0 from rfl] at hx192_3)
          (try rw [Addr.add_zero'] at hx192_3)
          (try rw [show ((0 : Int)).toNat = 0 from rfl] at hx192_4)
          (try rw [show 0 * 5 = 0 from rfl] at hx192_4)
          (try rw [Addr.add_zero'] at hx192_4)
          replace hx192_0 := (HB.out.cell (World.block_lt_of_cell? w _ hx192_0)).trans hx192_0
          replace hx192_1 := (HB.out.cell (World.block_lt_of_cell? w _ hx192_1)).trans hx192_1
          replace hx192_2 := (HB.out.cell (World.block_lt_of_cell? w _ hx192_2)).trans hx192_2
          replace hx192_3 := (HB.out.cell (World.block_lt_of_cell? w _ hx192_3)).trans hx192_3
          replace hx192_4 := (HB.out.cell (World.block_lt_of_cell? w _ hx192_4)).trans hx192_4
          have HR192_4 := Aside0.mk hi192_4
          have HC192_4 := Aside0.mk hl192_4
          clear hi192_4 hl192_4
          replace p192 := eq_true p192
          replace q192 := eq_true q192
          refine start_ (n := 12) (S := fun w' => w'.cell? ⟨gb188, 0, none⟩ = some (.int .i64 a0_0) ∧ w'.cell? ⟨gb188, 1, none⟩ = some (.int .i64 a0_1) ∧ w'.cell? ⟨gb188, 2, none⟩ = some (.int .i64 a0_2) ∧ w'.cell? ⟨gb188, 3, none⟩ = some (.int .i64 a0_3) ∧ w'.cell? ⟨gb188, 4, none⟩ = some (.slice (some ad192) l0_4.length c0_4) ∧ w'.cell? ad192 = some (.int .i64 ((rd_T24 l0_4 0).f0)) ∧ w'.cell? ⟨ad192.block, ad192.off + 1, none⟩ = some (.int .i64 ((rd_T24 l0_4 0).f1)) ∧ w'.cell? ⟨ad192.block, ad192.off + 2, none⟩ = some (.int .i64 ((rd_T24 l0_4 0).f2)) ∧ w'.cell? ⟨ad192.block, ad192.off + 3, none⟩ = some (.int .i64 ((rd_T24 l0_4 0).f3)) ∧ w'.cell? ⟨ad192.block, ad192.off + 4, none⟩ = some (.slice A192_4 ((rd_T24 l0_4 0).f4).length c192_4)) (ds := []) #[false, false, false, false, false, false, false, false, false, false, false, false] (by kernel_rfl) rfl rfl ⟨(blk_cell BK188.out 0).trans rfl, (blk_cell BK188.out 1).trans rfl, (blk_cell BK188.out 2).trans rfl, (blk_cell BK188.out 3).trans rfl, (blk_cell BK188.out 4).trans rfl, ((HB.out.cell (World.block_lt_of_cell? w _ hw192_0)).trans hw192_0), ((HB.out.cell (World.block_lt_of_cell? w _ hw192_1)).trans hw192_1), ((HB.out.cell (World.block_lt_of_cell? w _ hw192_2)).trans hw192_2), ((HB.out.cell (World.block_lt_of_cell? w _ hw192_3)).trans hw192_3), ((HB.out.cell (World.block_lt_of_cell? w _ hw192_4)).trans hw192_4)⟩ (fun hHeld => ?_); refine with_tabW types_format.tab11 types_format.bits11 (fun HT_ HW_ => ?_)
          generalize w30.drew = w32 at BK188 HB HR192_4 hx192_0 hx192_1 hx192_2 hx192_3 hx192_4 hHeld ⊢
          refine pu_ HT_ 0 28 (bm 12 1) ?_
          refine pu_ HT_ 5 33 (bm 12 33) ?_
          refine ta_ HT_ HW_ 1 29 (bm 12 35) hHeld ?_
          refine ta_ HT_ HW_ 6 34 (bm 12 99) hHeld ?_
          refine pu_ HT_ 7 35 (bm 12 227) ?_
          refine ta_ HT_ HW_ 8 36 (bm 12 483) hHeld ?_
          refine one_ (i := 2) (N := some 30) #[true, true, true, false, false, true, true, true, true, false, false, false] rfl rfl (one_of HT_.out (by kernel_rfl)) (by decide) (fun K hK => ?_)
          refine goes_ Tryd.func71 (by kernel_rfl) rfl #[.int .i64 a0_3] (by rfl) rfl rfl (by (try simp only [List.map_toArray, List.map_cons, List.map_nil]); first | done | rfl | (simp only [List.length_drop, List.length_take]; rfl)) ?_
          with_reducible refine (strconv_Itoa_71.calls a0_3 t191 _ A24.out ?tab).mono ?_
          (case tab => exact ptab HTAB.out bl_)
          rintro e w33 ⟨rfl, hb⟩
          refine ⟨_, rfl, ?_⟩
          replace BK188 := Aside0.mk (blk_below (g := gb188) (o := .cells #[.int .i64 a0_0, .int .i64 a0_1, .int .i64 a0_2, .int .i64 a0_3, .slice (some ad192) l0_4.length c0_4] 24 (0, 0)) bk_ hb)
          replace HB := Aside0.mk (below_step bl_ hb)
          (try clear hb)
          (try clear hb2)
          (try clear hk)
          (try clear hi)
          refine hK.out _ _ ⟨(blk_cell BK188.out 0).trans rfl, (blk_cell BK188.out 1).trans rfl, (blk_cell BK188.out 2).trans rfl, (blk_cell BK188.out 3).trans rfl, (blk_cell BK188.out 4).trans rfl, ((HB.out.cell (World.block_lt_of_cell? w _ hw192_0)).trans hw192_0), ((HB.out.cell (World.block_lt_of_cell? w _ hw192_1)).trans hw192_1), ((HB.out.cell (World.block_lt_of_cell? w _ hw192_2)).trans hw192_2), ((HB.out.cell (World.block_lt_of_cell? w _ hw192_3)).trans hw192_3), ((HB.out.cell (World.block_lt_of_cell? w _ hw192_4)).trans hw192_4)⟩ (fun hHeld => ?_)
          clear hK K
          refine norm_ (a' := ?_) ?_ ?_
          rotate_left
          ·show Act.put _ (some 30) _ = _
           simp only [Act.put, List.setIfInBounds_toArray, List.set_cons_zero, List.set_cons_succ, i64_w, i32_w]
           rfl
          refine pu_ HT_ 3 31 (bm 12 495) ?_
          refine pu_ HT_ 4 32 (bm 12 511) ?_
          refine one_ (i := 9) (N := some 37) #[true, true, true, true, true, true, true, true, true, true, false, false] rfl rfl (one_of HT_.out (by kernel_rfl)) (by decide) (fun K hK => ?_)
          refine goes_ Tryd.func44 (by kernel_rfl) rfl #[.agg #[.int .i64 ((rd_T24 l0_4 0).f0), .int .i64 ((rd_T24 l0_4 0).f1), .int .i64 ((rd_T24 l0_4 0).f2), .int .i64 ((rd_T24 l0_4 0).f3), .slice A192_4 ((rd_T24 l0_4 0).f4).length c192_4]] (by rfl) rfl rfl (by (try simp only [List.map_toArray, List.map_cons, List.map_nil]); first | done | rfl | (simp only [List.length_drop, List.length_take]; rfl)) ?_
          with_reducible refine (ih k (by omega) ((rd_T24 l0_4 0).f0) ((rd_T24 l0_4 0).f1) ((rd_T24 l0_4 0).f2) ((rd_T24 l0_4 0).f3) _ _ ((rd_T24 l0_4 0).f4) t193 _ ?side1 ?side2 A28.out ?tab).mono ?_
          (case tab => exact ptab HTAB.out bl_)
          (case side1 => repeat (first | exact (Kd.C_below HR192_4.out HB.out) | (with_reducible refine Kd.C_alloc ?_ _) | (with_reducible refine Kd.C_drewN ?_ _) | (with_reducible refine Kd.C_drew ?_)))
          (case side2 => exact HC192_4.out)
          rintro e w34 ⟨rfl, hb⟩
          refine ⟨_, rfl, ?_⟩
          replace BK188 := Aside0.mk (blk_below (g := gb188) (o := .cells #[.int .i64 a0_0, .int .i64 a0_1, .int .i64 a0_2, .int .i64 a0_3, .slice (some ad192) l0_4.length c0_4] 24 (0, 0)) bk_ hb)
          replace HB := Aside0.mk (below_step bl_ hb)
          (try clear hb)
          (try clear hb2)
          (try clear hk)
          (try clear hi)
          refine hK.out _ _ ⟨(blk_cell BK188.out 0).trans rfl, (blk_cell BK188.out 1).trans rfl, (blk_cell BK188.out 2).trans rfl, (blk_cell BK188.out 3).trans rfl, (blk_cell BK188.out 4).trans rfl, ((HB.out.cell (World.block_lt_of_cell? w _ hw192_0)).trans hw192_0), ((HB.out.cell (World.block_lt_of_cell? w _ hw192_1)).trans hw192_1), ((HB.out.cell (World.block_lt_of_cell? w _ hw192_2)).trans hw192_2), ((HB.out.cell (World.block_lt_of_cell? w _ hw192_3)).trans hw192_3), ((HB.out.cell (World.block_lt_of_cell? w _ hw192_4)).trans hw192_4)⟩ (fun hHeld => ?_)
          clear hK K
          refine norm_ (a' := ?_) ?_ ?_
          rotate_left
          ·show Act.put _ (some 37) _ = _
           simp only [Act.put, List.setIfInBounds_toArray, List.set_cons_zero, List.set_cons_succ, i64_w, i32_w]
           rfl
          refine pu_ HT_ 10 38 (bm 12 2047) ?_
          refine pu_ HT_ 11 2 #[true, true, true, true, true, true, true, true, true, true, true, true] ?_
          refine done_ (done_of HT_.out (by kernel_rfl)) ?_
          try go_wp2
          go_ret
          exact ⟨re_, bl_⟩
         ·rw [if_neg c29] at H
          exact absurd H (by simp)
        ·rw [if_neg c27] at H
         exact absurd H (by simp)
       ·rw [if_neg c26] at H
        exact absurd H (by simp)
      ·rw [if_neg c25] at H
       exact absurd H (by simp)
     ·rw [if_neg c23] at H
      have c23b0 : (a0_0 == 6) = false := beq_eq_false_iff_ne.mpr c23
      have c23b1 : (a0_0 != 6) = true := bne_iff_ne.mpr c23
      have H' := Aside0.mk H
      clear H
      go_enter Tryd.func44, Tryd.ntmps44
      go_wp2_with (first | ((with_reducible refine gate_dst (N := 1) rfl ?_); refine box_event ?hg (N := 1) ?hd (cs := #[.int .i64 a0_0, .int .i64 a0_1, .int .i64 a0_2, .int .i64 a0_3, .slice A0_4 l0_4.length c0_4]) (t := 24) ?hr ?_; (case hd => rfl); (case hg => rfl); (case hr => first | (go_simp; done) | (go_simp; rfl)); intro gb188 hg w35 hbox hb; have BK188 := Aside0.mk (hbox); have GW188 : Aside0 (w.heap.size ≤ gb188) := gw_ hg (below_size bl_); have GE188 := GW188; replace HB := Aside0.mk (below_step bl_ hb); clear hb hbox hg; obtain ⟨hcz36_0, hcz36_1, hcz36_2, hcz36_3, hcz36_4, hfz36_0, hfz36_1, hfz36_2, hfz36_3, hfz36_4⟩ := cf5_ BK188.out))
      go_loopg [3, 42] k (fun kq v3 v42 w' => ∃ (x3_1 : List ByteArray) (x42_1 : Int), v42 = .int .i64 x42_1 ∧ Aside0 (types_format.l0 kq x3_1 l0_4 (l0_4.length : Int) x42_1 = some r) ∧ Aside0 (kq ≤ k) ∧ Aside0 (Kd.R Kd.string 9 w' w.heap.size (fun _ => True) v3 x3_1) ∧ Aside0 (w'.heap[gb188]? = some (.cells #[.int .i64 a0_0, .int .i64 a0_1, .int .i64 a0_2, .int .i64 a0_3, (.slice A0_4 l0_4.length c0_4)] 24 (0, 0))) ∧ Aside0 (Below w.heap.size w w'))
      case atStart => exact ⟨(([] : List ByteArray)), (0), rs_, H', ⟨Nat.le_refl _⟩, ⟨by first | exact Kd.R_nil _ _ _ _ _ | exact Kd.N_nil _ _ _ _ _ | exact Kd.V_nil _ _ _ _ _ | exact Kd.Q_nil _ _ _ _ _ | exact Kd.S_nil _ _ _ _ _⟩, ⟨bk_⟩, ⟨bl_⟩⟩
      case round =>
       clear H'
       try clear c1
       try clear p1
       try clear q1
       try clear hx1
       try clear qi1
       try clear c2
       try clear c2b0
       try clear c2b1
       try clear p2
       try clear c4
       try clear c5
       try clear c5b0
       try clear c5b1
       try clear c7
       try clear c7b0
       try clear c7b1
       try clear c7b2
       try clear c8
       try clear c8b0
       try clear c8b1
       try clear c8b2
       try clear c10
       try clear c10b0
       try clear c10b1
       try clear c10b2
       try clear c11
       try clear c11b0
       try clear c11b1
       try clear c11b2
       try clear c17
       try clear c17b0
       try clear c17b1
       try clear c19
       try clear p19
       try clear q19
       try clear hx19
       try clear qi19
       try clear c20
       try clear c20b0
       try clear c20b1
       try clear c23
       try clear c23b0
       try clear c23b1
       try clear c25
       try clear c25b0
       try clear c25b1
       try clear c25b2
       try clear c26
       try clear c26b0
       try clear c26b1
       try clear c26b2
       try clear c27
       try clear c27b0
       try clear c27b1
       try clear c29
       try clear c29b0
       try clear c29b1
       try clear c29b2
       try clear hcz13_0 hcz13_1 hcz13_2 hcz13_3 hcz13_4 hfz13_0 hfz13_1 hfz13_2 hfz13_3 hfz13_4
       try clear hcz19_0 hcz19_1 hcz19_2 hcz19_3 hcz19_4 hfz19_0 hfz19_1 hfz19_2 hfz19_3 hfz19_4
       try clear hcz22_0 hcz22_1 hcz22_2 hcz22_3 hcz22_4 hfz22_0 hfz22_1 hfz22_2 hfz22_3 hfz22_4
       try clear hcz31_0 hcz31_1 hcz31_2 hcz31_3 hcz31_4 hfz31_0 hfz31_1 hfz31_2 hfz31_3 hfz31_4
       try clear hcz36_0 hcz36_1 hcz36_2 hcz36_3 hcz36_4 hfz36_0 hfz36_1 hfz36_2 hfz36_3 hfz36_4
       try clear hcz4_0 hcz4_1 hcz4_2 hcz4_3 hcz4_4 hfz4_0 hfz4_1 hfz4_2 hfz4_3 hfz4_4
       try clear hx192_0
       try clear hx192_1
       try clear hx192_2
       try clear hx192_3
       try clear hx192_4
       try clear p192
       try clear q192
       obtain ⟨x3_1, x42_1, rfl, HA, HK1, HO_3, BK188, HB⟩ := hrel
       cases gk with
       | zero => exact absurd HA.out (by simp [types_format.l0])
       | succ k1 =>
        have H := HA.out
        clear HA
        simp only [types_format.l0] at H
        by_cases c37 : x42_1 < (l0_4.length : Int)
        ·rw [if_pos c37] at H
         have c37b0 : decide (x42_1 < (l0_4.length : Int)) = true := decide_eq_true c37
         clear c37
         by_cases c38 : 0 ≤ x42_1
         ·rw [if_pos c38] at H
          have c38b0 : decide (0 ≤ x42_1) = true := decide_eq_true c38
          clear c38
          by_cases c39 : x42_1 < (l0_4.length : Int)
          ·rw [if_pos c39] at H
           have c39b0 : decide (x42_1 < (l0_4.length : Int)) = true := decide_eq_true c39
           clear c39
           replace H := Option.bind_eq_some_iff.mp H
           obtain ⟨t196, A400, H⟩ := H
           replace H : (if x3_1.length < 8796093022208 then (types_format.l0 k1 (x3_1 ++ [t196]) l0_4 (l0_4.length : Int) (wrap64 (x42_1 + 1))) else (none)) = some r := H
           have A40 := Aside0.mk A400
           clear A400
           by_cases c41 : x3_1.length < 8796093022208
           ·rw [if_pos c41] at H
            have LMc41 := Aside0.mk c41
            clear c41
            obtain ⟨y197, hy197⟩ : ∃ y_ : List ByteArray, y_ = (x3_1 ++ [t196]) := ⟨_, rfl⟩
            replace H : (types_format.l0 k1 y197 l0_4 (l0_4.length : Int) (wrap64 (x42_1 + 1))) = some r := by first | (rw [hy197]; with_reducible exact H) | (have H2_ := (Option.bind_some _ _).symm.trans H; rw [hy197]; with_reducible exact H2_) | (have H2_ := (Option.bind_some _ _).symm.trans H; with_reducible exact H2_) | with_reducible exact H | (rw [hy197]; exact H) | exact H
            have Ny197 := Aside0.mk hy197
            clear hy197
            have H' := Aside0.mk H
            clear H
            have p194 : 0 ≤ (x42_1 : Int) := dt_
            have q194 : x42_1 < (l0_4.length : Int) := dt_
            obtain ⟨ad194, A194_4, c194_4, e194, hx194_0, hx194_1, hx194_2, hx194_3, hx194_4, hl194_4, hi194_4⟩ := at_T24 HR0_4.out x42_1 p194 q194
            cases e194
            replace hx194_0 := (HB.out.cell (World.block_lt_of_cell? w _ hx194_0)).trans hx194_0
            replace hx194_1 := (HB.out.cell (World.block_lt_of_cell? w _ hx194_1)).trans hx194_1
            replace hx194_2 := (HB.out.cell (World.block_lt_of_cell? w _ hx194_2)).trans hx194_2
            replace hx194_3 := (HB.out.cell (World.block_lt_of_cell? w _ hx194_3)).trans hx194_3
            replace hx194_4 := (HB.out.cell (World.block_lt_of_cell? w _ hx194_4)).trans hx194_4
            have HR194_4 := Aside0.mk hi194_4
            have HC194_4 := Aside0.mk hl194_4
            clear hi194_4 hl194_4
            replace p194 := eq_true p194
            replace q194 := eq_true q194
            go_wp2_with (first | ((with_reducible refine gate_dst (N := 5) rfl ?_); refine box_event ?hg (N := 5) ?hd (cs := #[.int .i64 0, .int .i64 0, .int .i64 0, .int .i64 0, .slice none 0 0]) (t := 24) ?hr ?_; (case hd => rfl); (case hg => rfl); (case hr => first | (go_simp; done) | (go_simp; rfl)); intro gb195 hg w42 hbox hb; have BK195 := Aside0.mk (hbox); have GW195 : Aside0 (w.heap.size ≤ gb195) := gw_ hg (below_size bl_); have GE195 := GW195; have NB188_195 := Aside0.mk ((by rw [hg]; exact Nat.ne_of_lt (blk_lt (g := gb188) (o := .cells #[.int .i64 a0_0, .int .i64 a0_1, .int .i64 a0_2, .int .i64 a0_3, .slice (some ad194) l0_4.length c0_4] 24 (0, 0)) bk_) : gb188 ≠ gb195)); have NB195_188 := Aside0.mk ((by rw [hg]; exact Nat.ne_of_gt (blk_lt (g := gb188) (o := .cells #[.int .i64 a0_0, .int .i64 a0_1, .int .i64 a0_2, .int .i64 a0_3, .slice (some ad194) l0_4.length c0_4] 24 (0, 0)) bk_) : gb195 ≠ gb188)); replace HO_3 := Aside0.mk (Kd.R_below (pR_ HO_3.out) hb); replace BK188 := Aside0.mk (blk_below (g := gb188) (o := .cells #[.int .i64 a0_0, .int .i64 a0_1, .int .i64 a0_2, .int .i64 a0_3, .slice (some ad194) l0_4.length c0_4] 24 (0, 0)) bk_ hb); replace HB := Aside0.mk (below_step bl_ hb); clear hb hbox hg; have hnb43 := NB195_188.out; have hnc43 := NB188_195.out; obtain ⟨hcz44_0, hcz44_1, hcz44_2, hcz44_3, hcz44_4, hfz44_0, hfz44_1, hfz44_2, hfz44_3, hfz44_4⟩ := cf5_ BK195.out) | ((with_reducible refine gate_callee (f := 44) rfl ?_); refine goesL_ (some 48) rfl rfl Tryd.func44 (by kernel_rfl) rfl #[.agg #[.int .i64 ((rd_T24 l0_4 x42_1).f0), .int .i64 ((rd_T24 l0_4 x42_1).f1), .int .i64 ((rd_T24 l0_4 x42_1).f2), .int .i64 ((rd_T24 l0_4 x42_1).f3), .slice A194_4 ((rd_T24 l0_4 x42_1).f4).length c194_4]] rfl (by (try simp only [List.map_toArray, List.map_cons, List.map_nil]); first | done | rfl | (simp only [List.length_drop, List.length_take]; rfl)) ?_; (with_reducible refine (ih k1 (by have := HK1.out; omega) ((rd_T24 l0_4 x42_1).f0) ((rd_T24 l0_4 x42_1).f1) ((rd_T24 l0_4 x42_1).f2) ((rd_T24 l0_4 x42_1).f3) _ _ ((rd_T24 l0_4 x42_1).f4) t196 _ ?side1 ?side2 A40.out ?tab).mono ?_); (case tab => exact ptab HTAB.out bl_); (case side1 => exact Kd.C_below HR194_4.out bl_); (case side2 => exact HC194_4.out); rintro e w45 ⟨rfl, hb⟩; refine ⟨_, rfl, ?_⟩; replace HO_3 := Aside0.mk (Kd.R_below (by (with_reducible repeat (first | apply Kd.R_alloc | apply Kd.R_drewN | apply Kd.R_drew)); exact (Kd.R_mono (Kd.R_far (p := ⟨gb195, 4, none⟩) (Kd.R_far (p := ⟨gb195, 3, none⟩) (Kd.R_far (p := ⟨gb195, 2, none⟩) (Kd.R_far (p := ⟨gb195, 1, none⟩) (Kd.R_far (p := ⟨gb195, 0, none⟩) (Kd.R_types HO_3.out BK195.out (by decide)) (fun _ hk => hk.2) (.int .i64 ((rd_T24 l0_4 x42_1).f0))) (fun _ hk => hk.2) (.int .i64 ((rd_T24 l0_4 x42_1).f1))) (fun _ hk => hk.2) (.int .i64 ((rd_T24 l0_4 x42_1).f2))) (fun _ hk => hk.2) (.int .i64 ((rd_T24 l0_4 x42_1).f3))) (fun _ hk => hk.2) (.slice A194_4 ((rd_T24 l0_4 x42_1).f4).length c194_4)) (fun _ h_ => h_.1))) hb); replace BK188 := Aside0.mk (blk_below (g := gb188) (o := .cells #[.int .i64 a0_0, .int .i64 a0_1, .int .i64 a0_2, .int .i64 a0_3, .slice (some ad194) l0_4.length c0_4] 24 (0, 0)) (by (with_reducible repeat (first | refine blk_drewN ?_ _ | refine blk_drew ?_ | refine blk_alloc ?_ _)); refine blk_far ?_ NB188_195.out _; (with_reducible repeat (first | refine blk_drewN ?_ _ | refine blk_drew ?_ | refine blk_alloc ?_ _)); refine blk_far ?_ NB188_195.out _; (with_reducible repeat (first | refine blk_drewN ?_ _ | refine blk_drew ?_ | refine blk_alloc ?_ _)); refine blk_far ?_ NB188_195.out _; (with_reducible repeat (first | refine blk_drewN ?_ _ | refine blk_drew ?_ | refine blk_alloc ?_ _)); refine blk_far ?_ NB188_195.out _; (with_reducible repeat (first | refine blk_drewN ?_ _ | refine blk_drew ?_ | refine blk_alloc ?_ _)); refine blk_far ?_ NB188_195.out _; (with_reducible repeat (first | refine blk_drewN ?_ _ | refine blk_drew ?_ | refine blk_alloc ?_ _)); exact BK188.out) hb); replace BK195 := Aside0.mk (blk_below (g := gb195) (o := .cells #[.int .i64 ((rd_T24 l0_4 x42_1).f0), .int .i64 ((rd_T24 l0_4 x42_1).f1), .int .i64 ((rd_T24 l0_4 x42_1).f2), .int .i64 ((rd_T24 l0_4 x42_1).f3), .slice A194_4 ((rd_T24 l0_4 x42_1).f4).length c194_4] 24 (0, 0)) (by (with_reducible repeat (first | refine blk_drewN ?_ _ | refine blk_drew ?_ | refine blk_alloc ?_ _)); refine blk_put (cs := #[.int .i64 ((rd_T24 l0_4 x42_1).f0), .int .i64 ((rd_T24 l0_4 x42_1).f1), .int .i64 ((rd_T24 l0_4 x42_1).f2), .int .i64 ((rd_T24 l0_4 x42_1).f3), .slice none 0 0]) ?_ 4 _ rfl; (with_reducible repeat (first | refine blk_drewN ?_ _ | refine blk_drew ?_ | refine blk_alloc ?_ _)); refine blk_put (cs := #[.int .i64 ((rd_T24 l0_4 x42_1).f0), .int .i64 ((rd_T24 l0_4 x42_1).f1), .int .i64 ((rd_T24 l0_4 x42_1).f2), .int .i64 0, .slice none 0 0]) ?_ 3 _ rfl; (with_reducible repeat (first | refine blk_drewN ?_ _ | refine blk_drew ?_ | refine blk_alloc ?_ _)); refine blk_put (cs := #[.int .i64 ((rd_T24 l0_4 x42_1).f0), .int .i64 ((rd_T24 l0_4 x42_1).f1), .int .i64 0, .int .i64 0, .slice none 0 0]) ?_ 2 _ rfl; (with_reducible repeat (first | refine blk_drewN ?_ _ | refine blk_drew ?_ | refine blk_alloc ?_ _)); refine blk_put (cs := #[.int .i64 ((rd_T24 l0_4 x42_1).f0), .int .i64 0, .int .i64 0, .int .i64 0, .slice none 0 0]) ?_ 1 _ rfl; (with_reducible repeat (first | refine blk_drewN ?_ _ | refine blk_drew ?_ | refine blk_alloc ?_ _)); refine blk_put (cs := #[.int .i64 0, .int .i64 0, .int .i64 0, .int .i64 0, .slice none 0 0]) ?_ 0 _ rfl; (with_reducible repeat (first | refine blk_drewN ?_ _ | refine blk_drew ?_ | refine blk_alloc ?_ _)); exact BK195.out) hb); replace HB := Aside0.mk (below_step bl_ hb); (try clear hb); (try clear hb2); (try clear hk); (try clear hi)) | ((with_reducible refine gate_builtin (b := .append) (xs := #[.tmp 46, .tmp 49]) rfl ?_); at_builtin; refine Kd.R_append Kd.string (w0 := w) w.heap.size rfl (.tmp 46) (.tmp 49) 79 9 (.string ⟨#[]⟩) 16 rfl Tryd.underlying79 info9 rfl (by decide) (by omega) u3 x3_1 t196 [.string t196] (fun _ => True) (fun _ => False) rfl rfl ?aP (fun _ hk => hk.elim) ?aF ?aO ?aB ?aS ?aL ?_; (case aP => exact rfl); (case aB => exact bl_); (case aF => exact (fun _ _ => trivial)); (case aO => exact (pR_ HO_3.out)); (case aS => exact (below_size bl_)); (case aL => have := LMc41.out; omega); intro v198 w46 ho hb hg hat; rw [← Ny197.out] at ho; have HO199 := Aside0.mk (ho); replace BK188 := Aside0.mk (blk_grown (g := gb188) (o := .cells #[.int .i64 a0_0, .int .i64 a0_1, .int .i64 a0_2, .int .i64 a0_3, .slice (some ad194) l0_4.length c0_4] 24 (0, 0)) bk_ hg (Kd.R_ne HO_3.out BK188.out (by decide))); replace BK195 := Aside0.mk (blk_grown (g := gb195) (o := .cells #[.int .i64 ((rd_T24 l0_4 x42_1).f0), .int .i64 ((rd_T24 l0_4 x42_1).f1), .int .i64 ((rd_T24 l0_4 x42_1).f2), .int .i64 ((rd_T24 l0_4 x42_1).f3), .slice A194_4 ((rd_T24 l0_4 x42_1).f4).length c194_4] 24 (0, 0)) bk_ hg (Kd.R_ne HO_3.out BK195.out (by decide))); replace HB := Aside0.mk (hb); clear HO_3; clear ho hb hg hat))
            go_roundg k1
            case measure => have := HK1.out; omega
            case rel => exact ⟨(y197), (wrap64 (x42_1 + 1)), rs_, H', ⟨by have := HK1.out; omega⟩, ⟨pR_ HO199.out⟩, ⟨bk_⟩, ⟨bl_⟩⟩
           ·rw [if_neg c41] at H
            exact absurd H (by simp)
          ·rw [if_neg c39] at H
           exact absurd H (by simp)
         ·rw [if_neg c38] at H
          exact absurd H (by simp)
        ·rw [if_neg c37] at H
         have c37b0 : decide (x42_1 < (l0_4.length : Int)) = false := decide_eq_false c37
         clear c37
         replace H := Option.bind_eq_some_iff.mp H
         obtain ⟨t200, A470, H⟩ := H
         replace H : (if 1 + t200.size ≤ 9223372036854775807 then (if ((⟨#[40]⟩ : ByteArray) ++ t200).size + 1 ≤ 9223372036854775807 then (some (((⟨#[40]⟩ : ByteArray) ++ t200) ++ (⟨#[41]⟩ : ByteArray))) else (none)) else (none)) = some r := H
         have A47 := Aside0.mk A470
         clear A470
         by_cases c48 : 1 + t200.size ≤ 9223372036854775807
         ·rw [if_pos c48] at H
          have c48b0 := eq_true c48
          have c48b1 : decide (1 + t200.size ≤ 9223372036854775807) = true := decide_eq_true c48
          try have c48b2 : (9223372036854775807 < 1 + t200.size) = False := eq_false (Nat.not_lt.2 c48)
          by_cases c49 : ((⟨#[40]⟩ : ByteArray) ++ t200).size + 1 ≤ 9223372036854775807
          ·rw [if_pos c49] at H
           have c49b0 := eq_true c49
           have c49b1 : decide (((⟨#[40]⟩ : ByteArray) ++ t200).size + 1 ≤ 9223372036854775807) = true := decide_eq_true c49
           try have c49b2 : (9223372036854775807 < ((⟨#[40]⟩ : ByteArray) ++ t200).size + 1) = False := eq_false (Nat.not_lt.2 c49)
           have c49b9 : (9223372036854775807 < 1 + t200.size + 1) = False := by have h := c49; simp only [ByteArray.size_append, lit_size, List.size_toArray, List.length_cons, List.length_nil] at h; exact eq_false (by omega)
           obtain rfl := Option.some.inj H
           obtain ⟨Ao50, co50, eo50⟩ := Kd.R_slice HO_3.out
           subst eo50
           go_wp2_with (first | ((with_reducible refine gate_callee (f := 72) rfl ?_); refine goesL_ (some 53) rfl rfl Tryd.func72 (by kernel_rfl) rfl #[.slice Ao50 x3_1.length co50, .string (⟨#[44, 32]⟩ : ByteArray)] rfl (by (try simp only [List.map_toArray, List.map_cons, List.map_nil]); first | done | rfl | (simp only [List.length_drop, List.length_take]; rfl)) ?_; (with_reducible refine (strings_Join.calls _ _ x3_1 (⟨#[44, 32]⟩ : ByteArray) t200 _ ?side1 ?side2 A47.out).mono ?_); (case side1 => repeat (first | exact (Kd.R_reads' HO_3.out).2.2 | (with_reducible refine Kd.C_alloc ?_ _) | (with_reducible refine Kd.C_drewN ?_ _) | (with_reducible refine Kd.C_drew ?_))); (case side2 => exact (Kd.R_reads' HO_3.out).2.1); rintro e w51 ⟨rfl, hb⟩; refine ⟨_, rfl, ?_⟩; replace HO_3 := Aside0.mk (Kd.R_below (pR_ HO_3.out) hb); replace BK188 := Aside0.mk (blk_below (g := gb188) (o := .cells #[.int .i64 a0_0, .int .i64 a0_1, .int .i64 a0_2, .int .i64 a0_3, .slice A0_4 l0_4.length c0_4] 24 (0, 0)) bk_ hb); replace HB := Aside0.mk (below_step bl_ hb); (try clear hb); (try clear hb2); (try clear hk); (try clear hi)))
           go_ret
           exact ⟨re_, bl_⟩
          ·rw [if_neg c49] at H
           exact absurd H (by simp)
         ·rw [if_neg c48] at H
          exact absurd H (by simp)

end Go.Proofs.YtggelekooacmnaaDoor.Q
namespace Go.Proofs.YtggelekooacmnaaDoor.Q
open Go.RowKit Go.Proofs.YtggelekooacmnaaDoorW.PrintWords Go.Proofs.YtggelekooacmnaaDoorW.PrintLast Go.Proofs.YtggelekooacmnaaDoorW.PrintMore
attribute [local go_sem] max2_int min2_int max_two min_two max_three min_three max_four min_four   -- for this text's walks alone
set_option linter.unusedVariables false
set_option linter.unusedSimpArgs false

/-! ### types_Format: function 21 -/
def types_Format.f (k : Nat) (a0_0 : Int) (a0_1 : Int) (a0_2 : Int) (a0_3 : Int) (l0_4 : List (S24)) : Option (ByteArray × Int) := (types_Validate.f k a0_0 a0_1 a0_2 a0_3 l0_4).bind fun t202 => (if t202 = 0 then ((types_format.f k a0_0 a0_1 a0_2 a0_3 l0_4).bind fun t203 => (some (t203, 0))) else (some ((⟨#[]⟩ : ByteArray), t202)))
theorem types_Format.mono : ∀ a0 a1 a2 a3 a4 k, LeO (types_Format.f k a0 a1 a2 a3 a4) (types_Format.f (k + 1) a0 a1 a2 a3 a4) := by
  intro a0 a1 a2 a3 a4 k
  unfold types_Format.f
  repeat' first
      | (with_reducible exact types_Validate.mono _ _ _ _ _ _)
      | (with_reducible exact types_format.mono _ _ _ _ _ _)
      | (with_reducible exact LeO.refl _)
      | (with_reducible exact LeO.none _)
      | (with_reducible refine LeO.ite ?_ ?_)
      | (with_reducible refine LeO.bind ?_ (fun _ => ?_))
      | exact types_Validate.mono _ _ _ _ _ _
      | exact types_format.mono _ _ _ _ _ _
      | exact LeO.none _
      | refine LeO.ite ?_ ?_
      | refine LeO.bind ?_ (fun _ => ?_)
set_option maxHeartbeats 8000000 in
set_option maxRecDepth 100000 in
theorem types_Format.calls (k : Nat) (a0_0 : Int) (a0_1 : Int) (a0_2 : Int) (a0_3 : Int) (A0_4 : Option Addr) (c0_4 : Nat) (l0_4 : List (S24)) (r1 : ByteArray) (r2 : Int) (w : World) (hr0_4 : Kd.C k24 w A0_4 l0_4.length l0_4) (hc0_4 : l0_4.length ≤ c0_4) (h : types_Format.f k a0_0 a0_1 a0_2 a0_3 l0_4 = some (r1, r2)) (htab : PowTab w.heap.size w) :
    Calls Tryd.prog 21 #[.agg #[.int .i64 a0_0, .int .i64 a0_1, .int .i64 a0_2, .int .i64 a0_3, .slice A0_4 l0_4.length c0_4]] w fun e w' => e = .returned (.tuple #[.string r1, .int .i64 r2]) ∧ Below w.heap.size w w' := by
  have HTAB := Aside0.mk htab
  clear htab
  have hu24 := Tryd.underlying24
  have HR0_4 := Aside0.mk hr0_4
  have HC0_4 := Aside0.mk hc0_4
  clear hr0_4 hc0_4
  have HB := Aside0.mk (Below.refl w.heap.size w)
  have H : ((types_Validate.f k a0_0 a0_1 a0_2 a0_3 l0_4).bind fun t202 => (if t202 = 0 then ((types_format.f k a0_0 a0_1 a0_2 a0_3 l0_4).bind fun t203 => (some (t203, 0))) else (some ((⟨#[]⟩ : ByteArray), t202)))) = some (r1, r2) := h
  clear h
  replace H := Option.bind_eq_some_iff.mp H
  obtain ⟨t202, A20, H⟩ := H
  replace H : (if t202 = 0 then ((types_format.f k a0_0 a0_1 a0_2 a0_3 l0_4).bind fun t203 => (some (t203, 0))) else (some ((⟨#[]⟩ : ByteArray), t202))) = some (r1, r2) := H
  have A2 := Aside0.mk A20
  clear A20
  by_cases c3 : t202 = 0
  · rw [if_pos c3] at H
    have c3b0 : (t202 == 0) = true := beq_iff_eq.mpr c3
    have c3b1 : (t202 != 0) = false := bne_eq_false_iff_eq.mpr c3
    clear c3
    replace H := Option.bind_eq_some_iff.mp H
    obtain ⟨t203, A40, H⟩ := H
    replace H : (some (t203, 0)) = some (r1, r2) := H
    have A4 := Aside0.mk A40
    clear A40
    simp only [Option.some.injEq, Prod.mk.injEq] at H
    obtain ⟨rfl, rfl⟩ := H
    go_enter Tryd.func21, Tryd.ntmps21
    go_wp2_with (first | ((with_reducible refine gate_dst (N := 1) rfl ?_); refine box_event ?hg (N := 1) ?hd (cs := #[.int .i64 a0_0, .int .i64 a0_1, .int .i64 a0_2, .int .i64 a0_3, .slice A0_4 l0_4.length c0_4]) (t := 24) ?hr ?_; (case hd => rfl); (case hg => rfl); (case hr => first | (go_simp; done) | (go_simp; rfl)); intro gb201 hg w5 hbox hb; have n0_ := Aside0.mk (below_step (by repeat (first | (with_reducible first | exact HB.out | apply below_alloc | apply pw_below_drewN | apply below_drew1) | exact HB.out)) hb); have n1_ := Aside0.mk (hbox); have n2_ := Aside0.mk ((by rw [hg]; exact (below_size (by repeat (first | (with_reducible first | exact HB.out | apply below_alloc | apply pw_below_drewN | apply below_drew1) | exact HB.out))) : w.heap.size ≤ gb201)); have n3_ := Aside0.mk ((by rw [hg]; exact (below_size (by repeat (first | (with_reducible first | exact HB.out | apply below_alloc | apply pw_below_drewN | apply below_drew1) | exact HB.out))) : w.heap.size ≤ gb201)); clear HB; have HB := n0_; have BK201 := n1_; have GW201 := n2_; have GE201 := n3_; clear n0_ n1_ n2_ n3_; clear hb hbox hg; have hcz6_0 : w5.cell? ⟨gb201, 0, none⟩ = some (.int .i64 a0_0) := (blk_cell BK201.out 0).trans rfl; have hcz6_1 : w5.cell? ⟨gb201, 1, none⟩ = some (.int .i64 a0_1) := (blk_cell BK201.out 1).trans rfl; have hcz6_2 : w5.cell? ⟨gb201, 2, none⟩ = some (.int .i64 a0_2) := (blk_cell BK201.out 2).trans rfl; have hcz6_3 : w5.cell? ⟨gb201, 3, none⟩ = some (.int .i64 a0_3) := (blk_cell BK201.out 3).trans rfl; have hcz6_4 : w5.cell? ⟨gb201, 4, none⟩ = some (.slice A0_4 l0_4.length c0_4) := (blk_cell BK201.out 4).trans rfl; have hfz6_0 := blk_frozen BK201.out 0; have hfz6_1 := blk_frozen BK201.out 1; have hfz6_2 := blk_frozen BK201.out 2; have hfz6_3 := blk_frozen BK201.out 3; have hfz6_4 := blk_frozen BK201.out 4) | ((with_reducible refine gate_callee (f := 12) rfl ?_); refine goesL_ (some 6) rfl rfl Tryd.func12 (by kernel_rfl) rfl #[.agg #[.int .i64 a0_0, .int .i64 a0_1, .int .i64 a0_2, .int .i64 a0_3, .slice A0_4 l0_4.length c0_4]] rfl (by (try simp only [List.map_toArray, List.map_cons, List.map_nil]); first | done | rfl | (simp only [List.length_drop, List.length_take]; rfl)) ?_; (with_reducible refine (types_Validate.calls k a0_0 a0_1 a0_2 a0_3 _ _ l0_4 t202 _ ?side1 ?side2 A2.out).mono ?_); (case side1 => repeat (first | exact (Kd.C_below HR0_4.out HB.out) | (with_reducible refine Kd.C_alloc ?_ _) | (with_reducible refine Kd.C_drewN ?_ _) | (with_reducible refine Kd.C_drew ?_))); (case side2 => exact HC0_4.out); rintro e w7 ⟨rfl, hb⟩; refine ⟨_, rfl, ?_⟩; have n0_ := Aside0.mk (blk_below (g := gb201) (o := .cells #[.int .i64 a0_0, .int .i64 a0_1, .int .i64 a0_2, .int .i64 a0_3, .slice A0_4 l0_4.length c0_4] 24 (0, 0)) (by (with_reducible repeat (first | refine blk_drewN ?_ _ | refine blk_drew ?_ | refine blk_alloc ?_ _)); exact BK201.out) hb); have n1_ := Aside0.mk (below_step (by repeat (first | (with_reducible first | exact HB.out | apply below_alloc | apply pw_below_drewN | apply below_drew1 | refine below_set ?_ GE201.out) | exact HB.out)) hb); clear BK201; clear HB; have BK201 := n0_; have HB := n1_; clear n0_ n1_; (try clear hb); (try clear hb2); (try clear hk); (try clear hi); have hcz8_0 : w7.cell? ⟨gb201, 0, none⟩ = some (.int .i64 a0_0) := (blk_cell BK201.out 0).trans rfl; have hcz8_1 : w7.cell? ⟨gb201, 1, none⟩ = some (.int .i64 a0_1) := (blk_cell BK201.out 1).trans rfl; have hcz8_2 : w7.cell? ⟨gb201, 2, none⟩ = some (.int .i64 a0_2) := (blk_cell BK201.out 2).trans rfl; have hcz8_3 : w7.cell? ⟨gb201, 3, none⟩ = some (.int .i64 a0_3) := (blk_cell BK201.out 3).trans rfl; have hcz8_4 : w7.cell? ⟨gb201, 4, none⟩ = some (.slice A0_4 l0_4.length c0_4) := (blk_cell BK201.out 4).trans rfl; have hfz8_0 := blk_frozen BK201.out 0; have hfz8_1 := blk_frozen BK201.out 1; have hfz8_2 := blk_frozen BK201.out 2; have hfz8_3 := blk_frozen BK201.out 3; have hfz8_4 := blk_frozen BK201.out 4) | ((with_reducible refine gate_callee (f := 44) rfl ?_); refine goesL_ (some 11) rfl rfl Tryd.func44 (by kernel_rfl) rfl #[.agg #[.int .i64 a0_0, .int .i64 a0_1, .int .i64 a0_2, .int .i64 a0_3, .slice A0_4 l0_4.length c0_4]] rfl (by (try simp only [List.map_toArray, List.map_cons, List.map_nil]); first | done | rfl | (simp only [List.length_drop, List.length_take]; rfl)) ?_; (with_reducible refine (types_format.calls k a0_0 a0_1 a0_2 a0_3 _ _ l0_4 t203 _ ?side1 ?side2 A4.out ?tab).mono ?_); (case tab => exact ptab HTAB.out (by repeat (first | (with_reducible first | exact HB.out | apply below_alloc | apply pw_below_drewN | apply below_drew1 | refine below_set ?_ GE201.out) | exact HB.out))); (case side1 => repeat (first | exact (Kd.C_below HR0_4.out HB.out) | (with_reducible refine Kd.C_alloc ?_ _) | (with_reducible refine Kd.C_drewN ?_ _) | (with_reducible refine Kd.C_drew ?_))); (case side2 => exact HC0_4.out); rintro e w9 ⟨rfl, hb⟩; refine ⟨_, rfl, ?_⟩; have n0_ := Aside0.mk (blk_below (g := gb201) (o := .cells #[.int .i64 a0_0, .int .i64 a0_1, .int .i64 a0_2, .int .i64 a0_3, .slice A0_4 l0_4.length c0_4] 24 (0, 0)) (by (with_reducible repeat (first | refine blk_drewN ?_ _ | refine blk_drew ?_ | refine blk_alloc ?_ _)); exact BK201.out) hb); have n1_ := Aside0.mk (below_step (by repeat (first | (with_reducible first | exact HB.out | apply below_alloc | apply pw_below_drewN | apply below_drew1 | refine below_set ?_ GE201.out) | exact HB.out)) hb); clear BK201; clear HB; have BK201 := n0_; have HB := n1_; clear n0_ n1_; (try clear hb); (try clear hb2); (try clear hk); (try clear hi)))
    go_ret2
    exact ⟨by first | rfl | (simp [errW_none, errW_some] <;> rfl) | (simp [*, errW_none, errW_some] <;> rfl), by repeat (first | (with_reducible first | exact HB.out | apply below_alloc | apply pw_below_drewN | apply below_drew1 | refine below_set ?_ GE201.out) | exact HB.out)⟩
  · rw [if_neg c3] at H
    have c3b0 : (t202 == 0) = false := beq_eq_false_iff_ne.mpr c3
    have c3b1 : (t202 != 0) = true := bne_iff_ne.mpr c3
    simp only [Option.some.injEq, Prod.mk.injEq] at H
    obtain ⟨rfl, rfl⟩ := H
    go_enter Tryd.func21, Tryd.ntmps21
    go_wp2_with (first | ((with_reducible refine gate_dst (N := 1) rfl ?_); refine box_event ?hg (N := 1) ?hd (cs := #[.int .i64 a0_0, .int .i64 a0_1, .int .i64 a0_2, .int .i64 a0_3, .slice A0_4 l0_4.length c0_4]) (t := 24) ?hr ?_; (case hd => rfl); (case hg => rfl); (case hr => first | (go_simp; done) | (go_simp; rfl)); intro gb201 hg w10 hbox hb; have n0_ := Aside0.mk (below_step (by repeat (first | (with_reducible first | exact HB.out | apply below_alloc | apply pw_below_drewN | apply below_drew1) | exact HB.out)) hb); have n1_ := Aside0.mk (hbox); have n2_ := Aside0.mk ((by rw [hg]; exact (below_size (by repeat (first | (with_reducible first | exact HB.out | apply below_alloc | apply pw_below_drewN | apply below_drew1) | exact HB.out))) : w.heap.size ≤ gb201)); have n3_ := Aside0.mk ((by rw [hg]; exact (below_size (by repeat (first | (with_reducible first | exact HB.out | apply below_alloc | apply pw_below_drewN | apply below_drew1) | exact HB.out))) : w.heap.size ≤ gb201)); clear HB; have HB := n0_; have BK201 := n1_; have GW201 := n2_; have GE201 := n3_; clear n0_ n1_ n2_ n3_; clear hb hbox hg; have hcz11_0 : w10.cell? ⟨gb201, 0, none⟩ = some (.int .i64 a0_0) := (blk_cell BK201.out 0).trans rfl; have hcz11_1 : w10.cell? ⟨gb201, 1, none⟩ = some (.int .i64 a0_1) := (blk_cell BK201.out 1).trans rfl; have hcz11_2 : w10.cell? ⟨gb201, 2, none⟩ = some (.int .i64 a0_2) := (blk_cell BK201.out 2).trans rfl; have hcz11_3 : w10.cell? ⟨gb201, 3, none⟩ = some (.int .i64 a0_3) := (blk_cell BK201.out 3).trans rfl; have hcz11_4 : w10.cell? ⟨gb201, 4, none⟩ = some (.slice A0_4 l0_4.length c0_4) := (blk_cell BK201.out 4).trans rfl; have hfz11_0 := blk_frozen BK201.out 0; have hfz11_1 := blk_frozen BK201.out 1; have hfz11_2 := blk_frozen BK201.out 2; have hfz11_3 := blk_frozen BK201.out 3; have hfz11_4 := blk_frozen BK201.out 4) | ((with_reducible refine gate_callee (f := 12) rfl ?_); refine goesL_ (some 6) rfl rfl Tryd.func12 (by kernel_rfl) rfl #[.agg #[.int .i64 a0_0, .int .i64 a0_1, .int .i64 a0_2, .int .i64 a0_3, .slice A0_4 l0_4.length c0_4]] rfl (by (try simp only [List.map_toArray, List.map_cons, List.map_nil]); first | done | rfl | (simp only [List.length_drop, List.length_take]; rfl)) ?_; (with_reducible refine (types_Validate.calls k a0_0 a0_1 a0_2 a0_3 _ _ l0_4 t202 _ ?side1 ?side2 A2.out).mono ?_); (case side1 => repeat (first | exact (Kd.C_below HR0_4.out HB.out) | (with_reducible refine Kd.C_alloc ?_ _) | (with_reducible refine Kd.C_drewN ?_ _) | (with_reducible refine Kd.C_drew ?_))); (case side2 => exact HC0_4.out); rintro e w12 ⟨rfl, hb⟩; refine ⟨_, rfl, ?_⟩; have n0_ := Aside0.mk (blk_below (g := gb201) (o := .cells #[.int .i64 a0_0, .int .i64 a0_1, .int .i64 a0_2, .int .i64 a0_3, .slice A0_4 l0_4.length c0_4] 24 (0, 0)) (by (with_reducible repeat (first | refine blk_drewN ?_ _ | refine blk_drew ?_ | refine blk_alloc ?_ _)); exact BK201.out) hb); have n1_ := Aside0.mk (below_step (by repeat (first | (with_reducible first | exact HB.out | apply below_alloc | apply pw_below_drewN | apply below_drew1 | refine below_set ?_ GE201.out) | exact HB.out)) hb); clear BK201; clear HB; have BK201 := n0_; have HB := n1_; clear n0_ n1_; (try clear hb); (try clear hb2); (try clear hk); (try clear hi)))
    go_ret2
    exact ⟨by first | rfl | (simp [errW_none, errW_some] <;> rfl) | (simp [*, errW_none, errW_some] <;> rfl), by repeat (first | (with_reducible first | exact HB.out | apply below_alloc | apply pw_below_drewN | apply below_drew1 | refine below_set ?_ GE201.out) | exact HB.out)⟩

end Go.Proofs.YtggelekooacmnaaDoor.Q
namespace Go.Proofs.YtggelekooacmnaaDoor.Q
open Go.RowKit Go.Proofs.YtggelekooacmnaaDoorW.PrintWords Go.Proofs.YtggelekooacmnaaDoorW.PrintLast Go.Proofs.YtggelekooacmnaaDoorW.PrintMore
attribute [local go_sem] max2_int min2_int max_two min_two max_three min_three max_four min_four   -- for this text's walks alone
set_option linter.unusedVariables false
set_option linter.unusedSimpArgs false

/-! ### types_cells: function 42 -/
theorem cell_twice {w : World} {a : Addr} {u v : Value} (h : (w.cell? a).isSome = true) : ((w.setCell a u).setCell a v).cell? a = some v := by
 obtain ⟨x, hx⟩ := Option.isSome_iff_exists.1 h
 exact World.cell?_setCell_same _ _ _ (World.cell?_setCell_same _ _ _ hx)
mutual
def types_cells.j0 : Nat → Int → Bool → Int → Int → Int → Int → List (S24) → Int → Int → Int → Option ((List (S41)))
 | 0, _, _, _, _, _, _, _, _, _, _ => none
 | k + 1, x12, x15, x125000, x125001, x125002, x125003, x125004, x126000, x126001, x126002 => if x15 = true then (some (([(⟨x126000, x126001, x126002⟩ : S41)] : List (S41)))) else (if x12 = 2 then (some (([(⟨x125000, x125001, x125002⟩ : S41)] : List (S41)))) else (if x12 = 6 then (types_cells.l0 k (([(⟨2, 0, x125003⟩ : S41)] : List (S41))) x125003 0 x125000 x125001 x125002 x125003 x125004) else (types_cells.l1 k ([] : List (S41)) x125004 (x125004.length : Int) 0)))
def types_cells.l0 : Nat → List (S41) → Int → Int → Int → Int → Int → Int → List (S24) → Option ((List (S41)))
 | 0, _, _, _, _, _, _, _, _ => none
 | k + 1, x4, x38, x39, x125000, x125001, x125002, x125003, x125004 => if x39 < x38 then (if 0 < (x125004.length : Int) then ((types_cells.f k ((rd_T24 x125004 0).f0) ((rd_T24 x125004 0).f1) ((rd_T24 x125004 0).f2) ((rd_T24 x125004 0).f3) ((rd_T24 x125004 0).f4)).bind fun t139 => (if x4.length + t139.length < 5864062014805 then (types_cells.l0 k (x4 ++ t139) x38 (wrap64 (x39 + 1)) x125000 x125001 x125002 x125003 x125004) else (none))) else (none)) else (some x4)
def types_cells.l1 : Nat → List (S41) → List (S24) → Int → Int → Option ((List (S41)))
 | 0, _, _, _, _ => none
 | k + 1, x5, x51, x52, x53 => if x53 < x52 then (if 0 ≤ x53 then (if x53 < (x51.length : Int) then ((types_cells.f k ((rd_T24 x51 x53).f0) ((rd_T24 x51 x53).f1) ((rd_T24 x51 x53).f2) ((rd_T24 x51 x53).f3) ((rd_T24 x51 x53).f4)).bind fun t147 => (if x5.length + t147.length < 5864062014805 then (types_cells.l1 k (x5 ++ t147) x51 x52 (wrap64 (x53 + 1))) else (none))) else (none)) else (none)) else (some x5)
def types_cells.f : Nat → Int → Int → Int → Int → List (S24) → Option ((List (S41)))
 | 0, _, _, _, _, _ => none
 | k + 1, a0_0, a0_1, a0_2, a0_3, l0_4 => if a0_0 = 1 then (some (([(⟨a0_0, 0, 1⟩ : S41)] : List (S41)))) else (if a0_0 = 3 then (types_cells.j0 k a0_0 (a0_0 == 3) a0_0 a0_1 a0_2 a0_3 l0_4 a0_0 0 0) else (types_cells.j0 k a0_0 (a0_0 == 4) a0_0 a0_1 a0_2 a0_3 l0_4 a0_0 0 0))
end
theorem types_cells.mono_l : ∀ k, (∀ y0 y1 y2 y3 y4, LeO (types_cells.f k y0 y1 y2 y3 y4) (types_cells.f (k + 1) y0 y1 y2 y3 y4)) ∧ (∀ y0 y1 y2 y3 y4 y5 y6 y7 y8 y9, LeO (types_cells.j0 k y0 y1 y2 y3 y4 y5 y6 y7 y8 y9) (types_cells.j0 (k + 1) y0 y1 y2 y3 y4 y5 y6 y7 y8 y9)) ∧ (∀ y0 y1 y2 y3 y4 y5 y6 y7, LeO (types_cells.l0 k y0 y1 y2 y3 y4 y5 y6 y7) (types_cells.l0 (k + 1) y0 y1 y2 y3 y4 y5 y6 y7)) ∧ (∀ y0 y1 y2 y3, LeO (types_cells.l1 k y0 y1 y2 y3) (types_cells.l1 (k + 1) y0 y1 y2 y3))
 | 0 => ⟨fun _ _ _ _ _ r h => by simp [types_cells.f] at h, fun _ _ _ _ _ _ _ _ _ _ r h => by simp [types_cells.j0] at h, fun _ _ _ _ _ _ _ _ r h => by simp [types_cells.l0] at h, fun _ _ _ _ r h => by simp [types_cells.l1] at h⟩
 | k + 1 => by
  obtain ⟨ih0, ih1, ih2, ih3⟩ := types_cells.mono_l k
  refine ⟨?_, ?_, ?_, ?_⟩
  ·intro y0 y1 y2 y3 y4
   unfold types_cells.f
   repeat' first
   | (with_reducible exact ih0 _ _ _ _ _)
   | (with_reducible exact ih1 _ _ _ _ _ _ _ _ _ _)
   | (with_reducible exact ih2 _ _ _ _ _ _ _ _)
   | (with_reducible exact ih3 _ _ _ _)
   | (with_reducible exact LeO.refl _)
   | (with_reducible exact LeO.none _)
   | (with_reducible refine LeO.ite ?_ ?_)
   | (with_reducible refine LeO.bind ?_ (fun _ => ?_))
   | exact ih0 _ _ _ _ _
   | exact ih1 _ _ _ _ _ _ _ _ _ _
   | exact ih2 _ _ _ _ _ _ _ _
   | exact ih3 _ _ _ _
   | exact LeO.none _
   | refine LeO.ite ?_ ?_
   | refine LeO.bind ?_ (fun _ => ?_)
  ·intro y0 y1 y2 y3 y4 y5 y6 y7 y8 y9
   unfold types_cells.j0
   repeat' first
   | (with_reducible exact ih0 _ _ _ _ _)
   | (with_reducible exact ih1 _ _ _ _ _ _ _ _ _ _)
   | (with_reducible exact ih2 _ _ _ _ _ _ _ _)
   | (with_reducible exact ih3 _ _ _ _)
   | (with_reducible exact LeO.refl _)
   | (with_reducible exact LeO.none _)
   | (with_reducible refine LeO.ite ?_ ?_)
   | (with_reducible refine LeO.bind ?_ (fun _ => ?_))
   | exact ih0 _ _ _ _ _
   | exact ih1 _ _ _ _ _ _ _ _ _ _
   | exact ih2 _ _ _ _ _ _ _ _
   | exact ih3 _ _ _ _
   | exact LeO.none _
   | refine LeO.ite ?_ ?_
   | refine LeO.bind ?_ (fun _ => ?_)
  ·intro y0 y1 y2 y3 y4 y5 y6 y7
   unfold types_cells.l0
   repeat' first
   | (with_reducible exact ih0 _ _ _ _ _)
   | (with_reducible exact ih1 _ _ _ _ _ _ _ _ _ _)
   | (with_reducible exact ih2 _ _ _ _ _ _ _ _)
   | (with_reducible exact ih3 _ _ _ _)
   | (with_reducible exact LeO.refl _)
   | (with_reducible exact LeO.none _)
   | (with_reducible refine LeO.ite ?_ ?_)
   | (with_reducible refine LeO.bind ?_ (fun _ => ?_))
   | exact ih0 _ _ _ _ _
   | exact ih1 _ _ _ _ _ _ _ _ _ _
   | exact ih2 _ _ _ _ _ _ _ _
   | exact ih3 _ _ _ _
   | exact LeO.none _
   | refine LeO.ite ?_ ?_
   | refine LeO.bind ?_ (fun _ => ?_)
  ·intro y0 y1 y2 y3
   unfold types_cells.l1
   repeat' first
   | (with_reducible exact ih0 _ _ _ _ _)
   | (with_reducible exact ih1 _ _ _ _ _ _ _ _ _ _)
   | (with_reducible exact ih2 _ _ _ _ _ _ _ _)
   | (with_reducible exact ih3 _ _ _ _)
   | (with_reducible exact LeO.refl _)
   | (with_reducible exact LeO.none _)
   | (with_reducible refine LeO.ite ?_ ?_)
   | (with_reducible refine LeO.bind ?_ (fun _ => ?_))
   | exact ih0 _ _ _ _ _
   | exact ih1 _ _ _ _ _ _ _ _ _ _
   | exact ih2 _ _ _ _ _ _ _ _
   | exact ih3 _ _ _ _
   | exact LeO.none _
   | refine LeO.ite ?_ ?_
   | refine LeO.bind ?_ (fun _ => ?_)
theorem types_cells.mono : ∀ a0 a1 a2 a3 a4 k, LeO (types_cells.f k a0 a1 a2 a3 a4) (types_cells.f (k + 1) a0 a1 a2 a3 a4) := by
 intro a0 a1 a2 a3 a4 k
 obtain ⟨ih0, ih1, ih2, ih3⟩ := types_cells.mono_l k
 exact ih0 a0 a1 a2 a3 a4
set_option maxHeartbeats 8000000 in
set_option maxRecDepth 100000 in
theorem types_cells.calls (k : Nat) : ∀ (a0_0 : Int) (a0_1 : Int) (a0_2 : Int) (a0_3 : Int) (A0_4 : Option Addr) (c0_4 : Nat) (l0_4 : List (S24)) (r : List (S41)) (w : World) (hr0_4 : Kd.C k24 w A0_4 l0_4.length l0_4) (hc0_4 : l0_4.length ≤ c0_4) (h : types_cells.f k a0_0 a0_1 a0_2 a0_3 l0_4 = some r),
  Calls Tryd.prog 42 #[.agg #[.int .i64 a0_0, .int .i64 a0_1, .int .i64 a0_2, .int .i64 a0_3, .slice A0_4 l0_4.length c0_4]] w fun e w' => ∃ v0_ : Value, e = .returned (v0_) ∧ Kd.R k41 41 w' w.heap.size (fun _ => True) v0_ r ∧ Below w.heap.size w w' := by
 induction k using Nat.strongRecOn with
 | _ k ih =>
 intro a0_0 a0_1 a0_2 a0_3 A0_4 c0_4 l0_4 r w hr0_4 hc0_4 h
 cases k with
 | zero => exact absurd h (by simp [types_cells.f])
 | succ k =>
 simp only [types_cells.f] at h
 have hu24 := Tryd.underlying24
 have hu41 := Tryd.underlying41
 have HR0_4 := Aside0.mk hr0_4
 have HC0_4 := Aside0.mk hc0_4
 clear hr0_4 hc0_4
 have HB := Aside0.mk (Below.refl w.heap.size w)
 have HSS := @cell_twice
 have H : (if a0_0 = 1 then (some (([(⟨a0_0, 0, 1⟩ : S41)] : List (S41)))) else (if a0_0 = 3 then (types_cells.j0 k a0_0 (a0_0 == 3) a0_0 a0_1 a0_2 a0_3 l0_4 a0_0 0 0) else (types_cells.j0 k a0_0 (a0_0 == 4) a0_0 a0_1 a0_2 a0_3 l0_4 a0_0 0 0))) = some r := h
 clear h
 by_cases c2 : a0_0 = 1
 ·rw [if_pos c2] at H
  have c2b0 : (a0_0 == 1) = true := beq_iff_eq.mpr c2
  have c2b1 : (a0_0 != 1) = false := bne_eq_false_iff_eq.mpr c2
  clear c2
  obtain ⟨y126, hy126⟩ : ∃ y_ : List (S41), y_ = (([(⟨a0_0, 0, 1⟩ : S41)] : List (S41))) := ⟨_, rfl⟩
  replace H : (some y126) = some r := by first | (rw [hy126]; with_reducible exact H) | (have H2_ := (Option.bind_some _ _).symm.trans H; rw [hy126]; with_reducible exact H2_) | (have H2_ := (Option.bind_some _ _).symm.trans H; with_reducible exact H2_) | with_reducible exact H | (rw [hy126]; exact H) | exact H
  have Ny126 := Aside0.mk hy126
  clear hy126
  obtain rfl := Option.some.inj H
  go_enter Tryd.func42, Tryd.ntmps42
  go_wp2_with (first | ((with_reducible refine gate_dst (N := 1) rfl ?_); refine box_event ?hg (N := 1) ?hd (cs := #[.int .i64 a0_0, .int .i64 a0_1, .int .i64 a0_2, .int .i64 a0_3, .slice A0_4 l0_4.length c0_4]) (t := 24) ?hr ?_; (case hd => rfl); (case hg => rfl); (case hr => first | (go_simp; done) | (go_simp; rfl)); intro gb124 hg w3 hbox hb; have BK124 := Aside0.mk (hbox); have GW124 : Aside0 (w.heap.size ≤ gb124) := gw_ hg (below_size bl_); have GE124 := GW124; replace HB := Aside0.mk (below_step bl_ hb); clear hb hbox hg; obtain ⟨hcz4_0, hcz4_1, hcz4_2, hcz4_3, hcz4_4, hfz4_0, hfz4_1, hfz4_2, hfz4_3, hfz4_4⟩ := cf5_ BK124.out) | ((with_reducible refine gate_dst (N := 3) rfl ?_); refine box_event ?hg (N := 3) ?hd (cs := #[.int .i64 0, .int .i64 0, .int .i64 0]) (t := 41) ?hr ?_; (case hd => rfl); (case hg => rfl); (case hr => first | (go_simp; done) | (go_simp; rfl)); intro gb125 hg w5 hbox hb; have BK125 := Aside0.mk (hbox); have GW125 : Aside0 (w.heap.size ≤ gb125) := gw_ hg (below_size bl_); have GE125 := GW125; have NB124_125 := Aside0.mk ((by rw [hg]; exact Nat.ne_of_lt (blk_lt (g := gb124) (o := .cells #[.int .i64 a0_0, .int .i64 a0_1, .int .i64 a0_2, .int .i64 a0_3, .slice A0_4 l0_4.length c0_4] 24 (0, 0)) bk_) : gb124 ≠ gb125)); have NB125_124 := Aside0.mk ((by rw [hg]; exact Nat.ne_of_gt (blk_lt (g := gb124) (o := .cells #[.int .i64 a0_0, .int .i64 a0_1, .int .i64 a0_2, .int .i64 a0_3, .slice A0_4 l0_4.length c0_4] 24 (0, 0)) bk_) : gb125 ≠ gb124)); replace BK124 := Aside0.mk (blk_below (g := gb124) (o := .cells #[.int .i64 a0_0, .int .i64 a0_1, .int .i64 a0_2, .int .i64 a0_3, .slice A0_4 l0_4.length c0_4] 24 (0, 0)) bk_ hb); replace HB := Aside0.mk (below_step bl_ hb); clear hb hbox hg; have hnb6 := NB125_124.out; have hnc6 := NB124_125.out; obtain ⟨hcz7_0, hcz7_1, hcz7_2, hfz7_0, hfz7_1, hfz7_2⟩ := cf3_ BK125.out; obtain ⟨hcz8_0, hcz8_1, hcz8_2, hcz8_3, hcz8_4, hfz8_0, hfz8_1, hfz8_2, hfz8_3, hfz8_4⟩ := cf5_ BK124.out) | ((with_reducible refine gate_dst (N := 24) rfl ?_); refine Kd.R_lit k41 _ 41 ?hg (N := 24) ?hd (xs := ([(⟨a0_0, 0, 1⟩ : S41)] : List (S41))) (inner := [.int .i64 a0_0, .int .i64 0, .int .i64 1]) (ok := fun _ => True) (okp := fun _ => True) ?hr ?hp (fun _ hk => hk) trivial (Below.refl _ _) (Nat.le_refl _) (by simp) ?_; (case hd => rfl); (case hg => rfl); (case hr => first | (go_simp; done) | (go_simp; rfl)); (case hp => exact (Reps.c3 (show Kd.M k41 _ _ _ (⟨a0_0, 0, 1⟩ : S41) [.int .i64 a0_0, .int .i64 0, .int .i64 1] from (k41_mkM _ _ _ (⟨a0_0, 0, 1⟩ : S41) )) (Reps.none _ _))); intro v127 w9 ho10 hb hg_ hnew_; clear hg_ hnew_; (first | rw [← Ny126.out] at ho10 | (simp only [Int.reduceToNat] at ho10; rw [← Ny126.out] at ho10)); have HO128 := Aside0.mk (Kd.R_lower (Kd.R_newB ho10 (g := gb125) (o := .cells #[.int .i64 a0_0, .int .i64 0, .int .i64 1] 41 (0, 0)) (by (with_reducible repeat (first | refine blk_drewN ?_ _ | refine blk_drew ?_ | refine blk_alloc ?_ _)); refine blk_put (cs := #[.int .i64 a0_0, .int .i64 0, .int .i64 0]) ?_ 2 _ rfl; (with_reducible repeat (first | refine blk_drewN ?_ _ | refine blk_drew ?_ | refine blk_alloc ?_ _)); refine blk_put (cs := #[.int .i64 a0_0, .int .i64 0, .int .i64 0]) ?_ 2 _ rfl; (with_reducible repeat (first | refine blk_drewN ?_ _ | refine blk_drew ?_ | refine blk_alloc ?_ _)); refine blk_put (cs := #[.int .i64 a0_0, .int .i64 0, .int .i64 0]) ?_ 1 _ rfl; (with_reducible repeat (first | refine blk_drewN ?_ _ | refine blk_drew ?_ | refine blk_alloc ?_ _)); refine blk_put (cs := #[.int .i64 0, .int .i64 0, .int .i64 0]) ?_ 0 _ rfl; (with_reducible repeat (first | refine blk_drewN ?_ _ | refine blk_drew ?_ | refine blk_alloc ?_ _)); exact BK125.out)) (below_size bl_)); replace BK124 := Aside0.mk (blk_below (g := gb124) (o := .cells #[.int .i64 a0_0, .int .i64 a0_1, .int .i64 a0_2, .int .i64 a0_3, .slice A0_4 l0_4.length c0_4] 24 (0, 0)) (by (with_reducible repeat (first | refine blk_drewN ?_ _ | refine blk_drew ?_ | refine blk_alloc ?_ _)); refine blk_far ?_ NB124_125.out _; (with_reducible repeat (first | refine blk_drewN ?_ _ | refine blk_drew ?_ | refine blk_alloc ?_ _)); refine blk_far ?_ NB124_125.out _; (with_reducible repeat (first | refine blk_drewN ?_ _ | refine blk_drew ?_ | refine blk_alloc ?_ _)); refine blk_far ?_ NB124_125.out _; (with_reducible repeat (first | refine blk_drewN ?_ _ | refine blk_drew ?_ | refine blk_alloc ?_ _)); refine blk_far ?_ NB124_125.out _; (with_reducible repeat (first | refine blk_drewN ?_ _ | refine blk_drew ?_ | refine blk_alloc ?_ _)); exact BK124.out) hb); replace BK125 := Aside0.mk (blk_below (g := gb125) (o := .cells #[.int .i64 a0_0, .int .i64 0, .int .i64 1] 41 (0, 0)) (by (with_reducible repeat (first | refine blk_drewN ?_ _ | refine blk_drew ?_ | refine blk_alloc ?_ _)); refine blk_put (cs := #[.int .i64 a0_0, .int .i64 0, .int .i64 0]) ?_ 2 _ rfl; (with_reducible repeat (first | refine blk_drewN ?_ _ | refine blk_drew ?_ | refine blk_alloc ?_ _)); refine blk_put (cs := #[.int .i64 a0_0, .int .i64 0, .int .i64 0]) ?_ 2 _ rfl; (with_reducible repeat (first | refine blk_drewN ?_ _ | refine blk_drew ?_ | refine blk_alloc ?_ _)); refine blk_put (cs := #[.int .i64 a0_0, .int .i64 0, .int .i64 0]) ?_ 1 _ rfl; (with_reducible repeat (first | refine blk_drewN ?_ _ | refine blk_drew ?_ | refine blk_alloc ?_ _)); refine blk_put (cs := #[.int .i64 0, .int .i64 0, .int .i64 0]) ?_ 0 _ rfl; (with_reducible repeat (first | refine blk_drewN ?_ _ | refine blk_drew ?_ | refine blk_alloc ?_ _)); exact BK125.out) hb); replace HB := Aside0.mk (below_step bl_ hb); clear hb ho10))
  go_ret
  exact ⟨_, re_, by (with_reducible repeat (first | apply Kd.R_alloc | apply Kd.R_drewN | apply Kd.R_drew)); exact Kd.R_mono HO128.out (fun _ hk => trivial), bl_⟩
 ·rw [if_neg c2] at H
  have c2b0 : (a0_0 == 1) = false := beq_eq_false_iff_ne.mpr c2
  have c2b1 : (a0_0 != 1) = true := bne_iff_ne.mpr c2
  have HC11 := Aside0.mk H
  clear H
  go_enter Tryd.func42, Tryd.ntmps42
  go_upto_if 15 with (first | ((with_reducible refine gate_dst (N := 1) rfl ?_); refine box_event ?hg (N := 1) ?hd (cs := #[.int .i64 a0_0, .int .i64 a0_1, .int .i64 a0_2, .int .i64 a0_3, .slice A0_4 l0_4.length c0_4]) (t := 24) ?hr ?_; (case hd => rfl); (case hg => rfl); (case hr => first | (go_simp; done) | (go_simp; rfl)); intro gb124 hg w12 hbox hb; have BK124 := Aside0.mk (hbox); have GW124 : Aside0 (w.heap.size ≤ gb124) := gw_ hg (below_size bl_); have GE124 := GW124; replace HB := Aside0.mk (below_step bl_ hb); clear hb hbox hg; obtain ⟨hcz13_0, hcz13_1, hcz13_2, hcz13_3, hcz13_4, hfz13_0, hfz13_1, hfz13_2, hfz13_3, hfz13_4⟩ := cf5_ BK124.out) | ((with_reducible refine gate_dst (N := 3) rfl ?_); refine box_event ?hg (N := 3) ?hd (cs := #[.int .i64 0, .int .i64 0, .int .i64 0]) (t := 41) ?hr ?_; (case hd => rfl); (case hg => rfl); (case hr => first | (go_simp; done) | (go_simp; rfl)); intro gb125 hg w14 hbox hb; have BK125 := Aside0.mk (hbox); have GW125 : Aside0 (w.heap.size ≤ gb125) := gw_ hg (below_size bl_); have GE125 := GW125; have NB124_125 := Aside0.mk ((by rw [hg]; exact Nat.ne_of_lt (blk_lt (g := gb124) (o := .cells #[.int .i64 a0_0, .int .i64 a0_1, .int .i64 a0_2, .int .i64 a0_3, .slice A0_4 l0_4.length c0_4] 24 (0, 0)) bk_) : gb124 ≠ gb125)); have NB125_124 := Aside0.mk ((by rw [hg]; exact Nat.ne_of_gt (blk_lt (g := gb124) (o := .cells #[.int .i64 a0_0, .int .i64 a0_1, .int .i64 a0_2, .int .i64 a0_3, .slice A0_4 l0_4.length c0_4] 24 (0, 0)) bk_) : gb125 ≠ gb124)); replace BK124 := Aside0.mk (blk_below (g := gb124) (o := .cells #[.int .i64 a0_0, .int .i64 a0_1, .int .i64 a0_2, .int .i64 a0_3, .slice A0_4 l0_4.length c0_4] 24 (0, 0)) bk_ hb); replace HB := Aside0.mk (below_step bl_ hb); clear hb hbox hg; have hnb15 := NB125_124.out; have hnc15 := NB124_125.out; obtain ⟨hcz16_0, hcz16_1, hcz16_2, hfz16_0, hfz16_1, hfz16_2⟩ := cf3_ BK125.out; obtain ⟨hcz17_0, hcz17_1, hcz17_2, hcz17_3, hcz17_4, hfz17_0, hfz17_1, hfz17_2, hfz17_3, hfz17_4⟩ := cf5_ BK124.out))
  (try simp only [Act.put, List.setIfInBounds_toArray, List.set_cons_zero, List.set_cons_succ])
  go_cut [15] (fun v15 wc => ∃ (kq : Nat) (x15_10 : Bool), v15 = .bool x15_10 ∧ Aside0 (types_cells.j0 kq a0_0 x15_10 a0_0 a0_1 a0_2 a0_3 l0_4 a0_0 0 0 = some r) ∧ Aside0 (kq ≤ k) ∧ Aside0 (wc.heap[gb124]? = some (.cells #[.int .i64 a0_0, .int .i64 a0_1, .int .i64 a0_2, .int .i64 a0_3, (.slice A0_4 l0_4.length c0_4)] 24 (0, 0))) ∧ Aside0 (wc.heap[gb125]? = some (.cells #[.int .i64 a0_0, .int .i64 0, .int .i64 0] 41 (0, 0))) ∧ Aside0 (Below w.heap.size w wc))
  case first =>
   have H := HC11.out
   clear HC11
   by_cases c18 : a0_0 = 3
   ·rw [if_pos c18] at H
    have c18b0 : (a0_0 == 3) = true := beq_iff_eq.mpr c18
    have c18b1 : (a0_0 != 3) = false := bne_eq_false_iff_eq.mpr c18
    clear c18
    (first | rw [c18b0] | (simp only [i64_w, i32_w]; rw [c18b0]) | skip)
    have H' := Aside0.mk H
    clear H
    go_wp2
    go_meet
    case rel => exact ⟨_, ((a0_0 == 3)), rs_, H', ⟨by first | omega | exact Nat.le_refl _⟩, ⟨by (with_reducible repeat (first | refine blk_drewN ?_ _ | refine blk_drew ?_ | refine blk_alloc ?_ _)); refine blk_far ?_ NB124_125.out _; (with_reducible repeat (first | refine blk_drewN ?_ _ | refine blk_drew ?_ | refine blk_alloc ?_ _)); refine blk_far ?_ NB124_125.out _; (with_reducible repeat (first | refine blk_drewN ?_ _ | refine blk_drew ?_ | refine blk_alloc ?_ _)); refine blk_far ?_ NB124_125.out _; (with_reducible repeat (first | refine blk_drewN ?_ _ | refine blk_drew ?_ | refine blk_alloc ?_ _)); exact BK124.out⟩, ⟨by (with_reducible repeat (first | refine blk_drewN ?_ _ | refine blk_drew ?_ | refine blk_alloc ?_ _)); refine blk_put (cs := #[.int .i64 a0_0, .int .i64 0, .int .i64 0]) ?_ 2 _ rfl; (with_reducible repeat (first | refine blk_drewN ?_ _ | refine blk_drew ?_ | refine blk_alloc ?_ _)); refine blk_put (cs := #[.int .i64 a0_0, .int .i64 0, .int .i64 0]) ?_ 1 _ rfl; (with_reducible repeat (first | refine blk_drewN ?_ _ | refine blk_drew ?_ | refine blk_alloc ?_ _)); refine blk_put (cs := #[.int .i64 0, .int .i64 0, .int .i64 0]) ?_ 0 _ rfl; (with_reducible repeat (first | refine blk_drewN ?_ _ | refine blk_drew ?_ | refine blk_alloc ?_ _)); exact BK125.out⟩, ⟨bl_⟩⟩
   ·rw [if_neg c18] at H
    have c18b0 : (a0_0 == 3) = false := beq_eq_false_iff_ne.mpr c18
    have c18b1 : (a0_0 != 3) = true := bne_iff_ne.mpr c18
    (first | rw [c18b0] | (simp only [i64_w, i32_w]; rw [c18b0]) | skip)
    have H' := Aside0.mk H
    clear H
    go_wp2
    go_meet
    case rel => exact ⟨_, ((a0_0 == 4)), rs_, H', ⟨by first | omega | exact Nat.le_refl _⟩, ⟨by (with_reducible repeat (first | refine blk_drewN ?_ _ | refine blk_drew ?_ | refine blk_alloc ?_ _)); refine blk_far ?_ NB124_125.out _; (with_reducible repeat (first | refine blk_drewN ?_ _ | refine blk_drew ?_ | refine blk_alloc ?_ _)); refine blk_far ?_ NB124_125.out _; (with_reducible repeat (first | refine blk_drewN ?_ _ | refine blk_drew ?_ | refine blk_alloc ?_ _)); refine blk_far ?_ NB124_125.out _; (with_reducible repeat (first | refine blk_drewN ?_ _ | refine blk_drew ?_ | refine blk_alloc ?_ _)); exact BK124.out⟩, ⟨by (with_reducible repeat (first | refine blk_drewN ?_ _ | refine blk_drew ?_ | refine blk_alloc ?_ _)); refine blk_put (cs := #[.int .i64 a0_0, .int .i64 0, .int .i64 0]) ?_ 2 _ rfl; (with_reducible repeat (first | refine blk_drewN ?_ _ | refine blk_drew ?_ | refine blk_alloc ?_ _)); refine blk_put (cs := #[.int .i64 a0_0, .int .i64 0, .int .i64 0]) ?_ 1 _ rfl; (with_reducible repeat (first | refine blk_drewN ?_ _ | refine blk_drew ?_ | refine blk_alloc ?_ _)); refine blk_put (cs := #[.int .i64 0, .int .i64 0, .int .i64 0]) ?_ 0 _ rfl; (with_reducible repeat (first | refine blk_drewN ?_ _ | refine blk_drew ?_ | refine blk_alloc ?_ _)); exact BK125.out⟩, ⟨bl_⟩⟩
  case rest =>
   clear HC11
   try clear c1
   try clear c2
   try clear c2b0
   try clear c2b1
   try clear p2
   try clear c3
   try clear c4
   try clear c6
   try clear c15
   try clear c18
   try clear c18b0
   try clear c18b1
   try clear hcz13_0 hcz13_1 hcz13_2 hcz13_3 hcz13_4 hfz13_0 hfz13_1 hfz13_2 hfz13_3 hfz13_4
   try clear hcz16_0 hcz16_1 hcz16_2 hfz16_0 hfz16_1 hfz16_2
   try clear hcz17_0 hcz17_1 hcz17_2 hcz17_3 hcz17_4 hfz17_0 hfz17_1 hfz17_2 hfz17_3 hfz17_4
   try clear hcz4_0 hcz4_1 hcz4_2 hcz4_3 hcz4_4 hfz4_0 hfz4_1 hfz4_2 hfz4_3 hfz4_4
   try clear hcz7_0 hcz7_1 hcz7_2 hfz7_0 hfz7_1 hfz7_2
   try clear hcz8_0 hcz8_1 hcz8_2 hcz8_3 hcz8_4 hfz8_0 hfz8_1 hfz8_2 hfz8_3 hfz8_4
   obtain ⟨kq, x15_10, rfl, HA, HJ10, BK124, BK125, HB⟩ := hcut
   cases kq with
   | zero => exact absurd HA.out (by simp [types_cells.j0])
   | succ kj10 =>
    have H := HA.out
    clear HA
    simp only [types_cells.j0] at H
    by_cases c19 : x15_10 = true
    ·subst c19
     have H1 : (some (([(⟨a0_0, 0, 0⟩ : S41)] : List (S41)))) = some r := by rw [if_pos rfl] at H; exact H
     clear H
     have H := H1
     clear H1
     obtain ⟨y129, hy129⟩ : ∃ y_ : List (S41), y_ = (([(⟨a0_0, 0, 0⟩ : S41)] : List (S41))) := ⟨_, rfl⟩
     replace H : (some y129) = some r := by first | (rw [hy129]; with_reducible exact H) | (have H2_ := (Option.bind_some _ _).symm.trans H; rw [hy129]; with_reducible exact H2_) | (have H2_ := (Option.bind_some _ _).symm.trans H; with_reducible exact H2_) | with_reducible exact H | (rw [hy129]; exact H) | exact H
     have Ny129 := Aside0.mk hy129
     clear hy129
     obtain rfl := Option.some.inj H
     have hnb20 := NB125_124.out
     have hnc20 := NB124_125.out
     obtain ⟨hcz21_0, hcz21_1, hcz21_2, hfz21_0, hfz21_1, hfz21_2⟩ := cf3_ BK125.out
     go_wp2_with (first | ((with_reducible refine gate_dst (N := 24) rfl ?_); refine Kd.R_lit k41 _ 41 ?hg (N := 24) ?hd (xs := ([(⟨a0_0, 0, 0⟩ : S41)] : List (S41))) (inner := [.int .i64 a0_0, .int .i64 0, .int .i64 0]) (ok := fun _ => True) (okp := fun _ => True) ?hr ?hp (fun _ hk => hk) trivial (Below.refl _ _) (Nat.le_refl _) (by simp) ?_; (case hd => rfl); (case hg => rfl); (case hr => first | (go_simp; done) | (go_simp; rfl)); (case hp => exact (Reps.c3 (show Kd.M k41 _ _ _ (⟨a0_0, 0, 0⟩ : S41) [.int .i64 a0_0, .int .i64 0, .int .i64 0] from (k41_mkM _ _ _ (⟨a0_0, 0, 0⟩ : S41) )) (Reps.none _ _))); intro v130 w22 ho23 hb hg_ hnew_; clear hg_ hnew_; (first | rw [← Ny129.out] at ho23 | (simp only [Int.reduceToNat] at ho23; rw [← Ny129.out] at ho23)); have HO131 := Aside0.mk (Kd.R_lower (Kd.R_newB ho23 (g := gb125) (o := .cells #[.int .i64 a0_0, .int .i64 0, .int .i64 0] 41 (0, 0)) bk_) (below_size bl_)); replace BK124 := Aside0.mk (blk_below (g := gb124) (o := .cells #[.int .i64 a0_0, .int .i64 a0_1, .int .i64 a0_2, .int .i64 a0_3, .slice A0_4 l0_4.length c0_4] 24 (0, 0)) bk_ hb); replace BK125 := Aside0.mk (blk_below (g := gb125) (o := .cells #[.int .i64 a0_0, .int .i64 0, .int .i64 0] 41 (0, 0)) bk_ hb); replace HB := Aside0.mk (below_step bl_ hb); clear hb ho23))
     go_ret
     exact ⟨_, re_, by (with_reducible repeat (first | apply Kd.R_alloc | apply Kd.R_drewN | apply Kd.R_drew)); exact Kd.R_mono HO131.out (fun _ hk => trivial), bl_⟩
    ·replace c19 := Bool.eq_false_iff.mpr c19
     subst c19
     have H1 : (if a0_0 = 2 then (some (([(⟨a0_0, a0_1, a0_2⟩ : S41)] : List (S41)))) else (if a0_0 = 6 then (types_cells.l0 kj10 (([(⟨2, 0, a0_3⟩ : S41)] : List (S41))) a0_3 0 a0_0 a0_1 a0_2 a0_3 l0_4) else (types_cells.l1 kj10 ([] : List (S41)) l0_4 (l0_4.length : Int) 0))) = some r := by rw [if_neg (show ¬ (false = true) by decide)] at H; exact H
     clear H
     have H := H1
     clear H1
     by_cases c24 : a0_0 = 2
     ·rw [if_pos c24] at H
      have c24b0 : (a0_0 == 2) = true := beq_iff_eq.mpr c24
      have c24b1 : (a0_0 != 2) = false := bne_eq_false_iff_eq.mpr c24
      clear c24
      obtain ⟨y132, hy132⟩ : ∃ y_ : List (S41), y_ = (([(⟨a0_0, a0_1, a0_2⟩ : S41)] : List (S41))) := ⟨_, rfl⟩
      replace H : (some y132) = some r := by first | (rw [hy132]; with_reducible exact H) | (have H2_ := (Option.bind_some _ _).symm.trans H; rw [hy132]; with_reducible exact H2_) | (have H2_ := (Option.bind_some _ _).symm.trans H; with_reducible exact H2_) | with_reducible exact H | (rw [hy132]; exact H) | exact H
      have Ny132 := Aside0.mk hy132
      clear hy132
      obtain rfl := Option.some.inj H
      have hnb25 := NB124_125.out
      have hnc25 := NB125_124.out
      obtain ⟨hcz26_0, hcz26_1, hcz26_2, hcz26_3, hcz26_4, hfz26_0, hfz26_1, hfz26_2, hfz26_3, hfz26_4⟩ := cf5_ BK124.out
      go_wp2_with (first | ((with_reducible refine gate_dst (N := 32) rfl ?_); refine Kd.R_lit k41 _ 41 ?hg (N := 32) ?hd (xs := ([(⟨a0_0, a0_1, a0_2⟩ : S41)] : List (S41))) (inner := [.int .i64 a0_0, .int .i64 a0_1, .int .i64 a0_2]) (ok := fun _ => True) (okp := fun _ => True) ?hr ?hp (fun _ hk => hk) trivial (Below.refl _ _) (Nat.le_refl _) (by simp) ?_; (case hd => rfl); (case hg => rfl); (case hr => first | (go_simp; done) | (go_simp; rfl)); (case hp => exact (Reps.c3 (show Kd.M k41 _ _ _ (⟨a0_0, a0_1, a0_2⟩ : S41) [.int .i64 a0_0, .int .i64 a0_1, .int .i64 a0_2] from (k41_mkM _ _ _ (⟨a0_0, a0_1, a0_2⟩ : S41) )) (Reps.none _ _))); intro v133 w27 ho28 hb hg_ hnew_; clear hg_ hnew_; (first | rw [← Ny132.out] at ho28 | (simp only [Int.reduceToNat] at ho28; rw [← Ny132.out] at ho28)); have HO134 := Aside0.mk (Kd.R_lower (Kd.R_newB ho28 (g := gb125) (o := .cells #[.int .i64 a0_0, .int .i64 0, .int .i64 0] 41 (0, 0)) bk_) (below_size bl_)); replace BK124 := Aside0.mk (blk_below (g := gb124) (o := .cells #[.int .i64 a0_0, .int .i64 a0_1, .int .i64 a0_2, .int .i64 a0_3, .slice A0_4 l0_4.length c0_4] 24 (0, 0)) bk_ hb); replace BK125 := Aside0.mk (blk_below (g := gb125) (o := .cells #[.int .i64 a0_0, .int .i64 0, .int .i64 0] 41 (0, 0)) bk_ hb); replace HB := Aside0.mk (below_step bl_ hb); clear hb ho28))
      go_ret
      exact ⟨_, re_, by (with_reducible repeat (first | apply Kd.R_alloc | apply Kd.R_drewN | apply Kd.R_drew)); exact Kd.R_mono HO134.out (fun _ hk => trivial), bl_⟩
     ·rw [if_neg c24] at H
      have c24b0 : (a0_0 == 2) = false := beq_eq_false_iff_ne.mpr c24
      have c24b1 : (a0_0 != 2) = true := bne_iff_ne.mpr c24
      by_cases c29 : a0_0 = 6
      ·rw [if_pos c29] at H
       have c29b0 : (a0_0 == 6) = true := beq_iff_eq.mpr c29
       have c29b1 : (a0_0 != 6) = false := bne_eq_false_iff_eq.mpr c29
       clear c29
       obtain ⟨y135, hy135⟩ : ∃ y_ : List (S41), y_ = (([(⟨2, 0, a0_3⟩ : S41)] : List (S41))) := ⟨_, rfl⟩
       replace H : (types_cells.l0 kj10 y135 a0_3 0 a0_0 a0_1 a0_2 a0_3 l0_4) = some r := by first | (rw [hy135]; with_reducible exact H) | (have H2_ := (Option.bind_some _ _).symm.trans H; rw [hy135]; with_reducible exact H2_) | (have H2_ := (Option.bind_some _ _).symm.trans H; with_reducible exact H2_) | with_reducible exact H | (rw [hy135]; exact H) | exact H
       have Ny135 := Aside0.mk hy135
       clear hy135
       have H' := Aside0.mk H
       clear H
       have hnb30 := NB124_125.out
       have hnc30 := NB125_124.out
       obtain ⟨hcz31_0, hcz31_1, hcz31_2, hcz31_3, hcz31_4, hfz31_0, hfz31_1, hfz31_2, hfz31_3, hfz31_4⟩ := cf5_ BK124.out
       go_wp2_with (first | ((with_reducible refine gate_dst (N := 36) rfl ?_); refine Kd.R_lit k41 _ 41 ?hg (N := 36) ?hd (xs := ([(⟨2, 0, a0_3⟩ : S41)] : List (S41))) (inner := [.int .i64 2, .int .i64 0, .int .i64 a0_3]) (ok := fun _ => True) (okp := fun _ => True) ?hr ?hp (fun _ hk => hk) trivial (Below.refl _ _) (Nat.le_refl _) (by simp) ?_; (case hd => rfl); (case hg => rfl); (case hr => first | (go_simp; done) | (go_simp; rfl)); (case hp => exact (Reps.c3 (show Kd.M k41 _ _ _ (⟨2, 0, a0_3⟩ : S41) [.int .i64 2, .int .i64 0, .int .i64 a0_3] from (k41_mkM _ _ _ (⟨2, 0, a0_3⟩ : S41) )) (Reps.none _ _))); intro v136 w32 ho33 hb hg_ hnew_; clear hg_ hnew_; (first | rw [← Ny135.out] at ho33 | (simp only [Int.reduceToNat] at ho33; rw [← Ny135.out] at ho33)); have HO137 := Aside0.mk (Kd.R_lower (Kd.R_newB ho33 (g := gb125) (o := .cells #[.int .i64 a0_0, .int .i64 0, .int .i64 0] 41 (0, 0)) bk_) (below_size bl_)); replace BK124 := Aside0.mk (blk_below (g := gb124) (o := .cells #[.int .i64 a0_0, .int .i64 a0_1, .int .i64 a0_2, .int .i64 a0_3, .slice A0_4 l0_4.length c0_4] 24 (0, 0)) bk_ hb); replace BK125 := Aside0.mk (blk_below (g := gb125) (o := .cells #[.int .i64 a0_0, .int .i64 0, .int .i64 0] 41 (0, 0)) bk_ hb); replace HB := Aside0.mk (below_step bl_ hb); clear hb ho33; obtain ⟨hcz34_0, hcz34_1, hcz34_2, hcz34_3, hcz34_4, hfz34_0, hfz34_1, hfz34_2, hfz34_3, hfz34_4⟩ := cf5_ BK124.out))
       go_loopg [4, 39] kj10 (fun kq v4 v39 w' => ∃ (x4_2 : List (S41)) (x39_2 : Int), v39 = .int .i64 x39_2 ∧ Aside0 (types_cells.l0 kq x4_2 a0_3 x39_2 a0_0 a0_1 a0_2 a0_3 l0_4 = some r) ∧ Aside0 (kq ≤ kj10) ∧ Aside0 (Kd.R k41 41 w' w.heap.size (fun k_ => k_ ≠ gb125) v4 x4_2) ∧ Aside0 (w'.heap[gb124]? = some (.cells #[.int .i64 a0_0, .int .i64 a0_1, .int .i64 a0_2, .int .i64 a0_3, (.slice A0_4 l0_4.length c0_4)] 24 (0, 0))) ∧ Aside0 (w'.heap[gb125]? = some (.cells #[.int .i64 a0_0, .int .i64 0, .int .i64 0] 41 (0, 0))) ∧ Aside0 (Below w.heap.size w w'))
       case atStart => exact ⟨(y135), (0), rs_, H', ⟨Nat.le_refl _⟩, ⟨by (with_reducible repeat (first | apply Kd.R_alloc | apply Kd.R_drewN | apply Kd.R_drew)); exact Kd.R_mono HO137.out (fun _ hk => hk.2)⟩, ⟨bk_⟩, ⟨bk_⟩, ⟨bl_⟩⟩
       case round =>
        clear H'
        try clear c1
        try clear c2
        try clear c2b0
        try clear c2b1
        try clear p2
        try clear c3
        try clear c4
        try clear c6
        try clear c15
        try clear c18
        try clear c18b0
        try clear c18b1
        try clear c19
        try clear c20
        try clear c24
        try clear c24b0
        try clear c24b1
        try clear c25
        try clear c29
        try clear c29b0
        try clear c29b1
        try clear c30
        try clear hcz13_0 hcz13_1 hcz13_2 hcz13_3 hcz13_4 hfz13_0 hfz13_1 hfz13_2 hfz13_3 hfz13_4
        try clear hcz16_0 hcz16_1 hcz16_2 hfz16_0 hfz16_1 hfz16_2
        try clear hcz17_0 hcz17_1 hcz17_2 hcz17_3 hcz17_4 hfz17_0 hfz17_1 hfz17_2 hfz17_3 hfz17_4
        try clear hcz21_0 hcz21_1 hcz21_2 hfz21_0 hfz21_1 hfz21_2
        try clear hcz26_0 hcz26_1 hcz26_2 hcz26_3 hcz26_4 hfz26_0 hfz26_1 hfz26_2 hfz26_3 hfz26_4
        try clear hcz31_0 hcz31_1 hcz31_2 hcz31_3 hcz31_4 hfz31_0 hfz31_1 hfz31_2 hfz31_3 hfz31_4
        try clear hcz34_0 hcz34_1 hcz34_2 hcz34_3 hcz34_4 hfz34_0 hfz34_1 hfz34_2 hfz34_3 hfz34_4
        try clear hcz4_0 hcz4_1 hcz4_2 hcz4_3 hcz4_4 hfz4_0 hfz4_1 hfz4_2 hfz4_3 hfz4_4
        try clear hcz7_0 hcz7_1 hcz7_2 hfz7_0 hfz7_1 hfz7_2
        try clear hcz8_0 hcz8_1 hcz8_2 hcz8_3 hcz8_4 hfz8_0 hfz8_1 hfz8_2 hfz8_3 hfz8_4
        try clear p2
        obtain ⟨x4_2, x39_2, rfl, HA, HK2, HO_4, BK124, BK125, HB⟩ := hrel
        cases gk with
        | zero => exact absurd HA.out (by simp [types_cells.l0])
        | succ k2 =>
         have H := HA.out
         clear HA
         simp only [types_cells.l0] at H
         by_cases c35 : x39_2 < a0_3
         ·rw [if_pos c35] at H
          have c35b0 : decide (x39_2 < a0_3) = true := decide_eq_true c35
          clear c35
          by_cases c36 : 0 < (l0_4.length : Int)
          ·rw [if_pos c36] at H
           have c36b0 : decide (0 < (l0_4.length : Int)) = true := decide_eq_true c36
           have c36b1 : decide (0 < l0_4.length) = true := decide_eq_true (by omega)
           clear c36
           replace H := Option.bind_eq_some_iff.mp H
           obtain ⟨t139, A370, H⟩ := H
           replace H : (if x4_2.length + t139.length < 5864062014805 then (types_cells.l0 k2 (x4_2 ++ t139) a0_3 (wrap64 (x39_2 + 1)) a0_0 a0_1 a0_2 a0_3 l0_4) else (none)) = some r := H
           have A37 := Aside0.mk A370
           clear A370
           by_cases c38 : x4_2.length + t139.length < 5864062014805
           ·rw [if_pos c38] at H
            have LMc38 := Aside0.mk c38
            clear c38
            obtain ⟨y142, hy142⟩ : ∃ y_ : List (S41), y_ = (x4_2 ++ t139) := ⟨_, rfl⟩
            replace H : (types_cells.l0 k2 y142 a0_3 (wrap64 (x39_2 + 1)) a0_0 a0_1 a0_2 a0_3 l0_4) = some r := by first | (rw [hy142]; with_reducible exact H) | (have H2_ := (Option.bind_some _ _).symm.trans H; rw [hy142]; with_reducible exact H2_) | (have H2_ := (Option.bind_some _ _).symm.trans H; with_reducible exact H2_) | with_reducible exact H | (rw [hy142]; exact H) | exact H
            have Ny142 := Aside0.mk hy142
            clear hy142
            have H' := Aside0.mk H
            clear H
            have hnb39 := NB124_125.out
            have hnc39 := NB125_124.out
            obtain ⟨hcz40_0, hcz40_1, hcz40_2, hcz40_3, hcz40_4, hfz40_0, hfz40_1, hfz40_2, hfz40_3, hfz40_4⟩ := cf5_ BK124.out
            have p138 : 0 ≤ (0 : Int) := (by omega)
            have q138 : 0 < (l0_4.length : Int) := dt_
            obtain ⟨ad138, A138_4, c138_4, e138, hx138_0, hx138_1, hx138_2, hx138_3, hx138_4, hl138_4, hi138_4⟩ := at_T24 HR0_4.out 0 p138 q138
            cases e138
            have qi138 : (0 < l0_4.length) = True := eq_true (by omega)
            (try rw [show ((0 : Int)).toNat = 0 from rfl] at hx138_0)
            (try rw [show 0 * 5 = 0 from rfl] at hx138_0)
            (try rw [Addr.add_zero'] at hx138_0)
            (try rw [show ((0 : Int)).toNat = 0 from rfl] at hx138_1)
            (try rw [show 0 * 5 = 0 from rfl] at hx138_1)
            (try rw [Addr.add_zero'] at hx138_1)
            (try rw [show ((0 : Int)).toNat = 0 from rfl] at hx138_2)
            (try rw [show 0 * 5 = 0 from rfl] at hx138_2)
            (try rw [Addr.add_zero'] at hx138_2)
            (try rw [show ((0 : Int)).toNat = 0 from rfl] at hx138_3)
            (try rw [show 0 * 5 = 0 from rfl] at hx138_3)
            (try rw [Addr.add_zero'] at hx138_3)
            (try rw [show ((0 : Int)).toNat = 0 from rfl] at hx138_4)
            (try rw [show 0 * 5 = 0 from rfl] at hx138_4)
            (try rw [Addr.add_zero'] at hx138_4)
            replace hx138_0 := (HB.out.cell (World.block_lt_of_cell? w _ hx138_0)).trans hx138_0
            replace hx138_1 := (HB.out.cell (World.block_lt_of_cell? w _ hx138_1)).trans hx138_1
            replace hx138_2 := (HB.out.cell (World.block_lt_of_cell? w _ hx138_2)).trans hx138_2
            replace hx138_3 := (HB.out.cell (World.block_lt_of_cell? w _ hx138_3)).trans hx138_3
            replace hx138_4 := (HB.out.cell (World.block_lt_of_cell? w _ hx138_4)).trans hx138_4
            have HR138_4 := Aside0.mk hi138_4
            have HC138_4 := Aside0.mk hl138_4
            clear hi138_4 hl138_4
            replace p138 := eq_true p138
            replace q138 := eq_true q138
            go_wp2_with (first | ((with_reducible refine gate_callee (f := 42) rfl ?_); refine goesL_ (some 46) rfl rfl Tryd.func42 (by kernel_rfl) rfl #[.agg #[.int .i64 ((rd_T24 l0_4 0).f0), .int .i64 ((rd_T24 l0_4 0).f1), .int .i64 ((rd_T24 l0_4 0).f2), .int .i64 ((rd_T24 l0_4 0).f3), .slice A138_4 ((rd_T24 l0_4 0).f4).length c138_4]] rfl (by (try simp only [List.map_toArray, List.map_cons, List.map_nil]); first | done | rfl | (simp only [List.length_drop, List.length_take]; rfl)) ?_; (with_reducible refine (ih k2 (by have := HJ10.out; have := HK2.out; omega) ((rd_T24 l0_4 0).f0) ((rd_T24 l0_4 0).f1) ((rd_T24 l0_4 0).f2) ((rd_T24 l0_4 0).f3) _ _ ((rd_T24 l0_4 0).f4) t139 _ ?side1 ?side2 A37.out).mono ?_); (case side1 => repeat (first | exact (Kd.C_below HR138_4.out HB.out) | (with_reducible refine Kd.C_alloc ?_ _) | (with_reducible refine Kd.C_drewN ?_ _) | (with_reducible refine Kd.C_drew ?_))); (case side2 => exact HC138_4.out); rintro e w41 ⟨v140, rfl, ho0, hb⟩; refine ⟨_, rfl, ?_⟩; have HO141 := Aside0.mk (Kd.R_lower (Kd.R_newB (Kd.R_new' ho0 (Kd.R_lt (pR_ HO_4.out))) (g := gb125) (o := .cells #[.int .i64 a0_0, .int .i64 0, .int .i64 0] 41 (0, 0)) bk_) (below_size bl_)); replace HO_4 := Aside0.mk (Kd.R_elder' (pR_ HO_4.out) (Kd.R_base ho0) hb); replace BK124 := Aside0.mk (blk_below (g := gb124) (o := .cells #[.int .i64 a0_0, .int .i64 a0_1, .int .i64 a0_2, .int .i64 a0_3, .slice (some ad138) l0_4.length c0_4] 24 (0, 0)) bk_ hb); replace BK125 := Aside0.mk (blk_below (g := gb125) (o := .cells #[.int .i64 a0_0, .int .i64 0, .int .i64 0] 41 (0, 0)) bk_ hb); replace HB := Aside0.mk (below_step bl_ hb); (try clear hb); (try clear hb2); (try clear hk); (try clear hi); (try clear ho0); obtain ⟨Ao43, co43, eo43⟩ := Kd.R_slice HO141.out; subst eo43) | ((with_reducible refine gate_builtin (b := .append) (xs := #[.tmp 41, .tmp 46]) rfl ?_); at_builtin; refine Kd.R_append_rows k41 (w0 := w) w.heap.size rfl (.tmp 41) (.tmp 46) 37 41 (.agg #[(.int .i64 0), (.int .i64 0), (.int .i64 0)]) 24 rfl Tryd.underlying37 info41 rfl (by decide) (by omega) u4 x4_2 t139 _ _ _ (fun k_ => some k_ ≠ (.slice Ao43 t139.length co43 : Value).ownBlock ∧ k_ ≠ gb125) (fun _ => False) rfl rfl ?aO ?aR (fun _ _ h => h) (fun _ h => h.elim) ?aF ?aB ?aS ?aL ?_; (case aR => repeat (first | exact (Kd.R_reads' HO141.out).2.2 | (with_reducible refine Kd.C_alloc ?_ _) | (with_reducible refine Kd.C_drewN ?_ _) | (with_reducible refine Kd.C_drew ?_))); (case aB => exact bl_); (case aF => exact (fun k_ hk => ⟨Kd.fresh' (Kd.R_lt (pR_ HO141.out)) k_ hk, Kd.freshB (g := gb125) (o := .cells #[.int .i64 a0_0, .int .i64 0, .int .i64 0] 41 (0, 0)) bk_ k_ hk⟩)); (case aO => exact (by (with_reducible repeat (first | apply Kd.R_alloc | apply Kd.R_drewN | apply Kd.R_drew)); exact Kd.R_mono HO_4.out (fun _ hk => ⟨hk.2, hk.1⟩))); (case aS => exact (below_size bl_)); (case aL => have := LMc38.out; omega); intro v143 w42 ho hb hg hat; rw [← Ny142.out] at ho; have HO144 := Aside0.mk (ho); replace BK124 := Aside0.mk (blk_grown (g := gb124) (o := .cells #[.int .i64 a0_0, .int .i64 a0_1, .int .i64 a0_2, .int .i64 a0_3, .slice (some ad138) l0_4.length c0_4] 24 (0, 0)) bk_ hg (Kd.R_ne HO_4.out BK124.out (by decide))); replace BK125 := Aside0.mk (blk_grown (g := gb125) (o := .cells #[.int .i64 a0_0, .int .i64 0, .int .i64 0] 41 (0, 0)) bk_ hg (Kd.R_away HO_4.out (fun _ hk => hk.1))); replace HO141 := Aside0.mk (Kd.R_after (ok := (fun k_ => k_ ≠ gb125)) (by (with_reducible repeat (first | apply Kd.R_alloc | apply Kd.R_drewN | apply Kd.R_drew)); exact Kd.R_mono HO141.out (fun _ hk => ⟨hk.2, hk.1.2⟩)) hg hat); replace HB := Aside0.mk (hb); clear HO_4; clear ho hb hg hat))
            go_roundg k2
            case measure => have := HJ10.out; have := HK2.out; omega
            case rel => exact ⟨(y142), (wrap64 (x39_2 + 1)), rs_, H', ⟨by have := HJ10.out; have := HK2.out; omega⟩, ⟨by (with_reducible repeat (first | apply Kd.R_alloc | apply Kd.R_drewN | apply Kd.R_drew)); exact Kd.R_mono HO144.out (fun _ hk => hk.2)⟩, ⟨bk_⟩, ⟨bk_⟩, ⟨bl_⟩⟩
           ·rw [if_neg c38] at H
            exact absurd H (by simp)
          ·rw [if_neg c36] at H
           exact absurd H (by simp)
         ·rw [if_neg c35] at H
          have c35b0 : decide (x39_2 < a0_3) = false := decide_eq_false c35
          clear c35
          obtain rfl := Option.some.inj H
          go_wp2
          go_ret
          exact ⟨_, re_, by (with_reducible repeat (first | apply Kd.R_alloc | apply Kd.R_drewN | apply Kd.R_drew)); exact Kd.R_mono HO_4.out (fun _ hk => trivial), bl_⟩
      ·rw [if_neg c29] at H
       have c29b0 : (a0_0 == 6) = false := beq_eq_false_iff_ne.mpr c29
       have c29b1 : (a0_0 != 6) = true := bne_iff_ne.mpr c29
       have H' := Aside0.mk H
       clear H
       have hnb44 := NB124_125.out
       have hnc44 := NB125_124.out
       obtain ⟨hcz45_0, hcz45_1, hcz45_2, hcz45_3, hcz45_4, hfz45_0, hfz45_1, hfz45_2, hfz45_3, hfz45_4⟩ := cf5_ BK124.out
       go_wp2
       go_loopg [5, 53] kj10 (fun kq v5 v53 w' => ∃ (x5_2 : List (S41)) (x53_2 : Int), v53 = .int .i64 x53_2 ∧ Aside0 (types_cells.l1 kq x5_2 l0_4 (l0_4.length : Int) x53_2 = some r) ∧ Aside0 (kq ≤ kj10) ∧ Aside0 (Kd.R k41 41 w' w.heap.size (fun k_ => k_ ≠ gb125) v5 x5_2) ∧ Aside0 (w'.heap[gb124]? = some (.cells #[.int .i64 a0_0, .int .i64 a0_1, .int .i64 a0_2, .int .i64 a0_3, (.slice A0_4 l0_4.length c0_4)] 24 (0, 0))) ∧ Aside0 (w'.heap[gb125]? = some (.cells #[.int .i64 a0_0, .int .i64 0, .int .i64 0] 41 (0, 0))) ∧ Aside0 (Below w.heap.size w w'))
       case atStart => exact ⟨(([] : List (S41))), (0), rs_, H', ⟨Nat.le_refl _⟩, ⟨by first | exact Kd.R_nil _ _ _ _ _ | exact Kd.N_nil _ _ _ _ _ | exact Kd.V_nil _ _ _ _ _ | exact Kd.Q_nil _ _ _ _ _ | exact Kd.S_nil _ _ _ _ _⟩, ⟨bk_⟩, ⟨bk_⟩, ⟨bl_⟩⟩
       case round =>
        clear H'
        try clear c1
        try clear p1
        try clear q1
        try clear hx1
        try clear qi1
        try clear c2
        try clear c2b0
        try clear c2b1
        try clear p2
        try clear c3
        try clear c4
        try clear c6
        try clear p6
        try clear c13
        try clear p13
        try clear q13
        try clear hx13
        try clear qi13
        try clear c15
        try clear c18
        try clear c18b0
        try clear c18b1
        try clear c19
        try clear c20
        try clear c24
        try clear c24b0
        try clear c24b1
        try clear c25
        try clear c29
        try clear c29b0
        try clear c29b1
        try clear c30
        try clear c35
        try clear c35b0
        try clear c36
        try clear c36b0
        try clear c36b1
        try clear c38
        try clear c39
        try clear c42
        try clear c44
        try clear hcz13_0 hcz13_1 hcz13_2 hcz13_3 hcz13_4 hfz13_0 hfz13_1 hfz13_2 hfz13_3 hfz13_4
        try clear hcz16_0 hcz16_1 hcz16_2 hfz16_0 hfz16_1 hfz16_2
        try clear hcz17_0 hcz17_1 hcz17_2 hcz17_3 hcz17_4 hfz17_0 hfz17_1 hfz17_2 hfz17_3 hfz17_4
        try clear hcz21_0 hcz21_1 hcz21_2 hfz21_0 hfz21_1 hfz21_2
        try clear hcz26_0 hcz26_1 hcz26_2 hcz26_3 hcz26_4 hfz26_0 hfz26_1 hfz26_2 hfz26_3 hfz26_4
        try clear hcz31_0 hcz31_1 hcz31_2 hcz31_3 hcz31_4 hfz31_0 hfz31_1 hfz31_2 hfz31_3 hfz31_4
        try clear hcz34_0 hcz34_1 hcz34_2 hcz34_3 hcz34_4 hfz34_0 hfz34_1 hfz34_2 hfz34_3 hfz34_4
        try clear hcz40_0 hcz40_1 hcz40_2 hcz40_3 hcz40_4 hfz40_0 hfz40_1 hfz40_2 hfz40_3 hfz40_4
        try clear hcz45_0 hcz45_1 hcz45_2 hcz45_3 hcz45_4 hfz45_0 hfz45_1 hfz45_2 hfz45_3 hfz45_4
        try clear hcz4_0 hcz4_1 hcz4_2 hcz4_3 hcz4_4 hfz4_0 hfz4_1 hfz4_2 hfz4_3 hfz4_4
        try clear hcz7_0 hcz7_1 hcz7_2 hfz7_0 hfz7_1 hfz7_2
        try clear hcz8_0 hcz8_1 hcz8_2 hcz8_3 hcz8_4 hfz8_0 hfz8_1 hfz8_2 hfz8_3 hfz8_4
        try clear hx138_0
        try clear hx138_1
        try clear hx138_2
        try clear hx138_3
        try clear hx138_4
        try clear p138
        try clear p2
        try clear q138
        obtain ⟨x5_2, x53_2, rfl, HA, HK2, HO_5, BK124, BK125, HB⟩ := hrel
        cases gk with
        | zero => exact absurd HA.out (by simp [types_cells.l1])
        | succ k2 =>
         have H := HA.out
         clear HA
         simp only [types_cells.l1] at H
         by_cases c46 : x53_2 < (l0_4.length : Int)
         ·rw [if_pos c46] at H
          have c46b0 : decide (x53_2 < (l0_4.length : Int)) = true := decide_eq_true c46
          clear c46
          by_cases c47 : 0 ≤ x53_2
          ·rw [if_pos c47] at H
           have c47b0 : decide (0 ≤ x53_2) = true := decide_eq_true c47
           clear c47
           by_cases c48 : x53_2 < (l0_4.length : Int)
           ·rw [if_pos c48] at H
            have c48b0 : decide (x53_2 < (l0_4.length : Int)) = true := decide_eq_true c48
            clear c48
            replace H := Option.bind_eq_some_iff.mp H
            obtain ⟨t147, A490, H⟩ := H
            replace H : (if x5_2.length + t147.length < 5864062014805 then (types_cells.l1 k2 (x5_2 ++ t147) l0_4 (l0_4.length : Int) (wrap64 (x53_2 + 1))) else (none)) = some r := H
            have A49 := Aside0.mk A490
            clear A490
            by_cases c50 : x5_2.length + t147.length < 5864062014805
            ·rw [if_pos c50] at H
             have LMc50 := Aside0.mk c50
             clear c50
             obtain ⟨y150, hy150⟩ : ∃ y_ : List (S41), y_ = (x5_2 ++ t147) := ⟨_, rfl⟩
             replace H : (types_cells.l1 k2 y150 l0_4 (l0_4.length : Int) (wrap64 (x53_2 + 1))) = some r := by first | (rw [hy150]; with_reducible exact H) | (have H2_ := (Option.bind_some _ _).symm.trans H; rw [hy150]; with_reducible exact H2_) | (have H2_ := (Option.bind_some _ _).symm.trans H; with_reducible exact H2_) | with_reducible exact H | (rw [hy150]; exact H) | exact H
             have Ny150 := Aside0.mk hy150
             clear hy150
             have H' := Aside0.mk H
             clear H
             have p145 : 0 ≤ (x53_2 : Int) := dt_
             have q145 : x53_2 < (l0_4.length : Int) := dt_
             obtain ⟨ad145, A145_4, c145_4, e145, hx145_0, hx145_1, hx145_2, hx145_3, hx145_4, hl145_4, hi145_4⟩ := at_T24 HR0_4.out x53_2 p145 q145
             cases e145
             replace hx145_0 := (HB.out.cell (World.block_lt_of_cell? w _ hx145_0)).trans hx145_0
             replace hx145_1 := (HB.out.cell (World.block_lt_of_cell? w _ hx145_1)).trans hx145_1
             replace hx145_2 := (HB.out.cell (World.block_lt_of_cell? w _ hx145_2)).trans hx145_2
             replace hx145_3 := (HB.out.cell (World.block_lt_of_cell? w _ hx145_3)).trans hx145_3
             replace hx145_4 := (HB.out.cell (World.block_lt_of_cell? w _ hx145_4)).trans hx145_4
             have HR145_4 := Aside0.mk hi145_4
             have HC145_4 := Aside0.mk hl145_4
             clear hi145_4 hl145_4
             replace p145 := eq_true p145
             replace q145 := eq_true q145
             go_wp2_with (first | ((with_reducible refine gate_dst (N := 7) rfl ?_); refine box_event ?hg (N := 7) ?hd (cs := #[.int .i64 0, .int .i64 0, .int .i64 0, .int .i64 0, .slice none 0 0]) (t := 24) ?hr ?_; (case hd => rfl); (case hg => rfl); (case hr => first | (go_simp; done) | (go_simp; rfl)); intro gb146 hg w51 hbox hb; have BK146 := Aside0.mk (hbox); have GW146 : Aside0 (w.heap.size ≤ gb146) := gw_ hg (below_size bl_); have GE146 := GW146; have NB124_146 := Aside0.mk ((by rw [hg]; exact Nat.ne_of_lt (blk_lt (g := gb124) (o := .cells #[.int .i64 a0_0, .int .i64 a0_1, .int .i64 a0_2, .int .i64 a0_3, .slice (some ad145) l0_4.length c0_4] 24 (0, 0)) bk_) : gb124 ≠ gb146)); have NB146_124 := Aside0.mk ((by rw [hg]; exact Nat.ne_of_gt (blk_lt (g := gb124) (o := .cells #[.int .i64 a0_0, .int .i64 a0_1, .int .i64 a0_2, .int .i64 a0_3, .slice (some ad145) l0_4.length c0_4] 24 (0, 0)) bk_) : gb146 ≠ gb124)); have NB125_146 := Aside0.mk ((by rw [hg]; exact Nat.ne_of_lt (blk_lt (g := gb125) (o := .cells #[.int .i64 a0_0, .int .i64 0, .int .i64 0] 41 (0, 0)) bk_) : gb125 ≠ gb146)); have NB146_125 := Aside0.mk ((by rw [hg]; exact Nat.ne_of_gt (blk_lt (g := gb125) (o := .cells #[.int .i64 a0_0, .int .i64 0, .int .i64 0] 41 (0, 0)) bk_) : gb146 ≠ gb125)); replace HO_5 := Aside0.mk (Kd.R_below (pR_ HO_5.out) hb); replace BK124 := Aside0.mk (blk_below (g := gb124) (o := .cells #[.int .i64 a0_0, .int .i64 a0_1, .int .i64 a0_2, .int .i64 a0_3, .slice (some ad145) l0_4.length c0_4] 24 (0, 0)) bk_ hb); replace BK125 := Aside0.mk (blk_below (g := gb125) (o := .cells #[.int .i64 a0_0, .int .i64 0, .int .i64 0] 41 (0, 0)) bk_ hb); replace HB := Aside0.mk (below_step bl_ hb); clear hb hbox hg; have hnb52 := NB146_124.out; have hnc52 := NB124_146.out; have hnb53 := NB146_125.out; have hnc53 := NB125_146.out; obtain ⟨hcz54_0, hcz54_1, hcz54_2, hcz54_3, hcz54_4, hfz54_0, hfz54_1, hfz54_2, hfz54_3, hfz54_4⟩ := cf5_ BK146.out) | ((with_reducible refine gate_callee (f := 42) rfl ?_); refine goesL_ (some 59) rfl rfl Tryd.func42 (by kernel_rfl) rfl #[.agg #[.int .i64 ((rd_T24 l0_4 x53_2).f0), .int .i64 ((rd_T24 l0_4 x53_2).f1), .int .i64 ((rd_T24 l0_4 x53_2).f2), .int .i64 ((rd_T24 l0_4 x53_2).f3), .slice A145_4 ((rd_T24 l0_4 x53_2).f4).length c145_4]] rfl (by (try simp only [List.map_toArray, List.map_cons, List.map_nil]); first | done | rfl | (simp only [List.length_drop, List.length_take]; rfl)) ?_; (with_reducible refine (ih k2 (by have := HJ10.out; have := HK2.out; omega) ((rd_T24 l0_4 x53_2).f0) ((rd_T24 l0_4 x53_2).f1) ((rd_T24 l0_4 x53_2).f2) ((rd_T24 l0_4 x53_2).f3) _ _ ((rd_T24 l0_4 x53_2).f4) t147 _ ?side1 ?side2 A49.out).mono ?_); (case side1 => exact Kd.C_below HR145_4.out bl_); (case side2 => exact HC145_4.out); rintro e w55 ⟨v148, rfl, ho0, hb⟩; refine ⟨_, rfl, ?_⟩; have HO149 := Aside0.mk (Kd.R_lower (Kd.R_newB (Kd.R_new' ho0 (Kd.R_lt (by (with_reducible repeat (first | apply Kd.R_alloc | apply Kd.R_drewN | apply Kd.R_drew)); exact (Kd.R_mono (Kd.R_far (p := ⟨gb146, 4, none⟩) (Kd.R_far (p := ⟨gb146, 3, none⟩) (Kd.R_far (p := ⟨gb146, 2, none⟩) (Kd.R_far (p := ⟨gb146, 1, none⟩) (Kd.R_far (p := ⟨gb146, 0, none⟩) (Kd.R_types HO_5.out BK146.out (by decide)) (fun _ hk => hk.2) (.int .i64 ((rd_T24 l0_4 x53_2).f0))) (fun _ hk => hk.2) (.int .i64 ((rd_T24 l0_4 x53_2).f1))) (fun _ hk => hk.2) (.int .i64 ((rd_T24 l0_4 x53_2).f2))) (fun _ hk => hk.2) (.int .i64 ((rd_T24 l0_4 x53_2).f3))) (fun _ hk => hk.2) (.slice A145_4 ((rd_T24 l0_4 x53_2).f4).length c145_4)) (fun _ h_ => h_.1))))) (g := gb125) (o := .cells #[.int .i64 a0_0, .int .i64 0, .int .i64 0] 41 (0, 0)) (by (with_reducible repeat (first | refine blk_drewN ?_ _ | refine blk_drew ?_ | refine blk_alloc ?_ _)); refine blk_far ?_ NB125_146.out _; (with_reducible repeat (first | refine blk_drewN ?_ _ | refine blk_drew ?_ | refine blk_alloc ?_ _)); refine blk_far ?_ NB125_146.out _; (with_reducible repeat (first | refine blk_drewN ?_ _ | refine blk_drew ?_ | refine blk_alloc ?_ _)); refine blk_far ?_ NB125_146.out _; (with_reducible repeat (first | refine blk_drewN ?_ _ | refine blk_drew ?_ | refine blk_alloc ?_ _)); refine blk_far ?_ NB125_146.out _; (with_reducible repeat (first | refine blk_drewN ?_ _ | refine blk_drew ?_ | refine blk_alloc ?_ _)); refine blk_far ?_ NB125_146.out _; (with_reducible repeat (first | refine blk_drewN ?_ _ | refine blk_drew ?_ | refine blk_alloc ?_ _)); exact BK125.out)) (below_size bl_)); replace HO_5 := Aside0.mk (Kd.R_elder' (by (with_reducible repeat (first | apply Kd.R_alloc | apply Kd.R_drewN | apply Kd.R_drew)); exact (Kd.R_mono (Kd.R_far (p := ⟨gb146, 4, none⟩) (Kd.R_far (p := ⟨gb146, 3, none⟩) (Kd.R_far (p := ⟨gb146, 2, none⟩) (Kd.R_far (p := ⟨gb146, 1, none⟩) (Kd.R_far (p := ⟨gb146, 0, none⟩) (Kd.R_types HO_5.out BK146.out (by decide)) (fun _ hk => hk.2) (.int .i64 ((rd_T24 l0_4 x53_2).f0))) (fun _ hk => hk.2) (.int .i64 ((rd_T24 l0_4 x53_2).f1))) (fun _ hk => hk.2) (.int .i64 ((rd_T24 l0_4 x53_2).f2))) (fun _ hk => hk.2) (.int .i64 ((rd_T24 l0_4 x53_2).f3))) (fun _ hk => hk.2) (.slice A145_4 ((rd_T24 l0_4 x53_2).f4).length c145_4)) (fun _ h_ => h_.1))) (Kd.R_base ho0) hb); replace BK124 := Aside0.mk (blk_below (g := gb124) (o := .cells #[.int .i64 a0_0, .int .i64 a0_1, .int .i64 a0_2, .int .i64 a0_3, .slice (some ad145) l0_4.length c0_4] 24 (0, 0)) (by (with_reducible repeat (first | refine blk_drewN ?_ _ | refine blk_drew ?_ | refine blk_alloc ?_ _)); refine blk_far ?_ NB124_146.out _; (with_reducible repeat (first | refine blk_drewN ?_ _ | refine blk_drew ?_ | refine blk_alloc ?_ _)); refine blk_far ?_ NB124_146.out _; (with_reducible repeat (first | refine blk_drewN ?_ _ | refine blk_drew ?_ | refine blk_alloc ?_ _)); refine blk_far ?_ NB124_146.out _; (with_reducible repeat (first | refine blk_drewN ?_ _ | refine blk_drew ?_ | refine blk_alloc ?_ _)); refine blk_far ?_ NB124_146.out _; (with_reducible repeat (first | refine blk_drewN ?_ _ | refine blk_drew ?_ | refine blk_alloc ?_ _)); refine blk_far ?_ NB124_146.out _; (with_reducible repeat (first | refine blk_drewN ?_ _ | refine blk_drew ?_ | refine blk_alloc ?_ _)); exact BK124.out) hb); replace BK125 := Aside0.mk (blk_below (g := gb125) (o := .cells #[.int .i64 a0_0, .int .i64 0, .int .i64 0] 41 (0, 0)) (by (with_reducible repeat (first | refine blk_drewN ?_ _ | refine blk_drew ?_ | refine blk_alloc ?_ _)); refine blk_far ?_ NB125_146.out _; (with_reducible repeat (first | refine blk_drewN ?_ _ | refine blk_drew ?_ | refine blk_alloc ?_ _)); refine blk_far ?_ NB125_146.out _; (with_reducible repeat (first | refine blk_drewN ?_ _ | refine blk_drew ?_ | refine blk_alloc ?_ _)); refine blk_far ?_ NB125_146.out _; (with_reducible repeat (first | refine blk_drewN ?_ _ | refine blk_drew ?_ | refine blk_alloc ?_ _)); refine blk_far ?_ NB125_146.out _; (with_reducible repeat (first | refine blk_drewN ?_ _ | refine blk_drew ?_ | refine blk_alloc ?_ _)); refine blk_far ?_ NB125_146.out _; (with_reducible repeat (first | refine blk_drewN ?_ _ | refine blk_drew ?_ | refine blk_alloc ?_ _)); exact BK125.out) hb); replace BK146 := Aside0.mk (blk_below (g := gb146) (o := .cells #[.int .i64 ((rd_T24 l0_4 x53_2).f0), .int .i64 ((rd_T24 l0_4 x53_2).f1), .int .i64 ((rd_T24 l0_4 x53_2).f2), .int .i64 ((rd_T24 l0_4 x53_2).f3), .slice A145_4 ((rd_T24 l0_4 x53_2).f4).length c145_4] 24 (0, 0)) (by (with_reducible repeat (first | refine blk_drewN ?_ _ | refine blk_drew ?_ | refine blk_alloc ?_ _)); refine blk_put (cs := #[.int .i64 ((rd_T24 l0_4 x53_2).f0), .int .i64 ((rd_T24 l0_4 x53_2).f1), .int .i64 ((rd_T24 l0_4 x53_2).f2), .int .i64 ((rd_T24 l0_4 x53_2).f3), .slice none 0 0]) ?_ 4 _ rfl; (with_reducible repeat (first | refine blk_drewN ?_ _ | refine blk_drew ?_ | refine blk_alloc ?_ _)); refine blk_put (cs := #[.int .i64 ((rd_T24 l0_4 x53_2).f0), .int .i64 ((rd_T24 l0_4 x53_2).f1), .int .i64 ((rd_T24 l0_4 x53_2).f2), .int .i64 0, .slice none 0 0]) ?_ 3 _ rfl; (with_reducible repeat (first | refine blk_drewN ?_ _ | refine blk_drew ?_ | refine blk_alloc ?_ _)); refine blk_put (cs := #[.int .i64 ((rd_T24 l0_4 x53_2).f0), .int .i64 ((rd_T24 l0_4 x53_2).f1), .int .i64 0, .int .i64 0, .slice none 0 0]) ?_ 2 _ rfl; (with_reducible repeat (first | refine blk_drewN ?_ _ | refine blk_drew ?_ | refine blk_alloc ?_ _)); refine blk_put (cs := #[.int .i64 ((rd_T24 l0_4 x53_2).f0), .int .i64 0, .int .i64 0, .int .i64 0, .slice none 0 0]) ?_ 1 _ rfl; (with_reducible repeat (first | refine blk_drewN ?_ _ | refine blk_drew ?_ | refine blk_alloc ?_ _)); refine blk_put (cs := #[.int .i64 0, .int .i64 0, .int .i64 0, .int .i64 0, .slice none 0 0]) ?_ 0 _ rfl; (with_reducible repeat (first | refine blk_drewN ?_ _ | refine blk_drew ?_ | refine blk_alloc ?_ _)); exact BK146.out) hb); replace HB := Aside0.mk (below_step bl_ hb); (try clear hb); (try clear hb2); (try clear hk); (try clear hi); (try clear ho0); obtain ⟨Ao57, co57, eo57⟩ := Kd.R_slice HO149.out; subst eo57) | ((with_reducible refine gate_builtin (b := .append) (xs := #[.tmp 57, .tmp 59]) rfl ?_); at_builtin; refine Kd.R_append_rows k41 (w0 := w) w.heap.size rfl (.tmp 57) (.tmp 59) 37 41 (.agg #[(.int .i64 0), (.int .i64 0), (.int .i64 0)]) 24 rfl Tryd.underlying37 info41 rfl (by decide) (by omega) u5 x5_2 t147 _ _ _ (fun k_ => some k_ ≠ (.slice Ao57 t147.length co57 : Value).ownBlock ∧ k_ ≠ gb125) (fun _ => False) rfl rfl ?aO ?aR (fun _ _ h => h) (fun _ h => h.elim) ?aF ?aB ?aS ?aL ?_; (case aR => repeat (first | exact (Kd.R_reads' HO149.out).2.2 | (with_reducible refine Kd.C_alloc ?_ _) | (with_reducible refine Kd.C_drewN ?_ _) | (with_reducible refine Kd.C_drew ?_))); (case aB => exact bl_); (case aF => exact (fun k_ hk => ⟨Kd.fresh' (Kd.R_lt (pR_ HO149.out)) k_ hk, Kd.freshB (g := gb125) (o := .cells #[.int .i64 a0_0, .int .i64 0, .int .i64 0] 41 (0, 0)) bk_ k_ hk⟩)); (case aO => exact (by (with_reducible repeat (first | apply Kd.R_alloc | apply Kd.R_drewN | apply Kd.R_drew)); exact Kd.R_mono HO_5.out (fun _ hk => ⟨hk.2, hk.1⟩))); (case aS => exact (below_size bl_)); (case aL => have := LMc50.out; omega); intro v151 w56 ho hb hg hat; rw [← Ny150.out] at ho; have HO152 := Aside0.mk (ho); replace BK124 := Aside0.mk (blk_grown (g := gb124) (o := .cells #[.int .i64 a0_0, .int .i64 a0_1, .int .i64 a0_2, .int .i64 a0_3, .slice (some ad145) l0_4.length c0_4] 24 (0, 0)) bk_ hg (Kd.R_ne HO_5.out BK124.out (by decide))); replace BK125 := Aside0.mk (blk_grown (g := gb125) (o := .cells #[.int .i64 a0_0, .int .i64 0, .int .i64 0] 41 (0, 0)) bk_ hg (Kd.R_away HO_5.out (fun _ hk => hk.1))); replace BK146 := Aside0.mk (blk_grown (g := gb146) (o := .cells #[.int .i64 ((rd_T24 l0_4 x53_2).f0), .int .i64 ((rd_T24 l0_4 x53_2).f1), .int .i64 ((rd_T24 l0_4 x53_2).f2), .int .i64 ((rd_T24 l0_4 x53_2).f3), .slice A145_4 ((rd_T24 l0_4 x53_2).f4).length c145_4] 24 (0, 0)) bk_ hg (Kd.R_ne HO_5.out BK146.out (by decide))); replace HO149 := Aside0.mk (Kd.R_after (ok := (fun k_ => k_ ≠ gb125)) (by (with_reducible repeat (first | apply Kd.R_alloc | apply Kd.R_drewN | apply Kd.R_drew)); exact Kd.R_mono HO149.out (fun _ hk => ⟨hk.2, hk.1.2⟩)) hg hat); replace HB := Aside0.mk (hb); clear HO_5; clear ho hb hg hat))
             go_roundg k2
             case measure => have := HJ10.out; have := HK2.out; omega
             case rel => exact ⟨(y150), (wrap64 (x53_2 + 1)), rs_, H', ⟨by have := HJ10.out; have := HK2.out; omega⟩, ⟨by (with_reducible repeat (first | apply Kd.R_alloc | apply Kd.R_drewN | apply Kd.R_drew)); exact Kd.R_mono HO152.out (fun _ hk => hk.2)⟩, ⟨bk_⟩, ⟨bk_⟩, ⟨bl_⟩⟩
            ·rw [if_neg c50] at H
             exact absurd H (by simp)
           ·rw [if_neg c48] at H
            exact absurd H (by simp)
          ·rw [if_neg c47] at H
           exact absurd H (by simp)
         ·rw [if_neg c46] at H
          have c46b0 : decide (x53_2 < (l0_4.length : Int)) = false := decide_eq_false c46
          clear c46
          obtain rfl := Option.some.inj H
          go_wp2
          go_ret
          exact ⟨_, re_, by (with_reducible repeat (first | apply Kd.R_alloc | apply Kd.R_drewN | apply Kd.R_drew)); exact Kd.R_mono HO_5.out (fun _ hk => trivial), bl_⟩

end Go.Proofs.YtggelekooacmnaaDoor.Q
namespace Go.Proofs.YtggelekooacmnaaDoor.Q
open Go.RowKit Go.Proofs.YtggelekooacmnaaDoorW.PrintWords Go.Proofs.YtggelekooacmnaaDoorW.PrintLast Go.Proofs.YtggelekooacmnaaDoorW.PrintMore
attribute [local go_sem] max2_int min2_int max_two min_two max_three min_three max_four min_four   -- for this text's walks alone
set_option linter.unusedVariables false
set_option linter.unusedSimpArgs false

theorem eqA41 (d : Nat) (w : World) (x0 y0 : Int) (x1 y1 : Int) (x2 y2 : Int) :
    (Op.equalIn (d + 2) 41 (.agg #[.int .i64 x0, .int .i64 x1, .int .i64 x2]) (.agg #[.int .i64 y0, .int .i64 y1, .int .i64 y2])).run Tryd.prog w = .ok (x0 == y0 && (x1 == y1 && (x2 == y2))) w := by
  refine eqA_of Tryd.underlying41 (by kernel_rfl) ?_
  refine eqf_cons (by rfl) (by go_simp; rfl) (by go_simp; rfl) (by go_simp) ?_
  refine eqf_cons (by rfl) (by go_simp; rfl) (by go_simp; rfl) (by go_simp) ?_
  exact eqf_last (by rfl) (by go_simp; rfl) (by go_simp; rfl) (by go_simp)
end Go.Proofs.YtggelekooacmnaaDoor.Q
namespace Go.Proofs.YtggelekooacmnaaDoor.Q
open Go.RowKit Go.Proofs.YtggelekooacmnaaDoorW.PrintWords Go.Proofs.YtggelekooacmnaaDoorW.PrintLast Go.Proofs.YtggelekooacmnaaDoorW.PrintMore
attribute [local go_sem] max2_int min2_int max_two min_two max_three min_three max_four min_four   -- for this text's walks alone
set_option linter.unusedVariables false
set_option linter.unusedSimpArgs false

attribute [local go_sem high] eqA41
/-! ### types_isTruth: function 70 -/
def types_isTruth.f (a0_0 : Int) (a0_1 : Int) (a0_2 : Int) : Option (Bool) := some (a0_0 == 1 && (a0_1 == 0 && (a0_2 == 1)))
set_option maxHeartbeats 8000000 in
set_option maxRecDepth 100000 in
theorem types_isTruth.calls (a0_0 : Int) (a0_1 : Int) (a0_2 : Int) (r : Bool) (w : World) (h : types_isTruth.f a0_0 a0_1 a0_2 = some r) :
    Calls Tryd.prog 70 #[.agg #[.int .i64 a0_0, .int .i64 a0_1, .int .i64 a0_2]] w fun e w' => e = .returned (.bool r) ∧ Below w.heap.size w w' := by
  have hu41 := Tryd.underlying41
  have HB := Aside0.mk (Below.refl w.heap.size w)
  have H : (some (a0_0 == 1 && (a0_1 == 0 && (a0_2 == 1)))) = some r := h
  clear h
  obtain rfl := Option.some.inj H
  go_enter Tryd.func70, Tryd.ntmps70
  go_wp2_with (first | ((with_reducible refine gate_dst (N := 1) rfl ?_); refine box_event ?hg (N := 1) ?hd (cs := #[.int .i64 a0_0, .int .i64 a0_1, .int .i64 a0_2]) (t := 41) ?hr ?_; (case hd => rfl); (case hg => rfl); (case hr => first | (go_simp; done) | (go_simp; rfl)); intro gb153 hg w2 hbox hb; have n0_ := Aside0.mk (below_step (by repeat (first | (with_reducible first | exact HB.out | apply below_alloc | apply pw_below_drewN | apply below_drew1) | exact HB.out)) hb); have n1_ := Aside0.mk (hbox); have n2_ := Aside0.mk ((by rw [hg]; exact (below_size (by repeat (first | (with_reducible first | exact HB.out | apply below_alloc | apply pw_below_drewN | apply below_drew1) | exact HB.out))) : w.heap.size ≤ gb153)); have n3_ := Aside0.mk ((by rw [hg]; exact (below_size (by repeat (first | (with_reducible first | exact HB.out | apply below_alloc | apply pw_below_drewN | apply below_drew1) | exact HB.out))) : w.heap.size ≤ gb153)); clear HB; have HB := n0_; have BK153 := n1_; have GW153 := n2_; have GE153 := n3_; clear n0_ n1_ n2_ n3_; clear hb hbox hg; have hcz3_0 : w2.cell? ⟨gb153, 0, none⟩ = some (.int .i64 a0_0) := (blk_cell BK153.out 0).trans rfl; have hcz3_1 : w2.cell? ⟨gb153, 1, none⟩ = some (.int .i64 a0_1) := (blk_cell BK153.out 1).trans rfl; have hcz3_2 : w2.cell? ⟨gb153, 2, none⟩ = some (.int .i64 a0_2) := (blk_cell BK153.out 2).trans rfl; have hfz3_0 := blk_frozen BK153.out 0; have hfz3_1 := blk_frozen BK153.out 1; have hfz3_2 := blk_frozen BK153.out 2))
  go_ret
  exact ⟨by first | rfl | (simp [errW_none, errW_some] <;> rfl) | (simp [*, errW_none, errW_some] <;> rfl), by repeat (first | (with_reducible first | exact HB.out | apply below_alloc | apply pw_below_drewN | apply below_drew1 | refine below_set ?_ GE153.out) | exact HB.out)⟩

end Go.Proofs.YtggelekooacmnaaDoor.Q
namespace Go.Proofs.YtggelekooacmnaaDoor.Q
open Go.RowKit Go.Proofs.YtggelekooacmnaaDoorW.PrintWords Go.Proofs.YtggelekooacmnaaDoorW.PrintLast Go.Proofs.YtggelekooacmnaaDoorW.PrintMore
attribute [local go_sem] max2_int min2_int max_two min_two max_three min_three max_four min_four   -- for this text's walks alone
set_option linter.unusedVariables false
set_option linter.unusedSimpArgs false

/-! ### types_size: function 41 -/
mutual
def types_size.l0 : Nat → Int → List (S24) → Int → Int → Option (Int)
 | 0, _, _, _, _ => none
 | k + 1, x3, x15, x16, x17 => if x17 < x16 then (if 0 ≤ x17 then (if x17 < (x15.length : Int) then ((types_size.f k ((rd_T24 x15 x17).f0) ((rd_T24 x15 x17).f1) ((rd_T24 x15 x17).f2) ((rd_T24 x15 x17).f3) ((rd_T24 x15 x17).f4)).bind fun t157 => (types_size.l0 k (mn (wrap64 (x3 * t157)) 1073741825) x15 x16 (wrap64 (x17 + 1)))) else (none)) else (none)) else (some x3)
def types_size.l1 : Nat → Int → Int → Int → Int → Int → Option (Int)
 | 0, _, _, _, _, _ => none
 | k + 1, x6, x7, x8, x36, x37 => if x37 < x36 then (types_size.l1 k (mn (wrap64 (x6 + (mn (wrap64 (x7 * x8)) 1073741825))) 1073741825) (mn (wrap64 (x7 * x8)) 1073741825) x8 x36 (wrap64 (x37 + 1))) else (some x6)
def types_size.f : Nat → Int → Int → Int → Int → List (S24) → Option (Int)
 | 0, _, _, _, _, _ => none
 | k + 1, a0_0, a0_1, a0_2, a0_3, l0_4 => if a0_0 = 5 then (types_size.l0 k 1 l0_4 (l0_4.length : Int) 0) else (if a0_0 = 6 then (if 0 < (l0_4.length : Int) then ((types_size.f k ((rd_T24 l0_4 0).f0) ((rd_T24 l0_4 0).f1) ((rd_T24 l0_4 0).f2) ((rd_T24 l0_4 0).f3) ((rd_T24 l0_4 0).f4)).bind fun t159 => (types_size.l1 k 1 1 t159 a0_3 0)) else (none)) else ((types_cells.f k a0_0 a0_1 a0_2 a0_3 l0_4).bind fun t160 => (if 0 < (t160.length : Int) then ((types_isTruth.f ((rd_T41 t160 0).f0) ((rd_T41 t160 0).f1) ((rd_T41 t160 0).f2)).bind fun t165 => (if t165 = true then (some 2) else (some (wrap64 ((wrap64 (((rd_T41 t160 0).f2) - ((rd_T41 t160 0).f1))) + 1))))) else (none))))
end
theorem types_size.mono_l : ∀ k, (∀ y0 y1 y2 y3 y4, LeO (types_size.f k y0 y1 y2 y3 y4) (types_size.f (k + 1) y0 y1 y2 y3 y4)) ∧ (∀ y0 y1 y2 y3, LeO (types_size.l0 k y0 y1 y2 y3) (types_size.l0 (k + 1) y0 y1 y2 y3)) ∧ (∀ y0 y1 y2 y3 y4, LeO (types_size.l1 k y0 y1 y2 y3 y4) (types_size.l1 (k + 1) y0 y1 y2 y3 y4))
 | 0 => ⟨fun _ _ _ _ _ r h => by simp [types_size.f] at h, fun _ _ _ _ r h => by simp [types_size.l0] at h, fun _ _ _ _ _ r h => by simp [types_size.l1] at h⟩
 | k + 1 => by
  obtain ⟨ih0, ih1, ih2⟩ := types_size.mono_l k
  refine ⟨?_, ?_, ?_⟩
  ·intro y0 y1 y2 y3 y4
   unfold types_size.f
   repeat' first
   | (with_reducible exact ih0 _ _ _ _ _)
   | (with_reducible exact ih1 _ _ _ _)
   | (with_reducible exact ih2 _ _ _ _ _)
   | (with_reducible exact types_cells.mono _ _ _ _ _ _)
   | (with_reducible exact LeO.refl _)
   | (with_reducible exact LeO.none _)
   | (with_reducible refine LeO.ite ?_ ?_)
   | (with_reducible refine LeO.bind ?_ (fun _ => ?_))
   | exact ih0 _ _ _ _ _
   | exact ih1 _ _ _ _
   | exact ih2 _ _ _ _ _
   | exact types_cells.mono _ _ _ _ _ _
   | exact LeO.none _
   | refine LeO.ite ?_ ?_
   | refine LeO.bind ?_ (fun _ => ?_)
  ·intro y0 y1 y2 y3
   unfold types_size.l0
   repeat' first
   | (with_reducible exact ih0 _ _ _ _ _)
   | (with_reducible exact ih1 _ _ _ _)
   | (with_reducible exact ih2 _ _ _ _ _)
   | (with_reducible exact types_cells.mono _ _ _ _ _ _)
   | (with_reducible exact LeO.refl _)
   | (with_reducible exact LeO.none _)
   | (with_reducible refine LeO.ite ?_ ?_)
   | (with_reducible refine LeO.bind ?_ (fun _ => ?_))
   | exact ih0 _ _ _ _ _
   | exact ih1 _ _ _ _
   | exact ih2 _ _ _ _ _
   | exact types_cells.mono _ _ _ _ _ _
   | exact LeO.none _
   | refine LeO.ite ?_ ?_
   | refine LeO.bind ?_ (fun _ => ?_)
  ·intro y0 y1 y2 y3 y4
   unfold types_size.l1
   repeat' first
   | (with_reducible exact ih0 _ _ _ _ _)
   | (with_reducible exact ih1 _ _ _ _)
   | (with_reducible exact ih2 _ _ _ _ _)
   | (with_reducible exact types_cells.mono _ _ _ _ _ _)
   | (with_reducible exact LeO.refl _)
   | (with_reducible exact LeO.none _)
   | (with_reducible refine LeO.ite ?_ ?_)
   | (with_reducible refine LeO.bind ?_ (fun _ => ?_))
   | exact ih0 _ _ _ _ _
   | exact ih1 _ _ _ _
   | exact ih2 _ _ _ _ _
   | exact types_cells.mono _ _ _ _ _ _
   | exact LeO.none _
   | refine LeO.ite ?_ ?_
   | refine LeO.bind ?_ (fun _ => ?_)
theorem types_size.mono : ∀ a0 a1 a2 a3 a4 k, LeO (types_size.f k a0 a1 a2 a3 a4) (types_size.f (k + 1) a0 a1 a2 a3 a4) := by
 intro a0 a1 a2 a3 a4 k
 obtain ⟨ih0, ih1, ih2⟩ := types_size.mono_l k
 exact ih0 a0 a1 a2 a3 a4
set_option maxHeartbeats 8000000 in
set_option maxRecDepth 100000 in
theorem types_size.calls (k : Nat) : ∀ (a0_0 : Int) (a0_1 : Int) (a0_2 : Int) (a0_3 : Int) (A0_4 : Option Addr) (c0_4 : Nat) (l0_4 : List (S24)) (r : Int) (w : World) (hr0_4 : Kd.C k24 w A0_4 l0_4.length l0_4) (hc0_4 : l0_4.length ≤ c0_4) (h : types_size.f k a0_0 a0_1 a0_2 a0_3 l0_4 = some r),
  Calls Tryd.prog 41 #[.agg #[.int .i64 a0_0, .int .i64 a0_1, .int .i64 a0_2, .int .i64 a0_3, .slice A0_4 l0_4.length c0_4]] w fun e w' => e = .returned (.int .i64 r) ∧ Below w.heap.size w w' := by
 induction k using Nat.strongRecOn with
 | _ k ih =>
 intro a0_0 a0_1 a0_2 a0_3 A0_4 c0_4 l0_4 r w hr0_4 hc0_4 h
 cases k with
 | zero => exact absurd h (by simp [types_size.f])
 | succ k =>
 simp only [types_size.f] at h
 have hu24 := Tryd.underlying24
 have hu41 := Tryd.underlying41
 have HR0_4 := Aside0.mk hr0_4
 have HC0_4 := Aside0.mk hc0_4
 clear hr0_4 hc0_4
 have HB := Aside0.mk (Below.refl w.heap.size w)
 have H : (if a0_0 = 5 then (types_size.l0 k 1 l0_4 (l0_4.length : Int) 0) else (if a0_0 = 6 then (if 0 < (l0_4.length : Int) then ((types_size.f k ((rd_T24 l0_4 0).f0) ((rd_T24 l0_4 0).f1) ((rd_T24 l0_4 0).f2) ((rd_T24 l0_4 0).f3) ((rd_T24 l0_4 0).f4)).bind fun t159 => (types_size.l1 k 1 1 t159 a0_3 0)) else (none)) else ((types_cells.f k a0_0 a0_1 a0_2 a0_3 l0_4).bind fun t160 => (if 0 < (t160.length : Int) then ((types_isTruth.f ((rd_T41 t160 0).f0) ((rd_T41 t160 0).f1) ((rd_T41 t160 0).f2)).bind fun t165 => (if t165 = true then (some 2) else (some (wrap64 ((wrap64 (((rd_T41 t160 0).f2) - ((rd_T41 t160 0).f1))) + 1))))) else (none))))) = some r := h
 clear h
 by_cases c2 : a0_0 = 5
 ·rw [if_pos c2] at H
  have c2b0 : (a0_0 == 5) = true := beq_iff_eq.mpr c2
  have c2b1 : (a0_0 != 5) = false := bne_eq_false_iff_eq.mpr c2
  clear c2
  have H' := Aside0.mk H
  clear H
  go_enter Tryd.func41, Tryd.ntmps41
  go_wp2_with (first | ((with_reducible refine gate_dst (N := 1) rfl ?_); refine box_event ?hg (N := 1) ?hd (cs := #[.int .i64 a0_0, .int .i64 a0_1, .int .i64 a0_2, .int .i64 a0_3, .slice A0_4 l0_4.length c0_4]) (t := 24) ?hr ?_; (case hd => rfl); (case hg => rfl); (case hr => first | (go_simp; done) | (go_simp; rfl)); intro gb154 hg w3 hbox hb; have BK154 := Aside0.mk (hbox); have GW154 : Aside0 (w.heap.size ≤ gb154) := gw_ hg (below_size bl_); have GE154 := GW154; replace HB := Aside0.mk (below_step bl_ hb); clear hb hbox hg; obtain ⟨hcz4_0, hcz4_1, hcz4_2, hcz4_3, hcz4_4, hfz4_0, hfz4_1, hfz4_2, hfz4_3, hfz4_4⟩ := cf5_ BK154.out))
  go_loopg [3, 17] k (fun kq v3 v17 w' => ∃ (x3_1 : Int) (x17_1 : Int), v3 = .int .i64 x3_1 ∧ v17 = .int .i64 x17_1 ∧ Aside0 (types_size.l0 kq x3_1 l0_4 (l0_4.length : Int) x17_1 = some r) ∧ Aside0 (kq ≤ k) ∧ Aside0 (w'.heap[gb154]? = some (.cells #[.int .i64 a0_0, .int .i64 a0_1, .int .i64 a0_2, .int .i64 a0_3, (.slice A0_4 l0_4.length c0_4)] 24 (0, 0))) ∧ Aside0 (Below w.heap.size w w'))
  case atStart => exact ⟨(1), (0), rs_, rs_, H', ⟨Nat.le_refl _⟩, ⟨bk_⟩, ⟨bl_⟩⟩
  case round =>
   clear H'
   try clear c2
   try clear c2b0
   try clear c2b1
   try clear p2
   try clear c4
   try clear hcz4_0 hcz4_1 hcz4_2 hcz4_3 hcz4_4 hfz4_0 hfz4_1 hfz4_2 hfz4_3 hfz4_4
   obtain ⟨x3_1, x17_1, rfl, rfl, HA, HK1, BK154, HB⟩ := hrel
   cases gk with
   | zero => exact absurd HA.out (by simp [types_size.l0])
   | succ k1 =>
    have H := HA.out
    clear HA
    simp only [types_size.l0] at H
    by_cases c5 : x17_1 < (l0_4.length : Int)
    ·rw [if_pos c5] at H
     have c5b0 : decide (x17_1 < (l0_4.length : Int)) = true := decide_eq_true c5
     clear c5
     by_cases c6 : 0 ≤ x17_1
     ·rw [if_pos c6] at H
      have c6b0 : decide (0 ≤ x17_1) = true := decide_eq_true c6
      clear c6
      by_cases c7 : x17_1 < (l0_4.length : Int)
      ·rw [if_pos c7] at H
       have c7b0 : decide (x17_1 < (l0_4.length : Int)) = true := decide_eq_true c7
       clear c7
       replace H := Option.bind_eq_some_iff.mp H
       obtain ⟨t157, A80, H⟩ := H
       replace H : (types_size.l0 k1 (mn (wrap64 (x3_1 * t157)) 1073741825) l0_4 (l0_4.length : Int) (wrap64 (x17_1 + 1))) = some r := H
       have A8 := Aside0.mk A80
       clear A80
       obtain ⟨ji9, hji9⟩ : ∃ j_ : Int, (mn (wrap64 (x3_1 * t157)) 1073741825) = j_ := ⟨_, rfl⟩
       replace H : (types_size.l0 k1 ji9 l0_4 (l0_4.length : Int) (wrap64 (x17_1 + 1))) = some r := by first | (rw [hji9] at H; exact H) | (simp only [hji9] at H ⊢; exact H)
       (try rw [hji9] at A8)
       have hji9_ : (if 1073741825 < (wrap64 (x3_1 * t157)) then 1073741825 else (wrap64 (x3_1 * t157))) = ji9 := hji9
       have H' := Aside0.mk H
       clear H
       have p155 : 0 ≤ (x17_1 : Int) := dt_
       have q155 : x17_1 < (l0_4.length : Int) := dt_
       obtain ⟨ad155, A155_4, c155_4, e155, hx155_0, hx155_1, hx155_2, hx155_3, hx155_4, hl155_4, hi155_4⟩ := at_T24 HR0_4.out x17_1 p155 q155
       cases e155
       replace hx155_0 := (HB.out.cell (World.block_lt_of_cell? w _ hx155_0)).trans hx155_0
       replace hx155_1 := (HB.out.cell (World.block_lt_of_cell? w _ hx155_1)).trans hx155_1
       replace hx155_2 := (HB.out.cell (World.block_lt_of_cell? w _ hx155_2)).trans hx155_2
       replace hx155_3 := (HB.out.cell (World.block_lt_of_cell? w _ hx155_3)).trans hx155_3
       replace hx155_4 := (HB.out.cell (World.block_lt_of_cell? w _ hx155_4)).trans hx155_4
       have HR155_4 := Aside0.mk hi155_4
       have HC155_4 := Aside0.mk hl155_4
       clear hi155_4 hl155_4
       replace p155 := eq_true p155
       replace q155 := eq_true q155
       go_wp2_with (first | ((with_reducible refine gate_dst (N := 5) rfl ?_); refine box_event ?hg (N := 5) ?hd (cs := #[.int .i64 0, .int .i64 0, .int .i64 0, .int .i64 0, .slice none 0 0]) (t := 24) ?hr ?_; (case hd => rfl); (case hg => rfl); (case hr => first | (go_simp; done) | (go_simp; rfl)); intro gb156 hg w10 hbox hb; have BK156 := Aside0.mk (hbox); have GW156 : Aside0 (w.heap.size ≤ gb156) := gw_ hg (below_size bl_); have GE156 := GW156; have NB154_156 := Aside0.mk ((by rw [hg]; exact Nat.ne_of_lt (blk_lt (g := gb154) (o := .cells #[.int .i64 a0_0, .int .i64 a0_1, .int .i64 a0_2, .int .i64 a0_3, .slice (some ad155) l0_4.length c0_4] 24 (0, 0)) bk_) : gb154 ≠ gb156)); have NB156_154 := Aside0.mk ((by rw [hg]; exact Nat.ne_of_gt (blk_lt (g := gb154) (o := .cells #[.int .i64 a0_0, .int .i64 a0_1, .int .i64 a0_2, .int .i64 a0_3, .slice (some ad155) l0_4.length c0_4] 24 (0, 0)) bk_) : gb156 ≠ gb154)); replace BK154 := Aside0.mk (blk_below (g := gb154) (o := .cells #[.int .i64 a0_0, .int .i64 a0_1, .int .i64 a0_2, .int .i64 a0_3, .slice (some ad155) l0_4.length c0_4] 24 (0, 0)) bk_ hb); replace HB := Aside0.mk (below_step bl_ hb); clear hb hbox hg; have hnb11 := NB156_154.out; have hnc11 := NB154_156.out; obtain ⟨hcz12_0, hcz12_1, hcz12_2, hcz12_3, hcz12_4, hfz12_0, hfz12_1, hfz12_2, hfz12_3, hfz12_4⟩ := cf5_ BK156.out) | ((with_reducible refine gate_callee (f := 41) rfl ?_); refine goesL_ (some 23) rfl rfl Tryd.func41 (by kernel_rfl) rfl #[.agg #[.int .i64 ((rd_T24 l0_4 x17_1).f0), .int .i64 ((rd_T24 l0_4 x17_1).f1), .int .i64 ((rd_T24 l0_4 x17_1).f2), .int .i64 ((rd_T24 l0_4 x17_1).f3), .slice A155_4 ((rd_T24 l0_4 x17_1).f4).length c155_4]] rfl (by (try simp only [List.map_toArray, List.map_cons, List.map_nil]); first | done | rfl | (simp only [List.length_drop, List.length_take]; rfl)) ?_; (with_reducible refine (ih k1 (by have := HK1.out; omega) ((rd_T24 l0_4 x17_1).f0) ((rd_T24 l0_4 x17_1).f1) ((rd_T24 l0_4 x17_1).f2) ((rd_T24 l0_4 x17_1).f3) _ _ ((rd_T24 l0_4 x17_1).f4) t157 _ ?side1 ?side2 A8.out).mono ?_); (case side1 => exact Kd.C_below HR155_4.out bl_); (case side2 => exact HC155_4.out); rintro e w13 ⟨rfl, hb⟩; refine ⟨_, rfl, ?_⟩; replace BK154 := Aside0.mk (blk_below (g := gb154) (o := .cells #[.int .i64 a0_0, .int .i64 a0_1, .int .i64 a0_2, .int .i64 a0_3, .slice (some ad155) l0_4.length c0_4] 24 (0, 0)) (by (with_reducible repeat (first | refine blk_drewN ?_ _ | refine blk_drew ?_ | refine blk_alloc ?_ _)); refine blk_far ?_ NB154_156.out _; (with_reducible repeat (first | refine blk_drewN ?_ _ | refine blk_drew ?_ | refine blk_alloc ?_ _)); refine blk_far ?_ NB154_156.out _; (with_reducible repeat (first | refine blk_drewN ?_ _ | refine blk_drew ?_ | refine blk_alloc ?_ _)); refine blk_far ?_ NB154_156.out _; (with_reducible repeat (first | refine blk_drewN ?_ _ | refine blk_drew ?_ | refine blk_alloc ?_ _)); refine blk_far ?_ NB154_156.out _; (with_reducible repeat (first | refine blk_drewN ?_ _ | refine blk_drew ?_ | refine blk_alloc ?_ _)); refine blk_far ?_ NB154_156.out _; (with_reducible repeat (first | refine blk_drewN ?_ _ | refine blk_drew ?_ | refine blk_alloc ?_ _)); exact BK154.out) hb); replace BK156 := Aside0.mk (blk_below (g := gb156) (o := .cells #[.int .i64 ((rd_T24 l0_4 x17_1).f0), .int .i64 ((rd_T24 l0_4 x17_1).f1), .int .i64 ((rd_T24 l0_4 x17_1).f2), .int .i64 ((rd_T24 l0_4 x17_1).f3), .slice A155_4 ((rd_T24 l0_4 x17_1).f4).length c155_4] 24 (0, 0)) (by (with_reducible repeat (first | refine blk_drewN ?_ _ | refine blk_drew ?_ | refine blk_alloc ?_ _)); refine blk_put (cs := #[.int .i64 ((rd_T24 l0_4 x17_1).f0), .int .i64 ((rd_T24 l0_4 x17_1).f1), .int .i64 ((rd_T24 l0_4 x17_1).f2), .int .i64 ((rd_T24 l0_4 x17_1).f3), .slice none 0 0]) ?_ 4 _ rfl; (with_reducible repeat (first | refine blk_drewN ?_ _ | refine blk_drew ?_ | refine blk_alloc ?_ _)); refine blk_put (cs := #[.int .i64 ((rd_T24 l0_4 x17_1).f0), .int .i64 ((rd_T24 l0_4 x17_1).f1), .int .i64 ((rd_T24 l0_4 x17_1).f2), .int .i64 0, .slice none 0 0]) ?_ 3 _ rfl; (with_reducible repeat (first | refine blk_drewN ?_ _ | refine blk_drew ?_ | refine blk_alloc ?_ _)); refine blk_put (cs := #[.int .i64 ((rd_T24 l0_4 x17_1).f0), .int .i64 ((rd_T24 l0_4 x17_1).f1), .int .i64 0, .int .i64 0, .slice none 0 0]) ?_ 2 _ rfl; (with_reducible repeat (first | refine blk_drewN ?_ _ | refine blk_drew ?_ | refine blk_alloc ?_ _)); refine blk_put (cs := #[.int .i64 ((rd_T24 l0_4 x17_1).f0), .int .i64 0, .int .i64 0, .int .i64 0, .slice none 0 0]) ?_ 1 _ rfl; (with_reducible repeat (first | refine blk_drewN ?_ _ | refine blk_drew ?_ | refine blk_alloc ?_ _)); refine blk_put (cs := #[.int .i64 0, .int .i64 0, .int .i64 0, .int .i64 0, .slice none 0 0]) ?_ 0 _ rfl; (with_reducible repeat (first | refine blk_drewN ?_ _ | refine blk_drew ?_ | refine blk_alloc ?_ _)); exact BK156.out) hb); replace HB := Aside0.mk (below_step bl_ hb); (try clear hb); (try clear hb2); (try clear hk); (try clear hi)))
       go_roundg k1
       case measure => have := HK1.out; omega
       case rel => exact ⟨(ji9), (wrap64 (x17_1 + 1)), (by first | rfl | (simp; done) | (simp only [← hji9] <;> (first | rfl | simp)) | (simp [*]; done)), rs_, H', ⟨by have := HK1.out; omega⟩, ⟨bk_⟩, ⟨bl_⟩⟩
      ·rw [if_neg c7] at H
       exact absurd H (by simp)
     ·rw [if_neg c6] at H
      exact absurd H (by simp)
    ·rw [if_neg c5] at H
     have c5b0 : decide (x17_1 < (l0_4.length : Int)) = false := decide_eq_false c5
     clear c5
     obtain rfl := Option.some.inj H
     go_wp2
     go_ret
     exact ⟨re_, bl_⟩
 ·rw [if_neg c2] at H
  have c2b0 : (a0_0 == 5) = false := beq_eq_false_iff_ne.mpr c2
  have c2b1 : (a0_0 != 5) = true := bne_iff_ne.mpr c2
  by_cases c14 : a0_0 = 6
  ·rw [if_pos c14] at H
   have c14b0 : (a0_0 == 6) = true := beq_iff_eq.mpr c14
   have c14b1 : (a0_0 != 6) = false := bne_eq_false_iff_eq.mpr c14
   clear c14
   by_cases c15 : 0 < (l0_4.length : Int)
   ·rw [if_pos c15] at H
    have c15b0 : decide (0 < (l0_4.length : Int)) = true := decide_eq_true c15
    have c15b1 : decide (0 < l0_4.length) = true := decide_eq_true (by omega)
    clear c15
    replace H := Option.bind_eq_some_iff.mp H
    obtain ⟨t159, A160, H⟩ := H
    replace H : (types_size.l1 k 1 1 t159 a0_3 0) = some r := H
    have A16 := Aside0.mk A160
    clear A160
    have H' := Aside0.mk H
    clear H
    go_enter Tryd.func41, Tryd.ntmps41
    go_wp2_with (first | ((with_reducible refine gate_dst (N := 1) rfl ?_); refine box_event ?hg (N := 1) ?hd (cs := #[.int .i64 a0_0, .int .i64 a0_1, .int .i64 a0_2, .int .i64 a0_3, .slice A0_4 l0_4.length c0_4]) (t := 24) ?hr ?_; (case hd => rfl); (case hg => rfl); (case hr => first | (go_simp; done) | (go_simp; rfl)); intro gb154 hg w17 hbox hb; have BK154 := Aside0.mk (hbox); have GW154 : Aside0 (w.heap.size ≤ gb154) := gw_ hg (below_size bl_); have GE154 := GW154; replace HB := Aside0.mk (below_step bl_ hb); clear hb hbox hg; obtain ⟨hcz18_0, hcz18_1, hcz18_2, hcz18_3, hcz18_4, hfz18_0, hfz18_1, hfz18_2, hfz18_3, hfz18_4⟩ := cf5_ BK154.out; have p158 : 0 ≤ (0 : Int) := (by omega); have q158 : 0 < (l0_4.length : Int) := dt_; obtain ⟨ad158, A158_4, c158_4, e158, hx158_0, hx158_1, hx158_2, hx158_3, hx158_4, hl158_4, hi158_4⟩ := at_T24 HR0_4.out 0 p158 q158; cases e158; have qi158 : (0 < l0_4.length) = True := eq_true (by omega); (try rw [show ((0 : Int)).toNat = 0 from rfl] at hx158_0); (try rw [show 0 * 5 = 0 from rfl] at hx158_0); (try rw [Addr.add_zero'] at hx158_0); (try rw [show ((0 : Int)).toNat = 0 from rfl] at hx158_1); (try rw [show 0 * 5 = 0 from rfl] at hx158_1); (try rw [Addr.add_zero'] at hx158_1); (try rw [show ((0 : Int)).toNat = 0 from rfl] at hx158_2); (try rw [show 0 * 5 = 0 from rfl] at hx158_2); (try rw [Addr.add_zero'] at hx158_2); (try rw [show ((0 : Int)).toNat = 0 from rfl] at hx158_3); (try rw [show 0 * 5 = 0 from rfl] at hx158_3); (try rw [Addr.add_zero'] at hx158_3); (try rw [show ((0 : Int)).toNat = 0 from rfl] at hx158_4); (try rw [show 0 * 5 = 0 from rfl] at hx158_4); (try rw [Addr.add_zero'] at hx158_4); replace hx158_0 := (HB.out.cell (World.block_lt_of_cell? w _ hx158_0)).trans hx158_0; replace hx158_1 := (HB.out.cell (World.block_lt_of_cell? w _ hx158_1)).trans hx158_1; replace hx158_2 := (HB.out.cell (World.block_lt_of_cell? w _ hx158_2)).trans hx158_2; replace hx158_3 := (HB.out.cell (World.block_lt_of_cell? w _ hx158_3)).trans hx158_3; replace hx158_4 := (HB.out.cell (World.block_lt_of_cell? w _ hx158_4)).trans hx158_4; have HR158_4 := Aside0.mk hi158_4; have HC158_4 := Aside0.mk hl158_4; clear hi158_4 hl158_4; replace p158 := eq_true p158; replace q158 := eq_true q158) | ((with_reducible refine gate_callee (f := 41) rfl ?_); refine goesL_ (some 34) rfl rfl Tryd.func41 (by kernel_rfl) rfl #[.agg #[.int .i64 ((rd_T24 l0_4 0).f0), .int .i64 ((rd_T24 l0_4 0).f1), .int .i64 ((rd_T24 l0_4 0).f2), .int .i64 ((rd_T24 l0_4 0).f3), .slice A158_4 ((rd_T24 l0_4 0).f4).length c158_4]] rfl (by (try simp only [List.map_toArray, List.map_cons, List.map_nil]); first | done | rfl | (simp only [List.length_drop, List.length_take]; rfl)) ?_; (with_reducible refine (ih k (by omega) ((rd_T24 l0_4 0).f0) ((rd_T24 l0_4 0).f1) ((rd_T24 l0_4 0).f2) ((rd_T24 l0_4 0).f3) _ _ ((rd_T24 l0_4 0).f4) t159 _ ?side1 ?side2 A16.out).mono ?_); (case side1 => repeat (first | exact (Kd.C_below HR158_4.out HB.out) | (with_reducible refine Kd.C_alloc ?_ _) | (with_reducible refine Kd.C_drewN ?_ _) | (with_reducible refine Kd.C_drew ?_))); (case side2 => exact HC158_4.out); rintro e w19 ⟨rfl, hb⟩; refine ⟨_, rfl, ?_⟩; replace BK154 := Aside0.mk (blk_below (g := gb154) (o := .cells #[.int .i64 a0_0, .int .i64 a0_1, .int .i64 a0_2, .int .i64 a0_3, .slice (some ad158) l0_4.length c0_4] 24 (0, 0)) bk_ hb); replace HB := Aside0.mk (below_step bl_ hb); (try clear hb); (try clear hb2); (try clear hk); (try clear hi); obtain ⟨hcz20_0, hcz20_1, hcz20_2, hcz20_3, hcz20_4, hfz20_0, hfz20_1, hfz20_2, hfz20_3, hfz20_4⟩ := cf5_ BK154.out))
    go_loopg [6, 7, 37] k (fun kq v6 v7 v37 w' => ∃ (x6_1 : Int) (x7_1 : Int) (x37_1 : Int), v6 = .int .i64 x6_1 ∧ v7 = .int .i64 x7_1 ∧ v37 = .int .i64 x37_1 ∧ Aside0 (types_size.l1 kq x6_1 x7_1 t159 a0_3 x37_1 = some r) ∧ Aside0 (kq ≤ k) ∧ Aside0 (w'.heap[gb154]? = some (.cells #[.int .i64 a0_0, .int .i64 a0_1, .int .i64 a0_2, .int .i64 a0_3, (.slice (some ad158) l0_4.length c0_4)] 24 (0, 0))) ∧ Aside0 (Below w.heap.size w w'))
    case atStart => exact ⟨(1), (1), (0), rs_, rs_, rs_, H', ⟨Nat.le_refl _⟩, ⟨bk_⟩, ⟨bl_⟩⟩
    case round =>
     clear H'
     try clear c1
     try clear p1
     try clear q1
     try clear hx1
     try clear qi1
     try clear c2
     try clear c2b0
     try clear c2b1
     try clear p2
     try clear c4
     try clear c5
     try clear c5b0
     try clear c6
     try clear c6b0
     try clear p6
     try clear c7
     try clear c7b0
     try clear c11
     try clear c14
     try clear c14b0
     try clear c14b1
     try clear c15
     try clear c15b0
     try clear c15b1
     try clear p15
     try clear q15
     try clear hx15
     try clear qi15
     try clear hcz12_0 hcz12_1 hcz12_2 hcz12_3 hcz12_4 hfz12_0 hfz12_1 hfz12_2 hfz12_3 hfz12_4
     try clear hcz18_0 hcz18_1 hcz18_2 hcz18_3 hcz18_4 hfz18_0 hfz18_1 hfz18_2 hfz18_3 hfz18_4
     try clear hcz20_0 hcz20_1 hcz20_2 hcz20_3 hcz20_4 hfz20_0 hfz20_1 hfz20_2 hfz20_3 hfz20_4
     try clear hcz4_0 hcz4_1 hcz4_2 hcz4_3 hcz4_4 hfz4_0 hfz4_1 hfz4_2 hfz4_3 hfz4_4
     try clear hx155_0
     try clear hx155_1
     try clear hx155_2
     try clear hx155_3
     try clear hx155_4
     try clear hx158_0
     try clear hx158_1
     try clear hx158_2
     try clear hx158_3
     try clear hx158_4
     try clear p155
     try clear p158
     try clear p2
     try clear q155
     try clear q158
     obtain ⟨x6_1, x7_1, x37_1, rfl, rfl, rfl, HA, HK1, BK154, HB⟩ := hrel
     cases gk with
     | zero => exact absurd HA.out (by simp [types_size.l1])
     | succ k1 =>
      have H := HA.out
      clear HA
      simp only [types_size.l1] at H
      by_cases c21 : x37_1 < a0_3
      ·rw [if_pos c21] at H
       have c21b0 : decide (x37_1 < a0_3) = true := decide_eq_true c21
       clear c21
       obtain ⟨ji22, hji22⟩ : ∃ j_ : Int, (mn (wrap64 (x7_1 * t159)) 1073741825) = j_ := ⟨_, rfl⟩
       replace H : (types_size.l1 k1 (mn (wrap64 (x6_1 + (ji22))) 1073741825) ji22 t159 a0_3 (wrap64 (x37_1 + 1))) = some r := by first | (rw [hji22] at H; exact H) | (simp only [hji22] at H ⊢; exact H)
       have hji22_ : (if 1073741825 < (wrap64 (x7_1 * t159)) then 1073741825 else (wrap64 (x7_1 * t159))) = ji22 := hji22
       obtain ⟨ji23, hji23⟩ : ∃ j_ : Int, (mn (wrap64 (x6_1 + (ji22))) 1073741825) = j_ := ⟨_, rfl⟩
       replace H : (types_size.l1 k1 ji23 ji22 t159 a0_3 (wrap64 (x37_1 + 1))) = some r := by first | (rw [hji23] at H; exact H) | (simp only [hji23] at H ⊢; exact H)
       have hji23_ : (if 1073741825 < (wrap64 (x6_1 + (ji22))) then 1073741825 else (wrap64 (x6_1 + (ji22)))) = ji23 := hji23
       have H' := Aside0.mk H
       clear H
       go_wp2
       go_roundg k1
       case measure => have := HK1.out; omega
       case rel => exact ⟨(ji23), (ji22), (wrap64 (x37_1 + 1)), (by first | rfl | (simp; done) | (simp only [← hji23] <;> (first | rfl | simp)) | (simp [*]; done)), (by first | rfl | (simp; done) | (simp only [← hji22] <;> (first | rfl | simp)) | (simp [*]; done)), rs_, H', ⟨by have := HK1.out; omega⟩, ⟨bk_⟩, ⟨bl_⟩⟩
      ·rw [if_neg c21] at H
       have c21b0 : decide (x37_1 < a0_3) = false := decide_eq_false c21
       clear c21
       obtain rfl := Option.some.inj H
       go_wp2
       go_ret
       exact ⟨re_, bl_⟩
   ·rw [if_neg c15] at H
    exact absurd H (by simp)
  ·rw [if_neg c14] at H
   have c14b0 : (a0_0 == 6) = false := beq_eq_false_iff_ne.mpr c14
   have c14b1 : (a0_0 != 6) = true := bne_iff_ne.mpr c14
   replace H := Option.bind_eq_some_iff.mp H
   obtain ⟨t160, A240, H⟩ := H
   replace H : (if 0 < (t160.length : Int) then ((types_isTruth.f ((rd_T41 t160 0).f0) ((rd_T41 t160 0).f1) ((rd_T41 t160 0).f2)).bind fun t165 => (if t165 = true then (some 2) else (some (wrap64 ((wrap64 (((rd_T41 t160 0).f2) - ((rd_T41 t160 0).f1))) + 1))))) else (none)) = some r := H
   have A24 := Aside0.mk A240
   clear A240
   by_cases c25 : 0 < (t160.length : Int)
   ·rw [if_pos c25] at H
    have c25b0 : decide (0 < (t160.length : Int)) = true := decide_eq_true c25
    have c25b1 : decide (0 < t160.length) = true := decide_eq_true (by omega)
    clear c25
    replace H := Option.bind_eq_some_iff.mp H
    obtain ⟨t165, A260, H⟩ := H
    replace H : (if t165 = true then (some 2) else (some (wrap64 ((wrap64 (((rd_T41 t160 0).f2) - ((rd_T41 t160 0).f1))) + 1)))) = some r := H
    have A26 := Aside0.mk A260
    clear A260
    by_cases c27 : t165 = true
    ·subst c27
     have H1 : (some 2) = some r := by rw [if_pos rfl] at H; exact H
     clear H
     have H := H1
     clear H1
     obtain rfl := Option.some.inj H
     go_enter Tryd.func41, Tryd.ntmps41
     go_wp2_with (first | ((with_reducible refine gate_dst (N := 1) rfl ?_); refine box_event ?hg (N := 1) ?hd (cs := #[.int .i64 a0_0, .int .i64 a0_1, .int .i64 a0_2, .int .i64 a0_3, .slice A0_4 l0_4.length c0_4]) (t := 24) ?hr ?_; (case hd => rfl); (case hg => rfl); (case hr => first | (go_simp; done) | (go_simp; rfl)); intro gb154 hg w28 hbox hb; have BK154 := Aside0.mk (hbox); have GW154 : Aside0 (w.heap.size ≤ gb154) := gw_ hg (below_size bl_); have GE154 := GW154; replace HB := Aside0.mk (below_step bl_ hb); clear hb hbox hg; obtain ⟨hcz29_0, hcz29_1, hcz29_2, hcz29_3, hcz29_4, hfz29_0, hfz29_1, hfz29_2, hfz29_3, hfz29_4⟩ := cf5_ BK154.out) | ((with_reducible refine gate_callee (f := 42) rfl ?_); refine goesL_ (some 50) rfl rfl Tryd.func42 (by kernel_rfl) rfl #[.agg #[.int .i64 a0_0, .int .i64 a0_1, .int .i64 a0_2, .int .i64 a0_3, .slice A0_4 l0_4.length c0_4]] rfl (by (try simp only [List.map_toArray, List.map_cons, List.map_nil]); first | done | rfl | (simp only [List.length_drop, List.length_take]; rfl)) ?_; (with_reducible refine (types_cells.calls k a0_0 a0_1 a0_2 a0_3 _ _ l0_4 t160 _ ?side1 ?side2 A24.out).mono ?_); (case side1 => repeat (first | exact (Kd.C_below HR0_4.out HB.out) | (with_reducible refine Kd.C_alloc ?_ _) | (with_reducible refine Kd.C_drewN ?_ _) | (with_reducible refine Kd.C_drew ?_))); (case side2 => exact HC0_4.out); rintro e w30 ⟨v161, rfl, ho0, hb⟩; refine ⟨_, rfl, ?_⟩; have HO162 := Aside0.mk (Kd.R_lower ho0 (below_size bl_)); replace BK154 := Aside0.mk (blk_below (g := gb154) (o := .cells #[.int .i64 a0_0, .int .i64 a0_1, .int .i64 a0_2, .int .i64 a0_3, .slice A0_4 l0_4.length c0_4] 24 (0, 0)) bk_ hb); replace HB := Aside0.mk (below_step bl_ hb); (try clear hb); (try clear hb2); (try clear hk); (try clear hi); (try clear ho0); obtain ⟨Ao31, co31, eo31⟩ := Kd.R_slice HO162.out; subst eo31; have p163 : 0 ≤ (0 : Int) := (by omega); have q163 : 0 < (t160.length : Int) := dt_; obtain ⟨ad163, e163, hx163_0, hx163_1, hx163_2⟩ := at_T41 (Kd.R_reads' HO162.out).2.2 0 p163 q163; cases e163; have qi163 : (0 < t160.length) = True := eq_true (by omega); (try rw [show ((0 : Int)).toNat = 0 from rfl] at hx163_0); (try rw [show 0 * 3 = 0 from rfl] at hx163_0); (try rw [Addr.add_zero'] at hx163_0); (try rw [show ((0 : Int)).toNat = 0 from rfl] at hx163_1); (try rw [show 0 * 3 = 0 from rfl] at hx163_1); (try rw [Addr.add_zero'] at hx163_1); (try rw [show ((0 : Int)).toNat = 0 from rfl] at hx163_2); (try rw [show 0 * 3 = 0 from rfl] at hx163_2); (try rw [Addr.add_zero'] at hx163_2); replace p163 := eq_true p163; replace q163 := eq_true q163) | ((with_reducible refine gate_dst (N := 9) rfl ?_); refine box_event ?hg (N := 9) ?hd (cs := #[.int .i64 0, .int .i64 0, .int .i64 0]) (t := 41) ?hr ?_; (case hd => rfl); (case hg => rfl); (case hr => first | (go_simp; done) | (go_simp; rfl)); intro gb164 hg w32 hbox hb; have BK164 := Aside0.mk (hbox); have GW164 : Aside0 (w.heap.size ≤ gb164) := gw_ hg (below_size bl_); have GE164 := GW164; have NB154_164 := Aside0.mk ((by rw [hg]; exact Nat.ne_of_lt (blk_lt (g := gb154) (o := .cells #[.int .i64 a0_0, .int .i64 a0_1, .int .i64 a0_2, .int .i64 a0_3, .slice A0_4 l0_4.length c0_4] 24 (0, 0)) bk_) : gb154 ≠ gb164)); have NB164_154 := Aside0.mk ((by rw [hg]; exact Nat.ne_of_gt (blk_lt (g := gb154) (o := .cells #[.int .i64 a0_0, .int .i64 a0_1, .int .i64 a0_2, .int .i64 a0_3, .slice A0_4 l0_4.length c0_4] 24 (0, 0)) bk_) : gb164 ≠ gb154)); replace HO162 := Aside0.mk (Kd.R_below (Kd.R_elderB (pR_ HO162.out) gb164 (Nat.le_of_eq hg.symm)) hb); replace BK154 := Aside0.mk (blk_below (g := gb154) (o := .cells #[.int .i64 a0_0, .int .i64 a0_1, .int .i64 a0_2, .int .i64 a0_3, .slice A0_4 l0_4.length c0_4] 24 (0, 0)) bk_ hb); replace HB := Aside0.mk (below_step bl_ hb); clear hb hbox hg; have hnb33 := NB164_154.out; have hnc33 := NB154_164.out; obtain ⟨hcz34_0, hcz34_1, hcz34_2, hfz34_0, hfz34_1, hfz34_2⟩ := cf3_ BK164.out) | ((with_reducible refine gate_callee (f := 70) rfl ?_); refine goesL_ (some 54) rfl rfl Tryd.func70 (by kernel_rfl) rfl #[.agg #[.int .i64 ((rd_T41 t160 0).f0), .int .i64 ((rd_T41 t160 0).f1), .int .i64 ((rd_T41 t160 0).f2)]] rfl (by (try simp only [List.map_toArray, List.map_cons, List.map_nil]); first | done | rfl | (simp only [List.length_drop, List.length_take]; rfl)) ?_; (with_reducible refine (types_isTruth.calls ((rd_T41 t160 0).f0) ((rd_T41 t160 0).f1) ((rd_T41 t160 0).f2) true _ A26.out).mono ?_); rintro e w35 ⟨rfl, hb⟩; refine ⟨_, rfl, ?_⟩; replace HO162 := Aside0.mk (Kd.R_below (by (with_reducible repeat (first | apply Kd.R_alloc | apply Kd.R_drewN | apply Kd.R_drew)); exact (Kd.R_mono (Kd.R_far (p := ⟨gb164, 2, none⟩) (Kd.R_far (p := ⟨gb164, 1, none⟩) (Kd.R_far (p := ⟨gb164, 0, none⟩) (Kd.R_mono HO162.out (fun k_ hk => (⟨hk, by first | exact hk.2 | exact hk.1 | exact hk.2 | exact hk.1.1 | exact hk.1.2⟩ : _ ∧ k_ ≠ gb164))) (fun _ hk => hk.2) (.int .i64 ((rd_T41 t160 0).f0))) (fun _ hk => hk.2) (.int .i64 ((rd_T41 t160 0).f1))) (fun _ hk => hk.2) (.int .i64 ((rd_T41 t160 0).f2))) (fun _ h_ => h_.1))) hb); replace BK154 := Aside0.mk (blk_below (g := gb154) (o := .cells #[.int .i64 a0_0, .int .i64 a0_1, .int .i64 a0_2, .int .i64 a0_3, .slice A0_4 l0_4.length c0_4] 24 (0, 0)) (by (with_reducible repeat (first | refine blk_drewN ?_ _ | refine blk_drew ?_ | refine blk_alloc ?_ _)); refine blk_far ?_ NB154_164.out _; (with_reducible repeat (first | refine blk_drewN ?_ _ | refine blk_drew ?_ | refine blk_alloc ?_ _)); refine blk_far ?_ NB154_164.out _; (with_reducible repeat (first | refine blk_drewN ?_ _ | refine blk_drew ?_ | refine blk_alloc ?_ _)); refine blk_far ?_ NB154_164.out _; (with_reducible repeat (first | refine blk_drewN ?_ _ | refine blk_drew ?_ | refine blk_alloc ?_ _)); exact BK154.out) hb); replace BK164 := Aside0.mk (blk_below (g := gb164) (o := .cells #[.int .i64 ((rd_T41 t160 0).f0), .int .i64 ((rd_T41 t160 0).f1), .int .i64 ((rd_T41 t160 0).f2)] 41 (0, 0)) (by (with_reducible repeat (first | refine blk_drewN ?_ _ | refine blk_drew ?_ | refine blk_alloc ?_ _)); refine blk_put (cs := #[.int .i64 ((rd_T41 t160 0).f0), .int .i64 ((rd_T41 t160 0).f1), .int .i64 0]) ?_ 2 _ rfl; (with_reducible repeat (first | refine blk_drewN ?_ _ | refine blk_drew ?_ | refine blk_alloc ?_ _)); refine blk_put (cs := #[.int .i64 ((rd_T41 t160 0).f0), .int .i64 0, .int .i64 0]) ?_ 1 _ rfl; (with_reducible repeat (first | refine blk_drewN ?_ _ | refine blk_drew ?_ | refine blk_alloc ?_ _)); refine blk_put (cs := #[.int .i64 0, .int .i64 0, .int .i64 0]) ?_ 0 _ rfl; (with_reducible repeat (first | refine blk_drewN ?_ _ | refine blk_drew ?_ | refine blk_alloc ?_ _)); exact BK164.out) hb); replace HB := Aside0.mk (below_step bl_ hb); (try clear hb); (try clear hb2); (try clear hk); (try clear hi)))
     go_ret
     exact ⟨re_, bl_⟩
    ·replace c27 := Bool.eq_false_iff.mpr c27
     subst c27
     have H1 : (some (wrap64 ((wrap64 (((rd_T41 t160 0).f2) - ((rd_T41 t160 0).f1))) + 1))) = some r := by rw [if_neg (show ¬ (false = true) by decide)] at H; exact H
     clear H
     have H := H1
     clear H1
     obtain rfl := Option.some.inj H
     go_enter Tryd.func41, Tryd.ntmps41
     go_wp2_with (first | ((with_reducible refine gate_dst (N := 1) rfl ?_); refine box_event ?hg (N := 1) ?hd (cs := #[.int .i64 a0_0, .int .i64 a0_1, .int .i64 a0_2, .int .i64 a0_3, .slice A0_4 l0_4.length c0_4]) (t := 24) ?hr ?_; (case hd => rfl); (case hg => rfl); (case hr => first | (go_simp; done) | (go_simp; rfl)); intro gb154 hg w36 hbox hb; have BK154 := Aside0.mk (hbox); have GW154 : Aside0 (w.heap.size ≤ gb154) := gw_ hg (below_size bl_); have GE154 := GW154; replace HB := Aside0.mk (below_step bl_ hb); clear hb hbox hg; obtain ⟨hcz37_0, hcz37_1, hcz37_2, hcz37_3, hcz37_4, hfz37_0, hfz37_1, hfz37_2, hfz37_3, hfz37_4⟩ := cf5_ BK154.out) | ((with_reducible refine gate_callee (f := 42) rfl ?_); refine goesL_ (some 50) rfl rfl Tryd.func42 (by kernel_rfl) rfl #[.agg #[.int .i64 a0_0, .int .i64 a0_1, .int .i64 a0_2, .int .i64 a0_3, .slice A0_4 l0_4.length c0_4]] rfl (by (try simp only [List.map_toArray, List.map_cons, List.map_nil]); first | done | rfl | (simp only [List.length_drop, List.length_take]; rfl)) ?_; (with_reducible refine (types_cells.calls k a0_0 a0_1 a0_2 a0_3 _ _ l0_4 t160 _ ?side1 ?side2 A24.out).mono ?_); (case side1 => repeat (first | exact (Kd.C_below HR0_4.out HB.out) | (with_reducible refine Kd.C_alloc ?_ _) | (with_reducible refine Kd.C_drewN ?_ _) | (with_reducible refine Kd.C_drew ?_))); (case side2 => exact HC0_4.out); rintro e w38 ⟨v161, rfl, ho0, hb⟩; refine ⟨_, rfl, ?_⟩; have HO162 := Aside0.mk (Kd.R_lower ho0 (below_size bl_)); replace BK154 := Aside0.mk (blk_below (g := gb154) (o := .cells #[.int .i64 a0_0, .int .i64 a0_1, .int .i64 a0_2, .int .i64 a0_3, .slice A0_4 l0_4.length c0_4] 24 (0, 0)) bk_ hb); replace HB := Aside0.mk (below_step bl_ hb); (try clear hb); (try clear hb2); (try clear hk); (try clear hi); (try clear ho0); obtain ⟨Ao39, co39, eo39⟩ := Kd.R_slice HO162.out; subst eo39; have p163 : 0 ≤ (0 : Int) := (by omega); have q163 : 0 < (t160.length : Int) := dt_; obtain ⟨ad163, e163, hx163_0, hx163_1, hx163_2⟩ := at_T41 (Kd.R_reads' HO162.out).2.2 0 p163 q163; cases e163; have qi163 : (0 < t160.length) = True := eq_true (by omega); (try rw [show ((0 : Int)).toNat = 0 from rfl] at hx163_0); (try rw [show 0 * 3 = 0 from rfl] at hx163_0); (try rw [Addr.add_zero'] at hx163_0); (try rw [show ((0 : Int)).toNat = 0 from rfl] at hx163_1); (try rw [show 0 * 3 = 0 from rfl] at hx163_1); (try rw [Addr.add_zero'] at hx163_1); (try rw [show ((0 : Int)).toNat = 0 from rfl] at hx163_2); (try rw [show 0 * 3 = 0 from rfl] at hx163_2); (try rw [Addr.add_zero'] at hx163_2); replace p163 := eq_true p163; replace q163 := eq_true q163) | ((with_reducible refine gate_dst (N := 9) rfl ?_); refine box_event ?hg (N := 9) ?hd (cs := #[.int .i64 0, .int .i64 0, .int .i64 0]) (t := 41) ?hr ?_; (case hd => rfl); (case hg => rfl); (case hr => first | (go_simp; done) | (go_simp; rfl)); intro gb164 hg w40 hbox hb; have BK164 := Aside0.mk (hbox); have GW164 : Aside0 (w.heap.size ≤ gb164) := gw_ hg (below_size bl_); have GE164 := GW164; have NB154_164 := Aside0.mk ((by rw [hg]; exact Nat.ne_of_lt (blk_lt (g := gb154) (o := .cells #[.int .i64 a0_0, .int .i64 a0_1, .int .i64 a0_2, .int .i64 a0_3, .slice A0_4 l0_4.length c0_4] 24 (0, 0)) bk_) : gb154 ≠ gb164)); have NB164_154 := Aside0.mk ((by rw [hg]; exact Nat.ne_of_gt (blk_lt (g := gb154) (o := .cells #[.int .i64 a0_0, .int .i64 a0_1, .int .i64 a0_2, .int .i64 a0_3, .slice A0_4 l0_4.length c0_4] 24 (0, 0)) bk_) : gb164 ≠ gb154)); replace HO162 := Aside0.mk (Kd.R_below (Kd.R_elderB (pR_ HO162.out) gb164 (Nat.le_of_eq hg.symm)) hb); replace BK154 := Aside0.mk (blk_below (g := gb154) (o := .cells #[.int .i64 a0_0, .int .i64 a0_1, .int .i64 a0_2, .int .i64 a0_3, .slice A0_4 l0_4.length c0_4] 24 (0, 0)) bk_ hb); replace HB := Aside0.mk (below_step bl_ hb); clear hb hbox hg; have hnb41 := NB164_154.out; have hnc41 := NB154_164.out; obtain ⟨hcz42_0, hcz42_1, hcz42_2, hfz42_0, hfz42_1, hfz42_2⟩ := cf3_ BK164.out) | ((with_reducible refine gate_callee (f := 70) rfl ?_); refine goesL_ (some 54) rfl rfl Tryd.func70 (by kernel_rfl) rfl #[.agg #[.int .i64 ((rd_T41 t160 0).f0), .int .i64 ((rd_T41 t160 0).f1), .int .i64 ((rd_T41 t160 0).f2)]] rfl (by (try simp only [List.map_toArray, List.map_cons, List.map_nil]); first | done | rfl | (simp only [List.length_drop, List.length_take]; rfl)) ?_; (with_reducible refine (types_isTruth.calls ((rd_T41 t160 0).f0) ((rd_T41 t160 0).f1) ((rd_T41 t160 0).f2) false _ A26.out).mono ?_); rintro e w43 ⟨rfl, hb⟩; refine ⟨_, rfl, ?_⟩; replace HO162 := Aside0.mk (Kd.R_below (by (with_reducible repeat (first | apply Kd.R_alloc | apply Kd.R_drewN | apply Kd.R_drew)); exact (Kd.R_mono (Kd.R_far (p := ⟨gb164, 2, none⟩) (Kd.R_far (p := ⟨gb164, 1, none⟩) (Kd.R_far (p := ⟨gb164, 0, none⟩) (Kd.R_mono HO162.out (fun k_ hk => (⟨hk, by first | exact hk.2 | exact hk.1 | exact hk.2 | exact hk.1.1 | exact hk.1.2⟩ : _ ∧ k_ ≠ gb164))) (fun _ hk => hk.2) (.int .i64 ((rd_T41 t160 0).f0))) (fun _ hk => hk.2) (.int .i64 ((rd_T41 t160 0).f1))) (fun _ hk => hk.2) (.int .i64 ((rd_T41 t160 0).f2))) (fun _ h_ => h_.1))) hb); replace BK154 := Aside0.mk (blk_below (g := gb154) (o := .cells #[.int .i64 a0_0, .int .i64 a0_1, .int .i64 a0_2, .int .i64 a0_3, .slice A0_4 l0_4.length c0_4] 24 (0, 0)) (by (with_reducible repeat (first | refine blk_drewN ?_ _ | refine blk_drew ?_ | refine blk_alloc ?_ _)); refine blk_far ?_ NB154_164.out _; (with_reducible repeat (first | refine blk_drewN ?_ _ | refine blk_drew ?_ | refine blk_alloc ?_ _)); refine blk_far ?_ NB154_164.out _; (with_reducible repeat (first | refine blk_drewN ?_ _ | refine blk_drew ?_ | refine blk_alloc ?_ _)); refine blk_far ?_ NB154_164.out _; (with_reducible repeat (first | refine blk_drewN ?_ _ | refine blk_drew ?_ | refine blk_alloc ?_ _)); exact BK154.out) hb); replace BK164 := Aside0.mk (blk_below (g := gb164) (o := .cells #[.int .i64 ((rd_T41 t160 0).f0), .int .i64 ((rd_T41 t160 0).f1), .int .i64 ((rd_T41 t160 0).f2)] 41 (0, 0)) (by (with_reducible repeat (first | refine blk_drewN ?_ _ | refine blk_drew ?_ | refine blk_alloc ?_ _)); refine blk_put (cs := #[.int .i64 ((rd_T41 t160 0).f0), .int .i64 ((rd_T41 t160 0).f1), .int .i64 0]) ?_ 2 _ rfl; (with_reducible repeat (first | refine blk_drewN ?_ _ | refine blk_drew ?_ | refine blk_alloc ?_ _)); refine blk_put (cs := #[.int .i64 ((rd_T41 t160 0).f0), .int .i64 0, .int .i64 0]) ?_ 1 _ rfl; (with_reducible repeat (first | refine blk_drewN ?_ _ | refine blk_drew ?_ | refine blk_alloc ?_ _)); refine blk_put (cs := #[.int .i64 0, .int .i64 0, .int .i64 0]) ?_ 0 _ rfl; (with_reducible repeat (first | refine blk_drewN ?_ _ | refine blk_drew ?_ | refine blk_alloc ?_ _)); exact BK164.out) hb); replace HB := Aside0.mk (below_step bl_ hb); (try clear hb); (try clear hb2); (try clear hk); (try clear hi); obtain ⟨hcz44_0, hcz44_1, hcz44_2, hfz44_0, hfz44_1, hfz44_2⟩ := cf3_ BK164.out))
     go_ret
     exact ⟨re_, bl_⟩
   ·rw [if_neg c25] at H
    exact absurd H (by simp)

end Go.Proofs.YtggelekooacmnaaDoor.Q
namespace Go.Proofs.YtggelekooacmnaaDoor.Q
open Go.RowKit Go.Proofs.YtggelekooacmnaaDoorW.PrintWords Go.Proofs.YtggelekooacmnaaDoorW.PrintLast Go.Proofs.YtggelekooacmnaaDoorW.PrintMore
attribute [local go_sem] max2_int min2_int max_two min_two max_three min_three max_four min_four   -- for this text's walks alone
set_option linter.unusedVariables false
set_option linter.unusedSimpArgs false

/-! ### types_Size: function 16 -/
def types_Size.j0 : Nat → Bool → Int → Int → Int → Int → List (S24) → Option (Int × Int)
  | 0, _, _, _, _, _, _ => none
  | k + 1, x18, x167000, x167001, x167002, x167003, x167004 => if x18 = true then (some (0, 8)) else ((types_size.f k x167000 x167001 x167002 x167003 x167004).bind fun t168 => (if t168 > 1073741824 then (some (0, 9)) else (some (t168, 0))))
def types_Size.f (k : Nat) (a0_0 : Int) (a0_1 : Int) (a0_2 : Int) (a0_3 : Int) (l0_4 : List (S24)) : Option (Int × Int) := (types_Validate.f k a0_0 a0_1 a0_2 a0_3 l0_4).bind fun t167 => (if t167 = 0 then (if a0_0 = 3 then (types_Size.j0 k true a0_0 a0_1 a0_2 a0_3 l0_4) else (types_Size.j0 k (a0_0 == 4) a0_0 a0_1 a0_2 a0_3 l0_4)) else (some (0, t167)))
theorem types_Size.mono_l : ∀ k, (∀ y0 y1 y2 y3 y4 y5, LeO (types_Size.j0 k y0 y1 y2 y3 y4 y5) (types_Size.j0 (k + 1) y0 y1 y2 y3 y4 y5))
  | 0 => fun _ _ _ _ _ _ r h => by simp [types_Size.j0] at h
  | k + 1 => by
    have ih0 := types_Size.mono_l k
    · intro y0 y1 y2 y3 y4 y5
      unfold types_Size.j0
      repeat' first
      | (with_reducible exact ih0 _ _ _ _ _ _)
      | (with_reducible exact types_Validate.mono _ _ _ _ _ _)
      | (with_reducible exact types_size.mono _ _ _ _ _ _)
      | (with_reducible exact LeO.refl _)
      | (with_reducible exact LeO.none _)
      | (with_reducible refine LeO.ite ?_ ?_)
      | (with_reducible refine LeO.bind ?_ (fun _ => ?_))
      | exact ih0 _ _ _ _ _ _
      | exact types_Validate.mono _ _ _ _ _ _
      | exact types_size.mono _ _ _ _ _ _
      | exact LeO.none _
      | refine LeO.ite ?_ ?_
      | refine LeO.bind ?_ (fun _ => ?_)
theorem types_Size.mono : ∀ a0 a1 a2 a3 a4 k, LeO (types_Size.f k a0 a1 a2 a3 a4) (types_Size.f (k + 1) a0 a1 a2 a3 a4) := by
  intro a0 a1 a2 a3 a4 k
  have ih0 := types_Size.mono_l k
  unfold types_Size.f
  repeat' first
      | (with_reducible exact ih0 _ _ _ _ _ _)
      | (with_reducible exact types_Validate.mono _ _ _ _ _ _)
      | (with_reducible exact types_size.mono _ _ _ _ _ _)
      | (with_reducible exact LeO.refl _)
      | (with_reducible exact LeO.none _)
      | (with_reducible refine LeO.ite ?_ ?_)
      | (with_reducible refine LeO.bind ?_ (fun _ => ?_))
      | exact ih0 _ _ _ _ _ _
      | exact types_Validate.mono _ _ _ _ _ _
      | exact types_size.mono _ _ _ _ _ _
      | exact LeO.none _
      | refine LeO.ite ?_ ?_
      | refine LeO.bind ?_ (fun _ => ?_)
set_option maxHeartbeats 8000000 in
set_option maxRecDepth 100000 in
theorem types_Size.calls (k : Nat) (a0_0 : Int) (a0_1 : Int) (a0_2 : Int) (a0_3 : Int) (A0_4 : Option Addr) (c0_4 : Nat) (l0_4 : List (S24)) (r1 : Int) (r2 : Int) (w : World) (hr0_4 : Kd.C k24 w A0_4 l0_4.length l0_4) (hc0_4 : l0_4.length ≤ c0_4) (h : types_Size.f k a0_0 a0_1 a0_2 a0_3 l0_4 = some (r1, r2)) :
    Calls Tryd.prog 16 #[.agg #[.int .i64 a0_0, .int .i64 a0_1, .int .i64 a0_2, .int .i64 a0_3, .slice A0_4 l0_4.length c0_4]] w fun e w' => e = .returned (.tuple #[.int .i64 r1, .int .i64 r2]) ∧ Below w.heap.size w w' := by
  have hu24 := Tryd.underlying24
  have HR0_4 := Aside0.mk hr0_4
  have HC0_4 := Aside0.mk hc0_4
  clear hr0_4 hc0_4
  have HB := Aside0.mk (Below.refl w.heap.size w)
  have H : ((types_Validate.f k a0_0 a0_1 a0_2 a0_3 l0_4).bind fun t167 => (if t167 = 0 then (if a0_0 = 3 then (types_Size.j0 k true a0_0 a0_1 a0_2 a0_3 l0_4) else (types_Size.j0 k (a0_0 == 4) a0_0 a0_1 a0_2 a0_3 l0_4)) else (some (0, t167)))) = some (r1, r2) := h
  clear h
  replace H := Option.bind_eq_some_iff.mp H
  obtain ⟨t167, A20, H⟩ := H
  replace H : (if t167 = 0 then (if a0_0 = 3 then (types_Size.j0 k true a0_0 a0_1 a0_2 a0_3 l0_4) else (types_Size.j0 k (a0_0 == 4) a0_0 a0_1 a0_2 a0_3 l0_4)) else (some (0, t167))) = some (r1, r2) := H
  have A2 := Aside0.mk A20
  clear A20
  by_cases c3 : t167 = 0
  · rw [if_pos c3] at H
    have c3b0 : (t167 == 0) = true := beq_iff_eq.mpr c3
    have c3b1 : (t167 != 0) = false := bne_eq_false_iff_eq.mpr c3
    clear c3
    have HC4 := Aside0.mk H
    clear H
    go_enter Tryd.func16, Tryd.ntmps16
    go_upto_region 4 with (first | ((with_reducible refine gate_dst (N := 1) rfl ?_); refine box_event ?hg (N := 1) ?hd (cs := #[.int .i64 a0_0, .int .i64 a0_1, .int .i64 a0_2, .int .i64 a0_3, .slice A0_4 l0_4.length c0_4]) (t := 24) ?hr ?_; (case hd => rfl); (case hg => rfl); (case hr => first | (go_simp; done) | (go_simp; rfl)); intro gb166 hg w5 hbox hb; have n0_ := Aside0.mk (below_step (by repeat (first | (with_reducible first | exact HB.out | apply below_alloc | apply pw_below_drewN | apply below_drew1) | exact HB.out)) hb); have n1_ := Aside0.mk (hbox); have n2_ := Aside0.mk ((by rw [hg]; exact (below_size (by repeat (first | (with_reducible first | exact HB.out | apply below_alloc | apply pw_below_drewN | apply below_drew1) | exact HB.out))) : w.heap.size ≤ gb166)); have n3_ := Aside0.mk ((by rw [hg]; exact (below_size (by repeat (first | (with_reducible first | exact HB.out | apply below_alloc | apply pw_below_drewN | apply below_drew1) | exact HB.out))) : w.heap.size ≤ gb166)); clear HB; have HB := n0_; have BK166 := n1_; have GW166 := n2_; have GE166 := n3_; clear n0_ n1_ n2_ n3_; clear hb hbox hg; have hcz6_0 : w5.cell? ⟨gb166, 0, none⟩ = some (.int .i64 a0_0) := (blk_cell BK166.out 0).trans rfl; have hcz6_1 : w5.cell? ⟨gb166, 1, none⟩ = some (.int .i64 a0_1) := (blk_cell BK166.out 1).trans rfl; have hcz6_2 : w5.cell? ⟨gb166, 2, none⟩ = some (.int .i64 a0_2) := (blk_cell BK166.out 2).trans rfl; have hcz6_3 : w5.cell? ⟨gb166, 3, none⟩ = some (.int .i64 a0_3) := (blk_cell BK166.out 3).trans rfl; have hcz6_4 : w5.cell? ⟨gb166, 4, none⟩ = some (.slice A0_4 l0_4.length c0_4) := (blk_cell BK166.out 4).trans rfl; have hfz6_0 := blk_frozen BK166.out 0; have hfz6_1 := blk_frozen BK166.out 1; have hfz6_2 := blk_frozen BK166.out 2; have hfz6_3 := blk_frozen BK166.out 3; have hfz6_4 := blk_frozen BK166.out 4) | ((with_reducible refine gate_callee (f := 12) rfl ?_); refine goesL_ (some 7) rfl rfl Tryd.func12 (by kernel_rfl) rfl #[.agg #[.int .i64 a0_0, .int .i64 a0_1, .int .i64 a0_2, .int .i64 a0_3, .slice A0_4 l0_4.length c0_4]] rfl (by (try simp only [List.map_toArray, List.map_cons, List.map_nil]); first | done | rfl | (simp only [List.length_drop, List.length_take]; rfl)) ?_; (with_reducible refine (types_Validate.calls k a0_0 a0_1 a0_2 a0_3 _ _ l0_4 t167 _ ?side1 ?side2 A2.out).mono ?_); (case side1 => repeat (first | exact (Kd.C_below HR0_4.out HB.out) | (with_reducible refine Kd.C_alloc ?_ _) | (with_reducible refine Kd.C_drewN ?_ _) | (with_reducible refine Kd.C_drew ?_))); (case side2 => exact HC0_4.out); rintro e w7 ⟨rfl, hb⟩; refine ⟨_, rfl, ?_⟩; have n0_ := Aside0.mk (blk_below (g := gb166) (o := .cells #[.int .i64 a0_0, .int .i64 a0_1, .int .i64 a0_2, .int .i64 a0_3, .slice A0_4 l0_4.length c0_4] 24 (0, 0)) (by (with_reducible repeat (first | refine blk_drewN ?_ _ | refine blk_drew ?_ | refine blk_alloc ?_ _)); exact BK166.out) hb); have n1_ := Aside0.mk (below_step (by repeat (first | (with_reducible first | exact HB.out | apply below_alloc | apply pw_below_drewN | apply below_drew1 | refine below_set ?_ GE166.out) | exact HB.out)) hb); clear BK166; clear HB; have BK166 := n0_; have HB := n1_; clear n0_ n1_; (try clear hb); (try clear hb2); (try clear hk); (try clear hi)))
    (try simp only [Act.put, List.setIfInBounds_toArray, List.set_cons_zero, List.set_cons_succ])
    go_cut [18] (fun v18 wc => ∃ (kq : Nat) (x18_3 : Bool), v18 = .bool x18_3 ∧ Aside0 (types_Size.j0 kq x18_3 a0_0 a0_1 a0_2 a0_3 l0_4 = some (r1, r2)) ∧ Aside0 (kq ≤ k) ∧ Aside0 (wc.heap[gb166]? = some (.cells #[.int .i64 a0_0, .int .i64 a0_1, .int .i64 a0_2, .int .i64 a0_3, (.slice A0_4 l0_4.length c0_4)] 24 (0, 0))) ∧ Aside0 (Below w.heap.size w wc))
    case first =>
      have H := HC4.out
      clear HC4
      by_cases c8 : a0_0 = 3
      · rw [if_pos c8] at H
        have c8b0 : (a0_0 == 3) = true := beq_iff_eq.mpr c8
        have c8b1 : (a0_0 != 3) = false := bne_eq_false_iff_eq.mpr c8
        clear c8
        (first | rw [c8b0] | (simp only [i64_w, i32_w]; rw [c8b0]) | skip)
        have H' := Aside0.mk H
        clear H
        have hcz9_0 : w7.cell? ⟨gb166, 0, none⟩ = some (.int .i64 a0_0) := (blk_cell BK166.out 0).trans rfl
        have hcz9_1 : w7.cell? ⟨gb166, 1, none⟩ = some (.int .i64 a0_1) := (blk_cell BK166.out 1).trans rfl
        have hcz9_2 : w7.cell? ⟨gb166, 2, none⟩ = some (.int .i64 a0_2) := (blk_cell BK166.out 2).trans rfl
        have hcz9_3 : w7.cell? ⟨gb166, 3, none⟩ = some (.int .i64 a0_3) := (blk_cell BK166.out 3).trans rfl
        have hcz9_4 : w7.cell? ⟨gb166, 4, none⟩ = some (.slice A0_4 l0_4.length c0_4) := (blk_cell BK166.out 4).trans rfl
        have hfz9_0 := blk_frozen BK166.out 0
        have hfz9_1 := blk_frozen BK166.out 1
        have hfz9_2 := blk_frozen BK166.out 2
        have hfz9_3 := blk_frozen BK166.out 3
        have hfz9_4 := blk_frozen BK166.out 4
        go_wp2
        go_meet
        case rel => exact ⟨_, (true), (by first | rfl | (simp; done) | (simp [*]; done)), H', ⟨by first | omega | exact Nat.le_refl _⟩, ⟨by (with_reducible repeat (first | refine blk_drewN ?_ _ | refine blk_drew ?_ | refine blk_alloc ?_ _)); exact BK166.out⟩, ⟨by repeat (first | (with_reducible first | exact HB.out | apply below_alloc | apply pw_below_drewN | apply below_drew1 | refine below_set ?_ GE166.out) | exact HB.out)⟩⟩
      · rw [if_neg c8] at H
        have c8b0 : (a0_0 == 3) = false := beq_eq_false_iff_ne.mpr c8
        have c8b1 : (a0_0 != 3) = true := bne_iff_ne.mpr c8
        (first | rw [c8b0] | (simp only [i64_w, i32_w]; rw [c8b0]) | skip)
        have H' := Aside0.mk H
        clear H
        have hcz10_0 : w7.cell? ⟨gb166, 0, none⟩ = some (.int .i64 a0_0) := (blk_cell BK166.out 0).trans rfl
        have hcz10_1 : w7.cell? ⟨gb166, 1, none⟩ = some (.int .i64 a0_1) := (blk_cell BK166.out 1).trans rfl
        have hcz10_2 : w7.cell? ⟨gb166, 2, none⟩ = some (.int .i64 a0_2) := (blk_cell BK166.out 2).trans rfl
        have hcz10_3 : w7.cell? ⟨gb166, 3, none⟩ = some (.int .i64 a0_3) := (blk_cell BK166.out 3).trans rfl
        have hcz10_4 : w7.cell? ⟨gb166, 4, none⟩ = some (.slice A0_4 l0_4.length c0_4) := (blk_cell BK166.out 4).trans rfl
        have hfz10_0 := blk_frozen BK166.out 0
        have hfz10_1 := blk_frozen BK166.out 1
        have hfz10_2 := blk_frozen BK166.out 2
        have hfz10_3 := blk_frozen BK166.out 3
        have hfz10_4 := blk_frozen BK166.out 4
        go_wp2
        go_meet
        case rel => exact ⟨_, ((a0_0 == 4)), (by first | rfl | (simp; done) | (simp [*]; done)), H', ⟨by first | omega | exact Nat.le_refl _⟩, ⟨by (with_reducible repeat (first | refine blk_drewN ?_ _ | refine blk_drew ?_ | refine blk_alloc ?_ _)); exact BK166.out⟩, ⟨by repeat (first | (with_reducible first | exact HB.out | apply below_alloc | apply pw_below_drewN | apply below_drew1 | refine below_set ?_ GE166.out) | exact HB.out)⟩⟩
    case rest =>
      clear HC4
      try clear c1
      try clear p2
      try clear c3
      try clear c3b0
      try clear c3b1
      try clear c8
      try clear c8b0
      try clear c8b1
      try clear hcz10_0
      try clear hcz10_1
      try clear hcz10_2
      try clear hcz10_3
      try clear hcz10_4
      try clear hcz6_0
      try clear hcz6_1
      try clear hcz6_2
      try clear hcz6_3
      try clear hcz6_4
      try clear hcz9_0
      try clear hcz9_1
      try clear hcz9_2
      try clear hcz9_3
      try clear hcz9_4
      try clear hfz10_0
      try clear hfz10_1
      try clear hfz10_2
      try clear hfz10_3
      try clear hfz10_4
      try clear hfz6_0
      try clear hfz6_1
      try clear hfz6_2
      try clear hfz6_3
      try clear hfz6_4
      try clear hfz9_0
      try clear hfz9_1
      try clear hfz9_2
      try clear hfz9_3
      try clear hfz9_4
      obtain ⟨kq, x18_3, rfl, HA, HJ3, BK166, HB⟩ := hcut
      cases kq with
      | zero => exact absurd HA.out (by simp [types_Size.j0])
      | succ kj3 =>
        have H := HA.out
        clear HA
        simp only [types_Size.j0] at H
        by_cases c11 : x18_3 = true
        · subst c11
          have H1 : (some (0, 8)) = some (r1, r2) := by rw [if_pos rfl] at H; exact H
          clear H
          have H := H1
          clear H1
          simp only [Option.some.injEq, Prod.mk.injEq] at H
          obtain ⟨rfl, rfl⟩ := H
          go_wp2
          go_ret2
          exact ⟨by first | rfl | (simp [errW_none, errW_some] <;> rfl) | (simp [*, errW_none, errW_some] <;> rfl), by repeat (first | (with_reducible first | exact HB.out | apply below_alloc | apply pw_below_drewN | apply below_drew1 | refine below_set ?_ GE166.out) | exact HB.out)⟩
        · replace c11 := Bool.eq_false_iff.mpr c11
          subst c11
          have H1 : ((types_size.f kj3 a0_0 a0_1 a0_2 a0_3 l0_4).bind fun t168 => (if t168 > 1073741824 then (some (0, 9)) else (some (t168, 0)))) = some (r1, r2) := by rw [if_neg (show ¬ (false = true) by decide)] at H; exact H
          clear H
          have H := H1
          clear H1
          replace H := Option.bind_eq_some_iff.mp H
          obtain ⟨t168, A120, H⟩ := H
          replace H : (if t168 > 1073741824 then (some (0, 9)) else (some (t168, 0))) = some (r1, r2) := H
          have A12 := Aside0.mk A120
          clear A120
          by_cases c13 : t168 > 1073741824
          · rw [if_pos c13] at H
            have c13b0 : decide (1073741824 < t168) = true := decide_eq_true c13
            clear c13
            simp only [Option.some.injEq, Prod.mk.injEq] at H
            obtain ⟨rfl, rfl⟩ := H
            have hcz14_0 : wc.cell? ⟨gb166, 0, none⟩ = some (.int .i64 a0_0) := (blk_cell BK166.out 0).trans rfl
            have hcz14_1 : wc.cell? ⟨gb166, 1, none⟩ = some (.int .i64 a0_1) := (blk_cell BK166.out 1).trans rfl
            have hcz14_2 : wc.cell? ⟨gb166, 2, none⟩ = some (.int .i64 a0_2) := (blk_cell BK166.out 2).trans rfl
            have hcz14_3 : wc.cell? ⟨gb166, 3, none⟩ = some (.int .i64 a0_3) := (blk_cell BK166.out 3).trans rfl
            have hcz14_4 : wc.cell? ⟨gb166, 4, none⟩ = some (.slice A0_4 l0_4.length c0_4) := (blk_cell BK166.out 4).trans rfl
            have hfz14_0 := blk_frozen BK166.out 0
            have hfz14_1 := blk_frozen BK166.out 1
            have hfz14_2 := blk_frozen BK166.out 2
            have hfz14_3 := blk_frozen BK166.out 3
            have hfz14_4 := blk_frozen BK166.out 4
            go_wp2_with (first | ((with_reducible refine gate_callee (f := 41) rfl ?_); refine goesL_ (some 20) rfl rfl Tryd.func41 (by kernel_rfl) rfl #[.agg #[.int .i64 a0_0, .int .i64 a0_1, .int .i64 a0_2, .int .i64 a0_3, .slice A0_4 l0_4.length c0_4]] rfl (by (try simp only [List.map_toArray, List.map_cons, List.map_nil]); first | done | rfl | (simp only [List.length_drop, List.length_take]; rfl)) ?_; (with_reducible refine (types_size.calls kj3 a0_0 a0_1 a0_2 a0_3 _ _ l0_4 t168 _ ?side1 ?side2 A12.out).mono ?_); (case side1 => repeat (first | exact (Kd.C_below HR0_4.out HB.out) | (with_reducible refine Kd.C_alloc ?_ _) | (with_reducible refine Kd.C_drewN ?_ _) | (with_reducible refine Kd.C_drew ?_))); (case side2 => exact HC0_4.out); rintro e w15 ⟨rfl, hb⟩; refine ⟨_, rfl, ?_⟩; have n0_ := Aside0.mk (blk_below (g := gb166) (o := .cells #[.int .i64 a0_0, .int .i64 a0_1, .int .i64 a0_2, .int .i64 a0_3, .slice A0_4 l0_4.length c0_4] 24 (0, 0)) (by (with_reducible repeat (first | refine blk_drewN ?_ _ | refine blk_drew ?_ | refine blk_alloc ?_ _)); exact BK166.out) hb); have n1_ := Aside0.mk (below_step (by repeat (first | (with_reducible first | exact HB.out | apply below_alloc | apply pw_below_drewN | apply below_drew1 | refine below_set ?_ GE166.out) | exact HB.out)) hb); clear BK166; clear HB; have BK166 := n0_; have HB := n1_; clear n0_ n1_; (try clear hb); (try clear hb2); (try clear hk); (try clear hi)))
            go_ret2
            exact ⟨by first | rfl | (simp [errW_none, errW_some] <;> rfl) | (simp [*, errW_none, errW_some] <;> rfl), by repeat (first | (with_reducible first | exact HB.out | apply below_alloc | apply pw_below_drewN | apply below_drew1 | refine below_set ?_ GE166.out) | exact HB.out)⟩
          · rw [if_neg c13] at H
            have c13b0 : decide (1073741824 < t168) = false := decide_eq_false c13
            clear c13
            simp only [Option.some.injEq, Prod.mk.injEq] at H
            obtain ⟨rfl, rfl⟩ := H
            have hcz16_0 : wc.cell? ⟨gb166, 0, none⟩ = some (.int .i64 a0_0) := (blk_cell BK166.out 0).trans rfl
            have hcz16_1 : wc.cell? ⟨gb166, 1, none⟩ = some (.int .i64 a0_1) := (blk_cell BK166.out 1).trans rfl
            have hcz16_2 : wc.cell? ⟨gb166, 2, none⟩ = some (.int .i64 a0_2) := (blk_cell BK166.out 2).trans rfl
            have hcz16_3 : wc.cell? ⟨gb166, 3, none⟩ = some (.int .i64 a0_3) := (blk_cell BK166.out 3).trans rfl
            have hcz16_4 : wc.cell? ⟨gb166, 4, none⟩ = some (.slice A0_4 l0_4.length c0_4) := (blk_cell BK166.out 4).trans rfl
            have hfz16_0 := blk_frozen BK166.out 0
            have hfz16_1 := blk_frozen BK166.out 1
            have hfz16_2 := blk_frozen BK166.out 2
            have hfz16_3 := blk_frozen BK166.out 3
            have hfz16_4 := blk_frozen BK166.out 4
            go_wp2_with (first | ((with_reducible refine gate_callee (f := 41) rfl ?_); refine goesL_ (some 20) rfl rfl Tryd.func41 (by kernel_rfl) rfl #[.agg #[.int .i64 a0_0, .int .i64 a0_1, .int .i64 a0_2, .int .i64 a0_3, .slice A0_4 l0_4.length c0_4]] rfl (by (try simp only [List.map_toArray, List.map_cons, List.map_nil]); first | done | rfl | (simp only [List.length_drop, List.length_take]; rfl)) ?_; (with_reducible refine (types_size.calls kj3 a0_0 a0_1 a0_2 a0_3 _ _ l0_4 t168 _ ?side1 ?side2 A12.out).mono ?_); (case side1 => repeat (first | exact (Kd.C_below HR0_4.out HB.out) | (with_reducible refine Kd.C_alloc ?_ _) | (with_reducible refine Kd.C_drewN ?_ _) | (with_reducible refine Kd.C_drew ?_))); (case side2 => exact HC0_4.out); rintro e w17 ⟨rfl, hb⟩; refine ⟨_, rfl, ?_⟩; have n0_ := Aside0.mk (blk_below (g := gb166) (o := .cells #[.int .i64 a0_0, .int .i64 a0_1, .int .i64 a0_2, .int .i64 a0_3, .slice A0_4 l0_4.length c0_4] 24 (0, 0)) (by (with_reducible repeat (first | refine blk_drewN ?_ _ | refine blk_drew ?_ | refine blk_alloc ?_ _)); exact BK166.out) hb); have n1_ := Aside0.mk (below_step (by repeat (first | (with_reducible first | exact HB.out | apply below_alloc | apply pw_below_drewN | apply below_drew1 | refine below_set ?_ GE166.out) | exact HB.out)) hb); clear BK166; clear HB; have BK166 := n0_; have HB := n1_; clear n0_ n1_; (try clear hb); (try clear hb2); (try clear hk); (try clear hi)))
            go_ret2
            exact ⟨by first | rfl | (simp [errW_none, errW_some] <;> rfl) | (simp [*, errW_none, errW_some] <;> rfl), by repeat (first | (with_reducible first | exact HB.out | apply below_alloc | apply pw_below_drewN | apply below_drew1 | refine below_set ?_ GE166.out) | exact HB.out)⟩
  · rw [if_neg c3] at H
    have c3b0 : (t167 == 0) = false := beq_eq_false_iff_ne.mpr c3
    have c3b1 : (t167 != 0) = true := bne_iff_ne.mpr c3
    simp only [Option.some.injEq, Prod.mk.injEq] at H
    obtain ⟨rfl, rfl⟩ := H
    go_enter Tryd.func16, Tryd.ntmps16
    go_wp2_with (first | ((with_reducible refine gate_dst (N := 1) rfl ?_); refine box_event ?hg (N := 1) ?hd (cs := #[.int .i64 a0_0, .int .i64 a0_1, .int .i64 a0_2, .int .i64 a0_3, .slice A0_4 l0_4.length c0_4]) (t := 24) ?hr ?_; (case hd => rfl); (case hg => rfl); (case hr => first | (go_simp; done) | (go_simp; rfl)); intro gb166 hg w18 hbox hb; have n0_ := Aside0.mk (below_step (by repeat (first | (with_reducible first | exact HB.out | apply below_alloc | apply pw_below_drewN | apply below_drew1) | exact HB.out)) hb); have n1_ := Aside0.mk (hbox); have n2_ := Aside0.mk ((by rw [hg]; exact (below_size (by repeat (first | (with_reducible first | exact HB.out | apply below_alloc | apply pw_below_drewN | apply below_drew1) | exact HB.out))) : w.heap.size ≤ gb166)); have n3_ := Aside0.mk ((by rw [hg]; exact (below_size (by repeat (first | (with_reducible first | exact HB.out | apply below_alloc | apply pw_below_drewN | apply below_drew1) | exact HB.out))) : w.heap.size ≤ gb166)); clear HB; have HB := n0_; have BK166 := n1_; have GW166 := n2_; have GE166 := n3_; clear n0_ n1_ n2_ n3_; clear hb hbox hg; have hcz19_0 : w18.cell? ⟨gb166, 0, none⟩ = some (.int .i64 a0_0) := (blk_cell BK166.out 0).trans rfl; have hcz19_1 : w18.cell? ⟨gb166, 1, none⟩ = some (.int .i64 a0_1) := (blk_cell BK166.out 1).trans rfl; have hcz19_2 : w18.cell? ⟨gb166, 2, none⟩ = some (.int .i64 a0_2) := (blk_cell BK166.out 2).trans rfl; have hcz19_3 : w18.cell? ⟨gb166, 3, none⟩ = some (.int .i64 a0_3) := (blk_cell BK166.out 3).trans rfl; have hcz19_4 : w18.cell? ⟨gb166, 4, none⟩ = some (.slice A0_4 l0_4.length c0_4) := (blk_cell BK166.out 4).trans rfl; have hfz19_0 := blk_frozen BK166.out 0; have hfz19_1 := blk_frozen BK166.out 1; have hfz19_2 := blk_frozen BK166.out 2; have hfz19_3 := blk_frozen BK166.out 3; have hfz19_4 := blk_frozen BK166.out 4) | ((with_reducible refine gate_callee (f := 12) rfl ?_); refine goesL_ (some 7) rfl rfl Tryd.func12 (by kernel_rfl) rfl #[.agg #[.int .i64 a0_0, .int .i64 a0_1, .int .i64 a0_2, .int .i64 a0_3, .slice A0_4 l0_4.length c0_4]] rfl (by (try simp only [List.map_toArray, List.map_cons, List.map_nil]); first | done | rfl | (simp only [List.length_drop, List.length_take]; rfl)) ?_; (with_reducible refine (types_Validate.calls k a0_0 a0_1 a0_2 a0_3 _ _ l0_4 t167 _ ?side1 ?side2 A2.out).mono ?_); (case side1 => repeat (first | exact (Kd.C_below HR0_4.out HB.out) | (with_reducible refine Kd.C_alloc ?_ _) | (with_reducible refine Kd.C_drewN ?_ _) | (with_reducible refine Kd.C_drew ?_))); (case side2 => exact HC0_4.out); rintro e w20 ⟨rfl, hb⟩; refine ⟨_, rfl, ?_⟩; have n0_ := Aside0.mk (blk_below (g := gb166) (o := .cells #[.int .i64 a0_0, .int .i64 a0_1, .int .i64 a0_2, .int .i64 a0_3, .slice A0_4 l0_4.length c0_4] 24 (0, 0)) (by (with_reducible repeat (first | refine blk_drewN ?_ _ | refine blk_drew ?_ | refine blk_alloc ?_ _)); exact BK166.out) hb); have n1_ := Aside0.mk (below_step (by repeat (first | (with_reducible first | exact HB.out | apply below_alloc | apply pw_below_drewN | apply below_drew1 | refine below_set ?_ GE166.out) | exact HB.out)) hb); clear BK166; clear HB; have BK166 := n0_; have HB := n1_; clear n0_ n1_; (try clear hb); (try clear hb2); (try clear hk); (try clear hi)))
    go_ret2
    exact ⟨by first | rfl | (simp [errW_none, errW_some] <;> rfl) | (simp [*, errW_none, errW_some] <;> rfl), by repeat (first | (with_reducible first | exact HB.out | apply below_alloc | apply pw_below_drewN | apply below_drew1 | refine below_set ?_ GE166.out) | exact HB.out)⟩

end Go.Proofs.YtggelekooacmnaaDoor.Q
namespace Go.Proofs.YtggelekooacmnaaDoor.Q
open Go.RowKit Go.Proofs.YtggelekooacmnaaDoorW.PrintWords Go.Proofs.YtggelekooacmnaaDoorW.PrintLast Go.Proofs.YtggelekooacmnaaDoorW.PrintMore
attribute [local go_sem] max2_int min2_int max_two min_two max_three min_three max_four min_four   -- for this text's walks alone
set_option linter.unusedVariables false
set_option linter.unusedSimpArgs false

/-! ### exactppllaw06_awake: function 13 -/
def exactppllaw06_awake.f (k : Nat)  : Option (Bool) := (some (([(⟨1, 0, 0, 0, ([] : List (S24))⟩ : S24)] : List (S24)) : List (S24))).bind fun y204 => ((types_Size.f k 6 0 0 2 y204).bind fun bt208 => ((types_Format.f k 6 0 0 2 y204).bind fun bt210 => (if bt208.2 = 0 then (if bt210.2 = 0 then (if bt208.1 = 7 then (some (bt210.1.toList == ([108, 105, 115, 116, 91, 50, 93, 32, 98, 111, 111, 108] : List UInt8))) else (some false)) else (some false)) else (some false))))
theorem exactppllaw06_awake.mono : ∀ k, LeO (exactppllaw06_awake.f k ) (exactppllaw06_awake.f (k + 1) ) := by
  intro  k
  unfold exactppllaw06_awake.f
  repeat' first
      | (with_reducible exact types_Format.mono _ _ _ _ _ _)
      | (with_reducible exact types_Size.mono _ _ _ _ _ _)
      | (with_reducible exact LeO.refl _)
      | (with_reducible exact LeO.none _)
      | (with_reducible refine LeO.ite ?_ ?_)
      | (with_reducible refine LeO.bind ?_ (fun _ => ?_))
      | exact types_Format.mono _ _ _ _ _ _
      | exact types_Size.mono _ _ _ _ _ _
      | exact LeO.none _
      | refine LeO.ite ?_ ?_
      | refine LeO.bind ?_ (fun _ => ?_)
set_option maxHeartbeats 8000000 in
set_option maxRecDepth 100000 in
theorem exactppllaw06_awake.calls (k : Nat)  (r : Bool) (w : World) (h : exactppllaw06_awake.f k  = some r) (htab : PowTab w.heap.size w) :
    Calls Tryd.prog 13 #[] w fun e w' => e = .returned (.bool r) ∧ Below w.heap.size w w' := by
  have HTAB := Aside0.mk htab
  clear htab
  have hu24 := Tryd.underlying24
  have HB := Aside0.mk (Below.refl w.heap.size w)
  have H : ((some (([(⟨1, 0, 0, 0, ([] : List (S24))⟩ : S24)] : List (S24)) : List (S24))).bind fun y204 => ((types_Size.f k 6 0 0 2 y204).bind fun bt208 => ((types_Format.f k 6 0 0 2 y204).bind fun bt210 => (if bt208.2 = 0 then (if bt210.2 = 0 then (if bt208.1 = 7 then (some (bt210.1.toList == ([108, 105, 115, 116, 91, 50, 93, 32, 98, 111, 111, 108] : List UInt8))) else (some false)) else (some false)) else (some false))))) = some r := h
  clear h
  obtain ⟨y204, hy204⟩ : ∃ y_ : List (S24), y_ = (([(⟨1, 0, 0, 0, ([] : List (S24))⟩ : S24)] : List (S24))) := ⟨_, rfl⟩
  replace H : ((types_Size.f k 6 0 0 2 y204).bind fun bt208 => ((types_Format.f k 6 0 0 2 y204).bind fun bt210 => (if bt208.2 = 0 then (if bt210.2 = 0 then (if bt208.1 = 7 then (some (bt210.1.toList == ([108, 105, 115, 116, 91, 50, 93, 32, 98, 111, 111, 108] : List UInt8))) else (some false)) else (some false)) else (some false)))) = some r := by first | (rw [hy204]; with_reducible exact H) | (have H2_ := (Option.bind_some _ _).symm.trans H; rw [hy204]; with_reducible exact H2_) | (have H2_ := (Option.bind_some _ _).symm.trans H; with_reducible exact H2_) | with_reducible exact H | (rw [hy204]; exact H) | exact H
  have Ny204 := Aside0.mk hy204
  clear hy204
  replace H := Option.bind_eq_some_iff.mp H
  obtain ⟨⟨t208, t209⟩, A10, H⟩ := H
  replace H : ((types_Format.f k 6 0 0 2 y204).bind fun bt210 => (if t209 = 0 then (if bt210.2 = 0 then (if t208 = 7 then (some (bt210.1.toList == ([108, 105, 115, 116, 91, 50, 93, 32, 98, 111, 111, 108] : List UInt8))) else (some false)) else (some false)) else (some false))) = some r := H
  have A1 := Aside0.mk A10
  clear A10
  replace H := Option.bind_eq_some_iff.mp H
  obtain ⟨⟨t210, t211⟩, A20, H⟩ := H
  replace H : (if t209 = 0 then (if t211 = 0 then (if t208 = 7 then (some (t210.toList == ([108, 105, 115, 116, 91, 50, 93, 32, 98, 111, 111, 108] : List UInt8))) else (some false)) else (some false)) else (some false)) = some r := H
  have A2 := Aside0.mk A20
  clear A20
  by_cases c3 : t209 = 0
  · rw [if_pos c3] at H
    have c3b0 : (t209 == 0) = true := beq_iff_eq.mpr c3
    have c3b1 : (t209 != 0) = false := bne_eq_false_iff_eq.mpr c3
    clear c3
    by_cases c4 : t211 = 0
    · rw [if_pos c4] at H
      have c4b0 : (t211 == 0) = true := beq_iff_eq.mpr c4
      have c4b1 : (t211 != 0) = false := bne_eq_false_iff_eq.mpr c4
      clear c4
      by_cases c5 : t208 = 7
      · rw [if_pos c5] at H
        have c5b0 : (t208 == 7) = true := beq_iff_eq.mpr c5
        have c5b1 : (t208 != 7) = false := bne_eq_false_iff_eq.mpr c5
        clear c5
        obtain rfl := Option.some.inj H
        go_enter Tryd.func13, Tryd.ntmps13
        go_wp2_with (first | ((with_reducible refine gate_dst (N := 7) rfl ?_); refine Kd.R_lit k24 _ 24 ?hg (N := 7) ?hd (xs := ([(⟨1, 0, 0, 0, ([] : List (S24))⟩ : S24)] : List (S24))) (inner := [.int .i64 1, .int .i64 0, .int .i64 0, .int .i64 0, .slice none 0 0]) (ok := fun _ => True) (okp := fun _ => True) ?hr ?hp (fun _ hk => hk) trivial (Below.refl _ _) (Nat.le_refl _) (by simp) ?_; (case hd => rfl); (case hg => rfl); (case hr => first | (go_simp; done) | (go_simp; rfl)); (case hp => exact (Reps.c5 (show Kd.M k24 _ _ _ (⟨1, 0, 0, 0, ([] : List (S24))⟩ : S24) [.int .i64 1, .int .i64 0, .int .i64 0, .int .i64 0, .slice none 0 0] from (k24_mkM _ _ _ (⟨1, 0, 0, 0, ([] : List (S24))⟩ : S24) (Kd.R_nil _ _ _ _ _))) (Reps.none _ _))); intro v205 w6 ho7 hb hg_ hnew_; clear hg_ hnew_; (first | rw [← Ny204.out] at ho7 | (simp only [Int.reduceToNat] at ho7; rw [← Ny204.out] at ho7)); have n0_ := Aside0.mk (Kd.R_lower ho7 (below_size (by repeat (first | (with_reducible first | exact HB.out | apply below_alloc | apply pw_below_drewN | apply below_drew1) | exact HB.out)))); have n1_ := Aside0.mk (below_step (by repeat (first | (with_reducible first | exact HB.out | apply below_alloc | apply pw_below_drewN | apply below_drew1) | exact HB.out)) hb); clear HB; have HO206 := n0_; have HB := n1_; clear n0_ n1_; clear hb ho7; obtain ⟨Ao8, co8, eo8⟩ := Kd.R_slice HO206.out; subst eo8) | ((with_reducible refine gate_dst (N := 1) rfl ?_); refine box_event ?hg (N := 1) ?hd (cs := #[.int .i64 0, .int .i64 0, .int .i64 0, .int .i64 0, .slice none 0 0]) (t := 24) ?hr ?_; (case hd => rfl); (case hg => rfl); (case hr => first | (go_simp; done) | (go_simp; rfl)); intro gb207 hg w9 hbox hb; have n0_ := Aside0.mk (Kd.R_below (Kd.R_elderB (by (with_reducible repeat (first | apply Kd.R_alloc | apply Kd.R_drewN | apply Kd.R_drew)); exact HO206.out) gb207 (Nat.le_of_eq hg.symm)) hb); have n1_ := Aside0.mk (below_step (by repeat (first | (with_reducible first | exact HB.out | apply below_alloc | apply pw_below_drewN | apply below_drew1) | exact HB.out)) hb); have n2_ := Aside0.mk (hbox); have n3_ := Aside0.mk ((by rw [hg]; exact (below_size (by repeat (first | (with_reducible first | exact HB.out | apply below_alloc | apply pw_below_drewN | apply below_drew1) | exact HB.out))) : w.heap.size ≤ gb207)); have n4_ := Aside0.mk ((by rw [hg]; exact (below_size (by repeat (first | (with_reducible first | exact HB.out | apply below_alloc | apply pw_below_drewN | apply below_drew1) | exact HB.out))) : w.heap.size ≤ gb207)); clear HO206; clear HB; have HO206 := n0_; have HB := n1_; have BK207 := n2_; have GW207 := n3_; have GE207 := n4_; clear n0_ n1_ n2_ n3_ n4_; clear hb hbox hg; have hcz10_0 : w9.cell? ⟨gb207, 0, none⟩ = some (.int .i64 0) := (blk_cell BK207.out 0).trans rfl; have hcz10_1 : w9.cell? ⟨gb207, 1, none⟩ = some (.int .i64 0) := (blk_cell BK207.out 1).trans rfl; have hcz10_2 : w9.cell? ⟨gb207, 2, none⟩ = some (.int .i64 0) := (blk_cell BK207.out 2).trans rfl; have hcz10_3 : w9.cell? ⟨gb207, 3, none⟩ = some (.int .i64 0) := (blk_cell BK207.out 3).trans rfl; have hcz10_4 : w9.cell? ⟨gb207, 4, none⟩ = some (.slice none 0 0) := (blk_cell BK207.out 4).trans rfl; have hfz10_0 := blk_frozen BK207.out 0; have hfz10_1 := blk_frozen BK207.out 1; have hfz10_2 := blk_frozen BK207.out 2; have hfz10_3 := blk_frozen BK207.out 3; have hfz10_4 := blk_frozen BK207.out 4) | ((with_reducible refine gate_callee (f := 16) rfl ?_); refine goesL_ (some 11) rfl rfl Tryd.func16 (by kernel_rfl) rfl #[.agg #[.int .i64 6, .int .i64 0, .int .i64 0, .int .i64 2, .slice Ao8 y204.length co8]] rfl (by (try simp only [List.map_toArray, List.map_cons, List.map_nil]); first | done | rfl | (simp only [List.length_drop, List.length_take]; rfl)) ?_; (with_reducible refine (types_Size.calls k 6 0 0 2 _ _ y204 t208 t209 _ ?side1 ?side2 A1.out).mono ?_); (case side1 => refine (Kd.R_reads' (e := 24) (base := w.heap.size) (ok := fun k_ => (True ∧ k_ ≠ gb207)) (n := y204.length) (c := co8) ?_).2.2; exact (by (with_reducible repeat (first | apply Kd.R_alloc | apply Kd.R_drewN | apply Kd.R_drew)); exact (Kd.R_mono (Kd.R_far (p := ⟨gb207, 4, none⟩) (Kd.R_far (p := ⟨gb207, 3, none⟩) (Kd.R_far (p := ⟨gb207, 2, none⟩) (Kd.R_far (p := ⟨gb207, 1, none⟩) (Kd.R_far (p := ⟨gb207, 0, none⟩) (Kd.R_mono HO206.out (fun k_ hk => (⟨hk, by first | exact hk.2 | exact hk.1 | exact hk.2 | exact hk.1.1 | exact hk.1.2⟩ : _ ∧ k_ ≠ gb207))) (fun _ hk => hk.2) (.int .i64 6)) (fun _ hk => hk.2) (.int .i64 0)) (fun _ hk => hk.2) (.int .i64 0)) (fun _ hk => hk.2) (.int .i64 2)) (fun _ hk => hk.2) (.slice Ao8 y204.length co8)) (fun _ h_ => h_.1)))); (case side2 => exact (Kd.R_reads' HO206.out).2.1); rintro e w11 ⟨rfl, hb⟩; refine ⟨_, rfl, ?_⟩; have n0_ := Aside0.mk (Kd.R_below (by (with_reducible repeat (first | apply Kd.R_alloc | apply Kd.R_drewN | apply Kd.R_drew)); exact (Kd.R_mono (Kd.R_far (p := ⟨gb207, 4, none⟩) (Kd.R_far (p := ⟨gb207, 3, none⟩) (Kd.R_far (p := ⟨gb207, 2, none⟩) (Kd.R_far (p := ⟨gb207, 1, none⟩) (Kd.R_far (p := ⟨gb207, 0, none⟩) (Kd.R_mono HO206.out (fun k_ hk => (⟨hk, by first | exact hk.2 | exact hk.1 | exact hk.2 | exact hk.1.1 | exact hk.1.2⟩ : _ ∧ k_ ≠ gb207))) (fun _ hk => hk.2) (.int .i64 6)) (fun _ hk => hk.2) (.int .i64 0)) (fun _ hk => hk.2) (.int .i64 0)) (fun _ hk => hk.2) (.int .i64 2)) (fun _ hk => hk.2) (.slice Ao8 y204.length co8)) (fun _ h_ => h_.1))) hb); have n1_ := Aside0.mk (blk_below (g := gb207) (o := .cells #[.int .i64 6, .int .i64 0, .int .i64 0, .int .i64 2, .slice Ao8 y204.length co8] 24 (0, 0)) (by (with_reducible repeat (first | refine blk_drewN ?_ _ | refine blk_drew ?_ | refine blk_alloc ?_ _)); refine blk_put (cs := #[.int .i64 6, .int .i64 0, .int .i64 0, .int .i64 2, .slice none 0 0]) ?_ 4 _ rfl; (with_reducible repeat (first | refine blk_drewN ?_ _ | refine blk_drew ?_ | refine blk_alloc ?_ _)); refine blk_put (cs := #[.int .i64 6, .int .i64 0, .int .i64 0, .int .i64 0, .slice none 0 0]) ?_ 3 _ rfl; (with_reducible repeat (first | refine blk_drewN ?_ _ | refine blk_drew ?_ | refine blk_alloc ?_ _)); refine blk_put (cs := #[.int .i64 6, .int .i64 0, .int .i64 0, .int .i64 0, .slice none 0 0]) ?_ 2 _ rfl; (with_reducible repeat (first | refine blk_drewN ?_ _ | refine blk_drew ?_ | refine blk_alloc ?_ _)); refine blk_put (cs := #[.int .i64 6, .int .i64 0, .int .i64 0, .int .i64 0, .slice none 0 0]) ?_ 1 _ rfl; (with_reducible repeat (first | refine blk_drewN ?_ _ | refine blk_drew ?_ | refine blk_alloc ?_ _)); refine blk_put (cs := #[.int .i64 0, .int .i64 0, .int .i64 0, .int .i64 0, .slice none 0 0]) ?_ 0 _ rfl; (with_reducible repeat (first | refine blk_drewN ?_ _ | refine blk_drew ?_ | refine blk_alloc ?_ _)); exact BK207.out) hb); have n2_ := Aside0.mk (below_step (by repeat (first | (with_reducible first | exact HB.out | apply below_alloc | apply pw_below_drewN | apply below_drew1 | refine below_set ?_ GE207.out) | exact HB.out)) hb); clear HO206; clear BK207; clear HB; have HO206 := n0_; have BK207 := n1_; have HB := n2_; clear n0_ n1_ n2_; (try clear hb); (try clear hb2); (try clear hk); (try clear hi); have hcz12_0 : w11.cell? ⟨gb207, 0, none⟩ = some (.int .i64 6) := (blk_cell BK207.out 0).trans rfl; have hcz12_1 : w11.cell? ⟨gb207, 1, none⟩ = some (.int .i64 0) := (blk_cell BK207.out 1).trans rfl; have hcz12_2 : w11.cell? ⟨gb207, 2, none⟩ = some (.int .i64 0) := (blk_cell BK207.out 2).trans rfl; have hcz12_3 : w11.cell? ⟨gb207, 3, none⟩ = some (.int .i64 2) := (blk_cell BK207.out 3).trans rfl; have hcz12_4 : w11.cell? ⟨gb207, 4, none⟩ = some (.slice Ao8 y204.length co8) := (blk_cell BK207.out 4).trans rfl; have hfz12_0 := blk_frozen BK207.out 0; have hfz12_1 := blk_frozen BK207.out 1; have hfz12_2 := blk_frozen BK207.out 2; have hfz12_3 := blk_frozen BK207.out 3; have hfz12_4 := blk_frozen BK207.out 4) | ((with_reducible refine gate_callee (f := 21) rfl ?_); refine goesL_ (some 16) rfl rfl Tryd.func21 (by kernel_rfl) rfl #[.agg #[.int .i64 6, .int .i64 0, .int .i64 0, .int .i64 2, .slice Ao8 y204.length co8]] rfl (by (try simp only [List.map_toArray, List.map_cons, List.map_nil]); first | done | rfl | (simp only [List.length_drop, List.length_take]; rfl)) ?_; (with_reducible refine (types_Format.calls k 6 0 0 2 _ _ y204 t210 t211 _ ?side1 ?side2 A2.out ?tab).mono ?_); (case tab => exact ptab HTAB.out (by repeat (first | (with_reducible first | exact HB.out | apply below_alloc | apply pw_below_drewN | apply below_drew1 | refine below_set ?_ GE207.out) | exact HB.out))); (case side1 => repeat (first | exact (Kd.R_reads' HO206.out).2.2 | (with_reducible refine Kd.C_alloc ?_ _) | (with_reducible refine Kd.C_drewN ?_ _) | (with_reducible refine Kd.C_drew ?_))); (case side2 => exact (Kd.R_reads' HO206.out).2.1); rintro e w13 ⟨rfl, hb⟩; refine ⟨_, rfl, ?_⟩; have n0_ := Aside0.mk (Kd.R_below (by (with_reducible repeat (first | apply Kd.R_alloc | apply Kd.R_drewN | apply Kd.R_drew)); exact HO206.out) hb); have n1_ := Aside0.mk (blk_below (g := gb207) (o := .cells #[.int .i64 6, .int .i64 0, .int .i64 0, .int .i64 2, .slice Ao8 y204.length co8] 24 (0, 0)) (by (with_reducible repeat (first | refine blk_drewN ?_ _ | refine blk_drew ?_ | refine blk_alloc ?_ _)); exact BK207.out) hb); have n2_ := Aside0.mk (below_step (by repeat (first | (with_reducible first | exact HB.out | apply below_alloc | apply pw_below_drewN | apply below_drew1 | refine below_set ?_ GE207.out) | exact HB.out)) hb); clear HO206; clear BK207; clear HB; have HO206 := n0_; have BK207 := n1_; have HB := n2_; clear n0_ n1_ n2_; (try clear hb); (try clear hb2); (try clear hk); (try clear hi)))
        go_ret
        exact ⟨by first | rfl | (simp [errW_none, errW_some] <;> rfl) | (simp [*, errW_none, errW_some] <;> rfl), by repeat (first | (with_reducible first | exact HB.out | apply below_alloc | apply pw_below_drewN | apply below_drew1 | refine below_set ?_ GE207.out) | exact HB.out)⟩
      · rw [if_neg c5] at H
        have c5b0 : (t208 == 7) = false := beq_eq_false_iff_ne.mpr c5
        have c5b1 : (t208 != 7) = true := bne_iff_ne.mpr c5
        obtain rfl := Option.some.inj H
        go_enter Tryd.func13, Tryd.ntmps13
        go_wp2_with (first | ((with_reducible refine gate_dst (N := 7) rfl ?_); refine Kd.R_lit k24 _ 24 ?hg (N := 7) ?hd (xs := ([(⟨1, 0, 0, 0, ([] : List (S24))⟩ : S24)] : List (S24))) (inner := [.int .i64 1, .int .i64 0, .int .i64 0, .int .i64 0, .slice none 0 0]) (ok := fun _ => True) (okp := fun _ => True) ?hr ?hp (fun _ hk => hk) trivial (Below.refl _ _) (Nat.le_refl _) (by simp) ?_; (case hd => rfl); (case hg => rfl); (case hr => first | (go_simp; done) | (go_simp; rfl)); (case hp => exact (Reps.c5 (show Kd.M k24 _ _ _ (⟨1, 0, 0, 0, ([] : List (S24))⟩ : S24) [.int .i64 1, .int .i64 0, .int .i64 0, .int .i64 0, .slice none 0 0] from (k24_mkM _ _ _ (⟨1, 0, 0, 0, ([] : List (S24))⟩ : S24) (Kd.R_nil _ _ _ _ _))) (Reps.none _ _))); intro v205 w14 ho15 hb hg_ hnew_; clear hg_ hnew_; (first | rw [← Ny204.out] at ho15 | (simp only [Int.reduceToNat] at ho15; rw [← Ny204.out] at ho15)); have n0_ := Aside0.mk (Kd.R_lower ho15 (below_size (by repeat (first | (with_reducible first | exact HB.out | apply below_alloc | apply pw_below_drewN | apply below_drew1) | exact HB.out)))); have n1_ := Aside0.mk (below_step (by repeat (first | (with_reducible first | exact HB.out | apply below_alloc | apply pw_below_drewN | apply below_drew1) | exact HB.out)) hb); clear HB; have HO206 := n0_; have HB := n1_; clear n0_ n1_; clear hb ho15; obtain ⟨Ao16, co16, eo16⟩ := Kd.R_slice HO206.out; subst eo16) | ((with_reducible refine gate_dst (N := 1) rfl ?_); refine box_event ?hg (N := 1) ?hd (cs := #[.int .i64 0, .int .i64 0, .int .i64 0, .int .i64 0, .slice none 0 0]) (t := 24) ?hr ?_; (case hd => rfl); (case hg => rfl); (case hr => first | (go_simp; done) | (go_simp; rfl)); intro gb207 hg w17 hbox hb; have n0_ := Aside0.mk (Kd.R_below (Kd.R_elderB (by (with_reducible repeat (first | apply Kd.R_alloc | apply Kd.R_drewN | apply Kd.R_drew)); exact HO206.out) gb207 (Nat.le_of_eq hg.symm)) hb); have n1_ := Aside0.mk (below_step (by repeat (first | (with_reducible first | exact HB.out | apply below_alloc | apply pw_below_drewN | apply below_drew1) | exact HB.out)) hb); have n2_ := Aside0.mk (hbox); have n3_ := Aside0.mk ((by rw [hg]; exact (below_size (by repeat (first | (with_reducible first | exact HB.out | apply below_alloc | apply pw_below_drewN | apply below_drew1) | exact HB.out))) : w.heap.size ≤ gb207)); have n4_ := Aside0.mk ((by rw [hg]; exact (below_size (by repeat (first | (with_reducible first | exact HB.out | apply below_alloc | apply pw_below_drewN | apply below_drew1) | exact HB.out))) : w.heap.size ≤ gb207)); clear HO206; clear HB; have HO206 := n0_; have HB := n1_; have BK207 := n2_; have GW207 := n3_; have GE207 := n4_; clear n0_ n1_ n2_ n3_ n4_; clear hb hbox hg; have hcz18_0 : w17.cell? ⟨gb207, 0, none⟩ = some (.int .i64 0) := (blk_cell BK207.out 0).trans rfl; have hcz18_1 : w17.cell? ⟨gb207, 1, none⟩ = some (.int .i64 0) := (blk_cell BK207.out 1).trans rfl; have hcz18_2 : w17.cell? ⟨gb207, 2, none⟩ = some (.int .i64 0) := (blk_cell BK207.out 2).trans rfl; have hcz18_3 : w17.cell? ⟨gb207, 3, none⟩ = some (.int .i64 0) := (blk_cell BK207.out 3).trans rfl; have hcz18_4 : w17.cell? ⟨gb207, 4, none⟩ = some (.slice none 0 0) := (blk_cell BK207.out 4).trans rfl; have hfz18_0 := blk_frozen BK207.out 0; have hfz18_1 := blk_frozen BK207.out 1; have hfz18_2 := blk_frozen BK207.out 2; have hfz18_3 := blk_frozen BK207.out 3; have hfz18_4 := blk_frozen BK207.out 4) | ((with_reducible refine gate_callee (f := 16) rfl ?_); refine goesL_ (some 11) rfl rfl Tryd.func16 (by kernel_rfl) rfl #[.agg #[.int .i64 6, .int .i64 0, .int .i64 0, .int .i64 2, .slice Ao16 y204.length co16]] rfl (by (try simp only [List.map_toArray, List.map_cons, List.map_nil]); first | done | rfl | (simp only [List.length_drop, List.length_take]; rfl)) ?_; (with_reducible refine (types_Size.calls k 6 0 0 2 _ _ y204 t208 t209 _ ?side1 ?side2 A1.out).mono ?_); (case side1 => refine (Kd.R_reads' (e := 24) (base := w.heap.size) (ok := fun k_ => (True ∧ k_ ≠ gb207)) (n := y204.length) (c := co16) ?_).2.2; exact (by (with_reducible repeat (first | apply Kd.R_alloc | apply Kd.R_drewN | apply Kd.R_drew)); exact (Kd.R_mono (Kd.R_far (p := ⟨gb207, 4, none⟩) (Kd.R_far (p := ⟨gb207, 3, none⟩) (Kd.R_far (p := ⟨gb207, 2, none⟩) (Kd.R_far (p := ⟨gb207, 1, none⟩) (Kd.R_far (p := ⟨gb207, 0, none⟩) (Kd.R_mono HO206.out (fun k_ hk => (⟨hk, by first | exact hk.2 | exact hk.1 | exact hk.2 | exact hk.1.1 | exact hk.1.2⟩ : _ ∧ k_ ≠ gb207))) (fun _ hk => hk.2) (.int .i64 6)) (fun _ hk => hk.2) (.int .i64 0)) (fun _ hk => hk.2) (.int .i64 0)) (fun _ hk => hk.2) (.int .i64 2)) (fun _ hk => hk.2) (.slice Ao16 y204.length co16)) (fun _ h_ => h_.1)))); (case side2 => exact (Kd.R_reads' HO206.out).2.1); rintro e w19 ⟨rfl, hb⟩; refine ⟨_, rfl, ?_⟩; have n0_ := Aside0.mk (Kd.R_below (by (with_reducible repeat (first | apply Kd.R_alloc | apply Kd.R_drewN | apply Kd.R_drew)); exact (Kd.R_mono (Kd.R_far (p := ⟨gb207, 4, none⟩) (Kd.R_far (p := ⟨gb207, 3, none⟩) (Kd.R_far (p := ⟨gb207, 2, none⟩) (Kd.R_far (p := ⟨gb207, 1, none⟩) (Kd.R_far (p := ⟨gb207, 0, none⟩) (Kd.R_mono HO206.out (fun k_ hk => (⟨hk, by first | exact hk.2 | exact hk.1 | exact hk.2 | exact hk.1.1 | exact hk.1.2⟩ : _ ∧ k_ ≠ gb207))) (fun _ hk => hk.2) (.int .i64 6)) (fun _ hk => hk.2) (.int .i64 0)) (fun _ hk => hk.2) (.int .i64 0)) (fun _ hk => hk.2) (.int .i64 2)) (fun _ hk => hk.2) (.slice Ao16 y204.length co16)) (fun _ h_ => h_.1))) hb); have n1_ := Aside0.mk (blk_below (g := gb207) (o := .cells #[.int .i64 6, .int .i64 0, .int .i64 0, .int .i64 2, .slice Ao16 y204.length co16] 24 (0, 0)) (by (with_reducible repeat (first | refine blk_drewN ?_ _ | refine blk_drew ?_ | refine blk_alloc ?_ _)); refine blk_put (cs := #[.int .i64 6, .int .i64 0, .int .i64 0, .int .i64 2, .slice none 0 0]) ?_ 4 _ rfl; (with_reducible repeat (first | refine blk_drewN ?_ _ | refine blk_drew ?_ | refine blk_alloc ?_ _)); refine blk_put (cs := #[.int .i64 6, .int .i64 0, .int .i64 0, .int .i64 0, .slice none 0 0]) ?_ 3 _ rfl; (with_reducible repeat (first | refine blk_drewN ?_ _ | refine blk_drew ?_ | refine blk_alloc ?_ _)); refine blk_put (cs := #[.int .i64 6, .int .i64 0, .int .i64 0, .int .i64 0, .slice none 0 0]) ?_ 2 _ rfl; (with_reducible repeat (first | refine blk_drewN ?_ _ | refine blk_drew ?_ | refine blk_alloc ?_ _)); refine blk_put (cs := #[.int .i64 6, .int .i64 0, .int .i64 0, .int .i64 0, .slice none 0 0]) ?_ 1 _ rfl; (with_reducible repeat (first | refine blk_drewN ?_ _ | refine blk_drew ?_ | refine blk_alloc ?_ _)); refine blk_put (cs := #[.int .i64 0, .int .i64 0, .int .i64 0, .int .i64 0, .slice none 0 0]) ?_ 0 _ rfl; (with_reducible repeat (first | refine blk_drewN ?_ _ | refine blk_drew ?_ | refine blk_alloc ?_ _)); exact BK207.out) hb); have n2_ := Aside0.mk (below_step (by repeat (first | (with_reducible first | exact HB.out | apply below_alloc | apply pw_below_drewN | apply below_drew1 | refine below_set ?_ GE207.out) | exact HB.out)) hb); clear HO206; clear BK207; clear HB; have HO206 := n0_; have BK207 := n1_; have HB := n2_; clear n0_ n1_ n2_; (try clear hb); (try clear hb2); (try clear hk); (try clear hi); have hcz20_0 : w19.cell? ⟨gb207, 0, none⟩ = some (.int .i64 6) := (blk_cell BK207.out 0).trans rfl; have hcz20_1 : w19.cell? ⟨gb207, 1, none⟩ = some (.int .i64 0) := (blk_cell BK207.out 1).trans rfl; have hcz20_2 : w19.cell? ⟨gb207, 2, none⟩ = some (.int .i64 0) := (blk_cell BK207.out 2).trans rfl; have hcz20_3 : w19.cell? ⟨gb207, 3, none⟩ = some (.int .i64 2) := (blk_cell BK207.out 3).trans rfl; have hcz20_4 : w19.cell? ⟨gb207, 4, none⟩ = some (.slice Ao16 y204.length co16) := (blk_cell BK207.out 4).trans rfl; have hfz20_0 := blk_frozen BK207.out 0; have hfz20_1 := blk_frozen BK207.out 1; have hfz20_2 := blk_frozen BK207.out 2; have hfz20_3 := blk_frozen BK207.out 3; have hfz20_4 := blk_frozen BK207.out 4) | ((with_reducible refine gate_callee (f := 21) rfl ?_); refine goesL_ (some 16) rfl rfl Tryd.func21 (by kernel_rfl) rfl #[.agg #[.int .i64 6, .int .i64 0, .int .i64 0, .int .i64 2, .slice Ao16 y204.length co16]] rfl (by (try simp only [List.map_toArray, List.map_cons, List.map_nil]); first | done | rfl | (simp only [List.length_drop, List.length_take]; rfl)) ?_; (with_reducible refine (types_Format.calls k 6 0 0 2 _ _ y204 t210 t211 _ ?side1 ?side2 A2.out ?tab).mono ?_); (case tab => exact ptab HTAB.out (by repeat (first | (with_reducible first | exact HB.out | apply below_alloc | apply pw_below_drewN | apply below_drew1 | refine below_set ?_ GE207.out) | exact HB.out))); (case side1 => repeat (first | exact (Kd.R_reads' HO206.out).2.2 | (with_reducible refine Kd.C_alloc ?_ _) | (with_reducible refine Kd.C_drewN ?_ _) | (with_reducible refine Kd.C_drew ?_))); (case side2 => exact (Kd.R_reads' HO206.out).2.1); rintro e w21 ⟨rfl, hb⟩; refine ⟨_, rfl, ?_⟩; have n0_ := Aside0.mk (Kd.R_below (by (with_reducible repeat (first | apply Kd.R_alloc | apply Kd.R_drewN | apply Kd.R_drew)); exact HO206.out) hb); have n1_ := Aside0.mk (blk_below (g := gb207) (o := .cells #[.int .i64 6, .int .i64 0, .int .i64 0, .int .i64 2, .slice Ao16 y204.length co16] 24 (0, 0)) (by (with_reducible repeat (first | refine blk_drewN ?_ _ | refine blk_drew ?_ | refine blk_alloc ?_ _)); exact BK207.out) hb); have n2_ := Aside0.mk (below_step (by repeat (first | (with_reducible first | exact HB.out | apply below_alloc | apply pw_below_drewN | apply below_drew1 | refine below_set ?_ GE207.out) | exact HB.out)) hb); clear HO206; clear BK207; clear HB; have HO206 := n0_; have BK207 := n1_; have HB := n2_; clear n0_ n1_ n2_; (try clear hb); (try clear hb2); (try clear hk); (try clear hi)))
        go_ret
        exact ⟨by first | rfl | (simp [errW_none, errW_some] <;> rfl) | (simp [*, errW_none, errW_some] <;> rfl), by repeat (first | (with_reducible first | exact HB.out | apply below_alloc | apply pw_below_drewN | apply below_drew1 | refine below_set ?_ GE207.out) | exact HB.out)⟩
    · rw [if_neg c4] at H
      have c4b0 : (t211 == 0) = false := beq_eq_false_iff_ne.mpr c4
      have c4b1 : (t211 != 0) = true := bne_iff_ne.mpr c4
      obtain rfl := Option.some.inj H
      go_enter Tryd.func13, Tryd.ntmps13
      go_wp2_with (first | ((with_reducible refine gate_dst (N := 7) rfl ?_); refine Kd.R_lit k24 _ 24 ?hg (N := 7) ?hd (xs := ([(⟨1, 0, 0, 0, ([] : List (S24))⟩ : S24)] : List (S24))) (inner := [.int .i64 1, .int .i64 0, .int .i64 0, .int .i64 0, .slice none 0 0]) (ok := fun _ => True) (okp := fun _ => True) ?hr ?hp (fun _ hk => hk) trivial (Below.refl _ _) (Nat.le_refl _) (by simp) ?_; (case hd => rfl); (case hg => rfl); (case hr => first | (go_simp; done) | (go_simp; rfl)); (case hp => exact (Reps.c5 (show Kd.M k24 _ _ _ (⟨1, 0, 0, 0, ([] : List (S24))⟩ : S24) [.int .i64 1, .int .i64 0, .int .i64 0, .int .i64 0, .slice none 0 0] from (k24_mkM _ _ _ (⟨1, 0, 0, 0, ([] : List (S24))⟩ : S24) (Kd.R_nil _ _ _ _ _))) (Reps.none _ _))); intro v205 w22 ho23 hb hg_ hnew_; clear hg_ hnew_; (first | rw [← Ny204.out] at ho23 | (simp only [Int.reduceToNat] at ho23; rw [← Ny204.out] at ho23)); have n0_ := Aside0.mk (Kd.R_lower ho23 (below_size (by repeat (first | (with_reducible first | exact HB.out | apply below_alloc | apply pw_below_drewN | apply below_drew1) | exact HB.out)))); have n1_ := Aside0.mk (below_step (by repeat (first | (with_reducible first | exact HB.out | apply below_alloc | apply pw_below_drewN | apply below_drew1) | exact HB.out)) hb); clear HB; have HO206 := n0_; have HB := n1_; clear n0_ n1_; clear hb ho23; obtain ⟨Ao24, co24, eo24⟩ := Kd.R_slice HO206.out; subst eo24) | ((with_reducible refine gate_dst (N := 1) rfl ?_); refine box_event ?hg (N := 1) ?hd (cs := #[.int .i64 0, .int .i64 0, .int .i64 0, .int .i64 0, .slice none 0 0]) (t := 24) ?hr ?_; (case hd => rfl); (case hg => rfl); (case hr => first | (go_simp; done) | (go_simp; rfl)); intro gb207 hg w25 hbox hb; have n0_ := Aside0.mk (Kd.R_below (Kd.R_elderB (by (with_reducible repeat (first | apply Kd.R_alloc | apply Kd.R_drewN | apply Kd.R_drew)); exact HO206.out) gb207 (Nat.le_of_eq hg.symm)) hb); have n1_ := Aside0.mk (below_step (by repeat (first | (with_reducible first | exact HB.out | apply below_alloc | apply pw_below_drewN | apply below_drew1) | exact HB.out)) hb); have n2_ := Aside0.mk (hbox); have n3_ := Aside0.mk ((by rw [hg]; exact (below_size (by repeat (first | (with_reducible first | exact HB.out | apply below_alloc | apply pw_below_drewN | apply below_drew1) | exact HB.out))) : w.heap.size ≤ gb207)); have n4_ := Aside0.mk ((by rw [hg]; exact (below_size (by repeat (first | (with_reducible first | exact HB.out | apply below_alloc | apply pw_below_drewN | apply below_drew1) | exact HB.out))) : w.heap.size ≤ gb207)); clear HO206; clear HB; have HO206 := n0_; have HB := n1_; have BK207 := n2_; have GW207 := n3_; have GE207 := n4_; clear n0_ n1_ n2_ n3_ n4_; clear hb hbox hg; have hcz26_0 : w25.cell? ⟨gb207, 0, none⟩ = some (.int .i64 0) := (blk_cell BK207.out 0).trans rfl; have hcz26_1 : w25.cell? ⟨gb207, 1, none⟩ = some (.int .i64 0) := (blk_cell BK207.out 1).trans rfl; have hcz26_2 : w25.cell? ⟨gb207, 2, none⟩ = some (.int .i64 0) := (blk_cell BK207.out 2).trans rfl; have hcz26_3 : w25.cell? ⟨gb207, 3, none⟩ = some (.int .i64 0) := (blk_cell BK207.out 3).trans rfl; have hcz26_4 : w25.cell? ⟨gb207, 4, none⟩ = some (.slice none 0 0) := (blk_cell BK207.out 4).trans rfl; have hfz26_0 := blk_frozen BK207.out 0; have hfz26_1 := blk_frozen BK207.out 1; have hfz26_2 := blk_frozen BK207.out 2; have hfz26_3 := blk_frozen BK207.out 3; have hfz26_4 := blk_frozen BK207.out 4) | ((with_reducible refine gate_callee (f := 16) rfl ?_); refine goesL_ (some 11) rfl rfl Tryd.func16 (by kernel_rfl) rfl #[.agg #[.int .i64 6, .int .i64 0, .int .i64 0, .int .i64 2, .slice Ao24 y204.length co24]] rfl (by (try simp only [List.map_toArray, List.map_cons, List.map_nil]); first | done | rfl | (simp only [List.length_drop, List.length_take]; rfl)) ?_; (with_reducible refine (types_Size.calls k 6 0 0 2 _ _ y204 t208 t209 _ ?side1 ?side2 A1.out).mono ?_); (case side1 => refine (Kd.R_reads' (e := 24) (base := w.heap.size) (ok := fun k_ => (True ∧ k_ ≠ gb207)) (n := y204.length) (c := co24) ?_).2.2; exact (by (with_reducible repeat (first | apply Kd.R_alloc | apply Kd.R_drewN | apply Kd.R_drew)); exact (Kd.R_mono (Kd.R_far (p := ⟨gb207, 4, none⟩) (Kd.R_far (p := ⟨gb207, 3, none⟩) (Kd.R_far (p := ⟨gb207, 2, none⟩) (Kd.R_far (p := ⟨gb207, 1, none⟩) (Kd.R_far (p := ⟨gb207, 0, none⟩) (Kd.R_mono HO206.out (fun k_ hk => (⟨hk, by first | exact hk.2 | exact hk.1 | exact hk.2 | exact hk.1.1 | exact hk.1.2⟩ : _ ∧ k_ ≠ gb207))) (fun _ hk => hk.2) (.int .i64 6)) (fun _ hk => hk.2) (.int .i64 0)) (fun _ hk => hk.2) (.int .i64 0)) (fun _ hk => hk.2) (.int .i64 2)) (fun _ hk => hk.2) (.slice Ao24 y204.length co24)) (fun _ h_ => h_.1)))); (case side2 => exact (Kd.R_reads' HO206.out).2.1); rintro e w27 ⟨rfl, hb⟩; refine ⟨_, rfl, ?_⟩; have n0_ := Aside0.mk (Kd.R_below (by (with_reducible repeat (first | apply Kd.R_alloc | apply Kd.R_drewN | apply Kd.R_drew)); exact (Kd.R_mono (Kd.R_far (p := ⟨gb207, 4, none⟩) (Kd.R_far (p := ⟨gb207, 3, none⟩) (Kd.R_far (p := ⟨gb207, 2, none⟩) (Kd.R_far (p := ⟨gb207, 1, none⟩) (Kd.R_far (p := ⟨gb207, 0, none⟩) (Kd.R_mono HO206.out (fun k_ hk => (⟨hk, by first | exact hk.2 | exact hk.1 | exact hk.2 | exact hk.1.1 | exact hk.1.2⟩ : _ ∧ k_ ≠ gb207))) (fun _ hk => hk.2) (.int .i64 6)) (fun _ hk => hk.2) (.int .i64 0)) (fun _ hk => hk.2) (.int .i64 0)) (fun _ hk => hk.2) (.int .i64 2)) (fun _ hk => hk.2) (.slice Ao24 y204.length co24)) (fun _ h_ => h_.1))) hb); have n1_ := Aside0.mk (blk_below (g := gb207) (o := .cells #[.int .i64 6, .int .i64 0, .int .i64 0, .int .i64 2, .slice Ao24 y204.length co24] 24 (0, 0)) (by (with_reducible repeat (first | refine blk_drewN ?_ _ | refine blk_drew ?_ | refine blk_alloc ?_ _)); refine blk_put (cs := #[.int .i64 6, .int .i64 0, .int .i64 0, .int .i64 2, .slice none 0 0]) ?_ 4 _ rfl; (with_reducible repeat (first | refine blk_drewN ?_ _ | refine blk_drew ?_ | refine blk_alloc ?_ _)); refine blk_put (cs := #[.int .i64 6, .int .i64 0, .int .i64 0, .int .i64 0, .slice none 0 0]) ?_ 3 _ rfl; (with_reducible repeat (first | refine blk_drewN ?_ _ | refine blk_drew ?_ | refine blk_alloc ?_ _)); refine blk_put (cs := #[.int .i64 6, .int .i64 0, .int .i64 0, .int .i64 0, .slice none 0 0]) ?_ 2 _ rfl; (with_reducible repeat (first | refine blk_drewN ?_ _ | refine blk_drew ?_ | refine blk_alloc ?_ _)); refine blk_put (cs := #[.int .i64 6, .int .i64 0, .int .i64 0, .int .i64 0, .slice none 0 0]) ?_ 1 _ rfl; (with_reducible repeat (first | refine blk_drewN ?_ _ | refine blk_drew ?_ | refine blk_alloc ?_ _)); refine blk_put (cs := #[.int .i64 0, .int .i64 0, .int .i64 0, .int .i64 0, .slice none 0 0]) ?_ 0 _ rfl; (with_reducible repeat (first | refine blk_drewN ?_ _ | refine blk_drew ?_ | refine blk_alloc ?_ _)); exact BK207.out) hb); have n2_ := Aside0.mk (below_step (by repeat (first | (with_reducible first | exact HB.out | apply below_alloc | apply pw_below_drewN | apply below_drew1 | refine below_set ?_ GE207.out) | exact HB.out)) hb); clear HO206; clear BK207; clear HB; have HO206 := n0_; have BK207 := n1_; have HB := n2_; clear n0_ n1_ n2_; (try clear hb); (try clear hb2); (try clear hk); (try clear hi); have hcz28_0 : w27.cell? ⟨gb207, 0, none⟩ = some (.int .i64 6) := (blk_cell BK207.out 0).trans rfl; have hcz28_1 : w27.cell? ⟨gb207, 1, none⟩ = some (.int .i64 0) := (blk_cell BK207.out 1).trans rfl; have hcz28_2 : w27.cell? ⟨gb207, 2, none⟩ = some (.int .i64 0) := (blk_cell BK207.out 2).trans rfl; have hcz28_3 : w27.cell? ⟨gb207, 3, none⟩ = some (.int .i64 2) := (blk_cell BK207.out 3).trans rfl; have hcz28_4 : w27.cell? ⟨gb207, 4, none⟩ = some (.slice Ao24 y204.length co24) := (blk_cell BK207.out 4).trans rfl; have hfz28_0 := blk_frozen BK207.out 0; have hfz28_1 := blk_frozen BK207.out 1; have hfz28_2 := blk_frozen BK207.out 2; have hfz28_3 := blk_frozen BK207.out 3; have hfz28_4 := blk_frozen BK207.out 4) | ((with_reducible refine gate_callee (f := 21) rfl ?_); refine goesL_ (some 16) rfl rfl Tryd.func21 (by kernel_rfl) rfl #[.agg #[.int .i64 6, .int .i64 0, .int .i64 0, .int .i64 2, .slice Ao24 y204.length co24]] rfl (by (try simp only [List.map_toArray, List.map_cons, List.map_nil]); first | done | rfl | (simp only [List.length_drop, List.length_take]; rfl)) ?_; (with_reducible refine (types_Format.calls k 6 0 0 2 _ _ y204 t210 t211 _ ?side1 ?side2 A2.out ?tab).mono ?_); (case tab => exact ptab HTAB.out (by repeat (first | (with_reducible first | exact HB.out | apply below_alloc | apply pw_below_drewN | apply below_drew1 | refine below_set ?_ GE207.out) | exact HB.out))); (case side1 => repeat (first | exact (Kd.R_reads' HO206.out).2.2 | (with_reducible refine Kd.C_alloc ?_ _) | (with_reducible refine Kd.C_drewN ?_ _) | (with_reducible refine Kd.C_drew ?_))); (case side2 => exact (Kd.R_reads' HO206.out).2.1); rintro e w29 ⟨rfl, hb⟩; refine ⟨_, rfl, ?_⟩; have n0_ := Aside0.mk (Kd.R_below (by (with_reducible repeat (first | apply Kd.R_alloc | apply Kd.R_drewN | apply Kd.R_drew)); exact HO206.out) hb); have n1_ := Aside0.mk (blk_below (g := gb207) (o := .cells #[.int .i64 6, .int .i64 0, .int .i64 0, .int .i64 2, .slice Ao24 y204.length co24] 24 (0, 0)) (by (with_reducible repeat (first | refine blk_drewN ?_ _ | refine blk_drew ?_ | refine blk_alloc ?_ _)); exact BK207.out) hb); have n2_ := Aside0.mk (below_step (by repeat (first | (with_reducible first | exact HB.out | apply below_alloc | apply pw_below_drewN | apply below_drew1 | refine below_set ?_ GE207.out) | exact HB.out)) hb); clear HO206; clear BK207; clear HB; have HO206 := n0_; have BK207 := n1_; have HB := n2_; clear n0_ n1_ n2_; (try clear hb); (try clear hb2); (try clear hk); (try clear hi)))
      go_ret
      exact ⟨by first | rfl | (simp [errW_none, errW_some] <;> rfl) | (simp [*, errW_none, errW_some] <;> rfl), by repeat (first | (with_reducible first | exact HB.out | apply below_alloc | apply pw_below_drewN | apply below_drew1 | refine below_set ?_ GE207.out) | exact HB.out)⟩
  · rw [if_neg c3] at H
    have c3b0 : (t209 == 0) = false := beq_eq_false_iff_ne.mpr c3
    have c3b1 : (t209 != 0) = true := bne_iff_ne.mpr c3
    obtain rfl := Option.some.inj H
    go_enter Tryd.func13, Tryd.ntmps13
    go_wp2_with (first | ((with_reducible refine gate_dst (N := 7) rfl ?_); refine Kd.R_lit k24 _ 24 ?hg (N := 7) ?hd (xs := ([(⟨1, 0, 0, 0, ([] : List (S24))⟩ : S24)] : List (S24))) (inner := [.int .i64 1, .int .i64 0, .int .i64 0, .int .i64 0, .slice none 0 0]) (ok := fun _ => True) (okp := fun _ => True) ?hr ?hp (fun _ hk => hk) trivial (Below.refl _ _) (Nat.le_refl _) (by simp) ?_; (case hd => rfl); (case hg => rfl); (case hr => first | (go_simp; done) | (go_simp; rfl)); (case hp => exact (Reps.c5 (show Kd.M k24 _ _ _ (⟨1, 0, 0, 0, ([] : List (S24))⟩ : S24) [.int .i64 1, .int .i64 0, .int .i64 0, .int .i64 0, .slice none 0 0] from (k24_mkM _ _ _ (⟨1, 0, 0, 0, ([] : List (S24))⟩ : S24) (Kd.R_nil _ _ _ _ _))) (Reps.none _ _))); intro v205 w30 ho31 hb hg_ hnew_; clear hg_ hnew_; (first | rw [← Ny204.out] at ho31 | (simp only [Int.reduceToNat] at ho31; rw [← Ny204.out] at ho31)); have n0_ := Aside0.mk (Kd.R_lower ho31 (below_size (by repeat (first | (with_reducible first | exact HB.out | apply below_alloc | apply pw_below_drewN | apply below_drew1) | exact HB.out)))); have n1_ := Aside0.mk (below_step (by repeat (first | (with_reducible first | exact HB.out | apply below_alloc | apply pw_below_drewN | apply below_drew1) | exact HB.out)) hb); clear HB; have HO206 := n0_; have HB := n1_; clear n0_ n1_; clear hb ho31; obtain ⟨Ao32, co32, eo32⟩ := Kd.R_slice HO206.out; subst eo32) | ((with_reducible refine gate_dst (N := 1) rfl ?_); refine box_event ?hg (N := 1) ?hd (cs := #[.int .i64 0, .int .i64 0, .int .i64 0, .int .i64 0, .slice none 0 0]) (t := 24) ?hr ?_; (case hd => rfl); (case hg => rfl); (case hr => first | (go_simp; done) | (go_simp; rfl)); intro gb207 hg w33 hbox hb; have n0_ := Aside0.mk (Kd.R_below (Kd.R_elderB (by (with_reducible repeat (first | apply Kd.R_alloc | apply Kd.R_drewN | apply Kd.R_drew)); exact HO206.out) gb207 (Nat.le_of_eq hg.symm)) hb); have n1_ := Aside0.mk (below_step (by repeat (first | (with_reducible first | exact HB.out | apply below_alloc | apply pw_below_drewN | apply below_drew1) | exact HB.out)) hb); have n2_ := Aside0.mk (hbox); have n3_ := Aside0.mk ((by rw [hg]; exact (below_size (by repeat (first | (with_reducible first | exact HB.out | apply below_alloc | apply pw_below_drewN | apply below_drew1) | exact HB.out))) : w.heap.size ≤ gb207)); have n4_ := Aside0.mk ((by rw [hg]; exact (below_size (by repeat (first | (with_reducible first | exact HB.out | apply below_alloc | apply pw_below_drewN | apply below_drew1) | exact HB.out))) : w.heap.size ≤ gb207)); clear HO206; clear HB; have HO206 := n0_; have HB := n1_; have BK207 := n2_; have GW207 := n3_; have GE207 := n4_; clear n0_ n1_ n2_ n3_ n4_; clear hb hbox hg; have hcz34_0 : w33.cell? ⟨gb207, 0, none⟩ = some (.int .i64 0) := (blk_cell BK207.out 0).trans rfl; have hcz34_1 : w33.cell? ⟨gb207, 1, none⟩ = some (.int .i64 0) := (blk_cell BK207.out 1).trans rfl; have hcz34_2 : w33.cell? ⟨gb207, 2, none⟩ = some (.int .i64 0) := (blk_cell BK207.out 2).trans rfl; have hcz34_3 : w33.cell? ⟨gb207, 3, none⟩ = some (.int .i64 0) := (blk_cell BK207.out 3).trans rfl; have hcz34_4 : w33.cell? ⟨gb207, 4, none⟩ = some (.slice none 0 0) := (blk_cell BK207.out 4).trans rfl; have hfz34_0 := blk_frozen BK207.out 0; have hfz34_1 := blk_frozen BK207.out 1; have hfz34_2 := blk_frozen BK207.out 2; have hfz34_3 := blk_frozen BK207.out 3; have hfz34_4 := blk_frozen BK207.out 4) | ((with_reducible refine gate_callee (f := 16) rfl ?_); refine goesL_ (some 11) rfl rfl Tryd.func16 (by kernel_rfl) rfl #[.agg #[.int .i64 6, .int .i64 0, .int .i64 0, .int .i64 2, .slice Ao32 y204.length co32]] rfl (by (try simp only [List.map_toArray, List.map_cons, List.map_nil]); first | done | rfl | (simp only [List.length_drop, List.length_take]; rfl)) ?_; (with_reducible refine (types_Size.calls k 6 0 0 2 _ _ y204 t208 t209 _ ?side1 ?side2 A1.out).mono ?_); (case side1 => refine (Kd.R_reads' (e := 24) (base := w.heap.size) (ok := fun k_ => (True ∧ k_ ≠ gb207)) (n := y204.length) (c := co32) ?_).2.2; exact (by (with_reducible repeat (first | apply Kd.R_alloc | apply Kd.R_drewN | apply Kd.R_drew)); exact (Kd.R_mono (Kd.R_far (p := ⟨gb207, 4, none⟩) (Kd.R_far (p := ⟨gb207, 3, none⟩) (Kd.R_far (p := ⟨gb207, 2, none⟩) (Kd.R_far (p := ⟨gb207, 1, none⟩) (Kd.R_far (p := ⟨gb207, 0, none⟩) (Kd.R_mono HO206.out (fun k_ hk => (⟨hk, by first | exact hk.2 | exact hk.1 | exact hk.2 | exact hk.1.1 | exact hk.1.2⟩ : _ ∧ k_ ≠ gb207))) (fun _ hk => hk.2) (.int .i64 6)) (fun _ hk => hk.2) (.int .i64 0)) (fun _ hk => hk.2) (.int .i64 0)) (fun _ hk => hk.2) (.int .i64 2)) (fun _ hk => hk.2) (.slice Ao32 y204.length co32)) (fun _ h_ => h_.1)))); (case side2 => exact (Kd.R_reads' HO206.out).2.1); rintro e w35 ⟨rfl, hb⟩; refine ⟨_, rfl, ?_⟩; have n0_ := Aside0.mk (Kd.R_below (by (with_reducible repeat (first | apply Kd.R_alloc | apply Kd.R_drewN | apply Kd.R_drew)); exact (Kd.R_mono (Kd.R_far (p := ⟨gb207, 4, none⟩) (Kd.R_far (p := ⟨gb207, 3, none⟩) (Kd.R_far (p := ⟨gb207, 2, none⟩) (Kd.R_far (p := ⟨gb207, 1, none⟩) (Kd.R_far (p := ⟨gb207, 0, none⟩) (Kd.R_mono HO206.out (fun k_ hk => (⟨hk, by first | exact hk.2 | exact hk.1 | exact hk.2 | exact hk.1.1 | exact hk.1.2⟩ : _ ∧ k_ ≠ gb207))) (fun _ hk => hk.2) (.int .i64 6)) (fun _ hk => hk.2) (.int .i64 0)) (fun _ hk => hk.2) (.int .i64 0)) (fun _ hk => hk.2) (.int .i64 2)) (fun _ hk => hk.2) (.slice Ao32 y204.length co32)) (fun _ h_ => h_.1))) hb); have n1_ := Aside0.mk (blk_below (g := gb207) (o := .cells #[.int .i64 6, .int .i64 0, .int .i64 0, .int .i64 2, .slice Ao32 y204.length co32] 24 (0, 0)) (by (with_reducible repeat (first | refine blk_drewN ?_ _ | refine blk_drew ?_ | refine blk_alloc ?_ _)); refine blk_put (cs := #[.int .i64 6, .int .i64 0, .int .i64 0, .int .i64 2, .slice none 0 0]) ?_ 4 _ rfl; (with_reducible repeat (first | refine blk_drewN ?_ _ | refine blk_drew ?_ | refine blk_alloc ?_ _)); refine blk_put (cs := #[.int .i64 6, .int .i64 0, .int .i64 0, .int .i64 0, .slice none 0 0]) ?_ 3 _ rfl; (with_reducible repeat (first | refine blk_drewN ?_ _ | refine blk_drew ?_ | refine blk_alloc ?_ _)); refine blk_put (cs := #[.int .i64 6, .int .i64 0, .int .i64 0, .int .i64 0, .slice none 0 0]) ?_ 2 _ rfl; (with_reducible repeat (first | refine blk_drewN ?_ _ | refine blk_drew ?_ | refine blk_alloc ?_ _)); refine blk_put (cs := #[.int .i64 6, .int .i64 0, .int .i64 0, .int .i64 0, .slice none 0 0]) ?_ 1 _ rfl; (with_reducible repeat (first | refine blk_drewN ?_ _ | refine blk_drew ?_ | refine blk_alloc ?_ _)); refine blk_put (cs := #[.int .i64 0, .int .i64 0, .int .i64 0, .int .i64 0, .slice none 0 0]) ?_ 0 _ rfl; (with_reducible repeat (first | refine blk_drewN ?_ _ | refine blk_drew ?_ | refine blk_alloc ?_ _)); exact BK207.out) hb); have n2_ := Aside0.mk (below_step (by repeat (first | (with_reducible first | exact HB.out | apply below_alloc | apply pw_below_drewN | apply below_drew1 | refine below_set ?_ GE207.out) | exact HB.out)) hb); clear HO206; clear BK207; clear HB; have HO206 := n0_; have BK207 := n1_; have HB := n2_; clear n0_ n1_ n2_; (try clear hb); (try clear hb2); (try clear hk); (try clear hi); have hcz36_0 : w35.cell? ⟨gb207, 0, none⟩ = some (.int .i64 6) := (blk_cell BK207.out 0).trans rfl; have hcz36_1 : w35.cell? ⟨gb207, 1, none⟩ = some (.int .i64 0) := (blk_cell BK207.out 1).trans rfl; have hcz36_2 : w35.cell? ⟨gb207, 2, none⟩ = some (.int .i64 0) := (blk_cell BK207.out 2).trans rfl; have hcz36_3 : w35.cell? ⟨gb207, 3, none⟩ = some (.int .i64 2) := (blk_cell BK207.out 3).trans rfl; have hcz36_4 : w35.cell? ⟨gb207, 4, none⟩ = some (.slice Ao32 y204.length co32) := (blk_cell BK207.out 4).trans rfl; have hfz36_0 := blk_frozen BK207.out 0; have hfz36_1 := blk_frozen BK207.out 1; have hfz36_2 := blk_frozen BK207.out 2; have hfz36_3 := blk_frozen BK207.out 3; have hfz36_4 := blk_frozen BK207.out 4) | ((with_reducible refine gate_callee (f := 21) rfl ?_); refine goesL_ (some 16) rfl rfl Tryd.func21 (by kernel_rfl) rfl #[.agg #[.int .i64 6, .int .i64 0, .int .i64 0, .int .i64 2, .slice Ao32 y204.length co32]] rfl (by (try simp only [List.map_toArray, List.map_cons, List.map_nil]); first | done | rfl | (simp only [List.length_drop, List.length_take]; rfl)) ?_; (with_reducible refine (types_Format.calls k 6 0 0 2 _ _ y204 t210 t211 _ ?side1 ?side2 A2.out ?tab).mono ?_); (case tab => exact ptab HTAB.out (by repeat (first | (with_reducible first | exact HB.out | apply below_alloc | apply pw_below_drewN | apply below_drew1 | refine below_set ?_ GE207.out) | exact HB.out))); (case side1 => repeat (first | exact (Kd.R_reads' HO206.out).2.2 | (with_reducible refine Kd.C_alloc ?_ _) | (with_reducible refine Kd.C_drewN ?_ _) | (with_reducible refine Kd.C_drew ?_))); (case side2 => exact (Kd.R_reads' HO206.out).2.1); rintro e w37 ⟨rfl, hb⟩; refine ⟨_, rfl, ?_⟩; have n0_ := Aside0.mk (Kd.R_below (by (with_reducible repeat (first | apply Kd.R_alloc | apply Kd.R_drewN | apply Kd.R_drew)); exact HO206.out) hb); have n1_ := Aside0.mk (blk_below (g := gb207) (o := .cells #[.int .i64 6, .int .i64 0, .int .i64 0, .int .i64 2, .slice Ao32 y204.length co32] 24 (0, 0)) (by (with_reducible repeat (first | refine blk_drewN ?_ _ | refine blk_drew ?_ | refine blk_alloc ?_ _)); exact BK207.out) hb); have n2_ := Aside0.mk (below_step (by repeat (first | (with_reducible first | exact HB.out | apply below_alloc | apply pw_below_drewN | apply below_drew1 | refine below_set ?_ GE207.out) | exact HB.out)) hb); clear HO206; clear BK207; clear HB; have HO206 := n0_; have BK207 := n1_; have HB := n2_; clear n0_ n1_ n2_; (try clear hb); (try clear hb2); (try clear hk); (try clear hi)))
    go_ret
    exact ⟨by first | rfl | (simp [errW_none, errW_some] <;> rfl) | (simp [*, errW_none, errW_some] <;> rfl), by repeat (first | (with_reducible first | exact HB.out | apply below_alloc | apply pw_below_drewN | apply below_drew1 | refine below_set ?_ GE207.out) | exact HB.out)⟩

end Go.Proofs.YtggelekooacmnaaDoor.Q
