-- By a program of this session
import Derived.Test.YtggelekooacmnaaDoorC0
import Derived.Test.YtggelekooacmnaaDoorC1
import Derived.Test.YtggelekooacmnaaDoorC4
import Derived.Test.YtggelekooacmnaaDoorC5
import Derived.Test.YtggelekooacmnaaDoorC6
import Derived.Test.YtggelekooacmnaaDoorC8
import Derived.Test.YtggelekooacmnaaDoorC12
import Derived.Test.YtggelekooacmnaaDoorC9
namespace Go.Proofs.YtggelekooacmnaaDoor.R
open Go.RowKit Go.Proofs.YtggelekooacmnaaDoorW.PrintWords Go.Proofs.YtggelekooacmnaaDoorW.PrintLast Go.Proofs.YtggelekooacmnaaDoorW.PrintMore
attribute [local go_sem] max2_int min2_int max_two min_two max_three min_three max_four min_four   -- for this text's walks alone
set_option linter.unusedVariables false
set_option linter.unusedSimpArgs false

attribute [local go_sem high] eqA41
/-! ### types_Cells: function 18 -/
def types_Cells.f (k : Nat) (a0_0 : Int) (a0_1 : Int) (a0_2 : Int) (a0_3 : Int) (l0_4 : List (S24)) : Option ((List (S41)) × Int) := (types_Validate.f k a0_0 a0_1 a0_2 a0_3 l0_4).bind fun t341 => (if t341 = 0 then ((types_cells.f k a0_0 a0_1 a0_2 a0_3 l0_4).bind fun t342 => (some (t342, 0))) else (some (([] : List (S41)), t341)))
theorem types_Cells.mono : ∀ a0 a1 a2 a3 a4 k, LeO (types_Cells.f k a0 a1 a2 a3 a4) (types_Cells.f (k + 1) a0 a1 a2 a3 a4) := by
 intro a0 a1 a2 a3 a4 k
 unfold types_Cells.f
 repeat' first
   | (with_reducible exact types_Validate.mono _ _ _ _ _ _)
   | (with_reducible exact types_cells.mono _ _ _ _ _ _)
   | (with_reducible exact LeO.refl _)
   | (with_reducible exact LeO.none _)
   | (with_reducible refine LeO.ite ?_ ?_)
   | (with_reducible refine LeO.bind ?_ (fun _ => ?_))
   | exact types_Validate.mono _ _ _ _ _ _
   | exact types_cells.mono _ _ _ _ _ _
   | exact LeO.none _
   | refine LeO.ite ?_ ?_
   | refine LeO.bind ?_ (fun _ => ?_)
set_option maxHeartbeats 8000000 in
set_option maxRecDepth 100000 in
theorem types_Cells.calls (k : Nat) (a0_0 : Int) (a0_1 : Int) (a0_2 : Int) (a0_3 : Int) (A0_4 : Option Addr) (c0_4 : Nat) (l0_4 : List (S24)) (r1 : List (S41)) (r2 : Int) (w : World) (hr0_4 : Kd.C k24 w A0_4 l0_4.length l0_4) (hc0_4 : l0_4.length ≤ c0_4) (h : types_Cells.f k a0_0 a0_1 a0_2 a0_3 l0_4 = some (r1, r2)) :
  Calls Tryd.prog 18 #[.agg #[.int .i64 a0_0, .int .i64 a0_1, .int .i64 a0_2, .int .i64 a0_3, .slice A0_4 l0_4.length c0_4]] w fun e w' => ∃ v0_ : Value, e = .returned (.tuple #[v0_, .int .i64 r2]) ∧ Kd.R k41 41 w' w.heap.size (fun _ => True) v0_ r1 ∧ Below w.heap.size w w' := by
 have hu24 := Tryd.underlying24
 have HR0_4 := Aside0.mk hr0_4
 have HC0_4 := Aside0.mk hc0_4
 clear hr0_4 hc0_4
 have HB := Aside0.mk (Below.refl w.heap.size w)
 have H : ((types_Validate.f k a0_0 a0_1 a0_2 a0_3 l0_4).bind fun t341 => (if t341 = 0 then ((types_cells.f k a0_0 a0_1 a0_2 a0_3 l0_4).bind fun t342 => (some (t342, 0))) else (some (([] : List (S41)), t341)))) = some (r1, r2) := h
 clear h
 replace H := Option.bind_eq_some_iff.mp H
 obtain ⟨t341, A20, H⟩ := H
 replace H : (if t341 = 0 then ((types_cells.f k a0_0 a0_1 a0_2 a0_3 l0_4).bind fun t342 => (some (t342, 0))) else (some (([] : List (S41)), t341))) = some (r1, r2) := H
 have A2 := Aside0.mk A20
 clear A20
 by_cases c3 : t341 = 0
 ·rw [if_pos c3] at H
  have c3b0 : (t341 == 0) = true := beq_iff_eq.mpr c3
  have c3b1 : (t341 != 0) = false := bne_eq_false_iff_eq.mpr c3
  clear c3
  replace H := Option.bind_eq_some_iff.mp H
  obtain ⟨t342, A40, H⟩ := H
  replace H : (some (t342, 0)) = some (r1, r2) := H
  have A4 := Aside0.mk A40
  clear A40
  simp only [Option.some.injEq, Prod.mk.injEq] at H
  obtain ⟨rfl, rfl⟩ := H
  go_enter Tryd.func18, Tryd.ntmps18
  go_wp2_with (first | ((with_reducible refine gate_dst (N := 1) rfl ?_); refine box_event ?hg (N := 1) ?hd (cs := #[.int .i64 a0_0, .int .i64 a0_1, .int .i64 a0_2, .int .i64 a0_3, .slice A0_4 l0_4.length c0_4]) (t := 24) ?hr ?_; (case hd => rfl); (case hg => rfl); (case hr => first | (go_simp; done) | (go_simp; rfl)); intro gb340 hg w5 hbox hb; have BK340 := Aside0.mk (hbox); have GW340 : Aside0 (w.heap.size ≤ gb340) := gw_ hg (below_size bl63_); have GE340 := GW340; replace HB := Aside0.mk (below_step bl63_ hb); clear hb hbox hg; obtain ⟨hcz6_0, hcz6_1, hcz6_2, hcz6_3, hcz6_4, hfz6_0, hfz6_1, hfz6_2, hfz6_3, hfz6_4⟩ := cf5_ BK340.out) | ((with_reducible refine gate_callee (f := 12) rfl ?_); refine goesL_ (some 6) rfl rfl Tryd.func12 (by kernel_rfl) rfl #[.agg #[.int .i64 a0_0, .int .i64 a0_1, .int .i64 a0_2, .int .i64 a0_3, .slice A0_4 l0_4.length c0_4]] rfl (by (try simp only [List.map_toArray, List.map_cons, List.map_nil]); first | done | rfl | (simp only [List.length_drop, List.length_take]; rfl)) ?_; (with_reducible refine (types_Validate.calls k a0_0 a0_1 a0_2 a0_3 _ _ l0_4 t341 _ ?side1 ?side2 A2.out).mono ?_); (case side1 => repeat (first | exact (Kd.C_below HR0_4.out HB.out) | (with_reducible refine Kd.C_alloc ?_ _) | (with_reducible refine Kd.C_drewN ?_ _) | (with_reducible refine Kd.C_drew ?_))); (case side2 => exact HC0_4.out); rintro e w7 ⟨rfl, hb⟩; refine ⟨_, rfl, ?_⟩; replace BK340 := Aside0.mk (blk_below (g := gb340) (o := .cells #[.int .i64 a0_0, .int .i64 a0_1, .int .i64 a0_2, .int .i64 a0_3, .slice A0_4 l0_4.length c0_4] 24 (0, 0)) bk_ hb); replace HB := Aside0.mk (below_step bl63_ hb); (try clear hb); (try clear hb2); (try clear hk); (try clear hi); obtain ⟨hcz8_0, hcz8_1, hcz8_2, hcz8_3, hcz8_4, hfz8_0, hfz8_1, hfz8_2, hfz8_3, hfz8_4⟩ := cf5_ BK340.out) | ((with_reducible refine gate_callee (f := 42) rfl ?_); refine goesL_ (some 11) rfl rfl Tryd.func42 (by kernel_rfl) rfl #[.agg #[.int .i64 a0_0, .int .i64 a0_1, .int .i64 a0_2, .int .i64 a0_3, .slice A0_4 l0_4.length c0_4]] rfl (by (try simp only [List.map_toArray, List.map_cons, List.map_nil]); first | done | rfl | (simp only [List.length_drop, List.length_take]; rfl)) ?_; (with_reducible refine (types_cells.calls k a0_0 a0_1 a0_2 a0_3 _ _ l0_4 t342 _ ?side1 ?side2 A4.out).mono ?_); (case side1 => repeat (first | exact (Kd.C_below HR0_4.out HB.out) | (with_reducible refine Kd.C_alloc ?_ _) | (with_reducible refine Kd.C_drewN ?_ _) | (with_reducible refine Kd.C_drew ?_))); (case side2 => exact HC0_4.out); rintro e w9 ⟨v343, rfl, ho0, hb⟩; refine ⟨_, rfl, ?_⟩; have HO344 := Aside0.mk (Kd.R_lower ho0 (below_size bl63_)); replace BK340 := Aside0.mk (blk_below (g := gb340) (o := .cells #[.int .i64 a0_0, .int .i64 a0_1, .int .i64 a0_2, .int .i64 a0_3, .slice A0_4 l0_4.length c0_4] 24 (0, 0)) bk_ hb); replace HB := Aside0.mk (below_step bl63_ hb); (try clear hb); (try clear hb2); (try clear hk); (try clear hi); (try clear ho0)))
  go_ret2
  exact ⟨_, re_, pR_ HO344.out, bl63_⟩
 ·rw [if_neg c3] at H
  have c3b0 : (t341 == 0) = false := beq_eq_false_iff_ne.mpr c3
  have c3b1 : (t341 != 0) = true := bne_iff_ne.mpr c3
  simp only [Option.some.injEq, Prod.mk.injEq] at H
  obtain ⟨rfl, rfl⟩ := H
  go_enter Tryd.func18, Tryd.ntmps18
  go_wp2_with (first | ((with_reducible refine gate_dst (N := 1) rfl ?_); refine box_event ?hg (N := 1) ?hd (cs := #[.int .i64 a0_0, .int .i64 a0_1, .int .i64 a0_2, .int .i64 a0_3, .slice A0_4 l0_4.length c0_4]) (t := 24) ?hr ?_; (case hd => rfl); (case hg => rfl); (case hr => first | (go_simp; done) | (go_simp; rfl)); intro gb340 hg w10 hbox hb; have BK340 := Aside0.mk (hbox); have GW340 : Aside0 (w.heap.size ≤ gb340) := gw_ hg (below_size bl63_); have GE340 := GW340; replace HB := Aside0.mk (below_step bl63_ hb); clear hb hbox hg; obtain ⟨hcz11_0, hcz11_1, hcz11_2, hcz11_3, hcz11_4, hfz11_0, hfz11_1, hfz11_2, hfz11_3, hfz11_4⟩ := cf5_ BK340.out) | ((with_reducible refine gate_callee (f := 12) rfl ?_); refine goesL_ (some 6) rfl rfl Tryd.func12 (by kernel_rfl) rfl #[.agg #[.int .i64 a0_0, .int .i64 a0_1, .int .i64 a0_2, .int .i64 a0_3, .slice A0_4 l0_4.length c0_4]] rfl (by (try simp only [List.map_toArray, List.map_cons, List.map_nil]); first | done | rfl | (simp only [List.length_drop, List.length_take]; rfl)) ?_; (with_reducible refine (types_Validate.calls k a0_0 a0_1 a0_2 a0_3 _ _ l0_4 t341 _ ?side1 ?side2 A2.out).mono ?_); (case side1 => repeat (first | exact (Kd.C_below HR0_4.out HB.out) | (with_reducible refine Kd.C_alloc ?_ _) | (with_reducible refine Kd.C_drewN ?_ _) | (with_reducible refine Kd.C_drew ?_))); (case side2 => exact HC0_4.out); rintro e w12 ⟨rfl, hb⟩; refine ⟨_, rfl, ?_⟩; replace BK340 := Aside0.mk (blk_below (g := gb340) (o := .cells #[.int .i64 a0_0, .int .i64 a0_1, .int .i64 a0_2, .int .i64 a0_3, .slice A0_4 l0_4.length c0_4] 24 (0, 0)) bk_ hb); replace HB := Aside0.mk (below_step bl63_ hb); (try clear hb); (try clear hb2); (try clear hk); (try clear hi)))
  go_ret2
  exact ⟨_, re_, by first | exact Kd.R_nil _ _ _ _ _ | exact Kd.N_nil _ _ _ _ _ | exact Kd.V_nil _ _ _ _ _ | exact Kd.Q_nil _ _ _ _ _ | exact Kd.S_nil _ _ _ _ _, bl63_⟩

/-! ### exactppllaw06_sameCells: function 19 -/
def exactppllaw06_sameCells.l0 : Nat → List (S41) → List (S41) → Int → Option (Bool)
 | 0, _, _, _ => none
 | k + 1, x0, x1, x5 => if x5 < (x0.length : Int) then (if 0 ≤ x5 then (if x5 < (x1.length : Int) then (if (!(((rd_T41 x0 x5).f0) == ((rd_T41 x1 x5).f0)) || (!(((rd_T41 x0 x5).f1) == ((rd_T41 x1 x5).f1)) || (!(((rd_T41 x0 x5).f2) == ((rd_T41 x1 x5).f2))))) = true then (some false) else (exactppllaw06_sameCells.l0 k x0 x1 (wrap64 (x5 + 1)))) else (none)) else (none)) else (some true)
def exactppllaw06_sameCells.f (k : Nat) (l0 : List (S41)) (l1 : List (S41)) : Option (Bool) := if (l0.length : Int) = (l1.length : Int) then (exactppllaw06_sameCells.l0 k l0 l1 0) else (some false)
theorem exactppllaw06_sameCells.mono_l : ∀ k, (∀ y0 y1 y2, LeO (exactppllaw06_sameCells.l0 k y0 y1 y2) (exactppllaw06_sameCells.l0 (k + 1) y0 y1 y2))
 | 0 => fun _ _ _ r h => by simp [exactppllaw06_sameCells.l0] at h
 | k + 1 => by
  have ih0 := exactppllaw06_sameCells.mono_l k
  ·intro y0 y1 y2
   unfold exactppllaw06_sameCells.l0
   repeat' first
   | (with_reducible exact ih0 _ _ _)
   | (with_reducible exact LeO.refl _)
   | (with_reducible exact LeO.none _)
   | (with_reducible refine LeO.ite ?_ ?_)
   | (with_reducible refine LeO.bind ?_ (fun _ => ?_))
   | exact ih0 _ _ _
   | exact LeO.none _
   | refine LeO.ite ?_ ?_
   | refine LeO.bind ?_ (fun _ => ?_)
theorem exactppllaw06_sameCells.mono : ∀ a0 a1 k, LeO (exactppllaw06_sameCells.f k a0 a1) (exactppllaw06_sameCells.f (k + 1) a0 a1) := by
 intro a0 a1 k
 have ih0 := exactppllaw06_sameCells.mono_l k
 unfold exactppllaw06_sameCells.f
 repeat' first
   | (with_reducible exact ih0 _ _ _)
   | (with_reducible exact LeO.refl _)
   | (with_reducible exact LeO.none _)
   | (with_reducible refine LeO.ite ?_ ?_)
   | (with_reducible refine LeO.bind ?_ (fun _ => ?_))
   | exact ih0 _ _ _
   | exact LeO.none _
   | refine LeO.ite ?_ ?_
   | refine LeO.bind ?_ (fun _ => ?_)
set_option maxHeartbeats 8000000 in
set_option maxRecDepth 100000 in
theorem exactppllaw06_sameCells.calls (k : Nat) (A0 : Option Addr) (c0 : Nat) (l0 : List (S41)) (A1 : Option Addr) (c1 : Nat) (l1 : List (S41)) (r : Bool) (w : World) (hr0 : Kd.C k41 w A0 l0.length l0) (hc0 : l0.length ≤ c0) (hr1 : Kd.C k41 w A1 l1.length l1) (hc1 : l1.length ≤ c1) (h : exactppllaw06_sameCells.f k l0 l1 = some r) :
  Calls Tryd.prog 19 #[.slice A0 l0.length c0, .slice A1 l1.length c1] w fun e w' => e = .returned (.bool r) ∧ Drawn0 w w' := by
 have hu41 := Tryd.underlying41
 have HR0 := Aside0.mk hr0
 have HC0 := Aside0.mk hc0
 clear hr0 hc0
 have HR1 := Aside0.mk hr1
 have HC1 := Aside0.mk hc1
 clear hr1 hc1
 have H : (if (l0.length : Int) = (l1.length : Int) then (exactppllaw06_sameCells.l0 k l0 l1 0) else (some false)) = some r := h
 clear h
 by_cases c3 : (l0.length : Int) = (l1.length : Int)
 ·rw [if_pos c3] at H
  have c3b0 : ((l0.length : Int) == (l1.length : Int)) = true := beq_iff_eq.mpr c3
  have c3b1 : ((l0.length : Int) != (l1.length : Int)) = false := bne_eq_false_iff_eq.mpr c3
  have c3b2 : (l0.length == l1.length) = true := by first | simpa using c3 | (simp at c3 ⊢; omega)
  clear c3
  have H' := Aside0.mk H
  clear H
  go_enter Tryd.func19, Tryd.ntmps19
  go_wp2
  repeat (go_quiet (fail); try go_wp2)
  go_loopg [5] k (fun kq v5 w' => ∃ (x5_1 : Int), v5 = .int .i64 x5_1 ∧ Aside0 (exactppllaw06_sameCells.l0 kq l0 l1 x5_1 = some r) ∧ Aside0 (kq ≤ k) ∧ Drawn0 w w')
  case atStart => exact ⟨(0), rs_, H', ⟨Nat.le_refl _⟩, by repeat (first | exact Drawn0.refl _ | apply Drawn0.step)⟩
  case round =>
   clear H'
   try clear c1
   try clear p2
   try clear c3
   try clear c3b0
   try clear c3b1
   try clear c3b2
   obtain ⟨x5_1, rfl, HA, HK1, ⟨m1, rfl⟩⟩ := hrel
   cases gk with
   | zero => exact absurd HA.out (by simp [exactppllaw06_sameCells.l0])
   | succ k1 =>
    have H := HA.out
    clear HA
    simp only [exactppllaw06_sameCells.l0] at H
    by_cases c4 : x5_1 < (l0.length : Int)
    ·rw [if_pos c4] at H
     have c4b0 : decide (x5_1 < (l0.length : Int)) = true := decide_eq_true c4
     clear c4
     by_cases c5 : 0 ≤ x5_1
     ·rw [if_pos c5] at H
      have c5b0 : decide (0 ≤ x5_1) = true := decide_eq_true c5
      clear c5
      by_cases c6 : x5_1 < (l1.length : Int)
      ·rw [if_pos c6] at H
       have c6b0 : decide (x5_1 < (l1.length : Int)) = true := decide_eq_true c6
       clear c6
       by_cases c7 : (!(((rd_T41 l0 x5_1).f0) == ((rd_T41 l1 x5_1).f0)) || (!(((rd_T41 l0 x5_1).f1) == ((rd_T41 l1 x5_1).f1)) || (!(((rd_T41 l0 x5_1).f2) == ((rd_T41 l1 x5_1).f2))))) = true
       ·rw [if_pos c7] at H
        have c7b0 : (!(((rd_T41 l0 x5_1).f0) == ((rd_T41 l1 x5_1).f0)) || (!(((rd_T41 l0 x5_1).f1) == ((rd_T41 l1 x5_1).f1)) || (!(((rd_T41 l0 x5_1).f2) == ((rd_T41 l1 x5_1).f2))))) = true := c7
        clear c7
        obtain rfl := Option.some.inj H
        have p345 : 0 ≤ (x5_1 : Int) := dt_
        have q345 : x5_1 < (l0.length : Int) := dt_
        obtain ⟨ad345, e345, hx345_0, hx345_1, hx345_2⟩ := at_T41 HR0.out x5_1 p345 q345
        cases e345
        replace p345 := eq_true p345
        replace q345 := eq_true q345
        have p346 : 0 ≤ (x5_1 : Int) := dt_
        have q346 : x5_1 < (l1.length : Int) := dt_
        obtain ⟨ad346, e346, hx346_0, hx346_1, hx346_2⟩ := at_T41 HR1.out x5_1 p346 q346
        cases e346
        replace p346 := eq_true p346
        replace q346 := eq_true q346
        go_wp2
        repeat (go_quiet (fail); try go_wp2)
        go_ret
        exact ⟨by first | rfl | (simp; done) | (simp [*]; done), by repeat (first | exact Drawn0.refl _ | apply Drawn0.step)⟩
       ·rw [if_neg c7] at H
        have c7b0 : (!(((rd_T41 l0 x5_1).f0) == ((rd_T41 l1 x5_1).f0)) || (!(((rd_T41 l0 x5_1).f1) == ((rd_T41 l1 x5_1).f1)) || (!(((rd_T41 l0 x5_1).f2) == ((rd_T41 l1 x5_1).f2))))) = false := by simpa using c7
        clear c7
        have H' := Aside0.mk H
        clear H
        have p345 : 0 ≤ (x5_1 : Int) := dt_
        have q345 : x5_1 < (l0.length : Int) := dt_
        obtain ⟨ad345, e345, hx345_0, hx345_1, hx345_2⟩ := at_T41 HR0.out x5_1 p345 q345
        cases e345
        replace p345 := eq_true p345
        replace q345 := eq_true q345
        have p346 : 0 ≤ (x5_1 : Int) := dt_
        have q346 : x5_1 < (l1.length : Int) := dt_
        obtain ⟨ad346, e346, hx346_0, hx346_1, hx346_2⟩ := at_T41 HR1.out x5_1 p346 q346
        cases e346
        replace p346 := eq_true p346
        replace q346 := eq_true q346
        go_wp2
        repeat (go_quiet (fail); try go_wp2)
        go_roundg k1
        case measure => have := HK1.out; omega
        case rel => exact ⟨(wrap64 (x5_1 + 1)), rs_, H', ⟨by have := HK1.out; omega⟩, by repeat (first | exact Drawn0.refl _ | apply Drawn0.step)⟩
      ·rw [if_neg c6] at H
       exact absurd H (by simp)
     ·rw [if_neg c5] at H
      exact absurd H (by simp)
    ·rw [if_neg c4] at H
     have c4b0 : decide (x5_1 < (l0.length : Int)) = false := decide_eq_false c4
     clear c4
     obtain rfl := Option.some.inj H
     go_wp2
     repeat (go_quiet (fail); try go_wp2)
     go_ret
     exact ⟨by first | rfl | (simp; done) | (simp [*]; done), by repeat (first | exact Drawn0.refl _ | apply Drawn0.step)⟩
 ·rw [if_neg c3] at H
  have c3b0 : ((l0.length : Int) == (l1.length : Int)) = false := beq_eq_false_iff_ne.mpr c3
  have c3b1 : ((l0.length : Int) != (l1.length : Int)) = true := bne_iff_ne.mpr c3
  have c3b2 : (l0.length == l1.length) = false := by first | simpa using c3 | (simp at c3 ⊢; omega)
  obtain rfl := Option.some.inj H
  go_enter Tryd.func19, Tryd.ntmps19
  go_wp2
  repeat (go_quiet (fail); try go_wp2)
  go_ret
  exact ⟨by first | rfl | (simp; done) | (simp [*]; done), by repeat (first | exact Drawn0.refl _ | apply Drawn0.step)⟩

end Go.Proofs.YtggelekooacmnaaDoor.R
