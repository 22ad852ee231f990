/- Lemmas for: Proved: the tied card of exactppllaw19.DiagramSettles (for every list of numbers the law returns true). Conditions: none beyond the given row. -/
import Derived.Test.YtopbjginpmdebaaDoorSe2
import Derived.Test.YtopbjginpmdebaaDoorSe4
namespace Go.Proofs.YtopbjginpmdebaaDoor.K
open Go.RowKit Go.Proofs.YtopbjginpmdebaaDoorW.PrintWords Go.Proofs.YtopbjginpmdebaaDoorW.PrintLast Go.Proofs.YtopbjginpmdebaaDoorW.PrintMore
attribute [local go_sem] max2_int min2_int max_two min_two max_three min_three max_four min_four   -- for this text's walks alone
set_option linter.unusedVariables false
set_option linter.unusedSimpArgs false

/-! ### exactpplref19_sound: function 77 -/
mutual
def exactpplref19_sound.j0 : Nat → List (S60) → Int → Bool → Int → Int → List Int → Option (Bool)
  | 0, _, _, _, _, _, _ => none
  | k + 1, x0, x1, x54, x147000, x147001, x147002 => if x54 = true then (some false) else (exactpplref19_sound.l0 k x0 x1 0 x147000 x147001 x147002)
def exactpplref19_sound.l0 : Nat → List (S60) → Int → Int → Int → Int → List Int → Option (Bool)
  | 0, _, _, _, _, _, _ => none
  | k + 1, x0, x1, x6, x147000, x147001, x147002 => if x6 < (x147002.length : Int) then (if 0 ≤ x6 then (if (rd x147002 x6) < 0 then (some false) else (if (rd x147002 x6) ≥ x1 then (some false) else (if 0 ≤ (rd x147002 x6) then (if (rd x147002 x6) < (x0.length : Int) then ((exactpplref19_IsBranch.f ((rd_T60 x0 (rd x147002 x6)).f0) ((rd_T60 x0 (rd x147002 x6)).f1) ((rd_T60 x0 (rd x147002 x6)).f2)).bind fun t150 => (if t150 = true then (if ((rd_T60 x0 (rd x147002 x6)).f0) ≤ x147000 then (some false) else (exactpplref19_sound.l0 k x0 x1 (wrap64 (x6 + 1)) x147000 x147001 x147002)) else (exactpplref19_sound.l0 k x0 x1 (wrap64 (x6 + 1)) x147000 x147001 x147002))) else (none)) else (none)))) else (none)) else (exactpplref19_sound.l1 k x0 x1 0 x147000 x147001 x147002)
def exactpplref19_sound.l1 : Nat → List (S60) → Int → Int → Int → Int → List Int → Option (Bool)
  | 0, _, _, _, _, _, _ => none
  | k + 1, x0, x1, x8, x147000, x147001, x147002 => if x8 < x1 then (if 0 ≤ x8 then (if x8 < (x0.length : Int) then (if ((rd_T60 x0 x8).f0) = x147000 then (if (((rd_T60 x0 x8).f2).length : Int) = (x147002.length : Int) then (exactpplref19_sound.l1 k x0 x1 (wrap64 (x8 + 1)) x147000 x147001 x147002) else (some false)) else (exactpplref19_sound.l1 k x0 x1 (wrap64 (x8 + 1)) x147000 x147001 x147002)) else (none)) else (none)) else (some true)
end
def exactpplref19_sound.f (k : Nat) (l0 : List (S60)) (a1 : Int) : Option (Bool) := if 0 ≤ a1 then (if a1 < (l0.length : Int) then ((exactpplref19_IsBranch.f ((rd_T60 l0 a1).f0) ((rd_T60 l0 a1).f1) ((rd_T60 l0 a1).f2)).bind fun t147 => (if t147 = true then (if ((rd_T60 l0 a1).f0) < 0 then (exactpplref19_sound.j0 k l0 a1 true ((rd_T60 l0 a1).f0) ((rd_T60 l0 a1).f1) ((rd_T60 l0 a1).f2)) else (if ((rd_T60 l0 a1).f0) ≥ 64 then (exactpplref19_sound.j0 k l0 a1 true ((rd_T60 l0 a1).f0) ((rd_T60 l0 a1).f1) ((rd_T60 l0 a1).f2)) else (if ((rd_T60 l0 a1).f1) = 0 then (if (((rd_T60 l0 a1).f2).length : Int) < 1 then (exactpplref19_sound.j0 k l0 a1 true ((rd_T60 l0 a1).f0) ((rd_T60 l0 a1).f1) ((rd_T60 l0 a1).f2)) else (exactpplref19_sound.j0 k l0 a1 (decide ((((rd_T60 l0 a1).f2).length : Int) > 16)) ((rd_T60 l0 a1).f0) ((rd_T60 l0 a1).f1) ((rd_T60 l0 a1).f2))) else (exactpplref19_sound.j0 k l0 a1 true ((rd_T60 l0 a1).f0) ((rd_T60 l0 a1).f1) ((rd_T60 l0 a1).f2))))) else (if (((rd_T60 l0 a1).f2).length : Int) = 0 then (if ((rd_T60 l0 a1).f1) ≥ (-1073741824) then (some (decide (((rd_T60 l0 a1).f1) ≤ 1073741824))) else (some false)) else (some false)))) else (none)) else (none)
theorem exactpplref19_sound.mono_l : ∀ k, (∀ y0 y1 y2 y3 y4 y5, LeO (exactpplref19_sound.j0 k y0 y1 y2 y3 y4 y5) (exactpplref19_sound.j0 (k + 1) y0 y1 y2 y3 y4 y5)) ∧ (∀ y0 y1 y2 y3 y4 y5, LeO (exactpplref19_sound.l0 k y0 y1 y2 y3 y4 y5) (exactpplref19_sound.l0 (k + 1) y0 y1 y2 y3 y4 y5)) ∧ (∀ y0 y1 y2 y3 y4 y5, LeO (exactpplref19_sound.l1 k y0 y1 y2 y3 y4 y5) (exactpplref19_sound.l1 (k + 1) y0 y1 y2 y3 y4 y5))
  | 0 => ⟨fun _ _ _ _ _ _ r h => by simp [exactpplref19_sound.j0] at h, fun _ _ _ _ _ _ r h => by simp [exactpplref19_sound.l0] at h, fun _ _ _ _ _ _ r h => by simp [exactpplref19_sound.l1] at h⟩
  | k + 1 => by
    obtain ⟨ih0, ih1, ih2⟩ := exactpplref19_sound.mono_l k
    refine ⟨?_, ?_, ?_⟩
    · intro y0 y1 y2 y3 y4 y5
      unfold exactpplref19_sound.j0
      repeat' first
      | (with_reducible exact ih0 _ _ _ _ _ _)
      | (with_reducible exact ih1 _ _ _ _ _ _)
      | (with_reducible exact ih2 _ _ _ _ _ _)
      | (with_reducible exact LeO.refl _)
      | (with_reducible exact LeO.none _)
      | (with_reducible refine LeO.ite ?_ ?_)
      | (with_reducible refine LeO.bind ?_ (fun _ => ?_))
      | exact ih0 _ _ _ _ _ _
      | exact ih1 _ _ _ _ _ _
      | exact ih2 _ _ _ _ _ _
      | exact LeO.none _
      | refine LeO.ite ?_ ?_
      | refine LeO.bind ?_ (fun _ => ?_)
    · intro y0 y1 y2 y3 y4 y5
      unfold exactpplref19_sound.l0
      repeat' first
      | (with_reducible exact ih0 _ _ _ _ _ _)
      | (with_reducible exact ih1 _ _ _ _ _ _)
      | (with_reducible exact ih2 _ _ _ _ _ _)
      | (with_reducible exact LeO.refl _)
      | (with_reducible exact LeO.none _)
      | (with_reducible refine LeO.ite ?_ ?_)
      | (with_reducible refine LeO.bind ?_ (fun _ => ?_))
      | exact ih0 _ _ _ _ _ _
      | exact ih1 _ _ _ _ _ _
      | exact ih2 _ _ _ _ _ _
      | exact LeO.none _
      | refine LeO.ite ?_ ?_
      | refine LeO.bind ?_ (fun _ => ?_)
    · intro y0 y1 y2 y3 y4 y5
      unfold exactpplref19_sound.l1
      repeat' first
      | (with_reducible exact ih0 _ _ _ _ _ _)
      | (with_reducible exact ih1 _ _ _ _ _ _)
      | (with_reducible exact ih2 _ _ _ _ _ _)
      | (with_reducible exact LeO.refl _)
      | (with_reducible exact LeO.none _)
      | (with_reducible refine LeO.ite ?_ ?_)
      | (with_reducible refine LeO.bind ?_ (fun _ => ?_))
      | exact ih0 _ _ _ _ _ _
      | exact ih1 _ _ _ _ _ _
      | exact ih2 _ _ _ _ _ _
      | exact LeO.none _
      | refine LeO.ite ?_ ?_
      | refine LeO.bind ?_ (fun _ => ?_)
theorem exactpplref19_sound.mono : ∀ a0 a1 k, LeO (exactpplref19_sound.f k a0 a1) (exactpplref19_sound.f (k + 1) a0 a1) := by
  intro a0 a1 k
  obtain ⟨ih0, ih1, ih2⟩ := exactpplref19_sound.mono_l k
  unfold exactpplref19_sound.f
  repeat' first
      | (with_reducible exact ih0 _ _ _ _ _ _)
      | (with_reducible exact ih1 _ _ _ _ _ _)
      | (with_reducible exact ih2 _ _ _ _ _ _)
      | (with_reducible exact LeO.refl _)
      | (with_reducible exact LeO.none _)
      | (with_reducible refine LeO.ite ?_ ?_)
      | (with_reducible refine LeO.bind ?_ (fun _ => ?_))
      | exact ih0 _ _ _ _ _ _
      | exact ih1 _ _ _ _ _ _
      | exact ih2 _ _ _ _ _ _
      | exact LeO.none _
      | refine LeO.ite ?_ ?_
      | refine LeO.bind ?_ (fun _ => ?_)
def exactpplref19_sound.T10 : Bool × List (List Nat × List Nat) := (true, [([], []), ([0], [0]), ([1], [1]), ([2], [2]), ([2], [2]), ([3, 4, 2], [2, 3, 4]), ([2, 5], [2, 5]), ([6, 2], [6]), ([7], [7]), ([7], [7]), ([8, 9, 7], [7, 8, 9]), ([10, 7], [7, 10]), ([11, 7, 7], [7, 11]), ([12, 12, 7], [7, 12]), ([13], [13]), ([13], [13]), ([14, 15, 13], [13, 14, 15]), ([16, 13], [13, 16]), ([17, 13], [13, 17]), ([13], [13]), ([19, 13], [13, 19]), ([18, 20, 13], [13, 18, 20]), ([13, 21, 7], [7, 13, 21]), ([7, 22], [7, 22])])
def exactpplref19_sound.B10 : List Nat := [0, 1, 3, 7, 7, 31, 63, 127, 255, 255, 1023, 2047, 4095, 8191, 16383, 16383, 65535, 131071, 262143, 16383, 540671, 2097151, 4194303, 8388607]
theorem exactpplref19_sound.tab10 : rtab .any (opsOf Tryd.f77 10) = exactpplref19_sound.T10 := by kernel_rfl
theorem exactpplref19_sound.bits10 : waitsOk exactpplref19_sound.T10.2 exactpplref19_sound.B10 = true := by kernel_rfl
def exactpplref19_sound.T15 : Bool × List (List Nat × List Nat) := (true, [([], []), ([], []), ([0, 1], [0, 1]), ([2], [2]), ([3], [3]), ([], []), ([5], [5]), ([4, 6], [4, 6]), ([7], [7]), ([8], [8]), ([8], [8]), ([9, 10, 8], [8, 9, 10]), ([11, 8], [8, 11]), ([12, 8], [8, 12]), ([13, 8], [8, 13]), ([8], [8]), ([15, 8], [8, 15]), ([16, 8], [8, 16]), ([14, 17, 8], [8, 14, 17]), ([8, 18], [8, 18])])
def exactpplref19_sound.B15 : List Nat := [0, 0, 3, 7, 15, 0, 32, 127, 255, 511, 511, 2047, 4095, 8191, 16383, 511, 33279, 98815, 262143, 524287]
theorem exactpplref19_sound.tab15 : rtab .any (opsOf Tryd.f77 15) = exactpplref19_sound.T15 := by kernel_rfl
theorem exactpplref19_sound.bits15 : waitsOk exactpplref19_sound.T15.2 exactpplref19_sound.B15 = true := by kernel_rfl
set_option maxHeartbeats 8000000 in
set_option maxRecDepth 100000 in
theorem exactpplref19_sound.calls (k : Nat) (A0 : Option Addr) (c0 : Nat) (l0 : List (S60)) (a1 : Int) (r : Bool) (w : World) (hr0 : Kd.C k60 w A0 l0.length l0) (hc0 : l0.length ≤ c0) (h : exactpplref19_sound.f k l0 a1 = some r) :
    Calls Tryd.prog 77 #[.slice A0 l0.length c0, .int .i64 a1] w fun e w' => e = .returned (.bool r) ∧ Below w.heap.size w w' := by
  have hu60 := Tryd.underlying60
  have HR0 := Aside0.mk hr0
  have HC0 := Aside0.mk hc0
  clear hr0 hc0
  have HB := Aside0.mk (Below.refl w.heap.size w)
  have H : (if 0 ≤ a1 then (if a1 < (l0.length : Int) then ((exactpplref19_IsBranch.f ((rd_T60 l0 a1).f0) ((rd_T60 l0 a1).f1) ((rd_T60 l0 a1).f2)).bind fun t147 => (if t147 = true then (if ((rd_T60 l0 a1).f0) < 0 then (exactpplref19_sound.j0 k l0 a1 true ((rd_T60 l0 a1).f0) ((rd_T60 l0 a1).f1) ((rd_T60 l0 a1).f2)) else (if ((rd_T60 l0 a1).f0) ≥ 64 then (exactpplref19_sound.j0 k l0 a1 true ((rd_T60 l0 a1).f0) ((rd_T60 l0 a1).f1) ((rd_T60 l0 a1).f2)) else (if ((rd_T60 l0 a1).f1) = 0 then (if (((rd_T60 l0 a1).f2).length : Int) < 1 then (exactpplref19_sound.j0 k l0 a1 true ((rd_T60 l0 a1).f0) ((rd_T60 l0 a1).f1) ((rd_T60 l0 a1).f2)) else (exactpplref19_sound.j0 k l0 a1 (decide ((((rd_T60 l0 a1).f2).length : Int) > 16)) ((rd_T60 l0 a1).f0) ((rd_T60 l0 a1).f1) ((rd_T60 l0 a1).f2))) else (exactpplref19_sound.j0 k l0 a1 true ((rd_T60 l0 a1).f0) ((rd_T60 l0 a1).f1) ((rd_T60 l0 a1).f2))))) else (if (((rd_T60 l0 a1).f2).length : Int) = 0 then (if ((rd_T60 l0 a1).f1) ≥ (-1073741824) then (some (decide (((rd_T60 l0 a1).f1) ≤ 1073741824))) else (some false)) else (some false)))) else (none)) else (none)) = some r := h
  clear h
  by_cases c3 : 0 ≤ a1
  · rw [if_pos c3] at H
    have c3b0 : decide (0 ≤ a1) = true := decide_eq_true c3
    clear c3
    by_cases c4 : a1 < (l0.length : Int)
    · rw [if_pos c4] at H
      have c4b0 : decide (a1 < (l0.length : Int)) = true := decide_eq_true c4
      clear c4
      replace H := Option.bind_eq_some_iff.mp H
      obtain ⟨t147, A50, H⟩ := H
      replace H : (if t147 = true then (if ((rd_T60 l0 a1).f0) < 0 then (exactpplref19_sound.j0 k l0 a1 true ((rd_T60 l0 a1).f0) ((rd_T60 l0 a1).f1) ((rd_T60 l0 a1).f2)) else (if ((rd_T60 l0 a1).f0) ≥ 64 then (exactpplref19_sound.j0 k l0 a1 true ((rd_T60 l0 a1).f0) ((rd_T60 l0 a1).f1) ((rd_T60 l0 a1).f2)) else (if ((rd_T60 l0 a1).f1) = 0 then (if (((rd_T60 l0 a1).f2).length : Int) < 1 then (exactpplref19_sound.j0 k l0 a1 true ((rd_T60 l0 a1).f0) ((rd_T60 l0 a1).f1) ((rd_T60 l0 a1).f2)) else (exactpplref19_sound.j0 k l0 a1 (decide ((((rd_T60 l0 a1).f2).length : Int) > 16)) ((rd_T60 l0 a1).f0) ((rd_T60 l0 a1).f1) ((rd_T60 l0 a1).f2))) else (exactpplref19_sound.j0 k l0 a1 true ((rd_T60 l0 a1).f0) ((rd_T60 l0 a1).f1) ((rd_T60 l0 a1).f2))))) else (if (((rd_T60 l0 a1).f2).length : Int) = 0 then (if ((rd_T60 l0 a1).f1) ≥ (-1073741824) then (some (decide (((rd_T60 l0 a1).f1) ≤ 1073741824))) else (some false)) else (some false))) = some r := H
      have A5 := Aside0.mk A50
      clear A50
      by_cases c6 : t147 = true
      · subst c6
        have H1 : (if ((rd_T60 l0 a1).f0) < 0 then (exactpplref19_sound.j0 k l0 a1 true ((rd_T60 l0 a1).f0) ((rd_T60 l0 a1).f1) ((rd_T60 l0 a1).f2)) else (if ((rd_T60 l0 a1).f0) ≥ 64 then (exactpplref19_sound.j0 k l0 a1 true ((rd_T60 l0 a1).f0) ((rd_T60 l0 a1).f1) ((rd_T60 l0 a1).f2)) else (if ((rd_T60 l0 a1).f1) = 0 then (if (((rd_T60 l0 a1).f2).length : Int) < 1 then (exactpplref19_sound.j0 k l0 a1 true ((rd_T60 l0 a1).f0) ((rd_T60 l0 a1).f1) ((rd_T60 l0 a1).f2)) else (exactpplref19_sound.j0 k l0 a1 (decide ((((rd_T60 l0 a1).f2).length : Int) > 16)) ((rd_T60 l0 a1).f0) ((rd_T60 l0 a1).f1) ((rd_T60 l0 a1).f2))) else (exactpplref19_sound.j0 k l0 a1 true ((rd_T60 l0 a1).f0) ((rd_T60 l0 a1).f1) ((rd_T60 l0 a1).f2))))) = some r := by rw [if_pos rfl] at H; exact H
        clear H
        have H := H1
        clear H1
        have HC7 := Aside0.mk H
        clear H
        have p145 : 0 ≤ (a1 : Int) := of_decide_eq_true (by first | (with_reducible assumption) | assumption)
        have q145 : a1 < (l0.length : Int) := of_decide_eq_true (by first | (with_reducible assumption) | assumption)
        obtain ⟨ad145, A145_2, c145_2, e145, hx145_0, hx145_1, hx145_2, hl145_2, hi145_2⟩ := at_T60 HR0.out a1 p145 q145
        cases e145
        have HR145_2 := Aside0.mk hi145_2
        have HC145_2 := Aside0.mk hl145_2
        clear hi145_2 hl145_2
        replace p145 := eq_true p145
        replace q145 := eq_true q145
        go_enter Tryd.func77, Tryd.ntmps77
        go_upto_region 4 with (first | ((with_reducible refine gate_dst (N := 5) rfl ?_); (try (refine gate_guard (by rfl) ?_; dsimp only)); refine box_event ?hg (N := 5) ?hd (cs := #[.int .i64 0, .int .i64 0, .slice none 0 0]) (t := 60) ?hr ?_; (case hd => rfl); (case hg => rfl); (case hr => first | (go_simp; done) | (go_simp; rfl)); intro gb146 hg w8 hbox hb; have n0_ := Aside0.mk (below_step (by repeat (first | (with_reducible first | exact HB.out | apply below_alloc | apply pw_below_drewN | apply below_drew1) | exact HB.out)) hb); have n1_ := Aside0.mk (hbox); have n2_ := Aside0.mk ((by rw [hg]; exact (below_size (by repeat (first | (with_reducible first | exact HB.out | apply below_alloc | apply pw_below_drewN | apply below_drew1) | exact HB.out))) : w.heap.size ≤ gb146)); have n3_ := Aside0.mk ((by rw [hg]; exact (below_size (by repeat (first | (with_reducible first | exact HB.out | apply below_alloc | apply pw_below_drewN | apply below_drew1) | exact HB.out))) : w.heap.size ≤ gb146)); clear HB; have HB := n0_; have BK146 := n1_; have GW146 := n2_; have GE146 := n3_; clear n0_ n1_ n2_ n3_; clear hb hbox hg; have hcz9_0 : w8.cell? ⟨gb146, 0, none⟩ = some (.int .i64 0) := (blk_cell BK146.out 0).trans rfl; have hcz9_1 : w8.cell? ⟨gb146, 1, none⟩ = some (.int .i64 0) := (blk_cell BK146.out 1).trans rfl; have hcz9_2 : w8.cell? ⟨gb146, 2, none⟩ = some (.slice none 0 0) := (blk_cell BK146.out 2).trans rfl; have hfz9_0 := blk_frozen BK146.out 0; have hfz9_1 := blk_frozen BK146.out 1; have hfz9_2 := blk_frozen BK146.out 2) | ((with_reducible refine gate_callee (f := 55) rfl ?_); refine goesL_ (some 14) rfl rfl Tryd.func55 (by kernel_rfl) rfl #[.agg #[.int .i64 ((rd_T60 l0 a1).f0), .int .i64 ((rd_T60 l0 a1).f1), .slice A145_2 ((rd_T60 l0 a1).f2).length c145_2]] rfl (by (try simp only [List.map_toArray, List.map_cons, List.map_nil]); first | done | rfl | (simp only [List.length_drop, List.length_take]; rfl)) ?_; (with_reducible refine (exactpplref19_IsBranch.calls ((rd_T60 l0 a1).f0) ((rd_T60 l0 a1).f1) _ _ ((rd_T60 l0 a1).f2) true _ ?side1 ?side2 A5.out).mono ?_); (case side1 => exact Kd.C_below HR145_2.out (by repeat (first | (with_reducible first | exact HB.out | apply below_alloc | apply pw_below_drewN | apply below_drew1 | refine below_set ?_ GE146.out) | exact HB.out))); (case side2 => exact HC145_2.out); rintro e w10 ⟨rfl, hb⟩; refine ⟨_, rfl, ?_⟩; have n0_ := Aside0.mk (blk_below (g := gb146) (o := .cells #[.int .i64 ((rd_T60 l0 a1).f0), .int .i64 ((rd_T60 l0 a1).f1), .slice A145_2 ((rd_T60 l0 a1).f2).length c145_2] 60 (0, 0)) (by (with_reducible repeat (first | refine blk_drewN ?_ _ | refine blk_drew ?_ | refine blk_alloc ?_ _)); refine blk_put (cs := #[.int .i64 ((rd_T60 l0 a1).f0), .int .i64 ((rd_T60 l0 a1).f1), .slice none 0 0]) ?_ 2 _ rfl; (with_reducible repeat (first | refine blk_drewN ?_ _ | refine blk_drew ?_ | refine blk_alloc ?_ _)); refine blk_put (cs := #[.int .i64 ((rd_T60 l0 a1).f0), .int .i64 0, .slice none 0 0]) ?_ 1 _ rfl; (with_reducible repeat (first | refine blk_drewN ?_ _ | refine blk_drew ?_ | refine blk_alloc ?_ _)); refine blk_put (cs := #[.int .i64 0, .int .i64 0, .slice none 0 0]) ?_ 0 _ rfl; (with_reducible repeat (first | refine blk_drewN ?_ _ | refine blk_drew ?_ | refine blk_alloc ?_ _)); exact BK146.out) hb); have n1_ := Aside0.mk (below_step (by repeat (first | (with_reducible first | exact HB.out | apply below_alloc | apply pw_below_drewN | apply below_drew1 | refine below_set ?_ GE146.out) | exact HB.out)) hb); clear BK146; clear HB; have BK146 := n0_; have HB := n1_; clear n0_ n1_; (try clear hb); (try clear hb2); (try clear hk); (try clear hi)))
        (try simp only [Act.put, List.setIfInBounds_toArray, List.set_cons_zero, List.set_cons_succ])
        go_cut [54] (fun v54 wc => ∃ (kq : Nat) (x54_6 : Bool), v54 = .bool x54_6 ∧ Aside0 (exactpplref19_sound.j0 kq l0 a1 x54_6 ((rd_T60 l0 a1).f0) ((rd_T60 l0 a1).f1) ((rd_T60 l0 a1).f2) = some r) ∧ Aside0 (kq ≤ k) ∧ Aside0 (wc.heap[gb146]? = some (.cells #[.int .i64 ((rd_T60 l0 a1).f0), .int .i64 ((rd_T60 l0 a1).f1), (.slice A145_2 ((rd_T60 l0 a1).f2).length c145_2)] 60 (0, 0))) ∧ Aside0 (Below w.heap.size w wc))
        case first =>
          have H := HC7.out
          clear HC7
          by_cases c11 : ((rd_T60 l0 a1).f0) < 0
          · rw [if_pos c11] at H
            have c11b0 : decide (((rd_T60 l0 a1).f0) < 0) = true := decide_eq_true c11
            clear c11
            (first | rw [c11b0] | (simp only [i64_w, i32_w]; rw [c11b0]) | skip)
            have H' := Aside0.mk H
            clear H
            have hcz12_0 : w10.cell? ⟨gb146, 0, none⟩ = some (.int .i64 ((rd_T60 l0 a1).f0)) := (blk_cell BK146.out 0).trans rfl
            have hcz12_1 : w10.cell? ⟨gb146, 1, none⟩ = some (.int .i64 ((rd_T60 l0 a1).f1)) := (blk_cell BK146.out 1).trans rfl
            have hcz12_2 : w10.cell? ⟨gb146, 2, none⟩ = some (.slice A145_2 ((rd_T60 l0 a1).f2).length c145_2) := (blk_cell BK146.out 2).trans rfl
            have hfz12_0 := blk_frozen BK146.out 0
            have hfz12_1 := blk_frozen BK146.out 1
            have hfz12_2 := blk_frozen BK146.out 2
            go_wp2
            go_meet
            case rel => exact ⟨_, (true), (by first | rfl | (simp; done) | (simp [*]; done)), H', ⟨by first | omega | exact Nat.le_refl _⟩, ⟨by (with_reducible repeat (first | refine blk_drewN ?_ _ | refine blk_drew ?_ | refine blk_alloc ?_ _)); exact BK146.out⟩, ⟨by repeat (first | (with_reducible first | exact HB.out | apply below_alloc | apply pw_below_drewN | apply below_drew1 | refine below_set ?_ GE146.out) | exact HB.out)⟩⟩
          · rw [if_neg c11] at H
            have c11b0 : decide (((rd_T60 l0 a1).f0) < 0) = false := decide_eq_false c11
            clear c11
            (first | rw [c11b0] | (simp only [i64_w, i32_w]; rw [c11b0]) | skip)
            by_cases c13 : ((rd_T60 l0 a1).f0) ≥ 64
            · rw [if_pos c13] at H
              have c13b0 : decide (64 ≤ ((rd_T60 l0 a1).f0)) = true := decide_eq_true c13
              clear c13
              have H' := Aside0.mk H
              clear H
              have hcz14_0 : w10.cell? ⟨gb146, 0, none⟩ = some (.int .i64 ((rd_T60 l0 a1).f0)) := (blk_cell BK146.out 0).trans rfl
              have hcz14_1 : w10.cell? ⟨gb146, 1, none⟩ = some (.int .i64 ((rd_T60 l0 a1).f1)) := (blk_cell BK146.out 1).trans rfl
              have hcz14_2 : w10.cell? ⟨gb146, 2, none⟩ = some (.slice A145_2 ((rd_T60 l0 a1).f2).length c145_2) := (blk_cell BK146.out 2).trans rfl
              have hfz14_0 := blk_frozen BK146.out 0
              have hfz14_1 := blk_frozen BK146.out 1
              have hfz14_2 := blk_frozen BK146.out 2
              go_wp2
              go_meet
              case rel => exact ⟨_, (true), (by first | rfl | (simp; done) | (simp [*]; done)), H', ⟨by first | omega | exact Nat.le_refl _⟩, ⟨by (with_reducible repeat (first | refine blk_drewN ?_ _ | refine blk_drew ?_ | refine blk_alloc ?_ _)); exact BK146.out⟩, ⟨by repeat (first | (with_reducible first | exact HB.out | apply below_alloc | apply pw_below_drewN | apply below_drew1 | refine below_set ?_ GE146.out) | exact HB.out)⟩⟩
            · rw [if_neg c13] at H
              have c13b0 : decide (64 ≤ ((rd_T60 l0 a1).f0)) = false := decide_eq_false c13
              clear c13
              by_cases c15 : ((rd_T60 l0 a1).f1) = 0
              · rw [if_pos c15] at H
                have c15b0 : (((rd_T60 l0 a1).f1) == 0) = true := beq_iff_eq.mpr c15
                have c15b1 : (((rd_T60 l0 a1).f1) != 0) = false := bne_eq_false_iff_eq.mpr c15
                clear c15
                by_cases c16 : (((rd_T60 l0 a1).f2).length : Int) < 1
                · rw [if_pos c16] at H
                  have c16b0 : decide ((((rd_T60 l0 a1).f2).length : Int) < 1) = true := decide_eq_true c16
                  have c16b1 : decide (((rd_T60 l0 a1).f2).length < 1) = true := decide_eq_true (by omega)
                  clear c16
                  have H' := Aside0.mk H
                  clear H
                  have hcz17_0 : w10.cell? ⟨gb146, 0, none⟩ = some (.int .i64 ((rd_T60 l0 a1).f0)) := (blk_cell BK146.out 0).trans rfl
                  have hcz17_1 : w10.cell? ⟨gb146, 1, none⟩ = some (.int .i64 ((rd_T60 l0 a1).f1)) := (blk_cell BK146.out 1).trans rfl
                  have hcz17_2 : w10.cell? ⟨gb146, 2, none⟩ = some (.slice A145_2 ((rd_T60 l0 a1).f2).length c145_2) := (blk_cell BK146.out 2).trans rfl
                  have hfz17_0 := blk_frozen BK146.out 0
                  have hfz17_1 := blk_frozen BK146.out 1
                  have hfz17_2 := blk_frozen BK146.out 2
                  go_wp2
                  go_meet
                  case rel => exact ⟨_, (true), (by first | rfl | (simp; done) | (simp [*]; done)), H', ⟨by first | omega | exact Nat.le_refl _⟩, ⟨by (with_reducible repeat (first | refine blk_drewN ?_ _ | refine blk_drew ?_ | refine blk_alloc ?_ _)); exact BK146.out⟩, ⟨by repeat (first | (with_reducible first | exact HB.out | apply below_alloc | apply pw_below_drewN | apply below_drew1 | refine below_set ?_ GE146.out) | exact HB.out)⟩⟩
                · rw [if_neg c16] at H
                  have c16b0 : decide ((((rd_T60 l0 a1).f2).length : Int) < 1) = false := decide_eq_false c16
                  have c16b1 : decide (((rd_T60 l0 a1).f2).length < 1) = false := decide_eq_false (by omega)
                  clear c16
                  have H' := Aside0.mk H
                  clear H
                  have hcz18_0 : w10.cell? ⟨gb146, 0, none⟩ = some (.int .i64 ((rd_T60 l0 a1).f0)) := (blk_cell BK146.out 0).trans rfl
                  have hcz18_1 : w10.cell? ⟨gb146, 1, none⟩ = some (.int .i64 ((rd_T60 l0 a1).f1)) := (blk_cell BK146.out 1).trans rfl
                  have hcz18_2 : w10.cell? ⟨gb146, 2, none⟩ = some (.slice A145_2 ((rd_T60 l0 a1).f2).length c145_2) := (blk_cell BK146.out 2).trans rfl
                  have hfz18_0 := blk_frozen BK146.out 0
                  have hfz18_1 := blk_frozen BK146.out 1
                  have hfz18_2 := blk_frozen BK146.out 2
                  go_wp2
                  go_meet
                  case rel => exact ⟨_, (decide ((((rd_T60 l0 a1).f2).length : Int) > 16)), (by first | rfl | (simp; done) | (simp [*]; done)), H', ⟨by first | omega | exact Nat.le_refl _⟩, ⟨by (with_reducible repeat (first | refine blk_drewN ?_ _ | refine blk_drew ?_ | refine blk_alloc ?_ _)); exact BK146.out⟩, ⟨by repeat (first | (with_reducible first | exact HB.out | apply below_alloc | apply pw_below_drewN | apply below_drew1 | refine below_set ?_ GE146.out) | exact HB.out)⟩⟩
              · rw [if_neg c15] at H
                have c15b0 : (((rd_T60 l0 a1).f1) == 0) = false := beq_eq_false_iff_ne.mpr c15
                have c15b1 : (((rd_T60 l0 a1).f1) != 0) = true := bne_iff_ne.mpr c15
                have H' := Aside0.mk H
                clear H
                have hcz19_0 : w10.cell? ⟨gb146, 0, none⟩ = some (.int .i64 ((rd_T60 l0 a1).f0)) := (blk_cell BK146.out 0).trans rfl
                have hcz19_1 : w10.cell? ⟨gb146, 1, none⟩ = some (.int .i64 ((rd_T60 l0 a1).f1)) := (blk_cell BK146.out 1).trans rfl
                have hcz19_2 : w10.cell? ⟨gb146, 2, none⟩ = some (.slice A145_2 ((rd_T60 l0 a1).f2).length c145_2) := (blk_cell BK146.out 2).trans rfl
                have hfz19_0 := blk_frozen BK146.out 0
                have hfz19_1 := blk_frozen BK146.out 1
                have hfz19_2 := blk_frozen BK146.out 2
                go_wp2
                go_meet
                case rel => exact ⟨_, (true), (by first | rfl | (simp; done) | (simp [*]; done)), H', ⟨by first | omega | exact Nat.le_refl _⟩, ⟨by (with_reducible repeat (first | refine blk_drewN ?_ _ | refine blk_drew ?_ | refine blk_alloc ?_ _)); exact BK146.out⟩, ⟨by repeat (first | (with_reducible first | exact HB.out | apply below_alloc | apply pw_below_drewN | apply below_drew1 | refine below_set ?_ GE146.out) | exact HB.out)⟩⟩
        case rest =>
          clear HC7
          try clear c1
          try clear p1
          try clear q1
          try clear hx1
          try clear p2
          try clear c3
          try clear c3b0
          try clear c4
          try clear c4b0
          try clear c5
          try clear c6
          try clear c7
          try clear c11
          try clear c11b0
          try clear c13
          try clear c13b0
          try clear c14
          try clear p14
          try clear q14
          try clear hx14
          try clear c15
          try clear c15b0
          try clear c15b1
          try clear c16
          try clear c16b0
          try clear c16b1
          try clear hcz12_0
          try clear hcz12_1
          try clear hcz12_2
          try clear hcz14_0
          try clear hcz14_1
          try clear hcz14_2
          try clear hcz17_0
          try clear hcz17_1
          try clear hcz17_2
          try clear hcz18_0
          try clear hcz18_1
          try clear hcz18_2
          try clear hcz19_0
          try clear hcz19_1
          try clear hcz19_2
          try clear hcz9_0
          try clear hcz9_1
          try clear hcz9_2
          try clear hfz12_0
          try clear hfz12_1
          try clear hfz12_2
          try clear hfz14_0
          try clear hfz14_1
          try clear hfz14_2
          try clear hfz17_0
          try clear hfz17_1
          try clear hfz17_2
          try clear hfz18_0
          try clear hfz18_1
          try clear hfz18_2
          try clear hfz19_0
          try clear hfz19_1
          try clear hfz19_2
          try clear hfz9_0
          try clear hfz9_1
          try clear hfz9_2
          try clear hx145_0
          try clear hx145_1
          try clear hx145_2
          try clear p145
          try clear q145
          obtain ⟨kq, x54_6, rfl, HA, HJ6, BK146, HB⟩ := hcut
          cases kq with
          | zero => exact absurd HA.out (by simp [exactpplref19_sound.j0])
          | succ kj6 =>
            have H := HA.out
            clear HA
            simp only [exactpplref19_sound.j0] at H
            by_cases c20 : x54_6 = true
            · subst c20
              have H1 : (some false) = some r := by rw [if_pos rfl] at H; exact H
              clear H
              have H := H1
              clear H1
              obtain rfl := Option.some.inj H
              go_wp2
              go_ret
              exact ⟨by first | rfl | (simp [errW_none, errW_some] <;> rfl) | (simp [*, errW_none, errW_some] <;> rfl), by repeat (first | (with_reducible first | exact HB.out | apply below_alloc | apply pw_below_drewN | apply below_drew1 | refine below_set ?_ GE146.out) | exact HB.out)⟩
            · replace c20 := Bool.eq_false_iff.mpr c20
              subst c20
              have H1 : (exactpplref19_sound.l0 kj6 l0 a1 0 ((rd_T60 l0 a1).f0) ((rd_T60 l0 a1).f1) ((rd_T60 l0 a1).f2)) = some r := by rw [if_neg (show ¬ (false = true) by decide)] at H; exact H
              clear H
              have H := H1
              clear H1
              have H' := Aside0.mk H
              clear H
              go_wp2
              go_loopg [6] kj6 (fun kq v6 w' => ∃ (x6_2 : Int), v6 = .int .i64 x6_2 ∧ Aside0 (exactpplref19_sound.l0 kq l0 a1 x6_2 ((rd_T60 l0 a1).f0) ((rd_T60 l0 a1).f1) ((rd_T60 l0 a1).f2) = some r) ∧ Aside0 (kq ≤ kj6) ∧ Aside0 (w'.heap[gb146]? = some (.cells #[.int .i64 ((rd_T60 l0 a1).f0), .int .i64 ((rd_T60 l0 a1).f1), (.slice A145_2 ((rd_T60 l0 a1).f2).length c145_2)] 60 (0, 0))) ∧ Aside0 (Below w.heap.size w w'))
              case atStart => exact ⟨(0), (by first | rfl | (simp; done) | (simp [*]; done)), H', ⟨Nat.le_refl _⟩, ⟨by (with_reducible repeat (first | refine blk_drewN ?_ _ | refine blk_drew ?_ | refine blk_alloc ?_ _)); exact BK146.out⟩, ⟨by repeat (first | (with_reducible first | exact HB.out | apply below_alloc | apply pw_below_drewN | apply below_drew1 | refine below_set ?_ GE146.out) | exact HB.out)⟩⟩
              case round =>
                clear H'
                try clear c1
                try clear p1
                try clear q1
                try clear hx1
                try clear c2
                try clear p2
                try clear c3
                try clear c3b0
                try clear c4
                try clear c4b0
                try clear c5
                try clear c6
                try clear c7
                try clear c11
                try clear c11b0
                try clear c13
                try clear c13b0
                try clear c14
                try clear p14
                try clear q14
                try clear hx14
                try clear c15
                try clear c15b0
                try clear c15b1
                try clear c16
                try clear c16b0
                try clear c16b1
                try clear c20
                try clear hcz12_0
                try clear hcz12_1
                try clear hcz12_2
                try clear hcz14_0
                try clear hcz14_1
                try clear hcz14_2
                try clear hcz17_0
                try clear hcz17_1
                try clear hcz17_2
                try clear hcz18_0
                try clear hcz18_1
                try clear hcz18_2
                try clear hcz19_0
                try clear hcz19_1
                try clear hcz19_2
                try clear hcz9_0
                try clear hcz9_1
                try clear hcz9_2
                try clear hfz12_0
                try clear hfz12_1
                try clear hfz12_2
                try clear hfz14_0
                try clear hfz14_1
                try clear hfz14_2
                try clear hfz17_0
                try clear hfz17_1
                try clear hfz17_2
                try clear hfz18_0
                try clear hfz18_1
                try clear hfz18_2
                try clear hfz19_0
                try clear hfz19_1
                try clear hfz19_2
                try clear hfz9_0
                try clear hfz9_1
                try clear hfz9_2
                try clear hx145_0
                try clear hx145_1
                try clear hx145_2
                try clear p1
                try clear p14
                try clear p145
                try clear p2
                try clear q1
                try clear q14
                try clear q145
                obtain ⟨x6_2, rfl, HA, HK2, BK146, HB⟩ := hrel
                cases gk with
                | zero => exact absurd HA.out (by simp [exactpplref19_sound.l0])
                | succ k2 =>
                  have H := HA.out
                  clear HA
                  simp only [exactpplref19_sound.l0] at H
                  by_cases c21 : x6_2 < (((rd_T60 l0 a1).f2).length : Int)
                  · rw [if_pos c21] at H
                    have c21b0 : decide (x6_2 < (((rd_T60 l0 a1).f2).length : Int)) = true := decide_eq_true c21
                    clear c21
                    by_cases c22 : 0 ≤ x6_2
                    · rw [if_pos c22] at H
                      have c22b0 : decide (0 ≤ x6_2) = true := decide_eq_true c22
                      clear c22
                      by_cases c23 : (rd ((rd_T60 l0 a1).f2) x6_2) < 0
                      · rw [if_pos c23] at H
                        have c23b0 : decide ((rd ((rd_T60 l0 a1).f2) x6_2) < 0) = true := decide_eq_true c23
                        clear c23
                        obtain rfl := Option.some.inj H
                        have hcz24_0 : wr.cell? ⟨gb146, 0, none⟩ = some (.int .i64 ((rd_T60 l0 a1).f0)) := (blk_cell BK146.out 0).trans rfl
                        have hcz24_1 : wr.cell? ⟨gb146, 1, none⟩ = some (.int .i64 ((rd_T60 l0 a1).f1)) := (blk_cell BK146.out 1).trans rfl
                        have hcz24_2 : wr.cell? ⟨gb146, 2, none⟩ = some (.slice A145_2 ((rd_T60 l0 a1).f2).length c145_2) := (blk_cell BK146.out 2).trans rfl
                        have hfz24_0 := blk_frozen BK146.out 0
                        have hfz24_1 := blk_frozen BK146.out 1
                        have hfz24_2 := blk_frozen BK146.out 2
                        have p148 : 0 ≤ (x6_2 : Int) := of_decide_eq_true (by first | (with_reducible assumption) | assumption)
                        have q148 : x6_2 < (((rd_T60 l0 a1).f2).length : Int) := of_decide_eq_true (by first | (with_reducible assumption) | assumption)
                        obtain ⟨ad148, e148, hx148_0⟩ := Kd.at_int HR145_2.out x6_2 p148 q148
                        cases e148
                        replace hx148_0 := (HB.out.cell (World.block_lt_of_cell? w _ hx148_0)).trans hx148_0
                        replace p148 := eq_true p148
                        replace q148 := eq_true q148
                        try go_wp2
                        have n0_ := Aside0.mk (blk_drew BK146.out)
                        have n1_ := Aside0.mk (below_drew1 HB.out)
                        clear BK146
                        clear HB
                        have BK146 := n0_
                        have HB := n1_
                        clear n0_ n1_
                        refine start_ (n := 24) (S := fun w' => True) (ds := []) #[false, false, false, false, false, false, false, false, false, false, false, false, false, false, false, false, false, false, false, false, false, false, false, false] (by kernel_rfl) rfl rfl trivial (fun hHeld => ?_); refine with_tabW exactpplref19_sound.tab10 exactpplref19_sound.bits10 (fun HT_ HW_ => ?_)
                        generalize wr.drew = w25 at BK146 HB hHeld ⊢
                        refine pure_ (i := 0) (N := some 67) (v := ?_) (a' := ?_) #[true, false, false, false, false, false, false, false, false, false, false, false, false, false, false, false, false, false, false, false, false, false, false, false] rfl rfl (any_of HT_.out (by kernel_rfl)) (fun _ _ _ h => h) (Or.inl ⟨by rfl, ?_⟩) ?_ ?_
                        rotate_left
                        · intro w'
                          go_simp
                          with_reducible rfl
                        rotate_left
                        · simp only [Act.put, List.setIfInBounds_toArray, List.set_cons_zero, List.set_cons_succ, i64_w, i32_w]
                          rfl
                        refine pure_ (i := 1) (N := some 68) (v := ?_) (a' := ?_) #[true, true, false, false, false, false, false, false, false, false, false, false, false, false, false, false, false, false, false, false, false, false, false, false] rfl rfl (any_of HT_.out (by kernel_rfl)) (fun _ _ _ h => h) (Or.inl ⟨by rfl, ?_⟩) ?_ ?_
                        rotate_left
                        · intro w'
                          go_simp
                          with_reducible rfl
                        rotate_left
                        · simp only [Act.put, List.setIfInBounds_toArray, List.set_cons_zero, List.set_cons_succ, i64_w, i32_w]
                          rfl
                        refine pure_ (i := 2) (N := some 69) (v := ?_) (a' := ?_) #[true, true, true, false, false, false, false, false, false, false, false, false, false, false, false, false, false, false, false, false, false, false, false, false] rfl rfl (any_of HT_.out (by kernel_rfl)) (fun _ _ _ h => h) (Or.inl ⟨by rfl, ?_⟩) ?_ ?_
                        rotate_left
                        · intro w'
                          go_simp
                          with_reducible rfl
                        rotate_left
                        · simp only [Act.put, List.setIfInBounds_toArray, List.set_cons_zero, List.set_cons_succ, i64_w, i32_w]
                          rfl
                        refine pure_ (i := 3) (N := some 70) (v := undef) (a' := ?_) #[true, true, true, true, false, false, false, false, false, false, false, false, false, false, false, false, false, false, false, false, false, false, false, false] rfl rfl (any_of HT_.out (by kernel_rfl)) (fun _ _ _ h => h) (Or.inr ⟨by rfl, rfl⟩) ?_ ?_
                        rotate_left
                        · simp only [Act.put, List.setIfInBounds_toArray, List.set_cons_zero, List.set_cons_succ, i64_w, i32_w]
                          rfl
                        refine pure_ (i := 4) (N := some 71) (v := undef) (a' := ?_) #[true, true, true, true, true, false, false, false, false, false, false, false, false, false, false, false, false, false, false, false, false, false, false, false] rfl rfl (any_of HT_.out (by kernel_rfl)) (fun _ _ _ h => h) (Or.inr ⟨by rfl, rfl⟩) ?_ ?_
                        rotate_left
                        · simp only [Act.put, List.setIfInBounds_toArray, List.set_cons_zero, List.set_cons_succ, i64_w, i32_w]
                          rfl
                        refine pure_ (i := 5) (N := some 72) (v := undef) (a' := ?_) #[true, true, true, true, true, true, false, false, false, false, false, false, false, false, false, false, false, false, false, false, false, false, false, false] rfl rfl (any_of HT_.out (by kernel_rfl)) (fun _ _ _ h => h) (Or.inr ⟨by rfl, rfl⟩) ?_ ?_
                        rotate_left
                        · simp only [Act.put, List.setIfInBounds_toArray, List.set_cons_zero, List.set_cons_succ, i64_w, i32_w]
                          rfl
                        refine pure_ (i := 6) (N := some 73) (v := ?_) (a' := ?_) #[true, true, true, true, true, true, true, false, false, false, false, false, false, false, false, false, false, false, false, false, false, false, false, false] rfl rfl (any_of HT_.out (by kernel_rfl)) (fun _ _ _ h => h) (Or.inl ⟨by rfl, ?_⟩) ?_ ?_
                        rotate_left
                        · intro w'
                          go_simp
                          with_reducible rfl
                        rotate_left
                        · simp only [Act.put, List.setIfInBounds_toArray, List.set_cons_zero, List.set_cons_succ, i64_w, i32_w]
                          rfl
                        refine pure_ (i := 7) (N := some 74) (v := ?_) (a' := ?_) #[true, true, true, true, true, true, true, true, false, false, false, false, false, false, false, false, false, false, false, false, false, false, false, false] rfl rfl (any_of HT_.out (by kernel_rfl)) (fun _ _ _ h => h) (Or.inl ⟨by rfl, ?_⟩) ?_ ?_
                        rotate_left
                        · intro w'
                          go_simp
                          with_reducible rfl
                        rotate_left
                        · simp only [Act.put, List.setIfInBounds_toArray, List.set_cons_zero, List.set_cons_succ, i64_w, i32_w]
                          rfl
                        refine pure_ (i := 8) (N := some 75) (v := undef) (a' := ?_) #[true, true, true, true, true, true, true, true, true, false, false, false, false, false, false, false, false, false, false, false, false, false, false, false] rfl rfl (any_of HT_.out (by kernel_rfl)) (fun _ _ _ h => h) (Or.inr ⟨by rfl, rfl⟩) ?_ ?_
                        rotate_left
                        · simp only [Act.put, List.setIfInBounds_toArray, List.set_cons_zero, List.set_cons_succ, i64_w, i32_w]
                          rfl
                        refine pure_ (i := 9) (N := some 76) (v := undef) (a' := ?_) #[true, true, true, true, true, true, true, true, true, true, false, false, false, false, false, false, false, false, false, false, false, false, false, false] rfl rfl (any_of HT_.out (by kernel_rfl)) (fun _ _ _ h => h) (Or.inr ⟨by rfl, rfl⟩) ?_ ?_
                        rotate_left
                        · simp only [Act.put, List.setIfInBounds_toArray, List.set_cons_zero, List.set_cons_succ, i64_w, i32_w]
                          rfl
                        refine pure_ (i := 10) (N := some 77) (v := undef) (a' := ?_) #[true, true, true, true, true, true, true, true, true, true, true, false, false, false, false, false, false, false, false, false, false, false, false, false] rfl rfl (any_of HT_.out (by kernel_rfl)) (fun _ _ _ h => h) (Or.inr ⟨by rfl, rfl⟩) ?_ ?_
                        rotate_left
                        · simp only [Act.put, List.setIfInBounds_toArray, List.set_cons_zero, List.set_cons_succ, i64_w, i32_w]
                          rfl
                        refine pure_ (i := 11) (N := some 78) (v := undef) (a' := ?_) #[true, true, true, true, true, true, true, true, true, true, true, true, false, false, false, false, false, false, false, false, false, false, false, false] rfl rfl (any_of HT_.out (by kernel_rfl)) (fun _ _ _ h => h) (Or.inr ⟨by rfl, rfl⟩) ?_ ?_
                        rotate_left
                        · simp only [Act.put, List.setIfInBounds_toArray, List.set_cons_zero, List.set_cons_succ, i64_w, i32_w]
                          rfl
                        refine pure_ (i := 12) (N := some 79) (v := undef) (a' := ?_) #[true, true, true, true, true, true, true, true, true, true, true, true, true, false, false, false, false, false, false, false, false, false, false, false] rfl rfl (any_of HT_.out (by kernel_rfl)) (fun _ _ _ h => h) (Or.inr ⟨by rfl, rfl⟩) ?_ ?_
                        rotate_left
                        · simp only [Act.put, List.setIfInBounds_toArray, List.set_cons_zero, List.set_cons_succ, i64_w, i32_w]
                          rfl
                        refine pure_ (i := 13) (N := some 80) (v := undef) (a' := ?_) #[true, true, true, true, true, true, true, true, true, true, true, true, true, true, false, false, false, false, false, false, false, false, false, false] rfl rfl (any_of HT_.out (by kernel_rfl)) (fun _ _ _ h => h) (Or.inr ⟨by rfl, rfl⟩) ?_ ?_
                        rotate_left
                        · simp only [Act.put, List.setIfInBounds_toArray, List.set_cons_zero, List.set_cons_succ, i64_w, i32_w]
                          rfl
                        refine pure_ (i := 14) (N := some 81) (v := undef) (a' := ?_) #[true, true, true, true, true, true, true, true, true, true, true, true, true, true, true, false, false, false, false, false, false, false, false, false] rfl rfl (any_of HT_.out (by kernel_rfl)) (fun _ _ _ h => h) (Or.inr ⟨by rfl, rfl⟩) ?_ ?_
                        rotate_left
                        · simp only [Act.put, List.setIfInBounds_toArray, List.set_cons_zero, List.set_cons_succ, i64_w, i32_w]
                          rfl
                        refine pure_ (i := 15) (N := some 82) (v := undef) (a' := ?_) #[true, true, true, true, true, true, true, true, true, true, true, true, true, true, true, true, false, false, false, false, false, false, false, false] rfl rfl (any_of HT_.out (by kernel_rfl)) (fun _ _ _ h => h) (Or.inr ⟨by rfl, rfl⟩) ?_ ?_
                        rotate_left
                        · simp only [Act.put, List.setIfInBounds_toArray, List.set_cons_zero, List.set_cons_succ, i64_w, i32_w]
                          rfl
                        refine pure_ (i := 16) (N := some 83) (v := undef) (a' := ?_) #[true, true, true, true, true, true, true, true, true, true, true, true, true, true, true, true, true, false, false, false, false, false, false, false] rfl rfl (any_of HT_.out (by kernel_rfl)) (fun _ _ _ h => h) (Or.inr ⟨by rfl, rfl⟩) ?_ ?_
                        rotate_left
                        · simp only [Act.put, List.setIfInBounds_toArray, List.set_cons_zero, List.set_cons_succ, i64_w, i32_w]
                          rfl
                        refine pure_ (i := 17) (N := some 84) (v := undef) (a' := ?_) #[true, true, true, true, true, true, true, true, true, true, true, true, true, true, true, true, true, true, false, false, false, false, false, false] rfl rfl (any_of HT_.out (by kernel_rfl)) (fun _ _ _ h => h) (Or.inr ⟨by rfl, rfl⟩) ?_ ?_
                        rotate_left
                        · simp only [Act.put, List.setIfInBounds_toArray, List.set_cons_zero, List.set_cons_succ, i64_w, i32_w]
                          rfl
                        refine pure_ (i := 18) (N := some 85) (v := undef) (a' := ?_) #[true, true, true, true, true, true, true, true, true, true, true, true, true, true, true, true, true, true, true, false, false, false, false, false] rfl rfl (any_of HT_.out (by kernel_rfl)) (fun _ _ _ h => h) (Or.inr ⟨by rfl, rfl⟩) ?_ ?_
                        rotate_left
                        · simp only [Act.put, List.setIfInBounds_toArray, List.set_cons_zero, List.set_cons_succ, i64_w, i32_w]
                          rfl
                        refine pure_ (i := 19) (N := some 86) (v := undef) (a' := ?_) #[true, true, true, true, true, true, true, true, true, true, true, true, true, true, true, true, true, true, true, true, false, false, false, false] rfl rfl (any_of HT_.out (by kernel_rfl)) (fun _ _ _ h => h) (Or.inr ⟨by rfl, rfl⟩) ?_ ?_
                        rotate_left
                        · simp only [Act.put, List.setIfInBounds_toArray, List.set_cons_zero, List.set_cons_succ, i64_w, i32_w]
                          rfl
                        refine pure_ (i := 20) (N := some 87) (v := undef) (a' := ?_) #[true, true, true, true, true, true, true, true, true, true, true, true, true, true, true, true, true, true, true, true, true, false, false, false] rfl rfl (any_of HT_.out (by kernel_rfl)) (fun _ _ _ h => h) (Or.inr ⟨by rfl, rfl⟩) ?_ ?_
                        rotate_left
                        · simp only [Act.put, List.setIfInBounds_toArray, List.set_cons_zero, List.set_cons_succ, i64_w, i32_w]
                          rfl
                        refine pure_ (i := 21) (N := some 88) (v := undef) (a' := ?_) #[true, true, true, true, true, true, true, true, true, true, true, true, true, true, true, true, true, true, true, true, true, true, false, false] rfl rfl (any_of HT_.out (by kernel_rfl)) (fun _ _ _ h => h) (Or.inr ⟨by rfl, rfl⟩) ?_ ?_
                        rotate_left
                        · simp only [Act.put, List.setIfInBounds_toArray, List.set_cons_zero, List.set_cons_succ, i64_w, i32_w]
                          rfl
                        refine pure_ (i := 22) (N := some 89) (v := undef) (a' := ?_) #[true, true, true, true, true, true, true, true, true, true, true, true, true, true, true, true, true, true, true, true, true, true, true, false] rfl rfl (any_of HT_.out (by kernel_rfl)) (fun _ _ _ h => h) (Or.inr ⟨by rfl, rfl⟩) ?_ ?_
                        rotate_left
                        · simp only [Act.put, List.setIfInBounds_toArray, List.set_cons_zero, List.set_cons_succ, i64_w, i32_w]
                          rfl
                        refine pure_ (i := 23) (N := some 90) (v := ?_) (a' := ?_) #[true, true, true, true, true, true, true, true, true, true, true, true, true, true, true, true, true, true, true, true, true, true, true, true] rfl rfl (any_of HT_.out (by kernel_rfl)) (fun _ _ _ h => h) (Or.inl ⟨by rfl, ?_⟩) ?_ ?_
                        rotate_left
                        · intro w'
                          go_simp
                          with_reducible rfl
                        rotate_left
                        · simp only [Act.put, List.setIfInBounds_toArray, List.set_cons_zero, List.set_cons_succ, i64_w, i32_w]
                          rfl
                        refine done_ (done_of HT_.out (by kernel_rfl)) ?_
                        try go_wp2
                        go_ret
                        exact ⟨by first | rfl | (simp [errW_none, errW_some] <;> rfl) | (simp [*, errW_none, errW_some] <;> rfl), by repeat (first | (with_reducible first | exact HB.out | apply below_alloc | apply pw_below_drewN | apply below_drew1 | refine below_set ?_ GE146.out) | exact HB.out)⟩
                      · rw [if_neg c23] at H
                        have c23b0 : decide ((rd ((rd_T60 l0 a1).f2) x6_2) < 0) = false := decide_eq_false c23
                        clear c23
                        by_cases c26 : (rd ((rd_T60 l0 a1).f2) x6_2) ≥ a1
                        · rw [if_pos c26] at H
                          have c26b0 : decide (a1 ≤ (rd ((rd_T60 l0 a1).f2) x6_2)) = true := decide_eq_true c26
                          clear c26
                          obtain rfl := Option.some.inj H
                          have hcz27_0 : wr.cell? ⟨gb146, 0, none⟩ = some (.int .i64 ((rd_T60 l0 a1).f0)) := (blk_cell BK146.out 0).trans rfl
                          have hcz27_1 : wr.cell? ⟨gb146, 1, none⟩ = some (.int .i64 ((rd_T60 l0 a1).f1)) := (blk_cell BK146.out 1).trans rfl
                          have hcz27_2 : wr.cell? ⟨gb146, 2, none⟩ = some (.slice A145_2 ((rd_T60 l0 a1).f2).length c145_2) := (blk_cell BK146.out 2).trans rfl
                          have hfz27_0 := blk_frozen BK146.out 0
                          have hfz27_1 := blk_frozen BK146.out 1
                          have hfz27_2 := blk_frozen BK146.out 2
                          have p148 : 0 ≤ (x6_2 : Int) := of_decide_eq_true (by first | (with_reducible assumption) | assumption)
                          have q148 : x6_2 < (((rd_T60 l0 a1).f2).length : Int) := of_decide_eq_true (by first | (with_reducible assumption) | assumption)
                          obtain ⟨ad148, e148, hx148_0⟩ := Kd.at_int HR145_2.out x6_2 p148 q148
                          cases e148
                          replace hx148_0 := (HB.out.cell (World.block_lt_of_cell? w _ hx148_0)).trans hx148_0
                          replace p148 := eq_true p148
                          replace q148 := eq_true q148
                          try go_wp2
                          have n0_ := Aside0.mk (blk_drew BK146.out)
                          have n1_ := Aside0.mk (below_drew1 HB.out)
                          clear BK146
                          clear HB
                          have BK146 := n0_
                          have HB := n1_
                          clear n0_ n1_
                          refine start_ (n := 24) (S := fun w' => True) (ds := []) #[false, false, false, false, false, false, false, false, false, false, false, false, false, false, false, false, false, false, false, false, false, false, false, false] (by kernel_rfl) rfl rfl trivial (fun hHeld => ?_); refine with_tabW exactpplref19_sound.tab10 exactpplref19_sound.bits10 (fun HT_ HW_ => ?_)
                          generalize wr.drew = w28 at BK146 HB hHeld ⊢
                          refine pure_ (i := 0) (N := some 67) (v := ?_) (a' := ?_) #[true, false, false, false, false, false, false, false, false, false, false, false, false, false, false, false, false, false, false, false, false, false, false, false] rfl rfl (any_of HT_.out (by kernel_rfl)) (fun _ _ _ h => h) (Or.inl ⟨by rfl, ?_⟩) ?_ ?_
                          rotate_left
                          · intro w'
                            go_simp
                            with_reducible rfl
                          rotate_left
                          · simp only [Act.put, List.setIfInBounds_toArray, List.set_cons_zero, List.set_cons_succ, i64_w, i32_w]
                            rfl
                          refine pure_ (i := 1) (N := some 68) (v := ?_) (a' := ?_) #[true, true, false, false, false, false, false, false, false, false, false, false, false, false, false, false, false, false, false, false, false, false, false, false] rfl rfl (any_of HT_.out (by kernel_rfl)) (fun _ _ _ h => h) (Or.inl ⟨by rfl, ?_⟩) ?_ ?_
                          rotate_left
                          · intro w'
                            go_simp
                            with_reducible rfl
                          rotate_left
                          · simp only [Act.put, List.setIfInBounds_toArray, List.set_cons_zero, List.set_cons_succ, i64_w, i32_w]
                            rfl
                          refine pure_ (i := 2) (N := some 69) (v := ?_) (a' := ?_) #[true, true, true, false, false, false, false, false, false, false, false, false, false, false, false, false, false, false, false, false, false, false, false, false] rfl rfl (any_of HT_.out (by kernel_rfl)) (fun _ _ _ h => h) (Or.inl ⟨by rfl, ?_⟩) ?_ ?_
                          rotate_left
                          · intro w'
                            go_simp
                            with_reducible rfl
                          rotate_left
                          · simp only [Act.put, List.setIfInBounds_toArray, List.set_cons_zero, List.set_cons_succ, i64_w, i32_w]
                            rfl
                          refine pure_ (i := 3) (N := some 70) (v := ?_) (a' := ?_) #[true, true, true, true, false, false, false, false, false, false, false, false, false, false, false, false, false, false, false, false, false, false, false, false] rfl rfl (any_of HT_.out (by kernel_rfl)) (fun _ _ _ h => h) (Or.inl ⟨by rfl, ?_⟩) ?_ ?_
                          rotate_left
                          · intro w'
                            go_simp
                            with_reducible rfl
                          rotate_left
                          · simp only [Act.put, List.setIfInBounds_toArray, List.set_cons_zero, List.set_cons_succ, i64_w, i32_w]
                            rfl
                          refine pure_ (i := 4) (N := some 71) (v := ?_) (a' := ?_) #[true, true, true, true, true, false, false, false, false, false, false, false, false, false, false, false, false, false, false, false, false, false, false, false] rfl rfl (any_of HT_.out (by kernel_rfl)) (fun _ _ _ h => h) (Or.inl ⟨by rfl, ?_⟩) ?_ ?_
                          rotate_left
                          · intro w'
                            go_simp
                            with_reducible rfl
                          rotate_left
                          · simp only [Act.put, List.setIfInBounds_toArray, List.set_cons_zero, List.set_cons_succ, i64_w, i32_w]
                            rfl
                          refine pure_ (i := 5) (N := some 72) (v := ?_) (a' := ?_) #[true, true, true, true, true, true, false, false, false, false, false, false, false, false, false, false, false, false, false, false, false, false, false, false] rfl rfl (any_of HT_.out (by kernel_rfl)) (fun _ _ _ h => h) (Or.inl ⟨by rfl, ?_⟩) ?_ ?_
                          rotate_left
                          · intro w'
                            go_simp
                            with_reducible rfl
                          rotate_left
                          · simp only [Act.put, List.setIfInBounds_toArray, List.set_cons_zero, List.set_cons_succ, i64_w, i32_w]
                            rfl
                          refine pure_ (i := 6) (N := some 73) (v := ?_) (a' := ?_) #[true, true, true, true, true, true, true, false, false, false, false, false, false, false, false, false, false, false, false, false, false, false, false, false] rfl rfl (any_of HT_.out (by kernel_rfl)) (fun _ _ _ h => h) (Or.inl ⟨by rfl, ?_⟩) ?_ ?_
                          rotate_left
                          · intro w'
                            go_simp
                            with_reducible rfl
                          rotate_left
                          · simp only [Act.put, List.setIfInBounds_toArray, List.set_cons_zero, List.set_cons_succ, i64_w, i32_w]
                            rfl
                          refine pure_ (i := 7) (N := some 74) (v := ?_) (a' := ?_) #[true, true, true, true, true, true, true, true, false, false, false, false, false, false, false, false, false, false, false, false, false, false, false, false] rfl rfl (any_of HT_.out (by kernel_rfl)) (fun _ _ _ h => h) (Or.inl ⟨by rfl, ?_⟩) ?_ ?_
                          rotate_left
                          · intro w'
                            go_simp
                            with_reducible rfl
                          rotate_left
                          · simp only [Act.put, List.setIfInBounds_toArray, List.set_cons_zero, List.set_cons_succ, i64_w, i32_w]
                            rfl
                          refine pure_ (i := 8) (N := some 75) (v := undef) (a' := ?_) #[true, true, true, true, true, true, true, true, true, false, false, false, false, false, false, false, false, false, false, false, false, false, false, false] rfl rfl (any_of HT_.out (by kernel_rfl)) (fun _ _ _ h => h) (Or.inr ⟨by rfl, rfl⟩) ?_ ?_
                          rotate_left
                          · simp only [Act.put, List.setIfInBounds_toArray, List.set_cons_zero, List.set_cons_succ, i64_w, i32_w]
                            rfl
                          refine pure_ (i := 9) (N := some 76) (v := undef) (a' := ?_) #[true, true, true, true, true, true, true, true, true, true, false, false, false, false, false, false, false, false, false, false, false, false, false, false] rfl rfl (any_of HT_.out (by kernel_rfl)) (fun _ _ _ h => h) (Or.inr ⟨by rfl, rfl⟩) ?_ ?_
                          rotate_left
                          · simp only [Act.put, List.setIfInBounds_toArray, List.set_cons_zero, List.set_cons_succ, i64_w, i32_w]
                            rfl
                          refine pure_ (i := 10) (N := some 77) (v := undef) (a' := ?_) #[true, true, true, true, true, true, true, true, true, true, true, false, false, false, false, false, false, false, false, false, false, false, false, false] rfl rfl (any_of HT_.out (by kernel_rfl)) (fun _ _ _ h => h) (Or.inr ⟨by rfl, rfl⟩) ?_ ?_
                          rotate_left
                          · simp only [Act.put, List.setIfInBounds_toArray, List.set_cons_zero, List.set_cons_succ, i64_w, i32_w]
                            rfl
                          refine pure_ (i := 11) (N := some 78) (v := undef) (a' := ?_) #[true, true, true, true, true, true, true, true, true, true, true, true, false, false, false, false, false, false, false, false, false, false, false, false] rfl rfl (any_of HT_.out (by kernel_rfl)) (fun _ _ _ h => h) (Or.inr ⟨by rfl, rfl⟩) ?_ ?_
                          rotate_left
                          · simp only [Act.put, List.setIfInBounds_toArray, List.set_cons_zero, List.set_cons_succ, i64_w, i32_w]
                            rfl
                          refine pure_ (i := 12) (N := some 79) (v := undef) (a' := ?_) #[true, true, true, true, true, true, true, true, true, true, true, true, true, false, false, false, false, false, false, false, false, false, false, false] rfl rfl (any_of HT_.out (by kernel_rfl)) (fun _ _ _ h => h) (Or.inr ⟨by rfl, rfl⟩) ?_ ?_
                          rotate_left
                          · simp only [Act.put, List.setIfInBounds_toArray, List.set_cons_zero, List.set_cons_succ, i64_w, i32_w]
                            rfl
                          refine pure_ (i := 13) (N := some 80) (v := undef) (a' := ?_) #[true, true, true, true, true, true, true, true, true, true, true, true, true, true, false, false, false, false, false, false, false, false, false, false] rfl rfl (any_of HT_.out (by kernel_rfl)) (fun _ _ _ h => h) (Or.inr ⟨by rfl, rfl⟩) ?_ ?_
                          rotate_left
                          · simp only [Act.put, List.setIfInBounds_toArray, List.set_cons_zero, List.set_cons_succ, i64_w, i32_w]
                            rfl
                          refine pure_ (i := 14) (N := some 81) (v := undef) (a' := ?_) #[true, true, true, true, true, true, true, true, true, true, true, true, true, true, true, false, false, false, false, false, false, false, false, false] rfl rfl (any_of HT_.out (by kernel_rfl)) (fun _ _ _ h => h) (Or.inr ⟨by rfl, rfl⟩) ?_ ?_
                          rotate_left
                          · simp only [Act.put, List.setIfInBounds_toArray, List.set_cons_zero, List.set_cons_succ, i64_w, i32_w]
                            rfl
                          refine pure_ (i := 15) (N := some 82) (v := undef) (a' := ?_) #[true, true, true, true, true, true, true, true, true, true, true, true, true, true, true, true, false, false, false, false, false, false, false, false] rfl rfl (any_of HT_.out (by kernel_rfl)) (fun _ _ _ h => h) (Or.inr ⟨by rfl, rfl⟩) ?_ ?_
                          rotate_left
                          · simp only [Act.put, List.setIfInBounds_toArray, List.set_cons_zero, List.set_cons_succ, i64_w, i32_w]
                            rfl
                          refine pure_ (i := 16) (N := some 83) (v := undef) (a' := ?_) #[true, true, true, true, true, true, true, true, true, true, true, true, true, true, true, true, true, false, false, false, false, false, false, false] rfl rfl (any_of HT_.out (by kernel_rfl)) (fun _ _ _ h => h) (Or.inr ⟨by rfl, rfl⟩) ?_ ?_
                          rotate_left
                          · simp only [Act.put, List.setIfInBounds_toArray, List.set_cons_zero, List.set_cons_succ, i64_w, i32_w]
                            rfl
                          refine pure_ (i := 17) (N := some 84) (v := undef) (a' := ?_) #[true, true, true, true, true, true, true, true, true, true, true, true, true, true, true, true, true, true, false, false, false, false, false, false] rfl rfl (any_of HT_.out (by kernel_rfl)) (fun _ _ _ h => h) (Or.inr ⟨by rfl, rfl⟩) ?_ ?_
                          rotate_left
                          · simp only [Act.put, List.setIfInBounds_toArray, List.set_cons_zero, List.set_cons_succ, i64_w, i32_w]
                            rfl
                          refine pure_ (i := 18) (N := some 85) (v := undef) (a' := ?_) #[true, true, true, true, true, true, true, true, true, true, true, true, true, true, true, true, true, true, true, false, false, false, false, false] rfl rfl (any_of HT_.out (by kernel_rfl)) (fun _ _ _ h => h) (Or.inr ⟨by rfl, rfl⟩) ?_ ?_
                          rotate_left
                          · simp only [Act.put, List.setIfInBounds_toArray, List.set_cons_zero, List.set_cons_succ, i64_w, i32_w]
                            rfl
                          refine pure_ (i := 19) (N := some 86) (v := undef) (a' := ?_) #[true, true, true, true, true, true, true, true, true, true, true, true, true, true, true, true, true, true, true, true, false, false, false, false] rfl rfl (any_of HT_.out (by kernel_rfl)) (fun _ _ _ h => h) (Or.inr ⟨by rfl, rfl⟩) ?_ ?_
                          rotate_left
                          · simp only [Act.put, List.setIfInBounds_toArray, List.set_cons_zero, List.set_cons_succ, i64_w, i32_w]
                            rfl
                          refine pure_ (i := 20) (N := some 87) (v := undef) (a' := ?_) #[true, true, true, true, true, true, true, true, true, true, true, true, true, true, true, true, true, true, true, true, true, false, false, false] rfl rfl (any_of HT_.out (by kernel_rfl)) (fun _ _ _ h => h) (Or.inr ⟨by rfl, rfl⟩) ?_ ?_
                          rotate_left
                          · simp only [Act.put, List.setIfInBounds_toArray, List.set_cons_zero, List.set_cons_succ, i64_w, i32_w]
                            rfl
                          refine pure_ (i := 21) (N := some 88) (v := undef) (a' := ?_) #[true, true, true, true, true, true, true, true, true, true, true, true, true, true, true, true, true, true, true, true, true, true, false, false] rfl rfl (any_of HT_.out (by kernel_rfl)) (fun _ _ _ h => h) (Or.inr ⟨by rfl, rfl⟩) ?_ ?_
                          rotate_left
                          · simp only [Act.put, List.setIfInBounds_toArray, List.set_cons_zero, List.set_cons_succ, i64_w, i32_w]
                            rfl
                          refine pure_ (i := 22) (N := some 89) (v := undef) (a' := ?_) #[true, true, true, true, true, true, true, true, true, true, true, true, true, true, true, true, true, true, true, true, true, true, true, false] rfl rfl (any_of HT_.out (by kernel_rfl)) (fun _ _ _ h => h) (Or.inr ⟨by rfl, rfl⟩) ?_ ?_
                          rotate_left
                          · simp only [Act.put, List.setIfInBounds_toArray, List.set_cons_zero, List.set_cons_succ, i64_w, i32_w]
                            rfl
                          refine pure_ (i := 23) (N := some 90) (v := ?_) (a' := ?_) #[true, true, true, true, true, true, true, true, true, true, true, true, true, true, true, true, true, true, true, true, true, true, true, true] rfl rfl (any_of HT_.out (by kernel_rfl)) (fun _ _ _ h => h) (Or.inl ⟨by rfl, ?_⟩) ?_ ?_
                          rotate_left
                          · intro w'
                            go_simp
                            with_reducible rfl
                          rotate_left
                          · simp only [Act.put, List.setIfInBounds_toArray, List.set_cons_zero, List.set_cons_succ, i64_w, i32_w]
                            rfl
                          refine done_ (done_of HT_.out (by kernel_rfl)) ?_
                          try go_wp2
                          go_ret
                          exact ⟨by first | rfl | (simp [errW_none, errW_some] <;> rfl) | (simp [*, errW_none, errW_some] <;> rfl), by repeat (first | (with_reducible first | exact HB.out | apply below_alloc | apply pw_below_drewN | apply below_drew1 | refine below_set ?_ GE146.out) | exact HB.out)⟩
                        · rw [if_neg c26] at H
                          have c26b0 : decide (a1 ≤ (rd ((rd_T60 l0 a1).f2) x6_2)) = false := decide_eq_false c26
                          clear c26
                          by_cases c29 : 0 ≤ (rd ((rd_T60 l0 a1).f2) x6_2)
                          · rw [if_pos c29] at H
                            have c29b0 : decide (0 ≤ (rd ((rd_T60 l0 a1).f2) x6_2)) = true := decide_eq_true c29
                            clear c29
                            by_cases c30 : (rd ((rd_T60 l0 a1).f2) x6_2) < (l0.length : Int)
                            · rw [if_pos c30] at H
                              have c30b0 : decide ((rd ((rd_T60 l0 a1).f2) x6_2) < (l0.length : Int)) = true := decide_eq_true c30
                              clear c30
                              replace H := Option.bind_eq_some_iff.mp H
                              obtain ⟨t150, A310, H⟩ := H
                              replace H : (if t150 = true then (if ((rd_T60 l0 (rd ((rd_T60 l0 a1).f2) x6_2)).f0) ≤ ((rd_T60 l0 a1).f0) then (some false) else (exactpplref19_sound.l0 k2 l0 a1 (wrap64 (x6_2 + 1)) ((rd_T60 l0 a1).f0) ((rd_T60 l0 a1).f1) ((rd_T60 l0 a1).f2))) else (exactpplref19_sound.l0 k2 l0 a1 (wrap64 (x6_2 + 1)) ((rd_T60 l0 a1).f0) ((rd_T60 l0 a1).f1) ((rd_T60 l0 a1).f2))) = some r := H
                              have A31 := Aside0.mk A310
                              clear A310
                              by_cases c32 : t150 = true
                              · subst c32
                                have H1 : (if ((rd_T60 l0 (rd ((rd_T60 l0 a1).f2) x6_2)).f0) ≤ ((rd_T60 l0 a1).f0) then (some false) else (exactpplref19_sound.l0 k2 l0 a1 (wrap64 (x6_2 + 1)) ((rd_T60 l0 a1).f0) ((rd_T60 l0 a1).f1) ((rd_T60 l0 a1).f2))) = some r := by rw [if_pos rfl] at H; exact H
                                clear H
                                have H := H1
                                clear H1
                                by_cases c33 : ((rd_T60 l0 (rd ((rd_T60 l0 a1).f2) x6_2)).f0) ≤ ((rd_T60 l0 a1).f0)
                                · rw [if_pos c33] at H
                                  have c33b0 : decide (((rd_T60 l0 (rd ((rd_T60 l0 a1).f2) x6_2)).f0) ≤ ((rd_T60 l0 a1).f0)) = true := decide_eq_true c33
                                  clear c33
                                  obtain rfl := Option.some.inj H
                                  have hcz34_0 : wr.cell? ⟨gb146, 0, none⟩ = some (.int .i64 ((rd_T60 l0 a1).f0)) := (blk_cell BK146.out 0).trans rfl
                                  have hcz34_1 : wr.cell? ⟨gb146, 1, none⟩ = some (.int .i64 ((rd_T60 l0 a1).f1)) := (blk_cell BK146.out 1).trans rfl
                                  have hcz34_2 : wr.cell? ⟨gb146, 2, none⟩ = some (.slice A145_2 ((rd_T60 l0 a1).f2).length c145_2) := (blk_cell BK146.out 2).trans rfl
                                  have hfz34_0 := blk_frozen BK146.out 0
                                  have hfz34_1 := blk_frozen BK146.out 1
                                  have hfz34_2 := blk_frozen BK146.out 2
                                  have p148 : 0 ≤ (x6_2 : Int) := of_decide_eq_true (by first | (with_reducible assumption) | assumption)
                                  have q148 : x6_2 < (((rd_T60 l0 a1).f2).length : Int) := of_decide_eq_true (by first | (with_reducible assumption) | assumption)
                                  obtain ⟨ad148, e148, hx148_0⟩ := Kd.at_int HR145_2.out x6_2 p148 q148
                                  cases e148
                                  replace hx148_0 := (HB.out.cell (World.block_lt_of_cell? w _ hx148_0)).trans hx148_0
                                  replace p148 := eq_true p148
                                  replace q148 := eq_true q148
                                  try go_wp2
                                  have n0_ := Aside0.mk (blk_drew BK146.out)
                                  have n1_ := Aside0.mk (below_drew1 HB.out)
                                  clear BK146
                                  clear HB
                                  have BK146 := n0_
                                  have HB := n1_
                                  clear n0_ n1_
                                  have p149 : 0 ≤ ((rd ((rd_T60 l0 a1).f2) x6_2) : Int) := of_decide_eq_true (by first | (with_reducible assumption) | assumption)
                                  have q149 : (rd ((rd_T60 l0 a1).f2) x6_2) < (l0.length : Int) := of_decide_eq_true (by first | (with_reducible assumption) | assumption)
                                  obtain ⟨ad149, A149_2, c149_2, e149, hx149_0, hx149_1, hx149_2, hl149_2, hi149_2⟩ := at_T60 HR0.out (rd ((rd_T60 l0 a1).f2) x6_2) p149 q149
                                  have hw149_2 := hx149_2
                                  have hw149_1 := hx149_1
                                  have hw149_0 := hx149_0
                                  obtain rfl : ad145 = ad149 := (by injection e149)
                                  replace hx149_0 := (HB.out.cell (World.block_lt_of_cell? w _ hx149_0)).trans hx149_0
                                  replace hx149_1 := (HB.out.cell (World.block_lt_of_cell? w _ hx149_1)).trans hx149_1
                                  replace hx149_2 := (HB.out.cell (World.block_lt_of_cell? w _ hx149_2)).trans hx149_2
                                  have HR149_2 := Aside0.mk hi149_2
                                  have HC149_2 := Aside0.mk hl149_2
                                  clear hi149_2 hl149_2
                                  replace p149 := eq_true p149
                                  replace q149 := eq_true q149
                                  have p151 : 0 ≤ ((rd ((rd_T60 l0 a1).f2) x6_2) : Int) := of_decide_eq_true (by first | (with_reducible assumption) | assumption)
                                  have q151 : (rd ((rd_T60 l0 a1).f2) x6_2) < (l0.length : Int) := of_decide_eq_true (by first | (with_reducible assumption) | assumption)
                                  obtain ⟨ad151, A151_2, c151_2, e151, hx151_0, hx151_1, hx151_2, hl151_2, hi151_2⟩ := at_T60 HR0.out (rd ((rd_T60 l0 a1).f2) x6_2) p151 q151
                                  have hw151_2 := hx151_2
                                  have hw151_1 := hx151_1
                                  have hw151_0 := hx151_0
                                  obtain rfl : ad145 = ad151 := (by injection e151)
                                  replace hx151_0 := (HB.out.cell (World.block_lt_of_cell? w _ hx151_0)).trans hx151_0
                                  replace hx151_1 := (HB.out.cell (World.block_lt_of_cell? w _ hx151_1)).trans hx151_1
                                  replace hx151_2 := (HB.out.cell (World.block_lt_of_cell? w _ hx151_2)).trans hx151_2
                                  have HR151_2 := Aside0.mk hi151_2
                                  have HC151_2 := Aside0.mk hl151_2
                                  clear hi151_2 hl151_2
                                  replace p151 := eq_true p151
                                  replace q151 := eq_true q151
                                  refine start_ (n := 24) (S := fun w' => w'.cell? ⟨gb146, 0, none⟩ = some (.int .i64 ((rd_T60 l0 a1).f0)) ∧ w'.cell? ⟨gb146, 1, none⟩ = some (.int .i64 ((rd_T60 l0 a1).f1)) ∧ w'.cell? ⟨gb146, 2, none⟩ = some (.slice (some ad148) ((rd_T60 l0 a1).f2).length c145_2) ∧ w'.cell? (ad145.add (((rd ((rd_T60 l0 a1).f2) x6_2)).toNat * 3)) = some (.int .i64 ((rd_T60 l0 (rd ((rd_T60 l0 a1).f2) x6_2)).f0)) ∧ w'.cell? ⟨(ad145.add (((rd ((rd_T60 l0 a1).f2) x6_2)).toNat * 3)).block, (ad145.add (((rd ((rd_T60 l0 a1).f2) x6_2)).toNat * 3)).off + 1, none⟩ = some (.int .i64 ((rd_T60 l0 (rd ((rd_T60 l0 a1).f2) x6_2)).f1)) ∧ w'.cell? ⟨(ad145.add (((rd ((rd_T60 l0 a1).f2) x6_2)).toNat * 3)).block, (ad145.add (((rd ((rd_T60 l0 a1).f2) x6_2)).toNat * 3)).off + 2, none⟩ = some (.slice A149_2 ((rd_T60 l0 (rd ((rd_T60 l0 a1).f2) x6_2)).f2).length c149_2) ∧ w'.cell? (ad145.add (((rd ((rd_T60 l0 a1).f2) x6_2)).toNat * 3)) = some (.int .i64 ((rd_T60 l0 (rd ((rd_T60 l0 a1).f2) x6_2)).f0)) ∧ w'.cell? ⟨(ad145.add (((rd ((rd_T60 l0 a1).f2) x6_2)).toNat * 3)).block, (ad145.add (((rd ((rd_T60 l0 a1).f2) x6_2)).toNat * 3)).off + 1, none⟩ = some (.int .i64 ((rd_T60 l0 (rd ((rd_T60 l0 a1).f2) x6_2)).f1)) ∧ w'.cell? ⟨(ad145.add (((rd ((rd_T60 l0 a1).f2) x6_2)).toNat * 3)).block, (ad145.add (((rd ((rd_T60 l0 a1).f2) x6_2)).toNat * 3)).off + 2, none⟩ = some (.slice A151_2 ((rd_T60 l0 (rd ((rd_T60 l0 a1).f2) x6_2)).f2).length c151_2)) (ds := []) #[false, false, false, false, false, false, false, false, false, false, false, false, false, false, false, false, false, false, false, false, false, false, false, false] (by kernel_rfl) rfl rfl ⟨(blk_cell BK146.out 0).trans rfl, (blk_cell BK146.out 1).trans rfl, (blk_cell BK146.out 2).trans rfl, ((HB.out.cell (World.block_lt_of_cell? w _ hw149_0)).trans hw149_0), ((HB.out.cell (World.block_lt_of_cell? w _ hw149_1)).trans hw149_1), ((HB.out.cell (World.block_lt_of_cell? w _ hw149_2)).trans hw149_2), ((HB.out.cell (World.block_lt_of_cell? w _ hw151_0)).trans hw151_0), ((HB.out.cell (World.block_lt_of_cell? w _ hw151_1)).trans hw151_1), ((HB.out.cell (World.block_lt_of_cell? w _ hw151_2)).trans hw151_2)⟩ (fun hHeld => ?_); refine with_tabW exactpplref19_sound.tab10 exactpplref19_sound.bits10 (fun HT_ HW_ => ?_)
                                  generalize wr.drew = w35 at BK146 HB HR149_2 HR151_2 hx149_0 hx149_1 hx149_2 hx151_0 hx151_1 hx151_2 hHeld ⊢
                                  refine pure_ (i := 0) (N := some 67) (v := ?_) (a' := ?_) #[true, false, false, false, false, false, false, false, false, false, false, false, false, false, false, false, false, false, false, false, false, false, false, false] rfl rfl (any_of HT_.out (by kernel_rfl)) (fun _ _ _ h => h) (Or.inl ⟨by rfl, ?_⟩) ?_ ?_
                                  rotate_left
                                  · intro w'
                                    go_simp
                                    with_reducible rfl
                                  rotate_left
                                  · simp only [Act.put, List.setIfInBounds_toArray, List.set_cons_zero, List.set_cons_succ, i64_w, i32_w]
                                    rfl
                                  refine pure_ (i := 1) (N := some 68) (v := ?_) (a' := ?_) #[true, true, false, false, false, false, false, false, false, false, false, false, false, false, false, false, false, false, false, false, false, false, false, false] rfl rfl (any_of HT_.out (by kernel_rfl)) (fun _ _ _ h => h) (Or.inl ⟨by rfl, ?_⟩) ?_ ?_
                                  rotate_left
                                  · intro w'
                                    go_simp
                                    with_reducible rfl
                                  rotate_left
                                  · simp only [Act.put, List.setIfInBounds_toArray, List.set_cons_zero, List.set_cons_succ, i64_w, i32_w]
                                    rfl
                                  refine pure_ (i := 2) (N := some 69) (v := ?_) (a' := ?_) #[true, true, true, false, false, false, false, false, false, false, false, false, false, false, false, false, false, false, false, false, false, false, false, false] rfl rfl (any_of HT_.out (by kernel_rfl)) (fun _ _ _ h => h) (Or.inl ⟨by rfl, ?_⟩) ?_ ?_
                                  rotate_left
                                  · intro w'
                                    go_simp
                                    with_reducible rfl
                                  rotate_left
                                  · simp only [Act.put, List.setIfInBounds_toArray, List.set_cons_zero, List.set_cons_succ, i64_w, i32_w]
                                    rfl
                                  refine pure_ (i := 3) (N := some 70) (v := ?_) (a' := ?_) #[true, true, true, true, false, false, false, false, false, false, false, false, false, false, false, false, false, false, false, false, false, false, false, false] rfl rfl (any_of HT_.out (by kernel_rfl)) (fun _ _ _ h => h) (Or.inl ⟨by rfl, ?_⟩) ?_ ?_
                                  rotate_left
                                  · intro w'
                                    go_simp
                                    with_reducible rfl
                                  rotate_left
                                  · simp only [Act.put, List.setIfInBounds_toArray, List.set_cons_zero, List.set_cons_succ, i64_w, i32_w]
                                    rfl
                                  refine pure_ (i := 4) (N := some 71) (v := ?_) (a' := ?_) #[true, true, true, true, true, false, false, false, false, false, false, false, false, false, false, false, false, false, false, false, false, false, false, false] rfl rfl (any_of HT_.out (by kernel_rfl)) (fun _ _ _ h => h) (Or.inl ⟨by rfl, ?_⟩) ?_ ?_
                                  rotate_left
                                  · intro w'
                                    go_simp
                                    with_reducible rfl
                                  rotate_left
                                  · simp only [Act.put, List.setIfInBounds_toArray, List.set_cons_zero, List.set_cons_succ, i64_w, i32_w]
                                    rfl
                                  refine pure_ (i := 5) (N := some 72) (v := ?_) (a' := ?_) #[true, true, true, true, true, true, false, false, false, false, false, false, false, false, false, false, false, false, false, false, false, false, false, false] rfl rfl (any_of HT_.out (by kernel_rfl)) (fun _ _ _ h => h) (Or.inl ⟨by rfl, ?_⟩) ?_ ?_
                                  rotate_left
                                  · intro w'
                                    go_simp
                                    with_reducible rfl
                                  rotate_left
                                  · simp only [Act.put, List.setIfInBounds_toArray, List.set_cons_zero, List.set_cons_succ, i64_w, i32_w]
                                    rfl
                                  refine pure_ (i := 6) (N := some 73) (v := ?_) (a' := ?_) #[true, true, true, true, true, true, true, false, false, false, false, false, false, false, false, false, false, false, false, false, false, false, false, false] rfl rfl (any_of HT_.out (by kernel_rfl)) (fun _ _ _ h => h) (Or.inl ⟨by rfl, ?_⟩) ?_ ?_
                                  rotate_left
                                  · intro w'
                                    go_simp
                                    with_reducible rfl
                                  rotate_left
                                  · simp only [Act.put, List.setIfInBounds_toArray, List.set_cons_zero, List.set_cons_succ, i64_w, i32_w]
                                    rfl
                                  refine pure_ (i := 7) (N := some 74) (v := ?_) (a' := ?_) #[true, true, true, true, true, true, true, true, false, false, false, false, false, false, false, false, false, false, false, false, false, false, false, false] rfl rfl (any_of HT_.out (by kernel_rfl)) (fun _ _ _ h => h) (Or.inl ⟨by rfl, ?_⟩) ?_ ?_
                                  rotate_left
                                  · intro w'
                                    go_simp
                                    with_reducible rfl
                                  rotate_left
                                  · simp only [Act.put, List.setIfInBounds_toArray, List.set_cons_zero, List.set_cons_succ, i64_w, i32_w]
                                    rfl
                                  refine pure_ (i := 8) (N := some 75) (v := ?_) (a' := ?_) #[true, true, true, true, true, true, true, true, true, false, false, false, false, false, false, false, false, false, false, false, false, false, false, false] rfl rfl (any_of HT_.out (by kernel_rfl)) (fun _ _ _ h => h) (Or.inl ⟨by rfl, ?_⟩) ?_ ?_
                                  rotate_left
                                  · intro w'
                                    go_simp
                                    with_reducible rfl
                                  rotate_left
                                  · simp only [Act.put, List.setIfInBounds_toArray, List.set_cons_zero, List.set_cons_succ, i64_w, i32_w]
                                    rfl
                                  refine pure_ (i := 9) (N := some 76) (v := ?_) (a' := ?_) #[true, true, true, true, true, true, true, true, true, true, false, false, false, false, false, false, false, false, false, false, false, false, false, false] rfl rfl (any_of HT_.out (by kernel_rfl)) (fun _ _ _ h => h) (Or.inl ⟨by rfl, ?_⟩) ?_ ?_
                                  rotate_left
                                  · intro w'
                                    go_simp
                                    with_reducible rfl
                                  rotate_left
                                  · simp only [Act.put, List.setIfInBounds_toArray, List.set_cons_zero, List.set_cons_succ, i64_w, i32_w]
                                    rfl
                                  refine pure_ (i := 10) (N := some 77) (v := ?_) (a' := ?_) #[true, true, true, true, true, true, true, true, true, true, true, false, false, false, false, false, false, false, false, false, false, false, false, false] rfl rfl (any_of HT_.out (by kernel_rfl)) (fun _ _ _ h => h) (Or.inl ⟨by rfl, ?_⟩) ?_ ?_
                                  rotate_left
                                  · intro w'
                                    go_simp
                                    with_reducible rfl
                                  rotate_left
                                  · simp only [Act.put, List.setIfInBounds_toArray, List.set_cons_zero, List.set_cons_succ, i64_w, i32_w]
                                    rfl
                                  refine take_ (i := 11) (N := some 78) (v := ?_) (a' := ?_) #[true, true, true, true, true, true, true, true, true, true, true, true, false, false, false, false, false, false, false, false, false, false, false, false] rfl rfl (take_ofW HT_.out HW_.out (by kernel_rfl)) (fun _ _ _ h => h) (Or.inl ⟨by rfl, ?_⟩) hHeld ?_ ?_
                                  rotate_left
                                  · rintro w' ⟨s0, s1, s2, s3, s4, s5, s6, s7, s8⟩
                                    go_simp
                                    with_reducible rfl
                                  rotate_left
                                  · simp only [Act.put, List.setIfInBounds_toArray, List.set_cons_zero, List.set_cons_succ, i64_w, i32_w]
                                    rfl
                                  refine one_ (i := 12) (N := some 79) #[true, true, true, true, true, true, true, true, true, true, true, true, true, false, false, false, false, false, false, false, false, false, false, false] rfl rfl (one_of HT_.out (by kernel_rfl)) (by decide) (fun K hK => ?_)
                                  refine goes_ Tryd.func55 (by kernel_rfl) rfl #[.agg #[.int .i64 ((rd_T60 l0 (rd ((rd_T60 l0 a1).f2) x6_2)).f0), .int .i64 ((rd_T60 l0 (rd ((rd_T60 l0 a1).f2) x6_2)).f1), .slice A149_2 ((rd_T60 l0 (rd ((rd_T60 l0 a1).f2) x6_2)).f2).length c149_2]] (by rfl) rfl rfl (by (try simp only [List.map_toArray, List.map_cons, List.map_nil]); first | done | rfl | (simp only [List.length_drop, List.length_take]; rfl)) ?_
                                  with_reducible refine (exactpplref19_IsBranch.calls ((rd_T60 l0 (rd ((rd_T60 l0 a1).f2) x6_2)).f0) ((rd_T60 l0 (rd ((rd_T60 l0 a1).f2) x6_2)).f1) _ _ ((rd_T60 l0 (rd ((rd_T60 l0 a1).f2) x6_2)).f2) true _ ?side1 ?side2 A31.out).mono ?_
                                  (case side1 => repeat (first | exact (Kd.C_below HR149_2.out HB.out) | (with_reducible refine Kd.C_alloc ?_ _) | (with_reducible refine Kd.C_drewN ?_ _) | (with_reducible refine Kd.C_drew ?_)))
                                  (case side2 => exact HC149_2.out)
                                  rintro e w36 ⟨rfl, hb⟩
                                  refine ⟨_, rfl, ?_⟩
                                  have n0_ := Aside0.mk (blk_below (g := gb146) (o := .cells #[.int .i64 ((rd_T60 l0 a1).f0), .int .i64 ((rd_T60 l0 a1).f1), .slice (some ad148) ((rd_T60 l0 a1).f2).length c145_2] 60 (0, 0)) (by (with_reducible repeat (first | refine blk_drewN ?_ _ | refine blk_drew ?_ | refine blk_alloc ?_ _)); exact BK146.out) hb)
                                  have n1_ := Aside0.mk (below_step (by repeat (first | (with_reducible first | exact HB.out | apply below_alloc | apply pw_below_drewN | apply below_drew1 | refine below_set ?_ GE146.out) | exact HB.out)) hb)
                                  clear BK146
                                  clear HB
                                  have BK146 := n0_
                                  have HB := n1_
                                  clear n0_ n1_
                                  (try clear hb)
                                  (try clear hb2)
                                  (try clear hk)
                                  (try clear hi)
                                  refine hK.out _ _ ⟨(blk_cell BK146.out 0).trans rfl, (blk_cell BK146.out 1).trans rfl, (blk_cell BK146.out 2).trans rfl, ((HB.out.cell (World.block_lt_of_cell? w _ hw149_0)).trans hw149_0), ((HB.out.cell (World.block_lt_of_cell? w _ hw149_1)).trans hw149_1), ((HB.out.cell (World.block_lt_of_cell? w _ hw149_2)).trans hw149_2), ((HB.out.cell (World.block_lt_of_cell? w _ hw151_0)).trans hw151_0), ((HB.out.cell (World.block_lt_of_cell? w _ hw151_1)).trans hw151_1), ((HB.out.cell (World.block_lt_of_cell? w _ hw151_2)).trans hw151_2)⟩ (fun hHeld => ?_)
                                  clear hK K
                                  refine norm_ (a' := ?_) ?_ ?_
                                  rotate_left
                                  · show Act.put _ (some 79) _ = _
                                    simp only [Act.put, List.setIfInBounds_toArray, List.set_cons_zero, List.set_cons_succ, i64_w, i32_w]
                                    rfl
                                  refine pure_ (i := 13) (N := some 80) (v := ?_) (a' := ?_) #[true, true, true, true, true, true, true, true, true, true, true, true, true, true, false, false, false, false, false, false, false, false, false, false] rfl rfl (any_of HT_.out (by kernel_rfl)) (fun _ _ _ h => h) (Or.inl ⟨by rfl, ?_⟩) ?_ ?_
                                  rotate_left
                                  · intro w'
                                    go_simp
                                    with_reducible rfl
                                  rotate_left
                                  · simp only [Act.put, List.setIfInBounds_toArray, List.set_cons_zero, List.set_cons_succ, i64_w, i32_w]
                                    rfl
                                  refine pure_ (i := 14) (N := some 81) (v := ?_) (a' := ?_) #[true, true, true, true, true, true, true, true, true, true, true, true, true, true, true, false, false, false, false, false, false, false, false, false] rfl rfl (any_of HT_.out (by kernel_rfl)) (fun _ _ _ h => h) (Or.inl ⟨by rfl, ?_⟩) ?_ ?_
                                  rotate_left
                                  · intro w'
                                    go_simp
                                    with_reducible rfl
                                  rotate_left
                                  · simp only [Act.put, List.setIfInBounds_toArray, List.set_cons_zero, List.set_cons_succ, i64_w, i32_w]
                                    rfl
                                  refine pure_ (i := 15) (N := some 82) (v := ?_) (a' := ?_) #[true, true, true, true, true, true, true, true, true, true, true, true, true, true, true, true, false, false, false, false, false, false, false, false] rfl rfl (any_of HT_.out (by kernel_rfl)) (fun _ _ _ h => h) (Or.inl ⟨by rfl, ?_⟩) ?_ ?_
                                  rotate_left
                                  · intro w'
                                    go_simp
                                    with_reducible rfl
                                  rotate_left
                                  · simp only [Act.put, List.setIfInBounds_toArray, List.set_cons_zero, List.set_cons_succ, i64_w, i32_w]
                                    rfl
                                  refine pure_ (i := 16) (N := some 83) (v := ?_) (a' := ?_) #[true, true, true, true, true, true, true, true, true, true, true, true, true, true, true, true, true, false, false, false, false, false, false, false] rfl rfl (any_of HT_.out (by kernel_rfl)) (fun _ _ _ h => h) (Or.inl ⟨by rfl, ?_⟩) ?_ ?_
                                  rotate_left
                                  · intro w'
                                    go_simp
                                    with_reducible rfl
                                  rotate_left
                                  · simp only [Act.put, List.setIfInBounds_toArray, List.set_cons_zero, List.set_cons_succ, i64_w, i32_w]
                                    rfl
                                  refine pure_ (i := 17) (N := some 84) (v := ?_) (a' := ?_) #[true, true, true, true, true, true, true, true, true, true, true, true, true, true, true, true, true, true, false, false, false, false, false, false] rfl rfl (any_of HT_.out (by kernel_rfl)) (fun _ _ _ h => h) (Or.inl ⟨by rfl, ?_⟩) ?_ ?_
                                  rotate_left
                                  · intro w'
                                    go_simp
                                    with_reducible rfl
                                  rotate_left
                                  · simp only [Act.put, List.setIfInBounds_toArray, List.set_cons_zero, List.set_cons_succ, i64_w, i32_w]
                                    rfl
                                  refine pure_ (i := 19) (N := some 86) (v := ?_) (a' := ?_) #[true, true, true, true, true, true, true, true, true, true, true, true, true, true, true, true, true, true, false, true, false, false, false, false] rfl rfl (any_of HT_.out (by kernel_rfl)) (fun _ _ _ h => h) (Or.inl ⟨by rfl, ?_⟩) ?_ ?_
                                  rotate_left
                                  · intro w'
                                    go_simp
                                    with_reducible rfl
                                  rotate_left
                                  · simp only [Act.put, List.setIfInBounds_toArray, List.set_cons_zero, List.set_cons_succ, i64_w, i32_w]
                                    rfl
                                  refine take_ (i := 18) (N := some 85) (v := ?_) (a' := ?_) #[true, true, true, true, true, true, true, true, true, true, true, true, true, true, true, true, true, true, true, true, false, false, false, false] rfl rfl (take_ofW HT_.out HW_.out (by kernel_rfl)) (fun _ _ _ h => h) (Or.inl ⟨by rfl, ?_⟩) hHeld ?_ ?_
                                  rotate_left
                                  · rintro w' ⟨s0, s1, s2, s3, s4, s5, s6, s7, s8⟩
                                    go_simp
                                    with_reducible rfl
                                  rotate_left
                                  · simp only [Act.put, List.setIfInBounds_toArray, List.set_cons_zero, List.set_cons_succ, i64_w, i32_w]
                                    rfl
                                  refine take_ (i := 20) (N := some 87) (v := ?_) (a' := ?_) #[true, true, true, true, true, true, true, true, true, true, true, true, true, true, true, true, true, true, true, true, true, false, false, false] rfl rfl (take_ofW HT_.out HW_.out (by kernel_rfl)) (fun _ _ _ h => h) (Or.inl ⟨by rfl, ?_⟩) hHeld ?_ ?_
                                  rotate_left
                                  · rintro w' ⟨s0, s1, s2, s3, s4, s5, s6, s7, s8⟩
                                    go_simp
                                    with_reducible rfl
                                  rotate_left
                                  · simp only [Act.put, List.setIfInBounds_toArray, List.set_cons_zero, List.set_cons_succ, i64_w, i32_w]
                                    rfl
                                  refine pure_ (i := 21) (N := some 88) (v := ?_) (a' := ?_) #[true, true, true, true, true, true, true, true, true, true, true, true, true, true, true, true, true, true, true, true, true, true, false, false] rfl rfl (any_of HT_.out (by kernel_rfl)) (fun _ _ _ h => h) (Or.inl ⟨by rfl, ?_⟩) ?_ ?_
                                  rotate_left
                                  · intro w'
                                    go_simp
                                    with_reducible rfl
                                  rotate_left
                                  · simp only [Act.put, List.setIfInBounds_toArray, List.set_cons_zero, List.set_cons_succ, i64_w, i32_w]
                                    rfl
                                  refine pure_ (i := 22) (N := some 89) (v := ?_) (a' := ?_) #[true, true, true, true, true, true, true, true, true, true, true, true, true, true, true, true, true, true, true, true, true, true, true, false] rfl rfl (any_of HT_.out (by kernel_rfl)) (fun _ _ _ h => h) (Or.inl ⟨by rfl, ?_⟩) ?_ ?_
                                  rotate_left
                                  · intro w'
                                    go_simp
                                    with_reducible rfl
                                  rotate_left
                                  · simp only [Act.put, List.setIfInBounds_toArray, List.set_cons_zero, List.set_cons_succ, i64_w, i32_w]
                                    rfl
                                  refine pure_ (i := 23) (N := some 90) (v := ?_) (a' := ?_) #[true, true, true, true, true, true, true, true, true, true, true, true, true, true, true, true, true, true, true, true, true, true, true, true] rfl rfl (any_of HT_.out (by kernel_rfl)) (fun _ _ _ h => h) (Or.inl ⟨by rfl, ?_⟩) ?_ ?_
                                  rotate_left
                                  · intro w'
                                    go_simp
                                    with_reducible rfl
                                  rotate_left
                                  · simp only [Act.put, List.setIfInBounds_toArray, List.set_cons_zero, List.set_cons_succ, i64_w, i32_w]
                                    rfl
                                  refine done_ (done_of HT_.out (by kernel_rfl)) ?_
                                  try go_wp2
                                  go_ret
                                  exact ⟨by first | rfl | (simp [errW_none, errW_some] <;> rfl) | (simp [*, errW_none, errW_some] <;> rfl), by repeat (first | (with_reducible first | exact HB.out | apply below_alloc | apply pw_below_drewN | apply below_drew1 | refine below_set ?_ GE146.out) | exact HB.out)⟩
                                · rw [if_neg c33] at H
                                  have c33b0 : decide (((rd_T60 l0 (rd ((rd_T60 l0 a1).f2) x6_2)).f0) ≤ ((rd_T60 l0 a1).f0)) = false := decide_eq_false c33
                                  clear c33
                                  have H' := Aside0.mk H
                                  clear H
                                  have hcz37_0 : wr.cell? ⟨gb146, 0, none⟩ = some (.int .i64 ((rd_T60 l0 a1).f0)) := (blk_cell BK146.out 0).trans rfl
                                  have hcz37_1 : wr.cell? ⟨gb146, 1, none⟩ = some (.int .i64 ((rd_T60 l0 a1).f1)) := (blk_cell BK146.out 1).trans rfl
                                  have hcz37_2 : wr.cell? ⟨gb146, 2, none⟩ = some (.slice A145_2 ((rd_T60 l0 a1).f2).length c145_2) := (blk_cell BK146.out 2).trans rfl
                                  have hfz37_0 := blk_frozen BK146.out 0
                                  have hfz37_1 := blk_frozen BK146.out 1
                                  have hfz37_2 := blk_frozen BK146.out 2
                                  have p148 : 0 ≤ (x6_2 : Int) := of_decide_eq_true (by first | (with_reducible assumption) | assumption)
                                  have q148 : x6_2 < (((rd_T60 l0 a1).f2).length : Int) := of_decide_eq_true (by first | (with_reducible assumption) | assumption)
                                  obtain ⟨ad148, e148, hx148_0⟩ := Kd.at_int HR145_2.out x6_2 p148 q148
                                  cases e148
                                  replace hx148_0 := (HB.out.cell (World.block_lt_of_cell? w _ hx148_0)).trans hx148_0
                                  replace p148 := eq_true p148
                                  replace q148 := eq_true q148
                                  try go_wp2
                                  have n0_ := Aside0.mk (blk_drew BK146.out)
                                  have n1_ := Aside0.mk (below_drew1 HB.out)
                                  clear BK146
                                  clear HB
                                  have BK146 := n0_
                                  have HB := n1_
                                  clear n0_ n1_
                                  have p149 : 0 ≤ ((rd ((rd_T60 l0 a1).f2) x6_2) : Int) := of_decide_eq_true (by first | (with_reducible assumption) | assumption)
                                  have q149 : (rd ((rd_T60 l0 a1).f2) x6_2) < (l0.length : Int) := of_decide_eq_true (by first | (with_reducible assumption) | assumption)
                                  obtain ⟨ad149, A149_2, c149_2, e149, hx149_0, hx149_1, hx149_2, hl149_2, hi149_2⟩ := at_T60 HR0.out (rd ((rd_T60 l0 a1).f2) x6_2) p149 q149
                                  have hw149_2 := hx149_2
                                  have hw149_1 := hx149_1
                                  have hw149_0 := hx149_0
                                  obtain rfl : ad145 = ad149 := (by injection e149)
                                  replace hx149_0 := (HB.out.cell (World.block_lt_of_cell? w _ hx149_0)).trans hx149_0
                                  replace hx149_1 := (HB.out.cell (World.block_lt_of_cell? w _ hx149_1)).trans hx149_1
                                  replace hx149_2 := (HB.out.cell (World.block_lt_of_cell? w _ hx149_2)).trans hx149_2
                                  have HR149_2 := Aside0.mk hi149_2
                                  have HC149_2 := Aside0.mk hl149_2
                                  clear hi149_2 hl149_2
                                  replace p149 := eq_true p149
                                  replace q149 := eq_true q149
                                  have p151 : 0 ≤ ((rd ((rd_T60 l0 a1).f2) x6_2) : Int) := of_decide_eq_true (by first | (with_reducible assumption) | assumption)
                                  have q151 : (rd ((rd_T60 l0 a1).f2) x6_2) < (l0.length : Int) := of_decide_eq_true (by first | (with_reducible assumption) | assumption)
                                  obtain ⟨ad151, A151_2, c151_2, e151, hx151_0, hx151_1, hx151_2, hl151_2, hi151_2⟩ := at_T60 HR0.out (rd ((rd_T60 l0 a1).f2) x6_2) p151 q151
                                  have hw151_2 := hx151_2
                                  have hw151_1 := hx151_1
                                  have hw151_0 := hx151_0
                                  obtain rfl : ad145 = ad151 := (by injection e151)
                                  replace hx151_0 := (HB.out.cell (World.block_lt_of_cell? w _ hx151_0)).trans hx151_0
                                  replace hx151_1 := (HB.out.cell (World.block_lt_of_cell? w _ hx151_1)).trans hx151_1
                                  replace hx151_2 := (HB.out.cell (World.block_lt_of_cell? w _ hx151_2)).trans hx151_2
                                  have HR151_2 := Aside0.mk hi151_2
                                  have HC151_2 := Aside0.mk hl151_2
                                  clear hi151_2 hl151_2
                                  replace p151 := eq_true p151
                                  replace q151 := eq_true q151
                                  refine start_ (n := 24) (S := fun w' => w'.cell? ⟨gb146, 0, none⟩ = some (.int .i64 ((rd_T60 l0 a1).f0)) ∧ w'.cell? ⟨gb146, 1, none⟩ = some (.int .i64 ((rd_T60 l0 a1).f1)) ∧ w'.cell? ⟨gb146, 2, none⟩ = some (.slice (some ad148) ((rd_T60 l0 a1).f2).length c145_2) ∧ w'.cell? (ad145.add (((rd ((rd_T60 l0 a1).f2) x6_2)).toNat * 3)) = some (.int .i64 ((rd_T60 l0 (rd ((rd_T60 l0 a1).f2) x6_2)).f0)) ∧ w'.cell? ⟨(ad145.add (((rd ((rd_T60 l0 a1).f2) x6_2)).toNat * 3)).block, (ad145.add (((rd ((rd_T60 l0 a1).f2) x6_2)).toNat * 3)).off + 1, none⟩ = some (.int .i64 ((rd_T60 l0 (rd ((rd_T60 l0 a1).f2) x6_2)).f1)) ∧ w'.cell? ⟨(ad145.add (((rd ((rd_T60 l0 a1).f2) x6_2)).toNat * 3)).block, (ad145.add (((rd ((rd_T60 l0 a1).f2) x6_2)).toNat * 3)).off + 2, none⟩ = some (.slice A149_2 ((rd_T60 l0 (rd ((rd_T60 l0 a1).f2) x6_2)).f2).length c149_2) ∧ w'.cell? (ad145.add (((rd ((rd_T60 l0 a1).f2) x6_2)).toNat * 3)) = some (.int .i64 ((rd_T60 l0 (rd ((rd_T60 l0 a1).f2) x6_2)).f0)) ∧ w'.cell? ⟨(ad145.add (((rd ((rd_T60 l0 a1).f2) x6_2)).toNat * 3)).block, (ad145.add (((rd ((rd_T60 l0 a1).f2) x6_2)).toNat * 3)).off + 1, none⟩ = some (.int .i64 ((rd_T60 l0 (rd ((rd_T60 l0 a1).f2) x6_2)).f1)) ∧ w'.cell? ⟨(ad145.add (((rd ((rd_T60 l0 a1).f2) x6_2)).toNat * 3)).block, (ad145.add (((rd ((rd_T60 l0 a1).f2) x6_2)).toNat * 3)).off + 2, none⟩ = some (.slice A151_2 ((rd_T60 l0 (rd ((rd_T60 l0 a1).f2) x6_2)).f2).length c151_2)) (ds := []) #[false, false, false, false, false, false, false, false, false, false, false, false, false, false, false, false, false, false, false, false, false, false, false, false] (by kernel_rfl) rfl rfl ⟨(blk_cell BK146.out 0).trans rfl, (blk_cell BK146.out 1).trans rfl, (blk_cell BK146.out 2).trans rfl, ((HB.out.cell (World.block_lt_of_cell? w _ hw149_0)).trans hw149_0), ((HB.out.cell (World.block_lt_of_cell? w _ hw149_1)).trans hw149_1), ((HB.out.cell (World.block_lt_of_cell? w _ hw149_2)).trans hw149_2), ((HB.out.cell (World.block_lt_of_cell? w _ hw151_0)).trans hw151_0), ((HB.out.cell (World.block_lt_of_cell? w _ hw151_1)).trans hw151_1), ((HB.out.cell (World.block_lt_of_cell? w _ hw151_2)).trans hw151_2)⟩ (fun hHeld => ?_); refine with_tabW exactpplref19_sound.tab10 exactpplref19_sound.bits10 (fun HT_ HW_ => ?_)
                                  generalize wr.drew = w38 at BK146 HB HR149_2 HR151_2 hx149_0 hx149_1 hx149_2 hx151_0 hx151_1 hx151_2 hHeld ⊢
                                  refine pure_ (i := 0) (N := some 67) (v := ?_) (a' := ?_) #[true, false, false, false, false, false, false, false, false, false, false, false, false, false, false, false, false, false, false, false, false, false, false, false] rfl rfl (any_of HT_.out (by kernel_rfl)) (fun _ _ _ h => h) (Or.inl ⟨by rfl, ?_⟩) ?_ ?_
                                  rotate_left
                                  · intro w'
                                    go_simp
                                    with_reducible rfl
                                  rotate_left
                                  · simp only [Act.put, List.setIfInBounds_toArray, List.set_cons_zero, List.set_cons_succ, i64_w, i32_w]
                                    rfl
                                  refine pure_ (i := 1) (N := some 68) (v := ?_) (a' := ?_) #[true, true, false, false, false, false, false, false, false, false, false, false, false, false, false, false, false, false, false, false, false, false, false, false] rfl rfl (any_of HT_.out (by kernel_rfl)) (fun _ _ _ h => h) (Or.inl ⟨by rfl, ?_⟩) ?_ ?_
                                  rotate_left
                                  · intro w'
                                    go_simp
                                    with_reducible rfl
                                  rotate_left
                                  · simp only [Act.put, List.setIfInBounds_toArray, List.set_cons_zero, List.set_cons_succ, i64_w, i32_w]
                                    rfl
                                  refine pure_ (i := 2) (N := some 69) (v := ?_) (a' := ?_) #[true, true, true, false, false, false, false, false, false, false, false, false, false, false, false, false, false, false, false, false, false, false, false, false] rfl rfl (any_of HT_.out (by kernel_rfl)) (fun _ _ _ h => h) (Or.inl ⟨by rfl, ?_⟩) ?_ ?_
                                  rotate_left
                                  · intro w'
                                    go_simp
                                    with_reducible rfl
                                  rotate_left
                                  · simp only [Act.put, List.setIfInBounds_toArray, List.set_cons_zero, List.set_cons_succ, i64_w, i32_w]
                                    rfl
                                  refine pure_ (i := 3) (N := some 70) (v := ?_) (a' := ?_) #[true, true, true, true, false, false, false, false, false, false, false, false, false, false, false, false, false, false, false, false, false, false, false, false] rfl rfl (any_of HT_.out (by kernel_rfl)) (fun _ _ _ h => h) (Or.inl ⟨by rfl, ?_⟩) ?_ ?_
                                  rotate_left
                                  · intro w'
                                    go_simp
                                    with_reducible rfl
                                  rotate_left
                                  · simp only [Act.put, List.setIfInBounds_toArray, List.set_cons_zero, List.set_cons_succ, i64_w, i32_w]
                                    rfl
                                  refine pure_ (i := 4) (N := some 71) (v := ?_) (a' := ?_) #[true, true, true, true, true, false, false, false, false, false, false, false, false, false, false, false, false, false, false, false, false, false, false, false] rfl rfl (any_of HT_.out (by kernel_rfl)) (fun _ _ _ h => h) (Or.inl ⟨by rfl, ?_⟩) ?_ ?_
                                  rotate_left
                                  · intro w'
                                    go_simp
                                    with_reducible rfl
                                  rotate_left
                                  · simp only [Act.put, List.setIfInBounds_toArray, List.set_cons_zero, List.set_cons_succ, i64_w, i32_w]
                                    rfl
                                  refine pure_ (i := 5) (N := some 72) (v := ?_) (a' := ?_) #[true, true, true, true, true, true, false, false, false, false, false, false, false, false, false, false, false, false, false, false, false, false, false, false] rfl rfl (any_of HT_.out (by kernel_rfl)) (fun _ _ _ h => h) (Or.inl ⟨by rfl, ?_⟩) ?_ ?_
                                  rotate_left
                                  · intro w'
                                    go_simp
                                    with_reducible rfl
                                  rotate_left
                                  · simp only [Act.put, List.setIfInBounds_toArray, List.set_cons_zero, List.set_cons_succ, i64_w, i32_w]
                                    rfl
                                  refine pure_ (i := 6) (N := some 73) (v := ?_) (a' := ?_) #[true, true, true, true, true, true, true, false, false, false, false, false, false, false, false, false, false, false, false, false, false, false, false, false] rfl rfl (any_of HT_.out (by kernel_rfl)) (fun _ _ _ h => h) (Or.inl ⟨by rfl, ?_⟩) ?_ ?_
                                  rotate_left
                                  · intro w'
                                    go_simp
                                    with_reducible rfl
                                  rotate_left
                                  · simp only [Act.put, List.setIfInBounds_toArray, List.set_cons_zero, List.set_cons_succ, i64_w, i32_w]
                                    rfl
                                  refine pure_ (i := 7) (N := some 74) (v := ?_) (a' := ?_) #[true, true, true, true, true, true, true, true, false, false, false, false, false, false, false, false, false, false, false, false, false, false, false, false] rfl rfl (any_of HT_.out (by kernel_rfl)) (fun _ _ _ h => h) (Or.inl ⟨by rfl, ?_⟩) ?_ ?_
                                  rotate_left
                                  · intro w'
                                    go_simp
                                    with_reducible rfl
                                  rotate_left
                                  · simp only [Act.put, List.setIfInBounds_toArray, List.set_cons_zero, List.set_cons_succ, i64_w, i32_w]
                                    rfl
                                  refine pure_ (i := 8) (N := some 75) (v := ?_) (a' := ?_) #[true, true, true, true, true, true, true, true, true, false, false, false, false, false, false, false, false, false, false, false, false, false, false, false] rfl rfl (any_of HT_.out (by kernel_rfl)) (fun _ _ _ h => h) (Or.inl ⟨by rfl, ?_⟩) ?_ ?_
                                  rotate_left
                                  · intro w'
                                    go_simp
                                    with_reducible rfl
                                  rotate_left
                                  · simp only [Act.put, List.setIfInBounds_toArray, List.set_cons_zero, List.set_cons_succ, i64_w, i32_w]
                                    rfl
                                  refine pure_ (i := 9) (N := some 76) (v := ?_) (a' := ?_) #[true, true, true, true, true, true, true, true, true, true, false, false, false, false, false, false, false, false, false, false, false, false, false, false] rfl rfl (any_of HT_.out (by kernel_rfl)) (fun _ _ _ h => h) (Or.inl ⟨by rfl, ?_⟩) ?_ ?_
                                  rotate_left
                                  · intro w'
                                    go_simp
                                    with_reducible rfl
                                  rotate_left
                                  · simp only [Act.put, List.setIfInBounds_toArray, List.set_cons_zero, List.set_cons_succ, i64_w, i32_w]
                                    rfl
                                  refine pure_ (i := 10) (N := some 77) (v := ?_) (a' := ?_) #[true, true, true, true, true, true, true, true, true, true, true, false, false, false, false, false, false, false, false, false, false, false, false, false] rfl rfl (any_of HT_.out (by kernel_rfl)) (fun _ _ _ h => h) (Or.inl ⟨by rfl, ?_⟩) ?_ ?_
                                  rotate_left
                                  · intro w'
                                    go_simp
                                    with_reducible rfl
                                  rotate_left
                                  · simp only [Act.put, List.setIfInBounds_toArray, List.set_cons_zero, List.set_cons_succ, i64_w, i32_w]
                                    rfl
                                  refine take_ (i := 11) (N := some 78) (v := ?_) (a' := ?_) #[true, true, true, true, true, true, true, true, true, true, true, true, false, false, false, false, false, false, false, false, false, false, false, false] rfl rfl (take_ofW HT_.out HW_.out (by kernel_rfl)) (fun _ _ _ h => h) (Or.inl ⟨by rfl, ?_⟩) hHeld ?_ ?_
                                  rotate_left
                                  · rintro w' ⟨s0, s1, s2, s3, s4, s5, s6, s7, s8⟩
                                    go_simp
                                    with_reducible rfl
                                  rotate_left
                                  · simp only [Act.put, List.setIfInBounds_toArray, List.set_cons_zero, List.set_cons_succ, i64_w, i32_w]
                                    rfl
                                  refine one_ (i := 12) (N := some 79) #[true, true, true, true, true, true, true, true, true, true, true, true, true, false, false, false, false, false, false, false, false, false, false, false] rfl rfl (one_of HT_.out (by kernel_rfl)) (by decide) (fun K hK => ?_)
                                  refine goes_ Tryd.func55 (by kernel_rfl) rfl #[.agg #[.int .i64 ((rd_T60 l0 (rd ((rd_T60 l0 a1).f2) x6_2)).f0), .int .i64 ((rd_T60 l0 (rd ((rd_T60 l0 a1).f2) x6_2)).f1), .slice A149_2 ((rd_T60 l0 (rd ((rd_T60 l0 a1).f2) x6_2)).f2).length c149_2]] (by rfl) rfl rfl (by (try simp only [List.map_toArray, List.map_cons, List.map_nil]); first | done | rfl | (simp only [List.length_drop, List.length_take]; rfl)) ?_
                                  with_reducible refine (exactpplref19_IsBranch.calls ((rd_T60 l0 (rd ((rd_T60 l0 a1).f2) x6_2)).f0) ((rd_T60 l0 (rd ((rd_T60 l0 a1).f2) x6_2)).f1) _ _ ((rd_T60 l0 (rd ((rd_T60 l0 a1).f2) x6_2)).f2) true _ ?side1 ?side2 A31.out).mono ?_
                                  (case side1 => repeat (first | exact (Kd.C_below HR149_2.out HB.out) | (with_reducible refine Kd.C_alloc ?_ _) | (with_reducible refine Kd.C_drewN ?_ _) | (with_reducible refine Kd.C_drew ?_)))
                                  (case side2 => exact HC149_2.out)
                                  rintro e w39 ⟨rfl, hb⟩
                                  refine ⟨_, rfl, ?_⟩
                                  have n0_ := Aside0.mk (blk_below (g := gb146) (o := .cells #[.int .i64 ((rd_T60 l0 a1).f0), .int .i64 ((rd_T60 l0 a1).f1), .slice (some ad148) ((rd_T60 l0 a1).f2).length c145_2] 60 (0, 0)) (by (with_reducible repeat (first | refine blk_drewN ?_ _ | refine blk_drew ?_ | refine blk_alloc ?_ _)); exact BK146.out) hb)
                                  have n1_ := Aside0.mk (below_step (by repeat (first | (with_reducible first | exact HB.out | apply below_alloc | apply pw_below_drewN | apply below_drew1 | refine below_set ?_ GE146.out) | exact HB.out)) hb)
                                  clear BK146
                                  clear HB
                                  have BK146 := n0_
                                  have HB := n1_
                                  clear n0_ n1_
                                  (try clear hb)
                                  (try clear hb2)
                                  (try clear hk)
                                  (try clear hi)
                                  refine hK.out _ _ ⟨(blk_cell BK146.out 0).trans rfl, (blk_cell BK146.out 1).trans rfl, (blk_cell BK146.out 2).trans rfl, ((HB.out.cell (World.block_lt_of_cell? w _ hw149_0)).trans hw149_0), ((HB.out.cell (World.block_lt_of_cell? w _ hw149_1)).trans hw149_1), ((HB.out.cell (World.block_lt_of_cell? w _ hw149_2)).trans hw149_2), ((HB.out.cell (World.block_lt_of_cell? w _ hw151_0)).trans hw151_0), ((HB.out.cell (World.block_lt_of_cell? w _ hw151_1)).trans hw151_1), ((HB.out.cell (World.block_lt_of_cell? w _ hw151_2)).trans hw151_2)⟩ (fun hHeld => ?_)
                                  clear hK K
                                  refine norm_ (a' := ?_) ?_ ?_
                                  rotate_left
                                  · show Act.put _ (some 79) _ = _
                                    simp only [Act.put, List.setIfInBounds_toArray, List.set_cons_zero, List.set_cons_succ, i64_w, i32_w]
                                    rfl
                                  refine pure_ (i := 13) (N := some 80) (v := ?_) (a' := ?_) #[true, true, true, true, true, true, true, true, true, true, true, true, true, true, false, false, false, false, false, false, false, false, false, false] rfl rfl (any_of HT_.out (by kernel_rfl)) (fun _ _ _ h => h) (Or.inl ⟨by rfl, ?_⟩) ?_ ?_
                                  rotate_left
                                  · intro w'
                                    go_simp
                                    with_reducible rfl
                                  rotate_left
                                  · simp only [Act.put, List.setIfInBounds_toArray, List.set_cons_zero, List.set_cons_succ, i64_w, i32_w]
                                    rfl
                                  refine pure_ (i := 14) (N := some 81) (v := ?_) (a' := ?_) #[true, true, true, true, true, true, true, true, true, true, true, true, true, true, true, false, false, false, false, false, false, false, false, false] rfl rfl (any_of HT_.out (by kernel_rfl)) (fun _ _ _ h => h) (Or.inl ⟨by rfl, ?_⟩) ?_ ?_
                                  rotate_left
                                  · intro w'
                                    go_simp
                                    with_reducible rfl
                                  rotate_left
                                  · simp only [Act.put, List.setIfInBounds_toArray, List.set_cons_zero, List.set_cons_succ, i64_w, i32_w]
                                    rfl
                                  refine pure_ (i := 15) (N := some 82) (v := ?_) (a' := ?_) #[true, true, true, true, true, true, true, true, true, true, true, true, true, true, true, true, false, false, false, false, false, false, false, false] rfl rfl (any_of HT_.out (by kernel_rfl)) (fun _ _ _ h => h) (Or.inl ⟨by rfl, ?_⟩) ?_ ?_
                                  rotate_left
                                  · intro w'
                                    go_simp
                                    with_reducible rfl
                                  rotate_left
                                  · simp only [Act.put, List.setIfInBounds_toArray, List.set_cons_zero, List.set_cons_succ, i64_w, i32_w]
                                    rfl
                                  refine pure_ (i := 16) (N := some 83) (v := ?_) (a' := ?_) #[true, true, true, true, true, true, true, true, true, true, true, true, true, true, true, true, true, false, false, false, false, false, false, false] rfl rfl (any_of HT_.out (by kernel_rfl)) (fun _ _ _ h => h) (Or.inl ⟨by rfl, ?_⟩) ?_ ?_
                                  rotate_left
                                  · intro w'
                                    go_simp
                                    with_reducible rfl
                                  rotate_left
                                  · simp only [Act.put, List.setIfInBounds_toArray, List.set_cons_zero, List.set_cons_succ, i64_w, i32_w]
                                    rfl
                                  refine pure_ (i := 17) (N := some 84) (v := ?_) (a' := ?_) #[true, true, true, true, true, true, true, true, true, true, true, true, true, true, true, true, true, true, false, false, false, false, false, false] rfl rfl (any_of HT_.out (by kernel_rfl)) (fun _ _ _ h => h) (Or.inl ⟨by rfl, ?_⟩) ?_ ?_
                                  rotate_left
                                  · intro w'
                                    go_simp
                                    with_reducible rfl
                                  rotate_left
                                  · simp only [Act.put, List.setIfInBounds_toArray, List.set_cons_zero, List.set_cons_succ, i64_w, i32_w]
                                    rfl
                                  refine pure_ (i := 19) (N := some 86) (v := ?_) (a' := ?_) #[true, true, true, true, true, true, true, true, true, true, true, true, true, true, true, true, true, true, false, true, false, false, false, false] rfl rfl (any_of HT_.out (by kernel_rfl)) (fun _ _ _ h => h) (Or.inl ⟨by rfl, ?_⟩) ?_ ?_
                                  rotate_left
                                  · intro w'
                                    go_simp
                                    with_reducible rfl
                                  rotate_left
                                  · simp only [Act.put, List.setIfInBounds_toArray, List.set_cons_zero, List.set_cons_succ, i64_w, i32_w]
                                    rfl
                                  refine take_ (i := 18) (N := some 85) (v := ?_) (a' := ?_) #[true, true, true, true, true, true, true, true, true, true, true, true, true, true, true, true, true, true, true, true, false, false, false, false] rfl rfl (take_ofW HT_.out HW_.out (by kernel_rfl)) (fun _ _ _ h => h) (Or.inl ⟨by rfl, ?_⟩) hHeld ?_ ?_
                                  rotate_left
                                  · rintro w' ⟨s0, s1, s2, s3, s4, s5, s6, s7, s8⟩
                                    go_simp
                                    with_reducible rfl
                                  rotate_left
                                  · simp only [Act.put, List.setIfInBounds_toArray, List.set_cons_zero, List.set_cons_succ, i64_w, i32_w]
                                    rfl
                                  refine take_ (i := 20) (N := some 87) (v := ?_) (a' := ?_) #[true, true, true, true, true, true, true, true, true, true, true, true, true, true, true, true, true, true, true, true, true, false, false, false] rfl rfl (take_ofW HT_.out HW_.out (by kernel_rfl)) (fun _ _ _ h => h) (Or.inl ⟨by rfl, ?_⟩) hHeld ?_ ?_
                                  rotate_left
                                  · rintro w' ⟨s0, s1, s2, s3, s4, s5, s6, s7, s8⟩
                                    go_simp
                                    with_reducible rfl
                                  rotate_left
                                  · simp only [Act.put, List.setIfInBounds_toArray, List.set_cons_zero, List.set_cons_succ, i64_w, i32_w]
                                    rfl
                                  refine pure_ (i := 21) (N := some 88) (v := ?_) (a' := ?_) #[true, true, true, true, true, true, true, true, true, true, true, true, true, true, true, true, true, true, true, true, true, true, false, false] rfl rfl (any_of HT_.out (by kernel_rfl)) (fun _ _ _ h => h) (Or.inl ⟨by rfl, ?_⟩) ?_ ?_
                                  rotate_left
                                  · intro w'
                                    go_simp
                                    with_reducible rfl
                                  rotate_left
                                  · simp only [Act.put, List.setIfInBounds_toArray, List.set_cons_zero, List.set_cons_succ, i64_w, i32_w]
                                    rfl
                                  refine pure_ (i := 22) (N := some 89) (v := ?_) (a' := ?_) #[true, true, true, true, true, true, true, true, true, true, true, true, true, true, true, true, true, true, true, true, true, true, true, false] rfl rfl (any_of HT_.out (by kernel_rfl)) (fun _ _ _ h => h) (Or.inl ⟨by rfl, ?_⟩) ?_ ?_
                                  rotate_left
                                  · intro w'
                                    go_simp
                                    with_reducible rfl
                                  rotate_left
                                  · simp only [Act.put, List.setIfInBounds_toArray, List.set_cons_zero, List.set_cons_succ, i64_w, i32_w]
                                    rfl
                                  refine pure_ (i := 23) (N := some 90) (v := ?_) (a' := ?_) #[true, true, true, true, true, true, true, true, true, true, true, true, true, true, true, true, true, true, true, true, true, true, true, true] rfl rfl (any_of HT_.out (by kernel_rfl)) (fun _ _ _ h => h) (Or.inl ⟨by rfl, ?_⟩) ?_ ?_
                                  rotate_left
                                  · intro w'
                                    go_simp
                                    with_reducible rfl
                                  rotate_left
                                  · simp only [Act.put, List.setIfInBounds_toArray, List.set_cons_zero, List.set_cons_succ, i64_w, i32_w]
                                    rfl
                                  refine done_ (done_of HT_.out (by kernel_rfl)) ?_
                                  try go_wp2
                                  go_roundg k2
                                  case measure => have := HJ6.out; have := HK2.out; omega
                                  case rel => exact ⟨(wrap64 (x6_2 + 1)), (by first | rfl | (simp; done) | (simp [*]; done)), H', ⟨by have := HJ6.out; have := HK2.out; omega⟩, ⟨by (with_reducible repeat (first | refine blk_drewN ?_ _ | refine blk_drew ?_ | refine blk_alloc ?_ _)); exact BK146.out⟩, ⟨by repeat (first | (with_reducible first | exact HB.out | apply below_alloc | apply pw_below_drewN | apply below_drew1 | refine below_set ?_ GE146.out) | exact HB.out)⟩⟩
                              · replace c32 := Bool.eq_false_iff.mpr c32
                                subst c32
                                have H1 : (exactpplref19_sound.l0 k2 l0 a1 (wrap64 (x6_2 + 1)) ((rd_T60 l0 a1).f0) ((rd_T60 l0 a1).f1) ((rd_T60 l0 a1).f2)) = some r := by rw [if_neg (show ¬ (false = true) by decide)] at H; exact H
                                clear H
                                have H := H1
                                clear H1
                                have H' := Aside0.mk H
                                clear H
                                have hcz40_0 : wr.cell? ⟨gb146, 0, none⟩ = some (.int .i64 ((rd_T60 l0 a1).f0)) := (blk_cell BK146.out 0).trans rfl
                                have hcz40_1 : wr.cell? ⟨gb146, 1, none⟩ = some (.int .i64 ((rd_T60 l0 a1).f1)) := (blk_cell BK146.out 1).trans rfl
                                have hcz40_2 : wr.cell? ⟨gb146, 2, none⟩ = some (.slice A145_2 ((rd_T60 l0 a1).f2).length c145_2) := (blk_cell BK146.out 2).trans rfl
                                have hfz40_0 := blk_frozen BK146.out 0
                                have hfz40_1 := blk_frozen BK146.out 1
                                have hfz40_2 := blk_frozen BK146.out 2
                                have p148 : 0 ≤ (x6_2 : Int) := of_decide_eq_true (by first | (with_reducible assumption) | assumption)
                                have q148 : x6_2 < (((rd_T60 l0 a1).f2).length : Int) := of_decide_eq_true (by first | (with_reducible assumption) | assumption)
                                obtain ⟨ad148, e148, hx148_0⟩ := Kd.at_int HR145_2.out x6_2 p148 q148
                                cases e148
                                replace hx148_0 := (HB.out.cell (World.block_lt_of_cell? w _ hx148_0)).trans hx148_0
                                replace p148 := eq_true p148
                                replace q148 := eq_true q148
                                try go_wp2
                                have n0_ := Aside0.mk (blk_drew BK146.out)
                                have n1_ := Aside0.mk (below_drew1 HB.out)
                                clear BK146
                                clear HB
                                have BK146 := n0_
                                have HB := n1_
                                clear n0_ n1_
                                have p149 : 0 ≤ ((rd ((rd_T60 l0 a1).f2) x6_2) : Int) := of_decide_eq_true (by first | (with_reducible assumption) | assumption)
                                have q149 : (rd ((rd_T60 l0 a1).f2) x6_2) < (l0.length : Int) := of_decide_eq_true (by first | (with_reducible assumption) | assumption)
                                obtain ⟨ad149, A149_2, c149_2, e149, hx149_0, hx149_1, hx149_2, hl149_2, hi149_2⟩ := at_T60 HR0.out (rd ((rd_T60 l0 a1).f2) x6_2) p149 q149
                                have hw149_2 := hx149_2
                                have hw149_1 := hx149_1
                                have hw149_0 := hx149_0
                                obtain rfl : ad145 = ad149 := (by injection e149)
                                replace hx149_0 := (HB.out.cell (World.block_lt_of_cell? w _ hx149_0)).trans hx149_0
                                replace hx149_1 := (HB.out.cell (World.block_lt_of_cell? w _ hx149_1)).trans hx149_1
                                replace hx149_2 := (HB.out.cell (World.block_lt_of_cell? w _ hx149_2)).trans hx149_2
                                have HR149_2 := Aside0.mk hi149_2
                                have HC149_2 := Aside0.mk hl149_2
                                clear hi149_2 hl149_2
                                replace p149 := eq_true p149
                                replace q149 := eq_true q149
                                refine start_ (n := 24) (S := fun w' => w'.cell? (ad145.add (((rd ((rd_T60 l0 a1).f2) x6_2)).toNat * 3)) = some (.int .i64 ((rd_T60 l0 (rd ((rd_T60 l0 a1).f2) x6_2)).f0)) ∧ w'.cell? ⟨(ad145.add (((rd ((rd_T60 l0 a1).f2) x6_2)).toNat * 3)).block, (ad145.add (((rd ((rd_T60 l0 a1).f2) x6_2)).toNat * 3)).off + 1, none⟩ = some (.int .i64 ((rd_T60 l0 (rd ((rd_T60 l0 a1).f2) x6_2)).f1)) ∧ w'.cell? ⟨(ad145.add (((rd ((rd_T60 l0 a1).f2) x6_2)).toNat * 3)).block, (ad145.add (((rd ((rd_T60 l0 a1).f2) x6_2)).toNat * 3)).off + 2, none⟩ = some (.slice A149_2 ((rd_T60 l0 (rd ((rd_T60 l0 a1).f2) x6_2)).f2).length c149_2)) (ds := []) #[false, false, false, false, false, false, false, false, false, false, false, false, false, false, false, false, false, false, false, false, false, false, false, false] (by kernel_rfl) rfl rfl ⟨((HB.out.cell (World.block_lt_of_cell? w _ hw149_0)).trans hw149_0), ((HB.out.cell (World.block_lt_of_cell? w _ hw149_1)).trans hw149_1), ((HB.out.cell (World.block_lt_of_cell? w _ hw149_2)).trans hw149_2)⟩ (fun hHeld => ?_); refine with_tabW exactpplref19_sound.tab10 exactpplref19_sound.bits10 (fun HT_ HW_ => ?_)
                                generalize wr.drew = w41 at BK146 HB HR149_2 hx149_0 hx149_1 hx149_2 hHeld ⊢
                                refine pure_ (i := 0) (N := some 67) (v := ?_) (a' := ?_) #[true, false, false, false, false, false, false, false, false, false, false, false, false, false, false, false, false, false, false, false, false, false, false, false] rfl rfl (any_of HT_.out (by kernel_rfl)) (fun _ _ _ h => h) (Or.inl ⟨by rfl, ?_⟩) ?_ ?_
                                rotate_left
                                · intro w'
                                  go_simp
                                  with_reducible rfl
                                rotate_left
                                · simp only [Act.put, List.setIfInBounds_toArray, List.set_cons_zero, List.set_cons_succ, i64_w, i32_w]
                                  rfl
                                refine pure_ (i := 1) (N := some 68) (v := ?_) (a' := ?_) #[true, true, false, false, false, false, false, false, false, false, false, false, false, false, false, false, false, false, false, false, false, false, false, false] rfl rfl (any_of HT_.out (by kernel_rfl)) (fun _ _ _ h => h) (Or.inl ⟨by rfl, ?_⟩) ?_ ?_
                                rotate_left
                                · intro w'
                                  go_simp
                                  with_reducible rfl
                                rotate_left
                                · simp only [Act.put, List.setIfInBounds_toArray, List.set_cons_zero, List.set_cons_succ, i64_w, i32_w]
                                  rfl
                                refine pure_ (i := 2) (N := some 69) (v := ?_) (a' := ?_) #[true, true, true, false, false, false, false, false, false, false, false, false, false, false, false, false, false, false, false, false, false, false, false, false] rfl rfl (any_of HT_.out (by kernel_rfl)) (fun _ _ _ h => h) (Or.inl ⟨by rfl, ?_⟩) ?_ ?_
                                rotate_left
                                · intro w'
                                  go_simp
                                  with_reducible rfl
                                rotate_left
                                · simp only [Act.put, List.setIfInBounds_toArray, List.set_cons_zero, List.set_cons_succ, i64_w, i32_w]
                                  rfl
                                refine pure_ (i := 3) (N := some 70) (v := ?_) (a' := ?_) #[true, true, true, true, false, false, false, false, false, false, false, false, false, false, false, false, false, false, false, false, false, false, false, false] rfl rfl (any_of HT_.out (by kernel_rfl)) (fun _ _ _ h => h) (Or.inl ⟨by rfl, ?_⟩) ?_ ?_
                                rotate_left
                                · intro w'
                                  go_simp
                                  with_reducible rfl
                                rotate_left
                                · simp only [Act.put, List.setIfInBounds_toArray, List.set_cons_zero, List.set_cons_succ, i64_w, i32_w]
                                  rfl
                                refine pure_ (i := 4) (N := some 71) (v := ?_) (a' := ?_) #[true, true, true, true, true, false, false, false, false, false, false, false, false, false, false, false, false, false, false, false, false, false, false, false] rfl rfl (any_of HT_.out (by kernel_rfl)) (fun _ _ _ h => h) (Or.inl ⟨by rfl, ?_⟩) ?_ ?_
                                rotate_left
                                · intro w'
                                  go_simp
                                  with_reducible rfl
                                rotate_left
                                · simp only [Act.put, List.setIfInBounds_toArray, List.set_cons_zero, List.set_cons_succ, i64_w, i32_w]
                                  rfl
                                refine pure_ (i := 5) (N := some 72) (v := ?_) (a' := ?_) #[true, true, true, true, true, true, false, false, false, false, false, false, false, false, false, false, false, false, false, false, false, false, false, false] rfl rfl (any_of HT_.out (by kernel_rfl)) (fun _ _ _ h => h) (Or.inl ⟨by rfl, ?_⟩) ?_ ?_
                                rotate_left
                                · intro w'
                                  go_simp
                                  with_reducible rfl
                                rotate_left
                                · simp only [Act.put, List.setIfInBounds_toArray, List.set_cons_zero, List.set_cons_succ, i64_w, i32_w]
                                  rfl
                                refine pure_ (i := 6) (N := some 73) (v := ?_) (a' := ?_) #[true, true, true, true, true, true, true, false, false, false, false, false, false, false, false, false, false, false, false, false, false, false, false, false] rfl rfl (any_of HT_.out (by kernel_rfl)) (fun _ _ _ h => h) (Or.inl ⟨by rfl, ?_⟩) ?_ ?_
                                rotate_left
                                · intro w'
                                  go_simp
                                  with_reducible rfl
                                rotate_left
                                · simp only [Act.put, List.setIfInBounds_toArray, List.set_cons_zero, List.set_cons_succ, i64_w, i32_w]
                                  rfl
                                refine pure_ (i := 7) (N := some 74) (v := ?_) (a' := ?_) #[true, true, true, true, true, true, true, true, false, false, false, false, false, false, false, false, false, false, false, false, false, false, false, false] rfl rfl (any_of HT_.out (by kernel_rfl)) (fun _ _ _ h => h) (Or.inl ⟨by rfl, ?_⟩) ?_ ?_
                                rotate_left
                                · intro w'
                                  go_simp
                                  with_reducible rfl
                                rotate_left
                                · simp only [Act.put, List.setIfInBounds_toArray, List.set_cons_zero, List.set_cons_succ, i64_w, i32_w]
                                  rfl
                                refine pure_ (i := 8) (N := some 75) (v := ?_) (a' := ?_) #[true, true, true, true, true, true, true, true, true, false, false, false, false, false, false, false, false, false, false, false, false, false, false, false] rfl rfl (any_of HT_.out (by kernel_rfl)) (fun _ _ _ h => h) (Or.inl ⟨by rfl, ?_⟩) ?_ ?_
                                rotate_left
                                · intro w'
                                  go_simp
                                  with_reducible rfl
                                rotate_left
                                · simp only [Act.put, List.setIfInBounds_toArray, List.set_cons_zero, List.set_cons_succ, i64_w, i32_w]
                                  rfl
                                refine pure_ (i := 9) (N := some 76) (v := ?_) (a' := ?_) #[true, true, true, true, true, true, true, true, true, true, false, false, false, false, false, false, false, false, false, false, false, false, false, false] rfl rfl (any_of HT_.out (by kernel_rfl)) (fun _ _ _ h => h) (Or.inl ⟨by rfl, ?_⟩) ?_ ?_
                                rotate_left
                                · intro w'
                                  go_simp
                                  with_reducible rfl
                                rotate_left
                                · simp only [Act.put, List.setIfInBounds_toArray, List.set_cons_zero, List.set_cons_succ, i64_w, i32_w]
                                  rfl
                                refine pure_ (i := 10) (N := some 77) (v := ?_) (a' := ?_) #[true, true, true, true, true, true, true, true, true, true, true, false, false, false, false, false, false, false, false, false, false, false, false, false] rfl rfl (any_of HT_.out (by kernel_rfl)) (fun _ _ _ h => h) (Or.inl ⟨by rfl, ?_⟩) ?_ ?_
                                rotate_left
                                · intro w'
                                  go_simp
                                  with_reducible rfl
                                rotate_left
                                · simp only [Act.put, List.setIfInBounds_toArray, List.set_cons_zero, List.set_cons_succ, i64_w, i32_w]
                                  rfl
                                refine take_ (i := 11) (N := some 78) (v := ?_) (a' := ?_) #[true, true, true, true, true, true, true, true, true, true, true, true, false, false, false, false, false, false, false, false, false, false, false, false] rfl rfl (take_ofW HT_.out HW_.out (by kernel_rfl)) (fun _ _ _ h => h) (Or.inl ⟨by rfl, ?_⟩) hHeld ?_ ?_
                                rotate_left
                                · rintro w' ⟨s0, s1, s2⟩
                                  go_simp
                                  with_reducible rfl
                                rotate_left
                                · simp only [Act.put, List.setIfInBounds_toArray, List.set_cons_zero, List.set_cons_succ, i64_w, i32_w]
                                  rfl
                                refine one_ (i := 12) (N := some 79) #[true, true, true, true, true, true, true, true, true, true, true, true, true, false, false, false, false, false, false, false, false, false, false, false] rfl rfl (one_of HT_.out (by kernel_rfl)) (by decide) (fun K hK => ?_)
                                refine goes_ Tryd.func55 (by kernel_rfl) rfl #[.agg #[.int .i64 ((rd_T60 l0 (rd ((rd_T60 l0 a1).f2) x6_2)).f0), .int .i64 ((rd_T60 l0 (rd ((rd_T60 l0 a1).f2) x6_2)).f1), .slice A149_2 ((rd_T60 l0 (rd ((rd_T60 l0 a1).f2) x6_2)).f2).length c149_2]] (by rfl) rfl rfl (by (try simp only [List.map_toArray, List.map_cons, List.map_nil]); first | done | rfl | (simp only [List.length_drop, List.length_take]; rfl)) ?_
                                with_reducible refine (exactpplref19_IsBranch.calls ((rd_T60 l0 (rd ((rd_T60 l0 a1).f2) x6_2)).f0) ((rd_T60 l0 (rd ((rd_T60 l0 a1).f2) x6_2)).f1) _ _ ((rd_T60 l0 (rd ((rd_T60 l0 a1).f2) x6_2)).f2) false _ ?side1 ?side2 A31.out).mono ?_
                                (case side1 => repeat (first | exact (Kd.C_below HR149_2.out HB.out) | (with_reducible refine Kd.C_alloc ?_ _) | (with_reducible refine Kd.C_drewN ?_ _) | (with_reducible refine Kd.C_drew ?_)))
                                (case side2 => exact HC149_2.out)
                                rintro e w42 ⟨rfl, hb⟩
                                refine ⟨_, rfl, ?_⟩
                                have n0_ := Aside0.mk (blk_below (g := gb146) (o := .cells #[.int .i64 ((rd_T60 l0 a1).f0), .int .i64 ((rd_T60 l0 a1).f1), .slice (some ad148) ((rd_T60 l0 a1).f2).length c145_2] 60 (0, 0)) (by (with_reducible repeat (first | refine blk_drewN ?_ _ | refine blk_drew ?_ | refine blk_alloc ?_ _)); exact BK146.out) hb)
                                have n1_ := Aside0.mk (below_step (by repeat (first | (with_reducible first | exact HB.out | apply below_alloc | apply pw_below_drewN | apply below_drew1 | refine below_set ?_ GE146.out) | exact HB.out)) hb)
                                clear BK146
                                clear HB
                                have BK146 := n0_
                                have HB := n1_
                                clear n0_ n1_
                                (try clear hb)
                                (try clear hb2)
                                (try clear hk)
                                (try clear hi)
                                refine hK.out _ _ ⟨((HB.out.cell (World.block_lt_of_cell? w _ hw149_0)).trans hw149_0), ((HB.out.cell (World.block_lt_of_cell? w _ hw149_1)).trans hw149_1), ((HB.out.cell (World.block_lt_of_cell? w _ hw149_2)).trans hw149_2)⟩ (fun hHeld => ?_)
                                clear hK K
                                refine norm_ (a' := ?_) ?_ ?_
                                rotate_left
                                · show Act.put _ (some 79) _ = _
                                  simp only [Act.put, List.setIfInBounds_toArray, List.set_cons_zero, List.set_cons_succ, i64_w, i32_w]
                                  rfl
                                refine pure_ (i := 13) (N := some 80) (v := ?_) (a' := ?_) #[true, true, true, true, true, true, true, true, true, true, true, true, true, true, false, false, false, false, false, false, false, false, false, false] rfl rfl (any_of HT_.out (by kernel_rfl)) (fun _ _ _ h => h) (Or.inl ⟨by rfl, ?_⟩) ?_ ?_
                                rotate_left
                                · intro w'
                                  go_simp
                                  with_reducible rfl
                                rotate_left
                                · simp only [Act.put, List.setIfInBounds_toArray, List.set_cons_zero, List.set_cons_succ, i64_w, i32_w]
                                  rfl
                                refine pure_ (i := 14) (N := some 81) (v := undef) (a' := ?_) #[true, true, true, true, true, true, true, true, true, true, true, true, true, true, true, false, false, false, false, false, false, false, false, false] rfl rfl (any_of HT_.out (by kernel_rfl)) (fun _ _ _ h => h) (Or.inr ⟨by rfl, rfl⟩) ?_ ?_
                                rotate_left
                                · simp only [Act.put, List.setIfInBounds_toArray, List.set_cons_zero, List.set_cons_succ, i64_w, i32_w]
                                  rfl
                                refine pure_ (i := 15) (N := some 82) (v := undef) (a' := ?_) #[true, true, true, true, true, true, true, true, true, true, true, true, true, true, true, true, false, false, false, false, false, false, false, false] rfl rfl (any_of HT_.out (by kernel_rfl)) (fun _ _ _ h => h) (Or.inr ⟨by rfl, rfl⟩) ?_ ?_
                                rotate_left
                                · simp only [Act.put, List.setIfInBounds_toArray, List.set_cons_zero, List.set_cons_succ, i64_w, i32_w]
                                  rfl
                                refine pure_ (i := 16) (N := some 83) (v := undef) (a' := ?_) #[true, true, true, true, true, true, true, true, true, true, true, true, true, true, true, true, true, false, false, false, false, false, false, false] rfl rfl (any_of HT_.out (by kernel_rfl)) (fun _ _ _ h => h) (Or.inr ⟨by rfl, rfl⟩) ?_ ?_
                                rotate_left
                                · simp only [Act.put, List.setIfInBounds_toArray, List.set_cons_zero, List.set_cons_succ, i64_w, i32_w]
                                  rfl
                                refine pure_ (i := 17) (N := some 84) (v := undef) (a' := ?_) #[true, true, true, true, true, true, true, true, true, true, true, true, true, true, true, true, true, true, false, false, false, false, false, false] rfl rfl (any_of HT_.out (by kernel_rfl)) (fun _ _ _ h => h) (Or.inr ⟨by rfl, rfl⟩) ?_ ?_
                                rotate_left
                                · simp only [Act.put, List.setIfInBounds_toArray, List.set_cons_zero, List.set_cons_succ, i64_w, i32_w]
                                  rfl
                                refine pure_ (i := 18) (N := some 85) (v := undef) (a' := ?_) #[true, true, true, true, true, true, true, true, true, true, true, true, true, true, true, true, true, true, true, false, false, false, false, false] rfl rfl (any_of HT_.out (by kernel_rfl)) (fun _ _ _ h => h) (Or.inr ⟨by rfl, rfl⟩) ?_ ?_
                                rotate_left
                                · simp only [Act.put, List.setIfInBounds_toArray, List.set_cons_zero, List.set_cons_succ, i64_w, i32_w]
                                  rfl
                                refine pure_ (i := 19) (N := some 86) (v := undef) (a' := ?_) #[true, true, true, true, true, true, true, true, true, true, true, true, true, true, true, true, true, true, true, true, false, false, false, false] rfl rfl (any_of HT_.out (by kernel_rfl)) (fun _ _ _ h => h) (Or.inr ⟨by rfl, rfl⟩) ?_ ?_
                                rotate_left
                                · simp only [Act.put, List.setIfInBounds_toArray, List.set_cons_zero, List.set_cons_succ, i64_w, i32_w]
                                  rfl
                                refine pure_ (i := 20) (N := some 87) (v := undef) (a' := ?_) #[true, true, true, true, true, true, true, true, true, true, true, true, true, true, true, true, true, true, true, true, true, false, false, false] rfl rfl (any_of HT_.out (by kernel_rfl)) (fun _ _ _ h => h) (Or.inr ⟨by rfl, rfl⟩) ?_ ?_
                                rotate_left
                                · simp only [Act.put, List.setIfInBounds_toArray, List.set_cons_zero, List.set_cons_succ, i64_w, i32_w]
                                  rfl
                                refine pure_ (i := 21) (N := some 88) (v := undef) (a' := ?_) #[true, true, true, true, true, true, true, true, true, true, true, true, true, true, true, true, true, true, true, true, true, true, false, false] rfl rfl (any_of HT_.out (by kernel_rfl)) (fun _ _ _ h => h) (Or.inr ⟨by rfl, rfl⟩) ?_ ?_
                                rotate_left
                                · simp only [Act.put, List.setIfInBounds_toArray, List.set_cons_zero, List.set_cons_succ, i64_w, i32_w]
                                  rfl
                                refine pure_ (i := 22) (N := some 89) (v := ?_) (a' := ?_) #[true, true, true, true, true, true, true, true, true, true, true, true, true, true, true, true, true, true, true, true, true, true, true, false] rfl rfl (any_of HT_.out (by kernel_rfl)) (fun _ _ _ h => h) (Or.inl ⟨by rfl, ?_⟩) ?_ ?_
                                rotate_left
                                · intro w'
                                  go_simp
                                  with_reducible rfl
                                rotate_left
                                · simp only [Act.put, List.setIfInBounds_toArray, List.set_cons_zero, List.set_cons_succ, i64_w, i32_w]
                                  rfl
                                refine pure_ (i := 23) (N := some 90) (v := ?_) (a' := ?_) #[true, true, true, true, true, true, true, true, true, true, true, true, true, true, true, true, true, true, true, true, true, true, true, true] rfl rfl (any_of HT_.out (by kernel_rfl)) (fun _ _ _ h => h) (Or.inl ⟨by rfl, ?_⟩) ?_ ?_
                                rotate_left
                                · intro w'
                                  go_simp
                                  with_reducible rfl
                                rotate_left
                                · simp only [Act.put, List.setIfInBounds_toArray, List.set_cons_zero, List.set_cons_succ, i64_w, i32_w]
                                  rfl
                                refine done_ (done_of HT_.out (by kernel_rfl)) ?_
                                try go_wp2
                                go_roundg k2
                                case measure => have := HJ6.out; have := HK2.out; omega
                                case rel => exact ⟨(wrap64 (x6_2 + 1)), (by first | rfl | (simp; done) | (simp [*]; done)), H', ⟨by have := HJ6.out; have := HK2.out; omega⟩, ⟨by (with_reducible repeat (first | refine blk_drewN ?_ _ | refine blk_drew ?_ | refine blk_alloc ?_ _)); exact BK146.out⟩, ⟨by repeat (first | (with_reducible first | exact HB.out | apply below_alloc | apply pw_below_drewN | apply below_drew1 | refine below_set ?_ GE146.out) | exact HB.out)⟩⟩
                            · rw [if_neg c30] at H
                              exact absurd H (by simp)
                          · rw [if_neg c29] at H
                            exact absurd H (by simp)
                    · rw [if_neg c22] at H
                      exact absurd H (by simp)
                  · rw [if_neg c21] at H
                    have c21b0 : decide (x6_2 < (((rd_T60 l0 a1).f2).length : Int)) = false := decide_eq_false c21
                    clear c21
                    have H' := Aside0.mk H
                    clear H
                    have hcz43_0 : wr.cell? ⟨gb146, 0, none⟩ = some (.int .i64 ((rd_T60 l0 a1).f0)) := (blk_cell BK146.out 0).trans rfl
                    have hcz43_1 : wr.cell? ⟨gb146, 1, none⟩ = some (.int .i64 ((rd_T60 l0 a1).f1)) := (blk_cell BK146.out 1).trans rfl
                    have hcz43_2 : wr.cell? ⟨gb146, 2, none⟩ = some (.slice A145_2 ((rd_T60 l0 a1).f2).length c145_2) := (blk_cell BK146.out 2).trans rfl
                    have hfz43_0 := blk_frozen BK146.out 0
                    have hfz43_1 := blk_frozen BK146.out 1
                    have hfz43_2 := blk_frozen BK146.out 2
                    go_wp2
                    go_loopg [8] k2 (fun kq v8 w' => ∃ (x8_3 : Int), v8 = .int .i64 x8_3 ∧ Aside0 (exactpplref19_sound.l1 kq l0 a1 x8_3 ((rd_T60 l0 a1).f0) ((rd_T60 l0 a1).f1) ((rd_T60 l0 a1).f2) = some r) ∧ Aside0 (kq ≤ k2) ∧ Aside0 (w'.heap[gb146]? = some (.cells #[.int .i64 ((rd_T60 l0 a1).f0), .int .i64 ((rd_T60 l0 a1).f1), (.slice A145_2 ((rd_T60 l0 a1).f2).length c145_2)] 60 (0, 0))) ∧ Aside0 (Below w.heap.size w w'))
                    case atStart => exact ⟨(0), (by first | rfl | (simp; done) | (simp [*]; done)), H', ⟨Nat.le_refl _⟩, ⟨by (with_reducible repeat (first | refine blk_drewN ?_ _ | refine blk_drew ?_ | refine blk_alloc ?_ _)); exact BK146.out⟩, ⟨by repeat (first | (with_reducible first | exact HB.out | apply below_alloc | apply pw_below_drewN | apply below_drew1 | refine below_set ?_ GE146.out) | exact HB.out)⟩⟩
                    case round =>
                      clear H'
                      try clear c1
                      try clear p1
                      try clear q1
                      try clear hx1
                      try clear c2
                      try clear p2
                      try clear c3
                      try clear c5
                      try clear p6
                      try clear c14
                      try clear p14
                      try clear q14
                      try clear hx14
                      try clear c15
                      try clear p15
                      try clear q15
                      try clear hx15
                      try clear c21
                      try clear c21b0
                      try clear c22
                      try clear c29
                      try clear c30
                      try clear c32
                      try clear c33
                      try clear c33b0
                      try clear hcz37_0
                      try clear hcz37_1
                      try clear hcz37_2
                      try clear hcz40_0
                      try clear hcz40_1
                      try clear hcz40_2
                      try clear hcz43_0
                      try clear hcz43_1
                      try clear hcz43_2
                      try clear hfz37_0
                      try clear hfz37_1
                      try clear hfz37_2
                      try clear hfz40_0
                      try clear hfz40_1
                      try clear hfz40_2
                      try clear hfz43_0
                      try clear hfz43_1
                      try clear hfz43_2
                      try clear hx148_0
                      try clear hx149_0
                      try clear hx149_1
                      try clear hx149_2
                      try clear hx151_0
                      try clear hx151_1
                      try clear hx151_2
                      try clear p148
                      try clear p149
                      try clear p151
                      try clear q148
                      try clear q149
                      try clear q151
                      obtain ⟨x8_3, rfl, HA, HK3, BK146, HB⟩ := hrel
                      cases gk with
                      | zero => exact absurd HA.out (by simp [exactpplref19_sound.l1])
                      | succ k3 =>
                        have H := HA.out
                        clear HA
                        simp only [exactpplref19_sound.l1] at H
                        by_cases c44 : x8_3 < a1
                        · rw [if_pos c44] at H
                          have c44b0 : decide (x8_3 < a1) = true := decide_eq_true c44
                          clear c44
                          by_cases c45 : 0 ≤ x8_3
                          · rw [if_pos c45] at H
                            have c45b0 : decide (0 ≤ x8_3) = true := decide_eq_true c45
                            clear c45
                            by_cases c46 : x8_3 < (l0.length : Int)
                            · rw [if_pos c46] at H
                              have c46b0 : decide (x8_3 < (l0.length : Int)) = true := decide_eq_true c46
                              clear c46
                              by_cases c47 : ((rd_T60 l0 x8_3).f0) = ((rd_T60 l0 a1).f0)
                              · rw [if_pos c47] at H
                                have c47b0 : (((rd_T60 l0 x8_3).f0) == ((rd_T60 l0 a1).f0)) = true := beq_iff_eq.mpr c47
                                have c47b1 : (((rd_T60 l0 x8_3).f0) != ((rd_T60 l0 a1).f0)) = false := bne_eq_false_iff_eq.mpr c47
                                clear c47
                                by_cases c48 : (((rd_T60 l0 x8_3).f2).length : Int) = (((rd_T60 l0 a1).f2).length : Int)
                                · rw [if_pos c48] at H
                                  have c48b0 : ((((rd_T60 l0 x8_3).f2).length : Int) == (((rd_T60 l0 a1).f2).length : Int)) = true := beq_iff_eq.mpr c48
                                  have c48b1 : ((((rd_T60 l0 x8_3).f2).length : Int) != (((rd_T60 l0 a1).f2).length : Int)) = false := bne_eq_false_iff_eq.mpr c48
                                  have c48b2 : (((rd_T60 l0 x8_3).f2).length == ((rd_T60 l0 a1).f2).length) = true := by first | simpa using c48 | (simp at c48 ⊢; omega)
                                  clear c48
                                  have H' := Aside0.mk H
                                  clear H
                                  try go_wp2
                                  have n0_ := Aside0.mk (blk_drew BK146.out)
                                  have n1_ := Aside0.mk (below_drew1 HB.out)
                                  clear BK146
                                  clear HB
                                  have BK146 := n0_
                                  have HB := n1_
                                  clear n0_ n1_
                                  have p152 : 0 ≤ (x8_3 : Int) := of_decide_eq_true (by first | (with_reducible assumption) | assumption)
                                  have q152 : x8_3 < (l0.length : Int) := of_decide_eq_true (by first | (with_reducible assumption) | assumption)
                                  obtain ⟨ad152, A152_2, c152_2, e152, hx152_0, hx152_1, hx152_2, hl152_2, hi152_2⟩ := at_T60 HR0.out x8_3 p152 q152
                                  have hw152_2 := hx152_2
                                  have hw152_1 := hx152_1
                                  have hw152_0 := hx152_0
                                  obtain rfl : ad145 = ad152 := (by injection e152)
                                  replace hx152_0 := (HB.out.cell (World.block_lt_of_cell? w _ hx152_0)).trans hx152_0
                                  replace hx152_1 := (HB.out.cell (World.block_lt_of_cell? w _ hx152_1)).trans hx152_1
                                  replace hx152_2 := (HB.out.cell (World.block_lt_of_cell? w _ hx152_2)).trans hx152_2
                                  have HR152_2 := Aside0.mk hi152_2
                                  have HC152_2 := Aside0.mk hl152_2
                                  clear hi152_2 hl152_2
                                  replace p152 := eq_true p152
                                  replace q152 := eq_true q152
                                  have p153 : 0 ≤ (x8_3 : Int) := of_decide_eq_true (by first | (with_reducible assumption) | assumption)
                                  have q153 : x8_3 < (l0.length : Int) := of_decide_eq_true (by first | (with_reducible assumption) | assumption)
                                  obtain ⟨ad153, A153_2, c153_2, e153, hx153_0, hx153_1, hx153_2, hl153_2, hi153_2⟩ := at_T60 HR0.out x8_3 p153 q153
                                  have hw153_2 := hx153_2
                                  have hw153_1 := hx153_1
                                  have hw153_0 := hx153_0
                                  obtain rfl : ad145 = ad153 := (by injection e153)
                                  replace hx153_0 := (HB.out.cell (World.block_lt_of_cell? w _ hx153_0)).trans hx153_0
                                  replace hx153_1 := (HB.out.cell (World.block_lt_of_cell? w _ hx153_1)).trans hx153_1
                                  replace hx153_2 := (HB.out.cell (World.block_lt_of_cell? w _ hx153_2)).trans hx153_2
                                  have HR153_2 := Aside0.mk hi153_2
                                  have HC153_2 := Aside0.mk hl153_2
                                  clear hi153_2 hl153_2
                                  replace p153 := eq_true p153
                                  replace q153 := eq_true q153
                                  have ea_ := Option.some.inj (hx152_2.symm.trans hx153_2)
                                  injection ea_ with ea_ en_ ec_
                                  subst ea_
                                  subst ec_
                                  clear en_
                                  refine start_ (n := 20) (S := fun w' => w'.cell? ⟨gb146, 0, none⟩ = some (.int .i64 ((rd_T60 l0 a1).f0)) ∧ w'.cell? ⟨gb146, 1, none⟩ = some (.int .i64 ((rd_T60 l0 a1).f1)) ∧ w'.cell? ⟨gb146, 2, none⟩ = some (.slice A145_2 ((rd_T60 l0 a1).f2).length c145_2) ∧ w'.cell? (ad145.add ((x8_3).toNat * 3)) = some (.int .i64 ((rd_T60 l0 x8_3).f0)) ∧ w'.cell? ⟨(ad145.add ((x8_3).toNat * 3)).block, (ad145.add ((x8_3).toNat * 3)).off + 1, none⟩ = some (.int .i64 ((rd_T60 l0 x8_3).f1)) ∧ w'.cell? ⟨(ad145.add ((x8_3).toNat * 3)).block, (ad145.add ((x8_3).toNat * 3)).off + 2, none⟩ = some (.slice A152_2 ((rd_T60 l0 x8_3).f2).length c152_2) ∧ w'.cell? (ad145.add ((x8_3).toNat * 3)) = some (.int .i64 ((rd_T60 l0 x8_3).f0)) ∧ w'.cell? ⟨(ad145.add ((x8_3).toNat * 3)).block, (ad145.add ((x8_3).toNat * 3)).off + 1, none⟩ = some (.int .i64 ((rd_T60 l0 x8_3).f1)) ∧ w'.cell? ⟨(ad145.add ((x8_3).toNat * 3)).block, (ad145.add ((x8_3).toNat * 3)).off + 2, none⟩ = some (.slice A152_2 ((rd_T60 l0 x8_3).f2).length c152_2)) (ds := []) #[false, false, false, false, false, false, false, false, false, false, false, false, false, false, false, false, false, false, false, false] (by kernel_rfl) rfl rfl ⟨(blk_cell BK146.out 0).trans rfl, (blk_cell BK146.out 1).trans rfl, (blk_cell BK146.out 2).trans rfl, ((HB.out.cell (World.block_lt_of_cell? w _ hw152_0)).trans hw152_0), ((HB.out.cell (World.block_lt_of_cell? w _ hw152_1)).trans hw152_1), ((HB.out.cell (World.block_lt_of_cell? w _ hw152_2)).trans hw152_2), ((HB.out.cell (World.block_lt_of_cell? w _ hw153_0)).trans hw153_0), ((HB.out.cell (World.block_lt_of_cell? w _ hw153_1)).trans hw153_1), ((HB.out.cell (World.block_lt_of_cell? w _ hw153_2)).trans hw153_2)⟩ (fun hHeld => ?_); refine with_tabW exactpplref19_sound.tab15 exactpplref19_sound.bits15 (fun HT_ HW_ => ?_)
                                  generalize wr.drew = w49 at BK146 HB HR152_2 HR153_2 hx152_0 hx152_1 hx152_2 hx153_0 hx153_1 hx153_2 hHeld ⊢
                                  refine pure_ (i := 0) (N := some 96) (v := ?_) (a' := ?_) #[true, false, false, false, false, false, false, false, false, false, false, false, false, false, false, false, false, false, false, false] rfl rfl (any_of HT_.out (by kernel_rfl)) (fun _ _ _ h => h) (Or.inl ⟨by rfl, ?_⟩) ?_ ?_
                                  rotate_left
                                  · intro w'
                                    go_simp
                                    with_reducible rfl
                                  rotate_left
                                  · simp only [Act.put, List.setIfInBounds_toArray, List.set_cons_zero, List.set_cons_succ, i64_w, i32_w]
                                    rfl
                                  refine pure_ (i := 1) (N := some 97) (v := ?_) (a' := ?_) #[true, true, false, false, false, false, false, false, false, false, false, false, false, false, false, false, false, false, false, false] rfl rfl (any_of HT_.out (by kernel_rfl)) (fun _ _ _ h => h) (Or.inl ⟨by rfl, ?_⟩) ?_ ?_
                                  rotate_left
                                  · intro w'
                                    go_simp
                                    with_reducible rfl
                                  rotate_left
                                  · simp only [Act.put, List.setIfInBounds_toArray, List.set_cons_zero, List.set_cons_succ, i64_w, i32_w]
                                    rfl
                                  refine pure_ (i := 2) (N := some 98) (v := ?_) (a' := ?_) #[true, true, true, false, false, false, false, false, false, false, false, false, false, false, false, false, false, false, false, false] rfl rfl (any_of HT_.out (by kernel_rfl)) (fun _ _ _ h => h) (Or.inl ⟨by rfl, ?_⟩) ?_ ?_
                                  rotate_left
                                  · intro w'
                                    go_simp
                                    with_reducible rfl
                                  rotate_left
                                  · simp only [Act.put, List.setIfInBounds_toArray, List.set_cons_zero, List.set_cons_succ, i64_w, i32_w]
                                    rfl
                                  refine pure_ (i := 3) (N := some 99) (v := ?_) (a' := ?_) #[true, true, true, true, false, false, false, false, false, false, false, false, false, false, false, false, false, false, false, false] rfl rfl (any_of HT_.out (by kernel_rfl)) (fun _ _ _ h => h) (Or.inl ⟨by rfl, ?_⟩) ?_ ?_
                                  rotate_left
                                  · intro w'
                                    go_simp
                                    with_reducible rfl
                                  rotate_left
                                  · simp only [Act.put, List.setIfInBounds_toArray, List.set_cons_zero, List.set_cons_succ, i64_w, i32_w]
                                    rfl
                                  refine pure_ (i := 5) (N := some 101) (v := ?_) (a' := ?_) #[true, true, true, true, false, true, false, false, false, false, false, false, false, false, false, false, false, false, false, false] rfl rfl (any_of HT_.out (by kernel_rfl)) (fun _ _ _ h => h) (Or.inl ⟨by rfl, ?_⟩) ?_ ?_
                                  rotate_left
                                  · intro w'
                                    go_simp
                                    with_reducible rfl
                                  rotate_left
                                  · simp only [Act.put, List.setIfInBounds_toArray, List.set_cons_zero, List.set_cons_succ, i64_w, i32_w]
                                    rfl
                                  refine take_ (i := 4) (N := some 100) (v := ?_) (a' := ?_) #[true, true, true, true, true, true, false, false, false, false, false, false, false, false, false, false, false, false, false, false] rfl rfl (take_ofW HT_.out HW_.out (by kernel_rfl)) (fun _ _ _ h => h) (Or.inl ⟨by rfl, ?_⟩) hHeld ?_ ?_
                                  rotate_left
                                  · rintro w' ⟨s0, s1, s2, s3, s4, s5, s6, s7, s8⟩
                                    go_simp
                                    with_reducible rfl
                                  rotate_left
                                  · simp only [Act.put, List.setIfInBounds_toArray, List.set_cons_zero, List.set_cons_succ, i64_w, i32_w]
                                    rfl
                                  refine take_ (i := 6) (N := some 102) (v := ?_) (a' := ?_) #[true, true, true, true, true, true, true, false, false, false, false, false, false, false, false, false, false, false, false, false] rfl rfl (take_ofW HT_.out HW_.out (by kernel_rfl)) (fun _ _ _ h => h) (Or.inl ⟨by rfl, ?_⟩) hHeld ?_ ?_
                                  rotate_left
                                  · rintro w' ⟨s0, s1, s2, s3, s4, s5, s6, s7, s8⟩
                                    go_simp
                                    with_reducible rfl
                                  rotate_left
                                  · simp only [Act.put, List.setIfInBounds_toArray, List.set_cons_zero, List.set_cons_succ, i64_w, i32_w]
                                    rfl
                                  refine pure_ (i := 7) (N := some 103) (v := ?_) (a' := ?_) #[true, true, true, true, true, true, true, true, false, false, false, false, false, false, false, false, false, false, false, false] rfl rfl (any_of HT_.out (by kernel_rfl)) (fun _ _ _ h => h) (Or.inl ⟨by rfl, ?_⟩) ?_ ?_
                                  rotate_left
                                  · intro w'
                                    go_simp
                                    with_reducible rfl
                                  rotate_left
                                  · simp only [Act.put, List.setIfInBounds_toArray, List.set_cons_zero, List.set_cons_succ, i64_w, i32_w]
                                    rfl
                                  refine pure_ (i := 8) (N := some 104) (v := ?_) (a' := ?_) #[true, true, true, true, true, true, true, true, true, false, false, false, false, false, false, false, false, false, false, false] rfl rfl (any_of HT_.out (by kernel_rfl)) (fun _ _ _ h => h) (Or.inl ⟨by rfl, ?_⟩) ?_ ?_
                                  rotate_left
                                  · intro w'
                                    go_simp
                                    with_reducible rfl
                                  rotate_left
                                  · simp only [Act.put, List.setIfInBounds_toArray, List.set_cons_zero, List.set_cons_succ, i64_w, i32_w]
                                    rfl
                                  refine pure_ (i := 9) (N := some 105) (v := ?_) (a' := ?_) #[true, true, true, true, true, true, true, true, true, true, false, false, false, false, false, false, false, false, false, false] rfl rfl (any_of HT_.out (by kernel_rfl)) (fun _ _ _ h => h) (Or.inl ⟨by rfl, ?_⟩) ?_ ?_
                                  rotate_left
                                  · intro w'
                                    go_simp
                                    with_reducible rfl
                                  rotate_left
                                  · simp only [Act.put, List.setIfInBounds_toArray, List.set_cons_zero, List.set_cons_succ, i64_w, i32_w]
                                    rfl
                                  refine pure_ (i := 10) (N := some 106) (v := ?_) (a' := ?_) #[true, true, true, true, true, true, true, true, true, true, true, false, false, false, false, false, false, false, false, false] rfl rfl (any_of HT_.out (by kernel_rfl)) (fun _ _ _ h => h) (Or.inl ⟨by rfl, ?_⟩) ?_ ?_
                                  rotate_left
                                  · intro w'
                                    go_simp
                                    with_reducible rfl
                                  rotate_left
                                  · simp only [Act.put, List.setIfInBounds_toArray, List.set_cons_zero, List.set_cons_succ, i64_w, i32_w]
                                    rfl
                                  refine pure_ (i := 11) (N := some 107) (v := ?_) (a' := ?_) #[true, true, true, true, true, true, true, true, true, true, true, true, false, false, false, false, false, false, false, false] rfl rfl (any_of HT_.out (by kernel_rfl)) (fun _ _ _ h => h) (Or.inl ⟨by rfl, ?_⟩) ?_ ?_
                                  rotate_left
                                  · intro w'
                                    go_simp
                                    with_reducible rfl
                                  rotate_left
                                  · simp only [Act.put, List.setIfInBounds_toArray, List.set_cons_zero, List.set_cons_succ, i64_w, i32_w]
                                    rfl
                                  refine pure_ (i := 12) (N := some 108) (v := ?_) (a' := ?_) #[true, true, true, true, true, true, true, true, true, true, true, true, true, false, false, false, false, false, false, false] rfl rfl (any_of HT_.out (by kernel_rfl)) (fun _ _ _ h => h) (Or.inl ⟨by rfl, ?_⟩) ?_ ?_
                                  rotate_left
                                  · intro w'
                                    go_simp
                                    with_reducible rfl
                                  rotate_left
                                  · simp only [Act.put, List.setIfInBounds_toArray, List.set_cons_zero, List.set_cons_succ, i64_w, i32_w]
                                    rfl
                                  refine pure_ (i := 15) (N := some 111) (v := ?_) (a' := ?_) #[true, true, true, true, true, true, true, true, true, true, true, true, true, false, false, true, false, false, false, false] rfl rfl (any_of HT_.out (by kernel_rfl)) (fun _ _ _ h => h) (Or.inl ⟨by rfl, ?_⟩) ?_ ?_
                                  rotate_left
                                  · intro w'
                                    go_simp
                                    with_reducible rfl
                                  rotate_left
                                  · simp only [Act.put, List.setIfInBounds_toArray, List.set_cons_zero, List.set_cons_succ, i64_w, i32_w]
                                    rfl
                                  refine take_ (i := 13) (N := some 109) (v := ?_) (a' := ?_) #[true, true, true, true, true, true, true, true, true, true, true, true, true, true, false, true, false, false, false, false] rfl rfl (take_ofW HT_.out HW_.out (by kernel_rfl)) (fun _ _ _ h => h) (Or.inl ⟨by rfl, ?_⟩) hHeld ?_ ?_
                                  rotate_left
                                  · rintro w' ⟨s0, s1, s2, s3, s4, s5, s6, s7, s8⟩
                                    go_simp
                                    with_reducible rfl
                                  rotate_left
                                  · simp only [Act.put, List.setIfInBounds_toArray, List.set_cons_zero, List.set_cons_succ, i64_w, i32_w]
                                    rfl
                                  refine pure_ (i := 14) (N := some 110) (v := ?_) (a' := ?_) #[true, true, true, true, true, true, true, true, true, true, true, true, true, true, true, true, false, false, false, false] rfl rfl (any_of HT_.out (by kernel_rfl)) (fun _ _ _ h => h) (Or.inl ⟨by rfl, ?_⟩) ?_ ?_
                                  rotate_left
                                  · intro w'
                                    go_simp
                                    with_reducible rfl
                                  rotate_left
                                  · simp only [Act.put, List.setIfInBounds_toArray, List.set_cons_zero, List.set_cons_succ, i64_w, i32_w]
                                    rfl
                                  refine take_ (i := 16) (N := some 112) (v := ?_) (a' := ?_) #[true, true, true, true, true, true, true, true, true, true, true, true, true, true, true, true, true, false, false, false] rfl rfl (take_ofW HT_.out HW_.out (by kernel_rfl)) (fun _ _ _ h => h) (Or.inl ⟨by rfl, ?_⟩) hHeld ?_ ?_
                                  rotate_left
                                  · rintro w' ⟨s0, s1, s2, s3, s4, s5, s6, s7, s8⟩
                                    go_simp
                                    with_reducible rfl
                                  rotate_left
                                  · simp only [Act.put, List.setIfInBounds_toArray, List.set_cons_zero, List.set_cons_succ, i64_w, i32_w]
                                    rfl
                                  refine pure_ (i := 17) (N := some 113) (v := ?_) (a' := ?_) #[true, true, true, true, true, true, true, true, true, true, true, true, true, true, true, true, true, true, false, false] rfl rfl (any_of HT_.out (by kernel_rfl)) (fun _ _ _ h => h) (Or.inl ⟨by rfl, ?_⟩) ?_ ?_
                                  rotate_left
                                  · intro w'
                                    go_simp
                                    with_reducible rfl
                                  rotate_left
                                  · simp only [Act.put, List.setIfInBounds_toArray, List.set_cons_zero, List.set_cons_succ, i64_w, i32_w]
                                    rfl
                                  refine pure_ (i := 18) (N := some 114) (v := ?_) (a' := ?_) #[true, true, true, true, true, true, true, true, true, true, true, true, true, true, true, true, true, true, true, false] rfl rfl (any_of HT_.out (by kernel_rfl)) (fun _ _ _ h => h) (Or.inl ⟨by rfl, ?_⟩) ?_ ?_
                                  rotate_left
                                  · intro w'
                                    go_simp
                                    with_reducible rfl
                                  rotate_left
                                  · simp only [Act.put, List.setIfInBounds_toArray, List.set_cons_zero, List.set_cons_succ, i64_w, i32_w]
                                    rfl
                                  refine pure_ (i := 19) (N := some 115) (v := ?_) (a' := ?_) #[true, true, true, true, true, true, true, true, true, true, true, true, true, true, true, true, true, true, true, true] rfl rfl (any_of HT_.out (by kernel_rfl)) (fun _ _ _ h => h) (Or.inl ⟨by rfl, ?_⟩) ?_ ?_
                                  rotate_left
                                  · intro w'
                                    go_simp
                                    with_reducible rfl
                                  rotate_left
                                  · simp only [Act.put, List.setIfInBounds_toArray, List.set_cons_zero, List.set_cons_succ, i64_w, i32_w]
                                    rfl
                                  refine done_ (done_of HT_.out (by kernel_rfl)) ?_
                                  try go_wp2
                                  go_roundg k3
                                  case measure => have := HJ6.out; have := HK2.out; have := HK3.out; omega
                                  case rel => exact ⟨(wrap64 (x8_3 + 1)), (by first | rfl | (simp; done) | (simp [*]; done)), H', ⟨by have := HJ6.out; have := HK2.out; have := HK3.out; omega⟩, ⟨by (with_reducible repeat (first | refine blk_drewN ?_ _ | refine blk_drew ?_ | refine blk_alloc ?_ _)); exact BK146.out⟩, ⟨by repeat (first | (with_reducible first | exact HB.out | apply below_alloc | apply pw_below_drewN | apply below_drew1 | refine below_set ?_ GE146.out) | exact HB.out)⟩⟩
                                · rw [if_neg c48] at H
                                  have c48b0 : ((((rd_T60 l0 x8_3).f2).length : Int) == (((rd_T60 l0 a1).f2).length : Int)) = false := beq_eq_false_iff_ne.mpr c48
                                  have c48b1 : ((((rd_T60 l0 x8_3).f2).length : Int) != (((rd_T60 l0 a1).f2).length : Int)) = true := bne_iff_ne.mpr c48
                                  have c48b2 : (((rd_T60 l0 x8_3).f2).length == ((rd_T60 l0 a1).f2).length) = false := by first | simpa using c48 | (simp at c48 ⊢; omega)
                                  obtain rfl := Option.some.inj H
                                  try go_wp2
                                  have n0_ := Aside0.mk (blk_drew BK146.out)
                                  have n1_ := Aside0.mk (below_drew1 HB.out)
                                  clear BK146
                                  clear HB
                                  have BK146 := n0_
                                  have HB := n1_
                                  clear n0_ n1_
                                  have p152 : 0 ≤ (x8_3 : Int) := of_decide_eq_true (by first | (with_reducible assumption) | assumption)
                                  have q152 : x8_3 < (l0.length : Int) := of_decide_eq_true (by first | (with_reducible assumption) | assumption)
                                  obtain ⟨ad152, A152_2, c152_2, e152, hx152_0, hx152_1, hx152_2, hl152_2, hi152_2⟩ := at_T60 HR0.out x8_3 p152 q152
                                  have hw152_2 := hx152_2
                                  have hw152_1 := hx152_1
                                  have hw152_0 := hx152_0
                                  obtain rfl : ad145 = ad152 := (by injection e152)
                                  replace hx152_0 := (HB.out.cell (World.block_lt_of_cell? w _ hx152_0)).trans hx152_0
                                  replace hx152_1 := (HB.out.cell (World.block_lt_of_cell? w _ hx152_1)).trans hx152_1
                                  replace hx152_2 := (HB.out.cell (World.block_lt_of_cell? w _ hx152_2)).trans hx152_2
                                  have HR152_2 := Aside0.mk hi152_2
                                  have HC152_2 := Aside0.mk hl152_2
                                  clear hi152_2 hl152_2
                                  replace p152 := eq_true p152
                                  replace q152 := eq_true q152
                                  have p153 : 0 ≤ (x8_3 : Int) := of_decide_eq_true (by first | (with_reducible assumption) | assumption)
                                  have q153 : x8_3 < (l0.length : Int) := of_decide_eq_true (by first | (with_reducible assumption) | assumption)
                                  obtain ⟨ad153, A153_2, c153_2, e153, hx153_0, hx153_1, hx153_2, hl153_2, hi153_2⟩ := at_T60 HR0.out x8_3 p153 q153
                                  have hw153_2 := hx153_2
                                  have hw153_1 := hx153_1
                                  have hw153_0 := hx153_0
                                  obtain rfl : ad145 = ad153 := (by injection e153)
                                  replace hx153_0 := (HB.out.cell (World.block_lt_of_cell? w _ hx153_0)).trans hx153_0
                                  replace hx153_1 := (HB.out.cell (World.block_lt_of_cell? w _ hx153_1)).trans hx153_1
                                  replace hx153_2 := (HB.out.cell (World.block_lt_of_cell? w _ hx153_2)).trans hx153_2
                                  have HR153_2 := Aside0.mk hi153_2
                                  have HC153_2 := Aside0.mk hl153_2
                                  clear hi153_2 hl153_2
                                  replace p153 := eq_true p153
                                  replace q153 := eq_true q153
                                  have ea_ := Option.some.inj (hx152_2.symm.trans hx153_2)
                                  injection ea_ with ea_ en_ ec_
                                  subst ea_
                                  subst ec_
                                  clear en_
                                  refine start_ (n := 20) (S := fun w' => w'.cell? ⟨gb146, 0, none⟩ = some (.int .i64 ((rd_T60 l0 a1).f0)) ∧ w'.cell? ⟨gb146, 1, none⟩ = some (.int .i64 ((rd_T60 l0 a1).f1)) ∧ w'.cell? ⟨gb146, 2, none⟩ = some (.slice A145_2 ((rd_T60 l0 a1).f2).length c145_2) ∧ w'.cell? (ad145.add ((x8_3).toNat * 3)) = some (.int .i64 ((rd_T60 l0 x8_3).f0)) ∧ w'.cell? ⟨(ad145.add ((x8_3).toNat * 3)).block, (ad145.add ((x8_3).toNat * 3)).off + 1, none⟩ = some (.int .i64 ((rd_T60 l0 x8_3).f1)) ∧ w'.cell? ⟨(ad145.add ((x8_3).toNat * 3)).block, (ad145.add ((x8_3).toNat * 3)).off + 2, none⟩ = some (.slice A152_2 ((rd_T60 l0 x8_3).f2).length c152_2) ∧ w'.cell? (ad145.add ((x8_3).toNat * 3)) = some (.int .i64 ((rd_T60 l0 x8_3).f0)) ∧ w'.cell? ⟨(ad145.add ((x8_3).toNat * 3)).block, (ad145.add ((x8_3).toNat * 3)).off + 1, none⟩ = some (.int .i64 ((rd_T60 l0 x8_3).f1)) ∧ w'.cell? ⟨(ad145.add ((x8_3).toNat * 3)).block, (ad145.add ((x8_3).toNat * 3)).off + 2, none⟩ = some (.slice A152_2 ((rd_T60 l0 x8_3).f2).length c152_2)) (ds := []) #[false, false, false, false, false, false, false, false, false, false, false, false, false, false, false, false, false, false, false, false] (by kernel_rfl) rfl rfl ⟨(blk_cell BK146.out 0).trans rfl, (blk_cell BK146.out 1).trans rfl, (blk_cell BK146.out 2).trans rfl, ((HB.out.cell (World.block_lt_of_cell? w _ hw152_0)).trans hw152_0), ((HB.out.cell (World.block_lt_of_cell? w _ hw152_1)).trans hw152_1), ((HB.out.cell (World.block_lt_of_cell? w _ hw152_2)).trans hw152_2), ((HB.out.cell (World.block_lt_of_cell? w _ hw153_0)).trans hw153_0), ((HB.out.cell (World.block_lt_of_cell? w _ hw153_1)).trans hw153_1), ((HB.out.cell (World.block_lt_of_cell? w _ hw153_2)).trans hw153_2)⟩ (fun hHeld => ?_); refine with_tabW exactpplref19_sound.tab15 exactpplref19_sound.bits15 (fun HT_ HW_ => ?_)
                                  generalize wr.drew = w50 at BK146 HB HR152_2 HR153_2 hx152_0 hx152_1 hx152_2 hx153_0 hx153_1 hx153_2 hHeld ⊢
                                  refine pure_ (i := 0) (N := some 96) (v := ?_) (a' := ?_) #[true, false, false, false, false, false, false, false, false, false, false, false, false, false, false, false, false, false, false, false] rfl rfl (any_of HT_.out (by kernel_rfl)) (fun _ _ _ h => h) (Or.inl ⟨by rfl, ?_⟩) ?_ ?_
                                  rotate_left
                                  · intro w'
                                    go_simp
                                    with_reducible rfl
                                  rotate_left
                                  · simp only [Act.put, List.setIfInBounds_toArray, List.set_cons_zero, List.set_cons_succ, i64_w, i32_w]
                                    rfl
                                  refine pure_ (i := 1) (N := some 97) (v := ?_) (a' := ?_) #[true, true, false, false, false, false, false, false, false, false, false, false, false, false, false, false, false, false, false, false] rfl rfl (any_of HT_.out (by kernel_rfl)) (fun _ _ _ h => h) (Or.inl ⟨by rfl, ?_⟩) ?_ ?_
                                  rotate_left
                                  · intro w'
                                    go_simp
                                    with_reducible rfl
                                  rotate_left
                                  · simp only [Act.put, List.setIfInBounds_toArray, List.set_cons_zero, List.set_cons_succ, i64_w, i32_w]
                                    rfl
                                  refine pure_ (i := 2) (N := some 98) (v := ?_) (a' := ?_) #[true, true, true, false, false, false, false, false, false, false, false, false, false, false, false, false, false, false, false, false] rfl rfl (any_of HT_.out (by kernel_rfl)) (fun _ _ _ h => h) (Or.inl ⟨by rfl, ?_⟩) ?_ ?_
                                  rotate_left
                                  · intro w'
                                    go_simp
                                    with_reducible rfl
                                  rotate_left
                                  · simp only [Act.put, List.setIfInBounds_toArray, List.set_cons_zero, List.set_cons_succ, i64_w, i32_w]
                                    rfl
                                  refine pure_ (i := 3) (N := some 99) (v := ?_) (a' := ?_) #[true, true, true, true, false, false, false, false, false, false, false, false, false, false, false, false, false, false, false, false] rfl rfl (any_of HT_.out (by kernel_rfl)) (fun _ _ _ h => h) (Or.inl ⟨by rfl, ?_⟩) ?_ ?_
                                  rotate_left
                                  · intro w'
                                    go_simp
                                    with_reducible rfl
                                  rotate_left
                                  · simp only [Act.put, List.setIfInBounds_toArray, List.set_cons_zero, List.set_cons_succ, i64_w, i32_w]
                                    rfl
                                  refine pure_ (i := 5) (N := some 101) (v := ?_) (a' := ?_) #[true, true, true, true, false, true, false, false, false, false, false, false, false, false, false, false, false, false, false, false] rfl rfl (any_of HT_.out (by kernel_rfl)) (fun _ _ _ h => h) (Or.inl ⟨by rfl, ?_⟩) ?_ ?_
                                  rotate_left
                                  · intro w'
                                    go_simp
                                    with_reducible rfl
                                  rotate_left
                                  · simp only [Act.put, List.setIfInBounds_toArray, List.set_cons_zero, List.set_cons_succ, i64_w, i32_w]
                                    rfl
                                  refine take_ (i := 4) (N := some 100) (v := ?_) (a' := ?_) #[true, true, true, true, true, true, false, false, false, false, false, false, false, false, false, false, false, false, false, false] rfl rfl (take_ofW HT_.out HW_.out (by kernel_rfl)) (fun _ _ _ h => h) (Or.inl ⟨by rfl, ?_⟩) hHeld ?_ ?_
                                  rotate_left
                                  · rintro w' ⟨s0, s1, s2, s3, s4, s5, s6, s7, s8⟩
                                    go_simp
                                    with_reducible rfl
                                  rotate_left
                                  · simp only [Act.put, List.setIfInBounds_toArray, List.set_cons_zero, List.set_cons_succ, i64_w, i32_w]
                                    rfl
                                  refine take_ (i := 6) (N := some 102) (v := ?_) (a' := ?_) #[true, true, true, true, true, true, true, false, false, false, false, false, false, false, false, false, false, false, false, false] rfl rfl (take_ofW HT_.out HW_.out (by kernel_rfl)) (fun _ _ _ h => h) (Or.inl ⟨by rfl, ?_⟩) hHeld ?_ ?_
                                  rotate_left
                                  · rintro w' ⟨s0, s1, s2, s3, s4, s5, s6, s7, s8⟩
                                    go_simp
                                    with_reducible rfl
                                  rotate_left
                                  · simp only [Act.put, List.setIfInBounds_toArray, List.set_cons_zero, List.set_cons_succ, i64_w, i32_w]
                                    rfl
                                  refine pure_ (i := 7) (N := some 103) (v := ?_) (a' := ?_) #[true, true, true, true, true, true, true, true, false, false, false, false, false, false, false, false, false, false, false, false] rfl rfl (any_of HT_.out (by kernel_rfl)) (fun _ _ _ h => h) (Or.inl ⟨by rfl, ?_⟩) ?_ ?_
                                  rotate_left
                                  · intro w'
                                    go_simp
                                    with_reducible rfl
                                  rotate_left
                                  · simp only [Act.put, List.setIfInBounds_toArray, List.set_cons_zero, List.set_cons_succ, i64_w, i32_w]
                                    rfl
                                  refine pure_ (i := 8) (N := some 104) (v := ?_) (a' := ?_) #[true, true, true, true, true, true, true, true, true, false, false, false, false, false, false, false, false, false, false, false] rfl rfl (any_of HT_.out (by kernel_rfl)) (fun _ _ _ h => h) (Or.inl ⟨by rfl, ?_⟩) ?_ ?_
                                  rotate_left
                                  · intro w'
                                    go_simp
                                    with_reducible rfl
                                  rotate_left
                                  · simp only [Act.put, List.setIfInBounds_toArray, List.set_cons_zero, List.set_cons_succ, i64_w, i32_w]
                                    rfl
                                  refine pure_ (i := 9) (N := some 105) (v := ?_) (a' := ?_) #[true, true, true, true, true, true, true, true, true, true, false, false, false, false, false, false, false, false, false, false] rfl rfl (any_of HT_.out (by kernel_rfl)) (fun _ _ _ h => h) (Or.inl ⟨by rfl, ?_⟩) ?_ ?_
                                  rotate_left
                                  · intro w'
                                    go_simp
                                    with_reducible rfl
                                  rotate_left
                                  · simp only [Act.put, List.setIfInBounds_toArray, List.set_cons_zero, List.set_cons_succ, i64_w, i32_w]
                                    rfl
                                  refine pure_ (i := 10) (N := some 106) (v := ?_) (a' := ?_) #[true, true, true, true, true, true, true, true, true, true, true, false, false, false, false, false, false, false, false, false] rfl rfl (any_of HT_.out (by kernel_rfl)) (fun _ _ _ h => h) (Or.inl ⟨by rfl, ?_⟩) ?_ ?_
                                  rotate_left
                                  · intro w'
                                    go_simp
                                    with_reducible rfl
                                  rotate_left
                                  · simp only [Act.put, List.setIfInBounds_toArray, List.set_cons_zero, List.set_cons_succ, i64_w, i32_w]
                                    rfl
                                  refine pure_ (i := 11) (N := some 107) (v := ?_) (a' := ?_) #[true, true, true, true, true, true, true, true, true, true, true, true, false, false, false, false, false, false, false, false] rfl rfl (any_of HT_.out (by kernel_rfl)) (fun _ _ _ h => h) (Or.inl ⟨by rfl, ?_⟩) ?_ ?_
                                  rotate_left
                                  · intro w'
                                    go_simp
                                    with_reducible rfl
                                  rotate_left
                                  · simp only [Act.put, List.setIfInBounds_toArray, List.set_cons_zero, List.set_cons_succ, i64_w, i32_w]
                                    rfl
                                  refine pure_ (i := 12) (N := some 108) (v := ?_) (a' := ?_) #[true, true, true, true, true, true, true, true, true, true, true, true, true, false, false, false, false, false, false, false] rfl rfl (any_of HT_.out (by kernel_rfl)) (fun _ _ _ h => h) (Or.inl ⟨by rfl, ?_⟩) ?_ ?_
                                  rotate_left
                                  · intro w'
                                    go_simp
                                    with_reducible rfl
                                  rotate_left
                                  · simp only [Act.put, List.setIfInBounds_toArray, List.set_cons_zero, List.set_cons_succ, i64_w, i32_w]
                                    rfl
                                  refine pure_ (i := 15) (N := some 111) (v := ?_) (a' := ?_) #[true, true, true, true, true, true, true, true, true, true, true, true, true, false, false, true, false, false, false, false] rfl rfl (any_of HT_.out (by kernel_rfl)) (fun _ _ _ h => h) (Or.inl ⟨by rfl, ?_⟩) ?_ ?_
                                  rotate_left
                                  · intro w'
                                    go_simp
                                    with_reducible rfl
                                  rotate_left
                                  · simp only [Act.put, List.setIfInBounds_toArray, List.set_cons_zero, List.set_cons_succ, i64_w, i32_w]
                                    rfl
                                  refine take_ (i := 13) (N := some 109) (v := ?_) (a' := ?_) #[true, true, true, true, true, true, true, true, true, true, true, true, true, true, false, true, false, false, false, false] rfl rfl (take_ofW HT_.out HW_.out (by kernel_rfl)) (fun _ _ _ h => h) (Or.inl ⟨by rfl, ?_⟩) hHeld ?_ ?_
                                  rotate_left
                                  · rintro w' ⟨s0, s1, s2, s3, s4, s5, s6, s7, s8⟩
                                    go_simp
                                    with_reducible rfl
                                  rotate_left
                                  · simp only [Act.put, List.setIfInBounds_toArray, List.set_cons_zero, List.set_cons_succ, i64_w, i32_w]
                                    rfl
                                  refine pure_ (i := 14) (N := some 110) (v := ?_) (a' := ?_) #[true, true, true, true, true, true, true, true, true, true, true, true, true, true, true, true, false, false, false, false] rfl rfl (any_of HT_.out (by kernel_rfl)) (fun _ _ _ h => h) (Or.inl ⟨by rfl, ?_⟩) ?_ ?_
                                  rotate_left
                                  · intro w'
                                    go_simp
                                    with_reducible rfl
                                  rotate_left
                                  · simp only [Act.put, List.setIfInBounds_toArray, List.set_cons_zero, List.set_cons_succ, i64_w, i32_w]
                                    rfl
                                  refine take_ (i := 16) (N := some 112) (v := ?_) (a' := ?_) #[true, true, true, true, true, true, true, true, true, true, true, true, true, true, true, true, true, false, false, false] rfl rfl (take_ofW HT_.out HW_.out (by kernel_rfl)) (fun _ _ _ h => h) (Or.inl ⟨by rfl, ?_⟩) hHeld ?_ ?_
                                  rotate_left
                                  · rintro w' ⟨s0, s1, s2, s3, s4, s5, s6, s7, s8⟩
                                    go_simp
                                    with_reducible rfl
                                  rotate_left
                                  · simp only [Act.put, List.setIfInBounds_toArray, List.set_cons_zero, List.set_cons_succ, i64_w, i32_w]
                                    rfl
                                  refine pure_ (i := 17) (N := some 113) (v := ?_) (a' := ?_) #[true, true, true, true, true, true, true, true, true, true, true, true, true, true, true, true, true, true, false, false] rfl rfl (any_of HT_.out (by kernel_rfl)) (fun _ _ _ h => h) (Or.inl ⟨by rfl, ?_⟩) ?_ ?_
                                  rotate_left
                                  · intro w'
                                    go_simp
                                    with_reducible rfl
                                  rotate_left
                                  · simp only [Act.put, List.setIfInBounds_toArray, List.set_cons_zero, List.set_cons_succ, i64_w, i32_w]
                                    rfl
                                  refine pure_ (i := 18) (N := some 114) (v := ?_) (a' := ?_) #[true, true, true, true, true, true, true, true, true, true, true, true, true, true, true, true, true, true, true, false] rfl rfl (any_of HT_.out (by kernel_rfl)) (fun _ _ _ h => h) (Or.inl ⟨by rfl, ?_⟩) ?_ ?_
                                  rotate_left
                                  · intro w'
                                    go_simp
                                    with_reducible rfl
                                  rotate_left
                                  · simp only [Act.put, List.setIfInBounds_toArray, List.set_cons_zero, List.set_cons_succ, i64_w, i32_w]
                                    rfl
                                  refine pure_ (i := 19) (N := some 115) (v := ?_) (a' := ?_) #[true, true, true, true, true, true, true, true, true, true, true, true, true, true, true, true, true, true, true, true] rfl rfl (any_of HT_.out (by kernel_rfl)) (fun _ _ _ h => h) (Or.inl ⟨by rfl, ?_⟩) ?_ ?_
                                  rotate_left
                                  · intro w'
                                    go_simp
                                    with_reducible rfl
                                  rotate_left
                                  · simp only [Act.put, List.setIfInBounds_toArray, List.set_cons_zero, List.set_cons_succ, i64_w, i32_w]
                                    rfl
                                  refine done_ (done_of HT_.out (by kernel_rfl)) ?_
                                  try go_wp2
                                  go_ret
                                  exact ⟨by first | rfl | (simp [errW_none, errW_some] <;> rfl) | (simp [*, errW_none, errW_some] <;> rfl), by repeat (first | (with_reducible first | exact HB.out | apply below_alloc | apply pw_below_drewN | apply below_drew1 | refine below_set ?_ GE146.out) | exact HB.out)⟩
                              · rw [if_neg c47] at H
                                have c47b0 : (((rd_T60 l0 x8_3).f0) == ((rd_T60 l0 a1).f0)) = false := beq_eq_false_iff_ne.mpr c47
                                have c47b1 : (((rd_T60 l0 x8_3).f0) != ((rd_T60 l0 a1).f0)) = true := bne_iff_ne.mpr c47
                                have H' := Aside0.mk H
                                clear H
                                try go_wp2
                                have n0_ := Aside0.mk (blk_drew BK146.out)
                                have n1_ := Aside0.mk (below_drew1 HB.out)
                                clear BK146
                                clear HB
                                have BK146 := n0_
                                have HB := n1_
                                clear n0_ n1_
                                have p152 : 0 ≤ (x8_3 : Int) := of_decide_eq_true (by first | (with_reducible assumption) | assumption)
                                have q152 : x8_3 < (l0.length : Int) := of_decide_eq_true (by first | (with_reducible assumption) | assumption)
                                obtain ⟨ad152, A152_2, c152_2, e152, hx152_0, hx152_1, hx152_2, hl152_2, hi152_2⟩ := at_T60 HR0.out x8_3 p152 q152
                                have hw152_2 := hx152_2
                                have hw152_1 := hx152_1
                                have hw152_0 := hx152_0
                                obtain rfl : ad145 = ad152 := (by injection e152)
                                replace hx152_0 := (HB.out.cell (World.block_lt_of_cell? w _ hx152_0)).trans hx152_0
                                replace hx152_1 := (HB.out.cell (World.block_lt_of_cell? w _ hx152_1)).trans hx152_1
                                replace hx152_2 := (HB.out.cell (World.block_lt_of_cell? w _ hx152_2)).trans hx152_2
                                have HR152_2 := Aside0.mk hi152_2
                                have HC152_2 := Aside0.mk hl152_2
                                clear hi152_2 hl152_2
                                replace p152 := eq_true p152
                                replace q152 := eq_true q152
                                refine start_ (n := 20) (S := fun w' => w'.cell? ⟨gb146, 0, none⟩ = some (.int .i64 ((rd_T60 l0 a1).f0)) ∧ w'.cell? ⟨gb146, 1, none⟩ = some (.int .i64 ((rd_T60 l0 a1).f1)) ∧ w'.cell? ⟨gb146, 2, none⟩ = some (.slice A145_2 ((rd_T60 l0 a1).f2).length c145_2) ∧ w'.cell? (ad145.add ((x8_3).toNat * 3)) = some (.int .i64 ((rd_T60 l0 x8_3).f0)) ∧ w'.cell? ⟨(ad145.add ((x8_3).toNat * 3)).block, (ad145.add ((x8_3).toNat * 3)).off + 1, none⟩ = some (.int .i64 ((rd_T60 l0 x8_3).f1)) ∧ w'.cell? ⟨(ad145.add ((x8_3).toNat * 3)).block, (ad145.add ((x8_3).toNat * 3)).off + 2, none⟩ = some (.slice A152_2 ((rd_T60 l0 x8_3).f2).length c152_2)) (ds := []) #[false, false, false, false, false, false, false, false, false, false, false, false, false, false, false, false, false, false, false, false] (by kernel_rfl) rfl rfl ⟨(blk_cell BK146.out 0).trans rfl, (blk_cell BK146.out 1).trans rfl, (blk_cell BK146.out 2).trans rfl, ((HB.out.cell (World.block_lt_of_cell? w _ hw152_0)).trans hw152_0), ((HB.out.cell (World.block_lt_of_cell? w _ hw152_1)).trans hw152_1), ((HB.out.cell (World.block_lt_of_cell? w _ hw152_2)).trans hw152_2)⟩ (fun hHeld => ?_); refine with_tabW exactpplref19_sound.tab15 exactpplref19_sound.bits15 (fun HT_ HW_ => ?_)
                                generalize wr.drew = w51 at BK146 HB HR152_2 hx152_0 hx152_1 hx152_2 hHeld ⊢
                                refine pure_ (i := 0) (N := some 96) (v := ?_) (a' := ?_) #[true, false, false, false, false, false, false, false, false, false, false, false, false, false, false, false, false, false, false, false] rfl rfl (any_of HT_.out (by kernel_rfl)) (fun _ _ _ h => h) (Or.inl ⟨by rfl, ?_⟩) ?_ ?_
                                rotate_left
                                · intro w'
                                  go_simp
                                  with_reducible rfl
                                rotate_left
                                · simp only [Act.put, List.setIfInBounds_toArray, List.set_cons_zero, List.set_cons_succ, i64_w, i32_w]
                                  rfl
                                refine pure_ (i := 1) (N := some 97) (v := ?_) (a' := ?_) #[true, true, false, false, false, false, false, false, false, false, false, false, false, false, false, false, false, false, false, false] rfl rfl (any_of HT_.out (by kernel_rfl)) (fun _ _ _ h => h) (Or.inl ⟨by rfl, ?_⟩) ?_ ?_
                                rotate_left
                                · intro w'
                                  go_simp
                                  with_reducible rfl
                                rotate_left
                                · simp only [Act.put, List.setIfInBounds_toArray, List.set_cons_zero, List.set_cons_succ, i64_w, i32_w]
                                  rfl
                                refine pure_ (i := 2) (N := some 98) (v := ?_) (a' := ?_) #[true, true, true, false, false, false, false, false, false, false, false, false, false, false, false, false, false, false, false, false] rfl rfl (any_of HT_.out (by kernel_rfl)) (fun _ _ _ h => h) (Or.inl ⟨by rfl, ?_⟩) ?_ ?_
                                rotate_left
                                · intro w'
                                  go_simp
                                  with_reducible rfl
                                rotate_left
                                · simp only [Act.put, List.setIfInBounds_toArray, List.set_cons_zero, List.set_cons_succ, i64_w, i32_w]
                                  rfl
                                refine pure_ (i := 3) (N := some 99) (v := ?_) (a' := ?_) #[true, true, true, true, false, false, false, false, false, false, false, false, false, false, false, false, false, false, false, false] rfl rfl (any_of HT_.out (by kernel_rfl)) (fun _ _ _ h => h) (Or.inl ⟨by rfl, ?_⟩) ?_ ?_
                                rotate_left
                                · intro w'
                                  go_simp
                                  with_reducible rfl
                                rotate_left
                                · simp only [Act.put, List.setIfInBounds_toArray, List.set_cons_zero, List.set_cons_succ, i64_w, i32_w]
                                  rfl
                                refine pure_ (i := 5) (N := some 101) (v := ?_) (a' := ?_) #[true, true, true, true, false, true, false, false, false, false, false, false, false, false, false, false, false, false, false, false] rfl rfl (any_of HT_.out (by kernel_rfl)) (fun _ _ _ h => h) (Or.inl ⟨by rfl, ?_⟩) ?_ ?_
                                rotate_left
                                · intro w'
                                  go_simp
                                  with_reducible rfl
                                rotate_left
                                · simp only [Act.put, List.setIfInBounds_toArray, List.set_cons_zero, List.set_cons_succ, i64_w, i32_w]
                                  rfl
                                refine take_ (i := 4) (N := some 100) (v := ?_) (a' := ?_) #[true, true, true, true, true, true, false, false, false, false, false, false, false, false, false, false, false, false, false, false] rfl rfl (take_ofW HT_.out HW_.out (by kernel_rfl)) (fun _ _ _ h => h) (Or.inl ⟨by rfl, ?_⟩) hHeld ?_ ?_
                                rotate_left
                                · rintro w' ⟨s0, s1, s2, s3, s4, s5⟩
                                  go_simp
                                  with_reducible rfl
                                rotate_left
                                · simp only [Act.put, List.setIfInBounds_toArray, List.set_cons_zero, List.set_cons_succ, i64_w, i32_w]
                                  rfl
                                refine take_ (i := 6) (N := some 102) (v := ?_) (a' := ?_) #[true, true, true, true, true, true, true, false, false, false, false, false, false, false, false, false, false, false, false, false] rfl rfl (take_ofW HT_.out HW_.out (by kernel_rfl)) (fun _ _ _ h => h) (Or.inl ⟨by rfl, ?_⟩) hHeld ?_ ?_
                                rotate_left
                                · rintro w' ⟨s0, s1, s2, s3, s4, s5⟩
                                  go_simp
                                  with_reducible rfl
                                rotate_left
                                · simp only [Act.put, List.setIfInBounds_toArray, List.set_cons_zero, List.set_cons_succ, i64_w, i32_w]
                                  rfl
                                refine pure_ (i := 7) (N := some 103) (v := ?_) (a' := ?_) #[true, true, true, true, true, true, true, true, false, false, false, false, false, false, false, false, false, false, false, false] rfl rfl (any_of HT_.out (by kernel_rfl)) (fun _ _ _ h => h) (Or.inl ⟨by rfl, ?_⟩) ?_ ?_
                                rotate_left
                                · intro w'
                                  go_simp
                                  with_reducible rfl
                                rotate_left
                                · simp only [Act.put, List.setIfInBounds_toArray, List.set_cons_zero, List.set_cons_succ, i64_w, i32_w]
                                  rfl
                                refine pure_ (i := 8) (N := some 104) (v := ?_) (a' := ?_) #[true, true, true, true, true, true, true, true, true, false, false, false, false, false, false, false, false, false, false, false] rfl rfl (any_of HT_.out (by kernel_rfl)) (fun _ _ _ h => h) (Or.inl ⟨by rfl, ?_⟩) ?_ ?_
                                rotate_left
                                · intro w'
                                  go_simp
                                  with_reducible rfl
                                rotate_left
                                · simp only [Act.put, List.setIfInBounds_toArray, List.set_cons_zero, List.set_cons_succ, i64_w, i32_w]
                                  rfl
                                refine pure_ (i := 9) (N := some 105) (v := undef) (a' := ?_) #[true, true, true, true, true, true, true, true, true, true, false, false, false, false, false, false, false, false, false, false] rfl rfl (any_of HT_.out (by kernel_rfl)) (fun _ _ _ h => h) (Or.inr ⟨by rfl, rfl⟩) ?_ ?_
                                rotate_left
                                · simp only [Act.put, List.setIfInBounds_toArray, List.set_cons_zero, List.set_cons_succ, i64_w, i32_w]
                                  rfl
                                refine pure_ (i := 10) (N := some 106) (v := undef) (a' := ?_) #[true, true, true, true, true, true, true, true, true, true, true, false, false, false, false, false, false, false, false, false] rfl rfl (any_of HT_.out (by kernel_rfl)) (fun _ _ _ h => h) (Or.inr ⟨by rfl, rfl⟩) ?_ ?_
                                rotate_left
                                · simp only [Act.put, List.setIfInBounds_toArray, List.set_cons_zero, List.set_cons_succ, i64_w, i32_w]
                                  rfl
                                refine pure_ (i := 11) (N := some 107) (v := undef) (a' := ?_) #[true, true, true, true, true, true, true, true, true, true, true, true, false, false, false, false, false, false, false, false] rfl rfl (any_of HT_.out (by kernel_rfl)) (fun _ _ _ h => h) (Or.inr ⟨by rfl, rfl⟩) ?_ ?_
                                rotate_left
                                · simp only [Act.put, List.setIfInBounds_toArray, List.set_cons_zero, List.set_cons_succ, i64_w, i32_w]
                                  rfl
                                refine pure_ (i := 12) (N := some 108) (v := undef) (a' := ?_) #[true, true, true, true, true, true, true, true, true, true, true, true, true, false, false, false, false, false, false, false] rfl rfl (any_of HT_.out (by kernel_rfl)) (fun _ _ _ h => h) (Or.inr ⟨by rfl, rfl⟩) ?_ ?_
                                rotate_left
                                · simp only [Act.put, List.setIfInBounds_toArray, List.set_cons_zero, List.set_cons_succ, i64_w, i32_w]
                                  rfl
                                refine pure_ (i := 13) (N := some 109) (v := undef) (a' := ?_) #[true, true, true, true, true, true, true, true, true, true, true, true, true, true, false, false, false, false, false, false] rfl rfl (any_of HT_.out (by kernel_rfl)) (fun _ _ _ h => h) (Or.inr ⟨by rfl, rfl⟩) ?_ ?_
                                rotate_left
                                · simp only [Act.put, List.setIfInBounds_toArray, List.set_cons_zero, List.set_cons_succ, i64_w, i32_w]
                                  rfl
                                refine pure_ (i := 14) (N := some 110) (v := undef) (a' := ?_) #[true, true, true, true, true, true, true, true, true, true, true, true, true, true, true, false, false, false, false, false] rfl rfl (any_of HT_.out (by kernel_rfl)) (fun _ _ _ h => h) (Or.inr ⟨by rfl, rfl⟩) ?_ ?_
                                rotate_left
                                · simp only [Act.put, List.setIfInBounds_toArray, List.set_cons_zero, List.set_cons_succ, i64_w, i32_w]
                                  rfl
                                refine pure_ (i := 15) (N := some 111) (v := undef) (a' := ?_) #[true, true, true, true, true, true, true, true, true, true, true, true, true, true, true, true, false, false, false, false] rfl rfl (any_of HT_.out (by kernel_rfl)) (fun _ _ _ h => h) (Or.inr ⟨by rfl, rfl⟩) ?_ ?_
                                rotate_left
                                · simp only [Act.put, List.setIfInBounds_toArray, List.set_cons_zero, List.set_cons_succ, i64_w, i32_w]
                                  rfl
                                refine pure_ (i := 16) (N := some 112) (v := undef) (a' := ?_) #[true, true, true, true, true, true, true, true, true, true, true, true, true, true, true, true, true, false, false, false] rfl rfl (any_of HT_.out (by kernel_rfl)) (fun _ _ _ h => h) (Or.inr ⟨by rfl, rfl⟩) ?_ ?_
                                rotate_left
                                · simp only [Act.put, List.setIfInBounds_toArray, List.set_cons_zero, List.set_cons_succ, i64_w, i32_w]
                                  rfl
                                refine pure_ (i := 17) (N := some 113) (v := undef) (a' := ?_) #[true, true, true, true, true, true, true, true, true, true, true, true, true, true, true, true, true, true, false, false] rfl rfl (any_of HT_.out (by kernel_rfl)) (fun _ _ _ h => h) (Or.inr ⟨by rfl, rfl⟩) ?_ ?_
                                rotate_left
                                · simp only [Act.put, List.setIfInBounds_toArray, List.set_cons_zero, List.set_cons_succ, i64_w, i32_w]
                                  rfl
                                refine pure_ (i := 18) (N := some 114) (v := undef) (a' := ?_) #[true, true, true, true, true, true, true, true, true, true, true, true, true, true, true, true, true, true, true, false] rfl rfl (any_of HT_.out (by kernel_rfl)) (fun _ _ _ h => h) (Or.inr ⟨by rfl, rfl⟩) ?_ ?_
                                rotate_left
                                · simp only [Act.put, List.setIfInBounds_toArray, List.set_cons_zero, List.set_cons_succ, i64_w, i32_w]
                                  rfl
                                refine pure_ (i := 19) (N := some 115) (v := ?_) (a' := ?_) #[true, true, true, true, true, true, true, true, true, true, true, true, true, true, true, true, true, true, true, true] rfl rfl (any_of HT_.out (by kernel_rfl)) (fun _ _ _ h => h) (Or.inl ⟨by rfl, ?_⟩) ?_ ?_
                                rotate_left
                                · intro w'
                                  go_simp
                                  with_reducible rfl
                                rotate_left
                                · simp only [Act.put, List.setIfInBounds_toArray, List.set_cons_zero, List.set_cons_succ, i64_w, i32_w]
                                  rfl
                                refine done_ (done_of HT_.out (by kernel_rfl)) ?_
                                try go_wp2
                                go_roundg k3
                                case measure => have := HJ6.out; have := HK2.out; have := HK3.out; omega
                                case rel => exact ⟨(wrap64 (x8_3 + 1)), (by first | rfl | (simp; done) | (simp [*]; done)), H', ⟨by have := HJ6.out; have := HK2.out; have := HK3.out; omega⟩, ⟨by (with_reducible repeat (first | refine blk_drewN ?_ _ | refine blk_drew ?_ | refine blk_alloc ?_ _)); exact BK146.out⟩, ⟨by repeat (first | (with_reducible first | exact HB.out | apply below_alloc | apply pw_below_drewN | apply below_drew1 | refine below_set ?_ GE146.out) | exact HB.out)⟩⟩
                            · rw [if_neg c46] at H
                              exact absurd H (by simp)
                          · rw [if_neg c45] at H
                            exact absurd H (by simp)
                        · rw [if_neg c44] at H
                          have c44b0 : decide (x8_3 < a1) = false := decide_eq_false c44
                          clear c44
                          obtain rfl := Option.some.inj H
                          go_wp2
                          go_ret
                          exact ⟨by first | rfl | (simp [errW_none, errW_some] <;> rfl) | (simp [*, errW_none, errW_some] <;> rfl), by repeat (first | (with_reducible first | exact HB.out | apply below_alloc | apply pw_below_drewN | apply below_drew1 | refine below_set ?_ GE146.out) | exact HB.out)⟩
      · replace c6 := Bool.eq_false_iff.mpr c6
        subst c6
        have H1 : (if (((rd_T60 l0 a1).f2).length : Int) = 0 then (if ((rd_T60 l0 a1).f1) ≥ (-1073741824) then (some (decide (((rd_T60 l0 a1).f1) ≤ 1073741824))) else (some false)) else (some false)) = some r := by rw [if_neg (show ¬ (false = true) by decide)] at H; exact H
        clear H
        have H := H1
        clear H1
        by_cases c52 : (((rd_T60 l0 a1).f2).length : Int) = 0
        · rw [if_pos c52] at H
          have c52b0 : ((((rd_T60 l0 a1).f2).length : Int) == 0) = true := beq_iff_eq.mpr c52
          have c52b1 : ((((rd_T60 l0 a1).f2).length : Int) != 0) = false := bne_eq_false_iff_eq.mpr c52
          clear c52
          by_cases c53 : ((rd_T60 l0 a1).f1) ≥ (-1073741824)
          · rw [if_pos c53] at H
            have c53b0 : decide ((-1073741824) ≤ ((rd_T60 l0 a1).f1)) = true := decide_eq_true c53
            clear c53
            obtain rfl := Option.some.inj H
            have p145 : 0 ≤ (a1 : Int) := of_decide_eq_true (by first | (with_reducible assumption) | assumption)
            have q145 : a1 < (l0.length : Int) := of_decide_eq_true (by first | (with_reducible assumption) | assumption)
            obtain ⟨ad145, A145_2, c145_2, e145, hx145_0, hx145_1, hx145_2, hl145_2, hi145_2⟩ := at_T60 HR0.out a1 p145 q145
            cases e145
            have HR145_2 := Aside0.mk hi145_2
            have HC145_2 := Aside0.mk hl145_2
            clear hi145_2 hl145_2
            replace p145 := eq_true p145
            replace q145 := eq_true q145
            go_enter Tryd.func77, Tryd.ntmps77
            go_wp2_with (first | ((with_reducible refine gate_dst (N := 5) rfl ?_); (try (refine gate_guard (by rfl) ?_; dsimp only)); refine box_event ?hg (N := 5) ?hd (cs := #[.int .i64 0, .int .i64 0, .slice none 0 0]) (t := 60) ?hr ?_; (case hd => rfl); (case hg => rfl); (case hr => first | (go_simp; done) | (go_simp; rfl)); intro gb146 hg w54 hbox hb; have n0_ := Aside0.mk (below_step (by repeat (first | (with_reducible first | exact HB.out | apply below_alloc | apply pw_below_drewN | apply below_drew1) | exact HB.out)) hb); have n1_ := Aside0.mk (hbox); have n2_ := Aside0.mk ((by rw [hg]; exact (below_size (by repeat (first | (with_reducible first | exact HB.out | apply below_alloc | apply pw_below_drewN | apply below_drew1) | exact HB.out))) : w.heap.size ≤ gb146)); have n3_ := Aside0.mk ((by rw [hg]; exact (below_size (by repeat (first | (with_reducible first | exact HB.out | apply below_alloc | apply pw_below_drewN | apply below_drew1) | exact HB.out))) : w.heap.size ≤ gb146)); clear HB; have HB := n0_; have BK146 := n1_; have GW146 := n2_; have GE146 := n3_; clear n0_ n1_ n2_ n3_; clear hb hbox hg; have hcz55_0 : w54.cell? ⟨gb146, 0, none⟩ = some (.int .i64 0) := (blk_cell BK146.out 0).trans rfl; have hcz55_1 : w54.cell? ⟨gb146, 1, none⟩ = some (.int .i64 0) := (blk_cell BK146.out 1).trans rfl; have hcz55_2 : w54.cell? ⟨gb146, 2, none⟩ = some (.slice none 0 0) := (blk_cell BK146.out 2).trans rfl; have hfz55_0 := blk_frozen BK146.out 0; have hfz55_1 := blk_frozen BK146.out 1; have hfz55_2 := blk_frozen BK146.out 2) | ((with_reducible refine gate_callee (f := 55) rfl ?_); refine goesL_ (some 14) rfl rfl Tryd.func55 (by kernel_rfl) rfl #[.agg #[.int .i64 ((rd_T60 l0 a1).f0), .int .i64 ((rd_T60 l0 a1).f1), .slice A145_2 ((rd_T60 l0 a1).f2).length c145_2]] rfl (by (try simp only [List.map_toArray, List.map_cons, List.map_nil]); first | done | rfl | (simp only [List.length_drop, List.length_take]; rfl)) ?_; (with_reducible refine (exactpplref19_IsBranch.calls ((rd_T60 l0 a1).f0) ((rd_T60 l0 a1).f1) _ _ ((rd_T60 l0 a1).f2) false _ ?side1 ?side2 A5.out).mono ?_); (case side1 => exact Kd.C_below HR145_2.out (by repeat (first | (with_reducible first | exact HB.out | apply below_alloc | apply pw_below_drewN | apply below_drew1 | refine below_set ?_ GE146.out) | exact HB.out))); (case side2 => exact HC145_2.out); rintro e w56 ⟨rfl, hb⟩; refine ⟨_, rfl, ?_⟩; have n0_ := Aside0.mk (blk_below (g := gb146) (o := .cells #[.int .i64 ((rd_T60 l0 a1).f0), .int .i64 ((rd_T60 l0 a1).f1), .slice A145_2 ((rd_T60 l0 a1).f2).length c145_2] 60 (0, 0)) (by (with_reducible repeat (first | refine blk_drewN ?_ _ | refine blk_drew ?_ | refine blk_alloc ?_ _)); refine blk_put (cs := #[.int .i64 ((rd_T60 l0 a1).f0), .int .i64 ((rd_T60 l0 a1).f1), .slice none 0 0]) ?_ 2 _ rfl; (with_reducible repeat (first | refine blk_drewN ?_ _ | refine blk_drew ?_ | refine blk_alloc ?_ _)); refine blk_put (cs := #[.int .i64 ((rd_T60 l0 a1).f0), .int .i64 0, .slice none 0 0]) ?_ 1 _ rfl; (with_reducible repeat (first | refine blk_drewN ?_ _ | refine blk_drew ?_ | refine blk_alloc ?_ _)); refine blk_put (cs := #[.int .i64 0, .int .i64 0, .slice none 0 0]) ?_ 0 _ rfl; (with_reducible repeat (first | refine blk_drewN ?_ _ | refine blk_drew ?_ | refine blk_alloc ?_ _)); exact BK146.out) hb); have n1_ := Aside0.mk (below_step (by repeat (first | (with_reducible first | exact HB.out | apply below_alloc | apply pw_below_drewN | apply below_drew1 | refine below_set ?_ GE146.out) | exact HB.out)) hb); clear BK146; clear HB; have BK146 := n0_; have HB := n1_; clear n0_ n1_; (try clear hb); (try clear hb2); (try clear hk); (try clear hi); have hcz57_0 : w56.cell? ⟨gb146, 0, none⟩ = some (.int .i64 ((rd_T60 l0 a1).f0)) := (blk_cell BK146.out 0).trans rfl; have hcz57_1 : w56.cell? ⟨gb146, 1, none⟩ = some (.int .i64 ((rd_T60 l0 a1).f1)) := (blk_cell BK146.out 1).trans rfl; have hcz57_2 : w56.cell? ⟨gb146, 2, none⟩ = some (.slice A145_2 ((rd_T60 l0 a1).f2).length c145_2) := (blk_cell BK146.out 2).trans rfl; have hfz57_0 := blk_frozen BK146.out 0; have hfz57_1 := blk_frozen BK146.out 1; have hfz57_2 := blk_frozen BK146.out 2))
            go_ret
            exact ⟨by first | rfl | (simp [errW_none, errW_some] <;> rfl) | (simp [*, errW_none, errW_some] <;> rfl), by repeat (first | (with_reducible first | exact HB.out | apply below_alloc | apply pw_below_drewN | apply below_drew1 | refine below_set ?_ GE146.out) | exact HB.out)⟩
          · rw [if_neg c53] at H
            have c53b0 : decide ((-1073741824) ≤ ((rd_T60 l0 a1).f1)) = false := decide_eq_false c53
            clear c53
            obtain rfl := Option.some.inj H
            have p145 : 0 ≤ (a1 : Int) := of_decide_eq_true (by first | (with_reducible assumption) | assumption)
            have q145 : a1 < (l0.length : Int) := of_decide_eq_true (by first | (with_reducible assumption) | assumption)
            obtain ⟨ad145, A145_2, c145_2, e145, hx145_0, hx145_1, hx145_2, hl145_2, hi145_2⟩ := at_T60 HR0.out a1 p145 q145
            cases e145
            have HR145_2 := Aside0.mk hi145_2
            have HC145_2 := Aside0.mk hl145_2
            clear hi145_2 hl145_2
            replace p145 := eq_true p145
            replace q145 := eq_true q145
            go_enter Tryd.func77, Tryd.ntmps77
            go_wp2_with (first | ((with_reducible refine gate_dst (N := 5) rfl ?_); (try (refine gate_guard (by rfl) ?_; dsimp only)); refine box_event ?hg (N := 5) ?hd (cs := #[.int .i64 0, .int .i64 0, .slice none 0 0]) (t := 60) ?hr ?_; (case hd => rfl); (case hg => rfl); (case hr => first | (go_simp; done) | (go_simp; rfl)); intro gb146 hg w58 hbox hb; have n0_ := Aside0.mk (below_step (by repeat (first | (with_reducible first | exact HB.out | apply below_alloc | apply pw_below_drewN | apply below_drew1) | exact HB.out)) hb); have n1_ := Aside0.mk (hbox); have n2_ := Aside0.mk ((by rw [hg]; exact (below_size (by repeat (first | (with_reducible first | exact HB.out | apply below_alloc | apply pw_below_drewN | apply below_drew1) | exact HB.out))) : w.heap.size ≤ gb146)); have n3_ := Aside0.mk ((by rw [hg]; exact (below_size (by repeat (first | (with_reducible first | exact HB.out | apply below_alloc | apply pw_below_drewN | apply below_drew1) | exact HB.out))) : w.heap.size ≤ gb146)); clear HB; have HB := n0_; have BK146 := n1_; have GW146 := n2_; have GE146 := n3_; clear n0_ n1_ n2_ n3_; clear hb hbox hg; have hcz59_0 : w58.cell? ⟨gb146, 0, none⟩ = some (.int .i64 0) := (blk_cell BK146.out 0).trans rfl; have hcz59_1 : w58.cell? ⟨gb146, 1, none⟩ = some (.int .i64 0) := (blk_cell BK146.out 1).trans rfl; have hcz59_2 : w58.cell? ⟨gb146, 2, none⟩ = some (.slice none 0 0) := (blk_cell BK146.out 2).trans rfl; have hfz59_0 := blk_frozen BK146.out 0; have hfz59_1 := blk_frozen BK146.out 1; have hfz59_2 := blk_frozen BK146.out 2) | ((with_reducible refine gate_callee (f := 55) rfl ?_); refine goesL_ (some 14) rfl rfl Tryd.func55 (by kernel_rfl) rfl #[.agg #[.int .i64 ((rd_T60 l0 a1).f0), .int .i64 ((rd_T60 l0 a1).f1), .slice A145_2 ((rd_T60 l0 a1).f2).length c145_2]] rfl (by (try simp only [List.map_toArray, List.map_cons, List.map_nil]); first | done | rfl | (simp only [List.length_drop, List.length_take]; rfl)) ?_; (with_reducible refine (exactpplref19_IsBranch.calls ((rd_T60 l0 a1).f0) ((rd_T60 l0 a1).f1) _ _ ((rd_T60 l0 a1).f2) false _ ?side1 ?side2 A5.out).mono ?_); (case side1 => exact Kd.C_below HR145_2.out (by repeat (first | (with_reducible first | exact HB.out | apply below_alloc | apply pw_below_drewN | apply below_drew1 | refine below_set ?_ GE146.out) | exact HB.out))); (case side2 => exact HC145_2.out); rintro e w60 ⟨rfl, hb⟩; refine ⟨_, rfl, ?_⟩; have n0_ := Aside0.mk (blk_below (g := gb146) (o := .cells #[.int .i64 ((rd_T60 l0 a1).f0), .int .i64 ((rd_T60 l0 a1).f1), .slice A145_2 ((rd_T60 l0 a1).f2).length c145_2] 60 (0, 0)) (by (with_reducible repeat (first | refine blk_drewN ?_ _ | refine blk_drew ?_ | refine blk_alloc ?_ _)); refine blk_put (cs := #[.int .i64 ((rd_T60 l0 a1).f0), .int .i64 ((rd_T60 l0 a1).f1), .slice none 0 0]) ?_ 2 _ rfl; (with_reducible repeat (first | refine blk_drewN ?_ _ | refine blk_drew ?_ | refine blk_alloc ?_ _)); refine blk_put (cs := #[.int .i64 ((rd_T60 l0 a1).f0), .int .i64 0, .slice none 0 0]) ?_ 1 _ rfl; (with_reducible repeat (first | refine blk_drewN ?_ _ | refine blk_drew ?_ | refine blk_alloc ?_ _)); refine blk_put (cs := #[.int .i64 0, .int .i64 0, .slice none 0 0]) ?_ 0 _ rfl; (with_reducible repeat (first | refine blk_drewN ?_ _ | refine blk_drew ?_ | refine blk_alloc ?_ _)); exact BK146.out) hb); have n1_ := Aside0.mk (below_step (by repeat (first | (with_reducible first | exact HB.out | apply below_alloc | apply pw_below_drewN | apply below_drew1 | refine below_set ?_ GE146.out) | exact HB.out)) hb); clear BK146; clear HB; have BK146 := n0_; have HB := n1_; clear n0_ n1_; (try clear hb); (try clear hb2); (try clear hk); (try clear hi); have hcz61_0 : w60.cell? ⟨gb146, 0, none⟩ = some (.int .i64 ((rd_T60 l0 a1).f0)) := (blk_cell BK146.out 0).trans rfl; have hcz61_1 : w60.cell? ⟨gb146, 1, none⟩ = some (.int .i64 ((rd_T60 l0 a1).f1)) := (blk_cell BK146.out 1).trans rfl; have hcz61_2 : w60.cell? ⟨gb146, 2, none⟩ = some (.slice A145_2 ((rd_T60 l0 a1).f2).length c145_2) := (blk_cell BK146.out 2).trans rfl; have hfz61_0 := blk_frozen BK146.out 0; have hfz61_1 := blk_frozen BK146.out 1; have hfz61_2 := blk_frozen BK146.out 2))
            go_ret
            exact ⟨by first | rfl | (simp [errW_none, errW_some] <;> rfl) | (simp [*, errW_none, errW_some] <;> rfl), by repeat (first | (with_reducible first | exact HB.out | apply below_alloc | apply pw_below_drewN | apply below_drew1 | refine below_set ?_ GE146.out) | exact HB.out)⟩
        · rw [if_neg c52] at H
          have c52b0 : ((((rd_T60 l0 a1).f2).length : Int) == 0) = false := beq_eq_false_iff_ne.mpr c52
          have c52b1 : ((((rd_T60 l0 a1).f2).length : Int) != 0) = true := bne_iff_ne.mpr c52
          have c52b2 : ¬ (((rd_T60 l0 a1).f2) = []) := fun h_ => c52 (by rw [h_]; rfl)
          obtain rfl := Option.some.inj H
          have p145 : 0 ≤ (a1 : Int) := of_decide_eq_true (by first | (with_reducible assumption) | assumption)
          have q145 : a1 < (l0.length : Int) := of_decide_eq_true (by first | (with_reducible assumption) | assumption)
          obtain ⟨ad145, A145_2, c145_2, e145, hx145_0, hx145_1, hx145_2, hl145_2, hi145_2⟩ := at_T60 HR0.out a1 p145 q145
          cases e145
          have HR145_2 := Aside0.mk hi145_2
          have HC145_2 := Aside0.mk hl145_2
          clear hi145_2 hl145_2
          replace p145 := eq_true p145
          replace q145 := eq_true q145
          go_enter Tryd.func77, Tryd.ntmps77
          go_wp2_with (first | ((with_reducible refine gate_dst (N := 5) rfl ?_); (try (refine gate_guard (by rfl) ?_; dsimp only)); refine box_event ?hg (N := 5) ?hd (cs := #[.int .i64 0, .int .i64 0, .slice none 0 0]) (t := 60) ?hr ?_; (case hd => rfl); (case hg => rfl); (case hr => first | (go_simp; done) | (go_simp; rfl)); intro gb146 hg w62 hbox hb; have n0_ := Aside0.mk (below_step (by repeat (first | (with_reducible first | exact HB.out | apply below_alloc | apply pw_below_drewN | apply below_drew1) | exact HB.out)) hb); have n1_ := Aside0.mk (hbox); have n2_ := Aside0.mk ((by rw [hg]; exact (below_size (by repeat (first | (with_reducible first | exact HB.out | apply below_alloc | apply pw_below_drewN | apply below_drew1) | exact HB.out))) : w.heap.size ≤ gb146)); have n3_ := Aside0.mk ((by rw [hg]; exact (below_size (by repeat (first | (with_reducible first | exact HB.out | apply below_alloc | apply pw_below_drewN | apply below_drew1) | exact HB.out))) : w.heap.size ≤ gb146)); clear HB; have HB := n0_; have BK146 := n1_; have GW146 := n2_; have GE146 := n3_; clear n0_ n1_ n2_ n3_; clear hb hbox hg; have hcz63_0 : w62.cell? ⟨gb146, 0, none⟩ = some (.int .i64 0) := (blk_cell BK146.out 0).trans rfl; have hcz63_1 : w62.cell? ⟨gb146, 1, none⟩ = some (.int .i64 0) := (blk_cell BK146.out 1).trans rfl; have hcz63_2 : w62.cell? ⟨gb146, 2, none⟩ = some (.slice none 0 0) := (blk_cell BK146.out 2).trans rfl; have hfz63_0 := blk_frozen BK146.out 0; have hfz63_1 := blk_frozen BK146.out 1; have hfz63_2 := blk_frozen BK146.out 2) | ((with_reducible refine gate_callee (f := 55) rfl ?_); refine goesL_ (some 14) rfl rfl Tryd.func55 (by kernel_rfl) rfl #[.agg #[.int .i64 ((rd_T60 l0 a1).f0), .int .i64 ((rd_T60 l0 a1).f1), .slice A145_2 ((rd_T60 l0 a1).f2).length c145_2]] rfl (by (try simp only [List.map_toArray, List.map_cons, List.map_nil]); first | done | rfl | (simp only [List.length_drop, List.length_take]; rfl)) ?_; (with_reducible refine (exactpplref19_IsBranch.calls ((rd_T60 l0 a1).f0) ((rd_T60 l0 a1).f1) _ _ ((rd_T60 l0 a1).f2) false _ ?side1 ?side2 A5.out).mono ?_); (case side1 => exact Kd.C_below HR145_2.out (by repeat (first | (with_reducible first | exact HB.out | apply below_alloc | apply pw_below_drewN | apply below_drew1 | refine below_set ?_ GE146.out) | exact HB.out))); (case side2 => exact HC145_2.out); rintro e w64 ⟨rfl, hb⟩; refine ⟨_, rfl, ?_⟩; have n0_ := Aside0.mk (blk_below (g := gb146) (o := .cells #[.int .i64 ((rd_T60 l0 a1).f0), .int .i64 ((rd_T60 l0 a1).f1), .slice A145_2 ((rd_T60 l0 a1).f2).length c145_2] 60 (0, 0)) (by (with_reducible repeat (first | refine blk_drewN ?_ _ | refine blk_drew ?_ | refine blk_alloc ?_ _)); refine blk_put (cs := #[.int .i64 ((rd_T60 l0 a1).f0), .int .i64 ((rd_T60 l0 a1).f1), .slice none 0 0]) ?_ 2 _ rfl; (with_reducible repeat (first | refine blk_drewN ?_ _ | refine blk_drew ?_ | refine blk_alloc ?_ _)); refine blk_put (cs := #[.int .i64 ((rd_T60 l0 a1).f0), .int .i64 0, .slice none 0 0]) ?_ 1 _ rfl; (with_reducible repeat (first | refine blk_drewN ?_ _ | refine blk_drew ?_ | refine blk_alloc ?_ _)); refine blk_put (cs := #[.int .i64 0, .int .i64 0, .slice none 0 0]) ?_ 0 _ rfl; (with_reducible repeat (first | refine blk_drewN ?_ _ | refine blk_drew ?_ | refine blk_alloc ?_ _)); exact BK146.out) hb); have n1_ := Aside0.mk (below_step (by repeat (first | (with_reducible first | exact HB.out | apply below_alloc | apply pw_below_drewN | apply below_drew1 | refine below_set ?_ GE146.out) | exact HB.out)) hb); clear BK146; clear HB; have BK146 := n0_; have HB := n1_; clear n0_ n1_; (try clear hb); (try clear hb2); (try clear hk); (try clear hi); have hcz65_0 : w64.cell? ⟨gb146, 0, none⟩ = some (.int .i64 ((rd_T60 l0 a1).f0)) := (blk_cell BK146.out 0).trans rfl; have hcz65_1 : w64.cell? ⟨gb146, 1, none⟩ = some (.int .i64 ((rd_T60 l0 a1).f1)) := (blk_cell BK146.out 1).trans rfl; have hcz65_2 : w64.cell? ⟨gb146, 2, none⟩ = some (.slice A145_2 ((rd_T60 l0 a1).f2).length c145_2) := (blk_cell BK146.out 2).trans rfl; have hfz65_0 := blk_frozen BK146.out 0; have hfz65_1 := blk_frozen BK146.out 1; have hfz65_2 := blk_frozen BK146.out 2))
          go_ret
          exact ⟨by first | rfl | (simp [errW_none, errW_some] <;> rfl) | (simp [*, errW_none, errW_some] <;> rfl), by repeat (first | (with_reducible first | exact HB.out | apply below_alloc | apply pw_below_drewN | apply below_drew1 | refine below_set ?_ GE146.out) | exact HB.out)⟩
    · rw [if_neg c4] at H
      exact absurd H (by simp)
  · rw [if_neg c3] at H
    exact absurd H (by simp)

end Go.Proofs.YtopbjginpmdebaaDoor.K
namespace Go.Proofs.YtopbjginpmdebaaDoor.K
open Go.RowKit Go.Proofs.YtopbjginpmdebaaDoorW.PrintWords Go.Proofs.YtopbjginpmdebaaDoorW.PrintLast Go.Proofs.YtopbjginpmdebaaDoorW.PrintMore
attribute [local go_sem] max2_int min2_int max_two min_two max_three min_three max_four min_four   -- for this text's walks alone
set_option linter.unusedVariables false
set_option linter.unusedSimpArgs false

/-! ### exactpplref19_Graph: function 67 -/
def exactpplref19_Graph.l0 : Nat → List (S60) → Int → Option (Bool)
  | 0, _, _ => none
  | k + 1, x0, x3 => if x3 < (x0.length : Int) then ((exactpplref19_sound.f k x0 x3).bind fun t154 => (if t154 = true then (exactpplref19_Graph.l0 k x0 (wrap64 (x3 + 1))) else (some false))) else (some (decide ((x0.length : Int) > 0)))
def exactpplref19_Graph.f (k : Nat) (l0 : List (S60)) : Option (Bool) := exactpplref19_Graph.l0 k l0 0
theorem exactpplref19_Graph.mono_l : ∀ k, (∀ y0 y1, LeO (exactpplref19_Graph.l0 k y0 y1) (exactpplref19_Graph.l0 (k + 1) y0 y1))
  | 0 => fun _ _ r h => by simp [exactpplref19_Graph.l0] at h
  | k + 1 => by
    have ih0 := exactpplref19_Graph.mono_l k
    · intro y0 y1
      unfold exactpplref19_Graph.l0
      repeat' first
      | (with_reducible exact ih0 _ _)
      | (with_reducible exact exactpplref19_sound.mono _ _ _)
      | (with_reducible exact LeO.refl _)
      | (with_reducible exact LeO.none _)
      | (with_reducible refine LeO.ite ?_ ?_)
      | (with_reducible refine LeO.bind ?_ (fun _ => ?_))
      | exact ih0 _ _
      | exact exactpplref19_sound.mono _ _ _
      | exact LeO.none _
      | refine LeO.ite ?_ ?_
      | refine LeO.bind ?_ (fun _ => ?_)
theorem exactpplref19_Graph.mono : ∀ a0 k, LeO (exactpplref19_Graph.f k a0) (exactpplref19_Graph.f (k + 1) a0) := by
  intro a0 k
  have ih0 := exactpplref19_Graph.mono_l k
  unfold exactpplref19_Graph.f
  repeat' first
      | (with_reducible exact ih0 _ _)
      | (with_reducible exact exactpplref19_sound.mono _ _ _)
      | (with_reducible exact LeO.refl _)
      | (with_reducible exact LeO.none _)
      | (with_reducible refine LeO.ite ?_ ?_)
      | (with_reducible refine LeO.bind ?_ (fun _ => ?_))
      | exact ih0 _ _
      | exact exactpplref19_sound.mono _ _ _
      | exact LeO.none _
      | refine LeO.ite ?_ ?_
      | refine LeO.bind ?_ (fun _ => ?_)
set_option maxHeartbeats 8000000 in
set_option maxRecDepth 100000 in
theorem exactpplref19_Graph.calls (k : Nat) (A0 : Option Addr) (c0 : Nat) (l0 : List (S60)) (r : Bool) (w : World) (hr0 : Kd.C k60 w A0 l0.length l0) (hc0 : l0.length ≤ c0) (h : exactpplref19_Graph.f k l0 = some r) :
    Calls Tryd.prog 67 #[.slice A0 l0.length c0] w fun e w' => e = .returned (.bool r) ∧ Below w.heap.size w w' := by
  have HR0 := Aside0.mk hr0
  have HC0 := Aside0.mk hc0
  clear hr0 hc0
  have HB := Aside0.mk (Below.refl w.heap.size w)
  have H : (exactpplref19_Graph.l0 k l0 0) = some r := h
  clear h
  have H' := Aside0.mk H
  clear H
  go_enter Tryd.func67, Tryd.ntmps67
  go_wp2
  go_loopg [3] k (fun kq v3 w' => ∃ (x3_1 : Int), v3 = .int .i64 x3_1 ∧ Aside0 (exactpplref19_Graph.l0 kq l0 x3_1 = some r) ∧ Aside0 (kq ≤ k) ∧ Aside0 (Below w.heap.size w w'))
  case atStart => exact ⟨(0), (by first | rfl | (simp; done) | (simp [*]; done)), H', ⟨Nat.le_refl _⟩, ⟨by repeat (first | (with_reducible first | exact HB.out | apply below_alloc | apply pw_below_drewN | apply below_drew1) | exact HB.out)⟩⟩
  case round =>
    clear H'
    obtain ⟨x3_1, rfl, HA, HK1, HB⟩ := hrel
    cases gk with
    | zero => exact absurd HA.out (by simp [exactpplref19_Graph.l0])
    | succ k1 =>
      have H := HA.out
      clear HA
      simp only [exactpplref19_Graph.l0] at H
      by_cases c2 : x3_1 < (l0.length : Int)
      · rw [if_pos c2] at H
        have c2b0 : decide (x3_1 < (l0.length : Int)) = true := decide_eq_true c2
        clear c2
        replace H := Option.bind_eq_some_iff.mp H
        obtain ⟨t154, A30, H⟩ := H
        replace H : (if t154 = true then (exactpplref19_Graph.l0 k1 l0 (wrap64 (x3_1 + 1))) else (some false)) = some r := H
        have A3 := Aside0.mk A30
        clear A30
        by_cases c4 : t154 = true
        · subst c4
          have H1 : (exactpplref19_Graph.l0 k1 l0 (wrap64 (x3_1 + 1))) = some r := by rw [if_pos rfl] at H; exact H
          clear H
          have H := H1
          clear H1
          have H' := Aside0.mk H
          clear H
          go_wp2_with (first | ((with_reducible refine gate_callee (f := 77) rfl ?_); refine goesL_ (some 12) rfl rfl Tryd.func77 (by kernel_rfl) rfl #[.slice A0 l0.length c0, .int .i64 x3_1] rfl (by (try simp only [List.map_toArray, List.map_cons, List.map_nil]); first | done | rfl | (simp only [List.length_drop, List.length_take]; rfl)) ?_; (with_reducible refine (exactpplref19_sound.calls k1 _ _ l0 x3_1 true _ ?side1 ?side2 A3.out).mono ?_); (case side1 => repeat (first | exact (Kd.C_below HR0.out HB.out) | (with_reducible refine Kd.C_alloc ?_ _) | (with_reducible refine Kd.C_drewN ?_ _) | (with_reducible refine Kd.C_drew ?_))); (case side2 => exact HC0.out); rintro e w5 ⟨rfl, hb⟩; refine ⟨_, rfl, ?_⟩; have n0_ := Aside0.mk (below_step (by repeat (first | (with_reducible first | exact HB.out | apply below_alloc | apply pw_below_drewN | apply below_drew1) | exact HB.out)) hb); clear HB; have HB := n0_; clear n0_; (try clear hb); (try clear hb2); (try clear hk); (try clear hi)))
          go_roundg k1
          case measure => have := HK1.out; omega
          case rel => exact ⟨(wrap64 (x3_1 + 1)), (by first | rfl | (simp; done) | (simp [*]; done)), H', ⟨by have := HK1.out; omega⟩, ⟨by repeat (first | (with_reducible first | exact HB.out | apply below_alloc | apply pw_below_drewN | apply below_drew1) | exact HB.out)⟩⟩
        · replace c4 := Bool.eq_false_iff.mpr c4
          subst c4
          have H1 : (some false) = some r := by rw [if_neg (show ¬ (false = true) by decide)] at H; exact H
          clear H
          have H := H1
          clear H1
          obtain rfl := Option.some.inj H
          go_wp2_with (first | ((with_reducible refine gate_callee (f := 77) rfl ?_); refine goesL_ (some 12) rfl rfl Tryd.func77 (by kernel_rfl) rfl #[.slice A0 l0.length c0, .int .i64 x3_1] rfl (by (try simp only [List.map_toArray, List.map_cons, List.map_nil]); first | done | rfl | (simp only [List.length_drop, List.length_take]; rfl)) ?_; (with_reducible refine (exactpplref19_sound.calls k1 _ _ l0 x3_1 false _ ?side1 ?side2 A3.out).mono ?_); (case side1 => repeat (first | exact (Kd.C_below HR0.out HB.out) | (with_reducible refine Kd.C_alloc ?_ _) | (with_reducible refine Kd.C_drewN ?_ _) | (with_reducible refine Kd.C_drew ?_))); (case side2 => exact HC0.out); rintro e w6 ⟨rfl, hb⟩; refine ⟨_, rfl, ?_⟩; have n0_ := Aside0.mk (below_step (by repeat (first | (with_reducible first | exact HB.out | apply below_alloc | apply pw_below_drewN | apply below_drew1) | exact HB.out)) hb); clear HB; have HB := n0_; clear n0_; (try clear hb); (try clear hb2); (try clear hk); (try clear hi)))
          go_ret
          exact ⟨by first | rfl | (simp [errW_none, errW_some] <;> rfl) | (simp [*, errW_none, errW_some] <;> rfl), by repeat (first | (with_reducible first | exact HB.out | apply below_alloc | apply pw_below_drewN | apply below_drew1) | exact HB.out)⟩
      · rw [if_neg c2] at H
        have c2b0 : decide (x3_1 < (l0.length : Int)) = false := decide_eq_false c2
        clear c2
        obtain rfl := Option.some.inj H
        go_wp2
        go_ret
        exact ⟨by first | rfl | (simp [errW_none, errW_some] <;> rfl) | (simp [*, errW_none, errW_some] <;> rfl), by repeat (first | (with_reducible first | exact HB.out | apply below_alloc | apply pw_below_drewN | apply below_drew1) | exact HB.out)⟩

end Go.Proofs.YtopbjginpmdebaaDoor.K
-- what the references' SameInts, SameNode, Same say
namespace Go.Proofs.YtopbjginpmdebaaDoor.K
open Go.RowKit Go.Maps Go.Proofs.YtopbjginpmdebaaDoorW.PrintWords Go.Proofs.YtopbjginpmdebaaDoorW.PrintLast Go.Proofs.YtopbjginpmdebaaDoorW.PrintMore
set_option linter.unusedVariables false
set_option linter.unusedSimpArgs false
theorem w64_succ {j : Nat} (h : j < 4611686018427387904) : wrap64 ((j : Int) + 1) = ((j + 1 : Nat) : Int) := by unfold wrap64; omega
theorem rd_get {xs : List Int} {j : Nat} (h : j < xs.length) : rd xs (j : Int) = xs[j] := by unfold rd; rw [Int.toNat_natCast, List.getD_eq_getElem?_getD, List.getElem?_eq_getElem h]; rfl
theorem sameInts_l (xs ys : List Int) (hl : xs.length = ys.length) (hb : xs.length < 4611686018427387904) : ∀ (m j k : Nat), xs.length - j ≤ m → j ≤ xs.length → m < k → exactpplref07_SameInts.l0 k xs ys (j : Int) = some (decide (xs.drop j = ys.drop j)) := by
  intro m
  induction m with
  | zero =>
    intro j k h1 h2 h3
    obtain ⟨f, rfl⟩ : ∃ f, k = f + 1 := ⟨k - 1, by omega⟩
    have e : j = xs.length := by omega
    simp only [exactpplref07_SameInts.l0]
    rw [if_neg (by omega), List.drop_of_length_le (by omega), List.drop_of_length_le (by omega)]; simp
  | succ m ih =>
    intro j k h1 h2 h3
    obtain ⟨f, rfl⟩ : ∃ f, k = f + 1 := ⟨k - 1, by omega⟩
    by_cases hj : j < xs.length
    · have hj2 : j < ys.length := by omega
      simp only [exactpplref07_SameInts.l0]
      rw [if_pos (by omega), if_pos (by omega), if_pos (by omega), rd_get hj, rd_get hj2, w64_succ (by omega), ih (j + 1) f (by omega) (by omega) (by omega)]
      have hd : (xs.drop j = ys.drop j) ↔ (xs[j] = ys[j] ∧ xs.drop (j + 1) = ys.drop (j + 1)) := by rw [List.drop_eq_getElem_cons hj, List.drop_eq_getElem_cons hj2, List.cons.injEq]
      by_cases he : xs[j] = ys[j]
      · rw [if_pos he, decide_eq_decide.2 (hd.trans ⟨fun h => h.2, fun h => ⟨he, h⟩⟩)]
      · rw [if_neg he, decide_eq_false (fun h => he (hd.1 h).1)]
    · have e : j = xs.length := by omega
      simp only [exactpplref07_SameInts.l0]
      rw [if_neg (by omega), List.drop_of_length_le (by omega), List.drop_of_length_le (by omega)]; simp
theorem sameInts_f (xs ys : List Int) (hb : xs.length < 4611686018427387904) (k : Nat) (hk : xs.length < k) : exactpplref07_SameInts.f k xs ys = some (decide (xs = ys)) := by
  unfold exactpplref07_SameInts.f
  by_cases hl : xs.length = ys.length
  · rw [if_pos (by omega)]
    have := sameInts_l xs ys hl hb xs.length 0 k (by omega) (by omega) hk
    simpa using this
  · rw [if_neg (by omega), decide_eq_false (fun e => hl (by rw [e]))]
theorem sameNode_f (n m : Nd) (hb : n.f2.length < 4611686018427387904) (k : Nat) (hk : n.f2.length < k) : exactpplref19_SameNode.f k n.f0 n.f1 n.f2 m.f0 m.f1 m.f2 = some (decide (n = m)) := by
  unfold exactpplref19_SameNode.f
  rw [sameInts_f _ _ hb k hk]
  by_cases h0 : n.f0 = m.f0
  · rw [if_pos h0]
    by_cases h1 : n.f1 = m.f1
    · rw [if_pos h1]
      by_cases h2 : n.f2 = m.f2
      · have := nd_ext h0 h1 h2; subst this; simp
      · have : ¬ n = m := fun e => h2 (by rw [e])
        simp [h2, this]
    · have : ¬ n = m := fun e => h1 (by rw [e])
      rw [if_neg h1]; simp [this]
  · have : ¬ n = m := fun e => h0 (by rw [e])
    rw [if_neg h0]; simp [this]
theorem same_l (xs ys : List Nd) (hl : xs.length = ys.length) (hb : xs.length < 4611686018427387904) (q : Nat) (hq : q < 4611686018427387904) (hx : ∀ n ∈ xs, n.f2.length ≤ q) : ∀ (m j k : Nat), xs.length - j ≤ m → j ≤ xs.length → m + q + 1 < k → exactpplref19_Same.l0 k (j : Int) xs ys = some (decide (xs.drop j = ys.drop j)) := by
  intro m
  induction m with
  | zero =>
    intro j k h1 h2 h3
    obtain ⟨f, rfl⟩ : ∃ f, k = f + 1 := ⟨k - 1, by omega⟩
    have e : j = xs.length := by omega
    simp only [exactpplref19_Same.l0]
    rw [if_neg (by omega), List.drop_of_length_le (by omega), List.drop_of_length_le (by omega)]; simp
  | succ m ih =>
    intro j k h1 h2 h3
    obtain ⟨f, rfl⟩ : ∃ f, k = f + 1 := ⟨k - 1, by omega⟩
    by_cases hj : j < xs.length
    · have hj2 : j < ys.length := by omega
      have e1 : rd_T60 xs (j : Int) = xs[j] := (rd_nth xs j).trans (nth_lt hj)
      have e2 : rd_T60 ys (j : Int) = ys[j] := (rd_nth ys j).trans (nth_lt hj2)
      have hm := hx xs[j] (List.getElem_mem hj)
      simp only [exactpplref19_Same.l0]
      rw [if_pos (by omega), if_pos (by omega), if_pos (by omega), e1, e2, sameNode_f xs[j] ys[j] (by omega) f (by omega), Option.bind_some, w64_succ (by omega), ih (j + 1) f (by omega) (by omega) (by omega)]
      have hd : (xs.drop j = ys.drop j) ↔ (xs[j] = ys[j] ∧ xs.drop (j + 1) = ys.drop (j + 1)) := by rw [List.drop_eq_getElem_cons hj, List.drop_eq_getElem_cons hj2, List.cons.injEq]
      by_cases he : xs[j] = ys[j]
      · rw [decide_eq_true he, if_pos rfl, decide_eq_decide.2 (hd.trans ⟨fun h => h.2, fun h => ⟨he, h⟩⟩)]
      · rw [decide_eq_false he, if_neg (by decide), decide_eq_false (fun h => he (hd.1 h).1)]
    · have e : j = xs.length := by omega
      simp only [exactpplref19_Same.l0]
      rw [if_neg (by omega), List.drop_of_length_le (by omega), List.drop_of_length_le (by omega)]; simp
theorem same_f (xs ys : List Nd) (hb : xs.length < 4611686018427387904) (q : Nat) (hq : q < 4611686018427387904) (hx : ∀ n ∈ xs, n.f2.length ≤ q) (k : Nat) (hk : xs.length + q + 1 < k) : exactpplref19_Same.f k xs ys = some (decide (xs = ys)) := by
  unfold exactpplref19_Same.f
  by_cases hl : xs.length = ys.length
  · rw [if_pos (by omega)]
    have := same_l xs ys hl hb q hq hx xs.length 0 k (by omega) (by omega) hk
    simpa using this
  · rw [if_neg (by omega), decide_eq_false (fun e => hl (by rw [e]))]
/-- Same, as it is called -/
theorem sameD_calls (xs ys : List Nd) (A B : Option Addr) (c d : Nat) (w : World) (hA : k60.C w A xs.length xs) (hc : xs.length ≤ c) (hB : k60.C w B ys.length ys) (hd : ys.length ≤ d) (hb : xs.length < 4611686018427387904) (hx : ∀ n ∈ xs, n.f2.length ≤ 1073741824) :
    Calls Tryd.prog 20 #[.agg #[.slice A xs.length c], .agg #[.slice B ys.length d]] w fun e w' => e = .returned (.bool (decide (xs = ys))) ∧ Below w.heap.size w w' :=
  exactpplref19_Same.calls (xs.length + 1073741824 + 2) A c xs B d ys _ w hA hc hB hd (same_f xs ys hb 1073741824 (by decide) hx _ (by omega))
end Go.Proofs.YtopbjginpmdebaaDoor.K
-- the reference's Graph says what isGraph says
namespace Go.Proofs.YtopbjginpmdebaaDoor.K
open Go.RowKit Go.Maps Go.Proofs.YtopbjginpmdebaaDoorW.PrintWords Go.Proofs.YtopbjginpmdebaaDoorW.PrintLast Go.Proofs.YtopbjginpmdebaaDoorW.PrintMore
set_option linter.unusedVariables false
set_option linter.unusedSimpArgs false
/-- branches of one site ahead of node i have as many kids -/
def ShpAt (nodes : List Nd) (i : Nat) (s : Int) (n : Nat) (j : Nat) : Prop := ∀ k : Nat, j ≤ k → k < i → (nth nodes (k : Int)).f0 = s → (nth nodes (k : Int)).f2.length = n
/-- a kid, as the reference wants it -/
def KidR (nodes : List Nd) (i : Nat) (s c : Int) : Prop := (0 ≤ c ∧ c < (i : Int)) ∧ ¬ ((nth nodes c).f0 ≠ -1 ∧ (nth nodes c).f0 ≤ s)
theorem sd_l1 (nodes : List Nd) (i : Nat) (hi : i ≤ nodes.length) (hb : nodes.length < 4611686018427387904) (s v : Int) (ks : List Int) : ∀ (m j fuel : Nat), i - j ≤ m → j ≤ i → m < fuel →
    ∃ b, exactpplref19_sound.l1 fuel nodes (i : Int) (j : Int) s v ks = some b ∧ (b = true ↔ ShpAt nodes i s ks.length j) := by
  intro m
  induction m with
  | zero =>
    intro j fuel h1 h2 h3
    obtain ⟨f, rfl⟩ : ∃ f, fuel = f + 1 := ⟨fuel - 1, by omega⟩
    have e : j = i := by omega
    subst e
    simp only [exactpplref19_sound.l1]
    rw [if_neg (by omega)]
    exact ⟨true, rfl, fun _ k h4 h5 => by omega, fun _ => rfl⟩
  | succ m ih =>
    intro j fuel h1 h2 h3
    obtain ⟨f, rfl⟩ : ∃ f, fuel = f + 1 := ⟨fuel - 1, by omega⟩
    by_cases hj : j < i
    · simp only [exactpplref19_sound.l1]
      rw [if_pos (by omega), if_pos (by omega), if_pos (by omega), w64_succ (by omega), rd_nth]
      obtain ⟨b, hb1, hb2⟩ := ih (j + 1) f (by omega) (by omega) (by omega)
      by_cases hs : (nth nodes (j : Int)).f0 = s
      · rw [if_pos hs]
        by_cases hl : ((nth nodes (j : Int)).f2.length : Int) = (ks.length : Int)
        · rw [if_pos hl]
          refine ⟨b, hb1, hb2.trans ⟨fun h k h4 h5 h6 => ?_, fun h k h4 h5 h6 => h k (by omega) h5 h6⟩⟩
          rcases Nat.lt_or_ge j k with h7 | h7
          · exact h k h7 h5 h6
          · obtain rfl : k = j := by omega
            omega
        · rw [if_neg hl]
          exact ⟨false, rfl, (fun h => by cases h), fun h => absurd (h j (Nat.le_refl _) hj hs) (by omega)⟩
      · rw [if_neg hs]
        refine ⟨b, hb1, hb2.trans ⟨fun h k h4 h5 h6 => ?_, fun h k h4 h5 h6 => h k (by omega) h5 h6⟩⟩
        rcases Nat.lt_or_ge j k with h7 | h7
        · exact h k h7 h5 h6
        · obtain rfl : k = j := by omega
          exact absurd h6 hs
    · have e : j = i := by omega
      subst e
      simp only [exactpplref19_sound.l1]
      rw [if_neg (by omega)]
      exact ⟨true, rfl, fun _ k h4 h5 => by omega, fun _ => rfl⟩
theorem sd_l0 (nodes : List Nd) (i : Nat) (hi : i ≤ nodes.length) (hb : nodes.length < 4611686018427387904) (s v : Int) (ks : List Int) (hk : ks.length < 4611686018427387904) : ∀ (m j fuel : Nat), ks.length - j ≤ m → j ≤ ks.length → m + i + 1 < fuel →
    ∃ b, exactpplref19_sound.l0 fuel nodes (i : Int) (j : Int) s v ks = some b ∧ (b = true ↔ (∀ c ∈ ks.drop j, KidR nodes i s c) ∧ ShpAt nodes i s ks.length 0) := by
  intro m
  induction m with
  | zero =>
    intro j fuel h1 h2 h3
    obtain ⟨f, rfl⟩ : ∃ f, fuel = f + 1 := ⟨fuel - 1, by omega⟩
    have e : j = ks.length := by omega
    subst e
    simp only [exactpplref19_sound.l0]
    rw [if_neg (by omega)]
    obtain ⟨b, h4, h5⟩ := sd_l1 nodes i hi hb s v ks i 0 f (by omega) (by omega) (by omega)
    exact ⟨b, h4, h5.trans ⟨fun h => ⟨by simp, h⟩, fun h => h.2⟩⟩
  | succ m ih =>
    intro j fuel h1 h2 h3
    obtain ⟨f, rfl⟩ : ∃ f, fuel = f + 1 := ⟨fuel - 1, by omega⟩
    by_cases hj : j < ks.length
    · obtain ⟨b, hb1, hb2⟩ := ih (j + 1) f (by omega) (by omega) (by omega)
      have hd : ks.drop j = ks[j] :: ks.drop (j + 1) := List.drop_eq_getElem_cons hj
      simp only [exactpplref19_sound.l0]
      rw [if_pos (by omega), if_pos (by omega), rd_get hj, w64_succ (by omega), hd]
      have hno : ∀ h : ¬ KidR nodes i s ks[j], (false = true ↔ (∀ c ∈ ks[j] :: ks.drop (j + 1), KidR nodes i s c) ∧ ShpAt nodes i s ks.length 0) := fun h => ⟨(fun e => by cases e), fun e => absurd (e.1 _ List.mem_cons_self) h⟩
      by_cases h4 : ks[j] < 0
      · rw [if_pos h4]
        exact ⟨false, rfl, hno (fun e => by have := e.1.1; omega)⟩
      · rw [if_neg h4]
        by_cases h5 : ks[j] ≥ (i : Int)
        · rw [if_pos h5]
          exact ⟨false, rfl, hno (fun e => by have := e.1.2; omega)⟩
        · rw [if_neg h5, if_pos (by omega), if_pos (by omega), show rd_T60 nodes ks[j] = nth nodes ks[j] from rfl, exactpplref19_IsBranch.f, Option.bind_some]
          have hyes : ∀ h : KidR nodes i s ks[j], (b = true ↔ (∀ c ∈ ks[j] :: ks.drop (j + 1), KidR nodes i s c) ∧ ShpAt nodes i s ks.length 0) := fun h => hb2.trans ⟨fun e => ⟨fun c hc => (List.mem_cons.1 hc).elim (fun e2 => by rw [e2]; exact h) (e.1 c), e.2⟩, fun e => ⟨fun c hc => e.1 c (List.mem_cons_of_mem _ hc), e.2⟩⟩
          by_cases h6 : (nth nodes ks[j]).f0 = -1
          · rw [show ((nth nodes ks[j]).f0 != -1) = false by simp [h6], if_neg (by decide)]
            exact ⟨b, hb1, hyes ⟨⟨by omega, by omega⟩, fun e => e.1 h6⟩⟩
          · rw [show ((nth nodes ks[j]).f0 != -1) = true by simp [h6], if_pos rfl]
            by_cases h7 : (nth nodes ks[j]).f0 ≤ s
            · rw [if_pos h7]
              exact ⟨false, rfl, hno (fun e => e.2 ⟨h6, h7⟩)⟩
            · rw [if_neg h7]
              exact ⟨b, hb1, hyes ⟨⟨by omega, by omega⟩, fun e => h7 e.2⟩⟩
    · have e : j = ks.length := by omega
      subst e
      simp only [exactpplref19_sound.l0]
      rw [if_neg (by omega)]
      obtain ⟨b, h4, h5⟩ := sd_l1 nodes i hi hb s v ks i 0 f (by omega) (by omega) (by omega)
      exact ⟨b, h4, h5.trans ⟨fun h => ⟨by simp, h⟩, fun h => h.2⟩⟩
/-- node i is as a graph demands it, as the reference says it -/
def Snd (nodes : List Nd) (i : Nat) : Prop := ((nth nodes (i : Int)).f0 = -1 ∧ (nth nodes (i : Int)).f2 = [] ∧ -1073741824 ≤ (nth nodes (i : Int)).f1 ∧ (nth nodes (i : Int)).f1 ≤ 1073741824) ∨
  ((0 ≤ (nth nodes (i : Int)).f0 ∧ (nth nodes (i : Int)).f0 < 64 ∧ (nth nodes (i : Int)).f1 = 0 ∧ 1 ≤ (nth nodes (i : Int)).f2.length ∧ (nth nodes (i : Int)).f2.length ≤ 16) ∧ (∀ c ∈ (nth nodes (i : Int)).f2, KidR nodes i (nth nodes (i : Int)).f0 c) ∧ ShpAt nodes i (nth nodes (i : Int)).f0 (nth nodes (i : Int)).f2.length 0)
theorem sd_f (nodes : List Nd) (i : Nat) (hi : i < nodes.length) (hb : nodes.length < 4611686018427387904) (hk : (nth nodes (i : Int)).f2.length < 4611686018427387904) (fuel : Nat) (hf : (nth nodes (i : Int)).f2.length + i + 4 < fuel) :
    ∃ b, exactpplref19_sound.f fuel nodes (i : Int) = some b ∧ (b = true ↔ Snd nodes i) := by
  obtain ⟨f, rfl⟩ : ∃ f, fuel = f + 1 := ⟨fuel - 1, by omega⟩
  unfold exactpplref19_sound.f
  rw [if_pos (by omega), if_pos (by omega), rd_nth]
  have hnd : nth nodes (i : Int) = nth nodes (i : Int) := rfl
  unfold Snd
  generalize nth nodes (i : Int) = n at hk hf ⊢
  rw [exactpplref19_IsBranch.f, Option.bind_some]
  obtain ⟨b, h4, h5⟩ := sd_l0 nodes i (by omega) hb n.f0 n.f1 n.f2 hk n.f2.length 0 f (by omega) (by omega) (by omega)
  rw [List.drop_zero] at h5
  simp only [exactpplref19_sound.j0, if_true]
  by_cases h6 : n.f0 = -1
  · rw [show (n.f0 != -1) = false by simp [h6], if_neg (by decide)]
    have h0 : ((n.f2.length : Int) = 0) ↔ n.f2 = [] := by rw [← List.length_eq_zero_iff]; omega
    by_cases h7 : (n.f2.length : Int) = 0
    · rw [if_pos h7]
      by_cases h8 : n.f1 ≥ -1073741824
      · rw [if_pos h8]
        refine ⟨_, rfl, ?_⟩
        rw [decide_eq_true_eq]
        exact ⟨fun h => .inl ⟨h6, h0.1 h7, h8, h⟩, fun h => h.elim (fun e => e.2.2.2) (fun e => by omega)⟩
      · rw [if_neg h8]
        exact ⟨_, rfl, (fun h => by cases h), fun h => h.elim (fun e => by omega) (fun e => by omega)⟩
    · rw [if_neg h7]
      exact ⟨_, rfl, (fun h => by cases h), fun h => h.elim (fun e => absurd (h0.2 e.2.1) h7) (fun e => by omega)⟩
  · rw [show (n.f0 != -1) = true by simp [h6], if_pos rfl]
    have hno : ∀ h : ¬ (0 ≤ n.f0 ∧ n.f0 < 64 ∧ n.f1 = 0 ∧ 1 ≤ n.f2.length ∧ n.f2.length ≤ 16), (false = true ↔ (n.f0 = -1 ∧ n.f2 = [] ∧ -1073741824 ≤ n.f1 ∧ n.f1 ≤ 1073741824) ∨ ((0 ≤ n.f0 ∧ n.f0 < 64 ∧ n.f1 = 0 ∧ 1 ≤ n.f2.length ∧ n.f2.length ≤ 16) ∧ (∀ c ∈ n.f2, KidR nodes i n.f0 c) ∧ ShpAt nodes i n.f0 n.f2.length 0)) :=
      fun h => ⟨(fun e => by cases e), fun e => e.elim (fun e => absurd e.1 h6) (fun e => absurd e.1 h)⟩
    by_cases h7 : n.f0 < 0
    · rw [if_pos h7]; exact ⟨false, rfl, hno (by omega)⟩
    · rw [if_neg h7]
      by_cases h8 : n.f0 ≥ 64
      · rw [if_pos h8]; exact ⟨false, rfl, hno (by omega)⟩
      · rw [if_neg h8]
        by_cases h9 : n.f1 = 0
        · rw [if_pos h9]
          by_cases h10 : (n.f2.length : Int) < 1
          · rw [if_pos h10]; exact ⟨false, rfl, hno (by omega)⟩
          · rw [if_neg h10]
            by_cases h11 : (n.f2.length : Int) > 16
            · rw [decide_eq_true h11, if_pos rfl]; exact ⟨false, rfl, hno (by omega)⟩
            · rw [decide_eq_false h11, if_neg (by decide)]
              exact ⟨b, h4, h5.trans ⟨fun h => .inr ⟨by omega, h⟩, fun h => h.elim (fun e => absurd e.1 h6) (fun e => e.2)⟩⟩
        · rw [if_neg h9]; exact ⟨false, rfl, hno (fun e => h9 e.2.2.1)⟩
theorem gr_l0 (nodes : List Nd) (hb : nodes.length < 4611686018427387904) (q : Nat) (hq : q < 4611686018427387904) (hx : ∀ n ∈ nodes, n.f2.length ≤ q) : ∀ (m j fuel : Nat), nodes.length - j ≤ m → j ≤ nodes.length → m + q + nodes.length + 5 < fuel →
    ∃ b, exactpplref19_Graph.l0 fuel nodes (j : Int) = some b ∧ (b = true ↔ (∀ i : Nat, j ≤ i → i < nodes.length → Snd nodes i) ∧ 0 < nodes.length) := by
  intro m
  induction m with
  | zero =>
    intro j fuel h1 h2 h3
    obtain ⟨f, rfl⟩ : ∃ f, fuel = f + 1 := ⟨fuel - 1, by omega⟩
    have e : j = nodes.length := by omega
    subst e
    simp only [exactpplref19_Graph.l0]
    rw [if_neg (by omega)]
    exact ⟨_, rfl, by rw [decide_eq_true_eq]; exact ⟨fun h => ⟨fun i h4 h5 => by omega, by omega⟩, fun h => by omega⟩⟩
  | succ m ih =>
    intro j fuel h1 h2 h3
    obtain ⟨f, rfl⟩ : ∃ f, fuel = f + 1 := ⟨fuel - 1, by omega⟩
    by_cases hj : j < nodes.length
    · have hmem : nth nodes (j : Int) ∈ nodes := by rw [nth_lt hj]; exact List.getElem_mem hj
      have hl := hx _ hmem
      obtain ⟨b, h4, h5⟩ := sd_f nodes j hj hb (by omega) f (by omega)
      simp only [exactpplref19_Graph.l0]
      rw [if_pos (by omega), h4, Option.bind_some, w64_succ (by omega)]
      cases b with
      | true =>
        obtain ⟨c, h6, h7⟩ := ih (j + 1) f (by omega) (by omega) (by omega)
        rw [if_pos rfl]
        refine ⟨c, h6, h7.trans ⟨fun h => ⟨fun i h8 h9 => ?_, h.2⟩, fun h => ⟨fun i h8 h9 => h.1 i (by omega) h9, h.2⟩⟩⟩
        rcases Nat.lt_or_ge j i with h10 | h10
        · exact h.1 i h10 h9
        · obtain rfl : i = j := by omega
          exact h5.1 rfl
      | false =>
        rw [if_neg (by decide)]
        exact ⟨false, rfl, (fun h => by cases h), fun h => h5.2 (h.1 j (Nat.le_refl _) hj)⟩
    · have e : j = nodes.length := by omega
      subst e
      simp only [exactpplref19_Graph.l0]
      rw [if_neg (by omega)]
      exact ⟨_, rfl, by rw [decide_eq_true_eq]; exact ⟨fun h => ⟨fun i h4 h5 => by omega, by omega⟩, fun h => by omega⟩⟩
/-- what Shapes accepts -/
theorem shp_iff : ∀ (l : List Nd) (g : PM), (shp g l).isSome = true ↔ (∀ n ∈ l, 0 ≤ n.f0 → ∀ v, g n.f0 = some v → v = (n.f2.length : Int)) ∧ l.Pairwise (fun a b => 0 ≤ a.f0 → a.f0 = b.f0 → a.f2.length = b.f2.length)
  | [], g => by simp [shp]
  | n :: l, g => by
    simp only [shp]
    by_cases h0 : n.f0 < 0
    · rw [if_pos h0, shp_iff l g, List.pairwise_cons]
      constructor
      · rintro ⟨h1, h2⟩
        exact ⟨fun m hm h3 => (List.mem_cons.1 hm).elim (fun e => by subst e; omega) (fun h => h1 m h h3), fun b _ h3 => by omega, h2⟩
      · rintro ⟨h1, _, h2⟩
        exact ⟨fun m hm => h1 m (List.mem_cons_of_mem _ hm), h2⟩
    · rw [if_neg h0]
      by_cases h1 : (g n.f0).isSome = true ∧ (g n.f0).getD 0 ≠ (n.f2.length : Int)
      · rw [if_pos h1]
        constructor
        · intro h; cases h
        · rintro ⟨h2, _⟩
          obtain ⟨v, hv⟩ := Option.isSome_iff_exists.1 h1.1
          have := h2 n List.mem_cons_self (by omega) v hv
          rw [hv] at h1
          exact absurd this h1.2
      · rw [if_neg h1, shp_iff l _, List.pairwise_cons]
        have hg : ∀ v, g n.f0 = some v → v = (n.f2.length : Int) := by
          intro v hv
          refine Classical.byContradiction fun hne => h1 ⟨by rw [hv]; rfl, by rw [hv]; exact hne⟩
        constructor
        · rintro ⟨h2, h3⟩
          refine ⟨fun m hm h4 v hv => ?_, fun b hb h4 h5 => ?_, h3⟩
          · rcases List.mem_cons.1 hm with rfl | hm
            · exact hg v hv
            · by_cases e : m.f0 = n.f0
              · have := h2 m hm h4 (n.f2.length : Int) (by unfold upd; rw [if_pos e])
                rw [e] at hv
                rw [hg v hv]; exact this
              · exact h2 m hm h4 v (by unfold upd; rw [if_neg e]; exact hv)
          · have := h2 b hb (by omega) (n.f2.length : Int) (by unfold upd; rw [if_pos h5.symm])
            omega
        · rintro ⟨h2, h3, h4⟩
          refine ⟨fun m hm h5 v hv => ?_, h4⟩
          unfold upd at hv
          by_cases e : m.f0 = n.f0
          · rw [if_pos e] at hv
            have := h3 m hm (by omega) e.symm
            injection hv with hv
            omega
          · rw [if_neg e] at hv
            exact h2 m (List.mem_cons_of_mem _ hm) h5 v hv
theorem gr_snd (nodes : List Nd) : grB nodes = true ↔ (∀ i : Nat, 0 ≤ i → i < nodes.length → Snd nodes i) ∧ 0 < nodes.length := by
  unfold grB
  rw [Bool.and_eq_true, Bool.and_eq_true, decide_eq_true_eq, shp_iff, List.all_eq_true]
  constructor
  · rintro ⟨h1, h2, _, h3⟩
    have hlb : ∀ i : Nat, i < nodes.length → lfB (nth nodes (i : Int)) = true ∨ brB nodes (i : Int) (nth nodes (i : Int)) = true := fun i hi => by have := h1 i (List.mem_range.2 hi); simpa using this
    refine ⟨fun i _ hi => ?_, h2⟩
    rcases hlb i hi with h4 | h4
    · exact .inl (lf_iff.1 h4)
    · obtain ⟨h5, h6⟩ := br_iff.1 h4
      refine .inr ⟨h5, fun c hc => ⟨(h6 c hc).1, fun e => (h6 c hc).2 ⟨?_, e.2⟩⟩, fun k _ hk he => ?_⟩
      · have h7 := (h6 c hc).1
        rcases hlb c.toNat (by omega) with h8 | h8
        · have := (lf_iff.1 h8).1
          rw [show ((c.toNat : Nat) : Int) = c by omega] at this
          exact absurd this e.1
        · have := (br_iff.1 h8).1.1
          rw [show ((c.toNat : Nat) : Int) = c by omega] at this
          exact this
      · have h7 := (List.pairwise_iff_getElem.1 h3) k i (by omega) hi hk
        rw [← nth_lt (show k < nodes.length by omega), ← nth_lt hi] at h7
        exact h7 (by omega) he
  · rintro ⟨h1, h2⟩
    have hf0 : ∀ i : Nat, i < nodes.length → (nth nodes (i : Int)).f0 = -1 ∨ 0 ≤ (nth nodes (i : Int)).f0 := fun i hi => (h1 i (Nat.zero_le _) hi).elim (fun e => .inl e.1) (fun e => .inr e.1.1)
    refine ⟨fun i hi => ?_, h2, (fun n _ _ v hv => by cases hv), List.pairwise_iff_getElem.2 fun i j hi hj hij h3 h4 => ?_⟩
    · have hi := List.mem_range.1 hi
      rw [Bool.or_eq_true]
      rcases h1 i (Nat.zero_le _) hi with h3 | h3
      · exact .inl (lf_iff.2 h3)
      · refine .inr (br_iff.2 ⟨h3.1, fun c hc => ⟨(h3.2.1 c hc).1, fun e => (h3.2.1 c hc).2 ⟨by omega, e.2⟩⟩⟩)
    · rw [← nth_lt hi] at h3 h4 ⊢
      rw [← nth_lt hj] at h4 ⊢
      rcases h1 j (Nat.zero_le _) hj with h5 | h5
      · omega
      · exact h5.2.2 i (Nat.zero_le _) hij h4
theorem graph_f (nodes : List Nd) (hb : nodes.length < 4611686018427387904) (q : Nat) (hq : q < 4611686018427387904) (hx : ∀ n ∈ nodes, n.f2.length ≤ q) (fuel : Nat) (hf : q + nodes.length + nodes.length + 5 < fuel) : exactpplref19_Graph.f fuel nodes = some (grB nodes) := by
  unfold exactpplref19_Graph.f
  obtain ⟨b, h1, h2⟩ := gr_l0 nodes hb q hq hx nodes.length 0 fuel (by omega) (by omega) (by omega)
  have : b = grB nodes := by rw [Bool.eq_iff_iff, h2, gr_snd]
  rw [← this]
  exact h1
end Go.Proofs.YtopbjginpmdebaaDoor.K
