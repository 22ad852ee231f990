-- By a program of this session
import Derived.Test.YtggelekooacmnaaDoorC0
import Derived.Test.YtggelekooacmnaaDoorC2
namespace Go.Proofs.YtggelekooacmnaaDoor.R
open Go.RowKit Go.Proofs.YtggelekooacmnaaDoorW.PrintWords Go.Proofs.YtggelekooacmnaaDoorW.PrintLast Go.Proofs.YtggelekooacmnaaDoorW.PrintMore
attribute [local go_sem] max2_int min2_int max_two min_two max_three min_three max_four min_four   -- for this text's walks alone
set_option linter.unusedVariables false
set_option linter.unusedSimpArgs false

/-! ### types_fault: function 39 -/
mutual
def types_fault.j0 : Nat → Bool → Int → Int → Int → Int → List (S24) → Option (Int)
 | 0, _, _, _, _, _, _ => none
 | k + 1, x15, x107000, x107001, x107002, x107003, x107004 => if x15 = true then (some 14) else ((types_unused.f x107000 x107001 x107002 x107003 x107004).bind fun t107 => (if t107 = true then (some 2) else (if x107000 = 2 then (if x107001 < (-1000) then (some 1) else (if x107001 > x107002 then (some 1) else (if x107002 > 1000 then (some 1) else (some 0)))) else (if x107000 = 5 then (if (x107004.length : Int) < 2 then (types_fault.j1 k true x107000 x107001 x107002 x107003 x107004) else (types_fault.j1 k (decide ((x107004.length : Int) > 4)) x107000 x107001 x107002 x107003 x107004)) else (if x107000 = 6 then (if x107003 < 1 then (types_fault.j3 k true x107000 x107001 x107002 x107003 x107004) else (types_fault.j3 k (decide (x107003 > 4)) x107000 x107001 x107002 x107003 x107004)) else (some 0))))))
def types_fault.j1 : Nat → Bool → Int → Int → Int → Int → List (S24) → Option (Int)
 | 0, _, _, _, _, _, _ => none
 | k + 1, x48, x107000, x107001, x107002, x107003, x107004 => if x48 = true then (some 1) else (types_fault.l0 k x107004 (x107004.length : Int) 0)
def types_fault.l0 : Nat → List (S24) → Int → Int → Option (Int)
 | 0, _, _, _ => none
 | k + 1, x50, x51, x52 => if x52 < x51 then (if 0 ≤ x52 then (if x52 < (x50.length : Int) then ((types_fault.f k ((rd_T24 x50 x52).f0) ((rd_T24 x50 x52).f1) ((rd_T24 x50 x52).f2) ((rd_T24 x50 x52).f3) ((rd_T24 x50 x52).f4)).bind fun t110 => (if t110 = 0 then (if ((rd_T24 x50 x52).f0) = 3 then (some 8) else (if ((rd_T24 x50 x52).f0) = 4 then (some 8) else (types_fault.l0 k x50 x51 (wrap64 (x52 + 1))))) else (some t110))) else (none)) else (none)) else (some 0)
def types_fault.j3 : Nat → Bool → Int → Int → Int → Int → List (S24) → Option (Int)
 | 0, _, _, _, _, _, _ => none
 | k + 1, x79, x107000, x107001, x107002, x107003, x107004 => if x79 = true then (some 1) else (if (x107004.length : Int) = 1 then (if 0 < (x107004.length : Int) then ((types_fault.f k ((rd_T24 x107004 0).f0) ((rd_T24 x107004 0).f1) ((rd_T24 x107004 0).f2) ((rd_T24 x107004 0).f3) ((rd_T24 x107004 0).f4)).bind fun t112 => (if t112 = 0 then (if ((rd_T24 x107004 0).f0) = 1 then (some 0) else (if ((rd_T24 x107004 0).f0) = 2 then (some 0) else (some 8))) else (some t112))) else (none)) else (some 2))
def types_fault.f : Nat → Int → Int → Int → Int → List (S24) → Option (Int)
 | 0, _, _, _, _, _ => none
 | k + 1, a0_0, a0_1, a0_2, a0_3, l0_4 => if a0_0 < 1 then (types_fault.j0 k true a0_0 a0_1 a0_2 a0_3 l0_4) else (types_fault.j0 k (decide (a0_0 > 6)) a0_0 a0_1 a0_2 a0_3 l0_4)
end
theorem types_fault.mono_l : ∀ k, (∀ y0 y1 y2 y3 y4, LeO (types_fault.f k y0 y1 y2 y3 y4) (types_fault.f (k + 1) y0 y1 y2 y3 y4)) ∧ (∀ y0 y1 y2 y3 y4 y5, LeO (types_fault.j0 k y0 y1 y2 y3 y4 y5) (types_fault.j0 (k + 1) y0 y1 y2 y3 y4 y5)) ∧ (∀ y0 y1 y2 y3 y4 y5, LeO (types_fault.j1 k y0 y1 y2 y3 y4 y5) (types_fault.j1 (k + 1) y0 y1 y2 y3 y4 y5)) ∧ (∀ y0 y1 y2, LeO (types_fault.l0 k y0 y1 y2) (types_fault.l0 (k + 1) y0 y1 y2)) ∧ (∀ y0 y1 y2 y3 y4 y5, LeO (types_fault.j3 k y0 y1 y2 y3 y4 y5) (types_fault.j3 (k + 1) y0 y1 y2 y3 y4 y5))
 | 0 => ⟨fun _ _ _ _ _ r h => by simp [types_fault.f] at h, fun _ _ _ _ _ _ r h => by simp [types_fault.j0] at h, fun _ _ _ _ _ _ r h => by simp [types_fault.j1] at h, fun _ _ _ r h => by simp [types_fault.l0] at h, fun _ _ _ _ _ _ r h => by simp [types_fault.j3] at h⟩
 | k + 1 => by
  obtain ⟨ih0, ih1, ih2, ih3, ih4⟩ := types_fault.mono_l k
  refine ⟨?_, ?_, ?_, ?_, ?_⟩
  ·intro y0 y1 y2 y3 y4
   unfold types_fault.f
   repeat' first
   | (with_reducible exact ih0 _ _ _ _ _)
   | (with_reducible exact ih1 _ _ _ _ _ _)
   | (with_reducible exact ih2 _ _ _ _ _ _)
   | (with_reducible exact ih3 _ _ _)
   | (with_reducible exact ih4 _ _ _ _ _ _)
   | (with_reducible exact LeO.refl _)
   | (with_reducible exact LeO.none _)
   | (with_reducible refine LeO.ite ?_ ?_)
   | (with_reducible refine LeO.bind ?_ (fun _ => ?_))
   | exact ih0 _ _ _ _ _
   | exact ih1 _ _ _ _ _ _
   | exact ih2 _ _ _ _ _ _
   | exact ih3 _ _ _
   | exact ih4 _ _ _ _ _ _
   | exact LeO.none _
   | refine LeO.ite ?_ ?_
   | refine LeO.bind ?_ (fun _ => ?_)
  ·intro y0 y1 y2 y3 y4 y5
   unfold types_fault.j0
   repeat' first
   | (with_reducible exact ih0 _ _ _ _ _)
   | (with_reducible exact ih1 _ _ _ _ _ _)
   | (with_reducible exact ih2 _ _ _ _ _ _)
   | (with_reducible exact ih3 _ _ _)
   | (with_reducible exact ih4 _ _ _ _ _ _)
   | (with_reducible exact LeO.refl _)
   | (with_reducible exact LeO.none _)
   | (with_reducible refine LeO.ite ?_ ?_)
   | (with_reducible refine LeO.bind ?_ (fun _ => ?_))
   | exact ih0 _ _ _ _ _
   | exact ih1 _ _ _ _ _ _
   | exact ih2 _ _ _ _ _ _
   | exact ih3 _ _ _
   | exact ih4 _ _ _ _ _ _
   | exact LeO.none _
   | refine LeO.ite ?_ ?_
   | refine LeO.bind ?_ (fun _ => ?_)
  ·intro y0 y1 y2 y3 y4 y5
   unfold types_fault.j1
   repeat' first
   | (with_reducible exact ih0 _ _ _ _ _)
   | (with_reducible exact ih1 _ _ _ _ _ _)
   | (with_reducible exact ih2 _ _ _ _ _ _)
   | (with_reducible exact ih3 _ _ _)
   | (with_reducible exact ih4 _ _ _ _ _ _)
   | (with_reducible exact LeO.refl _)
   | (with_reducible exact LeO.none _)
   | (with_reducible refine LeO.ite ?_ ?_)
   | (with_reducible refine LeO.bind ?_ (fun _ => ?_))
   | exact ih0 _ _ _ _ _
   | exact ih1 _ _ _ _ _ _
   | exact ih2 _ _ _ _ _ _
   | exact ih3 _ _ _
   | exact ih4 _ _ _ _ _ _
   | exact LeO.none _
   | refine LeO.ite ?_ ?_
   | refine LeO.bind ?_ (fun _ => ?_)
  ·intro y0 y1 y2
   unfold types_fault.l0
   repeat' first
   | (with_reducible exact ih0 _ _ _ _ _)
   | (with_reducible exact ih1 _ _ _ _ _ _)
   | (with_reducible exact ih2 _ _ _ _ _ _)
   | (with_reducible exact ih3 _ _ _)
   | (with_reducible exact ih4 _ _ _ _ _ _)
   | (with_reducible exact LeO.refl _)
   | (with_reducible exact LeO.none _)
   | (with_reducible refine LeO.ite ?_ ?_)
   | (with_reducible refine LeO.bind ?_ (fun _ => ?_))
   | exact ih0 _ _ _ _ _
   | exact ih1 _ _ _ _ _ _
   | exact ih2 _ _ _ _ _ _
   | exact ih3 _ _ _
   | exact ih4 _ _ _ _ _ _
   | exact LeO.none _
   | refine LeO.ite ?_ ?_
   | refine LeO.bind ?_ (fun _ => ?_)
  ·intro y0 y1 y2 y3 y4 y5
   unfold types_fault.j3
   repeat' first
   | (with_reducible exact ih0 _ _ _ _ _)
   | (with_reducible exact ih1 _ _ _ _ _ _)
   | (with_reducible exact ih2 _ _ _ _ _ _)
   | (with_reducible exact ih3 _ _ _)
   | (with_reducible exact ih4 _ _ _ _ _ _)
   | (with_reducible exact LeO.refl _)
   | (with_reducible exact LeO.none _)
   | (with_reducible refine LeO.ite ?_ ?_)
   | (with_reducible refine LeO.bind ?_ (fun _ => ?_))
   | exact ih0 _ _ _ _ _
   | exact ih1 _ _ _ _ _ _
   | exact ih2 _ _ _ _ _ _
   | exact ih3 _ _ _
   | exact ih4 _ _ _ _ _ _
   | exact LeO.none _
   | refine LeO.ite ?_ ?_
   | refine LeO.bind ?_ (fun _ => ?_)
theorem types_fault.mono : ∀ a0 a1 a2 a3 a4 k, LeO (types_fault.f k a0 a1 a2 a3 a4) (types_fault.f (k + 1) a0 a1 a2 a3 a4) := by
 intro a0 a1 a2 a3 a4 k
 obtain ⟨ih0, ih1, ih2, ih3, ih4⟩ := types_fault.mono_l k
 exact ih0 a0 a1 a2 a3 a4
set_option maxHeartbeats 8000000 in
set_option maxRecDepth 100000 in
theorem types_fault.calls (k : Nat) : ∀ (a0_0 : Int) (a0_1 : Int) (a0_2 : Int) (a0_3 : Int) (A0_4 : Option Addr) (c0_4 : Nat) (l0_4 : List (S24)) (r : Int) (w : World) (hr0_4 : Kd.C k24 w A0_4 l0_4.length l0_4) (hc0_4 : l0_4.length ≤ c0_4) (h : types_fault.f k a0_0 a0_1 a0_2 a0_3 l0_4 = some r),
  Calls Tryd.prog 39 #[.agg #[.int .i64 a0_0, .int .i64 a0_1, .int .i64 a0_2, .int .i64 a0_3, .slice A0_4 l0_4.length c0_4]] w fun e w' => e = .returned (.int .i64 r) ∧ Below w.heap.size w w' := by
 induction k using Nat.strongRecOn with
 | _ k ih =>
 intro a0_0 a0_1 a0_2 a0_3 A0_4 c0_4 l0_4 r w hr0_4 hc0_4 h
 cases k with
 | zero => exact absurd h (by simp [types_fault.f])
 | succ k =>
 simp only [types_fault.f] at h
 have hu24 := Tryd.underlying24
 have HR0_4 := Aside0.mk hr0_4
 have HC0_4 := Aside0.mk hc0_4
 clear hr0_4 hc0_4
 have HB := Aside0.mk (Below.refl w.heap.size w)
 have H : (if a0_0 < 1 then (types_fault.j0 k true a0_0 a0_1 a0_2 a0_3 l0_4) else (types_fault.j0 k (decide (a0_0 > 6)) a0_0 a0_1 a0_2 a0_3 l0_4)) = some r := h
 clear h
 have HC2 := Aside0.mk H
 clear H
 go_enter Tryd.func39, Tryd.ntmps39
 go_upto_region 1 with (first | ((with_reducible refine gate_dst (N := 1) rfl ?_); (try (refine gate_guard (by rfl) ?_; dsimp only)); refine box_event ?hg (N := 1) ?hd (cs := #[.int .i64 a0_0, .int .i64 a0_1, .int .i64 a0_2, .int .i64 a0_3, .slice A0_4 l0_4.length c0_4]) (t := 24) ?hr ?_; (case hd => rfl); (case hg => rfl); (case hr => first | (go_simp; done) | (go_simp; rfl)); intro gb106 hg w3 hbox hb; have BK106 := Aside0.mk (hbox); have GW106 : Aside0 (w.heap.size ≤ gb106) := gw_ hg (below_size bl_); have GE106 := GW106; replace HB := Aside0.mk (below_step bl_ hb); clear hb hbox hg))
 (try simp only [Act.put, List.setIfInBounds_toArray, List.set_cons_zero, List.set_cons_succ])
 go_cut [15] (fun v15 wc => ∃ (kq : Nat) (x15_1 : Bool), v15 = .bool x15_1 ∧ Aside0 (types_fault.j0 kq x15_1 a0_0 a0_1 a0_2 a0_3 l0_4 = some r) ∧ Aside0 (kq ≤ k) ∧ Aside0 (wc.heap[gb106]? = some (.cells #[.int .i64 a0_0, .int .i64 a0_1, .int .i64 a0_2, .int .i64 a0_3, (.slice A0_4 l0_4.length c0_4)] 24 (0, 0))) ∧ Aside0 (Below w.heap.size w wc))
 case first =>
  have H := HC2.out
  clear HC2
  by_cases c4 : a0_0 < 1
  ·rw [if_pos c4] at H
   have c4b0 : decide (a0_0 < 1) = true := decide_eq_true c4
   clear c4
   (first | rw [c4b0] | (simp only [i64_w, i32_w]; rw [c4b0]) | skip)
   have H' := Aside0.mk H
   clear H
   obtain ⟨hcz5_0, hcz5_1, hcz5_2, hcz5_3, hcz5_4, hfz5_0, hfz5_1, hfz5_2, hfz5_3, hfz5_4⟩ := cf5_ BK106.out
   go_wp2
   go_meet
   case rel => exact ⟨_, (true), rs_, H', ⟨by first | omega | exact Nat.le_refl _⟩, ⟨bk_⟩, ⟨bl_⟩⟩
  ·rw [if_neg c4] at H
   have c4b0 : decide (a0_0 < 1) = false := decide_eq_false c4
   clear c4
   (first | rw [c4b0] | (simp only [i64_w, i32_w]; rw [c4b0]) | skip)
   have H' := Aside0.mk H
   clear H
   obtain ⟨hcz6_0, hcz6_1, hcz6_2, hcz6_3, hcz6_4, hfz6_0, hfz6_1, hfz6_2, hfz6_3, hfz6_4⟩ := cf5_ BK106.out
   go_wp2
   go_meet
   case rel => exact ⟨_, (decide (a0_0 > 6)), rs_, H', ⟨by first | omega | exact Nat.le_refl _⟩, ⟨bk_⟩, ⟨bl_⟩⟩
 case rest =>
  clear HC2
  try clear p2
  try clear c3
  try clear c4
  try clear c4b0
  try clear hcz5_0 hcz5_1 hcz5_2 hcz5_3 hcz5_4 hfz5_0 hfz5_1 hfz5_2 hfz5_3 hfz5_4
  try clear hcz6_0 hcz6_1 hcz6_2 hcz6_3 hcz6_4 hfz6_0 hfz6_1 hfz6_2 hfz6_3 hfz6_4
  obtain ⟨kq, x15_1, rfl, HA, HJ1, BK106, HB⟩ := hcut
  cases kq with
  | zero => exact absurd HA.out (by simp [types_fault.j0])
  | succ kj1 =>
   have H := HA.out
   clear HA
   simp only [types_fault.j0] at H
   by_cases c7 : x15_1 = true
   ·subst c7
    have H1 : (some 14) = some r := by rw [if_pos rfl] at H; exact H
    clear H
    have H := H1
    clear H1
    obtain rfl := Option.some.inj H
    go_wp2
    go_ret
    exact ⟨re_, bl_⟩
   ·replace c7 := Bool.eq_false_iff.mpr c7
    subst c7
    have H1 : ((types_unused.f a0_0 a0_1 a0_2 a0_3 l0_4).bind fun t107 => (if t107 = true then (some 2) else (if a0_0 = 2 then (if a0_1 < (-1000) then (some 1) else (if a0_1 > a0_2 then (some 1) else (if a0_2 > 1000 then (some 1) else (some 0)))) else (if a0_0 = 5 then (if (l0_4.length : Int) < 2 then (types_fault.j1 kj1 true a0_0 a0_1 a0_2 a0_3 l0_4) else (types_fault.j1 kj1 (decide ((l0_4.length : Int) > 4)) a0_0 a0_1 a0_2 a0_3 l0_4)) else (if a0_0 = 6 then (if a0_3 < 1 then (types_fault.j3 kj1 true a0_0 a0_1 a0_2 a0_3 l0_4) else (types_fault.j3 kj1 (decide (a0_3 > 4)) a0_0 a0_1 a0_2 a0_3 l0_4)) else (some 0)))))) = some r := by rw [if_neg (show ¬ (false = true) by decide)] at H; exact H
    clear H
    have H := H1
    clear H1
    replace H := Option.bind_eq_some_iff.mp H
    obtain ⟨t107, A80, H⟩ := H
    replace H : (if t107 = true then (some 2) else (if a0_0 = 2 then (if a0_1 < (-1000) then (some 1) else (if a0_1 > a0_2 then (some 1) else (if a0_2 > 1000 then (some 1) else (some 0)))) else (if a0_0 = 5 then (if (l0_4.length : Int) < 2 then (types_fault.j1 kj1 true a0_0 a0_1 a0_2 a0_3 l0_4) else (types_fault.j1 kj1 (decide ((l0_4.length : Int) > 4)) a0_0 a0_1 a0_2 a0_3 l0_4)) else (if a0_0 = 6 then (if a0_3 < 1 then (types_fault.j3 kj1 true a0_0 a0_1 a0_2 a0_3 l0_4) else (types_fault.j3 kj1 (decide (a0_3 > 4)) a0_0 a0_1 a0_2 a0_3 l0_4)) else (some 0))))) = some r := H
    have A8 := Aside0.mk A80
    clear A80
    by_cases c9 : t107 = true
    ·subst c9
     have H1 : (some 2) = some r := by rw [if_pos rfl] at H; exact H
     clear H
     have H := H1
     clear H1
     obtain rfl := Option.some.inj H
     obtain ⟨hcz10_0, hcz10_1, hcz10_2, hcz10_3, hcz10_4, hfz10_0, hfz10_1, hfz10_2, hfz10_3, hfz10_4⟩ := cf5_ BK106.out
     go_wp2_with (first | ((with_reducible refine gate_callee (f := 69) rfl ?_); refine goesL_ (some 17) rfl rfl Tryd.func69 (by kernel_rfl) rfl #[.agg #[.int .i64 a0_0, .int .i64 a0_1, .int .i64 a0_2, .int .i64 a0_3, .slice A0_4 l0_4.length c0_4]] rfl (by (try simp only [List.map_toArray, List.map_cons, List.map_nil]); first | done | rfl | (simp only [List.length_drop, List.length_take]; rfl)) ?_; (with_reducible refine (types_unused.calls a0_0 a0_1 a0_2 a0_3 _ _ l0_4 true _ ?side1 ?side2 A8.out).mono ?_); (case side1 => repeat (first | exact (Kd.C_below HR0_4.out HB.out) | (with_reducible refine Kd.C_alloc ?_ _) | (with_reducible refine Kd.C_drewN ?_ _) | (with_reducible refine Kd.C_drew ?_))); (case side2 => exact HC0_4.out); rintro e w11 ⟨rfl, hb⟩; refine ⟨_, rfl, ?_⟩; replace BK106 := Aside0.mk (blk_below (g := gb106) (o := .cells #[.int .i64 a0_0, .int .i64 a0_1, .int .i64 a0_2, .int .i64 a0_3, .slice A0_4 l0_4.length c0_4] 24 (0, 0)) bk_ hb); replace HB := Aside0.mk (below_step bl_ hb); (try clear hb); (try clear hb2); (try clear hk); (try clear hi)))
     go_ret
     exact ⟨re_, bl_⟩
    ·replace c9 := Bool.eq_false_iff.mpr c9
     subst c9
     have H1 : (if a0_0 = 2 then (if a0_1 < (-1000) then (some 1) else (if a0_1 > a0_2 then (some 1) else (if a0_2 > 1000 then (some 1) else (some 0)))) else (if a0_0 = 5 then (if (l0_4.length : Int) < 2 then (types_fault.j1 kj1 true a0_0 a0_1 a0_2 a0_3 l0_4) else (types_fault.j1 kj1 (decide ((l0_4.length : Int) > 4)) a0_0 a0_1 a0_2 a0_3 l0_4)) else (if a0_0 = 6 then (if a0_3 < 1 then (types_fault.j3 kj1 true a0_0 a0_1 a0_2 a0_3 l0_4) else (types_fault.j3 kj1 (decide (a0_3 > 4)) a0_0 a0_1 a0_2 a0_3 l0_4)) else (some 0)))) = some r := by rw [if_neg (show ¬ (false = true) by decide)] at H; exact H
     clear H
     have H := H1
     clear H1
     by_cases c12 : a0_0 = 2
     ·rw [if_pos c12] at H
      have c12b0 : (a0_0 == 2) = true := beq_iff_eq.mpr c12
      have c12b1 : (a0_0 != 2) = false := bne_eq_false_iff_eq.mpr c12
      clear c12
      by_cases c13 : a0_1 < (-1000)
      ·rw [if_pos c13] at H
       have c13b0 : decide (a0_1 < (-1000)) = true := decide_eq_true c13
       clear c13
       obtain rfl := Option.some.inj H
       obtain ⟨hcz14_0, hcz14_1, hcz14_2, hcz14_3, hcz14_4, hfz14_0, hfz14_1, hfz14_2, hfz14_3, hfz14_4⟩ := cf5_ BK106.out
       go_wp2_with (first | ((with_reducible refine gate_callee (f := 69) rfl ?_); refine goesL_ (some 17) rfl rfl Tryd.func69 (by kernel_rfl) rfl #[.agg #[.int .i64 a0_0, .int .i64 a0_1, .int .i64 a0_2, .int .i64 a0_3, .slice A0_4 l0_4.length c0_4]] rfl (by (try simp only [List.map_toArray, List.map_cons, List.map_nil]); first | done | rfl | (simp only [List.length_drop, List.length_take]; rfl)) ?_; (with_reducible refine (types_unused.calls a0_0 a0_1 a0_2 a0_3 _ _ l0_4 false _ ?side1 ?side2 A8.out).mono ?_); (case side1 => repeat (first | exact (Kd.C_below HR0_4.out HB.out) | (with_reducible refine Kd.C_alloc ?_ _) | (with_reducible refine Kd.C_drewN ?_ _) | (with_reducible refine Kd.C_drew ?_))); (case side2 => exact HC0_4.out); rintro e w15 ⟨rfl, hb⟩; refine ⟨_, rfl, ?_⟩; replace BK106 := Aside0.mk (blk_below (g := gb106) (o := .cells #[.int .i64 a0_0, .int .i64 a0_1, .int .i64 a0_2, .int .i64 a0_3, .slice A0_4 l0_4.length c0_4] 24 (0, 0)) bk_ hb); replace HB := Aside0.mk (below_step bl_ hb); (try clear hb); (try clear hb2); (try clear hk); (try clear hi); obtain ⟨hcz16_0, hcz16_1, hcz16_2, hcz16_3, hcz16_4, hfz16_0, hfz16_1, hfz16_2, hfz16_3, hfz16_4⟩ := cf5_ BK106.out))
       go_ret
       exact ⟨re_, bl_⟩
      ·rw [if_neg c13] at H
       have c13b0 : decide (a0_1 < (-1000)) = false := decide_eq_false c13
       clear c13
       by_cases c17 : a0_1 > a0_2
       ·rw [if_pos c17] at H
        have c17b0 : decide (a0_2 < a0_1) = true := decide_eq_true c17
        clear c17
        obtain rfl := Option.some.inj H
        obtain ⟨hcz18_0, hcz18_1, hcz18_2, hcz18_3, hcz18_4, hfz18_0, hfz18_1, hfz18_2, hfz18_3, hfz18_4⟩ := cf5_ BK106.out
        go_wp2_with (first | ((with_reducible refine gate_callee (f := 69) rfl ?_); refine goesL_ (some 17) rfl rfl Tryd.func69 (by kernel_rfl) rfl #[.agg #[.int .i64 a0_0, .int .i64 a0_1, .int .i64 a0_2, .int .i64 a0_3, .slice A0_4 l0_4.length c0_4]] rfl (by (try simp only [List.map_toArray, List.map_cons, List.map_nil]); first | done | rfl | (simp only [List.length_drop, List.length_take]; rfl)) ?_; (with_reducible refine (types_unused.calls a0_0 a0_1 a0_2 a0_3 _ _ l0_4 false _ ?side1 ?side2 A8.out).mono ?_); (case side1 => repeat (first | exact (Kd.C_below HR0_4.out HB.out) | (with_reducible refine Kd.C_alloc ?_ _) | (with_reducible refine Kd.C_drewN ?_ _) | (with_reducible refine Kd.C_drew ?_))); (case side2 => exact HC0_4.out); rintro e w19 ⟨rfl, hb⟩; refine ⟨_, rfl, ?_⟩; replace BK106 := Aside0.mk (blk_below (g := gb106) (o := .cells #[.int .i64 a0_0, .int .i64 a0_1, .int .i64 a0_2, .int .i64 a0_3, .slice A0_4 l0_4.length c0_4] 24 (0, 0)) bk_ hb); replace HB := Aside0.mk (below_step bl_ hb); (try clear hb); (try clear hb2); (try clear hk); (try clear hi); obtain ⟨hcz20_0, hcz20_1, hcz20_2, hcz20_3, hcz20_4, hfz20_0, hfz20_1, hfz20_2, hfz20_3, hfz20_4⟩ := cf5_ BK106.out))
        go_ret
        exact ⟨re_, bl_⟩
       ·rw [if_neg c17] at H
        have c17b0 : decide (a0_2 < a0_1) = false := decide_eq_false c17
        clear c17
        by_cases c21 : a0_2 > 1000
        ·rw [if_pos c21] at H
         have c21b0 : decide (1000 < a0_2) = true := decide_eq_true c21
         clear c21
         obtain rfl := Option.some.inj H
         obtain ⟨hcz22_0, hcz22_1, hcz22_2, hcz22_3, hcz22_4, hfz22_0, hfz22_1, hfz22_2, hfz22_3, hfz22_4⟩ := cf5_ BK106.out
         go_wp2_with (first | ((with_reducible refine gate_callee (f := 69) rfl ?_); refine goesL_ (some 17) rfl rfl Tryd.func69 (by kernel_rfl) rfl #[.agg #[.int .i64 a0_0, .int .i64 a0_1, .int .i64 a0_2, .int .i64 a0_3, .slice A0_4 l0_4.length c0_4]] rfl (by (try simp only [List.map_toArray, List.map_cons, List.map_nil]); first | done | rfl | (simp only [List.length_drop, List.length_take]; rfl)) ?_; (with_reducible refine (types_unused.calls a0_0 a0_1 a0_2 a0_3 _ _ l0_4 false _ ?side1 ?side2 A8.out).mono ?_); (case side1 => repeat (first | exact (Kd.C_below HR0_4.out HB.out) | (with_reducible refine Kd.C_alloc ?_ _) | (with_reducible refine Kd.C_drewN ?_ _) | (with_reducible refine Kd.C_drew ?_))); (case side2 => exact HC0_4.out); rintro e w23 ⟨rfl, hb⟩; refine ⟨_, rfl, ?_⟩; replace BK106 := Aside0.mk (blk_below (g := gb106) (o := .cells #[.int .i64 a0_0, .int .i64 a0_1, .int .i64 a0_2, .int .i64 a0_3, .slice A0_4 l0_4.length c0_4] 24 (0, 0)) bk_ hb); replace HB := Aside0.mk (below_step bl_ hb); (try clear hb); (try clear hb2); (try clear hk); (try clear hi); obtain ⟨hcz24_0, hcz24_1, hcz24_2, hcz24_3, hcz24_4, hfz24_0, hfz24_1, hfz24_2, hfz24_3, hfz24_4⟩ := cf5_ BK106.out))
         go_ret
         exact ⟨re_, bl_⟩
        ·rw [if_neg c21] at H
         have c21b0 : decide (1000 < a0_2) = false := decide_eq_false c21
         clear c21
         obtain rfl := Option.some.inj H
         obtain ⟨hcz25_0, hcz25_1, hcz25_2, hcz25_3, hcz25_4, hfz25_0, hfz25_1, hfz25_2, hfz25_3, hfz25_4⟩ := cf5_ BK106.out
         go_wp2_with (first | ((with_reducible refine gate_callee (f := 69) rfl ?_); refine goesL_ (some 17) rfl rfl Tryd.func69 (by kernel_rfl) rfl #[.agg #[.int .i64 a0_0, .int .i64 a0_1, .int .i64 a0_2, .int .i64 a0_3, .slice A0_4 l0_4.length c0_4]] rfl (by (try simp only [List.map_toArray, List.map_cons, List.map_nil]); first | done | rfl | (simp only [List.length_drop, List.length_take]; rfl)) ?_; (with_reducible refine (types_unused.calls a0_0 a0_1 a0_2 a0_3 _ _ l0_4 false _ ?side1 ?side2 A8.out).mono ?_); (case side1 => repeat (first | exact (Kd.C_below HR0_4.out HB.out) | (with_reducible refine Kd.C_alloc ?_ _) | (with_reducible refine Kd.C_drewN ?_ _) | (with_reducible refine Kd.C_drew ?_))); (case side2 => exact HC0_4.out); rintro e w26 ⟨rfl, hb⟩; refine ⟨_, rfl, ?_⟩; replace BK106 := Aside0.mk (blk_below (g := gb106) (o := .cells #[.int .i64 a0_0, .int .i64 a0_1, .int .i64 a0_2, .int .i64 a0_3, .slice A0_4 l0_4.length c0_4] 24 (0, 0)) bk_ hb); replace HB := Aside0.mk (below_step bl_ hb); (try clear hb); (try clear hb2); (try clear hk); (try clear hi); obtain ⟨hcz27_0, hcz27_1, hcz27_2, hcz27_3, hcz27_4, hfz27_0, hfz27_1, hfz27_2, hfz27_3, hfz27_4⟩ := cf5_ BK106.out))
         go_ret
         exact ⟨re_, bl_⟩
     ·rw [if_neg c12] at H
      have c12b0 : (a0_0 == 2) = false := beq_eq_false_iff_ne.mpr c12
      have c12b1 : (a0_0 != 2) = true := bne_iff_ne.mpr c12
      by_cases c28 : a0_0 = 5
      ·rw [if_pos c28] at H
       have c28b0 : (a0_0 == 5) = true := beq_iff_eq.mpr c28
       have c28b1 : (a0_0 != 5) = false := bne_eq_false_iff_eq.mpr c28
       clear c28
       have HC29 := Aside0.mk H
       clear H
       obtain ⟨hcz30_0, hcz30_1, hcz30_2, hcz30_3, hcz30_4, hfz30_0, hfz30_1, hfz30_2, hfz30_3, hfz30_4⟩ := cf5_ BK106.out
       go_upto_region 10 with (first | ((with_reducible refine gate_callee (f := 69) rfl ?_); refine goesL_ (some 17) rfl rfl Tryd.func69 (by kernel_rfl) rfl #[.agg #[.int .i64 a0_0, .int .i64 a0_1, .int .i64 a0_2, .int .i64 a0_3, .slice A0_4 l0_4.length c0_4]] rfl (by (try simp only [List.map_toArray, List.map_cons, List.map_nil]); first | done | rfl | (simp only [List.length_drop, List.length_take]; rfl)) ?_; (with_reducible refine (types_unused.calls a0_0 a0_1 a0_2 a0_3 _ _ l0_4 false _ ?side1 ?side2 A8.out).mono ?_); (case side1 => repeat (first | exact (Kd.C_below HR0_4.out HB.out) | (with_reducible refine Kd.C_alloc ?_ _) | (with_reducible refine Kd.C_drewN ?_ _) | (with_reducible refine Kd.C_drew ?_))); (case side2 => exact HC0_4.out); rintro e w31 ⟨rfl, hb⟩; refine ⟨_, rfl, ?_⟩; replace BK106 := Aside0.mk (blk_below (g := gb106) (o := .cells #[.int .i64 a0_0, .int .i64 a0_1, .int .i64 a0_2, .int .i64 a0_3, .slice A0_4 l0_4.length c0_4] 24 (0, 0)) bk_ hb); replace HB := Aside0.mk (below_step bl_ hb); (try clear hb); (try clear hb2); (try clear hk); (try clear hi); obtain ⟨hcz32_0, hcz32_1, hcz32_2, hcz32_3, hcz32_4, hfz32_0, hfz32_1, hfz32_2, hfz32_3, hfz32_4⟩ := cf5_ BK106.out))
       (try simp only [Act.put, List.setIfInBounds_toArray, List.set_cons_zero, List.set_cons_succ])
       go_cut [48] (fun v48 wc => ∃ (kq : Nat) (x48_28 : Bool), v48 = .bool x48_28 ∧ Aside0 (types_fault.j1 kq x48_28 a0_0 a0_1 a0_2 a0_3 l0_4 = some r) ∧ Aside0 (kq ≤ kj1) ∧ Aside0 (wc.heap[gb106]? = some (.cells #[.int .i64 a0_0, .int .i64 a0_1, .int .i64 a0_2, .int .i64 a0_3, (.slice A0_4 l0_4.length c0_4)] 24 (0, 0))) ∧ Aside0 (Below w.heap.size w wc))
       case first =>
        have H := HC29.out
        clear HC29
        by_cases c33 : (l0_4.length : Int) < 2
        ·rw [if_pos c33] at H
         have c33b0 : decide ((l0_4.length : Int) < 2) = true := decide_eq_true c33
         have c33b1 : decide (l0_4.length < 2) = true := decide_eq_true (by omega)
         clear c33
         (first | rw [c33b0] | (simp only [i64_w, i32_w]; rw [c33b0]) | skip)
         have H' := Aside0.mk H
         clear H
         obtain ⟨hcz34_0, hcz34_1, hcz34_2, hcz34_3, hcz34_4, hfz34_0, hfz34_1, hfz34_2, hfz34_3, hfz34_4⟩ := cf5_ BK106.out
         go_wp2
         go_meet
         case rel => exact ⟨_, (true), rs_, H', ⟨by have := HJ1.out; first | omega | exact Nat.le_refl _⟩, ⟨bk_⟩, ⟨bl_⟩⟩
        ·rw [if_neg c33] at H
         have c33b0 : decide ((l0_4.length : Int) < 2) = false := decide_eq_false c33
         have c33b1 : decide (l0_4.length < 2) = false := decide_eq_false (by omega)
         clear c33
         (first | rw [c33b0] | (simp only [i64_w, i32_w]; rw [c33b0]) | skip)
         have H' := Aside0.mk H
         clear H
         obtain ⟨hcz35_0, hcz35_1, hcz35_2, hcz35_3, hcz35_4, hfz35_0, hfz35_1, hfz35_2, hfz35_3, hfz35_4⟩ := cf5_ BK106.out
         go_wp2
         go_meet
         case rel => exact ⟨_, (decide ((l0_4.length : Int) > 4)), rs_, H', ⟨by have := HJ1.out; first | omega | exact Nat.le_refl _⟩, ⟨bk_⟩, ⟨bl_⟩⟩
       case rest =>
        clear HC29
        try clear c1
        try clear c2
        try clear p2
        try clear c3
        try clear c4
        try clear c4b0
        try clear c6
        try clear c7
        try clear c9
        try clear c12
        try clear c12b0
        try clear c12b1
        try clear c13
        try clear c13b0
        try clear c17
        try clear c17b0
        try clear c21
        try clear c21b0
        try clear c28
        try clear c28b0
        try clear c28b1
        try clear c33
        try clear c33b0
        try clear c33b1
        try clear hcz10_0 hcz10_1 hcz10_2 hcz10_3 hcz10_4 hfz10_0 hfz10_1 hfz10_2 hfz10_3 hfz10_4
        try clear hcz14_0 hcz14_1 hcz14_2 hcz14_3 hcz14_4 hfz14_0 hfz14_1 hfz14_2 hfz14_3 hfz14_4
        try clear hcz16_0 hcz16_1 hcz16_2 hcz16_3 hcz16_4 hfz16_0 hfz16_1 hfz16_2 hfz16_3 hfz16_4
        try clear hcz18_0 hcz18_1 hcz18_2 hcz18_3 hcz18_4 hfz18_0 hfz18_1 hfz18_2 hfz18_3 hfz18_4
        try clear hcz20_0 hcz20_1 hcz20_2 hcz20_3 hcz20_4 hfz20_0 hfz20_1 hfz20_2 hfz20_3 hfz20_4
        try clear hcz22_0 hcz22_1 hcz22_2 hcz22_3 hcz22_4 hfz22_0 hfz22_1 hfz22_2 hfz22_3 hfz22_4
        try clear hcz24_0 hcz24_1 hcz24_2 hcz24_3 hcz24_4 hfz24_0 hfz24_1 hfz24_2 hfz24_3 hfz24_4
        try clear hcz25_0 hcz25_1 hcz25_2 hcz25_3 hcz25_4 hfz25_0 hfz25_1 hfz25_2 hfz25_3 hfz25_4
        try clear hcz27_0 hcz27_1 hcz27_2 hcz27_3 hcz27_4 hfz27_0 hfz27_1 hfz27_2 hfz27_3 hfz27_4
        try clear hcz30_0 hcz30_1 hcz30_2 hcz30_3 hcz30_4 hfz30_0 hfz30_1 hfz30_2 hfz30_3 hfz30_4
        try clear hcz32_0 hcz32_1 hcz32_2 hcz32_3 hcz32_4 hfz32_0 hfz32_1 hfz32_2 hfz32_3 hfz32_4
        try clear hcz34_0 hcz34_1 hcz34_2 hcz34_3 hcz34_4 hfz34_0 hfz34_1 hfz34_2 hfz34_3 hfz34_4
        try clear hcz35_0 hcz35_1 hcz35_2 hcz35_3 hcz35_4 hfz35_0 hfz35_1 hfz35_2 hfz35_3 hfz35_4
        try clear hcz5_0 hcz5_1 hcz5_2 hcz5_3 hcz5_4 hfz5_0 hfz5_1 hfz5_2 hfz5_3 hfz5_4
        try clear hcz6_0 hcz6_1 hcz6_2 hcz6_3 hcz6_4 hfz6_0 hfz6_1 hfz6_2 hfz6_3 hfz6_4
        try clear p2
        obtain ⟨kq, x48_28, rfl, HA, HJ28, BK106, HB⟩ := hcut
        cases kq with
        | zero => exact absurd HA.out (by simp [types_fault.j1])
        | succ kj28 =>
         have H := HA.out
         clear HA
         simp only [types_fault.j1] at H
         by_cases c36 : x48_28 = true
         ·subst c36
          have H1 : (some 1) = some r := by rw [if_pos rfl] at H; exact H
          clear H
          have H := H1
          clear H1
          obtain rfl := Option.some.inj H
          go_wp2
          go_ret
          exact ⟨re_, bl_⟩
         ·replace c36 := Bool.eq_false_iff.mpr c36
          subst c36
          have H1 : (types_fault.l0 kj28 l0_4 (l0_4.length : Int) 0) = some r := by rw [if_neg (show ¬ (false = true) by decide)] at H; exact H
          clear H
          have H := H1
          clear H1
          have H' := Aside0.mk H
          clear H
          obtain ⟨hcz37_0, hcz37_1, hcz37_2, hcz37_3, hcz37_4, hfz37_0, hfz37_1, hfz37_2, hfz37_3, hfz37_4⟩ := cf5_ BK106.out
          go_wp2
          go_loopg [52] kj28 (fun kq v52 w' => ∃ (x52_3 : Int), v52 = .int .i64 x52_3 ∧ Aside0 (types_fault.l0 kq l0_4 (l0_4.length : Int) x52_3 = some r) ∧ Aside0 (kq ≤ kj28) ∧ Aside0 (w'.heap[gb106]? = some (.cells #[.int .i64 a0_0, .int .i64 a0_1, .int .i64 a0_2, .int .i64 a0_3, (.slice A0_4 l0_4.length c0_4)] 24 (0, 0))) ∧ Aside0 (Below w.heap.size w w'))
          case atStart => exact ⟨(0), rs_, H', ⟨Nat.le_refl _⟩, ⟨bk_⟩, ⟨bl_⟩⟩
          case round =>
           clear H'
           try clear c1
           try clear c2
           try clear p2
           try clear c3
           try clear c4
           try clear c4b0
           try clear c6
           try clear c7
           try clear c9
           try clear c12
           try clear c12b0
           try clear c12b1
           try clear c13
           try clear c13b0
           try clear c17
           try clear c17b0
           try clear c21
           try clear c21b0
           try clear c28
           try clear c28b0
           try clear c28b1
           try clear c33
           try clear c33b0
           try clear c33b1
           try clear c36
           try clear hcz10_0 hcz10_1 hcz10_2 hcz10_3 hcz10_4 hfz10_0 hfz10_1 hfz10_2 hfz10_3 hfz10_4
           try clear hcz14_0 hcz14_1 hcz14_2 hcz14_3 hcz14_4 hfz14_0 hfz14_1 hfz14_2 hfz14_3 hfz14_4
           try clear hcz16_0 hcz16_1 hcz16_2 hcz16_3 hcz16_4 hfz16_0 hfz16_1 hfz16_2 hfz16_3 hfz16_4
           try clear hcz18_0 hcz18_1 hcz18_2 hcz18_3 hcz18_4 hfz18_0 hfz18_1 hfz18_2 hfz18_3 hfz18_4
           try clear hcz20_0 hcz20_1 hcz20_2 hcz20_3 hcz20_4 hfz20_0 hfz20_1 hfz20_2 hfz20_3 hfz20_4
           try clear hcz22_0 hcz22_1 hcz22_2 hcz22_3 hcz22_4 hfz22_0 hfz22_1 hfz22_2 hfz22_3 hfz22_4
           try clear hcz24_0 hcz24_1 hcz24_2 hcz24_3 hcz24_4 hfz24_0 hfz24_1 hfz24_2 hfz24_3 hfz24_4
           try clear hcz25_0 hcz25_1 hcz25_2 hcz25_3 hcz25_4 hfz25_0 hfz25_1 hfz25_2 hfz25_3 hfz25_4
           try clear hcz27_0 hcz27_1 hcz27_2 hcz27_3 hcz27_4 hfz27_0 hfz27_1 hfz27_2 hfz27_3 hfz27_4
           try clear hcz30_0 hcz30_1 hcz30_2 hcz30_3 hcz30_4 hfz30_0 hfz30_1 hfz30_2 hfz30_3 hfz30_4
           try clear hcz32_0 hcz32_1 hcz32_2 hcz32_3 hcz32_4 hfz32_0 hfz32_1 hfz32_2 hfz32_3 hfz32_4
           try clear hcz34_0 hcz34_1 hcz34_2 hcz34_3 hcz34_4 hfz34_0 hfz34_1 hfz34_2 hfz34_3 hfz34_4
           try clear hcz35_0 hcz35_1 hcz35_2 hcz35_3 hcz35_4 hfz35_0 hfz35_1 hfz35_2 hfz35_3 hfz35_4
           try clear hcz37_0 hcz37_1 hcz37_2 hcz37_3 hcz37_4 hfz37_0 hfz37_1 hfz37_2 hfz37_3 hfz37_4
           try clear hcz5_0 hcz5_1 hcz5_2 hcz5_3 hcz5_4 hfz5_0 hfz5_1 hfz5_2 hfz5_3 hfz5_4
           try clear hcz6_0 hcz6_1 hcz6_2 hcz6_3 hcz6_4 hfz6_0 hfz6_1 hfz6_2 hfz6_3 hfz6_4
           try clear p2
           obtain ⟨x52_3, rfl, HA, HK3, BK106, HB⟩ := hrel
           cases gk with
           | zero => exact absurd HA.out (by simp [types_fault.l0])
           | succ k3 =>
            have H := HA.out
            clear HA
            simp only [types_fault.l0] at H
            by_cases c38 : x52_3 < (l0_4.length : Int)
            ·rw [if_pos c38] at H
             have c38b0 : decide (x52_3 < (l0_4.length : Int)) = true := decide_eq_true c38
             clear c38
             by_cases c39 : 0 ≤ x52_3
             ·rw [if_pos c39] at H
              have c39b0 : decide (0 ≤ x52_3) = true := decide_eq_true c39
              clear c39
              by_cases c40 : x52_3 < (l0_4.length : Int)
              ·rw [if_pos c40] at H
               have c40b0 : decide (x52_3 < (l0_4.length : Int)) = true := decide_eq_true c40
               clear c40
               replace H := Option.bind_eq_some_iff.mp H
               obtain ⟨t110, A410, H⟩ := H
               replace H : (if t110 = 0 then (if ((rd_T24 l0_4 x52_3).f0) = 3 then (some 8) else (if ((rd_T24 l0_4 x52_3).f0) = 4 then (some 8) else (types_fault.l0 k3 l0_4 (l0_4.length : Int) (wrap64 (x52_3 + 1))))) else (some t110)) = some r := H
               have A41 := Aside0.mk A410
               clear A410
               by_cases c42 : t110 = 0
               ·rw [if_pos c42] at H
                have c42b0 : (t110 == 0) = true := beq_iff_eq.mpr c42
                have c42b1 : (t110 != 0) = false := bne_eq_false_iff_eq.mpr c42
                clear c42
                by_cases c43 : ((rd_T24 l0_4 x52_3).f0) = 3
                ·rw [if_pos c43] at H
                 have c43b0 : (((rd_T24 l0_4 x52_3).f0) == 3) = true := beq_iff_eq.mpr c43
                 have c43b1 : (((rd_T24 l0_4 x52_3).f0) != 3) = false := bne_eq_false_iff_eq.mpr c43
                 clear c43
                 obtain rfl := Option.some.inj H
                 have p108 : 0 ≤ (x52_3 : Int) := dt_
                 have q108 : x52_3 < (l0_4.length : Int) := dt_
                 obtain ⟨ad108, A108_4, c108_4, e108, hx108_0, hx108_1, hx108_2, hx108_3, hx108_4, hl108_4, hi108_4⟩ := at_T24 HR0_4.out x52_3 p108 q108
                 cases e108
                 replace hx108_0 := (HB.out.cell (World.block_lt_of_cell? w _ hx108_0)).trans hx108_0
                 replace hx108_1 := (HB.out.cell (World.block_lt_of_cell? w _ hx108_1)).trans hx108_1
                 replace hx108_2 := (HB.out.cell (World.block_lt_of_cell? w _ hx108_2)).trans hx108_2
                 replace hx108_3 := (HB.out.cell (World.block_lt_of_cell? w _ hx108_3)).trans hx108_3
                 replace hx108_4 := (HB.out.cell (World.block_lt_of_cell? w _ hx108_4)).trans hx108_4
                 have HR108_4 := Aside0.mk hi108_4
                 have HC108_4 := Aside0.mk hl108_4
                 clear hi108_4 hl108_4
                 replace p108 := eq_true p108
                 replace q108 := eq_true q108
                 go_wp2_with (first | ((with_reducible refine gate_dst (N := 4) rfl ?_); (try (refine gate_guard (by rfl) ?_; dsimp only)); refine box_event ?hg (N := 4) ?hd (cs := #[.int .i64 0, .int .i64 0, .int .i64 0, .int .i64 0, .slice none 0 0]) (t := 24) ?hr ?_; (case hd => rfl); (case hg => rfl); (case hr => first | (go_simp; done) | (go_simp; rfl)); intro gb109 hg w44 hbox hb; have BK109 := Aside0.mk (hbox); have GW109 : Aside0 (w.heap.size ≤ gb109) := gw_ hg (below_size bl_); have GE109 := GW109; have NB106_109 := Aside0.mk ((by rw [hg]; exact Nat.ne_of_lt (blk_lt (g := gb106) (o := .cells #[.int .i64 a0_0, .int .i64 a0_1, .int .i64 a0_2, .int .i64 a0_3, .slice (some ad108) l0_4.length c0_4] 24 (0, 0)) bk_) : gb106 ≠ gb109)); have NB109_106 := Aside0.mk ((by rw [hg]; exact Nat.ne_of_gt (blk_lt (g := gb106) (o := .cells #[.int .i64 a0_0, .int .i64 a0_1, .int .i64 a0_2, .int .i64 a0_3, .slice (some ad108) l0_4.length c0_4] 24 (0, 0)) bk_) : gb109 ≠ gb106)); replace BK106 := Aside0.mk (blk_below (g := gb106) (o := .cells #[.int .i64 a0_0, .int .i64 a0_1, .int .i64 a0_2, .int .i64 a0_3, .slice (some ad108) l0_4.length c0_4] 24 (0, 0)) bk_ hb); replace HB := Aside0.mk (below_step bl_ hb); clear hb hbox hg; have hnb45 := NB109_106.out; have hnc45 := NB106_109.out; obtain ⟨hcz46_0, hcz46_1, hcz46_2, hcz46_3, hcz46_4, hfz46_0, hfz46_1, hfz46_2, hfz46_3, hfz46_4⟩ := cf5_ BK109.out) | ((with_reducible refine gate_callee (f := 39) rfl ?_); refine goesL_ (some 57) rfl rfl Tryd.func39 (by kernel_rfl) rfl #[.agg #[.int .i64 ((rd_T24 l0_4 x52_3).f0), .int .i64 ((rd_T24 l0_4 x52_3).f1), .int .i64 ((rd_T24 l0_4 x52_3).f2), .int .i64 ((rd_T24 l0_4 x52_3).f3), .slice A108_4 ((rd_T24 l0_4 x52_3).f4).length c108_4]] rfl (by (try simp only [List.map_toArray, List.map_cons, List.map_nil]); first | done | rfl | (simp only [List.length_drop, List.length_take]; rfl)) ?_; (with_reducible refine (ih k3 (by have := HJ1.out; have := HJ28.out; have := HK3.out; omega) ((rd_T24 l0_4 x52_3).f0) ((rd_T24 l0_4 x52_3).f1) ((rd_T24 l0_4 x52_3).f2) ((rd_T24 l0_4 x52_3).f3) _ _ ((rd_T24 l0_4 x52_3).f4) t110 _ ?side1 ?side2 A41.out).mono ?_); (case side1 => exact Kd.C_below HR108_4.out bl_); (case side2 => exact HC108_4.out); rintro e w47 ⟨rfl, hb⟩; refine ⟨_, rfl, ?_⟩; replace BK106 := Aside0.mk (blk_below (g := gb106) (o := .cells #[.int .i64 a0_0, .int .i64 a0_1, .int .i64 a0_2, .int .i64 a0_3, .slice (some ad108) l0_4.length c0_4] 24 (0, 0)) (by (with_reducible repeat (first | refine blk_drewN ?_ _ | refine blk_drew ?_ | refine blk_alloc ?_ _)); refine blk_far ?_ NB106_109.out _; (with_reducible repeat (first | refine blk_drewN ?_ _ | refine blk_drew ?_ | refine blk_alloc ?_ _)); refine blk_far ?_ NB106_109.out _; (with_reducible repeat (first | refine blk_drewN ?_ _ | refine blk_drew ?_ | refine blk_alloc ?_ _)); refine blk_far ?_ NB106_109.out _; (with_reducible repeat (first | refine blk_drewN ?_ _ | refine blk_drew ?_ | refine blk_alloc ?_ _)); refine blk_far ?_ NB106_109.out _; (with_reducible repeat (first | refine blk_drewN ?_ _ | refine blk_drew ?_ | refine blk_alloc ?_ _)); refine blk_far ?_ NB106_109.out _; (with_reducible repeat (first | refine blk_drewN ?_ _ | refine blk_drew ?_ | refine blk_alloc ?_ _)); exact BK106.out) hb); replace BK109 := Aside0.mk (blk_below (g := gb109) (o := .cells #[.int .i64 ((rd_T24 l0_4 x52_3).f0), .int .i64 ((rd_T24 l0_4 x52_3).f1), .int .i64 ((rd_T24 l0_4 x52_3).f2), .int .i64 ((rd_T24 l0_4 x52_3).f3), .slice A108_4 ((rd_T24 l0_4 x52_3).f4).length c108_4] 24 (0, 0)) (by (with_reducible repeat (first | refine blk_drewN ?_ _ | refine blk_drew ?_ | refine blk_alloc ?_ _)); refine blk_put (cs := #[.int .i64 ((rd_T24 l0_4 x52_3).f0), .int .i64 ((rd_T24 l0_4 x52_3).f1), .int .i64 ((rd_T24 l0_4 x52_3).f2), .int .i64 ((rd_T24 l0_4 x52_3).f3), .slice none 0 0]) ?_ 4 _ rfl; (with_reducible repeat (first | refine blk_drewN ?_ _ | refine blk_drew ?_ | refine blk_alloc ?_ _)); refine blk_put (cs := #[.int .i64 ((rd_T24 l0_4 x52_3).f0), .int .i64 ((rd_T24 l0_4 x52_3).f1), .int .i64 ((rd_T24 l0_4 x52_3).f2), .int .i64 0, .slice none 0 0]) ?_ 3 _ rfl; (with_reducible repeat (first | refine blk_drewN ?_ _ | refine blk_drew ?_ | refine blk_alloc ?_ _)); refine blk_put (cs := #[.int .i64 ((rd_T24 l0_4 x52_3).f0), .int .i64 ((rd_T24 l0_4 x52_3).f1), .int .i64 0, .int .i64 0, .slice none 0 0]) ?_ 2 _ rfl; (with_reducible repeat (first | refine blk_drewN ?_ _ | refine blk_drew ?_ | refine blk_alloc ?_ _)); refine blk_put (cs := #[.int .i64 ((rd_T24 l0_4 x52_3).f0), .int .i64 0, .int .i64 0, .int .i64 0, .slice none 0 0]) ?_ 1 _ rfl; (with_reducible repeat (first | refine blk_drewN ?_ _ | refine blk_drew ?_ | refine blk_alloc ?_ _)); refine blk_put (cs := #[.int .i64 0, .int .i64 0, .int .i64 0, .int .i64 0, .slice none 0 0]) ?_ 0 _ rfl; (with_reducible repeat (first | refine blk_drewN ?_ _ | refine blk_drew ?_ | refine blk_alloc ?_ _)); exact BK109.out) hb); replace HB := Aside0.mk (below_step bl_ hb); (try clear hb); (try clear hb2); (try clear hk); (try clear hi); obtain ⟨hcz48_0, hcz48_1, hcz48_2, hcz48_3, hcz48_4, hfz48_0, hfz48_1, hfz48_2, hfz48_3, hfz48_4⟩ := cf5_ BK109.out))
                 go_ret
                 exact ⟨re_, bl_⟩
                ·rw [if_neg c43] at H
                 have c43b0 : (((rd_T24 l0_4 x52_3).f0) == 3) = false := beq_eq_false_iff_ne.mpr c43
                 have c43b1 : (((rd_T24 l0_4 x52_3).f0) != 3) = true := bne_iff_ne.mpr c43
                 by_cases c49 : ((rd_T24 l0_4 x52_3).f0) = 4
                 ·rw [if_pos c49] at H
                  have c49b0 : (((rd_T24 l0_4 x52_3).f0) == 4) = true := beq_iff_eq.mpr c49
                  have c49b1 : (((rd_T24 l0_4 x52_3).f0) != 4) = false := bne_eq_false_iff_eq.mpr c49
                  clear c49
                  obtain rfl := Option.some.inj H
                  have p108 : 0 ≤ (x52_3 : Int) := dt_
                  have q108 : x52_3 < (l0_4.length : Int) := dt_
                  obtain ⟨ad108, A108_4, c108_4, e108, hx108_0, hx108_1, hx108_2, hx108_3, hx108_4, hl108_4, hi108_4⟩ := at_T24 HR0_4.out x52_3 p108 q108
                  cases e108
                  replace hx108_0 := (HB.out.cell (World.block_lt_of_cell? w _ hx108_0)).trans hx108_0
                  replace hx108_1 := (HB.out.cell (World.block_lt_of_cell? w _ hx108_1)).trans hx108_1
                  replace hx108_2 := (HB.out.cell (World.block_lt_of_cell? w _ hx108_2)).trans hx108_2
                  replace hx108_3 := (HB.out.cell (World.block_lt_of_cell? w _ hx108_3)).trans hx108_3
                  replace hx108_4 := (HB.out.cell (World.block_lt_of_cell? w _ hx108_4)).trans hx108_4
                  have HR108_4 := Aside0.mk hi108_4
                  have HC108_4 := Aside0.mk hl108_4
                  clear hi108_4 hl108_4
                  replace p108 := eq_true p108
                  replace q108 := eq_true q108
                  go_wp2_with (first | ((with_reducible refine gate_dst (N := 4) rfl ?_); (try (refine gate_guard (by rfl) ?_; dsimp only)); refine box_event ?hg (N := 4) ?hd (cs := #[.int .i64 0, .int .i64 0, .int .i64 0, .int .i64 0, .slice none 0 0]) (t := 24) ?hr ?_; (case hd => rfl); (case hg => rfl); (case hr => first | (go_simp; done) | (go_simp; rfl)); intro gb109 hg w50 hbox hb; have BK109 := Aside0.mk (hbox); have GW109 : Aside0 (w.heap.size ≤ gb109) := gw_ hg (below_size bl_); have GE109 := GW109; have NB106_109 := Aside0.mk ((by rw [hg]; exact Nat.ne_of_lt (blk_lt (g := gb106) (o := .cells #[.int .i64 a0_0, .int .i64 a0_1, .int .i64 a0_2, .int .i64 a0_3, .slice (some ad108) l0_4.length c0_4] 24 (0, 0)) bk_) : gb106 ≠ gb109)); have NB109_106 := Aside0.mk ((by rw [hg]; exact Nat.ne_of_gt (blk_lt (g := gb106) (o := .cells #[.int .i64 a0_0, .int .i64 a0_1, .int .i64 a0_2, .int .i64 a0_3, .slice (some ad108) l0_4.length c0_4] 24 (0, 0)) bk_) : gb109 ≠ gb106)); replace BK106 := Aside0.mk (blk_below (g := gb106) (o := .cells #[.int .i64 a0_0, .int .i64 a0_1, .int .i64 a0_2, .int .i64 a0_3, .slice (some ad108) l0_4.length c0_4] 24 (0, 0)) bk_ hb); replace HB := Aside0.mk (below_step bl_ hb); clear hb hbox hg; have hnb51 := NB109_106.out; have hnc51 := NB106_109.out; obtain ⟨hcz52_0, hcz52_1, hcz52_2, hcz52_3, hcz52_4, hfz52_0, hfz52_1, hfz52_2, hfz52_3, hfz52_4⟩ := cf5_ BK109.out) | ((with_reducible refine gate_callee (f := 39) rfl ?_); refine goesL_ (some 57) rfl rfl Tryd.func39 (by kernel_rfl) rfl #[.agg #[.int .i64 ((rd_T24 l0_4 x52_3).f0), .int .i64 ((rd_T24 l0_4 x52_3).f1), .int .i64 ((rd_T24 l0_4 x52_3).f2), .int .i64 ((rd_T24 l0_4 x52_3).f3), .slice A108_4 ((rd_T24 l0_4 x52_3).f4).length c108_4]] rfl (by (try simp only [List.map_toArray, List.map_cons, List.map_nil]); first | done | rfl | (simp only [List.length_drop, List.length_take]; rfl)) ?_; (with_reducible refine (ih k3 (by have := HJ1.out; have := HJ28.out; have := HK3.out; omega) ((rd_T24 l0_4 x52_3).f0) ((rd_T24 l0_4 x52_3).f1) ((rd_T24 l0_4 x52_3).f2) ((rd_T24 l0_4 x52_3).f3) _ _ ((rd_T24 l0_4 x52_3).f4) t110 _ ?side1 ?side2 A41.out).mono ?_); (case side1 => exact Kd.C_below HR108_4.out bl_); (case side2 => exact HC108_4.out); rintro e w53 ⟨rfl, hb⟩; refine ⟨_, rfl, ?_⟩; replace BK106 := Aside0.mk (blk_below (g := gb106) (o := .cells #[.int .i64 a0_0, .int .i64 a0_1, .int .i64 a0_2, .int .i64 a0_3, .slice (some ad108) l0_4.length c0_4] 24 (0, 0)) (by (with_reducible repeat (first | refine blk_drewN ?_ _ | refine blk_drew ?_ | refine blk_alloc ?_ _)); refine blk_far ?_ NB106_109.out _; (with_reducible repeat (first | refine blk_drewN ?_ _ | refine blk_drew ?_ | refine blk_alloc ?_ _)); refine blk_far ?_ NB106_109.out _; (with_reducible repeat (first | refine blk_drewN ?_ _ | refine blk_drew ?_ | refine blk_alloc ?_ _)); refine blk_far ?_ NB106_109.out _; (with_reducible repeat (first | refine blk_drewN ?_ _ | refine blk_drew ?_ | refine blk_alloc ?_ _)); refine blk_far ?_ NB106_109.out _; (with_reducible repeat (first | refine blk_drewN ?_ _ | refine blk_drew ?_ | refine blk_alloc ?_ _)); refine blk_far ?_ NB106_109.out _; (with_reducible repeat (first | refine blk_drewN ?_ _ | refine blk_drew ?_ | refine blk_alloc ?_ _)); exact BK106.out) hb); replace BK109 := Aside0.mk (blk_below (g := gb109) (o := .cells #[.int .i64 ((rd_T24 l0_4 x52_3).f0), .int .i64 ((rd_T24 l0_4 x52_3).f1), .int .i64 ((rd_T24 l0_4 x52_3).f2), .int .i64 ((rd_T24 l0_4 x52_3).f3), .slice A108_4 ((rd_T24 l0_4 x52_3).f4).length c108_4] 24 (0, 0)) (by (with_reducible repeat (first | refine blk_drewN ?_ _ | refine blk_drew ?_ | refine blk_alloc ?_ _)); refine blk_put (cs := #[.int .i64 ((rd_T24 l0_4 x52_3).f0), .int .i64 ((rd_T24 l0_4 x52_3).f1), .int .i64 ((rd_T24 l0_4 x52_3).f2), .int .i64 ((rd_T24 l0_4 x52_3).f3), .slice none 0 0]) ?_ 4 _ rfl; (with_reducible repeat (first | refine blk_drewN ?_ _ | refine blk_drew ?_ | refine blk_alloc ?_ _)); refine blk_put (cs := #[.int .i64 ((rd_T24 l0_4 x52_3).f0), .int .i64 ((rd_T24 l0_4 x52_3).f1), .int .i64 ((rd_T24 l0_4 x52_3).f2), .int .i64 0, .slice none 0 0]) ?_ 3 _ rfl; (with_reducible repeat (first | refine blk_drewN ?_ _ | refine blk_drew ?_ | refine blk_alloc ?_ _)); refine blk_put (cs := #[.int .i64 ((rd_T24 l0_4 x52_3).f0), .int .i64 ((rd_T24 l0_4 x52_3).f1), .int .i64 0, .int .i64 0, .slice none 0 0]) ?_ 2 _ rfl; (with_reducible repeat (first | refine blk_drewN ?_ _ | refine blk_drew ?_ | refine blk_alloc ?_ _)); refine blk_put (cs := #[.int .i64 ((rd_T24 l0_4 x52_3).f0), .int .i64 0, .int .i64 0, .int .i64 0, .slice none 0 0]) ?_ 1 _ rfl; (with_reducible repeat (first | refine blk_drewN ?_ _ | refine blk_drew ?_ | refine blk_alloc ?_ _)); refine blk_put (cs := #[.int .i64 0, .int .i64 0, .int .i64 0, .int .i64 0, .slice none 0 0]) ?_ 0 _ rfl; (with_reducible repeat (first | refine blk_drewN ?_ _ | refine blk_drew ?_ | refine blk_alloc ?_ _)); exact BK109.out) hb); replace HB := Aside0.mk (below_step bl_ hb); (try clear hb); (try clear hb2); (try clear hk); (try clear hi); obtain ⟨hcz54_0, hcz54_1, hcz54_2, hcz54_3, hcz54_4, hfz54_0, hfz54_1, hfz54_2, hfz54_3, hfz54_4⟩ := cf5_ BK109.out))
                  go_ret
                  exact ⟨re_, bl_⟩
                 ·rw [if_neg c49] at H
                  have c49b0 : (((rd_T24 l0_4 x52_3).f0) == 4) = false := beq_eq_false_iff_ne.mpr c49
                  have c49b1 : (((rd_T24 l0_4 x52_3).f0) != 4) = true := bne_iff_ne.mpr c49
                  have H' := Aside0.mk H
                  clear H
                  have p108 : 0 ≤ (x52_3 : Int) := dt_
                  have q108 : x52_3 < (l0_4.length : Int) := dt_
                  obtain ⟨ad108, A108_4, c108_4, e108, hx108_0, hx108_1, hx108_2, hx108_3, hx108_4, hl108_4, hi108_4⟩ := at_T24 HR0_4.out x52_3 p108 q108
                  cases e108
                  replace hx108_0 := (HB.out.cell (World.block_lt_of_cell? w _ hx108_0)).trans hx108_0
                  replace hx108_1 := (HB.out.cell (World.block_lt_of_cell? w _ hx108_1)).trans hx108_1
                  replace hx108_2 := (HB.out.cell (World.block_lt_of_cell? w _ hx108_2)).trans hx108_2
                  replace hx108_3 := (HB.out.cell (World.block_lt_of_cell? w _ hx108_3)).trans hx108_3
                  replace hx108_4 := (HB.out.cell (World.block_lt_of_cell? w _ hx108_4)).trans hx108_4
                  have HR108_4 := Aside0.mk hi108_4
                  have HC108_4 := Aside0.mk hl108_4
                  clear hi108_4 hl108_4
                  replace p108 := eq_true p108
                  replace q108 := eq_true q108
                  go_wp2_with (first | ((with_reducible refine gate_dst (N := 4) rfl ?_); (try (refine gate_guard (by rfl) ?_; dsimp only)); refine box_event ?hg (N := 4) ?hd (cs := #[.int .i64 0, .int .i64 0, .int .i64 0, .int .i64 0, .slice none 0 0]) (t := 24) ?hr ?_; (case hd => rfl); (case hg => rfl); (case hr => first | (go_simp; done) | (go_simp; rfl)); intro gb109 hg w55 hbox hb; have BK109 := Aside0.mk (hbox); have GW109 : Aside0 (w.heap.size ≤ gb109) := gw_ hg (below_size bl_); have GE109 := GW109; have NB106_109 := Aside0.mk ((by rw [hg]; exact Nat.ne_of_lt (blk_lt (g := gb106) (o := .cells #[.int .i64 a0_0, .int .i64 a0_1, .int .i64 a0_2, .int .i64 a0_3, .slice (some ad108) l0_4.length c0_4] 24 (0, 0)) bk_) : gb106 ≠ gb109)); have NB109_106 := Aside0.mk ((by rw [hg]; exact Nat.ne_of_gt (blk_lt (g := gb106) (o := .cells #[.int .i64 a0_0, .int .i64 a0_1, .int .i64 a0_2, .int .i64 a0_3, .slice (some ad108) l0_4.length c0_4] 24 (0, 0)) bk_) : gb109 ≠ gb106)); replace BK106 := Aside0.mk (blk_below (g := gb106) (o := .cells #[.int .i64 a0_0, .int .i64 a0_1, .int .i64 a0_2, .int .i64 a0_3, .slice (some ad108) l0_4.length c0_4] 24 (0, 0)) bk_ hb); replace HB := Aside0.mk (below_step bl_ hb); clear hb hbox hg; have hnb56 := NB109_106.out; have hnc56 := NB106_109.out; obtain ⟨hcz57_0, hcz57_1, hcz57_2, hcz57_3, hcz57_4, hfz57_0, hfz57_1, hfz57_2, hfz57_3, hfz57_4⟩ := cf5_ BK109.out) | ((with_reducible refine gate_callee (f := 39) rfl ?_); refine goesL_ (some 57) rfl rfl Tryd.func39 (by kernel_rfl) rfl #[.agg #[.int .i64 ((rd_T24 l0_4 x52_3).f0), .int .i64 ((rd_T24 l0_4 x52_3).f1), .int .i64 ((rd_T24 l0_4 x52_3).f2), .int .i64 ((rd_T24 l0_4 x52_3).f3), .slice A108_4 ((rd_T24 l0_4 x52_3).f4).length c108_4]] rfl (by (try simp only [List.map_toArray, List.map_cons, List.map_nil]); first | done | rfl | (simp only [List.length_drop, List.length_take]; rfl)) ?_; (with_reducible refine (ih k3 (by have := HJ1.out; have := HJ28.out; have := HK3.out; omega) ((rd_T24 l0_4 x52_3).f0) ((rd_T24 l0_4 x52_3).f1) ((rd_T24 l0_4 x52_3).f2) ((rd_T24 l0_4 x52_3).f3) _ _ ((rd_T24 l0_4 x52_3).f4) t110 _ ?side1 ?side2 A41.out).mono ?_); (case side1 => exact Kd.C_below HR108_4.out bl_); (case side2 => exact HC108_4.out); rintro e w58 ⟨rfl, hb⟩; refine ⟨_, rfl, ?_⟩; replace BK106 := Aside0.mk (blk_below (g := gb106) (o := .cells #[.int .i64 a0_0, .int .i64 a0_1, .int .i64 a0_2, .int .i64 a0_3, .slice (some ad108) l0_4.length c0_4] 24 (0, 0)) (by (with_reducible repeat (first | refine blk_drewN ?_ _ | refine blk_drew ?_ | refine blk_alloc ?_ _)); refine blk_far ?_ NB106_109.out _; (with_reducible repeat (first | refine blk_drewN ?_ _ | refine blk_drew ?_ | refine blk_alloc ?_ _)); refine blk_far ?_ NB106_109.out _; (with_reducible repeat (first | refine blk_drewN ?_ _ | refine blk_drew ?_ | refine blk_alloc ?_ _)); refine blk_far ?_ NB106_109.out _; (with_reducible repeat (first | refine blk_drewN ?_ _ | refine blk_drew ?_ | refine blk_alloc ?_ _)); refine blk_far ?_ NB106_109.out _; (with_reducible repeat (first | refine blk_drewN ?_ _ | refine blk_drew ?_ | refine blk_alloc ?_ _)); refine blk_far ?_ NB106_109.out _; (with_reducible repeat (first | refine blk_drewN ?_ _ | refine blk_drew ?_ | refine blk_alloc ?_ _)); exact BK106.out) hb); replace BK109 := Aside0.mk (blk_below (g := gb109) (o := .cells #[.int .i64 ((rd_T24 l0_4 x52_3).f0), .int .i64 ((rd_T24 l0_4 x52_3).f1), .int .i64 ((rd_T24 l0_4 x52_3).f2), .int .i64 ((rd_T24 l0_4 x52_3).f3), .slice A108_4 ((rd_T24 l0_4 x52_3).f4).length c108_4] 24 (0, 0)) (by (with_reducible repeat (first | refine blk_drewN ?_ _ | refine blk_drew ?_ | refine blk_alloc ?_ _)); refine blk_put (cs := #[.int .i64 ((rd_T24 l0_4 x52_3).f0), .int .i64 ((rd_T24 l0_4 x52_3).f1), .int .i64 ((rd_T24 l0_4 x52_3).f2), .int .i64 ((rd_T24 l0_4 x52_3).f3), .slice none 0 0]) ?_ 4 _ rfl; (with_reducible repeat (first | refine blk_drewN ?_ _ | refine blk_drew ?_ | refine blk_alloc ?_ _)); refine blk_put (cs := #[.int .i64 ((rd_T24 l0_4 x52_3).f0), .int .i64 ((rd_T24 l0_4 x52_3).f1), .int .i64 ((rd_T24 l0_4 x52_3).f2), .int .i64 0, .slice none 0 0]) ?_ 3 _ rfl; (with_reducible repeat (first | refine blk_drewN ?_ _ | refine blk_drew ?_ | refine blk_alloc ?_ _)); refine blk_put (cs := #[.int .i64 ((rd_T24 l0_4 x52_3).f0), .int .i64 ((rd_T24 l0_4 x52_3).f1), .int .i64 0, .int .i64 0, .slice none 0 0]) ?_ 2 _ rfl; (with_reducible repeat (first | refine blk_drewN ?_ _ | refine blk_drew ?_ | refine blk_alloc ?_ _)); refine blk_put (cs := #[.int .i64 ((rd_T24 l0_4 x52_3).f0), .int .i64 0, .int .i64 0, .int .i64 0, .slice none 0 0]) ?_ 1 _ rfl; (with_reducible repeat (first | refine blk_drewN ?_ _ | refine blk_drew ?_ | refine blk_alloc ?_ _)); refine blk_put (cs := #[.int .i64 0, .int .i64 0, .int .i64 0, .int .i64 0, .slice none 0 0]) ?_ 0 _ rfl; (with_reducible repeat (first | refine blk_drewN ?_ _ | refine blk_drew ?_ | refine blk_alloc ?_ _)); exact BK109.out) hb); replace HB := Aside0.mk (below_step bl_ hb); (try clear hb); (try clear hb2); (try clear hk); (try clear hi); obtain ⟨hcz59_0, hcz59_1, hcz59_2, hcz59_3, hcz59_4, hfz59_0, hfz59_1, hfz59_2, hfz59_3, hfz59_4⟩ := cf5_ BK109.out))
                  go_roundg k3
                  case measure => have := HJ1.out; have := HJ28.out; have := HK3.out; omega
                  case rel => exact ⟨(wrap64 (x52_3 + 1)), rs_, H', ⟨by have := HJ1.out; have := HJ28.out; have := HK3.out; omega⟩, ⟨bk_⟩, ⟨bl_⟩⟩
               ·rw [if_neg c42] at H
                have c42b0 : (t110 == 0) = false := beq_eq_false_iff_ne.mpr c42
                have c42b1 : (t110 != 0) = true := bne_iff_ne.mpr c42
                obtain rfl := Option.some.inj H
                have p108 : 0 ≤ (x52_3 : Int) := dt_
                have q108 : x52_3 < (l0_4.length : Int) := dt_
                obtain ⟨ad108, A108_4, c108_4, e108, hx108_0, hx108_1, hx108_2, hx108_3, hx108_4, hl108_4, hi108_4⟩ := at_T24 HR0_4.out x52_3 p108 q108
                cases e108
                replace hx108_0 := (HB.out.cell (World.block_lt_of_cell? w _ hx108_0)).trans hx108_0
                replace hx108_1 := (HB.out.cell (World.block_lt_of_cell? w _ hx108_1)).trans hx108_1
                replace hx108_2 := (HB.out.cell (World.block_lt_of_cell? w _ hx108_2)).trans hx108_2
                replace hx108_3 := (HB.out.cell (World.block_lt_of_cell? w _ hx108_3)).trans hx108_3
                replace hx108_4 := (HB.out.cell (World.block_lt_of_cell? w _ hx108_4)).trans hx108_4
                have HR108_4 := Aside0.mk hi108_4
                have HC108_4 := Aside0.mk hl108_4
                clear hi108_4 hl108_4
                replace p108 := eq_true p108
                replace q108 := eq_true q108
                go_wp2_with (first | ((with_reducible refine gate_dst (N := 4) rfl ?_); (try (refine gate_guard (by rfl) ?_; dsimp only)); refine box_event ?hg (N := 4) ?hd (cs := #[.int .i64 0, .int .i64 0, .int .i64 0, .int .i64 0, .slice none 0 0]) (t := 24) ?hr ?_; (case hd => rfl); (case hg => rfl); (case hr => first | (go_simp; done) | (go_simp; rfl)); intro gb109 hg w60 hbox hb; have BK109 := Aside0.mk (hbox); have GW109 : Aside0 (w.heap.size ≤ gb109) := gw_ hg (below_size bl_); have GE109 := GW109; have NB106_109 := Aside0.mk ((by rw [hg]; exact Nat.ne_of_lt (blk_lt (g := gb106) (o := .cells #[.int .i64 a0_0, .int .i64 a0_1, .int .i64 a0_2, .int .i64 a0_3, .slice (some ad108) l0_4.length c0_4] 24 (0, 0)) bk_) : gb106 ≠ gb109)); have NB109_106 := Aside0.mk ((by rw [hg]; exact Nat.ne_of_gt (blk_lt (g := gb106) (o := .cells #[.int .i64 a0_0, .int .i64 a0_1, .int .i64 a0_2, .int .i64 a0_3, .slice (some ad108) l0_4.length c0_4] 24 (0, 0)) bk_) : gb109 ≠ gb106)); replace BK106 := Aside0.mk (blk_below (g := gb106) (o := .cells #[.int .i64 a0_0, .int .i64 a0_1, .int .i64 a0_2, .int .i64 a0_3, .slice (some ad108) l0_4.length c0_4] 24 (0, 0)) bk_ hb); replace HB := Aside0.mk (below_step bl_ hb); clear hb hbox hg; have hnb61 := NB109_106.out; have hnc61 := NB106_109.out; obtain ⟨hcz62_0, hcz62_1, hcz62_2, hcz62_3, hcz62_4, hfz62_0, hfz62_1, hfz62_2, hfz62_3, hfz62_4⟩ := cf5_ BK109.out) | ((with_reducible refine gate_callee (f := 39) rfl ?_); refine goesL_ (some 57) rfl rfl Tryd.func39 (by kernel_rfl) rfl #[.agg #[.int .i64 ((rd_T24 l0_4 x52_3).f0), .int .i64 ((rd_T24 l0_4 x52_3).f1), .int .i64 ((rd_T24 l0_4 x52_3).f2), .int .i64 ((rd_T24 l0_4 x52_3).f3), .slice A108_4 ((rd_T24 l0_4 x52_3).f4).length c108_4]] rfl (by (try simp only [List.map_toArray, List.map_cons, List.map_nil]); first | done | rfl | (simp only [List.length_drop, List.length_take]; rfl)) ?_; (with_reducible refine (ih k3 (by have := HJ1.out; have := HJ28.out; have := HK3.out; omega) ((rd_T24 l0_4 x52_3).f0) ((rd_T24 l0_4 x52_3).f1) ((rd_T24 l0_4 x52_3).f2) ((rd_T24 l0_4 x52_3).f3) _ _ ((rd_T24 l0_4 x52_3).f4) t110 _ ?side1 ?side2 A41.out).mono ?_); (case side1 => exact Kd.C_below HR108_4.out bl_); (case side2 => exact HC108_4.out); rintro e w63 ⟨rfl, hb⟩; refine ⟨_, rfl, ?_⟩; replace BK106 := Aside0.mk (blk_below (g := gb106) (o := .cells #[.int .i64 a0_0, .int .i64 a0_1, .int .i64 a0_2, .int .i64 a0_3, .slice (some ad108) l0_4.length c0_4] 24 (0, 0)) (by (with_reducible repeat (first | refine blk_drewN ?_ _ | refine blk_drew ?_ | refine blk_alloc ?_ _)); refine blk_far ?_ NB106_109.out _; (with_reducible repeat (first | refine blk_drewN ?_ _ | refine blk_drew ?_ | refine blk_alloc ?_ _)); refine blk_far ?_ NB106_109.out _; (with_reducible repeat (first | refine blk_drewN ?_ _ | refine blk_drew ?_ | refine blk_alloc ?_ _)); refine blk_far ?_ NB106_109.out _; (with_reducible repeat (first | refine blk_drewN ?_ _ | refine blk_drew ?_ | refine blk_alloc ?_ _)); refine blk_far ?_ NB106_109.out _; (with_reducible repeat (first | refine blk_drewN ?_ _ | refine blk_drew ?_ | refine blk_alloc ?_ _)); refine blk_far ?_ NB106_109.out _; (with_reducible repeat (first | refine blk_drewN ?_ _ | refine blk_drew ?_ | refine blk_alloc ?_ _)); exact BK106.out) hb); replace BK109 := Aside0.mk (blk_below (g := gb109) (o := .cells #[.int .i64 ((rd_T24 l0_4 x52_3).f0), .int .i64 ((rd_T24 l0_4 x52_3).f1), .int .i64 ((rd_T24 l0_4 x52_3).f2), .int .i64 ((rd_T24 l0_4 x52_3).f3), .slice A108_4 ((rd_T24 l0_4 x52_3).f4).length c108_4] 24 (0, 0)) (by (with_reducible repeat (first | refine blk_drewN ?_ _ | refine blk_drew ?_ | refine blk_alloc ?_ _)); refine blk_put (cs := #[.int .i64 ((rd_T24 l0_4 x52_3).f0), .int .i64 ((rd_T24 l0_4 x52_3).f1), .int .i64 ((rd_T24 l0_4 x52_3).f2), .int .i64 ((rd_T24 l0_4 x52_3).f3), .slice none 0 0]) ?_ 4 _ rfl; (with_reducible repeat (first | refine blk_drewN ?_ _ | refine blk_drew ?_ | refine blk_alloc ?_ _)); refine blk_put (cs := #[.int .i64 ((rd_T24 l0_4 x52_3).f0), .int .i64 ((rd_T24 l0_4 x52_3).f1), .int .i64 ((rd_T24 l0_4 x52_3).f2), .int .i64 0, .slice none 0 0]) ?_ 3 _ rfl; (with_reducible repeat (first | refine blk_drewN ?_ _ | refine blk_drew ?_ | refine blk_alloc ?_ _)); refine blk_put (cs := #[.int .i64 ((rd_T24 l0_4 x52_3).f0), .int .i64 ((rd_T24 l0_4 x52_3).f1), .int .i64 0, .int .i64 0, .slice none 0 0]) ?_ 2 _ rfl; (with_reducible repeat (first | refine blk_drewN ?_ _ | refine blk_drew ?_ | refine blk_alloc ?_ _)); refine blk_put (cs := #[.int .i64 ((rd_T24 l0_4 x52_3).f0), .int .i64 0, .int .i64 0, .int .i64 0, .slice none 0 0]) ?_ 1 _ rfl; (with_reducible repeat (first | refine blk_drewN ?_ _ | refine blk_drew ?_ | refine blk_alloc ?_ _)); refine blk_put (cs := #[.int .i64 0, .int .i64 0, .int .i64 0, .int .i64 0, .slice none 0 0]) ?_ 0 _ rfl; (with_reducible repeat (first | refine blk_drewN ?_ _ | refine blk_drew ?_ | refine blk_alloc ?_ _)); exact BK109.out) hb); replace HB := Aside0.mk (below_step bl_ hb); (try clear hb); (try clear hb2); (try clear hk); (try clear hi)))
                go_ret
                exact ⟨re_, bl_⟩
              ·rw [if_neg c40] at H
               exact absurd H (by simp)
             ·rw [if_neg c39] at H
              exact absurd H (by simp)
            ·rw [if_neg c38] at H
             have c38b0 : decide (x52_3 < (l0_4.length : Int)) = false := decide_eq_false c38
             clear c38
             obtain rfl := Option.some.inj H
             go_wp2
             go_ret
             exact ⟨re_, bl_⟩
      ·rw [if_neg c28] at H
       have c28b0 : (a0_0 == 5) = false := beq_eq_false_iff_ne.mpr c28
       have c28b1 : (a0_0 != 5) = true := bne_iff_ne.mpr c28
       by_cases c64 : a0_0 = 6
       ·rw [if_pos c64] at H
        have c64b0 : (a0_0 == 6) = true := beq_iff_eq.mpr c64
        have c64b1 : (a0_0 != 6) = false := bne_eq_false_iff_eq.mpr c64
        clear c64
        have HC65 := Aside0.mk H
        clear H
        obtain ⟨hcz66_0, hcz66_1, hcz66_2, hcz66_3, hcz66_4, hfz66_0, hfz66_1, hfz66_2, hfz66_3, hfz66_4⟩ := cf5_ BK106.out
        go_upto_region 22 with (first | ((with_reducible refine gate_callee (f := 69) rfl ?_); refine goesL_ (some 17) rfl rfl Tryd.func69 (by kernel_rfl) rfl #[.agg #[.int .i64 a0_0, .int .i64 a0_1, .int .i64 a0_2, .int .i64 a0_3, .slice A0_4 l0_4.length c0_4]] rfl (by (try simp only [List.map_toArray, List.map_cons, List.map_nil]); first | done | rfl | (simp only [List.length_drop, List.length_take]; rfl)) ?_; (with_reducible refine (types_unused.calls a0_0 a0_1 a0_2 a0_3 _ _ l0_4 false _ ?side1 ?side2 A8.out).mono ?_); (case side1 => repeat (first | exact (Kd.C_below HR0_4.out HB.out) | (with_reducible refine Kd.C_alloc ?_ _) | (with_reducible refine Kd.C_drewN ?_ _) | (with_reducible refine Kd.C_drew ?_))); (case side2 => exact HC0_4.out); rintro e w67 ⟨rfl, hb⟩; refine ⟨_, rfl, ?_⟩; replace BK106 := Aside0.mk (blk_below (g := gb106) (o := .cells #[.int .i64 a0_0, .int .i64 a0_1, .int .i64 a0_2, .int .i64 a0_3, .slice A0_4 l0_4.length c0_4] 24 (0, 0)) bk_ hb); replace HB := Aside0.mk (below_step bl_ hb); (try clear hb); (try clear hb2); (try clear hk); (try clear hi); obtain ⟨hcz68_0, hcz68_1, hcz68_2, hcz68_3, hcz68_4, hfz68_0, hfz68_1, hfz68_2, hfz68_3, hfz68_4⟩ := cf5_ BK106.out))
        (try simp only [Act.put, List.setIfInBounds_toArray, List.set_cons_zero, List.set_cons_succ])
        go_cut [79] (fun v79 wc => ∃ (kq : Nat) (x79_64 : Bool), v79 = .bool x79_64 ∧ Aside0 (types_fault.j3 kq x79_64 a0_0 a0_1 a0_2 a0_3 l0_4 = some r) ∧ Aside0 (kq ≤ kj1) ∧ Aside0 (wc.heap[gb106]? = some (.cells #[.int .i64 a0_0, .int .i64 a0_1, .int .i64 a0_2, .int .i64 a0_3, (.slice A0_4 l0_4.length c0_4)] 24 (0, 0))) ∧ Aside0 (Below w.heap.size w wc))
        case first =>
         have H := HC65.out
         clear HC65
         by_cases c69 : a0_3 < 1
         ·rw [if_pos c69] at H
          have c69b0 : decide (a0_3 < 1) = true := decide_eq_true c69
          clear c69
          (first | rw [c69b0] | (simp only [i64_w, i32_w]; rw [c69b0]) | skip)
          have H' := Aside0.mk H
          clear H
          obtain ⟨hcz70_0, hcz70_1, hcz70_2, hcz70_3, hcz70_4, hfz70_0, hfz70_1, hfz70_2, hfz70_3, hfz70_4⟩ := cf5_ BK106.out
          go_wp2
          go_meet
          case rel => exact ⟨_, (true), rs_, H', ⟨by have := HJ1.out; first | omega | exact Nat.le_refl _⟩, ⟨bk_⟩, ⟨bl_⟩⟩
         ·rw [if_neg c69] at H
          have c69b0 : decide (a0_3 < 1) = false := decide_eq_false c69
          clear c69
          (first | rw [c69b0] | (simp only [i64_w, i32_w]; rw [c69b0]) | skip)
          have H' := Aside0.mk H
          clear H
          obtain ⟨hcz71_0, hcz71_1, hcz71_2, hcz71_3, hcz71_4, hfz71_0, hfz71_1, hfz71_2, hfz71_3, hfz71_4⟩ := cf5_ BK106.out
          go_wp2
          go_meet
          case rel => exact ⟨_, (decide (a0_3 > 4)), rs_, H', ⟨by have := HJ1.out; first | omega | exact Nat.le_refl _⟩, ⟨bk_⟩, ⟨bl_⟩⟩
        case rest =>
         clear HC65
         try clear c1
         try clear p1
         try clear q1
         try clear hx1
         try clear c2
         try clear p2
         try clear c3
         try clear c4
         try clear c4b0
         try clear c5
         try clear c6
         try clear p6
         try clear c7
         try clear c9
         try clear c10
         try clear p10
         try clear q10
         try clear hx10
         try clear c12
         try clear c12b0
         try clear c12b1
         try clear c13
         try clear c13b0
         try clear c17
         try clear c17b0
         try clear c21
         try clear c21b0
         try clear c28
         try clear c28b0
         try clear c28b1
         try clear c33
         try clear c33b0
         try clear c33b1
         try clear c36
         try clear c38
         try clear c38b0
         try clear c39
         try clear c39b0
         try clear c40
         try clear c40b0
         try clear c42
         try clear c42b0
         try clear c42b1
         try clear c43
         try clear c43b0
         try clear c43b1
         try clear c45
         try clear c49
         try clear c49b0
         try clear c49b1
         try clear c51
         try clear c56
         try clear c61
         try clear c64
         try clear c64b0
         try clear c64b1
         try clear p64
         try clear c69
         try clear c69b0
         try clear hcz10_0 hcz10_1 hcz10_2 hcz10_3 hcz10_4 hfz10_0 hfz10_1 hfz10_2 hfz10_3 hfz10_4
         try clear hcz14_0 hcz14_1 hcz14_2 hcz14_3 hcz14_4 hfz14_0 hfz14_1 hfz14_2 hfz14_3 hfz14_4
         try clear hcz16_0 hcz16_1 hcz16_2 hcz16_3 hcz16_4 hfz16_0 hfz16_1 hfz16_2 hfz16_3 hfz16_4
         try clear hcz18_0 hcz18_1 hcz18_2 hcz18_3 hcz18_4 hfz18_0 hfz18_1 hfz18_2 hfz18_3 hfz18_4
         try clear hcz20_0 hcz20_1 hcz20_2 hcz20_3 hcz20_4 hfz20_0 hfz20_1 hfz20_2 hfz20_3 hfz20_4
         try clear hcz22_0 hcz22_1 hcz22_2 hcz22_3 hcz22_4 hfz22_0 hfz22_1 hfz22_2 hfz22_3 hfz22_4
         try clear hcz24_0 hcz24_1 hcz24_2 hcz24_3 hcz24_4 hfz24_0 hfz24_1 hfz24_2 hfz24_3 hfz24_4
         try clear hcz25_0 hcz25_1 hcz25_2 hcz25_3 hcz25_4 hfz25_0 hfz25_1 hfz25_2 hfz25_3 hfz25_4
         try clear hcz27_0 hcz27_1 hcz27_2 hcz27_3 hcz27_4 hfz27_0 hfz27_1 hfz27_2 hfz27_3 hfz27_4
         try clear hcz30_0 hcz30_1 hcz30_2 hcz30_3 hcz30_4 hfz30_0 hfz30_1 hfz30_2 hfz30_3 hfz30_4
         try clear hcz32_0 hcz32_1 hcz32_2 hcz32_3 hcz32_4 hfz32_0 hfz32_1 hfz32_2 hfz32_3 hfz32_4
         try clear hcz34_0 hcz34_1 hcz34_2 hcz34_3 hcz34_4 hfz34_0 hfz34_1 hfz34_2 hfz34_3 hfz34_4
         try clear hcz35_0 hcz35_1 hcz35_2 hcz35_3 hcz35_4 hfz35_0 hfz35_1 hfz35_2 hfz35_3 hfz35_4
         try clear hcz37_0 hcz37_1 hcz37_2 hcz37_3 hcz37_4 hfz37_0 hfz37_1 hfz37_2 hfz37_3 hfz37_4
         try clear hcz46_0 hcz46_1 hcz46_2 hcz46_3 hcz46_4 hfz46_0 hfz46_1 hfz46_2 hfz46_3 hfz46_4
         try clear hcz48_0 hcz48_1 hcz48_2 hcz48_3 hcz48_4 hfz48_0 hfz48_1 hfz48_2 hfz48_3 hfz48_4
         try clear hcz52_0 hcz52_1 hcz52_2 hcz52_3 hcz52_4 hfz52_0 hfz52_1 hfz52_2 hfz52_3 hfz52_4
         try clear hcz54_0 hcz54_1 hcz54_2 hcz54_3 hcz54_4 hfz54_0 hfz54_1 hfz54_2 hfz54_3 hfz54_4
         try clear hcz57_0 hcz57_1 hcz57_2 hcz57_3 hcz57_4 hfz57_0 hfz57_1 hfz57_2 hfz57_3 hfz57_4
         try clear hcz59_0 hcz59_1 hcz59_2 hcz59_3 hcz59_4 hfz59_0 hfz59_1 hfz59_2 hfz59_3 hfz59_4
         try clear hcz5_0 hcz5_1 hcz5_2 hcz5_3 hcz5_4 hfz5_0 hfz5_1 hfz5_2 hfz5_3 hfz5_4
         try clear hcz62_0 hcz62_1 hcz62_2 hcz62_3 hcz62_4 hfz62_0 hfz62_1 hfz62_2 hfz62_3 hfz62_4
         try clear hcz66_0 hcz66_1 hcz66_2 hcz66_3 hcz66_4 hfz66_0 hfz66_1 hfz66_2 hfz66_3 hfz66_4
         try clear hcz68_0 hcz68_1 hcz68_2 hcz68_3 hcz68_4 hfz68_0 hfz68_1 hfz68_2 hfz68_3 hfz68_4
         try clear hcz6_0 hcz6_1 hcz6_2 hcz6_3 hcz6_4 hfz6_0 hfz6_1 hfz6_2 hfz6_3 hfz6_4
         try clear hcz70_0 hcz70_1 hcz70_2 hcz70_3 hcz70_4 hfz70_0 hfz70_1 hfz70_2 hfz70_3 hfz70_4
         try clear hcz71_0 hcz71_1 hcz71_2 hcz71_3 hcz71_4 hfz71_0 hfz71_1 hfz71_2 hfz71_3 hfz71_4
         try clear hx108_0
         try clear hx108_1
         try clear hx108_2
         try clear hx108_3
         try clear hx108_4
         try clear p108
         try clear p2
         try clear q108
         obtain ⟨kq, x79_64, rfl, HA, HJ64, BK106, HB⟩ := hcut
         cases kq with
         | zero => exact absurd HA.out (by simp [types_fault.j3])
         | succ kj64 =>
          have H := HA.out
          clear HA
          simp only [types_fault.j3] at H
          by_cases c72 : x79_64 = true
          ·subst c72
           have H1 : (some 1) = some r := by rw [if_pos rfl] at H; exact H
           clear H
           have H := H1
           clear H1
           obtain rfl := Option.some.inj H
           go_wp2
           go_ret
           exact ⟨re_, bl_⟩
          ·replace c72 := Bool.eq_false_iff.mpr c72
           subst c72
           have H1 : (if (l0_4.length : Int) = 1 then (if 0 < (l0_4.length : Int) then ((types_fault.f kj64 ((rd_T24 l0_4 0).f0) ((rd_T24 l0_4 0).f1) ((rd_T24 l0_4 0).f2) ((rd_T24 l0_4 0).f3) ((rd_T24 l0_4 0).f4)).bind fun t112 => (if t112 = 0 then (if ((rd_T24 l0_4 0).f0) = 1 then (some 0) else (if ((rd_T24 l0_4 0).f0) = 2 then (some 0) else (some 8))) else (some t112))) else (none)) else (some 2)) = some r := by rw [if_neg (show ¬ (false = true) by decide)] at H; exact H
           clear H
           have H := H1
           clear H1
           by_cases c73 : (l0_4.length : Int) = 1
           ·rw [if_pos c73] at H
            have c73b0 : ((l0_4.length : Int) == 1) = true := beq_iff_eq.mpr c73
            have c73b1 : ((l0_4.length : Int) != 1) = false := bne_eq_false_iff_eq.mpr c73
            clear c73
            by_cases c74 : 0 < (l0_4.length : Int)
            ·rw [if_pos c74] at H
             have c74b0 : decide (0 < (l0_4.length : Int)) = true := decide_eq_true c74
             have c74b1 : decide (0 < l0_4.length) = true := decide_eq_true (by omega)
             clear c74
             replace H := Option.bind_eq_some_iff.mp H
             obtain ⟨t112, A750, H⟩ := H
             replace H : (if t112 = 0 then (if ((rd_T24 l0_4 0).f0) = 1 then (some 0) else (if ((rd_T24 l0_4 0).f0) = 2 then (some 0) else (some 8))) else (some t112)) = some r := H
             have A75 := Aside0.mk A750
             clear A750
             by_cases c76 : t112 = 0
             ·rw [if_pos c76] at H
              have c76b0 : (t112 == 0) = true := beq_iff_eq.mpr c76
              have c76b1 : (t112 != 0) = false := bne_eq_false_iff_eq.mpr c76
              clear c76
              by_cases c77 : ((rd_T24 l0_4 0).f0) = 1
              ·rw [if_pos c77] at H
               have c77b0 : (((rd_T24 l0_4 0).f0) == 1) = true := beq_iff_eq.mpr c77
               have c77b1 : (((rd_T24 l0_4 0).f0) != 1) = false := bne_eq_false_iff_eq.mpr c77
               clear c77
               obtain rfl := Option.some.inj H
               obtain ⟨hcz78_0, hcz78_1, hcz78_2, hcz78_3, hcz78_4, hfz78_0, hfz78_1, hfz78_2, hfz78_3, hfz78_4⟩ := cf5_ BK106.out
               have p111 : 0 ≤ (0 : Int) := (by omega)
               have q111 : 0 < (l0_4.length : Int) := dt_
               obtain ⟨ad111, A111_4, c111_4, e111, hx111_0, hx111_1, hx111_2, hx111_3, hx111_4, hl111_4, hi111_4⟩ := at_T24 HR0_4.out 0 p111 q111
               cases e111
               have qi111 : (0 < l0_4.length) = True := eq_true (by omega)
               (try rw [show ((0 : Int)).toNat = 0 from rfl] at hx111_0)
               (try rw [show 0 * 5 = 0 from rfl] at hx111_0)
               (try rw [Addr.add_zero'] at hx111_0)
               (try rw [show ((0 : Int)).toNat = 0 from rfl] at hx111_1)
               (try rw [show 0 * 5 = 0 from rfl] at hx111_1)
               (try rw [Addr.add_zero'] at hx111_1)
               (try rw [show ((0 : Int)).toNat = 0 from rfl] at hx111_2)
               (try rw [show 0 * 5 = 0 from rfl] at hx111_2)
               (try rw [Addr.add_zero'] at hx111_2)
               (try rw [show ((0 : Int)).toNat = 0 from rfl] at hx111_3)
               (try rw [show 0 * 5 = 0 from rfl] at hx111_3)
               (try rw [Addr.add_zero'] at hx111_3)
               (try rw [show ((0 : Int)).toNat = 0 from rfl] at hx111_4)
               (try rw [show 0 * 5 = 0 from rfl] at hx111_4)
               (try rw [Addr.add_zero'] at hx111_4)
               replace hx111_0 := (HB.out.cell (World.block_lt_of_cell? w _ hx111_0)).trans hx111_0
               replace hx111_1 := (HB.out.cell (World.block_lt_of_cell? w _ hx111_1)).trans hx111_1
               replace hx111_2 := (HB.out.cell (World.block_lt_of_cell? w _ hx111_2)).trans hx111_2
               replace hx111_3 := (HB.out.cell (World.block_lt_of_cell? w _ hx111_3)).trans hx111_3
               replace hx111_4 := (HB.out.cell (World.block_lt_of_cell? w _ hx111_4)).trans hx111_4
               have HR111_4 := Aside0.mk hi111_4
               have HC111_4 := Aside0.mk hl111_4
               clear hi111_4 hl111_4
               replace p111 := eq_true p111
               replace q111 := eq_true q111
               go_wp2_with (first | ((with_reducible refine gate_callee (f := 39) rfl ?_); refine goesL_ (some 88) rfl rfl Tryd.func39 (by kernel_rfl) rfl #[.agg #[.int .i64 ((rd_T24 l0_4 0).f0), .int .i64 ((rd_T24 l0_4 0).f1), .int .i64 ((rd_T24 l0_4 0).f2), .int .i64 ((rd_T24 l0_4 0).f3), .slice A111_4 ((rd_T24 l0_4 0).f4).length c111_4]] rfl (by (try simp only [List.map_toArray, List.map_cons, List.map_nil]); first | done | rfl | (simp only [List.length_drop, List.length_take]; rfl)) ?_; (with_reducible refine (ih kj64 (by have := HJ1.out; have := HJ64.out; omega) ((rd_T24 l0_4 0).f0) ((rd_T24 l0_4 0).f1) ((rd_T24 l0_4 0).f2) ((rd_T24 l0_4 0).f3) _ _ ((rd_T24 l0_4 0).f4) t112 _ ?side1 ?side2 A75.out).mono ?_); (case side1 => repeat (first | exact (Kd.C_below HR111_4.out HB.out) | (with_reducible refine Kd.C_alloc ?_ _) | (with_reducible refine Kd.C_drewN ?_ _) | (with_reducible refine Kd.C_drew ?_))); (case side2 => exact HC111_4.out); rintro e w79 ⟨rfl, hb⟩; refine ⟨_, rfl, ?_⟩; replace BK106 := Aside0.mk (blk_below (g := gb106) (o := .cells #[.int .i64 a0_0, .int .i64 a0_1, .int .i64 a0_2, .int .i64 a0_3, .slice (some ad111) l0_4.length c0_4] 24 (0, 0)) bk_ hb); replace HB := Aside0.mk (below_step bl_ hb); (try clear hb); (try clear hb2); (try clear hk); (try clear hi); obtain ⟨hcz80_0, hcz80_1, hcz80_2, hcz80_3, hcz80_4, hfz80_0, hfz80_1, hfz80_2, hfz80_3, hfz80_4⟩ := cf5_ BK106.out; have p113 : 0 ≤ (0 : Int) := (by omega); have q113 : 0 < (l0_4.length : Int) := dt_; obtain ⟨ad113, A113_4, c113_4, e113, hx113_0, hx113_1, hx113_2, hx113_3, hx113_4, hl113_4, hi113_4⟩ := at_T24 HR0_4.out 0 p113 q113; obtain rfl : ad111 = ad113 := (by injection e113); have qi113 : (0 < l0_4.length) = True := eq_true (by omega); (try rw [show ((0 : Int)).toNat = 0 from rfl] at hx113_0); (try rw [show 0 * 5 = 0 from rfl] at hx113_0); (try rw [Addr.add_zero'] at hx113_0); (try rw [show ((0 : Int)).toNat = 0 from rfl] at hx113_1); (try rw [show 0 * 5 = 0 from rfl] at hx113_1); (try rw [Addr.add_zero'] at hx113_1); (try rw [show ((0 : Int)).toNat = 0 from rfl] at hx113_2); (try rw [show 0 * 5 = 0 from rfl] at hx113_2); (try rw [Addr.add_zero'] at hx113_2); (try rw [show ((0 : Int)).toNat = 0 from rfl] at hx113_3); (try rw [show 0 * 5 = 0 from rfl] at hx113_3); (try rw [Addr.add_zero'] at hx113_3); (try rw [show ((0 : Int)).toNat = 0 from rfl] at hx113_4); (try rw [show 0 * 5 = 0 from rfl] at hx113_4); (try rw [Addr.add_zero'] at hx113_4); replace hx113_0 := (HB.out.cell (World.block_lt_of_cell? w _ hx113_0)).trans hx113_0; replace hx113_1 := (HB.out.cell (World.block_lt_of_cell? w _ hx113_1)).trans hx113_1; replace hx113_2 := (HB.out.cell (World.block_lt_of_cell? w _ hx113_2)).trans hx113_2; replace hx113_3 := (HB.out.cell (World.block_lt_of_cell? w _ hx113_3)).trans hx113_3; replace hx113_4 := (HB.out.cell (World.block_lt_of_cell? w _ hx113_4)).trans hx113_4; have HR113_4 := Aside0.mk hi113_4; have HC113_4 := Aside0.mk hl113_4; clear hi113_4 hl113_4; replace p113 := eq_true p113; replace q113 := eq_true q113))
               go_ret
               exact ⟨re_, bl_⟩
              ·rw [if_neg c77] at H
               have c77b0 : (((rd_T24 l0_4 0).f0) == 1) = false := beq_eq_false_iff_ne.mpr c77
               have c77b1 : (((rd_T24 l0_4 0).f0) != 1) = true := bne_iff_ne.mpr c77
               by_cases c81 : ((rd_T24 l0_4 0).f0) = 2
               ·rw [if_pos c81] at H
                have c81b0 : (((rd_T24 l0_4 0).f0) == 2) = true := beq_iff_eq.mpr c81
                have c81b1 : (((rd_T24 l0_4 0).f0) != 2) = false := bne_eq_false_iff_eq.mpr c81
                clear c81
                obtain rfl := Option.some.inj H
                obtain ⟨hcz82_0, hcz82_1, hcz82_2, hcz82_3, hcz82_4, hfz82_0, hfz82_1, hfz82_2, hfz82_3, hfz82_4⟩ := cf5_ BK106.out
                have p111 : 0 ≤ (0 : Int) := (by omega)
                have q111 : 0 < (l0_4.length : Int) := dt_
                obtain ⟨ad111, A111_4, c111_4, e111, hx111_0, hx111_1, hx111_2, hx111_3, hx111_4, hl111_4, hi111_4⟩ := at_T24 HR0_4.out 0 p111 q111
                cases e111
                have qi111 : (0 < l0_4.length) = True := eq_true (by omega)
                (try rw [show ((0 : Int)).toNat = 0 from rfl] at hx111_0)
                (try rw [show 0 * 5 = 0 from rfl] at hx111_0)
                (try rw [Addr.add_zero'] at hx111_0)
                (try rw [show ((0 : Int)).toNat = 0 from rfl] at hx111_1)
                (try rw [show 0 * 5 = 0 from rfl] at hx111_1)
                (try rw [Addr.add_zero'] at hx111_1)
                (try rw [show ((0 : Int)).toNat = 0 from rfl] at hx111_2)
                (try rw [show 0 * 5 = 0 from rfl] at hx111_2)
                (try rw [Addr.add_zero'] at hx111_2)
                (try rw [show ((0 : Int)).toNat = 0 from rfl] at hx111_3)
                (try rw [show 0 * 5 = 0 from rfl] at hx111_3)
                (try rw [Addr.add_zero'] at hx111_3)
                (try rw [show ((0 : Int)).toNat = 0 from rfl] at hx111_4)
                (try rw [show 0 * 5 = 0 from rfl] at hx111_4)
                (try rw [Addr.add_zero'] at hx111_4)
                replace hx111_0 := (HB.out.cell (World.block_lt_of_cell? w _ hx111_0)).trans hx111_0
                replace hx111_1 := (HB.out.cell (World.block_lt_of_cell? w _ hx111_1)).trans hx111_1
                replace hx111_2 := (HB.out.cell (World.block_lt_of_cell? w _ hx111_2)).trans hx111_2
                replace hx111_3 := (HB.out.cell (World.block_lt_of_cell? w _ hx111_3)).trans hx111_3
                replace hx111_4 := (HB.out.cell (World.block_lt_of_cell? w _ hx111_4)).trans hx111_4
                have HR111_4 := Aside0.mk hi111_4
                have HC111_4 := Aside0.mk hl111_4
                clear hi111_4 hl111_4
                replace p111 := eq_true p111
                replace q111 := eq_true q111
                go_wp2_with (first | ((with_reducible refine gate_callee (f := 39) rfl ?_); refine goesL_ (some 88) rfl rfl Tryd.func39 (by kernel_rfl) rfl #[.agg #[.int .i64 ((rd_T24 l0_4 0).f0), .int .i64 ((rd_T24 l0_4 0).f1), .int .i64 ((rd_T24 l0_4 0).f2), .int .i64 ((rd_T24 l0_4 0).f3), .slice A111_4 ((rd_T24 l0_4 0).f4).length c111_4]] rfl (by (try simp only [List.map_toArray, List.map_cons, List.map_nil]); first | done | rfl | (simp only [List.length_drop, List.length_take]; rfl)) ?_; (with_reducible refine (ih kj64 (by have := HJ1.out; have := HJ64.out; omega) ((rd_T24 l0_4 0).f0) ((rd_T24 l0_4 0).f1) ((rd_T24 l0_4 0).f2) ((rd_T24 l0_4 0).f3) _ _ ((rd_T24 l0_4 0).f4) t112 _ ?side1 ?side2 A75.out).mono ?_); (case side1 => repeat (first | exact (Kd.C_below HR111_4.out HB.out) | (with_reducible refine Kd.C_alloc ?_ _) | (with_reducible refine Kd.C_drewN ?_ _) | (with_reducible refine Kd.C_drew ?_))); (case side2 => exact HC111_4.out); rintro e w83 ⟨rfl, hb⟩; refine ⟨_, rfl, ?_⟩; replace BK106 := Aside0.mk (blk_below (g := gb106) (o := .cells #[.int .i64 a0_0, .int .i64 a0_1, .int .i64 a0_2, .int .i64 a0_3, .slice (some ad111) l0_4.length c0_4] 24 (0, 0)) bk_ hb); replace HB := Aside0.mk (below_step bl_ hb); (try clear hb); (try clear hb2); (try clear hk); (try clear hi); obtain ⟨hcz84_0, hcz84_1, hcz84_2, hcz84_3, hcz84_4, hfz84_0, hfz84_1, hfz84_2, hfz84_3, hfz84_4⟩ := cf5_ BK106.out; have p113 : 0 ≤ (0 : Int) := (by omega); have q113 : 0 < (l0_4.length : Int) := dt_; obtain ⟨ad113, A113_4, c113_4, e113, hx113_0, hx113_1, hx113_2, hx113_3, hx113_4, hl113_4, hi113_4⟩ := at_T24 HR0_4.out 0 p113 q113; obtain rfl : ad111 = ad113 := (by injection e113); have qi113 : (0 < l0_4.length) = True := eq_true (by omega); (try rw [show ((0 : Int)).toNat = 0 from rfl] at hx113_0); (try rw [show 0 * 5 = 0 from rfl] at hx113_0); (try rw [Addr.add_zero'] at hx113_0); (try rw [show ((0 : Int)).toNat = 0 from rfl] at hx113_1); (try rw [show 0 * 5 = 0 from rfl] at hx113_1); (try rw [Addr.add_zero'] at hx113_1); (try rw [show ((0 : Int)).toNat = 0 from rfl] at hx113_2); (try rw [show 0 * 5 = 0 from rfl] at hx113_2); (try rw [Addr.add_zero'] at hx113_2); (try rw [show ((0 : Int)).toNat = 0 from rfl] at hx113_3); (try rw [show 0 * 5 = 0 from rfl] at hx113_3); (try rw [Addr.add_zero'] at hx113_3); (try rw [show ((0 : Int)).toNat = 0 from rfl] at hx113_4); (try rw [show 0 * 5 = 0 from rfl] at hx113_4); (try rw [Addr.add_zero'] at hx113_4); replace hx113_0 := (HB.out.cell (World.block_lt_of_cell? w _ hx113_0)).trans hx113_0; replace hx113_1 := (HB.out.cell (World.block_lt_of_cell? w _ hx113_1)).trans hx113_1; replace hx113_2 := (HB.out.cell (World.block_lt_of_cell? w _ hx113_2)).trans hx113_2; replace hx113_3 := (HB.out.cell (World.block_lt_of_cell? w _ hx113_3)).trans hx113_3; replace hx113_4 := (HB.out.cell (World.block_lt_of_cell? w _ hx113_4)).trans hx113_4; have HR113_4 := Aside0.mk hi113_4; have HC113_4 := Aside0.mk hl113_4; clear hi113_4 hl113_4; replace p113 := eq_true p113; replace q113 := eq_true q113))
                go_ret
                exact ⟨re_, bl_⟩
               ·rw [if_neg c81] at H
                have c81b0 : (((rd_T24 l0_4 0).f0) == 2) = false := beq_eq_false_iff_ne.mpr c81
                have c81b1 : (((rd_T24 l0_4 0).f0) != 2) = true := bne_iff_ne.mpr c81
                obtain rfl := Option.some.inj H
                obtain ⟨hcz85_0, hcz85_1, hcz85_2, hcz85_3, hcz85_4, hfz85_0, hfz85_1, hfz85_2, hfz85_3, hfz85_4⟩ := cf5_ BK106.out
                have p111 : 0 ≤ (0 : Int) := (by omega)
                have q111 : 0 < (l0_4.length : Int) := dt_
                obtain ⟨ad111, A111_4, c111_4, e111, hx111_0, hx111_1, hx111_2, hx111_3, hx111_4, hl111_4, hi111_4⟩ := at_T24 HR0_4.out 0 p111 q111
                cases e111
                have qi111 : (0 < l0_4.length) = True := eq_true (by omega)
                (try rw [show ((0 : Int)).toNat = 0 from rfl] at hx111_0)
                (try rw [show 0 * 5 = 0 from rfl] at hx111_0)
                (try rw [Addr.add_zero'] at hx111_0)
                (try rw [show ((0 : Int)).toNat = 0 from rfl] at hx111_1)
                (try rw [show 0 * 5 = 0 from rfl] at hx111_1)
                (try rw [Addr.add_zero'] at hx111_1)
                (try rw [show ((0 : Int)).toNat = 0 from rfl] at hx111_2)
                (try rw [show 0 * 5 = 0 from rfl] at hx111_2)
                (try rw [Addr.add_zero'] at hx111_2)
                (try rw [show ((0 : Int)).toNat = 0 from rfl] at hx111_3)
                (try rw [show 0 * 5 = 0 from rfl] at hx111_3)
                (try rw [Addr.add_zero'] at hx111_3)
                (try rw [show ((0 : Int)).toNat = 0 from rfl] at hx111_4)
                (try rw [show 0 * 5 = 0 from rfl] at hx111_4)
                (try rw [Addr.add_zero'] at hx111_4)
                replace hx111_0 := (HB.out.cell (World.block_lt_of_cell? w _ hx111_0)).trans hx111_0
                replace hx111_1 := (HB.out.cell (World.block_lt_of_cell? w _ hx111_1)).trans hx111_1
                replace hx111_2 := (HB.out.cell (World.block_lt_of_cell? w _ hx111_2)).trans hx111_2
                replace hx111_3 := (HB.out.cell (World.block_lt_of_cell? w _ hx111_3)).trans hx111_3
                replace hx111_4 := (HB.out.cell (World.block_lt_of_cell? w _ hx111_4)).trans hx111_4
                have HR111_4 := Aside0.mk hi111_4
                have HC111_4 := Aside0.mk hl111_4
                clear hi111_4 hl111_4
                replace p111 := eq_true p111
                replace q111 := eq_true q111
                go_wp2_with (first | ((with_reducible refine gate_callee (f := 39) rfl ?_); refine goesL_ (some 88) rfl rfl Tryd.func39 (by kernel_rfl) rfl #[.agg #[.int .i64 ((rd_T24 l0_4 0).f0), .int .i64 ((rd_T24 l0_4 0).f1), .int .i64 ((rd_T24 l0_4 0).f2), .int .i64 ((rd_T24 l0_4 0).f3), .slice A111_4 ((rd_T24 l0_4 0).f4).length c111_4]] rfl (by (try simp only [List.map_toArray, List.map_cons, List.map_nil]); first | done | rfl | (simp only [List.length_drop, List.length_take]; rfl)) ?_; (with_reducible refine (ih kj64 (by have := HJ1.out; have := HJ64.out; omega) ((rd_T24 l0_4 0).f0) ((rd_T24 l0_4 0).f1) ((rd_T24 l0_4 0).f2) ((rd_T24 l0_4 0).f3) _ _ ((rd_T24 l0_4 0).f4) t112 _ ?side1 ?side2 A75.out).mono ?_); (case side1 => repeat (first | exact (Kd.C_below HR111_4.out HB.out) | (with_reducible refine Kd.C_alloc ?_ _) | (with_reducible refine Kd.C_drewN ?_ _) | (with_reducible refine Kd.C_drew ?_))); (case side2 => exact HC111_4.out); rintro e w86 ⟨rfl, hb⟩; refine ⟨_, rfl, ?_⟩; replace BK106 := Aside0.mk (blk_below (g := gb106) (o := .cells #[.int .i64 a0_0, .int .i64 a0_1, .int .i64 a0_2, .int .i64 a0_3, .slice (some ad111) l0_4.length c0_4] 24 (0, 0)) bk_ hb); replace HB := Aside0.mk (below_step bl_ hb); (try clear hb); (try clear hb2); (try clear hk); (try clear hi); obtain ⟨hcz87_0, hcz87_1, hcz87_2, hcz87_3, hcz87_4, hfz87_0, hfz87_1, hfz87_2, hfz87_3, hfz87_4⟩ := cf5_ BK106.out; have p113 : 0 ≤ (0 : Int) := (by omega); have q113 : 0 < (l0_4.length : Int) := dt_; obtain ⟨ad113, A113_4, c113_4, e113, hx113_0, hx113_1, hx113_2, hx113_3, hx113_4, hl113_4, hi113_4⟩ := at_T24 HR0_4.out 0 p113 q113; obtain rfl : ad111 = ad113 := (by injection e113); have qi113 : (0 < l0_4.length) = True := eq_true (by omega); (try rw [show ((0 : Int)).toNat = 0 from rfl] at hx113_0); (try rw [show 0 * 5 = 0 from rfl] at hx113_0); (try rw [Addr.add_zero'] at hx113_0); (try rw [show ((0 : Int)).toNat = 0 from rfl] at hx113_1); (try rw [show 0 * 5 = 0 from rfl] at hx113_1); (try rw [Addr.add_zero'] at hx113_1); (try rw [show ((0 : Int)).toNat = 0 from rfl] at hx113_2); (try rw [show 0 * 5 = 0 from rfl] at hx113_2); (try rw [Addr.add_zero'] at hx113_2); (try rw [show ((0 : Int)).toNat = 0 from rfl] at hx113_3); (try rw [show 0 * 5 = 0 from rfl] at hx113_3); (try rw [Addr.add_zero'] at hx113_3); (try rw [show ((0 : Int)).toNat = 0 from rfl] at hx113_4); (try rw [show 0 * 5 = 0 from rfl] at hx113_4); (try rw [Addr.add_zero'] at hx113_4); replace hx113_0 := (HB.out.cell (World.block_lt_of_cell? w _ hx113_0)).trans hx113_0; replace hx113_1 := (HB.out.cell (World.block_lt_of_cell? w _ hx113_1)).trans hx113_1; replace hx113_2 := (HB.out.cell (World.block_lt_of_cell? w _ hx113_2)).trans hx113_2; replace hx113_3 := (HB.out.cell (World.block_lt_of_cell? w _ hx113_3)).trans hx113_3; replace hx113_4 := (HB.out.cell (World.block_lt_of_cell? w _ hx113_4)).trans hx113_4; have HR113_4 := Aside0.mk hi113_4; have HC113_4 := Aside0.mk hl113_4; clear hi113_4 hl113_4; replace p113 := eq_true p113; replace q113 := eq_true q113))
                go_ret
                exact ⟨re_, bl_⟩
             ·rw [if_neg c76] at H
              have c76b0 : (t112 == 0) = false := beq_eq_false_iff_ne.mpr c76
              have c76b1 : (t112 != 0) = true := bne_iff_ne.mpr c76
              obtain rfl := Option.some.inj H
              obtain ⟨hcz88_0, hcz88_1, hcz88_2, hcz88_3, hcz88_4, hfz88_0, hfz88_1, hfz88_2, hfz88_3, hfz88_4⟩ := cf5_ BK106.out
              have p111 : 0 ≤ (0 : Int) := (by omega)
              have q111 : 0 < (l0_4.length : Int) := dt_
              obtain ⟨ad111, A111_4, c111_4, e111, hx111_0, hx111_1, hx111_2, hx111_3, hx111_4, hl111_4, hi111_4⟩ := at_T24 HR0_4.out 0 p111 q111
              cases e111
              have qi111 : (0 < l0_4.length) = True := eq_true (by omega)
              (try rw [show ((0 : Int)).toNat = 0 from rfl] at hx111_0)
              (try rw [show 0 * 5 = 0 from rfl] at hx111_0)
              (try rw [Addr.add_zero'] at hx111_0)
              (try rw [show ((0 : Int)).toNat = 0 from rfl] at hx111_1)
              (try rw [show 0 * 5 = 0 from rfl] at hx111_1)
              (try rw [Addr.add_zero'] at hx111_1)
              (try rw [show ((0 : Int)).toNat = 0 from rfl] at hx111_2)
              (try rw [show 0 * 5 = 0 from rfl] at hx111_2)
              (try rw [Addr.add_zero'] at hx111_2)
              (try rw [show ((0 : Int)).toNat = 0 from rfl] at hx111_3)
              (try rw [show 0 * 5 = 0 from rfl] at hx111_3)
              (try rw [Addr.add_zero'] at hx111_3)
              (try rw [show ((0 : Int)).toNat = 0 from rfl] at hx111_4)
              (try rw [show 0 * 5 = 0 from rfl] at hx111_4)
              (try rw [Addr.add_zero'] at hx111_4)
              replace hx111_0 := (HB.out.cell (World.block_lt_of_cell? w _ hx111_0)).trans hx111_0
              replace hx111_1 := (HB.out.cell (World.block_lt_of_cell? w _ hx111_1)).trans hx111_1
              replace hx111_2 := (HB.out.cell (World.block_lt_of_cell? w _ hx111_2)).trans hx111_2
              replace hx111_3 := (HB.out.cell (World.block_lt_of_cell? w _ hx111_3)).trans hx111_3
              replace hx111_4 := (HB.out.cell (World.block_lt_of_cell? w _ hx111_4)).trans hx111_4
              have HR111_4 := Aside0.mk hi111_4
              have HC111_4 := Aside0.mk hl111_4
              clear hi111_4 hl111_4
              replace p111 := eq_true p111
              replace q111 := eq_true q111
              go_wp2_with (first | ((with_reducible refine gate_callee (f := 39) rfl ?_); refine goesL_ (some 88) rfl rfl Tryd.func39 (by kernel_rfl) rfl #[.agg #[.int .i64 ((rd_T24 l0_4 0).f0), .int .i64 ((rd_T24 l0_4 0).f1), .int .i64 ((rd_T24 l0_4 0).f2), .int .i64 ((rd_T24 l0_4 0).f3), .slice A111_4 ((rd_T24 l0_4 0).f4).length c111_4]] rfl (by (try simp only [List.map_toArray, List.map_cons, List.map_nil]); first | done | rfl | (simp only [List.length_drop, List.length_take]; rfl)) ?_; (with_reducible refine (ih kj64 (by have := HJ1.out; have := HJ64.out; omega) ((rd_T24 l0_4 0).f0) ((rd_T24 l0_4 0).f1) ((rd_T24 l0_4 0).f2) ((rd_T24 l0_4 0).f3) _ _ ((rd_T24 l0_4 0).f4) t112 _ ?side1 ?side2 A75.out).mono ?_); (case side1 => repeat (first | exact (Kd.C_below HR111_4.out HB.out) | (with_reducible refine Kd.C_alloc ?_ _) | (with_reducible refine Kd.C_drewN ?_ _) | (with_reducible refine Kd.C_drew ?_))); (case side2 => exact HC111_4.out); rintro e w89 ⟨rfl, hb⟩; refine ⟨_, rfl, ?_⟩; replace BK106 := Aside0.mk (blk_below (g := gb106) (o := .cells #[.int .i64 a0_0, .int .i64 a0_1, .int .i64 a0_2, .int .i64 a0_3, .slice (some ad111) l0_4.length c0_4] 24 (0, 0)) bk_ hb); replace HB := Aside0.mk (below_step bl_ hb); (try clear hb); (try clear hb2); (try clear hk); (try clear hi)))
              go_ret
              exact ⟨re_, bl_⟩
            ·rw [if_neg c74] at H
             exact absurd H (by simp)
           ·rw [if_neg c73] at H
            have c73b0 : ((l0_4.length : Int) == 1) = false := beq_eq_false_iff_ne.mpr c73
            have c73b1 : ((l0_4.length : Int) != 1) = true := bne_iff_ne.mpr c73
            obtain rfl := Option.some.inj H
            obtain ⟨hcz90_0, hcz90_1, hcz90_2, hcz90_3, hcz90_4, hfz90_0, hfz90_1, hfz90_2, hfz90_3, hfz90_4⟩ := cf5_ BK106.out
            go_wp2
            go_ret
            exact ⟨re_, bl_⟩
       ·rw [if_neg c64] at H
        have c64b0 : (a0_0 == 6) = false := beq_eq_false_iff_ne.mpr c64
        have c64b1 : (a0_0 != 6) = true := bne_iff_ne.mpr c64
        obtain rfl := Option.some.inj H
        obtain ⟨hcz91_0, hcz91_1, hcz91_2, hcz91_3, hcz91_4, hfz91_0, hfz91_1, hfz91_2, hfz91_3, hfz91_4⟩ := cf5_ BK106.out
        go_wp2_with (first | ((with_reducible refine gate_callee (f := 69) rfl ?_); refine goesL_ (some 17) rfl rfl Tryd.func69 (by kernel_rfl) rfl #[.agg #[.int .i64 a0_0, .int .i64 a0_1, .int .i64 a0_2, .int .i64 a0_3, .slice A0_4 l0_4.length c0_4]] rfl (by (try simp only [List.map_toArray, List.map_cons, List.map_nil]); first | done | rfl | (simp only [List.length_drop, List.length_take]; rfl)) ?_; (with_reducible refine (types_unused.calls a0_0 a0_1 a0_2 a0_3 _ _ l0_4 false _ ?side1 ?side2 A8.out).mono ?_); (case side1 => repeat (first | exact (Kd.C_below HR0_4.out HB.out) | (with_reducible refine Kd.C_alloc ?_ _) | (with_reducible refine Kd.C_drewN ?_ _) | (with_reducible refine Kd.C_drew ?_))); (case side2 => exact HC0_4.out); rintro e w92 ⟨rfl, hb⟩; refine ⟨_, rfl, ?_⟩; replace BK106 := Aside0.mk (blk_below (g := gb106) (o := .cells #[.int .i64 a0_0, .int .i64 a0_1, .int .i64 a0_2, .int .i64 a0_3, .slice A0_4 l0_4.length c0_4] 24 (0, 0)) bk_ hb); replace HB := Aside0.mk (below_step bl_ hb); (try clear hb); (try clear hb2); (try clear hk); (try clear hi); obtain ⟨hcz93_0, hcz93_1, hcz93_2, hcz93_3, hcz93_4, hfz93_0, hfz93_1, hfz93_2, hfz93_3, hfz93_4⟩ := cf5_ BK106.out))
        go_ret
        exact ⟨re_, bl_⟩

end Go.Proofs.YtggelekooacmnaaDoor.R
