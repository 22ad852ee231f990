/- Lemmas for: Proved: the tied card of exactppllaw19.DiagramUnique (for every input the law returns true). Conditions: none beyond the given row. -/
import Derived.StillTailTactics
import Derived.Test.YtopbjginpmdebaaDoorUn2
import Derived.Test.YtopbjginpmdebaaDoorUn3
import Derived.Test.YtopbjginpmdebaaDoorUn4
namespace Go.Proofs.YtopbjginpmdebaaDoor.K
open Go.RowKit Go.Proofs.YtopbjginpmdebaaDoorW.PrintWords Go.Proofs.YtopbjginpmdebaaDoorW.PrintLast Go.Proofs.YtopbjginpmdebaaDoorW.PrintMore
attribute [local go_sem] max2_int min2_int max_two min_two max_three min_three max_four min_four   -- for this text's walks alone
set_option linter.unusedVariables false
set_option linter.unusedSimpArgs false

/-! ### exactppllaw19_DiagramUnique: function 10 -/
mutual
def exactppllaw19_DiagramUnique.j0 : Nat → List (S60) → List (S60) → Option (Bool)
 | 0, _, _ => none
 | k + 1, x610000, x611000 => (exactppllaw19_assignments.f k 3).bind fun t637 => (exactppllaw19_DiagramUnique.l0 k true t637 0 x610000 x611000)
def exactppllaw19_DiagramUnique.l0 : Nat → Bool → List (List Int) → Int → List (S60) → List (S60) → Option (Bool)
 | 0, _, _, _, _, _ => none
 | k + 1, x8, x9, x10, x610000, x611000 => if x10 < (x9.length : Int) then (if 0 ≤ x10 then ((diagram_Eval.f x610000 (rd_L1 x9 x10)).bind fun bt643 => ((diagram_Eval.f x611000 (rd_L1 x9 x10)).bind fun bt646 => (if bt643.2 = 0 then (if bt646.2 = 0 then (if x8 = true then (exactppllaw19_DiagramUnique.l0 k (bt643.1 == bt646.1) x9 (wrap64 (x10 + 1)) x610000 x611000) else (exactppllaw19_DiagramUnique.l0 k false x9 (wrap64 (x10 + 1)) x610000 x611000)) else (some false)) else (some false)))) else (none)) else ((exactpplref19_Same.f k x610000 x611000).bind fun t640 => (if (x8 == t640) = true then ((exactppllaw19_awake.f).bind fun t641 => (some t641)) else (some false)))
end
def exactppllaw19_DiagramUnique.f (k : Nat) (l0 : List Int) : Option (Bool) := (exactpplmake_New.f l0).bind fun bt595 => ((exactpplmake_Src_Diagram.f k bt595.1 bt595.2.1 bt595.2.2 0 2).bind fun bt599 => ((exactpplmake_Src_Diagram.f k bt595.1 bt599.2.1 bt599.2.2 0 2).bind fun bt604 => ((exactpplmake_Src_N.f bt595.1 bt604.2.1 bt604.2.2 3).bind fun bt611 => (if bt611.1 = 0 then ((exactpplmake_Src_Diagram.f k bt595.1 bt611.2.1 bt611.2.2 1 2).bind fun bt614 => ((exactpplmake_Src_N.f bt595.1 bt614.2.1 bt614.2.2 2).bind fun bt619 => ((diagram_Branch.f 0 (([(⟨bt614.1⟩ : S31), (⟨bt614.1⟩ : S31)] : List (S31)))).bind fun bt626 => (if bt619.1 = 0 then ((diagram_Branch.f 0 (([(⟨bt614.1⟩ : S31), (⟨bt614.1⟩ : S31)] : List (S31)))).bind fun bt633 => (exactppllaw19_DiagramUnique.j0 k bt626.1 bt633.1)) else (exactppllaw19_DiagramUnique.j0 k bt626.1 bt614.1))))) else (exactppllaw19_DiagramUnique.j0 k bt599.1 bt604.1)))))
theorem exactppllaw19_DiagramUnique.mono_l : ∀ k, (∀ y0 y1, LeO (exactppllaw19_DiagramUnique.j0 k y0 y1) (exactppllaw19_DiagramUnique.j0 (k + 1) y0 y1)) ∧ (∀ y0 y1 y2 y3 y4, LeO (exactppllaw19_DiagramUnique.l0 k y0 y1 y2 y3 y4) (exactppllaw19_DiagramUnique.l0 (k + 1) y0 y1 y2 y3 y4))
 | 0 => ⟨fun _ _ r h => by simp [exactppllaw19_DiagramUnique.j0] at h, fun _ _ _ _ _ r h => by simp [exactppllaw19_DiagramUnique.l0] at h⟩
 | k + 1 => by
  obtain ⟨ih0, ih1⟩ := exactppllaw19_DiagramUnique.mono_l k
  refine ⟨?_, ?_⟩
  ·intro y0 y1
   unfold exactppllaw19_DiagramUnique.j0
   repeat' first
   | (with_reducible exact ih0 _ _)
   | (with_reducible exact ih1 _ _ _ _ _)
   | (with_reducible exact exactppllaw19_assignments.mono _ _)
   | (with_reducible exact exactpplmake_Src_Diagram.mono _ _ _ _ _ _)
   | (with_reducible exact exactpplref19_Same.mono _ _ _)
   | (with_reducible exact LeO.refl _)
   | (with_reducible exact LeO.none _)
   | (with_reducible refine LeO.ite ?_ ?_)
   | (with_reducible refine LeO.bind ?_ (fun _ => ?_))
   | exact ih0 _ _
   | exact ih1 _ _ _ _ _
   | exact exactppllaw19_assignments.mono _ _
   | exact exactpplmake_Src_Diagram.mono _ _ _ _ _ _
   | exact exactpplref19_Same.mono _ _ _
   | exact LeO.none _
   | refine LeO.ite ?_ ?_
   | refine LeO.bind ?_ (fun _ => ?_)
  ·intro y0 y1 y2 y3 y4
   unfold exactppllaw19_DiagramUnique.l0
   repeat' first
   | (with_reducible exact ih0 _ _)
   | (with_reducible exact ih1 _ _ _ _ _)
   | (with_reducible exact exactppllaw19_assignments.mono _ _)
   | (with_reducible exact exactpplmake_Src_Diagram.mono _ _ _ _ _ _)
   | (with_reducible exact exactpplref19_Same.mono _ _ _)
   | (with_reducible exact LeO.refl _)
   | (with_reducible exact LeO.none _)
   | (with_reducible refine LeO.ite ?_ ?_)
   | (with_reducible refine LeO.bind ?_ (fun _ => ?_))
   | exact ih0 _ _
   | exact ih1 _ _ _ _ _
   | exact exactppllaw19_assignments.mono _ _
   | exact exactpplmake_Src_Diagram.mono _ _ _ _ _ _
   | exact exactpplref19_Same.mono _ _ _
   | exact LeO.none _
   | refine LeO.ite ?_ ?_
   | refine LeO.bind ?_ (fun _ => ?_)
theorem exactppllaw19_DiagramUnique.mono : ∀ a0 k, LeO (exactppllaw19_DiagramUnique.f k a0) (exactppllaw19_DiagramUnique.f (k + 1) a0) := by
 intro a0 k
 obtain ⟨ih0, ih1⟩ := exactppllaw19_DiagramUnique.mono_l k
 unfold exactppllaw19_DiagramUnique.f
 repeat' first
   | (with_reducible exact ih0 _ _)
   | (with_reducible exact ih1 _ _ _ _ _)
   | (with_reducible exact exactppllaw19_assignments.mono _ _)
   | (with_reducible exact exactpplmake_Src_Diagram.mono _ _ _ _ _ _)
   | (with_reducible exact exactpplref19_Same.mono _ _ _)
   | (with_reducible exact LeO.refl _)
   | (with_reducible exact LeO.none _)
   | (with_reducible refine LeO.ite ?_ ?_)
   | (with_reducible refine LeO.bind ?_ (fun _ => ?_))
   | exact ih0 _ _
   | exact ih1 _ _ _ _ _
   | exact exactppllaw19_assignments.mono _ _
   | exact exactpplmake_Src_Diagram.mono _ _ _ _ _ _
   | exact exactpplref19_Same.mono _ _ _
   | exact LeO.none _
   | refine LeO.ite ?_ ?_
   | refine LeO.bind ?_ (fun _ => ?_)
def exactppllaw19_DiagramUnique.T14 : Bool × List (List Nat × List Nat) := (true, [([], []), ([], []), ([], []), ([1, 2], [1, 2]), ([3], [3]), ([0, 4], [0, 4]), ([5], [5]), ([6], [6]), ([6], [6]), ([7, 5, 0, 1, 2, 3, 4, 5, 6, 7], [7]), ([8, 9, 0, 1, 2, 3, 4, 5, 6, 7, 8, 9], [8])])
def exactppllaw19_DiagramUnique.B14 : List Nat := [0, 0, 0, 6, 14, 31, 63, 127, 127, 255, 1023]
theorem exactppllaw19_DiagramUnique.tab14 : rtab .any (opsOf Tryd.f10 14) = exactppllaw19_DiagramUnique.T14 := by kernel_rfl
theorem exactppllaw19_DiagramUnique.bits14 : waitsOk exactppllaw19_DiagramUnique.T14.2 exactppllaw19_DiagramUnique.B14 = true := by kernel_rfl
def exactppllaw19_DiagramUnique.T15 : Bool × List (List Nat × List Nat) := (true, [([], []), ([], []), ([], []), ([1, 2], [1, 2]), ([3], [3]), ([0, 4], [0, 4]), ([5], [5]), ([6], [6]), ([6], [6]), ([7, 5, 0, 1, 2, 3, 4, 5, 6, 7], [7]), ([8, 9, 0, 1, 2, 3, 4, 5, 6, 7, 8, 9], [8])])
def exactppllaw19_DiagramUnique.B15 : List Nat := [0, 0, 0, 6, 14, 31, 63, 127, 127, 255, 1023]
theorem exactppllaw19_DiagramUnique.tab15 : rtab .any (opsOf Tryd.f10 15) = exactppllaw19_DiagramUnique.T15 := by kernel_rfl
theorem exactppllaw19_DiagramUnique.bits15 : waitsOk exactppllaw19_DiagramUnique.T15.2 exactppllaw19_DiagramUnique.B15 = true := by kernel_rfl
set_option maxHeartbeats 8000000 in
set_option maxRecDepth 100000 in
theorem exactppllaw19_DiagramUnique.calls (k : Nat) (A0 : Option Addr) (c0 : Nat) (l0 : List Int) (r : Bool) (w : World) (hr0 : Kd.C (Kd.int .i64) w A0 l0.length l0) (hc0 : l0.length ≤ c0) (h : exactppllaw19_DiagramUnique.f k l0 = some r) (htab : PowTab w.heap.size w) (hrt : r = true) :
  Calls Tryd.prog 10 #[.slice A0 l0.length c0] w fun e w' => e = .returned (.bool r) ∧ Below w.heap.size w w' := by
 have HTAB := Aside0.mk htab
 clear htab
 have hu31 := Tryd.underlying31
 have HR0 := Aside0.mk hr0
 have HC0 := Aside0.mk hc0
 clear hr0 hc0
 have HB := Aside0.mk (Below.refl w.heap.size w)
 have H : ((exactpplmake_New.f l0).bind fun bt595 => ((exactpplmake_Src_Diagram.f k bt595.1 bt595.2.1 bt595.2.2 0 2).bind fun bt599 => ((exactpplmake_Src_Diagram.f k bt595.1 bt599.2.1 bt599.2.2 0 2).bind fun bt604 => ((exactpplmake_Src_N.f bt595.1 bt604.2.1 bt604.2.2 3).bind fun bt611 => (if bt611.1 = 0 then ((exactpplmake_Src_Diagram.f k bt595.1 bt611.2.1 bt611.2.2 1 2).bind fun bt614 => ((exactpplmake_Src_N.f bt595.1 bt614.2.1 bt614.2.2 2).bind fun bt619 => ((diagram_Branch.f 0 (([(⟨bt614.1⟩ : S31), (⟨bt614.1⟩ : S31)] : List (S31)))).bind fun bt626 => (if bt619.1 = 0 then ((diagram_Branch.f 0 (([(⟨bt614.1⟩ : S31), (⟨bt614.1⟩ : S31)] : List (S31)))).bind fun bt633 => (exactppllaw19_DiagramUnique.j0 k bt626.1 bt633.1)) else (exactppllaw19_DiagramUnique.j0 k bt626.1 bt614.1))))) else (exactppllaw19_DiagramUnique.j0 k bt599.1 bt604.1)))))) = some r := h
 clear h
 replace H := Option.bind_eq_some_iff.mp H
 obtain ⟨⟨t595, t596, t597⟩, A20, H⟩ := H
 replace H : ((exactpplmake_Src_Diagram.f k t595 t596 t597 0 2).bind fun bt599 => ((exactpplmake_Src_Diagram.f k t595 bt599.2.1 bt599.2.2 0 2).bind fun bt604 => ((exactpplmake_Src_N.f t595 bt604.2.1 bt604.2.2 3).bind fun bt611 => (if bt611.1 = 0 then ((exactpplmake_Src_Diagram.f k t595 bt611.2.1 bt611.2.2 1 2).bind fun bt614 => ((exactpplmake_Src_N.f t595 bt614.2.1 bt614.2.2 2).bind fun bt619 => ((diagram_Branch.f 0 (([(⟨bt614.1⟩ : S31), (⟨bt614.1⟩ : S31)] : List (S31)))).bind fun bt626 => (if bt619.1 = 0 then ((diagram_Branch.f 0 (([(⟨bt614.1⟩ : S31), (⟨bt614.1⟩ : S31)] : List (S31)))).bind fun bt633 => (exactppllaw19_DiagramUnique.j0 k bt626.1 bt633.1)) else (exactppllaw19_DiagramUnique.j0 k bt626.1 bt614.1))))) else (exactppllaw19_DiagramUnique.j0 k bt599.1 bt604.1))))) = some r := H
 have A2 := Aside0.mk A20
 clear A20
 replace H := Option.bind_eq_some_iff.mp H
 obtain ⟨⟨t599, t602, t603⟩, A30, H⟩ := H
 replace H : ((exactpplmake_Src_Diagram.f k t595 t602 t603 0 2).bind fun bt604 => ((exactpplmake_Src_N.f t595 bt604.2.1 bt604.2.2 3).bind fun bt611 => (if bt611.1 = 0 then ((exactpplmake_Src_Diagram.f k t595 bt611.2.1 bt611.2.2 1 2).bind fun bt614 => ((exactpplmake_Src_N.f t595 bt614.2.1 bt614.2.2 2).bind fun bt619 => ((diagram_Branch.f 0 (([(⟨bt614.1⟩ : S31), (⟨bt614.1⟩ : S31)] : List (S31)))).bind fun bt626 => (if bt619.1 = 0 then ((diagram_Branch.f 0 (([(⟨bt614.1⟩ : S31), (⟨bt614.1⟩ : S31)] : List (S31)))).bind fun bt633 => (exactppllaw19_DiagramUnique.j0 k bt626.1 bt633.1)) else (exactppllaw19_DiagramUnique.j0 k bt626.1 bt614.1))))) else (exactppllaw19_DiagramUnique.j0 k t599 bt604.1)))) = some r := H
 have A3 := Aside0.mk A30
 clear A30
 replace H := Option.bind_eq_some_iff.mp H
 obtain ⟨⟨t604, t607, t608⟩, A40, H⟩ := H
 replace H : ((exactpplmake_Src_N.f t595 t607 t608 3).bind fun bt611 => (if bt611.1 = 0 then ((exactpplmake_Src_Diagram.f k t595 bt611.2.1 bt611.2.2 1 2).bind fun bt614 => ((exactpplmake_Src_N.f t595 bt614.2.1 bt614.2.2 2).bind fun bt619 => ((diagram_Branch.f 0 (([(⟨bt614.1⟩ : S31), (⟨bt614.1⟩ : S31)] : List (S31)))).bind fun bt626 => (if bt619.1 = 0 then ((diagram_Branch.f 0 (([(⟨bt614.1⟩ : S31), (⟨bt614.1⟩ : S31)] : List (S31)))).bind fun bt633 => (exactppllaw19_DiagramUnique.j0 k bt626.1 bt633.1)) else (exactppllaw19_DiagramUnique.j0 k bt626.1 bt614.1))))) else (exactppllaw19_DiagramUnique.j0 k t599 t604))) = some r := H
 have A4 := Aside0.mk A40
 clear A40
 replace H := Option.bind_eq_some_iff.mp H
 obtain ⟨⟨t611, t612, t613⟩, A50, H⟩ := H
 replace H : (if t611 = 0 then ((exactpplmake_Src_Diagram.f k t595 t612 t613 1 2).bind fun bt614 => ((exactpplmake_Src_N.f t595 bt614.2.1 bt614.2.2 2).bind fun bt619 => ((diagram_Branch.f 0 (([(⟨bt614.1⟩ : S31), (⟨bt614.1⟩ : S31)] : List (S31)))).bind fun bt626 => (if bt619.1 = 0 then ((diagram_Branch.f 0 (([(⟨bt614.1⟩ : S31), (⟨bt614.1⟩ : S31)] : List (S31)))).bind fun bt633 => (exactppllaw19_DiagramUnique.j0 k bt626.1 bt633.1)) else (exactppllaw19_DiagramUnique.j0 k bt626.1 bt614.1))))) else (exactppllaw19_DiagramUnique.j0 k t599 t604)) = some r := H
 have A5 := Aside0.mk A50
 clear A50
 have HC6 := Aside0.mk H
 clear H
 go_enter Tryd.func10, Tryd.ntmps10
 go_upto_if 23 with (first | ((with_reducible refine gate_callee (f := 15) rfl ?_); refine goesL_ (some 16) rfl rfl Tryd.func15 (by kernel_rfl) rfl #[.slice A0 l0.length c0] rfl (by (try simp only [List.map_toArray, List.map_cons, List.map_nil]); first | done | rfl | (simp only [List.length_drop, List.length_take]; rfl)) ?_; (with_reducible refine (exactpplmake_New.calls _ _ l0 t595 t596 t597 w _ ?side1 ?side2 ?side3 A2.out).mono ?_); (case side1 => repeat (first | (with_reducible first | exact HB.out | apply below_alloc | apply pw_below_drewN | apply below_drew1) | exact HB.out)); (case side2 => exact HR0.out); (case side3 => exact HC0.out); rintro e w7 ⟨g598, rfl, hi, hb, hb2⟩; refine ⟨_, rfl, ?_⟩; have HI598 := Aside0.mk (hi); replace HB := Aside0.mk (hb); (try clear hb); (try clear hb2); (try clear hk); (try clear hi)) | ((with_reducible refine gate_callee (f := 22) rfl ?_); refine goesL_ (some 18) rfl rfl Tryd.func22 (by kernel_rfl) rfl #[.pointer (some ⟨g598, 0, none⟩), .int .i64 0, .int .i64 2] rfl (by (try simp only [List.map_toArray, List.map_cons, List.map_nil]); first | done | rfl | (simp only [List.length_drop, List.length_take]; rfl)) ?_; (with_reducible refine (exactpplmake_Src_Diagram.calls k g598 t595 t596 t597 0 2 t599 t602 t603 w _ ?side1 ?side2 A3.out).mono ?_); (case side1 => repeat (first | (with_reducible first | exact HI598.out | apply IsS58.alloc | apply IsS58.drewN | apply IsS58.drew | apply IsS58.set_1 | apply IsS58.set_2) | exact HI598.out)); (case side2 => repeat (first | (with_reducible first | exact HB.out | apply below_alloc | apply pw_below_drewN | apply below_drew1 | refine below_set ?_ (IsS58.ge HI598.out)) | exact HB.out)); rintro e w8 ⟨v600, rfl, ho0, hi, hb, hk⟩; refine ⟨_, rfl, ?_⟩; have HO601 := Aside0.mk (Kd.V_lower (Kd.V_mono (ok' := fun k_ => k_ ≠ g598) ho0 (fun k_ hk_ => (IsS58.fresh si_ k_ hk_))) (below_size bl_)); replace HB := Aside0.mk (hb); replace HI598 := Aside0.mk (hi); (try clear hb); (try clear hb2); (try clear hk); (try clear hi); (try clear ho0)) | ((with_reducible refine gate_callee (f := 22) rfl ?_); refine goesL_ (some 20) rfl rfl Tryd.func22 (by kernel_rfl) rfl #[.pointer (some ⟨g598, 0, none⟩), .int .i64 0, .int .i64 2] rfl (by (try simp only [List.map_toArray, List.map_cons, List.map_nil]); first | done | rfl | (simp only [List.length_drop, List.length_take]; rfl)) ?_; (with_reducible refine (exactpplmake_Src_Diagram.calls k g598 t595 t602 t603 0 2 t604 t607 t608 w _ ?side1 ?side2 A4.out).mono ?_); (case side1 => repeat (first | (with_reducible first | exact HI598.out | apply IsS58.alloc | apply IsS58.drewN | apply IsS58.drew | apply IsS58.set_1 | apply IsS58.set_2) | exact HI598.out)); (case side2 => repeat (first | (with_reducible first | exact HB.out | apply below_alloc | apply pw_below_drewN | apply below_drew1 | refine below_set ?_ (IsS58.ge HI598.out)) | exact HB.out)); rintro e w9 ⟨v605, rfl, ho0, hi, hb, hk⟩; refine ⟨_, rfl, ?_⟩; have HO606 := Aside0.mk (Kd.V_lower (Kd.V_mono (ok' := fun k_ => k_ ≠ g598) ho0 (fun k_ hk_ => (IsS58.fresh si_ k_ hk_))) (below_size bl_)); replace HO601 := Aside0.mk (Kd.V_mono (Kd.V_keep (Kd.V_mono (ok := fun k_ => k_ ≠ g598) (pV_ HO601.out) (fun k_ hk_ => (⟨hk_, hk_⟩ : _ ∧ k_ ≠ g598))) hk (fun _ h => h.2)) (fun _ h => h.1)); replace HB := Aside0.mk (hb); replace HI598 := Aside0.mk (hi); (try clear hb); (try clear hb2); (try clear hk); (try clear hi); (try clear ho0)) | ((with_reducible refine gate_dst (N := 4) rfl ?_); refine box_event ?hg (N := 4) ?hd (cs := #[.slice none 0 0]) (t := 31) ?hr ?_; (case hd => rfl); (case hg => rfl); (case hr => first | (go_simp; done) | (go_simp; rfl)); intro gb609 hg w10 hbox hb; have BK609 := Aside0.mk (hbox); have GW609 : Aside0 (w.heap.size ≤ gb609) := gw_ hg (below_size bl_); have GE609 := GW609; have NB598_609 := Aside0.mk ((by rw [hg]; exact Nat.ne_of_lt (IsS58.lt (show IsS58 w _ g598 t595 t607 t608 from si_)) : g598 ≠ gb609)); have NB609_598 := Aside0.mk ((by rw [hg]; exact Nat.ne_of_gt (IsS58.lt (show IsS58 w _ g598 t595 t607 t608 from si_)) : gb609 ≠ g598)); replace HO601 := Aside0.mk (Kd.V_below (Kd.V_elderB (pV_ HO601.out) gb609 (Nat.le_of_eq hg.symm)) hb); replace HO606 := Aside0.mk (Kd.V_below (Kd.V_elderB (pV_ HO606.out) gb609 (Nat.le_of_eq hg.symm)) hb); replace HI598 := Aside0.mk (IsS58.below si_ hb); replace HB := Aside0.mk (below_step bl_ hb); clear hb hbox hg) | ((with_reducible refine gate_dst (N := 5) rfl ?_); refine box_event ?hg (N := 5) ?hd (cs := #[.slice none 0 0]) (t := 31) ?hr ?_; (case hd => rfl); (case hg => rfl); (case hr => first | (go_simp; done) | (go_simp; rfl)); intro gb610 hg w11 hbox hb; have BK610 := Aside0.mk (hbox); have GW610 : Aside0 (w.heap.size ≤ gb610) := gw_ hg (below_size bl_); have GE610 := GW610; have NB609_610 := Aside0.mk ((by rw [hg]; exact Nat.ne_of_lt (blk_lt (g := gb609) (o := .cells #[.slice none 0 0] 31 (0, 0)) bk_) : gb609 ≠ gb610)); have NB610_609 := Aside0.mk ((by rw [hg]; exact Nat.ne_of_gt (blk_lt (g := gb609) (o := .cells #[.slice none 0 0] 31 (0, 0)) bk_) : gb610 ≠ gb609)); have NB598_610 := Aside0.mk ((by rw [hg]; exact Nat.ne_of_lt (IsS58.lt (show IsS58 w _ g598 t595 t607 t608 from si_)) : g598 ≠ gb610)); have NB610_598 := Aside0.mk ((by rw [hg]; exact Nat.ne_of_gt (IsS58.lt (show IsS58 w _ g598 t595 t607 t608 from si_)) : gb610 ≠ g598)); replace HO601 := Aside0.mk (Kd.V_below (Kd.V_elderB (pV_ HO601.out) gb610 (Nat.le_of_eq hg.symm)) hb); replace HO606 := Aside0.mk (Kd.V_below (Kd.V_elderB (pV_ HO606.out) gb610 (Nat.le_of_eq hg.symm)) hb); replace HI598 := Aside0.mk (IsS58.below si_ hb); replace BK609 := Aside0.mk (blk_below (g := gb609) (o := .cells #[.slice none 0 0] 31 (0, 0)) bk_ hb); replace HB := Aside0.mk (below_step bl_ hb); clear hb hbox hg; obtain ⟨Ao12, co12, eo12⟩ := Kd.V_slice HO601.out; subst eo12; have hnb13 := NB609_610.out; have hnc13 := NB610_609.out; have hnb14 := NB609_598.out; have hnc14 := NB598_609.out; obtain ⟨hcz15_0, hfz15_0⟩ := cf1_ BK609.out; obtain ⟨Ao16, co16, eo16⟩ := Kd.V_slice HO606.out; subst eo16; have hnb17 := NB610_598.out; have hnc17 := NB598_610.out; obtain ⟨hcz18_0, hfz18_0⟩ := cf1_ BK610.out) | ((with_reducible refine gate_callee (f := 23) rfl ?_); refine goesL_ (some 22) rfl rfl Tryd.func23 (by kernel_rfl) rfl #[.pointer (some ⟨g598, 0, none⟩), .int .i64 3] rfl (by (try simp only [List.map_toArray, List.map_cons, List.map_nil]); first | done | rfl | (simp only [List.length_drop, List.length_take]; rfl)) ?_; (with_reducible refine (exactpplmake_Src_N.calls g598 t595 t607 t608 3 t611 t612 t613 w _ ?side1 ?side2 A5.out).mono ?_); (case side1 => repeat (first | (with_reducible first | exact HI598.out | apply IsS58.alloc | apply IsS58.drewN | apply IsS58.drew | apply IsS58.set_1 | apply IsS58.set_2 | refine IsS58.far ?_ NB598_609.out _ | refine IsS58.far ?_ NB598_610.out _) | exact HI598.out)); (case side2 => repeat (first | (with_reducible first | exact HB.out | apply below_alloc | apply pw_below_drewN | apply below_drew1 | refine below_set ?_ (IsS58.ge HI598.out) | refine below_set ?_ GE609.out | refine below_set ?_ GE610.out) | exact HB.out)); rintro e w19 ⟨rfl, hi, hb, hk⟩; refine ⟨_, rfl, ?_⟩; replace HO601 := Aside0.mk (Kd.V_mono (Kd.V_keep (Kd.V_mono (ok := fun k_ => ((k_ ≠ g598 ∧ k_ ≠ gb609) ∧ k_ ≠ gb610)) (by (with_reducible repeat (first | apply Kd.V_alloc | apply Kd.V_drewN | apply Kd.V_drew)); exact (Kd.V_mono (Kd.V_mono (Kd.V_far (p := ⟨gb610, 0, none⟩) (Kd.V_far (p := ⟨gb609, 0, none⟩) (Kd.V_mono (Kd.V_mono HO601.out (fun k_ hk => (⟨hk, by first | exact hk.1.2 | exact hk.1 | exact hk.2 | exact hk.1.1 | exact hk.1.2⟩ : _ ∧ k_ ≠ gb609))) (fun k_ hk => (⟨hk, by first | exact hk.1.2 | exact hk.1 | exact hk.2 | exact hk.1.1 | exact hk.1.2⟩ : _ ∧ k_ ≠ gb610))) (fun _ hk => hk.1.2) (.slice Ao12 t599.length co12)) (fun _ hk => hk.2) (.slice Ao16 t604.length co16)) (fun _ h_ => h_.1)) (fun _ h_ => h_.1))) (fun k_ hk_ => (⟨hk_, hk_.1.1⟩ : _ ∧ k_ ≠ g598))) hk (fun _ h => h.2)) (fun _ h => h.1)); replace HO606 := Aside0.mk (Kd.V_mono (Kd.V_keep (Kd.V_mono (ok := fun k_ => ((k_ ≠ g598 ∧ k_ ≠ gb609) ∧ k_ ≠ gb610)) (by (with_reducible repeat (first | apply Kd.V_alloc | apply Kd.V_drewN | apply Kd.V_drew)); exact (Kd.V_mono (Kd.V_mono (Kd.V_far (p := ⟨gb610, 0, none⟩) (Kd.V_far (p := ⟨gb609, 0, none⟩) (Kd.V_mono (Kd.V_mono HO606.out (fun k_ hk => (⟨hk, by first | exact hk.1.2 | exact hk.1 | exact hk.2 | exact hk.1.1 | exact hk.1.2⟩ : _ ∧ k_ ≠ gb609))) (fun k_ hk => (⟨hk, by first | exact hk.1.2 | exact hk.1 | exact hk.2 | exact hk.1.1 | exact hk.1.2⟩ : _ ∧ k_ ≠ gb610))) (fun _ hk => hk.1.2) (.slice Ao12 t599.length co12)) (fun _ hk => hk.2) (.slice Ao16 t604.length co16)) (fun _ h_ => h_.1)) (fun _ h_ => h_.1))) (fun k_ hk_ => (⟨hk_, hk_.1.1⟩ : _ ∧ k_ ≠ g598))) hk (fun _ h => h.2)) (fun _ h => h.1)); replace BK609 := Aside0.mk (KeepBut.blk hk (g' := gb609) (o := .cells #[.slice Ao12 t599.length co12] 31 (0, 0)) (by (with_reducible repeat (first | refine blk_drewN ?_ _ | refine blk_drew ?_ | refine blk_alloc ?_ _)); refine blk_far ?_ NB609_610.out _; (with_reducible repeat (first | refine blk_drewN ?_ _ | refine blk_drew ?_ | refine blk_alloc ?_ _)); refine blk_put (cs := #[.slice none 0 0]) ?_ 0 _ rfl; (with_reducible repeat (first | refine blk_drewN ?_ _ | refine blk_drew ?_ | refine blk_alloc ?_ _)); exact BK609.out) NB609_598.out (by simp)); replace BK610 := Aside0.mk (KeepBut.blk hk (g' := gb610) (o := .cells #[.slice Ao16 t604.length co16] 31 (0, 0)) (by (with_reducible repeat (first | refine blk_drewN ?_ _ | refine blk_drew ?_ | refine blk_alloc ?_ _)); refine blk_put (cs := #[.slice none 0 0]) ?_ 0 _ rfl; (with_reducible repeat (first | refine blk_drewN ?_ _ | refine blk_drew ?_ | refine blk_alloc ?_ _)); refine blk_far ?_ NB610_609.out _; (with_reducible repeat (first | refine blk_drewN ?_ _ | refine blk_drew ?_ | refine blk_alloc ?_ _)); exact BK610.out) NB610_598.out (by simp)); replace HB := Aside0.mk (hb); replace HI598 := Aside0.mk (hi); (try clear hb); (try clear hb2); (try clear hk); (try clear hi)))
 (try simp only [Act.put, List.setIfInBounds_toArray, List.set_cons_zero, List.set_cons_succ])
 go_cut [] (fun wc => ∃ (kq : Nat) (x610000_5 : List (S60)) (x611000_5 : List (S60)) (u610000 : Value) (u611000 : Value), Aside0 (exactppllaw19_DiagramUnique.j0 kq x610000_5 x611000_5 = some r) ∧ Aside0 (kq ≤ k) ∧ Aside0 (Kd.V k60 60 wc w.heap.size (fun k_ => k_ ≠ gb609 ∧ k_ ≠ gb610) u610000 x610000_5) ∧ Aside0 (Kd.V k60 60 wc w.heap.size (fun k_ => k_ ≠ gb609 ∧ k_ ≠ gb610) u611000 x611000_5) ∧ Aside0 (wc.heap[gb609]? = some (.cells #[u610000] 31 (0, 0))) ∧ Aside0 (wc.heap[gb610]? = some (.cells #[u611000] 31 (0, 0))) ∧ Aside0 (Below w.heap.size w wc))
 case first =>
  have H := HC6.out
  clear HC6
  by_cases c20 : t611 = 0
  ·rw [if_pos c20] at H
   have c20b0 : (t611 == 0) = true := beq_iff_eq.mpr c20
   have c20b1 : (t611 != 0) = false := bne_eq_false_iff_eq.mpr c20
   clear c20
   (first | rw [c20b0] | (simp only [i64_w, i32_w]; rw [c20b0]) | skip)
   replace H := Option.bind_eq_some_iff.mp H
   obtain ⟨⟨t614, t617, t618⟩, A210, H⟩ := H
   replace H : ((exactpplmake_Src_N.f t595 t617 t618 2).bind fun bt619 => ((diagram_Branch.f 0 (([(⟨t614⟩ : S31), (⟨t614⟩ : S31)] : List (S31)))).bind fun bt626 => (if bt619.1 = 0 then ((diagram_Branch.f 0 (([(⟨t614⟩ : S31), (⟨t614⟩ : S31)] : List (S31)))).bind fun bt633 => (exactppllaw19_DiagramUnique.j0 k bt626.1 bt633.1)) else (exactppllaw19_DiagramUnique.j0 k bt626.1 t614)))) = some r := H
   have A21 := Aside0.mk A210
   clear A210
   replace H := Option.bind_eq_some_iff.mp H
   obtain ⟨⟨t619, t620, t621⟩, A220, H⟩ := H
   replace H : ((diagram_Branch.f 0 (([(⟨t614⟩ : S31), (⟨t614⟩ : S31)] : List (S31)))).bind fun bt626 => (if t619 = 0 then ((diagram_Branch.f 0 (([(⟨t614⟩ : S31), (⟨t614⟩ : S31)] : List (S31)))).bind fun bt633 => (exactppllaw19_DiagramUnique.j0 k bt626.1 bt633.1)) else (exactppllaw19_DiagramUnique.j0 k bt626.1 t614))) = some r := H
   have A22 := Aside0.mk A220
   clear A220
   obtain ⟨y623, hy623⟩ : ∃ y_ : List (S31), y_ = (([(⟨t614⟩ : S31), (⟨t614⟩ : S31)] : List (S31))) := ⟨_, rfl⟩
   replace H : ((diagram_Branch.f 0 y623).bind fun bt626 => (if t619 = 0 then ((diagram_Branch.f 0 (([(⟨t614⟩ : S31), (⟨t614⟩ : S31)] : List (S31)))).bind fun bt633 => (exactppllaw19_DiagramUnique.j0 k bt626.1 bt633.1)) else (exactppllaw19_DiagramUnique.j0 k bt626.1 t614))) = some r := by first | (rw [hy623]; with_reducible exact H) | (have H2_ := (Option.bind_some _ _).symm.trans H; rw [hy623]; with_reducible exact H2_) | (have H2_ := (Option.bind_some _ _).symm.trans H; with_reducible exact H2_) | with_reducible exact H | (rw [hy623]; exact H) | exact H
   have Ny623 := Aside0.mk hy623
   clear hy623
   replace H := Option.bind_eq_some_iff.mp H
   obtain ⟨⟨t626, t629⟩, A230, H⟩ := H
   replace H : (if t619 = 0 then ((diagram_Branch.f 0 (([(⟨t614⟩ : S31), (⟨t614⟩ : S31)] : List (S31)))).bind fun bt633 => (exactppllaw19_DiagramUnique.j0 k t626 bt633.1)) else (exactppllaw19_DiagramUnique.j0 k t626 t614)) = some r := H
   have A23 := Aside0.mk A230
   clear A230
   by_cases c24 : t619 = 0
   ·rw [if_pos c24] at H
    have c24b0 : (t619 == 0) = true := beq_iff_eq.mpr c24
    have c24b1 : (t619 != 0) = false := bne_eq_false_iff_eq.mpr c24
    clear c24
    obtain ⟨y630, hy630⟩ : ∃ y_ : List (S31), y_ = (([(⟨t614⟩ : S31), (⟨t614⟩ : S31)] : List (S31))) := ⟨_, rfl⟩
    replace H : ((diagram_Branch.f 0 y630).bind fun bt633 => (exactppllaw19_DiagramUnique.j0 k t626 bt633.1)) = some r := by first | (rw [hy630]; with_reducible exact H) | (have H2_ := (Option.bind_some _ _).symm.trans H; rw [hy630]; with_reducible exact H2_) | (have H2_ := (Option.bind_some _ _).symm.trans H; with_reducible exact H2_) | with_reducible exact H | (rw [hy630]; exact H) | exact H
    have Ny630 := Aside0.mk hy630
    clear hy630
    replace H := Option.bind_eq_some_iff.mp H
    obtain ⟨⟨t633, t636⟩, A250, H⟩ := H
    replace H : (exactppllaw19_DiagramUnique.j0 k t626 t633) = some r := H
    have A25 := Aside0.mk A250
    clear A250
    have H' := Aside0.mk H
    clear H
    go_wp2_with (first | ((with_reducible refine gate_callee (f := 22) rfl ?_); refine goesL_ (some 25) rfl rfl Tryd.func22 (by kernel_rfl) rfl #[.pointer (some ⟨g598, 0, none⟩), .int .i64 1, .int .i64 2] rfl (by (try simp only [List.map_toArray, List.map_cons, List.map_nil]); first | done | rfl | (simp only [List.length_drop, List.length_take]; rfl)) ?_; (with_reducible refine (exactpplmake_Src_Diagram.calls k g598 t595 t612 t613 1 2 t614 t617 t618 w _ ?side1 ?side2 A21.out).mono ?_); (case side1 => repeat (first | (with_reducible first | exact HI598.out | apply IsS58.alloc | apply IsS58.drewN | apply IsS58.drew | apply IsS58.set_1 | apply IsS58.set_2 | refine IsS58.far ?_ NB598_609.out _ | refine IsS58.far ?_ NB598_610.out _) | exact HI598.out)); (case side2 => repeat (first | (with_reducible first | exact HB.out | apply below_alloc | apply pw_below_drewN | apply below_drew1 | refine below_set ?_ (IsS58.ge HI598.out) | refine below_set ?_ GE609.out | refine below_set ?_ GE610.out) | exact HB.out)); rintro e w26 ⟨v615, rfl, ho0, hi, hb, hk⟩; refine ⟨_, rfl, ?_⟩; have HO616 := Aside0.mk (Kd.V_lower (Kd.V_mono (ok' := fun k_ => k_ ≠ gb609 ∧ k_ ≠ gb610 ∧ k_ ≠ g598) ho0 (fun k_ hk_ => ⟨(Kd.freshB (g := gb609) (o := .cells #[.slice Ao12 t599.length co12] 31 (0, 0)) bk_ k_ hk_), (Kd.freshB (g := gb610) (o := .cells #[.slice Ao16 t604.length co16] 31 (0, 0)) bk_ k_ hk_), (IsS58.fresh si_ k_ hk_)⟩)) (below_size bl_)); replace HO601 := Aside0.mk (Kd.V_mono (Kd.V_keep (Kd.V_mono (ok := fun k_ => ((k_ ≠ g598 ∧ k_ ≠ gb609) ∧ k_ ≠ gb610)) (pV_ HO601.out) (fun k_ hk_ => (⟨hk_, hk_.1.1⟩ : _ ∧ k_ ≠ g598))) hk (fun _ h => h.2)) (fun _ h => h.1)); replace HO606 := Aside0.mk (Kd.V_mono (Kd.V_keep (Kd.V_mono (ok := fun k_ => ((k_ ≠ g598 ∧ k_ ≠ gb609) ∧ k_ ≠ gb610)) (pV_ HO606.out) (fun k_ hk_ => (⟨hk_, hk_.1.1⟩ : _ ∧ k_ ≠ g598))) hk (fun _ h => h.2)) (fun _ h => h.1)); replace BK609 := Aside0.mk (KeepBut.blk hk (g' := gb609) (o := .cells #[.slice Ao12 t599.length co12] 31 (0, 0)) bk_ NB609_598.out (by simp)); replace BK610 := Aside0.mk (KeepBut.blk hk (g' := gb610) (o := .cells #[.slice Ao16 t604.length co16] 31 (0, 0)) bk_ NB610_598.out (by simp)); replace HB := Aside0.mk (hb); replace HI598 := Aside0.mk (hi); (try clear hb); (try clear hb2); (try clear hk); (try clear hi); (try clear ho0)) | ((with_reducible refine gate_callee (f := 23) rfl ?_); refine goesL_ (some 27) rfl rfl Tryd.func23 (by kernel_rfl) rfl #[.pointer (some ⟨g598, 0, none⟩), .int .i64 2] rfl (by (try simp only [List.map_toArray, List.map_cons, List.map_nil]); first | done | rfl | (simp only [List.length_drop, List.length_take]; rfl)) ?_; (with_reducible refine (exactpplmake_Src_N.calls g598 t595 t617 t618 2 t619 t620 t621 w _ ?side1 ?side2 A22.out).mono ?_); (case side1 => repeat (first | (with_reducible first | exact HI598.out | apply IsS58.alloc | apply IsS58.drewN | apply IsS58.drew | apply IsS58.set_1 | apply IsS58.set_2 | refine IsS58.far ?_ NB598_609.out _ | refine IsS58.far ?_ NB598_610.out _) | exact HI598.out)); (case side2 => repeat (first | (with_reducible first | exact HB.out | apply below_alloc | apply pw_below_drewN | apply below_drew1 | refine below_set ?_ (IsS58.ge HI598.out) | refine below_set ?_ GE609.out | refine below_set ?_ GE610.out) | exact HB.out)); rintro e w27 ⟨rfl, hi, hb, hk⟩; refine ⟨_, rfl, ?_⟩; replace HO601 := Aside0.mk (Kd.V_mono (Kd.V_keep (Kd.V_mono (ok := fun k_ => ((k_ ≠ g598 ∧ k_ ≠ gb609) ∧ k_ ≠ gb610)) (pV_ HO601.out) (fun k_ hk_ => (⟨hk_, hk_.1.1⟩ : _ ∧ k_ ≠ g598))) hk (fun _ h => h.2)) (fun _ h => h.1)); replace HO606 := Aside0.mk (Kd.V_mono (Kd.V_keep (Kd.V_mono (ok := fun k_ => ((k_ ≠ g598 ∧ k_ ≠ gb609) ∧ k_ ≠ gb610)) (pV_ HO606.out) (fun k_ hk_ => (⟨hk_, hk_.1.1⟩ : _ ∧ k_ ≠ g598))) hk (fun _ h => h.2)) (fun _ h => h.1)); replace BK609 := Aside0.mk (KeepBut.blk hk (g' := gb609) (o := .cells #[.slice Ao12 t599.length co12] 31 (0, 0)) bk_ NB609_598.out (by simp)); replace BK610 := Aside0.mk (KeepBut.blk hk (g' := gb610) (o := .cells #[.slice Ao16 t604.length co16] 31 (0, 0)) bk_ NB610_598.out (by simp)); replace HO616 := Aside0.mk (Kd.V_mono (Kd.V_keep (Kd.V_mono (ok := fun k_ => (k_ ≠ gb609 ∧ (k_ ≠ gb610 ∧ k_ ≠ g598))) (pV_ HO616.out) (fun k_ hk_ => (⟨hk_, hk_.2.2⟩ : _ ∧ k_ ≠ g598))) hk (fun _ h => h.2)) (fun _ h => h.1)); replace HB := Aside0.mk (hb); replace HI598 := Aside0.mk (hi); (try clear hb); (try clear hb2); (try clear hk); (try clear hi)) | ((with_reducible refine gate_dst (N := 6) rfl ?_); refine box_event ?hg (N := 6) ?hd (cs := #[.slice none 0 0]) (t := 31) ?hr ?_; (case hd => rfl); (case hg => rfl); (case hr => first | (go_simp; done) | (go_simp; rfl)); intro gb622 hg w28 hbox hb; have BK622 := Aside0.mk (hbox); have GW622 : Aside0 (w.heap.size ≤ gb622) := gw_ hg (below_size bl_); have GE622 := GW622; have NB609_622 := Aside0.mk ((by rw [hg]; exact Nat.ne_of_lt (blk_lt (g := gb609) (o := .cells #[.slice Ao12 t599.length co12] 31 (0, 0)) bk_) : gb609 ≠ gb622)); have NB622_609 := Aside0.mk ((by rw [hg]; exact Nat.ne_of_gt (blk_lt (g := gb609) (o := .cells #[.slice Ao12 t599.length co12] 31 (0, 0)) bk_) : gb622 ≠ gb609)); have NB610_622 := Aside0.mk ((by rw [hg]; exact Nat.ne_of_lt (blk_lt (g := gb610) (o := .cells #[.slice Ao16 t604.length co16] 31 (0, 0)) bk_) : gb610 ≠ gb622)); have NB622_610 := Aside0.mk ((by rw [hg]; exact Nat.ne_of_gt (blk_lt (g := gb610) (o := .cells #[.slice Ao16 t604.length co16] 31 (0, 0)) bk_) : gb622 ≠ gb610)); have NB598_622 := Aside0.mk ((by rw [hg]; exact Nat.ne_of_lt (IsS58.lt (show IsS58 w _ g598 t595 t620 t621 from si_)) : g598 ≠ gb622)); have NB622_598 := Aside0.mk ((by rw [hg]; exact Nat.ne_of_gt (IsS58.lt (show IsS58 w _ g598 t595 t620 t621 from si_)) : gb622 ≠ g598)); replace HO601 := Aside0.mk (Kd.V_below (Kd.V_elderB (pV_ HO601.out) gb622 (Nat.le_of_eq hg.symm)) hb); replace HO606 := Aside0.mk (Kd.V_below (Kd.V_elderB (pV_ HO606.out) gb622 (Nat.le_of_eq hg.symm)) hb); replace HO616 := Aside0.mk (Kd.V_below (Kd.V_elderB (pV_ HO616.out) gb622 (Nat.le_of_eq hg.symm)) hb); replace HI598 := Aside0.mk (IsS58.below si_ hb); replace BK609 := Aside0.mk (blk_below (g := gb609) (o := .cells #[.slice Ao12 t599.length co12] 31 (0, 0)) bk_ hb); replace BK610 := Aside0.mk (blk_below (g := gb610) (o := .cells #[.slice Ao16 t604.length co16] 31 (0, 0)) bk_ hb); replace HB := Aside0.mk (below_step bl_ hb); clear hb hbox hg; obtain ⟨Ao29, co29, eo29⟩ := Kd.V_slice HO616.out; subst eo29; have hnb30 := NB622_609.out; have hnc30 := NB609_622.out; have hnb31 := NB622_610.out; have hnc31 := NB610_622.out; have hnb32 := NB622_598.out; have hnc32 := NB598_622.out; obtain ⟨hcz33_0, hfz33_0⟩ := cf1_ BK622.out) | ((with_reducible refine gate_store (t := 31) (p := 6) rfl ?_); refine store_event (t := 31) (p := 6) (v := ?vo_w34) (w1 := (w28.setCell ⟨gb622, 0, none⟩ (.slice Ao29 t614.length co29))) ?hg ?ho ?hn ?hr ?_; (case ho => rfl); (case hg => rfl); (case hn => rfl); (case hr => first | (go_simp; done) | (go_simp; rfl)); intro w34 hw; replace HO601 : Aside0 (Kd.V k60 60 w34 w.heap.size (fun k_ => k_ ≠ g598 ∧ k_ ≠ gb609 ∧ k_ ≠ gb610 ∧ k_ ≠ gb622) (.slice Ao12 t599.length co12) t599) := ⟨(by rw [hw]; exact (by (with_reducible repeat (first | apply Kd.V_alloc | apply Kd.V_drewN | apply Kd.V_drew)); exact Kd.V_mono (Kd.V_far (p := ⟨gb622, 0, none⟩) (Kd.V_mono HO601.out (fun k_ hk => (⟨hk, by first | exact hk.2 | exact hk.1 | exact hk.2 | exact hk.1.1 | exact hk.1.2⟩ : _ ∧ k_ ≠ gb622))) (fun _ hk => hk.2) (.slice Ao29 t614.length co29)) (fun _ hk => ⟨hk.1.1.1.1, ⟨hk.1.1.1.2, ⟨hk.1.1.2, hk.1.2⟩⟩⟩)))⟩; replace HO606 : Aside0 (Kd.V k60 60 w34 w.heap.size (fun k_ => k_ ≠ g598 ∧ k_ ≠ gb609 ∧ k_ ≠ gb610 ∧ k_ ≠ gb622) (.slice Ao16 t604.length co16) t604) := ⟨(by rw [hw]; exact (by (with_reducible repeat (first | apply Kd.V_alloc | apply Kd.V_drewN | apply Kd.V_drew)); exact Kd.V_mono (Kd.V_far (p := ⟨gb622, 0, none⟩) (Kd.V_mono HO606.out (fun k_ hk => (⟨hk, by first | exact hk.2 | exact hk.1 | exact hk.2 | exact hk.1.1 | exact hk.1.2⟩ : _ ∧ k_ ≠ gb622))) (fun _ hk => hk.2) (.slice Ao29 t614.length co29)) (fun _ hk => ⟨hk.1.1.1.1, ⟨hk.1.1.1.2, ⟨hk.1.1.2, hk.1.2⟩⟩⟩)))⟩; replace HO616 : Aside0 (Kd.V k60 60 w34 w.heap.size (fun k_ => k_ ≠ gb609 ∧ k_ ≠ gb610 ∧ k_ ≠ g598 ∧ k_ ≠ gb622) (.slice Ao29 t614.length co29) t614) := ⟨(by rw [hw]; exact (by (with_reducible repeat (first | apply Kd.V_alloc | apply Kd.V_drewN | apply Kd.V_drew)); exact Kd.V_mono (Kd.V_far (p := ⟨gb622, 0, none⟩) (Kd.V_mono HO616.out (fun k_ hk => (⟨hk, by first | exact hk.2 | exact hk.1 | exact hk.2 | exact hk.1.1 | exact hk.1.2⟩ : _ ∧ k_ ≠ gb622))) (fun _ hk => hk.2) (.slice Ao29 t614.length co29)) (fun _ hk => ⟨hk.1.1.1, ⟨hk.1.1.2.1, ⟨hk.1.1.2.2, hk.1.2⟩⟩⟩)))⟩; replace BK609 : Aside0 (w34.heap[gb609]? = some (.cells #[.slice Ao12 t599.length co12] 31 (0, 0))) := ⟨(by rw [hw]; exact (by (with_reducible repeat (first | refine blk_drewN ?_ _ | refine blk_drew ?_ | refine blk_alloc ?_ _)); refine blk_far ?_ NB609_622.out _; (with_reducible repeat (first | refine blk_drewN ?_ _ | refine blk_drew ?_ | refine blk_alloc ?_ _)); exact BK609.out))⟩; replace BK610 : Aside0 (w34.heap[gb610]? = some (.cells #[.slice Ao16 t604.length co16] 31 (0, 0))) := ⟨(by rw [hw]; exact (by (with_reducible repeat (first | refine blk_drewN ?_ _ | refine blk_drew ?_ | refine blk_alloc ?_ _)); refine blk_far ?_ NB610_622.out _; (with_reducible repeat (first | refine blk_drewN ?_ _ | refine blk_drew ?_ | refine blk_alloc ?_ _)); exact BK610.out))⟩; replace BK622 : Aside0 (w34.heap[gb622]? = some (.cells #[.slice Ao29 t614.length co29] 31 (0, 0))) := ⟨(by rw [hw]; exact (by (with_reducible repeat (first | refine blk_drewN ?_ _ | refine blk_drew ?_ | refine blk_alloc ?_ _)); refine blk_put (cs := #[.slice none 0 0]) ?_ 0 _ rfl; (with_reducible repeat (first | refine blk_drewN ?_ _ | refine blk_drew ?_ | refine blk_alloc ?_ _)); exact BK622.out))⟩; replace HI598 : Aside0 (IsS58 w w34 g598 t595 t620 t621) := ⟨(by rw [hw]; exact si_)⟩; replace HB : Aside0 (Below w.heap.size w w34) := ⟨(by rw [hw]; exact bl_)⟩; clear hw; obtain ⟨hcz35_0, hfz35_0⟩ := cf1_ BK622.out) | ((with_reducible refine gate_dst (N := 31) rfl ?_); refine Kd.N_lit k31 _ 31 ?hg (N' := 31) ?hd (xs := ([(⟨t614⟩ : S31), (⟨t614⟩ : S31)] : List (S31))) (inner := [.slice Ao29 t614.length co29, .slice Ao29 t614.length co29]) (ok := (fun k_ => k_ ≠ gb609 ∧ k_ ≠ gb610 ∧ k_ ≠ gb622 ∧ k_ ≠ g598)) (okp := (fun k_ => k_ ≠ gb609 ∧ k_ ≠ gb610 ∧ k_ ≠ gb622 ∧ k_ ≠ g598)) ?hr ?hp (fun _ hk => hk) ((show ∀ k_, w34.heap.size ≤ k_ → (fun k_ => k_ ≠ gb609 ∧ k_ ≠ gb610 ∧ k_ ≠ gb622 ∧ k_ ≠ g598) k_ from fun k_ hk => ⟨Kd.freshB (g := gb609) (o := .cells #[.slice Ao12 t599.length co12] 31 (0, 0)) bk_ k_ hk, Kd.freshB (g := gb610) (o := .cells #[.slice Ao16 t604.length co16] 31 (0, 0)) bk_ k_ hk, Kd.freshB (g := gb622) (o := .cells #[.slice Ao29 t614.length co29] 31 (0, 0)) bk_ k_ hk, IsS58.fresh si_ k_ hk⟩) _ (Nat.le_refl _)) (Below.refl _ _) (Nat.le_refl _) (by simp) ?_; (case hd => rfl); (case hg => rfl); (case hr => first | (go_simp; done) | (go_simp; rfl)); (case hp => exact (Reps.one (show Kd.FK k31 _ _ (⟨t614⟩ : S31) [.slice Ao29 t614.length co29] from (k31_mkF _ _ (⟨t614⟩ : S31) (Kd.V_reads' (Kd.V_mono (ok' := (fun k_ => k_ ≠ gb609 ∧ k_ ≠ gb610 ∧ k_ ≠ gb622 ∧ k_ ≠ g598)) (HO616.out) (fun k_ hk => ⟨hk.1, ⟨hk.2.1, ⟨hk.2.2.2, hk.2.2.1⟩⟩⟩))).2.1 (Kd.V_F (Kd.V_mono (ok' := (fun k_ => k_ ≠ gb609 ∧ k_ ≠ gb610 ∧ k_ ≠ gb622 ∧ k_ ≠ g598)) (HO616.out) (fun k_ hk => ⟨hk.1, ⟨hk.2.1, ⟨hk.2.2.2, hk.2.2.1⟩⟩⟩))))) (Reps.one (show Kd.FK k31 _ _ (⟨t614⟩ : S31) [.slice Ao29 t614.length co29] from (k31_mkF _ _ (⟨t614⟩ : S31) (Kd.V_reads' (Kd.V_mono (ok' := (fun k_ => k_ ≠ gb609 ∧ k_ ≠ gb610 ∧ k_ ≠ gb622 ∧ k_ ≠ g598)) (HO616.out) (fun k_ hk => ⟨hk.1, ⟨hk.2.1, ⟨hk.2.2.2, hk.2.2.1⟩⟩⟩))).2.1 (Kd.V_F (Kd.V_mono (ok' := (fun k_ => k_ ≠ gb609 ∧ k_ ≠ gb610 ∧ k_ ≠ gb622 ∧ k_ ≠ g598)) (HO616.out) (fun k_ hk => ⟨hk.1, ⟨hk.2.1, ⟨hk.2.2.2, hk.2.2.1⟩⟩⟩))))) (Reps.none _ _)))); intro v624 w36 ho37 hb hg_ hnew_; clear hg_ hnew_; (first | rw [← Ny623.out] at ho37 | (simp only [Int.reduceToNat] at ho37; rw [← Ny623.out] at ho37)); have HO625 := Aside0.mk (Kd.N_lower ho37 (below_size bl_)); replace HO601 := Aside0.mk (Kd.V_elder' (pV_ HO601.out) (by first | exact Kd.N_base ho37 | exact Kd.R_base ho37 | exact Kd.N_base (Kd.S_N ho37)) hb); replace HO606 := Aside0.mk (Kd.V_elder' (pV_ HO606.out) (by first | exact Kd.N_base ho37 | exact Kd.R_base ho37 | exact Kd.N_base (Kd.S_N ho37)) hb); replace HO616 := Aside0.mk (Kd.V_elder' (pV_ HO616.out) (by first | exact Kd.N_base ho37 | exact Kd.R_base ho37 | exact Kd.N_base (Kd.S_N ho37)) hb); replace HI598 := Aside0.mk (IsS58.below si_ hb); replace BK609 := Aside0.mk (blk_below (g := gb609) (o := .cells #[.slice Ao12 t599.length co12] 31 (0, 0)) bk_ hb); replace BK610 := Aside0.mk (blk_below (g := gb610) (o := .cells #[.slice Ao16 t604.length co16] 31 (0, 0)) bk_ hb); replace BK622 := Aside0.mk (blk_below (g := gb622) (o := .cells #[.slice Ao29 t614.length co29] 31 (0, 0)) bk_ hb); replace HB := Aside0.mk (below_step bl_ hb); clear hb ho37; obtain ⟨Ao38, co38, eo38⟩ := Kd.N_slice HO625.out; subst eo38) | ((with_reducible refine gate_callee (f := 34) rfl ?_); refine goesL_ (some 32) rfl rfl Tryd.func34 (by kernel_rfl) rfl #[.int .i64 0, .slice Ao38 y623.length co38] rfl (by (try simp only [List.map_toArray, List.map_cons, List.map_nil]); first | done | rfl | (simp only [List.length_drop, List.length_take]; rfl)) ?_; (with_reducible refine (diagram_Branch.calls 0 _ _ y623 t626 t629 _ ?side1 ?side2 A23.out ?tab).mono ?_); (case tab => exact ptab HTAB.out bl_); (case side1 => repeat (first | exact (Kd.N_reads' HO625.out).2.2 | (with_reducible refine Kd.C_alloc ?_ _) | (with_reducible refine Kd.C_drewN ?_ _) | (with_reducible refine Kd.C_drew ?_))); (case side2 => exact (Kd.N_reads' HO625.out).2.1); rintro e w39 ⟨v627, rfl, ho0, hb⟩; refine ⟨_, rfl, ?_⟩; have HO628 := Aside0.mk (Kd.V_lower (Kd.V_mono (ok' := fun k_ => some k_ ≠ (.slice Ao38 y623.length co38 : Value).ownBlock ∧ k_ ≠ gb609 ∧ k_ ≠ gb610 ∧ k_ ≠ gb622 ∧ k_ ≠ g598) ho0 (fun k_ hk_ => ⟨(Kd.fresh' (Kd.N_lt (pN_ HO625.out)) k_ hk_), (Kd.freshB (g := gb609) (o := .cells #[.slice Ao12 t599.length co12] 31 (0, 0)) bk_ k_ hk_), (Kd.freshB (g := gb610) (o := .cells #[.slice Ao16 t604.length co16] 31 (0, 0)) bk_ k_ hk_), (Kd.freshB (g := gb622) (o := .cells #[.slice Ao29 t614.length co29] 31 (0, 0)) bk_ k_ hk_), (IsS58.fresh si_ k_ hk_)⟩)) (below_size bl_)); replace HO601 := Aside0.mk (Kd.V_below (pV_ HO601.out) hb); replace HO606 := Aside0.mk (Kd.V_below (pV_ HO606.out) hb); replace HO616 := Aside0.mk (Kd.V_below (pV_ HO616.out) hb); replace HO625 := Aside0.mk (Kd.N_below (pN_ HO625.out) hb); replace HI598 := Aside0.mk (IsS58.below si_ hb); replace BK609 := Aside0.mk (blk_below (g := gb609) (o := .cells #[.slice Ao12 t599.length co12] 31 (0, 0)) bk_ hb); replace BK610 := Aside0.mk (blk_below (g := gb610) (o := .cells #[.slice Ao16 t604.length co16] 31 (0, 0)) bk_ hb); replace BK622 := Aside0.mk (blk_below (g := gb622) (o := .cells #[.slice Ao29 t614.length co29] 31 (0, 0)) bk_ hb); replace HB := Aside0.mk (below_step bl_ hb); (try clear hb); (try clear hb2); (try clear hk); (try clear hi); (try clear ho0); obtain ⟨Ao40, co40, eo40⟩ := Kd.V_slice HO628.out; subst eo40; have hnb41 := NB609_610.out; have hnc41 := NB610_609.out; have hnb42 := NB609_598.out; have hnc42 := NB598_609.out; obtain ⟨hcz43_0, hfz43_0⟩ := cf1_ BK609.out) | ((with_reducible refine gate_store (t := 31) (p := 4) rfl ?_); refine store_event (t := 31) (p := 4) (v := ?vo_w44) (w1 := (w39.setCell ⟨gb609, 0, none⟩ (.slice Ao40 t626.length co40))) ?hg ?ho ?hn ?hr ?_; (case ho => rfl); (case hg => rfl); (case hn => rfl); (case hr => first | (go_simp; done) | (go_simp; rfl)); intro w44 hw; replace HO601 : Aside0 (Kd.V k60 60 w44 w.heap.size (fun k_ => some k_ ≠ (.slice Ao38 y623.length co38 : Value).ownBlock ∧ k_ ≠ g598 ∧ k_ ≠ gb609 ∧ k_ ≠ gb610 ∧ k_ ≠ gb622) (.slice Ao12 t599.length co12) t599) := ⟨(by rw [hw]; exact (by (with_reducible repeat (first | apply Kd.V_alloc | apply Kd.V_drewN | apply Kd.V_drew)); exact Kd.V_mono (Kd.V_far (p := ⟨gb609, 0, none⟩) (Kd.V_mono HO601.out (fun k_ hk => (⟨hk, by first | exact hk.1.2.1 | exact hk.1 | exact hk.2 | exact hk.1.1 | exact hk.1.2⟩ : _ ∧ k_ ≠ gb609))) (fun _ hk => hk.2) (.slice Ao40 t626.length co40)) (fun _ hk => ⟨hk.1.2, ⟨hk.1.1.1, ⟨hk.1.1.2.1, ⟨hk.1.1.2.2.1, hk.1.1.2.2.2⟩⟩⟩⟩)))⟩; replace HO606 : Aside0 (Kd.V k60 60 w44 w.heap.size (fun k_ => some k_ ≠ (.slice Ao38 y623.length co38 : Value).ownBlock ∧ k_ ≠ g598 ∧ k_ ≠ gb609 ∧ k_ ≠ gb610 ∧ k_ ≠ gb622) (.slice Ao16 t604.length co16) t604) := ⟨(by rw [hw]; exact (by (with_reducible repeat (first | apply Kd.V_alloc | apply Kd.V_drewN | apply Kd.V_drew)); exact Kd.V_mono (Kd.V_far (p := ⟨gb609, 0, none⟩) (Kd.V_mono HO606.out (fun k_ hk => (⟨hk, by first | exact hk.1.2.1 | exact hk.1 | exact hk.2 | exact hk.1.1 | exact hk.1.2⟩ : _ ∧ k_ ≠ gb609))) (fun _ hk => hk.2) (.slice Ao40 t626.length co40)) (fun _ hk => ⟨hk.1.2, ⟨hk.1.1.1, ⟨hk.1.1.2.1, ⟨hk.1.1.2.2.1, hk.1.1.2.2.2⟩⟩⟩⟩)))⟩; replace HO616 : Aside0 (Kd.V k60 60 w44 w.heap.size (fun k_ => some k_ ≠ (.slice Ao38 y623.length co38 : Value).ownBlock ∧ k_ ≠ gb609 ∧ k_ ≠ gb610 ∧ k_ ≠ g598 ∧ k_ ≠ gb622) (.slice Ao29 t614.length co29) t614) := ⟨(by rw [hw]; exact (by (with_reducible repeat (first | apply Kd.V_alloc | apply Kd.V_drewN | apply Kd.V_drew)); exact Kd.V_mono (Kd.V_far (p := ⟨gb609, 0, none⟩) (Kd.V_mono HO616.out (fun k_ hk => (⟨hk, by first | exact hk.1.1 | exact hk.1 | exact hk.2 | exact hk.1.1 | exact hk.1.2⟩ : _ ∧ k_ ≠ gb609))) (fun _ hk => hk.2) (.slice Ao40 t626.length co40)) (fun _ hk => ⟨hk.1.2, ⟨hk.1.1.1, ⟨hk.1.1.2.1, ⟨hk.1.1.2.2.1, hk.1.1.2.2.2⟩⟩⟩⟩)))⟩; replace HO625 : Aside0 (Kd.N k31 31 w44 w.heap.size (fun k_ => k_ ≠ gb609 ∧ k_ ≠ gb610 ∧ k_ ≠ gb622 ∧ k_ ≠ g598) (.slice Ao38 y623.length co38) y623) := ⟨(by rw [hw]; exact (by (with_reducible repeat (first | apply Kd.N_alloc | apply Kd.N_drewN | apply Kd.N_drew)); exact Kd.N_mono (Kd.N_far (p := ⟨gb609, 0, none⟩) (Kd.N_mono HO625.out (fun k_ hk => (⟨hk, by first | exact hk.1 | exact hk.1 | exact hk.2 | exact hk.1.1 | exact hk.1.2⟩ : _ ∧ k_ ≠ gb609))) (fun _ hk => hk.2) (.slice Ao40 t626.length co40)) (fun _ hk => ⟨hk.1.1, ⟨hk.1.2.1, ⟨hk.1.2.2.1, hk.1.2.2.2⟩⟩⟩)))⟩; replace HO628 : Aside0 (Kd.V k60 60 w44 w.heap.size (fun k_ => some k_ ≠ (.slice Ao38 y623.length co38 : Value).ownBlock ∧ k_ ≠ gb609 ∧ k_ ≠ gb610 ∧ k_ ≠ gb622 ∧ k_ ≠ g598) (.slice Ao40 t626.length co40) t626) := ⟨(by rw [hw]; exact (by (with_reducible repeat (first | apply Kd.V_alloc | apply Kd.V_drewN | apply Kd.V_drew)); exact Kd.V_mono (Kd.V_far (p := ⟨gb609, 0, none⟩) (Kd.V_mono HO628.out (fun k_ hk => (⟨hk, by first | exact hk.2.1 | exact hk.1 | exact hk.2 | exact hk.1.1 | exact hk.1.2⟩ : _ ∧ k_ ≠ gb609))) (fun _ hk => hk.2) (.slice Ao40 t626.length co40)) (fun _ hk => ⟨hk.1.1, ⟨hk.1.2.1, ⟨hk.1.2.2.1, ⟨hk.1.2.2.2.1, hk.1.2.2.2.2⟩⟩⟩⟩)))⟩; replace BK609 : Aside0 (w44.heap[gb609]? = some (.cells #[.slice Ao40 t626.length co40] 31 (0, 0))) := ⟨(by rw [hw]; exact (by (with_reducible repeat (first | refine blk_drewN ?_ _ | refine blk_drew ?_ | refine blk_alloc ?_ _)); refine blk_put (cs := #[.slice Ao12 t599.length co12]) ?_ 0 _ rfl; (with_reducible repeat (first | refine blk_drewN ?_ _ | refine blk_drew ?_ | refine blk_alloc ?_ _)); exact BK609.out))⟩; replace BK610 : Aside0 (w44.heap[gb610]? = some (.cells #[.slice Ao16 t604.length co16] 31 (0, 0))) := ⟨(by rw [hw]; exact (by (with_reducible repeat (first | refine blk_drewN ?_ _ | refine blk_drew ?_ | refine blk_alloc ?_ _)); refine blk_far ?_ NB610_609.out _; (with_reducible repeat (first | refine blk_drewN ?_ _ | refine blk_drew ?_ | refine blk_alloc ?_ _)); exact BK610.out))⟩; replace BK622 : Aside0 (w44.heap[gb622]? = some (.cells #[.slice Ao29 t614.length co29] 31 (0, 0))) := ⟨(by rw [hw]; exact (by (with_reducible repeat (first | refine blk_drewN ?_ _ | refine blk_drew ?_ | refine blk_alloc ?_ _)); refine blk_far ?_ NB622_609.out _; (with_reducible repeat (first | refine blk_drewN ?_ _ | refine blk_drew ?_ | refine blk_alloc ?_ _)); exact BK622.out))⟩; replace HI598 : Aside0 (IsS58 w w44 g598 t595 t620 t621) := ⟨(by rw [hw]; exact si_)⟩; replace HB : Aside0 (Below w.heap.size w w44) := ⟨(by rw [hw]; exact bl_)⟩; clear hw; obtain ⟨hcz45_0, hfz45_0⟩ := cf1_ BK622.out; have hnb46 := NB610_598.out; have hnc46 := NB598_610.out; obtain ⟨hcz47_0, hfz47_0⟩ := cf1_ BK610.out) | ((with_reducible refine gate_store (t := 31) (p := 5) rfl ?_); refine store_event (t := 31) (p := 5) (v := ?vo_w48) (w1 := (w44.setCell ⟨gb610, 0, none⟩ (.slice Ao29 t614.length co29))) ?hg ?ho ?hn ?hr ?_; (case ho => rfl); (case hg => rfl); (case hn => rfl); (case hr => first | (go_simp; done) | (go_simp; rfl)); intro w48 hw; replace HO601 : Aside0 (Kd.V k60 60 w48 w.heap.size (fun k_ => some k_ ≠ (.slice Ao38 y623.length co38 : Value).ownBlock ∧ k_ ≠ g598 ∧ k_ ≠ gb609 ∧ k_ ≠ gb610 ∧ k_ ≠ gb622) (.slice Ao12 t599.length co12) t599) := ⟨(by rw [hw]; exact (by (with_reducible repeat (first | apply Kd.V_alloc | apply Kd.V_drewN | apply Kd.V_drew)); exact Kd.V_mono (Kd.V_far (p := ⟨gb610, 0, none⟩) (Kd.V_mono HO601.out (fun k_ hk => (⟨hk, by first | exact hk.2.2.2.1 | exact hk.1 | exact hk.2 | exact hk.1.1 | exact hk.1.2⟩ : _ ∧ k_ ≠ gb610))) (fun _ hk => hk.2) (.slice Ao29 t614.length co29)) (fun _ hk => ⟨hk.1.1, ⟨hk.1.2.1, ⟨hk.1.2.2.1, ⟨hk.1.2.2.2.1, hk.1.2.2.2.2⟩⟩⟩⟩)))⟩; replace HO606 : Aside0 (Kd.V k60 60 w48 w.heap.size (fun k_ => some k_ ≠ (.slice Ao38 y623.length co38 : Value).ownBlock ∧ k_ ≠ g598 ∧ k_ ≠ gb609 ∧ k_ ≠ gb610 ∧ k_ ≠ gb622) (.slice Ao16 t604.length co16) t604) := ⟨(by rw [hw]; exact (by (with_reducible repeat (first | apply Kd.V_alloc | apply Kd.V_drewN | apply Kd.V_drew)); exact Kd.V_mono (Kd.V_far (p := ⟨gb610, 0, none⟩) (Kd.V_mono HO606.out (fun k_ hk => (⟨hk, by first | exact hk.2.2.2.1 | exact hk.1 | exact hk.2 | exact hk.1.1 | exact hk.1.2⟩ : _ ∧ k_ ≠ gb610))) (fun _ hk => hk.2) (.slice Ao29 t614.length co29)) (fun _ hk => ⟨hk.1.1, ⟨hk.1.2.1, ⟨hk.1.2.2.1, ⟨hk.1.2.2.2.1, hk.1.2.2.2.2⟩⟩⟩⟩)))⟩; replace HO616 : Aside0 (Kd.V k60 60 w48 w.heap.size (fun k_ => some k_ ≠ (.slice Ao38 y623.length co38 : Value).ownBlock ∧ k_ ≠ gb609 ∧ k_ ≠ gb610 ∧ k_ ≠ g598 ∧ k_ ≠ gb622) (.slice Ao29 t614.length co29) t614) := ⟨(by rw [hw]; exact (by (with_reducible repeat (first | apply Kd.V_alloc | apply Kd.V_drewN | apply Kd.V_drew)); exact Kd.V_mono (Kd.V_far (p := ⟨gb610, 0, none⟩) (Kd.V_mono HO616.out (fun k_ hk => (⟨hk, by first | exact hk.2.2.1 | exact hk.1 | exact hk.2 | exact hk.1.1 | exact hk.1.2⟩ : _ ∧ k_ ≠ gb610))) (fun _ hk => hk.2) (.slice Ao29 t614.length co29)) (fun _ hk => ⟨hk.1.1, ⟨hk.1.2.1, ⟨hk.1.2.2.1, ⟨hk.1.2.2.2.1, hk.1.2.2.2.2⟩⟩⟩⟩)))⟩; replace HO625 : Aside0 (Kd.N k31 31 w48 w.heap.size (fun k_ => k_ ≠ gb609 ∧ k_ ≠ gb610 ∧ k_ ≠ gb622 ∧ k_ ≠ g598) (.slice Ao38 y623.length co38) y623) := ⟨(by rw [hw]; exact (by (with_reducible repeat (first | apply Kd.N_alloc | apply Kd.N_drewN | apply Kd.N_drew)); exact Kd.N_mono (Kd.N_far (p := ⟨gb610, 0, none⟩) (Kd.N_mono HO625.out (fun k_ hk => (⟨hk, by first | exact hk.2.1 | exact hk.1 | exact hk.2 | exact hk.1.1 | exact hk.1.2⟩ : _ ∧ k_ ≠ gb610))) (fun _ hk => hk.2) (.slice Ao29 t614.length co29)) (fun _ hk => ⟨hk.1.1, ⟨hk.1.2.1, ⟨hk.1.2.2.1, hk.1.2.2.2⟩⟩⟩)))⟩; replace HO628 : Aside0 (Kd.V k60 60 w48 w.heap.size (fun k_ => some k_ ≠ (.slice Ao38 y623.length co38 : Value).ownBlock ∧ k_ ≠ gb609 ∧ k_ ≠ gb610 ∧ k_ ≠ gb622 ∧ k_ ≠ g598) (.slice Ao40 t626.length co40) t626) := ⟨(by rw [hw]; exact (by (with_reducible repeat (first | apply Kd.V_alloc | apply Kd.V_drewN | apply Kd.V_drew)); exact Kd.V_mono (Kd.V_far (p := ⟨gb610, 0, none⟩) (Kd.V_mono HO628.out (fun k_ hk => (⟨hk, by first | exact hk.2.2.1 | exact hk.1 | exact hk.2 | exact hk.1.1 | exact hk.1.2⟩ : _ ∧ k_ ≠ gb610))) (fun _ hk => hk.2) (.slice Ao29 t614.length co29)) (fun _ hk => ⟨hk.1.1, ⟨hk.1.2.1, ⟨hk.1.2.2.1, ⟨hk.1.2.2.2.1, hk.1.2.2.2.2⟩⟩⟩⟩)))⟩; replace BK609 : Aside0 (w48.heap[gb609]? = some (.cells #[.slice Ao40 t626.length co40] 31 (0, 0))) := ⟨(by rw [hw]; exact (by (with_reducible repeat (first | refine blk_drewN ?_ _ | refine blk_drew ?_ | refine blk_alloc ?_ _)); refine blk_far ?_ NB609_610.out _; (with_reducible repeat (first | refine blk_drewN ?_ _ | refine blk_drew ?_ | refine blk_alloc ?_ _)); exact BK609.out))⟩; replace BK610 : Aside0 (w48.heap[gb610]? = some (.cells #[.slice Ao29 t614.length co29] 31 (0, 0))) := ⟨(by rw [hw]; exact (by (with_reducible repeat (first | refine blk_drewN ?_ _ | refine blk_drew ?_ | refine blk_alloc ?_ _)); refine blk_put (cs := #[.slice Ao16 t604.length co16]) ?_ 0 _ rfl; (with_reducible repeat (first | refine blk_drewN ?_ _ | refine blk_drew ?_ | refine blk_alloc ?_ _)); exact BK610.out))⟩; replace BK622 : Aside0 (w48.heap[gb622]? = some (.cells #[.slice Ao29 t614.length co29] 31 (0, 0))) := ⟨(by rw [hw]; exact (by (with_reducible repeat (first | refine blk_drewN ?_ _ | refine blk_drew ?_ | refine blk_alloc ?_ _)); refine blk_far ?_ NB622_610.out _; (with_reducible repeat (first | refine blk_drewN ?_ _ | refine blk_drew ?_ | refine blk_alloc ?_ _)); exact BK622.out))⟩; replace HI598 : Aside0 (IsS58 w w48 g598 t595 t620 t621) := ⟨(by rw [hw]; exact si_)⟩; replace HB : Aside0 (Below w.heap.size w w48) := ⟨(by rw [hw]; exact bl_)⟩; clear hw; obtain ⟨hcz49_0, hfz49_0⟩ := cf1_ BK622.out; obtain ⟨hcz50_0, hfz50_0⟩ := cf1_ BK610.out) | ((with_reducible refine gate_dst (N := 41) rfl ?_); refine Kd.N_lit k31 _ 31 ?hg (N' := 41) ?hd (xs := ([(⟨t614⟩ : S31), (⟨t614⟩ : S31)] : List (S31))) (inner := [.slice Ao29 t614.length co29, .slice Ao29 t614.length co29]) (ok := (fun k_ => some k_ ≠ (.slice Ao38 y623.length co38 : Value).ownBlock ∧ k_ ≠ gb609 ∧ k_ ≠ gb610 ∧ k_ ≠ gb622 ∧ k_ ≠ g598)) (okp := (fun k_ => some k_ ≠ (.slice Ao38 y623.length co38 : Value).ownBlock ∧ k_ ≠ gb609 ∧ k_ ≠ gb610 ∧ k_ ≠ gb622 ∧ k_ ≠ g598)) ?hr ?hp (fun _ hk => hk) ((show ∀ k_, w48.heap.size ≤ k_ → (fun k_ => some k_ ≠ (.slice Ao38 y623.length co38 : Value).ownBlock ∧ k_ ≠ gb609 ∧ k_ ≠ gb610 ∧ k_ ≠ gb622 ∧ k_ ≠ g598) k_ from fun k_ hk => ⟨Kd.fresh' (Kd.N_lt (pN_ HO625.out)) k_ hk, Kd.freshB (g := gb609) (o := .cells #[.slice Ao40 t626.length co40] 31 (0, 0)) bk_ k_ hk, Kd.freshB (g := gb610) (o := .cells #[.slice Ao29 t614.length co29] 31 (0, 0)) bk_ k_ hk, Kd.freshB (g := gb622) (o := .cells #[.slice Ao29 t614.length co29] 31 (0, 0)) bk_ k_ hk, IsS58.fresh si_ k_ hk⟩) _ (Nat.le_refl _)) (Below.refl _ _) (Nat.le_refl _) (by simp) ?_; (case hd => rfl); (case hg => rfl); (case hr => first | (go_simp; done) | (go_simp; rfl)); (case hp => exact (Reps.one (show Kd.FK k31 _ _ (⟨t614⟩ : S31) [.slice Ao29 t614.length co29] from (k31_mkF _ _ (⟨t614⟩ : S31) (Kd.V_reads' (Kd.V_mono (ok' := (fun k_ => some k_ ≠ (.slice Ao38 y623.length co38 : Value).ownBlock ∧ k_ ≠ gb609 ∧ k_ ≠ gb610 ∧ k_ ≠ gb622 ∧ k_ ≠ g598)) (HO616.out) (fun k_ hk => ⟨hk.1, ⟨hk.2.1, ⟨hk.2.2.1, ⟨hk.2.2.2.2, hk.2.2.2.1⟩⟩⟩⟩))).2.1 (Kd.V_F (Kd.V_mono (ok' := (fun k_ => some k_ ≠ (.slice Ao38 y623.length co38 : Value).ownBlock ∧ k_ ≠ gb609 ∧ k_ ≠ gb610 ∧ k_ ≠ gb622 ∧ k_ ≠ g598)) (HO616.out) (fun k_ hk => ⟨hk.1, ⟨hk.2.1, ⟨hk.2.2.1, ⟨hk.2.2.2.2, hk.2.2.2.1⟩⟩⟩⟩))))) (Reps.one (show Kd.FK k31 _ _ (⟨t614⟩ : S31) [.slice Ao29 t614.length co29] from (k31_mkF _ _ (⟨t614⟩ : S31) (Kd.V_reads' (Kd.V_mono (ok' := (fun k_ => some k_ ≠ (.slice Ao38 y623.length co38 : Value).ownBlock ∧ k_ ≠ gb609 ∧ k_ ≠ gb610 ∧ k_ ≠ gb622 ∧ k_ ≠ g598)) (HO616.out) (fun k_ hk => ⟨hk.1, ⟨hk.2.1, ⟨hk.2.2.1, ⟨hk.2.2.2.2, hk.2.2.2.1⟩⟩⟩⟩))).2.1 (Kd.V_F (Kd.V_mono (ok' := (fun k_ => some k_ ≠ (.slice Ao38 y623.length co38 : Value).ownBlock ∧ k_ ≠ gb609 ∧ k_ ≠ gb610 ∧ k_ ≠ gb622 ∧ k_ ≠ g598)) (HO616.out) (fun k_ hk => ⟨hk.1, ⟨hk.2.1, ⟨hk.2.2.1, ⟨hk.2.2.2.2, hk.2.2.2.1⟩⟩⟩⟩))))) (Reps.none _ _)))); intro v631 w51 ho52 hb hg_ hnew_; clear hg_ hnew_; (first | rw [← Ny630.out] at ho52 | (simp only [Int.reduceToNat] at ho52; rw [← Ny630.out] at ho52)); have HO632 := Aside0.mk (Kd.N_lower ho52 (below_size bl_)); replace HO601 := Aside0.mk (Kd.V_elder' (pV_ HO601.out) (by first | exact Kd.N_base ho52 | exact Kd.R_base ho52 | exact Kd.N_base (Kd.S_N ho52)) hb); replace HO606 := Aside0.mk (Kd.V_elder' (pV_ HO606.out) (by first | exact Kd.N_base ho52 | exact Kd.R_base ho52 | exact Kd.N_base (Kd.S_N ho52)) hb); replace HO616 := Aside0.mk (Kd.V_elder' (pV_ HO616.out) (by first | exact Kd.N_base ho52 | exact Kd.R_base ho52 | exact Kd.N_base (Kd.S_N ho52)) hb); replace HO625 := Aside0.mk (Kd.N_elder' (pN_ HO625.out) (by first | exact Kd.N_base ho52 | exact Kd.R_base ho52 | exact Kd.N_base (Kd.S_N ho52)) hb); replace HO628 := Aside0.mk (Kd.V_elder' (pV_ HO628.out) (by first | exact Kd.N_base ho52 | exact Kd.R_base ho52 | exact Kd.N_base (Kd.S_N ho52)) hb); replace HI598 := Aside0.mk (IsS58.below si_ hb); replace BK609 := Aside0.mk (blk_below (g := gb609) (o := .cells #[.slice Ao40 t626.length co40] 31 (0, 0)) bk_ hb); replace BK610 := Aside0.mk (blk_below (g := gb610) (o := .cells #[.slice Ao29 t614.length co29] 31 (0, 0)) bk_ hb); replace BK622 := Aside0.mk (blk_below (g := gb622) (o := .cells #[.slice Ao29 t614.length co29] 31 (0, 0)) bk_ hb); replace HB := Aside0.mk (below_step bl_ hb); clear hb ho52; obtain ⟨Ao53, co53, eo53⟩ := Kd.N_slice HO632.out; subst eo53) | ((with_reducible refine gate_callee (f := 34) rfl ?_); refine goesL_ (some 42) rfl rfl Tryd.func34 (by kernel_rfl) rfl #[.int .i64 0, .slice Ao53 y630.length co53] rfl (by (try simp only [List.map_toArray, List.map_cons, List.map_nil]); first | done | rfl | (simp only [List.length_drop, List.length_take]; rfl)) ?_; (with_reducible refine (diagram_Branch.calls 0 _ _ y630 t633 t636 _ ?side1 ?side2 A25.out ?tab).mono ?_); (case tab => exact ptab HTAB.out bl_); (case side1 => repeat (first | exact (Kd.N_reads' HO632.out).2.2 | (with_reducible refine Kd.C_alloc ?_ _) | (with_reducible refine Kd.C_drewN ?_ _) | (with_reducible refine Kd.C_drew ?_))); (case side2 => exact (Kd.N_reads' HO632.out).2.1); rintro e w54 ⟨v634, rfl, ho0, hb⟩; refine ⟨_, rfl, ?_⟩; have HO635 := Aside0.mk (Kd.V_lower (Kd.V_mono (ok' := fun k_ => some k_ ≠ (.slice Ao38 y623.length co38 : Value).ownBlock ∧ some k_ ≠ (.slice Ao53 y630.length co53 : Value).ownBlock ∧ k_ ≠ gb609 ∧ k_ ≠ gb610 ∧ k_ ≠ gb622 ∧ k_ ≠ g598) ho0 (fun k_ hk_ => ⟨(Kd.fresh' (Kd.N_lt (pN_ HO625.out)) k_ hk_), (Kd.fresh' (Kd.N_lt (pN_ HO632.out)) k_ hk_), (Kd.freshB (g := gb609) (o := .cells #[.slice Ao40 t626.length co40] 31 (0, 0)) bk_ k_ hk_), (Kd.freshB (g := gb610) (o := .cells #[.slice Ao29 t614.length co29] 31 (0, 0)) bk_ k_ hk_), (Kd.freshB (g := gb622) (o := .cells #[.slice Ao29 t614.length co29] 31 (0, 0)) bk_ k_ hk_), (IsS58.fresh si_ k_ hk_)⟩)) (below_size bl_)); replace HO601 := Aside0.mk (Kd.V_below (pV_ HO601.out) hb); replace HO606 := Aside0.mk (Kd.V_below (pV_ HO606.out) hb); replace HO616 := Aside0.mk (Kd.V_below (pV_ HO616.out) hb); replace HO625 := Aside0.mk (Kd.N_below (pN_ HO625.out) hb); replace HO628 := Aside0.mk (Kd.V_below (pV_ HO628.out) hb); replace HO632 := Aside0.mk (Kd.N_below (pN_ HO632.out) hb); replace HI598 := Aside0.mk (IsS58.below si_ hb); replace BK609 := Aside0.mk (blk_below (g := gb609) (o := .cells #[.slice Ao40 t626.length co40] 31 (0, 0)) bk_ hb); replace BK610 := Aside0.mk (blk_below (g := gb610) (o := .cells #[.slice Ao29 t614.length co29] 31 (0, 0)) bk_ hb); replace BK622 := Aside0.mk (blk_below (g := gb622) (o := .cells #[.slice Ao29 t614.length co29] 31 (0, 0)) bk_ hb); replace HB := Aside0.mk (below_step bl_ hb); (try clear hb); (try clear hb2); (try clear hk); (try clear hi); (try clear ho0); obtain ⟨Ao55, co55, eo55⟩ := Kd.V_slice HO635.out; subst eo55; obtain ⟨hcz56_0, hfz56_0⟩ := cf1_ BK610.out))
    go_meet
    case rel => exact ⟨_, (t626), (t633), (.slice Ao40 t626.length co40), (.slice Ao55 t633.length co55), H', ⟨by first | omega | exact Nat.le_refl _⟩, ⟨by (with_reducible repeat (first | apply Kd.V_alloc | apply Kd.V_drewN | apply Kd.V_drew)); exact Kd.V_mono (Kd.V_far (p := ⟨gb610, 0, none⟩) (Kd.V_mono HO628.out (fun k_ hk => (⟨hk, by first | exact hk.1.2.2.1 | exact hk.1 | exact hk.2 | exact hk.1.1 | exact hk.1.2⟩ : _ ∧ k_ ≠ gb610))) (fun _ hk => hk.2) (.slice Ao55 t633.length co55)) (fun _ hk => ⟨hk.1.1.2.1, hk.1.1.2.2.1⟩)⟩, ⟨by (with_reducible repeat (first | apply Kd.V_alloc | apply Kd.V_drewN | apply Kd.V_drew)); exact Kd.V_mono (Kd.V_far (p := ⟨gb610, 0, none⟩) (Kd.V_mono HO635.out (fun k_ hk => (⟨hk, by first | exact hk.2.2.2.1 | exact hk.1 | exact hk.2 | exact hk.1.1 | exact hk.1.2⟩ : _ ∧ k_ ≠ gb610))) (fun _ hk => hk.2) (.slice Ao55 t633.length co55)) (fun _ hk => ⟨hk.1.2.2.1, hk.1.2.2.2.1⟩)⟩, ⟨by (with_reducible repeat (first | refine blk_drewN ?_ _ | refine blk_drew ?_ | refine blk_alloc ?_ _)); refine blk_far ?_ NB609_610.out _; (with_reducible repeat (first | refine blk_drewN ?_ _ | refine blk_drew ?_ | refine blk_alloc ?_ _)); exact BK609.out⟩, ⟨by (with_reducible repeat (first | refine blk_drewN ?_ _ | refine blk_drew ?_ | refine blk_alloc ?_ _)); refine blk_put (cs := #[.slice Ao29 t614.length co29]) ?_ 0 _ rfl; (with_reducible repeat (first | refine blk_drewN ?_ _ | refine blk_drew ?_ | refine blk_alloc ?_ _)); exact BK610.out⟩, ⟨bl_⟩⟩
   ·rw [if_neg c24] at H
    have c24b0 : (t619 == 0) = false := beq_eq_false_iff_ne.mpr c24
    have c24b1 : (t619 != 0) = true := bne_iff_ne.mpr c24
    have H' := Aside0.mk H
    clear H
    go_wp2_with (first | ((with_reducible refine gate_callee (f := 22) rfl ?_); refine goesL_ (some 25) rfl rfl Tryd.func22 (by kernel_rfl) rfl #[.pointer (some ⟨g598, 0, none⟩), .int .i64 1, .int .i64 2] rfl (by (try simp only [List.map_toArray, List.map_cons, List.map_nil]); first | done | rfl | (simp only [List.length_drop, List.length_take]; rfl)) ?_; (with_reducible refine (exactpplmake_Src_Diagram.calls k g598 t595 t612 t613 1 2 t614 t617 t618 w _ ?side1 ?side2 A21.out).mono ?_); (case side1 => repeat (first | (with_reducible first | exact HI598.out | apply IsS58.alloc | apply IsS58.drewN | apply IsS58.drew | apply IsS58.set_1 | apply IsS58.set_2 | refine IsS58.far ?_ NB598_609.out _ | refine IsS58.far ?_ NB598_610.out _) | exact HI598.out)); (case side2 => repeat (first | (with_reducible first | exact HB.out | apply below_alloc | apply pw_below_drewN | apply below_drew1 | refine below_set ?_ (IsS58.ge HI598.out) | refine below_set ?_ GE609.out | refine below_set ?_ GE610.out) | exact HB.out)); rintro e w57 ⟨v615, rfl, ho0, hi, hb, hk⟩; refine ⟨_, rfl, ?_⟩; have HO616 := Aside0.mk (Kd.V_lower (Kd.V_mono (ok' := fun k_ => k_ ≠ gb609 ∧ k_ ≠ gb610 ∧ k_ ≠ g598) ho0 (fun k_ hk_ => ⟨(Kd.freshB (g := gb609) (o := .cells #[.slice Ao12 t599.length co12] 31 (0, 0)) bk_ k_ hk_), (Kd.freshB (g := gb610) (o := .cells #[.slice Ao16 t604.length co16] 31 (0, 0)) bk_ k_ hk_), (IsS58.fresh si_ k_ hk_)⟩)) (below_size bl_)); replace HO601 := Aside0.mk (Kd.V_mono (Kd.V_keep (Kd.V_mono (ok := fun k_ => ((k_ ≠ g598 ∧ k_ ≠ gb609) ∧ k_ ≠ gb610)) (pV_ HO601.out) (fun k_ hk_ => (⟨hk_, hk_.1.1⟩ : _ ∧ k_ ≠ g598))) hk (fun _ h => h.2)) (fun _ h => h.1)); replace HO606 := Aside0.mk (Kd.V_mono (Kd.V_keep (Kd.V_mono (ok := fun k_ => ((k_ ≠ g598 ∧ k_ ≠ gb609) ∧ k_ ≠ gb610)) (pV_ HO606.out) (fun k_ hk_ => (⟨hk_, hk_.1.1⟩ : _ ∧ k_ ≠ g598))) hk (fun _ h => h.2)) (fun _ h => h.1)); replace BK609 := Aside0.mk (KeepBut.blk hk (g' := gb609) (o := .cells #[.slice Ao12 t599.length co12] 31 (0, 0)) bk_ NB609_598.out (by simp)); replace BK610 := Aside0.mk (KeepBut.blk hk (g' := gb610) (o := .cells #[.slice Ao16 t604.length co16] 31 (0, 0)) bk_ NB610_598.out (by simp)); replace HB := Aside0.mk (hb); replace HI598 := Aside0.mk (hi); (try clear hb); (try clear hb2); (try clear hk); (try clear hi); (try clear ho0)) | ((with_reducible refine gate_callee (f := 23) rfl ?_); refine goesL_ (some 27) rfl rfl Tryd.func23 (by kernel_rfl) rfl #[.pointer (some ⟨g598, 0, none⟩), .int .i64 2] rfl (by (try simp only [List.map_toArray, List.map_cons, List.map_nil]); first | done | rfl | (simp only [List.length_drop, List.length_take]; rfl)) ?_; (with_reducible refine (exactpplmake_Src_N.calls g598 t595 t617 t618 2 t619 t620 t621 w _ ?side1 ?side2 A22.out).mono ?_); (case side1 => repeat (first | (with_reducible first | exact HI598.out | apply IsS58.alloc | apply IsS58.drewN | apply IsS58.drew | apply IsS58.set_1 | apply IsS58.set_2 | refine IsS58.far ?_ NB598_609.out _ | refine IsS58.far ?_ NB598_610.out _) | exact HI598.out)); (case side2 => repeat (first | (with_reducible first | exact HB.out | apply below_alloc | apply pw_below_drewN | apply below_drew1 | refine below_set ?_ (IsS58.ge HI598.out) | refine below_set ?_ GE609.out | refine below_set ?_ GE610.out) | exact HB.out)); rintro e w58 ⟨rfl, hi, hb, hk⟩; refine ⟨_, rfl, ?_⟩; replace HO601 := Aside0.mk (Kd.V_mono (Kd.V_keep (Kd.V_mono (ok := fun k_ => ((k_ ≠ g598 ∧ k_ ≠ gb609) ∧ k_ ≠ gb610)) (pV_ HO601.out) (fun k_ hk_ => (⟨hk_, hk_.1.1⟩ : _ ∧ k_ ≠ g598))) hk (fun _ h => h.2)) (fun _ h => h.1)); replace HO606 := Aside0.mk (Kd.V_mono (Kd.V_keep (Kd.V_mono (ok := fun k_ => ((k_ ≠ g598 ∧ k_ ≠ gb609) ∧ k_ ≠ gb610)) (pV_ HO606.out) (fun k_ hk_ => (⟨hk_, hk_.1.1⟩ : _ ∧ k_ ≠ g598))) hk (fun _ h => h.2)) (fun _ h => h.1)); replace BK609 := Aside0.mk (KeepBut.blk hk (g' := gb609) (o := .cells #[.slice Ao12 t599.length co12] 31 (0, 0)) bk_ NB609_598.out (by simp)); replace BK610 := Aside0.mk (KeepBut.blk hk (g' := gb610) (o := .cells #[.slice Ao16 t604.length co16] 31 (0, 0)) bk_ NB610_598.out (by simp)); replace HO616 := Aside0.mk (Kd.V_mono (Kd.V_keep (Kd.V_mono (ok := fun k_ => (k_ ≠ gb609 ∧ (k_ ≠ gb610 ∧ k_ ≠ g598))) (pV_ HO616.out) (fun k_ hk_ => (⟨hk_, hk_.2.2⟩ : _ ∧ k_ ≠ g598))) hk (fun _ h => h.2)) (fun _ h => h.1)); replace HB := Aside0.mk (hb); replace HI598 := Aside0.mk (hi); (try clear hb); (try clear hb2); (try clear hk); (try clear hi)) | ((with_reducible refine gate_dst (N := 6) rfl ?_); refine box_event ?hg (N := 6) ?hd (cs := #[.slice none 0 0]) (t := 31) ?hr ?_; (case hd => rfl); (case hg => rfl); (case hr => first | (go_simp; done) | (go_simp; rfl)); intro gb622 hg w59 hbox hb; have BK622 := Aside0.mk (hbox); have GW622 : Aside0 (w.heap.size ≤ gb622) := gw_ hg (below_size bl_); have GE622 := GW622; have NB609_622 := Aside0.mk ((by rw [hg]; exact Nat.ne_of_lt (blk_lt (g := gb609) (o := .cells #[.slice Ao12 t599.length co12] 31 (0, 0)) bk_) : gb609 ≠ gb622)); have NB622_609 := Aside0.mk ((by rw [hg]; exact Nat.ne_of_gt (blk_lt (g := gb609) (o := .cells #[.slice Ao12 t599.length co12] 31 (0, 0)) bk_) : gb622 ≠ gb609)); have NB610_622 := Aside0.mk ((by rw [hg]; exact Nat.ne_of_lt (blk_lt (g := gb610) (o := .cells #[.slice Ao16 t604.length co16] 31 (0, 0)) bk_) : gb610 ≠ gb622)); have NB622_610 := Aside0.mk ((by rw [hg]; exact Nat.ne_of_gt (blk_lt (g := gb610) (o := .cells #[.slice Ao16 t604.length co16] 31 (0, 0)) bk_) : gb622 ≠ gb610)); have NB598_622 := Aside0.mk ((by rw [hg]; exact Nat.ne_of_lt (IsS58.lt (show IsS58 w _ g598 t595 t620 t621 from si_)) : g598 ≠ gb622)); have NB622_598 := Aside0.mk ((by rw [hg]; exact Nat.ne_of_gt (IsS58.lt (show IsS58 w _ g598 t595 t620 t621 from si_)) : gb622 ≠ g598)); replace HO601 := Aside0.mk (Kd.V_below (Kd.V_elderB (pV_ HO601.out) gb622 (Nat.le_of_eq hg.symm)) hb); replace HO606 := Aside0.mk (Kd.V_below (Kd.V_elderB (pV_ HO606.out) gb622 (Nat.le_of_eq hg.symm)) hb); replace HO616 := Aside0.mk (Kd.V_below (Kd.V_elderB (pV_ HO616.out) gb622 (Nat.le_of_eq hg.symm)) hb); replace HI598 := Aside0.mk (IsS58.below si_ hb); replace BK609 := Aside0.mk (blk_below (g := gb609) (o := .cells #[.slice Ao12 t599.length co12] 31 (0, 0)) bk_ hb); replace BK610 := Aside0.mk (blk_below (g := gb610) (o := .cells #[.slice Ao16 t604.length co16] 31 (0, 0)) bk_ hb); replace HB := Aside0.mk (below_step bl_ hb); clear hb hbox hg; obtain ⟨Ao60, co60, eo60⟩ := Kd.V_slice HO616.out; subst eo60; have hnb61 := NB622_609.out; have hnc61 := NB609_622.out; have hnb62 := NB622_610.out; have hnc62 := NB610_622.out; have hnb63 := NB622_598.out; have hnc63 := NB598_622.out; obtain ⟨hcz64_0, hfz64_0⟩ := cf1_ BK622.out) | ((with_reducible refine gate_store (t := 31) (p := 6) rfl ?_); refine store_event (t := 31) (p := 6) (v := ?vo_w65) (w1 := (w59.setCell ⟨gb622, 0, none⟩ (.slice Ao60 t614.length co60))) ?hg ?ho ?hn ?hr ?_; (case ho => rfl); (case hg => rfl); (case hn => rfl); (case hr => first | (go_simp; done) | (go_simp; rfl)); intro w65 hw; replace HO601 : Aside0 (Kd.V k60 60 w65 w.heap.size (fun k_ => k_ ≠ g598 ∧ k_ ≠ gb609 ∧ k_ ≠ gb610 ∧ k_ ≠ gb622) (.slice Ao12 t599.length co12) t599) := ⟨(by rw [hw]; exact (by (with_reducible repeat (first | apply Kd.V_alloc | apply Kd.V_drewN | apply Kd.V_drew)); exact Kd.V_mono (Kd.V_far (p := ⟨gb622, 0, none⟩) (Kd.V_mono HO601.out (fun k_ hk => (⟨hk, by first | exact hk.2 | exact hk.1 | exact hk.2 | exact hk.1.1 | exact hk.1.2⟩ : _ ∧ k_ ≠ gb622))) (fun _ hk => hk.2) (.slice Ao60 t614.length co60)) (fun _ hk => ⟨hk.1.1.1.1, ⟨hk.1.1.1.2, ⟨hk.1.1.2, hk.1.2⟩⟩⟩)))⟩; replace HO606 : Aside0 (Kd.V k60 60 w65 w.heap.size (fun k_ => k_ ≠ g598 ∧ k_ ≠ gb609 ∧ k_ ≠ gb610 ∧ k_ ≠ gb622) (.slice Ao16 t604.length co16) t604) := ⟨(by rw [hw]; exact (by (with_reducible repeat (first | apply Kd.V_alloc | apply Kd.V_drewN | apply Kd.V_drew)); exact Kd.V_mono (Kd.V_far (p := ⟨gb622, 0, none⟩) (Kd.V_mono HO606.out (fun k_ hk => (⟨hk, by first | exact hk.2 | exact hk.1 | exact hk.2 | exact hk.1.1 | exact hk.1.2⟩ : _ ∧ k_ ≠ gb622))) (fun _ hk => hk.2) (.slice Ao60 t614.length co60)) (fun _ hk => ⟨hk.1.1.1.1, ⟨hk.1.1.1.2, ⟨hk.1.1.2, hk.1.2⟩⟩⟩)))⟩; replace HO616 : Aside0 (Kd.V k60 60 w65 w.heap.size (fun k_ => k_ ≠ gb609 ∧ k_ ≠ gb610 ∧ k_ ≠ g598 ∧ k_ ≠ gb622) (.slice Ao60 t614.length co60) t614) := ⟨(by rw [hw]; exact (by (with_reducible repeat (first | apply Kd.V_alloc | apply Kd.V_drewN | apply Kd.V_drew)); exact Kd.V_mono (Kd.V_far (p := ⟨gb622, 0, none⟩) (Kd.V_mono HO616.out (fun k_ hk => (⟨hk, by first | exact hk.2 | exact hk.1 | exact hk.2 | exact hk.1.1 | exact hk.1.2⟩ : _ ∧ k_ ≠ gb622))) (fun _ hk => hk.2) (.slice Ao60 t614.length co60)) (fun _ hk => ⟨hk.1.1.1, ⟨hk.1.1.2.1, ⟨hk.1.1.2.2, hk.1.2⟩⟩⟩)))⟩; replace BK609 : Aside0 (w65.heap[gb609]? = some (.cells #[.slice Ao12 t599.length co12] 31 (0, 0))) := ⟨(by rw [hw]; exact (by (with_reducible repeat (first | refine blk_drewN ?_ _ | refine blk_drew ?_ | refine blk_alloc ?_ _)); refine blk_far ?_ NB609_622.out _; (with_reducible repeat (first | refine blk_drewN ?_ _ | refine blk_drew ?_ | refine blk_alloc ?_ _)); exact BK609.out))⟩; replace BK610 : Aside0 (w65.heap[gb610]? = some (.cells #[.slice Ao16 t604.length co16] 31 (0, 0))) := ⟨(by rw [hw]; exact (by (with_reducible repeat (first | refine blk_drewN ?_ _ | refine blk_drew ?_ | refine blk_alloc ?_ _)); refine blk_far ?_ NB610_622.out _; (with_reducible repeat (first | refine blk_drewN ?_ _ | refine blk_drew ?_ | refine blk_alloc ?_ _)); exact BK610.out))⟩; replace BK622 : Aside0 (w65.heap[gb622]? = some (.cells #[.slice Ao60 t614.length co60] 31 (0, 0))) := ⟨(by rw [hw]; exact (by (with_reducible repeat (first | refine blk_drewN ?_ _ | refine blk_drew ?_ | refine blk_alloc ?_ _)); refine blk_put (cs := #[.slice none 0 0]) ?_ 0 _ rfl; (with_reducible repeat (first | refine blk_drewN ?_ _ | refine blk_drew ?_ | refine blk_alloc ?_ _)); exact BK622.out))⟩; replace HI598 : Aside0 (IsS58 w w65 g598 t595 t620 t621) := ⟨(by rw [hw]; exact si_)⟩; replace HB : Aside0 (Below w.heap.size w w65) := ⟨(by rw [hw]; exact bl_)⟩; clear hw; obtain ⟨hcz66_0, hfz66_0⟩ := cf1_ BK622.out) | ((with_reducible refine gate_dst (N := 31) rfl ?_); refine Kd.N_lit k31 _ 31 ?hg (N' := 31) ?hd (xs := ([(⟨t614⟩ : S31), (⟨t614⟩ : S31)] : List (S31))) (inner := [.slice Ao60 t614.length co60, .slice Ao60 t614.length co60]) (ok := (fun k_ => k_ ≠ gb609 ∧ k_ ≠ gb610 ∧ k_ ≠ gb622 ∧ k_ ≠ g598)) (okp := (fun k_ => k_ ≠ gb609 ∧ k_ ≠ gb610 ∧ k_ ≠ gb622 ∧ k_ ≠ g598)) ?hr ?hp (fun _ hk => hk) ((show ∀ k_, w65.heap.size ≤ k_ → (fun k_ => k_ ≠ gb609 ∧ k_ ≠ gb610 ∧ k_ ≠ gb622 ∧ k_ ≠ g598) k_ from fun k_ hk => ⟨Kd.freshB (g := gb609) (o := .cells #[.slice Ao12 t599.length co12] 31 (0, 0)) bk_ k_ hk, Kd.freshB (g := gb610) (o := .cells #[.slice Ao16 t604.length co16] 31 (0, 0)) bk_ k_ hk, Kd.freshB (g := gb622) (o := .cells #[.slice Ao60 t614.length co60] 31 (0, 0)) bk_ k_ hk, IsS58.fresh si_ k_ hk⟩) _ (Nat.le_refl _)) (Below.refl _ _) (Nat.le_refl _) (by simp) ?_; (case hd => rfl); (case hg => rfl); (case hr => first | (go_simp; done) | (go_simp; rfl)); (case hp => exact (Reps.one (show Kd.FK k31 _ _ (⟨t614⟩ : S31) [.slice Ao60 t614.length co60] from (k31_mkF _ _ (⟨t614⟩ : S31) (Kd.V_reads' (Kd.V_mono (ok' := (fun k_ => k_ ≠ gb609 ∧ k_ ≠ gb610 ∧ k_ ≠ gb622 ∧ k_ ≠ g598)) (HO616.out) (fun k_ hk => ⟨hk.1, ⟨hk.2.1, ⟨hk.2.2.2, hk.2.2.1⟩⟩⟩))).2.1 (Kd.V_F (Kd.V_mono (ok' := (fun k_ => k_ ≠ gb609 ∧ k_ ≠ gb610 ∧ k_ ≠ gb622 ∧ k_ ≠ g598)) (HO616.out) (fun k_ hk => ⟨hk.1, ⟨hk.2.1, ⟨hk.2.2.2, hk.2.2.1⟩⟩⟩))))) (Reps.one (show Kd.FK k31 _ _ (⟨t614⟩ : S31) [.slice Ao60 t614.length co60] from (k31_mkF _ _ (⟨t614⟩ : S31) (Kd.V_reads' (Kd.V_mono (ok' := (fun k_ => k_ ≠ gb609 ∧ k_ ≠ gb610 ∧ k_ ≠ gb622 ∧ k_ ≠ g598)) (HO616.out) (fun k_ hk => ⟨hk.1, ⟨hk.2.1, ⟨hk.2.2.2, hk.2.2.1⟩⟩⟩))).2.1 (Kd.V_F (Kd.V_mono (ok' := (fun k_ => k_ ≠ gb609 ∧ k_ ≠ gb610 ∧ k_ ≠ gb622 ∧ k_ ≠ g598)) (HO616.out) (fun k_ hk => ⟨hk.1, ⟨hk.2.1, ⟨hk.2.2.2, hk.2.2.1⟩⟩⟩))))) (Reps.none _ _)))); intro v624 w67 ho68 hb hg_ hnew_; clear hg_ hnew_; (first | rw [← Ny623.out] at ho68 | (simp only [Int.reduceToNat] at ho68; rw [← Ny623.out] at ho68)); have HO625 := Aside0.mk (Kd.N_lower ho68 (below_size bl_)); replace HO601 := Aside0.mk (Kd.V_elder' (pV_ HO601.out) (by first | exact Kd.N_base ho68 | exact Kd.R_base ho68 | exact Kd.N_base (Kd.S_N ho68)) hb); replace HO606 := Aside0.mk (Kd.V_elder' (pV_ HO606.out) (by first | exact Kd.N_base ho68 | exact Kd.R_base ho68 | exact Kd.N_base (Kd.S_N ho68)) hb); replace HO616 := Aside0.mk (Kd.V_elder' (pV_ HO616.out) (by first | exact Kd.N_base ho68 | exact Kd.R_base ho68 | exact Kd.N_base (Kd.S_N ho68)) hb); replace HI598 := Aside0.mk (IsS58.below si_ hb); replace BK609 := Aside0.mk (blk_below (g := gb609) (o := .cells #[.slice Ao12 t599.length co12] 31 (0, 0)) bk_ hb); replace BK610 := Aside0.mk (blk_below (g := gb610) (o := .cells #[.slice Ao16 t604.length co16] 31 (0, 0)) bk_ hb); replace BK622 := Aside0.mk (blk_below (g := gb622) (o := .cells #[.slice Ao60 t614.length co60] 31 (0, 0)) bk_ hb); replace HB := Aside0.mk (below_step bl_ hb); clear hb ho68; obtain ⟨Ao69, co69, eo69⟩ := Kd.N_slice HO625.out; subst eo69) | ((with_reducible refine gate_callee (f := 34) rfl ?_); refine goesL_ (some 32) rfl rfl Tryd.func34 (by kernel_rfl) rfl #[.int .i64 0, .slice Ao69 y623.length co69] rfl (by (try simp only [List.map_toArray, List.map_cons, List.map_nil]); first | done | rfl | (simp only [List.length_drop, List.length_take]; rfl)) ?_; (with_reducible refine (diagram_Branch.calls 0 _ _ y623 t626 t629 _ ?side1 ?side2 A23.out ?tab).mono ?_); (case tab => exact ptab HTAB.out bl_); (case side1 => repeat (first | exact (Kd.N_reads' HO625.out).2.2 | (with_reducible refine Kd.C_alloc ?_ _) | (with_reducible refine Kd.C_drewN ?_ _) | (with_reducible refine Kd.C_drew ?_))); (case side2 => exact (Kd.N_reads' HO625.out).2.1); rintro e w70 ⟨v627, rfl, ho0, hb⟩; refine ⟨_, rfl, ?_⟩; have HO628 := Aside0.mk (Kd.V_lower (Kd.V_mono (ok' := fun k_ => some k_ ≠ (.slice Ao69 y623.length co69 : Value).ownBlock ∧ k_ ≠ gb609 ∧ k_ ≠ gb610 ∧ k_ ≠ gb622 ∧ k_ ≠ g598) ho0 (fun k_ hk_ => ⟨(Kd.fresh' (Kd.N_lt (pN_ HO625.out)) k_ hk_), (Kd.freshB (g := gb609) (o := .cells #[.slice Ao12 t599.length co12] 31 (0, 0)) bk_ k_ hk_), (Kd.freshB (g := gb610) (o := .cells #[.slice Ao16 t604.length co16] 31 (0, 0)) bk_ k_ hk_), (Kd.freshB (g := gb622) (o := .cells #[.slice Ao60 t614.length co60] 31 (0, 0)) bk_ k_ hk_), (IsS58.fresh si_ k_ hk_)⟩)) (below_size bl_)); replace HO601 := Aside0.mk (Kd.V_below (pV_ HO601.out) hb); replace HO606 := Aside0.mk (Kd.V_below (pV_ HO606.out) hb); replace HO616 := Aside0.mk (Kd.V_below (pV_ HO616.out) hb); replace HO625 := Aside0.mk (Kd.N_below (pN_ HO625.out) hb); replace HI598 := Aside0.mk (IsS58.below si_ hb); replace BK609 := Aside0.mk (blk_below (g := gb609) (o := .cells #[.slice Ao12 t599.length co12] 31 (0, 0)) bk_ hb); replace BK610 := Aside0.mk (blk_below (g := gb610) (o := .cells #[.slice Ao16 t604.length co16] 31 (0, 0)) bk_ hb); replace BK622 := Aside0.mk (blk_below (g := gb622) (o := .cells #[.slice Ao60 t614.length co60] 31 (0, 0)) bk_ hb); replace HB := Aside0.mk (below_step bl_ hb); (try clear hb); (try clear hb2); (try clear hk); (try clear hi); (try clear ho0); obtain ⟨Ao71, co71, eo71⟩ := Kd.V_slice HO628.out; subst eo71; have hnb72 := NB609_610.out; have hnc72 := NB610_609.out; have hnb73 := NB609_598.out; have hnc73 := NB598_609.out; obtain ⟨hcz74_0, hfz74_0⟩ := cf1_ BK609.out; obtain ⟨hcz75_0, hfz75_0⟩ := cf1_ BK622.out; have hnb76 := NB610_598.out; have hnc76 := NB598_610.out; obtain ⟨hcz77_0, hfz77_0⟩ := cf1_ BK610.out))
    go_meet
    case rel => exact ⟨_, (t626), (t614), (.slice Ao71 t626.length co71), (.slice Ao60 t614.length co60), H', ⟨by first | omega | exact Nat.le_refl _⟩, ⟨by (with_reducible repeat (first | apply Kd.V_alloc | apply Kd.V_drewN | apply Kd.V_drew)); exact Kd.V_mono (Kd.V_far (p := ⟨gb610, 0, none⟩) (Kd.V_far (p := ⟨gb609, 0, none⟩) (Kd.V_mono (Kd.V_mono HO628.out (fun k_ hk => (⟨hk, by first | exact hk.2.1 | exact hk.1 | exact hk.2 | exact hk.1.1 | exact hk.1.2⟩ : _ ∧ k_ ≠ gb609))) (fun k_ hk => (⟨hk, by first | exact hk.1.2.2.1 | exact hk.1 | exact hk.2 | exact hk.1.1 | exact hk.1.2⟩ : _ ∧ k_ ≠ gb610))) (fun _ hk => hk.1.2) (.slice Ao71 t626.length co71)) (fun _ hk => hk.2) (.slice Ao60 t614.length co60)) (fun _ hk => ⟨hk.1.1.2.1, hk.1.1.2.2.1⟩)⟩, ⟨by (with_reducible repeat (first | apply Kd.V_alloc | apply Kd.V_drewN | apply Kd.V_drew)); exact Kd.V_mono (Kd.V_far (p := ⟨gb610, 0, none⟩) (Kd.V_far (p := ⟨gb609, 0, none⟩) (Kd.V_mono (Kd.V_mono HO616.out (fun k_ hk => (⟨hk, by first | exact hk.1.1 | exact hk.1 | exact hk.2 | exact hk.1.1 | exact hk.1.2⟩ : _ ∧ k_ ≠ gb609))) (fun k_ hk => (⟨hk, by first | exact hk.1.1.2.1 | exact hk.1 | exact hk.2 | exact hk.1.1 | exact hk.1.2⟩ : _ ∧ k_ ≠ gb610))) (fun _ hk => hk.1.2) (.slice Ao71 t626.length co71)) (fun _ hk => hk.2) (.slice Ao60 t614.length co60)) (fun _ hk => ⟨hk.1.1.1.1, hk.1.1.1.2.1⟩)⟩, ⟨by (with_reducible repeat (first | refine blk_drewN ?_ _ | refine blk_drew ?_ | refine blk_alloc ?_ _)); refine blk_far ?_ NB609_610.out _; (with_reducible repeat (first | refine blk_drewN ?_ _ | refine blk_drew ?_ | refine blk_alloc ?_ _)); refine blk_put (cs := #[.slice Ao12 t599.length co12]) ?_ 0 _ rfl; (with_reducible repeat (first | refine blk_drewN ?_ _ | refine blk_drew ?_ | refine blk_alloc ?_ _)); exact BK609.out⟩, ⟨by (with_reducible repeat (first | refine blk_drewN ?_ _ | refine blk_drew ?_ | refine blk_alloc ?_ _)); refine blk_put (cs := #[.slice Ao16 t604.length co16]) ?_ 0 _ rfl; (with_reducible repeat (first | refine blk_drewN ?_ _ | refine blk_drew ?_ | refine blk_alloc ?_ _)); refine blk_far ?_ NB610_609.out _; (with_reducible repeat (first | refine blk_drewN ?_ _ | refine blk_drew ?_ | refine blk_alloc ?_ _)); exact BK610.out⟩, ⟨bl_⟩⟩
  ·rw [if_neg c20] at H
   have c20b0 : (t611 == 0) = false := beq_eq_false_iff_ne.mpr c20
   have c20b1 : (t611 != 0) = true := bne_iff_ne.mpr c20
   (first | rw [c20b0] | (simp only [i64_w, i32_w]; rw [c20b0]) | skip)
   have H' := Aside0.mk H
   clear H
   go_wp2
   go_meet
   case rel => exact ⟨_, (t599), (t604), (.slice Ao12 t599.length co12), (.slice Ao16 t604.length co16), H', ⟨by first | omega | exact Nat.le_refl _⟩, ⟨by (with_reducible repeat (first | apply Kd.V_alloc | apply Kd.V_drewN | apply Kd.V_drew)); exact Kd.V_mono HO601.out (fun _ hk => ⟨hk.1.2, hk.2⟩)⟩, ⟨by (with_reducible repeat (first | apply Kd.V_alloc | apply Kd.V_drewN | apply Kd.V_drew)); exact Kd.V_mono HO606.out (fun _ hk => ⟨hk.1.2, hk.2⟩)⟩, ⟨bk_⟩, ⟨bk_⟩, ⟨bl_⟩⟩
 case rest =>
  clear HC6
  try clear c1
  try clear c2
  try clear p2
  try clear c3
  try clear c4
  try clear c6
  try clear c7
  try clear c10
  try clear c13
  try clear c14
  try clear c15
  try clear c17
  try clear c20
  try clear c20b0
  try clear c20b1
  try clear c22
  try clear c23
  try clear c24
  try clear c24b0
  try clear c24b1
  try clear c30
  try clear c31
  try clear c32
  try clear c34
  try clear c41
  try clear c42
  try clear c46
  try clear c61
  try clear c62
  try clear c63
  try clear c72
  try clear c73
  try clear c76
  try clear hcz15_0 hfz15_0
  try clear hcz18_0 hfz18_0
  try clear hcz33_0 hfz33_0
  try clear hcz35_0 hfz35_0
  try clear hcz43_0 hfz43_0
  try clear hcz45_0 hfz45_0
  try clear hcz47_0 hfz47_0
  try clear hcz49_0 hfz49_0
  try clear hcz50_0 hfz50_0
  try clear hcz56_0 hfz56_0
  try clear hcz64_0 hfz64_0
  try clear hcz66_0 hfz66_0
  try clear hcz74_0 hfz74_0
  try clear hcz75_0 hfz75_0
  try clear hcz77_0 hfz77_0
  obtain ⟨kq, x610000_5, x611000_5, u610000, u611000, HA, HJ5, HO_610000, HO_611000, BK609, BK610, HB⟩ := hcut
  cases kq with
  | zero => exact absurd HA.out (by simp [exactppllaw19_DiagramUnique.j0])
  | succ kj5 =>
   have H := HA.out
   clear HA
   simp only [exactppllaw19_DiagramUnique.j0] at H
   replace H := Option.bind_eq_some_iff.mp H
   obtain ⟨t637, A780, H⟩ := H
   replace H : (exactppllaw19_DiagramUnique.l0 kj5 true t637 0 x610000_5 x611000_5) = some r := H
   have A78 := Aside0.mk A780
   clear A780
   have H' := Aside0.mk H
   clear H
   go_wp2_with (first | ((with_reducible refine gate_callee (f := 36) rfl ?_); refine goesL_ (some 45) rfl rfl Tryd.func36 (by kernel_rfl) rfl #[.int .i64 3] rfl (by (try simp only [List.map_toArray, List.map_cons, List.map_nil]); first | done | rfl | (simp only [List.length_drop, List.length_take]; rfl)) ?_; (with_reducible refine (exactppllaw19_assignments.calls kj5 3 t637 _ A78.out).mono ?_); rintro e w79 ⟨v638, rfl, ho0, hb⟩; refine ⟨_, rfl, ?_⟩; have HO639 := Aside0.mk (Kd.N_lower (Kd.N_mono (ok' := fun k_ => k_ ≠ gb609 ∧ k_ ≠ gb610) (Kd.S_N (Kd.S_bound ho0)) (fun k_ hk_ => ⟨(Kd.freshB (g := gb609) (o := .cells #[u610000] 31 (0, 0)) bk_ k_ hk_.2.1), (Kd.freshB (g := gb610) (o := .cells #[u611000] 31 (0, 0)) bk_ k_ hk_.2.1)⟩)) (below_size bl_)); replace HO_610000 := Aside0.mk (Kd.V_elder' (pV_ HO_610000.out) (by first | exact Kd.N_base ho0 | exact Kd.R_base ho0 | exact Kd.N_base (Kd.S_N ho0)) hb); replace HO_611000 := Aside0.mk (Kd.V_elder' (pV_ HO_611000.out) (by first | exact Kd.N_base ho0 | exact Kd.R_base ho0 | exact Kd.N_base (Kd.S_N ho0)) hb); replace BK609 := Aside0.mk (blk_below (g := gb609) (o := .cells #[u610000] 31 (0, 0)) bk_ hb); replace BK610 := Aside0.mk (blk_below (g := gb610) (o := .cells #[u611000] 31 (0, 0)) bk_ hb); replace HB := Aside0.mk (below_step bl_ hb); (try clear hb); (try clear hb2); (try clear hk); (try clear hi); (try clear ho0)))
   go_loopg [8, 10] kj5 (fun kq v8 v10 w' => ∃ (x8_2 : Bool) (x10_2 : Int), v8 = .bool x8_2 ∧ v10 = .int .i64 x10_2 ∧ Aside0 (exactppllaw19_DiagramUnique.l0 kq x8_2 t637 x10_2 x610000_5 x611000_5 = some r) ∧ Aside0 (kq ≤ kj5) ∧ Aside0 (Kd.N (Kd.slice 3 (Kd.int .i64)) 22 w' w.heap.size (fun k_ => k_ ≠ gb609 ∧ k_ ≠ gb610) v638 t637) ∧ Aside0 (Kd.V k60 60 w' w.heap.size (fun k_ => some k_ ≠ (v638 : Value).ownBlock ∧ k_ ≠ gb609 ∧ k_ ≠ gb610) u610000 x610000_5) ∧ Aside0 (Kd.V k60 60 w' w.heap.size (fun k_ => some k_ ≠ (v638 : Value).ownBlock ∧ k_ ≠ gb609 ∧ k_ ≠ gb610) u611000 x611000_5) ∧ Aside0 (w'.heap[gb609]? = some (.cells #[u610000] 31 (0, 0))) ∧ Aside0 (w'.heap[gb610]? = some (.cells #[u611000] 31 (0, 0))) ∧ Aside0 (Below w.heap.size w w'))
   case atStart => exact ⟨(true), (0), rs_, rs_, H', ⟨Nat.le_refl _⟩, ⟨pN_ HO639.out⟩, ⟨by (with_reducible repeat (first | apply Kd.V_alloc | apply Kd.V_drewN | apply Kd.V_drew)); exact Kd.V_mono HO_610000.out (fun _ hk => ⟨hk.2, ⟨hk.1.1, hk.1.2⟩⟩)⟩, ⟨by (with_reducible repeat (first | apply Kd.V_alloc | apply Kd.V_drewN | apply Kd.V_drew)); exact Kd.V_mono HO_611000.out (fun _ hk => ⟨hk.2, ⟨hk.1.1, hk.1.2⟩⟩)⟩, ⟨bk_⟩, ⟨bk_⟩, ⟨bl_⟩⟩
   case round =>
    clear H'
    try clear c1
    try clear c2
    try clear p2
    try clear c3
    try clear c4
    try clear c6
    try clear c7
    try clear c10
    try clear c13
    try clear c14
    try clear c15
    try clear c17
    try clear c20
    try clear c20b0
    try clear c20b1
    try clear c22
    try clear c23
    try clear c24
    try clear c24b0
    try clear c24b1
    try clear c30
    try clear c31
    try clear c32
    try clear c34
    try clear c36
    try clear c41
    try clear c42
    try clear c46
    try clear c61
    try clear c62
    try clear c63
    try clear c72
    try clear c73
    try clear c76
    try clear hcz15_0 hfz15_0
    try clear hcz18_0 hfz18_0
    try clear hcz33_0 hfz33_0
    try clear hcz35_0 hfz35_0
    try clear hcz43_0 hfz43_0
    try clear hcz45_0 hfz45_0
    try clear hcz47_0 hfz47_0
    try clear hcz49_0 hfz49_0
    try clear hcz50_0 hfz50_0
    try clear hcz56_0 hfz56_0
    try clear hcz64_0 hfz64_0
    try clear hcz66_0 hfz66_0
    try clear hcz74_0 hfz74_0
    try clear hcz75_0 hfz75_0
    try clear hcz77_0 hfz77_0
    try clear p2
    obtain ⟨x8_2, x10_2, rfl, rfl, HA, HK2, HO_9, HO_610000, HO_611000, BK609, BK610, HB⟩ := hrel
    cases gk with
    | zero => exact absurd HA.out (by simp [exactppllaw19_DiagramUnique.l0])
    | succ k2 =>
     have H := HA.out
     clear HA
     simp only [exactppllaw19_DiagramUnique.l0] at H
     by_cases c80 : x10_2 < (t637.length : Int)
     ·rw [if_pos c80] at H
      have c80b0 : decide (x10_2 < (t637.length : Int)) = true := decide_eq_true c80
      clear c80
      by_cases c81 : 0 ≤ x10_2
      ·rw [if_pos c81] at H
       have c81b0 : decide (0 ≤ x10_2) = true := decide_eq_true c81
       clear c81
       replace H := Option.bind_eq_some_iff.mp H
       obtain ⟨⟨t643, t644⟩, A820, H⟩ := H
       replace H : ((diagram_Eval.f x611000_5 (rd_L1 t637 x10_2)).bind fun bt646 => (if t644 = 0 then (if bt646.2 = 0 then (if x8_2 = true then (exactppllaw19_DiagramUnique.l0 k2 (t643 == bt646.1) t637 (wrap64 (x10_2 + 1)) x610000_5 x611000_5) else (exactppllaw19_DiagramUnique.l0 k2 false t637 (wrap64 (x10_2 + 1)) x610000_5 x611000_5)) else (some false)) else (some false))) = some r := H
       have A82 := Aside0.mk A820
       clear A820
       replace H := Option.bind_eq_some_iff.mp H
       obtain ⟨⟨t646, t647⟩, A830, H⟩ := H
       replace H : (if t644 = 0 then (if t647 = 0 then (if x8_2 = true then (exactppllaw19_DiagramUnique.l0 k2 (t643 == t646) t637 (wrap64 (x10_2 + 1)) x610000_5 x611000_5) else (exactppllaw19_DiagramUnique.l0 k2 false t637 (wrap64 (x10_2 + 1)) x610000_5 x611000_5)) else (some false)) else (some false)) = some r := H
       have A83 := Aside0.mk A830
       clear A830
       by_cases c84 : t644 = 0
       ·rw [if_pos c84] at H
        have c84b0 : (t644 == 0) = true := beq_iff_eq.mpr c84
        have c84b1 : (t644 != 0) = false := bne_eq_false_iff_eq.mpr c84
        clear c84
        by_cases c85 : t647 = 0
        ·rw [if_pos c85] at H
         have c85b0 : (t647 == 0) = true := beq_iff_eq.mpr c85
         have c85b1 : (t647 != 0) = false := bne_eq_false_iff_eq.mpr c85
         clear c85
         by_cases c86 : x8_2 = true
         ·subst c86
          have H1 : (exactppllaw19_DiagramUnique.l0 k2 (t643 == t646) t637 (wrap64 (x10_2 + 1)) x610000_5 x611000_5) = some r := by rw [if_pos rfl] at H; exact H
          clear H
          have H := H1
          clear H1
          have H' := Aside0.mk H
          clear H
          obtain ⟨Ao87, co87, eo87⟩ := Kd.N_slice HO_9.out
          subst eo87
          try go_wp2
          replace HO_9 := Aside0.mk (Kd.N_drew HO_9.out)
          replace HO_610000 := Aside0.mk (Kd.V_drew HO_610000.out)
          replace HO_611000 := Aside0.mk (Kd.V_drew HO_611000.out)
          replace BK609 := Aside0.mk (blk_drew BK609.out)
          replace BK610 := Aside0.mk (blk_drew BK610.out)
          replace HB := Aside0.mk (below_drew1 HB.out)
          have p642 : 0 ≤ (x10_2 : Int) := dt_
          have q642 : x10_2 < (t637.length : Int) := dt_
          obtain ⟨ad642, A642_0, c642_0, e642, hx642_0, hl642_0, hi642_0⟩ := at_L1 (Kd.N_reads' HO_9.out).2.2 x10_2 p642 q642
          cases e642
          obtain ⟨ce642, hce642, hMe642, hcc642⟩ := Kd.N_get HO_9.out [] x10_2 p642 (by first | exact q642 | exact dt_ | (have e_ := (Kd.N_reads' HO_9.out).1; omega))
          obtain ⟨ua642_0, uc642_0, rfl, ul642_0, ge642_0⟩ := Kd.FK_slice_open hMe642
          have hv642_0 := hcc642 0 _ rfl
          rw [Nat.add_zero, show ((Kd.slice 3 (Kd.int .i64))).sz = 1 from rfl, Nat.mul_one] at hv642_0
          replace hv642_0 := Option.some.inj (hv642_0.symm.trans hx642_0)
          injection hv642_0 with hva_ hvn_ hvc_
          rw [hva_] at ge642_0
          rw [hvc_] at ul642_0
          have HL642_0 := Aside0.mk (show Kd.V (Kd.int .i64) 3 _ w.heap.size _ _ (rd_L1 t637 x10_2) from Kd.V_mk ul642_0 ge642_0)
          clear hva_ hvn_ hvc_ ge642_0 ul642_0
          clear hcc642 hce642
          have HR642_0 := Aside0.mk hi642_0
          have HC642_0 := Aside0.mk hl642_0
          clear hi642_0 hl642_0
          replace p642 := eq_true p642
          replace q642 := eq_true q642
          obtain ⟨Ao89, co89, eo89⟩ := Kd.V_slice HO_610000.out
          (first | subst eo89 | (injection eo89 with f1_ f2_ f3_; have f4_ := f1_.symm; have f5_ := f3_.symm; clear f1_ f2_ f3_; subst f4_; subst f5_))
          refine start_ (n := 11) (S := fun w' => w'.cell? ⟨gb609, 0, none⟩ = some (.slice Ao89 x610000_5.length co89) ∧ w'.cell? (ad642.add (x10_2).toNat) = some (.slice A642_0 (rd_L1 t637 x10_2).length c642_0)) (ds := []) #[false, false, false, false, false, false, false, false, false, false, false] (by kernel_rfl) rfl rfl ⟨(blk_cell BK609.out 0).trans rfl, hx642_0⟩ (fun hHeld => ?_); refine with_tabW exactppllaw19_DiagramUnique.tab14 exactppllaw19_DiagramUnique.bits14 (fun HT_ HW_ => ?_)
          generalize wr.drew = w88 at HO_9 HO_610000 HO_611000 BK609 BK610 HB HL642_0 HR642_0 hx642_0 hHeld ⊢
          refine pu_ HT_ 1 54 (bm 11 2) ?_
          refine pu_ HT_ 2 55 (bm 11 6) ?_
          refine pu_ HT_ 3 56 (bm 11 14) ?_
          refine ta_ HT_ HW_ 0 53 (bm 11 15) hHeld ?_
          refine ta_ HT_ HW_ 4 57 (bm 11 31) hHeld ?_
          refine one_ (i := 5) (N := some 58) #[true, true, true, true, true, true, false, false, false, false, false] rfl rfl (one_of HT_.out (by kernel_rfl)) (by decide) (fun K hK => ?_)
          refine goes_ Tryd.func26 (by kernel_rfl) rfl #[.agg #[.slice Ao89 x610000_5.length co89], .slice A642_0 (rd_L1 t637 x10_2).length c642_0] (by rfl) rfl rfl (by (try simp only [List.map_toArray, List.map_cons, List.map_nil]); first | done | rfl | (simp only [List.length_drop, List.length_take]; rfl)) ?_
          with_reducible refine (diagram_Eval.calls _ _ x610000_5 _ _ (rd_L1 t637 x10_2) t643 t644 _ ?side1 ?side2 ?side3 ?side4 A82.out ?tab).mono ?_
          (case tab => exact ptab HTAB.out bl_)
          (case side1 => repeat (first | exact (Kd.V_reads' HO_610000.out).2.2 | (with_reducible refine Kd.C_alloc ?_ _) | (with_reducible refine Kd.C_drewN ?_ _) | (with_reducible refine Kd.C_drew ?_)))
          (case side2 => exact (Kd.V_reads' HO_610000.out).2.1)
          (case side3 => repeat (first | exact (by repeat (first | (with_reducible exact HR642_0.out) | (with_reducible refine Kd.C_alloc ?_ _) | (with_reducible refine Kd.C_drewN ?_ _) | (with_reducible refine Kd.C_drew ?_) | exact HR642_0.out)) | (with_reducible refine Kd.C_alloc ?_ _) | (with_reducible refine Kd.C_drewN ?_ _) | (with_reducible refine Kd.C_drew ?_)))
          (case side4 => exact HC642_0.out)
          rintro e w90 ⟨rfl, hb⟩
          have HS1_ := (hb.cell (World.block_lt_of_cell? _ _ (hHeld.2))).trans (hHeld.2)
          refine ⟨_, rfl, ?_⟩
          replace HO_9 := Aside0.mk (Kd.N_below (pN_ HO_9.out) hb)
          replace HO_610000 := Aside0.mk (Kd.V_below (pV_ HO_610000.out) hb)
          replace HO_611000 := Aside0.mk (Kd.V_below (pV_ HO_611000.out) hb)
          replace HL642_0 := Aside0.mk (Kd.V_below (by (with_reducible repeat (first | apply Kd.V_alloc | apply Kd.V_drewN | apply Kd.V_drew)); exact HL642_0.out) hb)
          replace BK609 := Aside0.mk (blk_below (g := gb609) (o := .cells #[.slice Ao89 x610000_5.length co89] 31 (0, 0)) bk_ hb)
          replace BK610 := Aside0.mk (blk_below (g := gb610) (o := .cells #[u611000] 31 (0, 0)) bk_ hb)
          replace HR642_0 := Aside0.mk (Kd.C_below (by repeat (first | (with_reducible exact HR642_0.out) | (with_reducible refine Kd.C_alloc ?_ _) | (with_reducible refine Kd.C_drewN ?_ _) | (with_reducible refine Kd.C_drew ?_) | exact HR642_0.out)) hb)
          replace HB := Aside0.mk (below_step bl_ hb)
          (try clear hb)
          (try clear hb2)
          (try clear hk)
          (try clear hi)
          refine hK.out _ _ ⟨(blk_cell BK609.out 0).trans rfl, HS1_⟩ (fun hHeld => ?_)
          clear hK K
          refine norm_ (a' := ?_) ?_ ?_
          rotate_left
          ·show Act.put _ (some 58) _ = _
           simp only [Act.put, List.setIfInBounds_toArray, List.set_cons_zero, List.set_cons_succ, i64_w, i32_w]
           rfl
          refine pu_ HT_ 6 52 (bm 11 127) ?_
          refine pu_ HT_ 7 59 (bm 11 255) ?_
          refine pu_ HT_ 8 60 (bm 11 511) ?_
          refine pu_ HT_ 9 11 (bm 11 1023) ?_
          refine pu_ HT_ 10 12 #[true, true, true, true, true, true, true, true, true, true, true] ?_
          refine done_ (done_of HT_.out (by kernel_rfl)) ?_
          try go_wp2
          replace HO_9 := Aside0.mk (Kd.N_drew HO_9.out)
          replace HO_610000 := Aside0.mk (Kd.V_drew HO_610000.out)
          replace HO_611000 := Aside0.mk (Kd.V_drew HO_611000.out)
          replace HL642_0 := Aside0.mk (Kd.V_drew HL642_0.out)
          replace BK609 := Aside0.mk (blk_drew BK609.out)
          replace BK610 := Aside0.mk (blk_drew BK610.out)
          replace HR642_0 := Aside0.mk (Kd.C_drew HR642_0.out)
          replace HB := Aside0.mk (below_drew1 HB.out)
          have p645 : 0 ≤ (x10_2 : Int) := dt_
          have q645 : x10_2 < (t637.length : Int) := dt_
          obtain ⟨ad645, A645_0, c645_0, e645, hx645_0, hl645_0, hi645_0⟩ := at_L1 (Kd.N_reads' HO_9.out).2.2 x10_2 p645 q645
          obtain rfl : ad642 = ad645 := (by injection e645)
          obtain ⟨ce645, hce645, hMe645, hcc645⟩ := Kd.N_get HO_9.out [] x10_2 p645 (by first | exact q645 | exact dt_ | (have e_ := (Kd.N_reads' HO_9.out).1; omega))
          obtain ⟨ua645_0, uc645_0, rfl, ul645_0, ge645_0⟩ := Kd.FK_slice_open hMe645
          have hv645_0 := hcc645 0 _ rfl
          rw [Nat.add_zero, show ((Kd.slice 3 (Kd.int .i64))).sz = 1 from rfl, Nat.mul_one] at hv645_0
          replace hv645_0 := Option.some.inj (hv645_0.symm.trans hx645_0)
          injection hv645_0 with hva_ hvn_ hvc_
          rw [hva_] at ge645_0
          rw [hvc_] at ul645_0
          have HL645_0 := Aside0.mk (show Kd.V (Kd.int .i64) 3 _ w.heap.size _ _ (rd_L1 t637 x10_2) from Kd.V_mk ul645_0 ge645_0)
          clear hva_ hvn_ hvc_ ge645_0 ul645_0
          clear hcc645 hce645
          have HR645_0 := Aside0.mk hi645_0
          have HC645_0 := Aside0.mk hl645_0
          clear hi645_0 hl645_0
          replace p645 := eq_true p645
          replace q645 := eq_true q645
          obtain ⟨Ao92, co92, eo92⟩ := Kd.V_slice HO_611000.out
          (first | subst eo92 | (injection eo92 with f1_ f2_ f3_; have f4_ := f1_.symm; have f5_ := f3_.symm; clear f1_ f2_ f3_; subst f4_; subst f5_))
          refine start_ (n := 11) (S := fun w' => w'.cell? ⟨gb610, 0, none⟩ = some (.slice Ao92 x611000_5.length co92) ∧ w'.cell? (ad642.add (x10_2).toNat) = some (.slice A645_0 (rd_L1 t637 x10_2).length c645_0)) (ds := []) #[false, false, false, false, false, false, false, false, false, false, false] (by kernel_rfl) rfl rfl ⟨(blk_cell BK610.out 0).trans rfl, hx645_0⟩ (fun hHeld => ?_); refine with_tabW exactppllaw19_DiagramUnique.tab15 exactppllaw19_DiagramUnique.bits15 (fun HT_ HW_ => ?_)
          generalize w90.drew = w91 at HO_9 HO_610000 HO_611000 HL642_0 BK609 BK610 HR642_0 HB HL645_0 HR645_0 hx645_0 hHeld ⊢
          refine pu_ HT_ 1 63 (bm 11 2) ?_
          refine pu_ HT_ 2 64 (bm 11 6) ?_
          refine pu_ HT_ 3 65 (bm 11 14) ?_
          refine ta_ HT_ HW_ 0 62 (bm 11 15) hHeld ?_
          refine ta_ HT_ HW_ 4 66 (bm 11 31) hHeld ?_
          refine one_ (i := 5) (N := some 67) #[true, true, true, true, true, true, false, false, false, false, false] rfl rfl (one_of HT_.out (by kernel_rfl)) (by decide) (fun K hK => ?_)
          refine goes_ Tryd.func26 (by kernel_rfl) rfl #[.agg #[.slice Ao92 x611000_5.length co92], .slice A645_0 (rd_L1 t637 x10_2).length c645_0] (by rfl) rfl rfl (by (try simp only [List.map_toArray, List.map_cons, List.map_nil]); first | done | rfl | (simp only [List.length_drop, List.length_take]; rfl)) ?_
          with_reducible refine (diagram_Eval.calls _ _ x611000_5 _ _ (rd_L1 t637 x10_2) t646 t647 _ ?side1 ?side2 ?side3 ?side4 A83.out ?tab).mono ?_
          (case tab => exact ptab HTAB.out bl_)
          (case side1 => repeat (first | exact (Kd.V_reads' HO_611000.out).2.2 | (with_reducible refine Kd.C_alloc ?_ _) | (with_reducible refine Kd.C_drewN ?_ _) | (with_reducible refine Kd.C_drew ?_)))
          (case side2 => exact (Kd.V_reads' HO_611000.out).2.1)
          (case side3 => repeat (first | exact (by repeat (first | (with_reducible exact HR645_0.out) | (with_reducible refine Kd.C_alloc ?_ _) | (with_reducible refine Kd.C_drewN ?_ _) | (with_reducible refine Kd.C_drew ?_) | exact HR645_0.out)) | (with_reducible refine Kd.C_alloc ?_ _) | (with_reducible refine Kd.C_drewN ?_ _) | (with_reducible refine Kd.C_drew ?_)))
          (case side4 => exact HC645_0.out)
          rintro e w93 ⟨rfl, hb⟩
          have HS1_ := (hb.cell (World.block_lt_of_cell? _ _ (hHeld.2))).trans (hHeld.2)
          refine ⟨_, rfl, ?_⟩
          replace HO_9 := Aside0.mk (Kd.N_below (pN_ HO_9.out) hb)
          replace HO_610000 := Aside0.mk (Kd.V_below (pV_ HO_610000.out) hb)
          replace HO_611000 := Aside0.mk (Kd.V_below (pV_ HO_611000.out) hb)
          replace HL642_0 := Aside0.mk (Kd.V_below (by (with_reducible repeat (first | apply Kd.V_alloc | apply Kd.V_drewN | apply Kd.V_drew)); exact HL642_0.out) hb)
          replace HL645_0 := Aside0.mk (Kd.V_below (by (with_reducible repeat (first | apply Kd.V_alloc | apply Kd.V_drewN | apply Kd.V_drew)); exact HL645_0.out) hb)
          replace BK609 := Aside0.mk (blk_below (g := gb609) (o := .cells #[.slice Ao89 x610000_5.length co89] 31 (0, 0)) bk_ hb)
          replace BK610 := Aside0.mk (blk_below (g := gb610) (o := .cells #[.slice Ao92 x611000_5.length co92] 31 (0, 0)) bk_ hb)
          replace HR642_0 := Aside0.mk (Kd.C_below (by repeat (first | (with_reducible exact HR642_0.out) | (with_reducible refine Kd.C_alloc ?_ _) | (with_reducible refine Kd.C_drewN ?_ _) | (with_reducible refine Kd.C_drew ?_) | exact HR642_0.out)) hb)
          replace HR645_0 := Aside0.mk (Kd.C_below (by repeat (first | (with_reducible exact HR645_0.out) | (with_reducible refine Kd.C_alloc ?_ _) | (with_reducible refine Kd.C_drewN ?_ _) | (with_reducible refine Kd.C_drew ?_) | exact HR645_0.out)) hb)
          replace HB := Aside0.mk (below_step bl_ hb)
          (try clear hb)
          (try clear hb2)
          (try clear hk)
          (try clear hi)
          refine hK.out _ _ ⟨(blk_cell BK610.out 0).trans rfl, HS1_⟩ (fun hHeld => ?_)
          clear hK K
          refine norm_ (a' := ?_) ?_ ?_
          rotate_left
          ·show Act.put _ (some 67) _ = _
           simp only [Act.put, List.setIfInBounds_toArray, List.set_cons_zero, List.set_cons_succ, i64_w, i32_w]
           rfl
          refine pu_ HT_ 6 61 (bm 11 127) ?_
          refine pu_ HT_ 7 68 (bm 11 255) ?_
          refine pu_ HT_ 8 69 (bm 11 511) ?_
          refine pu_ HT_ 9 13 (bm 11 1023) ?_
          refine pu_ HT_ 10 14 #[true, true, true, true, true, true, true, true, true, true, true] ?_
          refine done_ (done_of HT_.out (by kernel_rfl)) ?_
          try go_wp2
          go_roundg k2
          case measure => have := HJ5.out; have := HK2.out; omega
          case rel => exact ⟨((t643 == t646)), (wrap64 (x10_2 + 1)), rs_, rs_, H', ⟨by have := HJ5.out; have := HK2.out; omega⟩, ⟨pN_ HO_9.out⟩, ⟨pV_ HO_610000.out⟩, ⟨pV_ HO_611000.out⟩, ⟨bk_⟩, ⟨bk_⟩, ⟨bl_⟩⟩
         ·replace c86 := Bool.eq_false_iff.mpr c86
          subst c86
          have H1 : (exactppllaw19_DiagramUnique.l0 k2 false t637 (wrap64 (x10_2 + 1)) x610000_5 x611000_5) = some r := by rw [if_neg (show ¬ (false = true) by decide)] at H; exact H
          clear H
          have H := H1
          clear H1
          have H' := Aside0.mk H
          clear H
          obtain ⟨Ao94, co94, eo94⟩ := Kd.N_slice HO_9.out
          subst eo94
          try go_wp2
          replace HO_9 := Aside0.mk (Kd.N_drew HO_9.out)
          replace HO_610000 := Aside0.mk (Kd.V_drew HO_610000.out)
          replace HO_611000 := Aside0.mk (Kd.V_drew HO_611000.out)
          replace BK609 := Aside0.mk (blk_drew BK609.out)
          replace BK610 := Aside0.mk (blk_drew BK610.out)
          replace HB := Aside0.mk (below_drew1 HB.out)
          have p642 : 0 ≤ (x10_2 : Int) := dt_
          have q642 : x10_2 < (t637.length : Int) := dt_
          obtain ⟨ad642, A642_0, c642_0, e642, hx642_0, hl642_0, hi642_0⟩ := at_L1 (Kd.N_reads' HO_9.out).2.2 x10_2 p642 q642
          cases e642
          obtain ⟨ce642, hce642, hMe642, hcc642⟩ := Kd.N_get HO_9.out [] x10_2 p642 (by first | exact q642 | exact dt_ | (have e_ := (Kd.N_reads' HO_9.out).1; omega))
          obtain ⟨ua642_0, uc642_0, rfl, ul642_0, ge642_0⟩ := Kd.FK_slice_open hMe642
          have hv642_0 := hcc642 0 _ rfl
          rw [Nat.add_zero, show ((Kd.slice 3 (Kd.int .i64))).sz = 1 from rfl, Nat.mul_one] at hv642_0
          replace hv642_0 := Option.some.inj (hv642_0.symm.trans hx642_0)
          injection hv642_0 with hva_ hvn_ hvc_
          rw [hva_] at ge642_0
          rw [hvc_] at ul642_0
          have HL642_0 := Aside0.mk (show Kd.V (Kd.int .i64) 3 _ w.heap.size _ _ (rd_L1 t637 x10_2) from Kd.V_mk ul642_0 ge642_0)
          clear hva_ hvn_ hvc_ ge642_0 ul642_0
          clear hcc642 hce642
          have HR642_0 := Aside0.mk hi642_0
          have HC642_0 := Aside0.mk hl642_0
          clear hi642_0 hl642_0
          replace p642 := eq_true p642
          replace q642 := eq_true q642
          obtain ⟨Ao96, co96, eo96⟩ := Kd.V_slice HO_610000.out
          (first | subst eo96 | (injection eo96 with f1_ f2_ f3_; have f4_ := f1_.symm; have f5_ := f3_.symm; clear f1_ f2_ f3_; subst f4_; subst f5_))
          refine start_ (n := 11) (S := fun w' => w'.cell? ⟨gb609, 0, none⟩ = some (.slice Ao96 x610000_5.length co96) ∧ w'.cell? (ad642.add (x10_2).toNat) = some (.slice A642_0 (rd_L1 t637 x10_2).length c642_0)) (ds := []) #[false, false, false, false, false, false, false, false, false, false, false] (by kernel_rfl) rfl rfl ⟨(blk_cell BK609.out 0).trans rfl, hx642_0⟩ (fun hHeld => ?_); refine with_tabW exactppllaw19_DiagramUnique.tab14 exactppllaw19_DiagramUnique.bits14 (fun HT_ HW_ => ?_)
          generalize wr.drew = w95 at HO_9 HO_610000 HO_611000 BK609 BK610 HB HL642_0 HR642_0 hx642_0 hHeld ⊢
          refine pu_ HT_ 1 54 (bm 11 2) ?_
          refine pu_ HT_ 2 55 (bm 11 6) ?_
          refine pu_ HT_ 3 56 (bm 11 14) ?_
          refine ta_ HT_ HW_ 0 53 (bm 11 15) hHeld ?_
          refine ta_ HT_ HW_ 4 57 (bm 11 31) hHeld ?_
          refine one_ (i := 5) (N := some 58) #[true, true, true, true, true, true, false, false, false, false, false] rfl rfl (one_of HT_.out (by kernel_rfl)) (by decide) (fun K hK => ?_)
          refine goes_ Tryd.func26 (by kernel_rfl) rfl #[.agg #[.slice Ao96 x610000_5.length co96], .slice A642_0 (rd_L1 t637 x10_2).length c642_0] (by rfl) rfl rfl (by (try simp only [List.map_toArray, List.map_cons, List.map_nil]); first | done | rfl | (simp only [List.length_drop, List.length_take]; rfl)) ?_
          with_reducible refine (diagram_Eval.calls _ _ x610000_5 _ _ (rd_L1 t637 x10_2) t643 t644 _ ?side1 ?side2 ?side3 ?side4 A82.out ?tab).mono ?_
          (case tab => exact ptab HTAB.out bl_)
          (case side1 => repeat (first | exact (Kd.V_reads' HO_610000.out).2.2 | (with_reducible refine Kd.C_alloc ?_ _) | (with_reducible refine Kd.C_drewN ?_ _) | (with_reducible refine Kd.C_drew ?_)))
          (case side2 => exact (Kd.V_reads' HO_610000.out).2.1)
          (case side3 => repeat (first | exact (by repeat (first | (with_reducible exact HR642_0.out) | (with_reducible refine Kd.C_alloc ?_ _) | (with_reducible refine Kd.C_drewN ?_ _) | (with_reducible refine Kd.C_drew ?_) | exact HR642_0.out)) | (with_reducible refine Kd.C_alloc ?_ _) | (with_reducible refine Kd.C_drewN ?_ _) | (with_reducible refine Kd.C_drew ?_)))
          (case side4 => exact HC642_0.out)
          rintro e w97 ⟨rfl, hb⟩
          have HS1_ := (hb.cell (World.block_lt_of_cell? _ _ (hHeld.2))).trans (hHeld.2)
          refine ⟨_, rfl, ?_⟩
          replace HO_9 := Aside0.mk (Kd.N_below (pN_ HO_9.out) hb)
          replace HO_610000 := Aside0.mk (Kd.V_below (pV_ HO_610000.out) hb)
          replace HO_611000 := Aside0.mk (Kd.V_below (pV_ HO_611000.out) hb)
          replace HL642_0 := Aside0.mk (Kd.V_below (by (with_reducible repeat (first | apply Kd.V_alloc | apply Kd.V_drewN | apply Kd.V_drew)); exact HL642_0.out) hb)
          replace BK609 := Aside0.mk (blk_below (g := gb609) (o := .cells #[.slice Ao96 x610000_5.length co96] 31 (0, 0)) bk_ hb)
          replace BK610 := Aside0.mk (blk_below (g := gb610) (o := .cells #[u611000] 31 (0, 0)) bk_ hb)
          replace HR642_0 := Aside0.mk (Kd.C_below (by repeat (first | (with_reducible exact HR642_0.out) | (with_reducible refine Kd.C_alloc ?_ _) | (with_reducible refine Kd.C_drewN ?_ _) | (with_reducible refine Kd.C_drew ?_) | exact HR642_0.out)) hb)
          replace HB := Aside0.mk (below_step bl_ hb)
          (try clear hb)
          (try clear hb2)
          (try clear hk)
          (try clear hi)
          refine hK.out _ _ ⟨(blk_cell BK609.out 0).trans rfl, HS1_⟩ (fun hHeld => ?_)
          clear hK K
          refine norm_ (a' := ?_) ?_ ?_
          rotate_left
          ·show Act.put _ (some 58) _ = _
           simp only [Act.put, List.setIfInBounds_toArray, List.set_cons_zero, List.set_cons_succ, i64_w, i32_w]
           rfl
          refine pu_ HT_ 6 52 (bm 11 127) ?_
          refine pu_ HT_ 7 59 (bm 11 255) ?_
          refine pu_ HT_ 8 60 (bm 11 511) ?_
          refine pu_ HT_ 9 11 (bm 11 1023) ?_
          refine pu_ HT_ 10 12 #[true, true, true, true, true, true, true, true, true, true, true] ?_
          refine done_ (done_of HT_.out (by kernel_rfl)) ?_
          try go_wp2
          replace HO_9 := Aside0.mk (Kd.N_drew HO_9.out)
          replace HO_610000 := Aside0.mk (Kd.V_drew HO_610000.out)
          replace HO_611000 := Aside0.mk (Kd.V_drew HO_611000.out)
          replace HL642_0 := Aside0.mk (Kd.V_drew HL642_0.out)
          replace BK609 := Aside0.mk (blk_drew BK609.out)
          replace BK610 := Aside0.mk (blk_drew BK610.out)
          replace HR642_0 := Aside0.mk (Kd.C_drew HR642_0.out)
          replace HB := Aside0.mk (below_drew1 HB.out)
          have p645 : 0 ≤ (x10_2 : Int) := dt_
          have q645 : x10_2 < (t637.length : Int) := dt_
          obtain ⟨ad645, A645_0, c645_0, e645, hx645_0, hl645_0, hi645_0⟩ := at_L1 (Kd.N_reads' HO_9.out).2.2 x10_2 p645 q645
          obtain rfl : ad642 = ad645 := (by injection e645)
          obtain ⟨ce645, hce645, hMe645, hcc645⟩ := Kd.N_get HO_9.out [] x10_2 p645 (by first | exact q645 | exact dt_ | (have e_ := (Kd.N_reads' HO_9.out).1; omega))
          obtain ⟨ua645_0, uc645_0, rfl, ul645_0, ge645_0⟩ := Kd.FK_slice_open hMe645
          have hv645_0 := hcc645 0 _ rfl
          rw [Nat.add_zero, show ((Kd.slice 3 (Kd.int .i64))).sz = 1 from rfl, Nat.mul_one] at hv645_0
          replace hv645_0 := Option.some.inj (hv645_0.symm.trans hx645_0)
          injection hv645_0 with hva_ hvn_ hvc_
          rw [hva_] at ge645_0
          rw [hvc_] at ul645_0
          have HL645_0 := Aside0.mk (show Kd.V (Kd.int .i64) 3 _ w.heap.size _ _ (rd_L1 t637 x10_2) from Kd.V_mk ul645_0 ge645_0)
          clear hva_ hvn_ hvc_ ge645_0 ul645_0
          clear hcc645 hce645
          have HR645_0 := Aside0.mk hi645_0
          have HC645_0 := Aside0.mk hl645_0
          clear hi645_0 hl645_0
          replace p645 := eq_true p645
          replace q645 := eq_true q645
          obtain ⟨Ao99, co99, eo99⟩ := Kd.V_slice HO_611000.out
          (first | subst eo99 | (injection eo99 with f1_ f2_ f3_; have f4_ := f1_.symm; have f5_ := f3_.symm; clear f1_ f2_ f3_; subst f4_; subst f5_))
          refine start_ (n := 11) (S := fun w' => w'.cell? ⟨gb610, 0, none⟩ = some (.slice Ao99 x611000_5.length co99) ∧ w'.cell? (ad642.add (x10_2).toNat) = some (.slice A645_0 (rd_L1 t637 x10_2).length c645_0)) (ds := []) #[false, false, false, false, false, false, false, false, false, false, false] (by kernel_rfl) rfl rfl ⟨(blk_cell BK610.out 0).trans rfl, hx645_0⟩ (fun hHeld => ?_); refine with_tabW exactppllaw19_DiagramUnique.tab15 exactppllaw19_DiagramUnique.bits15 (fun HT_ HW_ => ?_)
          generalize w97.drew = w98 at HO_9 HO_610000 HO_611000 HL642_0 BK609 BK610 HR642_0 HB HL645_0 HR645_0 hx645_0 hHeld ⊢
          refine pu_ HT_ 1 63 (bm 11 2) ?_
          refine pu_ HT_ 2 64 (bm 11 6) ?_
          refine pu_ HT_ 3 65 (bm 11 14) ?_
          refine ta_ HT_ HW_ 0 62 (bm 11 15) hHeld ?_
          refine ta_ HT_ HW_ 4 66 (bm 11 31) hHeld ?_
          refine one_ (i := 5) (N := some 67) #[true, true, true, true, true, true, false, false, false, false, false] rfl rfl (one_of HT_.out (by kernel_rfl)) (by decide) (fun K hK => ?_)
          refine goes_ Tryd.func26 (by kernel_rfl) rfl #[.agg #[.slice Ao99 x611000_5.length co99], .slice A645_0 (rd_L1 t637 x10_2).length c645_0] (by rfl) rfl rfl (by (try simp only [List.map_toArray, List.map_cons, List.map_nil]); first | done | rfl | (simp only [List.length_drop, List.length_take]; rfl)) ?_
          with_reducible refine (diagram_Eval.calls _ _ x611000_5 _ _ (rd_L1 t637 x10_2) t646 t647 _ ?side1 ?side2 ?side3 ?side4 A83.out ?tab).mono ?_
          (case tab => exact ptab HTAB.out bl_)
          (case side1 => repeat (first | exact (Kd.V_reads' HO_611000.out).2.2 | (with_reducible refine Kd.C_alloc ?_ _) | (with_reducible refine Kd.C_drewN ?_ _) | (with_reducible refine Kd.C_drew ?_)))
          (case side2 => exact (Kd.V_reads' HO_611000.out).2.1)
          (case side3 => repeat (first | exact (by repeat (first | (with_reducible exact HR645_0.out) | (with_reducible refine Kd.C_alloc ?_ _) | (with_reducible refine Kd.C_drewN ?_ _) | (with_reducible refine Kd.C_drew ?_) | exact HR645_0.out)) | (with_reducible refine Kd.C_alloc ?_ _) | (with_reducible refine Kd.C_drewN ?_ _) | (with_reducible refine Kd.C_drew ?_)))
          (case side4 => exact HC645_0.out)
          rintro e w100 ⟨rfl, hb⟩
          have HS1_ := (hb.cell (World.block_lt_of_cell? _ _ (hHeld.2))).trans (hHeld.2)
          refine ⟨_, rfl, ?_⟩
          replace HO_9 := Aside0.mk (Kd.N_below (pN_ HO_9.out) hb)
          replace HO_610000 := Aside0.mk (Kd.V_below (pV_ HO_610000.out) hb)
          replace HO_611000 := Aside0.mk (Kd.V_below (pV_ HO_611000.out) hb)
          replace HL642_0 := Aside0.mk (Kd.V_below (by (with_reducible repeat (first | apply Kd.V_alloc | apply Kd.V_drewN | apply Kd.V_drew)); exact HL642_0.out) hb)
          replace HL645_0 := Aside0.mk (Kd.V_below (by (with_reducible repeat (first | apply Kd.V_alloc | apply Kd.V_drewN | apply Kd.V_drew)); exact HL645_0.out) hb)
          replace BK609 := Aside0.mk (blk_below (g := gb609) (o := .cells #[.slice Ao96 x610000_5.length co96] 31 (0, 0)) bk_ hb)
          replace BK610 := Aside0.mk (blk_below (g := gb610) (o := .cells #[.slice Ao99 x611000_5.length co99] 31 (0, 0)) bk_ hb)
          replace HR642_0 := Aside0.mk (Kd.C_below (by repeat (first | (with_reducible exact HR642_0.out) | (with_reducible refine Kd.C_alloc ?_ _) | (with_reducible refine Kd.C_drewN ?_ _) | (with_reducible refine Kd.C_drew ?_) | exact HR642_0.out)) hb)
          replace HR645_0 := Aside0.mk (Kd.C_below (by repeat (first | (with_reducible exact HR645_0.out) | (with_reducible refine Kd.C_alloc ?_ _) | (with_reducible refine Kd.C_drewN ?_ _) | (with_reducible refine Kd.C_drew ?_) | exact HR645_0.out)) hb)
          replace HB := Aside0.mk (below_step bl_ hb)
          (try clear hb)
          (try clear hb2)
          (try clear hk)
          (try clear hi)
          refine hK.out _ _ ⟨(blk_cell BK610.out 0).trans rfl, HS1_⟩ (fun hHeld => ?_)
          clear hK K
          refine norm_ (a' := ?_) ?_ ?_
          rotate_left
          ·show Act.put _ (some 67) _ = _
           simp only [Act.put, List.setIfInBounds_toArray, List.set_cons_zero, List.set_cons_succ, i64_w, i32_w]
           rfl
          refine pu_ HT_ 6 61 (bm 11 127) ?_
          refine pu_ HT_ 7 68 (bm 11 255) ?_
          refine pu_ HT_ 8 69 (bm 11 511) ?_
          refine pu_ HT_ 9 13 (bm 11 1023) ?_
          refine pu_ HT_ 10 14 #[true, true, true, true, true, true, true, true, true, true, true] ?_
          refine done_ (done_of HT_.out (by kernel_rfl)) ?_
          try go_wp2
          go_roundg k2
          case measure => have := HJ5.out; have := HK2.out; omega
          case rel => exact ⟨(false), (wrap64 (x10_2 + 1)), rs_, rs_, H', ⟨by have := HJ5.out; have := HK2.out; omega⟩, ⟨pN_ HO_9.out⟩, ⟨pV_ HO_610000.out⟩, ⟨pV_ HO_611000.out⟩, ⟨bk_⟩, ⟨bk_⟩, ⟨bl_⟩⟩
        ·rw [if_neg c85] at H
         have c85b0 : (t647 == 0) = false := beq_eq_false_iff_ne.mpr c85
         have c85b1 : (t647 != 0) = true := bne_iff_ne.mpr c85
         exact absurd (Option.some.inj H) (by rw [hrt]; decide)
       ·rw [if_neg c84] at H
        have c84b0 : (t644 == 0) = false := beq_eq_false_iff_ne.mpr c84
        have c84b1 : (t644 != 0) = true := bne_iff_ne.mpr c84
        exact absurd (Option.some.inj H) (by rw [hrt]; decide)
      ·rw [if_neg c81] at H
       exact absurd H (by simp)
     ·rw [if_neg c80] at H
      have c80b0 : decide (x10_2 < (t637.length : Int)) = false := decide_eq_false c80
      clear c80
      replace H := Option.bind_eq_some_iff.mp H
      obtain ⟨t640, A1150, H⟩ := H
      replace H : (if (x8_2 == t640) = true then ((exactppllaw19_awake.f).bind fun t641 => (some t641)) else (some false)) = some r := H
      have A115 := Aside0.mk A1150
      clear A1150
      by_cases c116 : (x8_2 == t640) = true
      ·rw [if_pos c116] at H
       have c116b0 : (x8_2 == t640) = true := c116
       (try (have c116b1 : decide (x8_2 = t640) = true := by simpa using c116))
       (try (have c116b2 : (x8_2 == t640) = true := by simpa using c116))
       clear c116
       replace H := Option.bind_eq_some_iff.mp H
       obtain ⟨t641, A1170, H⟩ := H
       replace H : (some t641) = some r := H
       have A117 := Aside0.mk A1170
       clear A1170
       obtain rfl := Option.some.inj H
       obtain ⟨Ao118, co118, eo118⟩ := Kd.N_slice HO_9.out
       subst eo118
       have hnb119 := NB609_610.out
       have hnc119 := NB610_609.out
       obtain ⟨hcz120_0, hfz120_0⟩ := cf1_ BK609.out
       obtain ⟨hcz121_0, hfz121_0⟩ := cf1_ BK610.out
       obtain ⟨Ao122, co122, eo122⟩ := Kd.V_slice HO_610000.out
       subst eo122
       obtain ⟨Ao123, co123, eo123⟩ := Kd.V_slice HO_611000.out
       subst eo123
       go_wp2_with (first | ((with_reducible refine gate_callee (f := 20) rfl ?_); refine goesL_ (some 85) rfl rfl Tryd.func20 (by kernel_rfl) rfl #[.agg #[.slice Ao122 x610000_5.length co122], .agg #[.slice Ao123 x611000_5.length co123]] rfl (by (try simp only [List.map_toArray, List.map_cons, List.map_nil]); first | done | rfl | (simp only [List.length_drop, List.length_take]; rfl)) ?_; (with_reducible refine (exactpplref19_Same.calls k2 _ _ x610000_5 _ _ x611000_5 t640 _ ?side1 ?side2 ?side3 ?side4 A115.out).mono ?_); (case side1 => repeat (first | exact (Kd.V_reads' HO_610000.out).2.2 | (with_reducible refine Kd.C_alloc ?_ _) | (with_reducible refine Kd.C_drewN ?_ _) | (with_reducible refine Kd.C_drew ?_))); (case side2 => exact (Kd.V_reads' HO_610000.out).2.1); (case side3 => repeat (first | exact (Kd.V_reads' HO_611000.out).2.2 | (with_reducible refine Kd.C_alloc ?_ _) | (with_reducible refine Kd.C_drewN ?_ _) | (with_reducible refine Kd.C_drew ?_))); (case side4 => exact (Kd.V_reads' HO_611000.out).2.1); rintro e w124 ⟨rfl, hb⟩; refine ⟨_, rfl, ?_⟩; replace HO_9 := Aside0.mk (Kd.N_below (pN_ HO_9.out) hb); replace HO_610000 := Aside0.mk (Kd.V_below (pV_ HO_610000.out) hb); replace HO_611000 := Aside0.mk (Kd.V_below (pV_ HO_611000.out) hb); replace BK609 := Aside0.mk (blk_below (g := gb609) (o := .cells #[.slice Ao122 x610000_5.length co122] 31 (0, 0)) bk_ hb); replace BK610 := Aside0.mk (blk_below (g := gb610) (o := .cells #[.slice Ao123 x611000_5.length co123] 31 (0, 0)) bk_ hb); replace HB := Aside0.mk (below_step bl_ hb); (try clear hb); (try clear hb2); (try clear hk); (try clear hi)) | (go_at_call 17; (with_reducible refine (exactppllaw19_awake.calls  t641 _ A117.out ?tab).mono ?_); (case tab => exact ptab HTAB.out bl_); rintro e w125 ⟨rfl, hb⟩; replace HO_9 := Aside0.mk (Kd.N_below (pN_ HO_9.out) hb); replace HO_610000 := Aside0.mk (Kd.V_below (pV_ HO_610000.out) hb); replace HO_611000 := Aside0.mk (Kd.V_below (pV_ HO_611000.out) hb); replace BK609 := Aside0.mk (blk_below (g := gb609) (o := .cells #[.slice Ao122 x610000_5.length co122] 31 (0, 0)) bk_ hb); replace BK610 := Aside0.mk (blk_below (g := gb610) (o := .cells #[.slice Ao123 x611000_5.length co123] 31 (0, 0)) bk_ hb); replace HB := Aside0.mk (below_step bl_ hb); (try clear hb); (try clear hb2); (try clear hk); (try clear hi)))
       go_ret
       exact ⟨re_, bl_⟩
      ·rw [if_neg c116] at H
       have c116b0 : (x8_2 == t640) = false := by simpa using c116
       (try (have c116b1 : decide (x8_2 = t640) = false := by simpa using c116))
       (try (have c116b2 : (x8_2 == t640) = false := by simpa using c116))
       (try (have c116b3 : ¬ (x8_2 = t640) := by simpa using c116))
       clear c116
       exact absurd (Option.some.inj H) (by rw [hrt]; decide)
/-- THE ONE PURE STATEMENT of exactppllaw19_DiagramUnique: yours. -/
def exactppllaw19_DiagramUnique.Pure : Prop := ∀ (l0 : List Int), l0.length ≤ maxLen → l0.length * 8 ≤ 140737488351232 → (∀ x ∈ l0, (Lit.int .i64 x).wf = true) → ∃ k, exactppllaw19_DiagramUnique.f k l0 = some true
theorem exactppllaw19_DiagramUnique.walk (P : exactppllaw19_DiagramUnique.Pure) (a0 : Option Addr) (len0 cap0 : Nat) (z0 : List Int) (w : World) (htab : PowTab w.heap.size w) (w0 : (a0 = none ∧ len0 = 0 ∧ cap0 = 0 ∧ z0 = []) ∨ ∃ x, a0 = some x ∧ len0 ≤ cap0 ∧ cap0 ≤ maxLen ∧ z0.length = cap0 ∧ (∀ i, i < z0.length → w.cell? (x.add i) = some (.int .i64 (z0.getD i 0))) ∧ ∀ n ∈ z0, (Lit.int .i64 n).wf = true) (y0 : len0 * 8 ≤ 140737488351232) :
  Calls Tryd.prog 10 #[.slice a0 len0 cap0] w fun e w' => e = .returned (.bool true) ∧ Below w.heap.size w w' := by
 obtain ⟨l0, rfl, hr0, hm0, hw0, hc0⟩ := ReadsInt.ofRowC w0
 obtain ⟨k, h⟩ := P l0 hm0 y0 hw0
 refine (exactppllaw19_DiagramUnique.calls k _ _ l0 true w (Kd.C_of_reads (d := (0 : Int)) (h1 := fun _ => rfl) hr0) hc0 h htab rfl).mono ?_
 rintro e w' ⟨rfl, hd⟩
 exact ⟨rfl, hd⟩

end Go.Proofs.YtopbjginpmdebaaDoor.K
namespace Go.Proofs.YtopbjginpmdebaaDoor.K
set_option linter.unusedVariables false
set_option linter.unusedSimpArgs false
/-- the value of node i for an assignment, d levels -/
def ev (u : List Nd) : Nat → Int → (Int → Nat) → Int
  | 0, _, _ => 0
  | d + 1, i, σ => if (nth u i).f0 < 0 then (nth u i).f1 else ev u d ((nth u i).f2.getD (σ (nth u i).f0) 0) σ
def evl (u : List Nd) (i : Int) (σ : Int → Nat) : Int := ev u (i.toNat + 1) i σ
/-- an assignment for a shape -/
def Val (sh : Int → Nat) (σ : Int → Nat) : Prop := ∀ s, σ s < sh s
def setA (σ : Int → Nat) (s : Int) (k : Nat) : Int → Nat := fun x => if x = s then k else σ x
theorem Val.set {sh σ : Int → Nat} (h : Val sh σ) {s : Int} {k : Nat} (hk : k < sh s) : Val sh (setA σ s k) := by
  intro x
  unfold setA
  split
  · rename_i e; rw [e]; exact hk
  · exact h x
/-- a reduced list whose branches of a site have one number of kids, greater sites below -/
structure Sh (sh : Int → Nat) (u : List Nd) : Prop where
  red : Red u
  ord : ∀ i : Nat, i < u.length → ∀ k ∈ (nth u i).f2, (nth u k).f0 < 0 ∨ (nth u i).f0 < (nth u k).f0
  len : ∀ n ∈ u, 0 ≤ n.f0 → n.f2.length = sh n.f0
theorem getD_mem {l : List Int} {j : Nat} (h : j < l.length) : l.getD j 0 ∈ l := by
  rw [List.getD_eq_getElem?_getD, List.getElem?_eq_getElem h]; exact List.getElem_mem h
theorem getD_out {l : List Int} {j : Nat} (h : l.length ≤ j) : l.getD j 0 = 0 := by
  rw [List.getD_eq_getElem?_getD, List.getElem?_eq_none h]; rfl
theorem nth_memN {u : List Nd} {i : Nat} (h : i < u.length) : nth u i ∈ u := nth_mem (by omega) (by omega)
theorem kid_lt {u : List Nd} (hu : Fit u) {i : Nat} (hi : i < u.length) (h0 : 0 ≤ (nth u i).f0) (j : Nat) : 0 ≤ (nth u i).f2.getD j 0 ∧ (nth u i).f2.getD j 0 < i := by
  rcases Nat.lt_or_ge j (nth u i).f2.length with h | h
  · exact hu.1 i hi _ (getD_mem h)
  · rw [getD_out h]
    have hne := hu.2 _ (nth_memN hi) h0
    obtain ⟨x, hx⟩ := List.exists_mem_of_ne_nil _ hne
    have := hu.1 i hi x hx
    omega
theorem ev_fuel {u : List Nd} (hu : Fit u) (σ : Int → Nat) : ∀ (i : Nat), i < u.length → ∀ d, i < d → ev u d i σ = ev u (i + 1) i σ := by
  intro i
  induction i using Nat.strongRecOn with
  | _ i ih =>
    intro hi d hd
    obtain ⟨d, rfl⟩ : ∃ e, d = e + 1 := ⟨d - 1, by omega⟩
    simp only [ev]
    by_cases h0 : (nth u i).f0 < 0
    · rw [if_pos h0, if_pos h0]
    · rw [if_neg h0, if_neg h0]
      obtain ⟨c0, c1⟩ := kid_lt hu hi (by omega) (σ (nth u i).f0)
      obtain ⟨c, hc⟩ : ∃ c : Nat, (nth u i).f2.getD (σ (nth u i).f0) 0 = c := ⟨_, (Int.toNat_of_nonneg c0).symm⟩
      rw [hc] at c1 ⊢
      rw [ih c (by omega) (by omega) d (by omega), ih c (by omega) (by omega) i (by omega)]
theorem evl_eq {u : List Nd} (hu : Fit u) (σ : Int → Nat) {i : Nat} (hi : i < u.length) : evl u i σ = if (nth u i).f0 < 0 then (nth u i).f1 else evl u ((nth u i).f2.getD (σ (nth u i).f0) 0) σ := by
  unfold evl
  rw [Int.toNat_natCast]
  by_cases h0 : (nth u i).f0 < 0
  · simp only [ev]
    rw [if_pos h0, if_pos h0]
  · simp only [ev]
    rw [if_neg h0, if_neg h0]
    obtain ⟨c0, c1⟩ := kid_lt hu hi (by omega) (σ (nth u i).f0)
    obtain ⟨c, hc⟩ : ∃ c : Nat, (nth u i).f2.getD (σ (nth u i).f0) 0 = c := ⟨_, (Int.toNat_of_nonneg c0).symm⟩
    rw [hc] at c1 ⊢
    rw [Int.toNat_natCast]
    exact ev_fuel hu σ c (by omega) i (by omega)
theorem evl_leaf {u : List Nd} (hu : Fit u) (σ : Int → Nat) {i : Nat} (hi : i < u.length) (h : (nth u i).f0 < 0) : evl u i σ = (nth u i).f1 := by rw [evl_eq hu σ hi, if_pos h]
theorem evl_br {u : List Nd} (hu : Fit u) (σ : Int → Nat) {i : Nat} (hi : i < u.length) (h : 0 ≤ (nth u i).f0) : evl u i σ = evl u ((nth u i).f2.getD (σ (nth u i).f0) 0) σ := by rw [evl_eq hu σ hi, if_neg (by omega)]
theorem kid_top {sh : Int → Nat} {u : List Nd} (h : Sh sh u) {i : Nat} (hi : i < u.length) (h0 : 0 ≤ (nth u i).f0) (j : Nat) : (nth u ((nth u i).f2.getD j 0)).f0 < 0 ∨ (nth u i).f0 < (nth u ((nth u i).f2.getD j 0)).f0 := by
  rcases Nat.lt_or_ge j (nth u i).f2.length with h1 | h1
  · exact h.ord i hi _ (getD_mem h1)
  · rw [getD_out h1]
    refine .inl ?_
    rcases Int.lt_or_le (nth u 0).f0 0 with h2 | h2
    · exact h2
    · exfalso
      have := kid_lt h.red.fit (i := 0) (by omega) h2 0
      omega
/-- only the sites from the node's on matter -/
theorem evl_agree {sh : Int → Nat} {u : List Nd} (h : Sh sh u) : ∀ (i : Nat), i < u.length → ∀ σ τ : Int → Nat, ((nth u i).f0 < 0 ∨ ∀ x, (nth u i).f0 ≤ x → σ x = τ x) → evl u i σ = evl u i τ := by
  intro i
  induction i using Nat.strongRecOn with
  | _ i ih =>
    intro hi σ τ hx
    by_cases h0 : (nth u i).f0 < 0
    · rw [evl_leaf h.red.fit σ hi h0, evl_leaf h.red.fit τ hi h0]
    · have hx := hx.resolve_left h0
      rw [evl_br h.red.fit σ hi (by omega), evl_br h.red.fit τ hi (by omega), ← hx _ (Int.le_refl _)]
      obtain ⟨c0, c1⟩ := kid_lt h.red.fit hi (by omega) (σ (nth u i).f0)
      have ht := kid_top h hi (by omega) (σ (nth u i).f0)
      obtain ⟨c, hc⟩ : ∃ c : Nat, (nth u i).f2.getD (σ (nth u i).f0) 0 = c := ⟨_, (Int.toNat_of_nonneg c0).symm⟩
      rw [hc] at c1 ht ⊢
      refine ih c (by omega) (by omega) σ τ ?_
      rcases ht with ht | ht
      · exact .inl ht
      · exact .inr fun x hx' => hx x (by omega)
/-- a kid's value is the branch's for its outcome -/
theorem evl_kid {sh : Int → Nat} {u : List Nd} (h : Sh sh u) {i : Nat} (hi : i < u.length) (h0 : 0 ≤ (nth u i).f0) (σ : Int → Nat) (k : Nat) : evl u i (setA σ (nth u i).f0 k) = evl u ((nth u i).f2.getD k 0) σ := by
  have e : setA σ (nth u i).f0 k (nth u i).f0 = k := by unfold setA; rw [if_pos rfl]
  rw [evl_br h.red.fit _ hi h0, e]
  obtain ⟨c0, c1⟩ := kid_lt h.red.fit hi h0 k
  have ht := kid_top h hi h0 k
  obtain ⟨c, hc⟩ : ∃ c : Nat, (nth u i).f2.getD k 0 = c := ⟨_, (Int.toNat_of_nonneg c0).symm⟩
  rw [hc] at c1 ht ⊢
  refine evl_agree h c (by omega) _ _ ?_
  rcases ht with ht | ht
  · exact .inl ht
  · refine .inr fun x hx => ?_
    unfold setA
    rw [if_neg (by omega)]
theorem evl_above {sh : Int → Nat} {u : List Nd} (h : Sh sh u) {j : Nat} (hj : j < u.length) {s : Int} (hs : (nth u j).f0 < 0 ∨ s < (nth u j).f0) (σ : Int → Nat) (k : Nat) : evl u j (setA σ s k) = evl u j σ := by
  refine evl_agree h j hj _ _ ?_
  rcases hs with hs | hs
  · exact .inl hs
  · refine .inr fun x hx => ?_
    unfold setA
    rw [if_neg (by omega)]
theorem sameK_of {l : List Int} {x : Int} (h : ∀ k ∈ l, k = x) : sameK l = true := by
  cases l with
  | nil => rfl
  | cons a l =>
    refine List.all_eq_true.2 fun k hk => ?_
    have h1 := h k hk
    have h2 := h a List.mem_cons_self
    simp [h1, h2]
theorem mem_getD {l : List Int} {x : Int} (h : x ∈ l) : ∃ k, k < l.length ∧ l.getD k 0 = x := by
  obtain ⟨k, hk, rfl⟩ := List.getElem_of_mem h
  exact ⟨k, hk, by rw [List.getD_eq_getElem?_getD, List.getElem?_eq_getElem hk]; rfl⟩
/-- two nodes of one function are one -/
theorem canon {sh : Int → Nat} {u : List Nd} (h : Sh sh u) (hp : ∀ s, 0 < sh s) : ∀ (N i j : Nat), i + j ≤ N → i < u.length → j < u.length → (∀ σ, Val sh σ → evl u i σ = evl u j σ) → i = j := by
  intro N
  induction N with
  | zero => intro i j h1 _ _ _; omega
  | succ N ih =>
    -- a branch whose function is that of a node above its site
    have key : ∀ i j : Nat, i + j ≤ N + 1 → i < u.length → j < u.length → (∀ σ, Val sh σ → evl u i σ = evl u j σ) → 0 ≤ (nth u i).f0 → ((nth u j).f0 < 0 ∨ (nth u i).f0 < (nth u j).f0) → False := by
      intro i j hij hi hj hσ h0 ht
      have hn := nth_memN hi
      have hl := h.len _ hn h0
      have hall : ∀ k ∈ (nth u i).f2, k = (j : Int) := by
        intro x hx
        obtain ⟨k, hk, rfl⟩ := mem_getD hx
        obtain ⟨c0, c1⟩ := kid_lt h.red.fit hi h0 k
        obtain ⟨c, hc⟩ : ∃ c : Nat, (nth u i).f2.getD k 0 = c := ⟨_, (Int.toNat_of_nonneg c0).symm⟩
        have e1 := fun σ => evl_kid h hi h0 σ k
        rw [hc] at c1 e1 ⊢
        congr 1
        refine ih c j (by omega) (by omega) hj fun σ hv => ?_
        rw [← e1 σ, hσ _ (hv.set (by omega)), evl_above h hj ht]
      have := h.red.thin _ hn (h.red.full _ hn h0).1
      rw [sameK_of hall] at this
      cases this
    intro i j hij hi hj hσ
    by_cases hi0 : (nth u i).f0 < 0
    · by_cases hj0 : (nth u j).f0 < 0
      · have e := hσ (fun _ => 0) (fun s => hp s)
        rw [evl_leaf h.red.fit _ hi hi0, evl_leaf h.red.fit _ hj hj0] at e
        have li := h.red.leafy _ (nth_memN hi) hi0
        have lj := h.red.leafy _ (nth_memN hj) hj0
        have := nodup_nth h.red.nodup (i := (i : Int)) (j := (j : Int)) ⟨by omega, by omega⟩ ⟨by omega, by omega⟩ (nd_ext (li.1.trans lj.1.symm) e (li.2.trans lj.2.symm))
        omega
      · exact (key j i (by omega) hj hi (fun σ hv => (hσ σ hv).symm) (by omega) (.inl hi0)).elim
    · by_cases hj0 : (nth u j).f0 < 0
      · exact (key i j hij hi hj hσ (by omega) (.inl hj0)).elim
      · rcases Int.lt_trichotomy (nth u i).f0 (nth u j).f0 with hlt | heq | hlt
        · exact (key i j hij hi hj hσ (by omega) (.inr hlt)).elim
        · have hli := h.len _ (nth_memN hi) (by omega)
          have hlj := h.len _ (nth_memN hj) (by omega)
          have fi := h.red.full _ (nth_memN hi) (by omega)
          have fj := h.red.full _ (nth_memN hj) (by omega)
          have e2 : (nth u i).f2 = (nth u j).f2 := by
            refine List.ext_getElem (by rw [hli, hlj, heq]) fun k hk1 hk2 => ?_
            obtain ⟨c0, c1⟩ := kid_lt h.red.fit hi (by omega) k
            obtain ⟨d0, d1⟩ := kid_lt h.red.fit hj (by omega) k
            obtain ⟨c, hc⟩ : ∃ c : Nat, (nth u i).f2.getD k 0 = c := ⟨_, (Int.toNat_of_nonneg c0).symm⟩
            obtain ⟨d, hd⟩ : ∃ d : Nat, (nth u j).f2.getD k 0 = d := ⟨_, (Int.toNat_of_nonneg d0).symm⟩
            have e1 := fun σ => evl_kid h hi (by omega) σ k
            have e2 := fun σ => evl_kid h hj (by omega) σ k
            rw [hc] at c1 e1
            rw [hd] at d1 e2
            have : c = d := ih c d (by omega) (by omega) (by omega) fun σ hv => by
              rw [← e1 σ, ← e2 σ, ← heq]
              exact hσ _ (hv.set (by omega))
            have g1 : (nth u i).f2[k] = (nth u i).f2.getD k 0 := by rw [List.getD_eq_getElem?_getD, List.getElem?_eq_getElem hk1]; rfl
            have g2 : (nth u j).f2[k] = (nth u j).f2.getD k 0 := by rw [List.getD_eq_getElem?_getD, List.getElem?_eq_getElem hk2]; rfl
            rw [g1, g2, hc, hd, this]
          have := nodup_nth h.red.nodup (i := (i : Int)) (j := (j : Int)) ⟨by omega, by omega⟩ ⟨by omega, by omega⟩ (nd_ext heq (fi.2.trans fj.2.symm) e2)
          omega
        · exact (key j i (by omega) hj hi (fun σ hv => (hσ σ hv).symm) (by omega) (.inr hlt)).elim
/-- the longer list has the shorter one's values -/
theorem evl_pre {u v : List Nd} (hu : Fit u) (hv : Fit v) (h : u <+: v) (σ : Int → Nat) : ∀ (i : Nat), i < u.length → evl v i σ = evl u i σ := by
  intro i
  induction i using Nat.strongRecOn with
  | _ i ih =>
    intro hi
    have hl := h.length_le
    rw [evl_eq hu σ hi, evl_eq hv σ (by omega), nth_prefix h (by omega) (by omega)]
    by_cases h0 : (nth u i).f0 < 0
    · rw [if_pos h0, if_pos h0]
    · rw [if_neg h0, if_neg h0]
      obtain ⟨c0, c1⟩ := kid_lt hu hi (by omega) (σ (nth u i).f0)
      obtain ⟨c, hc⟩ : ∃ c : Nat, (nth u i).f2.getD (σ (nth u i).f0) 0 = c := ⟨_, (Int.toNat_of_nonneg c0).symm⟩
      rw [hc] at c1 ⊢
      exact ih c (by omega) (by omega)
theorem evl_preI {u v : List Nd} (hu : Fit u) (hv : Fit v) (h : u <+: v) (σ : Int → Nat) {i : Int} (h0 : 0 ≤ i) (hi : i < u.length) : evl v i σ = evl u i σ := by
  have := evl_pre hu hv h σ i.toNat (by omega)
  rwa [Int.toNat_of_nonneg h0] at this
theorem mp_getD {φ : PM} {l : List Int} {k : Nat} (h : k < l.length) : (mp φ l).getD k 0 = (φ (l.getD k 0)).getD 0 := by
  unfold mp
  rw [List.getD_eq_getElem?_getD, List.getD_eq_getElem?_getD, List.getElem?_map, List.getElem?_eq_getElem h]; rfl
theorem evl_iso {u v : List Nd} {φ : PM} (h : Iso u v φ) (hu : Fit u) (hv : Fit v) {sh : Int → Nat} (hl : ∀ n ∈ u, 0 ≤ n.f0 → n.f2.length = sh n.f0) {σ : Int → Nat} (hσ : Val sh σ) : ∀ (i : Nat) (a : Int), φ i = some a → evl u i σ = evl v a σ := by
  intro i
  induction i using Nat.strongRecOn with
  | _ i ih =>
    intro a ha
    obtain ⟨_, a0, i1, a1, hn, hk⟩ := h.node i a ha
    obtain ⟨b, rfl⟩ : ∃ b : Nat, a = b := ⟨_, (Int.toNat_of_nonneg a0).symm⟩
    rw [evl_eq hu σ (by omega), evl_eq hv σ (by omega), hn]
    simp only
    by_cases h0 : (nth u i).f0 < 0
    · rw [if_pos h0, if_pos h0]
    · rw [if_neg h0, if_neg h0]
      have hlen : σ (nth u i).f0 < (nth u i).f2.length := by rw [hl _ (nth_memN (by omega)) (by omega)]; exact hσ _
      rw [mp_getD hlen]
      obtain ⟨c0, c1⟩ := kid_lt hu (i := i) (by omega) (by omega) (σ (nth u i).f0)
      have hm := getD_mem hlen
      obtain ⟨c, hc⟩ : ∃ c : Nat, (nth u i).f2.getD (σ (nth u i).f0) 0 = c := ⟨_, (Int.toNat_of_nonneg c0).symm⟩
      rw [hc] at c1 hm ⊢
      obtain ⟨d, hd⟩ := Option.isSome_iff_exists.1 (hk _ hm)
      rw [hd]
      exact ih c (by omega) d hd
/-- what a branch's place tells -/
theorem evl_placeB {u : List Nd} {s : Int} {ks : List Int} (hu : Red u) (hs : 0 ≤ s) (hk : ∀ k ∈ ks, 0 ≤ k ∧ k < (u.length : Int)) {σ : Int → Nat} (hσ : σ s < ks.length) :
    evl (placeB u s ks).1 (placeB u s ks).2 σ = evl u (ks.getD (σ s) 0) σ := by
  have hne : ks ≠ [] := by intro e; rw [e] at hσ; simp at hσ
  have hm := getD_mem hσ
  obtain ⟨h0, h1⟩ := hk _ hm
  have hr := hu.placeB hs hk hne
  by_cases hq : sameK ks = true
  · have e : placeB u s ks = (u, ks.headD 0) := by unfold placeB; rw [if_pos hq]
    rw [e, sameK_head hq _ hm]
  · have e : placeB u s ks = place0 u ⟨s, 0, ks⟩ := by unfold placeB; rw [if_neg hq]
    rw [e] at hr ⊢
    obtain ⟨p0, p1⟩ := place0_lt u ⟨s, 0, ks⟩
    have hn := place0_nth u ⟨s, 0, ks⟩
    obtain ⟨b, hb⟩ : ∃ b : Nat, (place0 u ⟨s, 0, ks⟩).2 = b := ⟨_, (Int.toNat_of_nonneg p0).symm⟩
    rw [hb] at p1 hn ⊢
    rw [evl_br hr.fit σ (by omega) (by rw [hn]; exact hs), hn]
    exact evl_preI hu.fit hr.fit (place0_pre _ _) σ h0 h1
theorem evl_place0 {u : List Nd} {v : Int} (hr : Red (place0 u ⟨-1, v, []⟩).1) (σ : Int → Nat) : evl (place0 u ⟨-1, v, []⟩).1 (place0 u ⟨-1, v, []⟩).2 σ = v := by
  obtain ⟨p0, p1⟩ := place0_lt u ⟨-1, v, []⟩
  have hn := place0_nth u ⟨-1, v, []⟩
  obtain ⟨b, hb⟩ : ∃ b : Nat, (place0 u ⟨-1, v, []⟩).2 = b := ⟨_, (Int.toNat_of_nonneg p0).symm⟩
  rw [hb] at p1 hn ⊢
  rw [evl_leaf hr.fit σ (by omega) (by rw [hn]; show (-1 : Int) < 0; omega), hn]
theorem lk_new (at_ : List Int) (x : Int) {c : Int} (h : c = (at_.length : Int)) : lk (at_ ++ [x]) c = x := by
  subst h
  unfold lk
  rw [List.getD_eq_getElem?_getD, Int.toNat_natCast, List.getElem?_append_right (Nat.le_refl _)]
  simp
theorem lk_old {at_ : List Int} {x : Int} {c : Nat} (h : c < at_.length) : lk (at_ ++ [x]) (c : Int) = lk at_ (c : Int) := by
  unfold lk
  rw [List.getD_eq_getElem?_getD, List.getD_eq_getElem?_getD, List.getElem?_append_left (by omega)]
/-- storing a graph keeps its values -/
theorem evl_imp {sh : Int → Nat} {l u : List Nd} (hl : Fit l) (hlen : ∀ n ∈ l, 0 ≤ n.f0 → n.f2.length = sh n.f0) (hu : Red u) {σ : Int → Nat} (hσ : Val sh σ) : ∀ k, k ≤ l.length → ∀ c : Nat, c < k → evl (imp u [] (l.take k)).1 (lk (imp u [] (l.take k)).2 (c : Int)) σ = evl l c σ := by
  intro k
  induction k with
  | zero => intro _ c hc; omega
  | succ k ih =>
    intro hk c hc
    have ih := ih (by omega)
    obtain ⟨t1, t2, t3⟩ := imp_tbl hl (u := u) ⟨hu.down, hu.nodup, by simp⟩ k (by omega)
    have hr := imp_red hl hu k (by omega)
    have hr2 := imp_red hl hu (k + 1) (by omega)
    have hlen2 := imp_len (l.take k) u []
    have hdn := hl.1 k (by omega)
    have hmem : nth l k ∈ l := nth_memN (by omega)
    rw [take_snoc' (ns := l) (k := k) (by omega), imp_snoc] at hr2 ⊢
    generalize hI : imp u [] (l.take k) = I at ih t1 t2 t3 hr hlen2 hr2 ⊢
    obtain ⟨v, at_⟩ := I
    simp only at ih t1 t2 t3 hr hlen2 hr2 ⊢
    have hal : at_.length = k := by rw [hlen2]; simp; omega
    have hpre : v <+: (place1 v at_ (nth l k)).1 := by
      unfold place1
      split
      · exact place0_pre _ _
      · exact placeB_pre _ _ _
    rcases Nat.lt_or_ge c k with h1 | h1
    · rw [lk_old (by omega)]
      obtain ⟨q0, q1⟩ := t1.at_lt _ (lk_mem (at_ := at_) (c := (c : Int)) (by omega) (by omega))
      rw [evl_preI hr.fit hr2.fit hpre σ q0 q1]
      exact ih c h1
    · have e : c = k := by omega
      subst e
      rw [lk_new _ _ (by omega)]
      by_cases h0 : (nth l c).f0 < 0
      · have e : place1 v at_ (nth l c) = place0 v ⟨-1, (nth l c).f1, []⟩ := by unfold place1; rw [if_pos h0]
        rw [e] at hr2 ⊢
        rw [evl_place0 hr2, evl_leaf hl σ (by omega) h0]
      · have e : place1 v at_ (nth l c) = placeB v (nth l c).f0 ((nth l c).f2.map (lk at_)) := by unfold place1; rw [if_neg h0]
        have hs : σ (nth l c).f0 < (nth l c).f2.length := by rw [hlen _ hmem (by omega)]; exact hσ _
        have hkk := t1.kids (l := (nth l c).f2) (fun x hx => by have := hdn x hx; omega)
        rw [e, evl_placeB hr (by omega) hkk (by simpa using hs), evl_br hl σ (by omega) (by omega)]
        obtain ⟨c0, c1⟩ := kid_lt hl (i := c) (by omega) (by omega) (σ (nth l c).f0)
        have e2 : ((nth l c).f2.map (lk at_)).getD (σ (nth l c).f0) 0 = lk at_ ((nth l c).f2.getD (σ (nth l c).f0) 0) := by
          rw [List.getD_eq_getElem?_getD, List.getD_eq_getElem?_getD, List.getElem?_map, List.getElem?_eq_getElem hs]; rfl
        rw [e2]
        obtain ⟨d, hd⟩ : ∃ d : Nat, (nth l c).f2.getD (σ (nth l c).f0) 0 = d := ⟨_, (Int.toNat_of_nonneg c0).symm⟩
        rw [hd] at c1 ⊢
        exact ih d (by omega)
theorem evl_expo {sh : Int → Nat} {u : List Nd} (hu : Red u) (hlen : ∀ n ∈ u, 0 ≤ n.f0 → n.f2.length = sh n.f0) {σ : Int → Nat} (hσ : Val sh σ) {r : Nat} (hr : r < u.length) : evl (expo u r) (((expo u r).length - 1 : Nat) : Int) σ = evl u r σ := by
  obtain ⟨g, h1, h2, h3⟩ := expo_pl hu.down hr
  exact (evl_iso h1.iso hu.fit (h1.red hu).fit hlen hσ r _ h2).symm
/-- what a root gives stays when the table grows -/
theorem expo_pre {u v : List Nd} (hu : Down u) (hv : Down v) (h : u <+: v) {r : Nat} (hr : r < u.length) : expo v r = expo u r := by
  have hl := h.length_le
  have hi : Iso u v (fun i => if 0 ≤ i ∧ i < u.length then some i else none) := by
    refine ⟨fun i j a h1 h2 => ?_, fun i a h1 => ?_⟩
    · by_cases c1 : 0 ≤ i ∧ i < u.length
      · by_cases c2 : 0 ≤ j ∧ j < u.length
        · rw [if_pos c1] at h1; rw [if_pos c2] at h2
          injection h1 with h1; injection h2 with h2; omega
        · rw [if_neg c2] at h2; cases h2
      · rw [if_neg c1] at h1; cases h1
    · by_cases c1 : 0 ≤ i ∧ i < u.length
      · rw [if_pos c1] at h1
        injection h1 with h1
        subst h1
        have hd := hu i.toNat (by omega)
        rw [Int.toNat_of_nonneg c1.1] at hd
        refine ⟨c1.1, c1.1, c1.2, by omega, ?_, fun k hk => ?_⟩
        · rw [nth_prefix h c1.1 c1.2]
          refine nd_ext rfl rfl ?_
          show (nth u i).f2 = mp _ (nth u i).f2
          unfold mp
          refine ((List.map_id' (l := (nth u i).f2)).symm.trans (List.map_congr_left fun k hk => ?_))
          have := hd k hk
          show k = (if 0 ≤ k ∧ k < (u.length : Int) then some k else none).getD 0
          rw [if_pos ⟨this.1, by omega⟩]; rfl
        · have := hd k hk
          show (if 0 ≤ k ∧ k < (u.length : Int) then some k else none).isSome = true
          rw [if_pos ⟨this.1, by omega⟩]; rfl
      · rw [if_neg c1] at h1; cases h1
  exact (expo_iso hi hu hv (i := (r : Int)) (a := (r : Int)) (by rw [if_pos ⟨by omega, by omega⟩])).symm
/-- two canonical diagrams of one function are one -/
theorem can_unique {sh : Int → Nat} (hp : ∀ s, 0 < sh s) {a b : List Nd} (ha : Can a) (hb : Can b) (la : ∀ n ∈ a, 0 ≤ n.f0 → n.f2.length = sh n.f0) (lb : ∀ n ∈ b, 0 ≤ n.f0 → n.f2.length = sh n.f0) (hU : Sh sh (imp (imp [] [] a).1 [] b).1)
    (h : ∀ σ, Val sh σ → evl a ((a.length - 1 : Nat) : Int) σ = evl b ((b.length - 1 : Nat) : Int) σ) : a = b := by
  have pa := ha.ne
  have pb := hb.ne
  have ra := imp_red ha.red.fit red_nil a.length (Nat.le_refl _)
  have ta := (imp_tbl ha.red.fit tbl_nil a.length (Nat.le_refl _)).1
  rw [List.take_length] at ra ta
  have tb := imp_tbl hb.red.fit (u := (imp [] [] a).1) ⟨ra.down, ra.nodup, by simp⟩ b.length (Nat.le_refl _)
  rw [List.take_length] at tb
  obtain ⟨tb, -, hpre⟩ := tb
  have xa := ta.at_lt _ (lk_mem (at_ := (imp [] [] a).2) (c := ((a.length - 1 : Nat) : Int)) (by omega) (by rw [imp_len]; simp; omega))
  have xb := tb.at_lt _ (lk_mem (at_ := (imp (imp [] [] a).1 [] b).2) (c := ((b.length - 1 : Nat) : Int)) (by omega) (by rw [imp_len]; simp; omega))
  have ea := imp_expo ha red_nil
  have eb := imp_expo hb ra
  have va := fun σ (hσ : Val sh σ) => evl_imp ha.red.fit la red_nil hσ a.length (Nat.le_refl _) (a.length - 1) (by omega)
  have vb := fun σ (hσ : Val sh σ) => evl_imp hb.red.fit lb ra hσ b.length (Nat.le_refl _) (b.length - 1) (by omega)
  rw [List.take_length] at va vb
  have hl := hpre.length_le
  obtain ⟨r, hr⟩ : ∃ r : Nat, lk (imp [] [] a).2 ((a.length - 1 : Nat) : Int) = r := ⟨_, (Int.toNat_of_nonneg xa.1).symm⟩
  obtain ⟨t, ht⟩ : ∃ t : Nat, lk (imp (imp [] [] a).1 [] b).2 ((b.length - 1 : Nat) : Int) = t := ⟨_, (Int.toNat_of_nonneg xb.1).symm⟩
  rw [hr] at xa ea va
  rw [ht] at xb eb vb
  have hrt : r = t := canon hU hp (r + t) r t (Nat.le_refl _) (by omega) (by omega) fun σ hσ => by
    rw [vb σ hσ, ← h σ hσ, ← va σ hσ]
    exact evl_pre ra.fit hU.red.fit hpre σ r (by omega)
  rw [← ea, ← eb, ← hrt]
  exact (expo_pre ra.down hU.red.down hpre (by omega)).symm
end Go.Proofs.YtopbjginpmdebaaDoor.K
-- diagram.Restrict, walked
namespace Go.Proofs.YtopbjginpmdebaaDoor.K
open Go.RowKit Go.Maps Go.Proofs.YtopbjginpmdebaaDoorW.PrintWords Go.Proofs.YtopbjginpmdebaaDoorW.PrintLast Go.Proofs.YtopbjginpmdebaaDoorW.PrintMore
set_option linter.unusedVariables false
set_option linter.unusedSimpArgs false
theorem TbSt.on {w W W2 : World} {base t mb N : Nat} {ok : Nat → Prop} {U : List Nd} {at_ : List Int} (h : TbSt w W base t mb ok U at_ N) (hb : Below W.heap.size W W2) : TbSt w W2 base t mb ok U at_ N :=
  ⟨h.tab.below hb, h.touch.trans (Touch.of_below hb ok t mb), h.arr.move (hb.block _ h.arr.lt)⟩
theorem Frm_of {nodes : List Nd} (h : grB nodes = true) : ∀ n ∈ nodes, Frm n := gr_frm h
set_option maxHeartbeats 32000000 in
set_option maxRecDepth 100000 in
theorem restrict_calls (nodes : List Nd) (site oc : Int) (A : Option Addr) (c : Nat) (w : World) (hC : k60.C w A nodes.length nodes) (hc : nodes.length ≤ c) (hI : ∀ n ∈ nodes, I64 n.f0 ∧ I64 n.f1 ∧ n.f2.length ≤ 1073741824) (hroom : (nodes.length + 1) * 40 ≤ 140737488355328) (htab : PowTab w.heap.size w) :
    Calls Tryd.prog 30 #[.agg #[.slice A nodes.length c], .int .i64 site, .int .i64 oc] w (DgPost w (rsL site oc nodes) (rsE site oc nodes)) := by
  have e1 : (w.alloc (.cells #[.slice A nodes.length c] 31)).heap.size = w.heap.size + 1 := by simp
  have hb0 : Below w.heap.size w ((w.alloc (.cells #[.slice A nodes.length c] 31)).alloc (.cells #[.slice none 0 0] 31)) := ((Below.refl _ w).alloc (Nat.le_refl _) _).alloc (by rw [e1]; omega) _
  have hs0 : ((w.alloc (.cells #[.slice A nodes.length c] 31)).alloc (.cells #[.slice none 0 0] 31)).heap.size = w.heap.size + 2 := by simp
  have hd0 : ((w.alloc (.cells #[.slice A nodes.length c] 31)).alloc (.cells #[.slice none 0 0] 31)).heap[w.heap.size]? = some (.cells #[.slice A nodes.length c] 31 (0, 0)) := (Below.heap_alloc _ _ _ (by rw [e1]; omega)).trans (heap_alloc_new w _)
  have hr0 : ((w.alloc (.cells #[.slice A nodes.length c] 31)).alloc (.cells #[.slice none 0 0] 31)).heap[w.heap.size + 1]? = some (.cells #[.slice none 0 0] 31 (0, 0)) := by
    have := heap_alloc_new (w.alloc (.cells #[.slice A nodes.length c] 31)) (.cells #[.slice none 0 0] 31)
    rwa [e1] at this
  have hV := validate_calls nodes A c _ (Kd.C_below hC hb0) hc hI hroom (PowTab.up (htab.on hb0) hb0.size) (fun n hn => Nat.le_trans (redL_kids16 nodes n hn) (by decide))
  have HC := Lib.hid hC
  have HI := Lib.hid hI
  have HTAB := Lib.hid htab
  have HRM := Lib.hid hroom
  obtain ⟨N, hN⟩ : ∃ N, N = nodes.length := ⟨_, rfl⟩
  have HN := Lib.hid hN
  rw [← hN] at hV hc hb0 hs0 hd0 hr0 ⊢
  have b00 : ((w.alloc (Obj.cells #[.slice A N c] 31)).alloc (.cells #[.slice none 0 0] 31)).cell? ⟨w.heap.size, 0, none⟩ = some (.slice A N c) := (blk_cell hd0 0).trans rfl
  have HB0 := Lib.hid hb0
  have HD0 := Lib.hid hd0
  have HR0 := Lib.hid hr0
  have HS0 := Lib.hid hs0
  clear hC hI htab hroom hN hb0 hd0 hr0 hs0 e1
  by_cases h0 : valE nodes = 0
  · have HV0 := Lib.hid h0
    rw [h0] at hV
    obtain ⟨hgr, hcn, hl20⟩ := val_ok h0
    have hp := gr_pos hgr
    have HGR := Lib.hid hgr
    rw [← HN.out] at hp hl20
    clear h0 hcn hgr
    have hmk := print_make (P := Tryd.prog) 22 3 .i64 8 Tryd.underlying22 info3 (by decide) N (by omega)
    go_enter Tryd.func30, Tryd.ntmps30
    go_wp2_with (first
      | (go_at_call 21; refine hV.mono ?_; clear hV; rintro e w1 ⟨rfl, hb1⟩; have HB1 := Lib.hid (HB0.out.trans (hb1.mono (by have := HS0.out; omega))); have hd1 := (hb1.block _ (blk_lt HD0.out)).trans HD0.out; have hr1 := (hb1.block _ (blk_lt HR0.out)).trans HR0.out; have b1 : w1.cell? ⟨w.heap.size, 0, none⟩ = some (.slice A N c) := (blk_cell hd1 0).trans rfl; have HD1 := Lib.hid hd1; have HR1 := Lib.hid hr1; have hs1 := blk_lt hr1; clear hb1 hd1 hr1)
      | (go_at_call 46; refine (new_calls w1).mono ?_; rintro e w2 ⟨rfl, hb2, hs2, hT2⟩; have HB2 := Lib.hid (HB1.out.trans (hb2.mono HB1.out.size)); have hd2 := (hb2.block _ (blk_lt HD1.out)).trans HD1.out; have hr2 := (hb2.block _ (blk_lt HR1.out)).trans HR1.out; have b2 : w2.cell? ⟨w.heap.size, 0, none⟩ = some (.slice A N c) := (blk_cell hd2 0).trans rfl; have hltd := blk_lt hd2; have HD2 := Lib.hid hd2; have HR2 := Lib.hid hr2; have HS2 := Lib.hid hs2; have hlt2 := blk_lt hr2; have HT2 := Lib.hid (TbSt.first (hT2 w1.heap.size (Nat.le_refl _)) N (by omega)); clear hb2 hs2 hT2 hd2 hr2))
    have hO0 := okNew_ok w1.heap.size (Nat.le_refl _) HS2.out
    have HO := Lib.hid hO0
    have ht : w1.heap.size + 1 < w2.heap.size := by have := HS2.out; omega
    have hmb : w1.heap.size < w2.heap.size := by omega
    have hwsz := HB1.out.size
    have htab2 : PowTab w1.heap.size w2 := PowTab.up (HTAB.out.on HB2.out) hwsz
    have HT2b := Lib.hid htab2
    clear hO0 htab2 b00 b1
    go_loopw [32] (fun i wr => ∃ k : Nat, i = .int .i64 k ∧ k ≤ N ∧ TbSt w2 wr w1.heap.size (w1.heap.size + 1) w1.heap.size (okNew w1.heap.size (w1.heap.size + 1) w1.heap.size) (fx site oc [] [] (nodes.take k)).1 (fx site oc [] [] (nodes.take k)).2 N ∧ Aside0 (OcOk site oc (nodes.take k))) (fun i _ => N - (intOf i).toNat)
    case atStart => exact ⟨0, rfl, Nat.zero_le _, by simpa [fx] using HT2.out, ⟨by intro n hn; simp at hn⟩⟩
    case round =>
      obtain ⟨k, rfl, hk, hst, hoc⟩ := hrel
      have HOC := Lib.hid hoc.out
      obtain ⟨U, hUe⟩ : ∃ U, U = (fx site oc [] [] (nodes.take k)).1 := ⟨_, rfl⟩
      obtain ⟨at_, hae⟩ : ∃ at_, at_ = (fx site oc [] [] (nodes.take k)).2 := ⟨_, rfl⟩
      rw [← hUe, ← hae] at hst
      have hat : at_.length = k := by rw [hae, fx_len]; simp; have := HN.out; omega
      obtain ⟨tT, tL⟩ := fx_tbl' (site := site) (oc := oc) (gr_fit HGR.out) (k := k) (by have := HN.out; omega) HOC.out
      rw [← hUe, ← hae] at tT
      rw [← hUe] at tL
      have huk : ∀ x ∈ U, x.f2.length ≤ 16 := by rw [hUe]; exact fx_kids site oc (nodes.take k) [] [] (by simp) (fun x hx => gr_kids HGR.out x (List.mem_of_mem_take hx))
      have hB2 := hst.touch.below (by omega) HO.out
      have hB := HB2.out.trans (hB2.mono hwsz)
      have hsz := hst.touch.size
      have hab := hst.arr.lt
      have hrr : wr.heap[w.heap.size + 1]? = some (.cells #[.slice none 0 0] 31 (0, 0)) := (hB2.block _ (blk_lt HR1.out)).trans HR2.out
      have HRR := Lib.hid hrr
      have HST := Lib.hid hst
      have HUE := Lib.hid hUe
      have HAE := Lib.hid hae
      have HAT := Lib.hid hat
      have HT := Lib.hid tT
      have HTL := Lib.hid tL
      have HUK := Lib.hid huk
      have HBW := Lib.hid hB
      have HBW2 := Lib.hid hB2
      clear hst hUe hae hat tT tL huk hoc hB hB2 hrr
      by_cases hlt : k < N
      · have hkn : k < nodes.length := by have := HN.out; omega
        have hnm : nth nodes k ∈ nodes := by rw [nth_lt hkn]; exact List.getElem_mem hkn
        obtain ⟨ad, A2, c2, rfl, d0, d1, d2, l2, g2⟩ := at_T60 (Kd.C_below HC.out HBW.out) (k : Int) (by omega) (by omega)
        rw [Int.toNat_natCast] at d0 d1 d2
        rw [rd_nth] at d0 d1 d2 l2 g2
        obtain ⟨n, hn⟩ : ∃ n, n = nth nodes (k : Int) := ⟨_, rfl⟩
        rw [← hn] at d0 d1 d2 l2 g2 hnm
        obtain ⟨hI0, hI1, -⟩ := HI.out n hnm
        have hI2 : n.f2.length ≤ 16 := gr_kids HGR.out n hnm
        have hfrm := Frm_of HGR.out n hnm
        have hkids : ∀ c ∈ n.f2, 0 ≤ c ∧ c < (k : Int) := by rw [hn]; exact (gr_fit HGR.out).1 k hkn
        have hsucc : fx site oc [] [] (nodes.take (k + 1)) = ((fx1 site oc U at_ n).1, at_ ++ [(fx1 site oc U at_ n).2]) := by rw [take_snoc' hkn, fx_snoc, ← hn, ← HUE.out, ← HAE.out]
        have hocs : (0 ≤ n.f0 → n.f0 = site → 0 ≤ oc ∧ oc < (n.f2.length : Int)) → OcOk site oc (nodes.take (k + 1)) := fun h => take_mem_oc hkn HOC.out (by rw [← hn]; exact h)
        have hO1 : ∀ W : World, wr.heap.size ≤ W.heap.size → OkT w1.heap.size (w1.heap.size + 1) w1.heap.size (fun j => okNew w1.heap.size (w1.heap.size + 1) w1.heap.size j ∧ j ≠ w2.heap.size) W := fun W hW => ⟨fun j hj => HO.out.old j hj.1, fun j hj => ⟨HO.out.new j (by omega), by omega⟩, HO.out.ht, HO.out.hmb⟩
        have hkb : k < 4000000000000 := by omega
        have hki : (k : Int) < (N : Int) := by omega
        have HKIDS := Lib.hid hkids
        have HFRM := Lib.hid hfrm
        have HSUCC := Lib.hid hsucc
        have HOCS := Lib.hid hocs
        have HO1 := Lib.hid hO1
        have HNN := Lib.hid hn
        have HNM := Lib.hid hnm
        clear hkids hfrm hsucc hocs hO1 hn hnm
        by_cases hneg : n.f0 < 0
        · have hb1 : Below wr.heap.size wr (wr.alloc (.cells #[.int .i64 n.f0, .int .i64 n.f1, .slice A2 n.f2.length c2] 60)) := (Below.refl _ wr).alloc (Nat.le_refl _) _
          have hfx : fx1 site oc U at_ n = place0 U ⟨-1, n.f1, []⟩ := by unfold fx1 place1; rw [if_neg (by omega), if_pos hneg]
          have hA := (leaf_calls w1.heap.size (w1.heap.size + 1) w1.heap.size (fun j => okNew w1.heap.size (w1.heap.size + 1) w1.heap.size j ∧ j ≠ w2.heap.size) U n.f1 _ (HST.out.tab.below hb1) (HO1.out _ hb1.size) (by have := hb1.size; omega) hI1 (by have := HTL.out; have := HRM.out; have := HN.out; omega) (HT2b.out.on (HBW2.out.trans (hb1.mono (by omega))))).mono (R' := fun e w3 => e = .returned (.int .i64 (fx1 site oc U at_ n).2) ∧
              TabS w3 w1.heap.size (w1.heap.size + 1) w1.heap.size (fun j => okNew w1.heap.size (w1.heap.size + 1) w1.heap.size j ∧ j ≠ w2.heap.size) (fx1 site oc U at_ n).1 ∧ Touch wr w3 (fun j => okNew w1.heap.size (w1.heap.size + 1) w1.heap.size j ∧ j ≠ w2.heap.size) (w1.heap.size + 1) w1.heap.size ∧ (∃ v, w3.cell? ⟨w2.heap.size, k, none⟩ = some (.int .i64 v)) ∧ w3.frozen? ⟨w2.heap.size, k, none⟩ = false) (by
            rintro e w3 ⟨rfl, h2, h3⟩
            have h4 := (Touch.of_below hb1 (fun j => okNew w1.heap.size (w1.heap.size + 1) w1.heap.size j ∧ j ≠ w2.heap.size) (w1.heap.size + 1) w1.heap.size).trans h3
            have h5 := HST.out.arr2 ht hmb h4
            have h6 := h5.at k (by rw [padd_len (by rw [HAT.out]; omega)]; exact hlt)
            rw [hfx]
            exact ⟨rfl, h2, h4, ⟨_, h6.1⟩, h6.2⟩)
          obtain ⟨r, hr⟩ : ∃ r, r = fx1 site oc U at_ n := ⟨_, rfl⟩
          rw [← hr] at hA
          have HR := Lib.hid hr
          clear hr hb1 hfx
          go_wp2_with (go_at_call 57; refine hA.mono ?_; clear hA; rintro e w3 ⟨rfl, hT3, hTc3, ⟨v, hv⟩, hf⟩; have HT3 := Lib.hid hT3; have HTC3 := Lib.hid hTc3; clear hT3 hTc3)
          go_roundw
          case rel =>
            refine ⟨k + 1, by go_num, hlt, ?_, ⟨HOCS.out (fun h => by omega)⟩⟩
            rw [HSUCC.out, ← HR.out]
            exact HST.out.next ht hmb HTC3.out HT3.out HAT.out hlt
          case measure => simp [intOf]; omega
        · have hpos : 0 ≤ n.f0 := by omega
          have hb1 : Below wr.heap.size wr (wr.alloc (.cells #[.int .i64 n.f0, .int .i64 n.f1, .slice A2 n.f2.length c2] 60)) := (Below.refl _ wr).alloc (Nat.le_refl _) _
          obtain ⟨M, hM⟩ : ∃ M, M = n.f2.length := ⟨_, rfl⟩
          have HM := Lib.hid hM
          rw [← hM] at d2 l2 hI2 hb1
          have HB1w := Lib.hid hb1
          have HG2 := Lib.hid g2
          by_cases hsite : n.f0 = site
          · have hsb : (n.f0 == site) = true := by simp [hsite]
            by_cases hob : 0 ≤ oc ∧ oc < (n.f2.length : Int)
            · obtain ⟨oN, rfl⟩ : ∃ oN : Nat, oc = oN := ⟨oc.toNat, by omega⟩
              have hoN : oN < n.f2.length := by omega
              have HFX := Lib.hid (show fx1 site (oN : Int) U at_ n = (U, lk at_ (rd n.f2 (oN : Int))) from by unfold fx1; rw [if_pos ⟨hpos, hsite⟩])
              obtain ⟨ad2, rfl, hkc⟩ := reads_at HG2.out (by intro e; rw [e] at hoN; simp at hoN)
              have e0 := hkc oN hoN
              obtain ⟨hc0, hc1⟩ := HKIDS.out _ (rd_mem hob.1 hob.2)
              have hrd : rd n.f2 (oN : Int) = n.f2.getD oN 0 := by unfold rd; rw [Int.toNat_natCast]
              rw [hrd] at hc0 hc1
              obtain ⟨cn, hcn⟩ : ∃ cn : Nat, n.f2.getD oN 0 = cn := ⟨(n.f2.getD oN 0).toNat, by omega⟩
              rw [hcn] at e0 hc1
              have hcN : cn < N := by omega
              have hcNi : (cn : Int) < (N : Int) := by omega
              have hcb : cn < 4000000000000 := by omega
              have hoM : oN < M := by omega
              have hoMi : (oN : Int) < (M : Int) := by omega
              have hoM2 : ¬ ((M : Int) ≤ (oN : Int)) := by omega
              have hobb : oN < 4000000000000 := by omega
              have p0 := HST.out.arr.at cn (by rw [padd_len (by rw [HAT.out]; omega)]; omega)
              rw [padd_get (by rw [HAT.out]; omega)] at p0
              have p1 := p0.1
              have p2 := HST.out.arr.at k (by rw [padd_len (by rw [HAT.out]; omega)]; omega)
              obtain ⟨y, hy⟩ : ∃ y, y = at_.getD cn 0 := ⟨_, rfl⟩
              rw [← hy] at p1
              have hyl : lk at_ (rd n.f2 (oN : Int)) = y := by rw [hrd, hcn, hy]; unfold lk; rw [Int.toNat_natCast]
              have HYL := Lib.hid hyl
              have HSITE := Lib.hid hsite
              have HOB := Lib.hid hob
              obtain ⟨z, hz⟩ : ∃ z, wr.cell? ⟨w2.heap.size, k, none⟩ = some (.int .i64 z) := ⟨_, p2.1⟩
              have hf := p2.2
              have hel := World.block_lt_of_cell? _ _ e0
              clear hkc hrd hcn hy hyl p0 p2 hsite hc0 hob hM hb1 g2
              go_wp2
              go_roundw
              case rel =>
                refine ⟨k + 1, by go_num, hlt, ?_, ⟨HOCS.out (fun _ _ => HOB.out)⟩⟩
                rw [HSUCC.out, HFX.out, HYL.out]
                exact (HST.out.next (z := y) ht hmb (Touch.refl _ _ _ _) HST.out.tab HAT.out hlt).on ((Below.refl _ _).alloc (Nat.le_refl _) _)
              case measure => simp [intOf]; omega
            · have hnoc : ocB site oc nodes = false := by
                cases hq : ocB site oc nodes with
                | false => rfl
                | true => exact absurd (ocB_iff.1 hq n HNM.out hpos hsite) hob
              have hE : rsE site oc nodes = 1 := by unfold rsE; rw [if_pos HV0.out, if_neg (by rw [hnoc]; decide)]
              have hL : rsL site oc nodes = [] := by unfold rsL; rw [if_pos HV0.out, if_neg (by rw [hnoc]; decide)]
              have HE := Lib.hid hE
              have HL := Lib.hid hL
              have f1 := blk_frozen HRR.out 0
              have b1 := blk_cell HRR.out 0
              have hrl := blk_lt HRR.out
              have HSITE := Lib.hid hsite
              clear hE hL hnoc hM hb1 g2 hsite
              by_cases ho0 : oc < 0
              · clear hob
                go_wp2
                have hb3 := blk_set HRR.out 0 (.slice none 0 0)
                have hx := (Below.heap_alloc (wr.setCell ⟨w.heap.size + 1, 0, none⟩ (.slice none 0 0)) (.cells #[.int .i64 n.f0, .int .i64 n.f1, .slice A2 M c2] 60) _ (blk_lt hb3)).trans hb3
                have q0 := (blk_cell hx 0).trans rfl
                have hbz := (HBW.out.setCell (p := ⟨w.heap.size + 1, 0, none⟩) (by show w.heap.size ≤ w.heap.size + 1; omega) (.slice none 0 0)).alloc (by have := HBW.out.size; simp [World.setCell]; omega) (.cells #[.int .i64 n.f0, .int .i64 n.f1, .slice A2 M c2] 60)
                refine bodyPost_ret (v := .tuple #[.agg #[.slice none 0 0], .int .i64 1]) (by simp [results, Tryd.f30, go_sem, q0]) rfl ⟨hbz, _, by rw [HE.out], by rw [HL.out]; exact Kd.R_nil _ _ _ _ _⟩
              · obtain ⟨oN, rfl⟩ : ∃ oN : Nat, oc = oN := ⟨oc.toNat, by omega⟩
                have hoM : (M : Int) ≤ (oN : Int) := by have := HM.out; omega
                have hoM1 : M ≤ oN := by omega
                clear hob ho0
                go_wp2
                have hb3 := blk_set HRR.out 0 (.slice none 0 0)
                have hx := (Below.heap_alloc (wr.setCell ⟨w.heap.size + 1, 0, none⟩ (.slice none 0 0)) (.cells #[.int .i64 n.f0, .int .i64 n.f1, .slice A2 M c2] 60) _ (blk_lt hb3)).trans hb3
                have q0 := (blk_cell hx 0).trans rfl
                have hbz := (HBW.out.setCell (p := ⟨w.heap.size + 1, 0, none⟩) (by show w.heap.size ≤ w.heap.size + 1; omega) (.slice none 0 0)).alloc (by have := HBW.out.size; simp [World.setCell]; omega) (.cells #[.int .i64 n.f0, .int .i64 n.f1, .slice A2 M c2] 60)
                refine bodyPost_ret (v := .tuple #[.agg #[.slice none 0 0], .int .i64 1]) (by simp [results, Tryd.f30, go_sem, q0]) rfl ⟨hbz, _, by rw [HE.out], by rw [HL.out]; exact Kd.R_nil _ _ _ _ _⟩
          · have hsb : (n.f0 == site) = false := by simp [hsite]
            have HFX := Lib.hid (show fx1 site oc U at_ n = placeB U n.f0 (n.f2.map (lk at_)) from by unfold fx1 place1; rw [if_neg (fun h => hsite h.2), if_neg hneg])
            have HNS := Lib.hid hsite
            have hne : n.f2 ≠ [] := by
              rcases HFRM.out with h | h
              · omega
              · exact h.2.2
            obtain ⟨ad2, rfl, hk2⟩ := reads_at HG2.out hne
            have hmk2 := print_make (P := Tryd.prog) 22 3 .i64 8 Tryd.underlying22 info3 (by decide) M (by omega)
            have HK2 := Lib.hid hk2
            have HNE := Lib.hid hne
            obtain ⟨bx, hbx⟩ : ∃ bx, bx = Obj.cells #[.int .i64 n.f0, .int .i64 n.f1, .slice (some ad2) M c2] 60 := ⟨_, rfl⟩
            have hw1 : (wr.alloc bx).heap.size = wr.heap.size + 1 := by simp
            have hin : Arr ((wr.alloc bx).alloc (.cells (madeCells #[.int .i64 0] M) 3)) (wr.heap.size + 1) (padd ((n.f2.take 0).map (lk at_)) M) := by
              have := Arr.made (wr.alloc bx) M (by omega)
              rw [hw1] at this
              simpa [padd] using this
            have hb2 : Below (wr.heap.size + 1) (wr.alloc bx) ((wr.alloc bx).alloc (.cells (madeCells #[.int .i64 0] M) 3)) := (Below.refl _ _).alloc (by simp) _
            rw [hbx] at hin hb2
            have HIN := Lib.hid (And.intro hb2 hin)
            clear hk2 hb2 hin hb1 hw1 hbx hne hsite hM g2
            go_wp2
            obtain ⟨wo, rfl⟩ : ∃ wo : World, wo = wr := ⟨_, rfl⟩
            go_loopw [44] (fun i W => ∃ j : Nat, i = .int .i64 j ∧ j ≤ M ∧ Below (wo.heap.size + 1) (wo.alloc (.cells #[.int .i64 n.f0, .int .i64 n.f1, .slice (some ad2) M c2] 60)) W ∧ Arr W (wo.heap.size + 1) (padd ((n.f2.take j).map (lk at_)) M))
              (fun i _ => M - (intOf i).toNat)
            case atStart => exact ⟨0, rfl, Nat.zero_le _, HIN.out.1, HIN.out.2⟩
            case round =>
              obtain ⟨j, rfl, hj, hbW, haW⟩ := hrel
              have hbo : Below wo.heap.size wo wr := ((Below.refl _ wo).alloc (Nat.le_refl _) _).trans (hbW.mono (by omega))
              by_cases hjl : j < M
              · have hjn : j < n.f2.length := by have := HM.out; omega
                have hcm : n.f2.getD j 0 ∈ n.f2 := by rw [List.getD_eq_getElem?_getD, List.getElem?_eq_getElem hjn]; exact List.getElem_mem hjn
                obtain ⟨hc0, hc1⟩ := HKIDS.out _ hcm
                have e0 := pw_cell_below hbo (HK2.out j hjn)
                obtain ⟨cn, hcn⟩ : ∃ cn : Nat, n.f2.getD j 0 = cn := ⟨(n.f2.getD j 0).toNat, by omega⟩
                rw [hcn] at e0 hc1
                have hcN : cn < N := by omega
                have hcNi : (cn : Int) < (N : Int) := by omega
                have e1 := (HST.out.arr.move (hbo.block _ hab)).at cn (by rw [padd_len (by rw [HAT.out]; omega)]; omega)
                rw [padd_get (by rw [HAT.out]; omega)] at e1
                have e2 := e1.1
                have e3 := haW.at j (by rw [padd_len (by simp; omega)]; exact hjl)
                have e4 := e3.1
                have e5 := e3.2
                have hjb : j < 2000000000 := by omega
                have HCN := Lib.hid hcn
                have HBW1 := Lib.hid hbW
                have HAW := Lib.hid haW
                clear e1 e3 hcm hcn hbW haW
                go_wp2
                go_roundw
                case rel =>
                  refine ⟨j + 1, by go_num, hjl, HBW1.out.setCell (p := ⟨wo.heap.size + 1, j, none⟩) (Nat.le_refl _) _, ?_⟩
                  have h1 := HAW.out.put j (at_.getD cn 0)
                  have hl : ((n.f2.take j).map (lk at_)).length = j := by simp; omega
                  have h2 := padd_set (l := (n.f2.take j).map (lk at_)) (n := M) (at_.getD cn 0) (by rw [hl]; exact hjl)
                  rw [hl] at h2
                  rw [h2] at h1
                  have h3 : (n.f2.take (j + 1)).map (lk at_) = (n.f2.take j).map (lk at_) ++ [at_.getD cn 0] := by
                    rw [List.take_succ_eq_append_getElem hjn, List.map_append]
                    congr 1
                    have : n.f2[j] = (cn : Int) := by
                      have := HCN.out
                      rw [List.getD_eq_getElem?_getD, List.getElem?_eq_getElem hjn] at this
                      exact this
                    simp [lk, this]
                  rw [h3]
                  exact h1
                case measure => simp [intOf]; omega
              · have ej : j = M := by omega
                obtain ⟨KL, hKL⟩ : ∃ KL, KL = n.f2.map (lk at_) := ⟨_, rfl⟩
                have hKl : KL.length = M := by rw [hKL, List.length_map]; exact HM.out.symm
                have haK : Arr wr (wo.heap.size + 1) KL := by
                  have h1 : (n.f2.take j).map (lk at_) = KL := by rw [hKL, ej, List.take_of_length_le (l := n.f2) (i := M) (by have := HM.out; omega)]
                  rw [h1] at haW
                  unfold padd at haW
                  rw [hKl, Nat.sub_self] at haW
                  simpa using haW
                have hCK := haK.C
                rw [hKl] at hCK
                have hkI : ∀ x ∈ n.f0 :: 0 :: KL, I64 x := by
                  intro x hx
                  rcases List.mem_cons.1 hx with rfl | hx
                  · exact hI0
                  · rcases List.mem_cons.1 hx with rfl | hx
                    · exact ⟨by omega, by omega⟩
                    · rw [hKL] at hx
                      obtain ⟨h1, h2⟩ := HT.out.kids (l := n.f2) (by rw [HAT.out]; exact HKIDS.out) x hx
                      have := HTL.out
                      exact ⟨by omega, by omega⟩
                have hKne : KL ≠ [] := by rw [hKL]; simpa using HNE.out
                have hA := (branch_calls w1.heap.size (w1.heap.size + 1) w1.heap.size (fun j => okNew w1.heap.size (w1.heap.size + 1) w1.heap.size j ∧ j ≠ w2.heap.size) U n.f0 KL (some ⟨wo.heap.size + 1, 0, none⟩) M wr (HST.out.tab.below hbo) (HO1.out _ hbo.size) (by have := hbo.size; omega) (by rw [hKl]; exact hCK) (by rw [hKl]; exact Nat.le_refl _) hKne hkI (by rw [hKl]; omega) (by have := HTL.out; have := HRM.out; have := HN.out; omega) (HT2b.out.on (HBW2.out.trans (hbo.mono (by omega))))).mono (R' := fun e w3 => e = .returned (.int .i64 (fx1 site oc U at_ n).2) ∧
                    TabS w3 w1.heap.size (w1.heap.size + 1) w1.heap.size (fun j => okNew w1.heap.size (w1.heap.size + 1) w1.heap.size j ∧ j ≠ w2.heap.size) (fx1 site oc U at_ n).1 ∧ Touch wo w3 (fun j => okNew w1.heap.size (w1.heap.size + 1) w1.heap.size j ∧ j ≠ w2.heap.size) (w1.heap.size + 1) w1.heap.size ∧ (∃ v, w3.cell? ⟨w2.heap.size, k, none⟩ = some (.int .i64 v)) ∧ w3.frozen? ⟨w2.heap.size, k, none⟩ = false) (by
                  rintro e w3 ⟨rfl, h2, h3⟩
                  have h4 := (Touch.of_below hbo (fun j => okNew w1.heap.size (w1.heap.size + 1) w1.heap.size j ∧ j ≠ w2.heap.size) (w1.heap.size + 1) w1.heap.size).trans h3
                  have h5 := HST.out.arr2 ht hmb h4
                  have h6 := h5.at k (by rw [padd_len (by rw [HAT.out]; omega)]; exact hlt)
                  rw [HFX.out, ← hKL]
                  exact ⟨rfl, h2, h4, ⟨_, h6.1⟩, h6.2⟩)
                rw [hKl] at hA
                obtain ⟨r, hr⟩ : ∃ r, r = fx1 site oc U at_ n := ⟨_, rfl⟩
                rw [← hr] at hA
                have HR := Lib.hid hr
                have hbox : wr.heap[wo.heap.size]? = some (.cells #[.int .i64 n.f0, .int .i64 n.f1, .slice (some ad2) M c2] 60 (0, 0)) := (hbW.block _ (by omega)).trans (heap_alloc_new wo _)
                have q0 := blk_cell hbox 0
                clear hr hKL hKl haK hCK hkI hKne hbW haW hbox ej
                go_wp2_with (go_at_call 58; refine hA.mono ?_; clear hA; rintro e w3 ⟨rfl, hT3, hTc3, ⟨v, hv⟩, hf⟩; have HT3 := Lib.hid hT3; have HTC3 := Lib.hid hTc3; clear hT3 hTc3)
                go_roundw
                case rel =>
                  refine ⟨k + 1, by go_num, hlt, ?_, ⟨HOCS.out (fun _ h => absurd h HNS.out)⟩⟩
                  rw [HSUCC.out, ← HR.out]
                  exact HST.out.next ht hmb HTC3.out HT3.out HAT.out hlt
                case measure => simp [intOf]; omega
      · have hke : k = N := by omega
        have htk : nodes.take k = nodes := List.take_of_length_le (by have := HN.out; omega)
        have hoc1 := HOC.out
        rw [htk] at hoc1
        have hE : rsE site oc nodes = 0 := by unfold rsE; rw [if_pos HV0.out, if_pos (ocB_iff.2 hoc1)]
        have hL : rsL site oc nodes = fxR site oc nodes := by unfold rsL; rw [if_pos HV0.out, if_pos (ocB_iff.2 hoc1)]
        have hU1 := HUE.out
        have ha1 := HAE.out
        rw [htk] at hU1 ha1
        obtain ⟨R, hR⟩ : ∃ R : Nat, lk (fx site oc [] [] nodes).2 ((nodes.length - 1 : Nat) : Int) = (R : Int) ∧ R < U.length := by
          have h1 := HT.out.at_lt _ (lk_mem (at_ := at_) (c := ((nodes.length - 1 : Nat) : Int)) (by omega) (by rw [HAT.out]; have := HN.out; omega))
          rw [ha1] at h1
          exact ⟨(lk (fx site oc [] [] nodes).2 ((nodes.length - 1 : Nat) : Int)).toNat, by omega, by omega⟩
        have p0 := (HST.out.arr.at (N - 1) (by rw [padd_len (by rw [HAT.out]; omega)]; omega)).1
        rw [padd_get (by rw [HAT.out]; omega)] at p0
        have hlR : at_.getD (N - 1) 0 = (R : Int) := by
          have := hR.1
          unfold lk at this
          rw [Int.toNat_natCast, ← ha1, ← HN.out] at this
          exact this
        rw [hlR] at p0
        have hNb : N < 4000000000000 := by omega
        have en1 : (N : Int) - 1 = ((N - 1 : Nat) : Int) := by omega
        have hN1 : N - 1 < N := by omega
        obtain ⟨fuel, hfu⟩ := exL_root HT.out.down 20000 R hR.2
        have hfu0 := hfu 0
        rw [Nat.zero_add, if_pos (Nat.le_trans (expo_len HT.out.down hR.2) (by have := HTL.out; omega))] at hfu0
        have hfxr : fxR site oc nodes = expo U (R : Nat) := by unfold fxR; rw [← hU1, hR.1]
        have HFXR := Lib.hid hfxr
        have HE := Lib.hid hE
        have HL := Lib.hid hL
        have HFU := Lib.hid hfu0
        have HRR2 := Lib.hid hR
        clear hR hU1 ha1 htk hlR hke hfu hfu0 hfxr hE hL hoc1
        go_wp2_with (go_at_call 47; refine (export_calls fuel w1.heap.size (w1.heap.size + 1) w1.heap.size _ U R wr _ HST.out.tab HT.out.down HRR2.out.2 HFU.out (by have := HTL.out; omega) (fun n hn => Nat.le_trans (HUK.out n hn) (by decide))).mono ?_; rintro e w4 ⟨hb4, hm⟩; obtain ⟨vo, rfl, hR4⟩ := hm; obtain ⟨A5, c5, rfl⟩ := Kd.R_slice hR4; have hbx4 := (hb4.block _ (blk_lt HRR.out)).trans HRR.out; have b0 := blk_cell hbx4 0; have f0 := blk_frozen hbx4 0; have hlt4 := blk_lt hbx4; have HBX4 := Lib.hid hbx4; have HB4 := Lib.hid hb4; have HR4 := Lib.hid hR4; clear hbx4 hb4 hR4)
        have hb5 := blk_set HBX4.out 0 (.slice A5 (expo U (R : Nat)).length c5)
        have hx := (Below.heap_alloc (w4.setCell ⟨w.heap.size + 1, 0, none⟩ (.slice A5 (expo U (R : Nat)).length c5)) (.cells #[.slice A5 (expo U (R : Nat)).length c5] 31) _ (blk_lt hb5)).trans hb5
        have q0 := (blk_cell hx 0).trans rfl
        have hs4 := HB4.out.size
        have hrl := blk_lt HRR.out
        have hbz := ((HBW.out.trans (HB4.out.mono HBW.out.size)).setCell (p := ⟨w.heap.size + 1, 0, none⟩) (by show w.heap.size ≤ w.heap.size + 1; omega) (.slice A5 (expo U (R : Nat)).length c5)).alloc (by have := HBW.out.size; simp [World.setCell]; omega) (.cells #[.slice A5 (expo U (R : Nat)).length c5] 31)
        refine bodyPost_ret (v := .tuple #[.agg #[.slice A5 (expo U (R : Nat)).length c5], .int .i64 0]) (by simp [results, Tryd.f30, go_sem, q0]) rfl ⟨hbz, _, by rw [HE.out], ?_⟩
        rw [HL.out, HFXR.out]
        exact Kd.R_lower (Kd.R_mono (Kd.R_below (Kd.R_far (p := ⟨w.heap.size + 1, 0, none⟩) (Kd.R_bound HR4.out) (fun q hq => by show q ≠ w.heap.size + 1; have := hq.2.1; omega) _) ((Below.refl _ _).alloc (Nat.le_refl _) _)) (fun _ _ => trivial)) (by have := HBW.out.size; omega)
  · have hv : rsE site oc nodes = valE nodes := by unfold rsE; rw [if_neg h0]
    have hl : rsL site oc nodes = [] := by unfold rsL; rw [if_neg h0]
    rw [hv, hl]
    obtain ⟨er, her⟩ : ∃ er, er = valE nodes := ⟨_, rfl⟩
    rw [← her] at hV h0 ⊢
    clear her hv hl
    go_enter Tryd.func30, Tryd.ntmps30
    go_wp2_with (go_at_call 21; refine hV.mono ?_; clear hV; rintro e w2 ⟨rfl, hb2⟩; have HB2 := Lib.hid (HB0.out.trans (hb2.mono (by have := HS0.out; omega))); have hr2 := (hb2.block _ (blk_lt HR0.out)).trans HR0.out; have b1 := blk_cell hr2 0; have f1 := blk_frozen hr2 0; have HR2 := Lib.hid hr2; clear hb2 hr2)
    have hb3 := blk_set HR2.out 0 (.slice none 0 0)
    have q0 := (blk_cell hb3 0).trans rfl
    refine bodyPost_ret (v := .tuple #[.agg #[.slice none 0 0], .int .i64 er]) (by simp [results, Tryd.f30, go_sem, q0]) rfl ⟨HB2.out.setCell (p := ⟨w.heap.size + 1, 0, none⟩) (by show w.heap.size ≤ w.heap.size + 1; omega) _, _, rfl, Kd.R_nil _ _ _ _ _⟩
end Go.Proofs.YtopbjginpmdebaaDoor.K
-- the contract of diagram.Restrict, in the form that the printed texts call it
namespace Go.Proofs.YtopbjginpmdebaaDoor.K
open Go.RowKit Go.Maps Go.Proofs.YtopbjginpmdebaaDoorW.PrintWords Go.Proofs.YtopbjginpmdebaaDoorW.PrintLast Go.Proofs.YtopbjginpmdebaaDoorW.PrintMore
set_option linter.unusedVariables false
set_option linter.unusedSimpArgs false
def diagram_Restrict.f (l : List S60) (site oc : Int) : Option (List S60 × Int) := if ndOk l = true then some (rsL site oc l, rsE site oc l) else none
theorem diagram_Restrict.calls (A : Option Addr) (c : Nat) (l : List S60) (site oc : Int) (r1 : List S60) (r2 : Int) (w : World) (hr : Kd.C k60 w A l.length l) (hc : l.length ≤ c) (h : diagram_Restrict.f l site oc = some (r1, r2)) (htab : PowTab w.heap.size w) :
    Calls Tryd.prog 30 #[.agg #[.slice A l.length c], .int .i64 site, .int .i64 oc] w fun e w' => ∃ v0_ : Value, e = .returned (.tuple #[.agg #[v0_], .int .i64 r2]) ∧ Kd.V k60 60 w' w.heap.size (fun k_ => (w.heap.size ≤ k_)) v0_ r1 ∧ Below w.heap.size w w' := by
  unfold diagram_Restrict.f at h
  by_cases hk : ndOk l = true
  · rw [if_pos hk] at h
    simp only [Option.some.injEq, Prod.mk.injEq] at h
    obtain ⟨rfl, rfl⟩ := h
    exact (restrict_calls l site oc A c w hr hc (ndOk_I hk) (ndOk_room hk) htab).mono fun e w' ⟨hb, vo, he, hR⟩ => ⟨vo, he, V_of_R hR, hb⟩
  · rw [if_neg hk] at h; cases h
/-- what Restrict returns is small -/
theorem rsL_small (site oc : Int) (l : List Nd) : (rsL site oc l).length ≤ 20000 ∧ ∀ x ∈ rsL site oc l, x.f2.length ≤ 16 := by
  unfold rsL
  by_cases h0 : valE l = 0
  · rw [if_pos h0]
    by_cases h1 : ocB site oc l = true
    · rw [if_pos h1]
      obtain ⟨hg, _, hl⟩ := val_ok h0
      have hp := gr_pos hg
      have ht := fx_tbl (gr_fit hg) (ocB_iff.1 h1) tbl_nil l.length (Nat.le_refl _)
      rw [List.take_length] at ht
      have hlen := fx_len site oc l [] []
      have hr := ht.1.at_lt _ (lk_mem (at_ := (fx site oc [] [] l).2) (c := ((l.length - 1 : Nat) : Int)) (by omega) (by rw [hlen]; simp; omega))
      obtain ⟨R, hR⟩ : ∃ R : Nat, lk (fx site oc [] [] l).2 ((l.length - 1 : Nat) : Int) = (R : Int) := ⟨_, (Int.toNat_of_nonneg hr.1).symm⟩
      unfold fxR
      rw [hR] at hr ⊢
      have hul : (fx site oc [] [] l).1.length ≤ l.length := by simpa using ht.2.1
      refine ⟨Nat.le_trans (expo_len ht.1.down (by omega)) (by omega), ?_⟩
      unfold expo
      exact dfs_kids (fx_kids site oc l [] [] (by simp) (gr_kids hg)) _ _ _ (by simp)
    · rw [if_neg h1]; simp
  · rw [if_neg h0]; simp
end Go.Proofs.YtopbjginpmdebaaDoor.K
-- diagrams by their values: what Restrict, Branch and Eval make
namespace Go.Proofs.YtopbjginpmdebaaDoor.K
open Go.RowKit Go.Maps Go.Proofs.YtopbjginpmdebaaDoorW.PrintWords Go.Proofs.YtopbjginpmdebaaDoorW.PrintLast Go.Proofs.YtopbjginpmdebaaDoorW.PrintMore
set_option linter.unusedVariables false
set_option linter.unusedSimpArgs false
/-- a diagram's value for an assignment -/
def vl (d : List Nd) (σ : Int → Nat) : Int := evl d ((d.length - 1 : Nat) : Int) σ
theorem Tb.sh {sh : Int → Nat} {u : List Nd} (h : Tb sh u) : Sh sh u := ⟨h.red, h.ord, fun n hn h0 => by
  rcases h.ok n hn with h1 | h1
  · omega
  · exact h1.2.2.1⟩
theorem GrS.len {sh : Int → Nat} {l : List Nd} (h : GrS sh l) : ∀ n ∈ l, 0 ≤ n.f0 → n.f2.length = sh n.f0 := by
  intro n hn h0
  obtain ⟨i, hi, rfl⟩ := mem_nth hn
  rcases h.nd i hi with h1 | h1
  · have := (lf_iff.1 h1).1; omega
  · exact h1.2
theorem imp_tb' {sh : Int → Nat} {l u : List Nd} (h : Tb sh u) (hl : GrS sh l) : Tb sh (imp u [] l).1 := by
  have := (imp_tb h hl l.length (Nat.le_refl _)).1
  rwa [List.take_length] at this
/-- canonical diagrams of one shape with the same values are equal -/
theorem dg_unique {sh : Int → Nat} (hp : ∀ s, 0 < sh s) {a b : List Nd} (ga : GrS sh a) (gb : GrS sh b) (ca : Can a) (cb : Can b) (h : ∀ σ, Val sh σ → vl a σ = vl b σ) : a = b :=
  can_unique hp ca cb ga.len gb.len (imp_tb' (imp_tb' (tb_nil sh) ga) gb).sh h
/-- only the sites that occur matter -/
theorem evl_congr {u : List Nd} (hu : Fit u) {σ τ : Int → Nat} (h : ∀ n ∈ u, 0 ≤ n.f0 → σ n.f0 = τ n.f0) : ∀ i : Nat, i < u.length → evl u i σ = evl u i τ := by
  intro i
  induction i using Nat.strongRecOn with
  | _ i ih =>
    intro hi
    by_cases h0 : (nth u i).f0 < 0
    · rw [evl_leaf hu σ hi h0, evl_leaf hu τ hi h0]
    · rw [evl_br hu σ hi (by omega), evl_br hu τ hi (by omega), ← h _ (nth_memN hi) (by omega)]
      obtain ⟨c0, c1⟩ := kid_lt hu hi (by omega) (σ (nth u i).f0)
      obtain ⟨c, hc⟩ : ∃ c : Nat, (nth u i).f2.getD (σ (nth u i).f0) 0 = c := ⟨_, (Int.toNat_of_nonneg c0).symm⟩
      rw [hc] at c1 ⊢
      exact ih c (by omega) (by omega)
theorem vl_congr {u : List Nd} (hu : Fit u) (h0 : 0 < u.length) {σ τ : Int → Nat} (h : ∀ n ∈ u, 0 ≤ n.f0 → σ n.f0 = τ n.f0) : vl u σ = vl u τ := evl_congr hu h _ (by omega)
theorem rd_getD (l : List Int) (i : Int) : rd l i = l.getD i.toNat 0 := rfl
/-- Restrict's table -/
theorem fx_tb {sh : Int → Nat} {l : List Nd} (hl : GrS sh l) {s oc : Int} (ho : OcOk s oc l) : ∀ k, k ≤ l.length → Tb sh (fx s oc [] [] (l.take k)).1 ∧ AtOk l (fx s oc [] [] (l.take k)).1 (fx s oc [] [] (l.take k)).2 k := by
  intro k
  induction k with
  | zero => intro _; exact ⟨by simpa [fx] using tb_nil sh, fun c hc => by omega⟩
  | succ k ih =>
    intro hk
    obtain ⟨h1, h2⟩ := ih (by omega)
    have h3 := (fx_tbl (site := s) (oc := oc) hl.fit ho tbl_nil k (by omega)).1
    have hlen := fx_len s oc (l.take k) [] []
    have hm : nth l (k : Int) ∈ l := nth_memN (by omega)
    have hd := hl.fit.1 k (by omega)
    rw [take_snoc' (by omega), fx_snoc]
    generalize fx s oc [] [] (l.take k) = S at h1 h2 h3 hlen ⊢
    have hal : S.2.length = k := by rw [hlen]; simp; omega
    unfold fx1
    by_cases hs : 0 ≤ (nth l (k : Int)).f0 ∧ (nth l (k : Int)).f0 = s
    · rw [if_pos hs]
      refine ⟨h1, fun c hc => ?_⟩
      have hoc := ho _ hm hs.1 hs.2
      rcases Nat.lt_or_ge c k with h4 | h4
      · rw [lk_snoc_old (by omega)]
        exact h2 c h4
      · obtain rfl : c = k := by omega
        have hkid := rd_mem hoc.1 hoc.2
        have hlt := hd _ hkid
        rw [lk_new _ _ (by omega)]
        have h5 := h2 (rd (nth l (c : Int)).f2 oc).toNat (by omega)
        rw [Int.toNat_of_nonneg hlt.1] at h5
        rcases h5 with h5 | h5
        · exact .inl h5
        · refine .inr ⟨hs.1, ?_⟩
          rcases hl.nd c (by omega) with h6 | h6
          · have := (lf_iff.1 h6).1; omega
          · have := ((br_iff.1 h6.1).2 _ hkid).2
            show _ ≤ (nth S.1 (lk S.2 (rd (nth l (c : Int)).f2 oc))).f0
            omega
    · rw [if_neg hs]
      exact h1.step hl (by omega) hal h2 h3.at_lt
theorem fx_tb' {sh : Int → Nat} {l : List Nd} (hl : GrS sh l) {s oc : Int} (ho : OcOk s oc l) : Tb sh (fx s oc [] [] l).1 := by
  have := (fx_tb hl ho l.length (Nat.le_refl _)).1
  rwa [List.take_length] at this
/-- its values -/
theorem evl_fx {sh : Int → Nat} {l : List Nd} (hl : GrS sh l) {s : Int} {oc : Nat} (ho : OcOk s oc l) {σ : Int → Nat} (hσ : Val sh σ) (hoc : ∀ n ∈ l, 0 ≤ n.f0 → n.f0 = s → oc < sh s) : ∀ k, k ≤ l.length → ∀ c : Nat, c < k → evl (fx s oc [] [] (l.take k)).1 (lk (fx s oc [] [] (l.take k)).2 (c : Int)) σ = evl l c (setA σ s oc) := by
  intro k
  induction k with
  | zero => intro _ c hc; omega
  | succ k ih =>
    intro hk c hc
    have ih := ih (by omega)
    have t1 := (fx_tbl (site := s) (oc := oc) hl.fit ho tbl_nil k (by omega)).1
    have hr := (fx_tb hl ho k (by omega)).1.red
    have hr2 := (fx_tb hl ho (k + 1) (by omega)).1.red
    have hlen2 := fx_len s oc (l.take k) [] []
    have hdn := hl.fit.1 k (by omega)
    have hmem : nth l k ∈ l := nth_memN (by omega)
    rw [take_snoc' (ns := l) (k := k) (by omega), fx_snoc] at hr2 ⊢
    generalize fx s oc [] [] (l.take k) = I at ih t1 hr hlen2 hr2 ⊢
    obtain ⟨v, at_⟩ := I
    simp only at ih t1 hr hlen2 hr2 ⊢
    have hal : at_.length = k := by rw [hlen2]; simp; omega
    by_cases hs : 0 ≤ (nth l (k : Int)).f0 ∧ (nth l (k : Int)).f0 = s
    · have e : fx1 s oc v at_ (nth l k) = (v, lk at_ (rd (nth l k).f2 oc)) := by unfold fx1; rw [if_pos hs]
      rw [e]
      simp only
      rcases Nat.lt_or_ge c k with h1 | h1
      · rw [lk_old (by omega)]; exact ih c h1
      · obtain rfl : c = k := by omega
        rw [lk_new _ _ (by omega), evl_br hl.fit _ (by omega) hs.1, hs.2]
        have e2 : setA σ s oc s = oc := by unfold setA; rw [if_pos rfl]
        rw [e2, rd_getD, Int.toNat_natCast]
        obtain ⟨c0, c1⟩ := kid_lt hl.fit (i := c) (by omega) hs.1 oc
        obtain ⟨d, hd⟩ : ∃ d : Nat, (nth l c).f2.getD oc 0 = d := ⟨_, (Int.toNat_of_nonneg c0).symm⟩
        rw [hd] at c1 ⊢
        exact ih d (by omega)
    · have e : fx1 s oc v at_ (nth l k) = place1 v at_ (nth l k) := by unfold fx1; rw [if_neg hs]
      rw [e] at hr2 ⊢
      have hpre : v <+: (place1 v at_ (nth l k)).1 := by
        unfold place1
        split
        · exact place0_pre _ _
        · exact placeB_pre _ _ _
      rcases Nat.lt_or_ge c k with h1 | h1
      · rw [lk_old (by omega)]
        obtain ⟨q0, q1⟩ := t1.at_lt _ (lk_mem (at_ := at_) (c := (c : Int)) (by omega) (by omega))
        rw [evl_preI hr.fit hr2.fit hpre σ q0 q1]
        exact ih c h1
      · obtain rfl : c = k := by omega
        rw [lk_new _ _ (by omega)]
        by_cases h0 : (nth l c).f0 < 0
        · have e : place1 v at_ (nth l c) = place0 v ⟨-1, (nth l c).f1, []⟩ := by unfold place1; rw [if_pos h0]
          rw [e] at hr2 ⊢
          rw [evl_place0 hr2, evl_leaf hl.fit _ (by omega) h0]
        · have e : place1 v at_ (nth l c) = placeB v (nth l c).f0 ((nth l c).f2.map (lk at_)) := by unfold place1; rw [if_neg h0]
          have hq : setA σ s oc (nth l c).f0 = σ (nth l c).f0 := by unfold setA; rw [if_neg (fun e => hs ⟨by omega, e⟩)]
          have hs' : σ (nth l c).f0 < (nth l c).f2.length := by rw [hl.len _ hmem (by omega)]; exact hσ _
          have hkk := t1.kids (l := (nth l c).f2) (fun x hx => by have := hdn x hx; omega)
          rw [e, evl_placeB hr (by omega) hkk (by simpa using hs'), evl_br hl.fit _ (by omega) (by omega), hq]
          obtain ⟨c0, c1⟩ := kid_lt hl.fit (i := c) (by omega) (by omega) (σ (nth l c).f0)
          have e2 : ((nth l c).f2.map (lk at_)).getD (σ (nth l c).f0) 0 = lk at_ ((nth l c).f2.getD (σ (nth l c).f0) 0) := by
            rw [List.getD_eq_getElem?_getD, List.getD_eq_getElem?_getD, List.getElem?_map, List.getElem?_eq_getElem hs']; rfl
          rw [e2]
          obtain ⟨d, hd⟩ : ∃ d : Nat, (nth l c).f2.getD (σ (nth l c).f0) 0 = d := ⟨_, (Int.toNat_of_nonneg c0).symm⟩
          rw [hd] at c1 ⊢
          exact ih d (by omega)
theorem fx_all {Q : Int → Prop} {s oc : Int} : ∀ (l u : List Nd) (at_ : List Int), AllF (fun x => Q x ∧ x ≠ s) u → AllF Q l → AllF (fun x => Q x ∧ x ≠ s) (fx s oc u at_ l).1
  | [], u, at_, h, _ => h
  | n :: l, u, at_, h, hl => by
    simp only [fx]
    refine fx_all l _ _ ?_ (fun m hm => hl m (List.mem_cons_of_mem _ hm))
    unfold fx1
    by_cases hs : 0 ≤ n.f0 ∧ n.f0 = s
    · rw [if_pos hs]; exact h
    · rw [if_neg hs]
      unfold place1
      by_cases h0 : n.f0 < 0
      · rw [if_pos h0]
        exact place0_all h (fun h0 => by simp only at h0; omega)
      · rw [if_neg h0]
        exact placeB_all h ⟨hl n List.mem_cons_self (by omega), fun e => hs ⟨by omega, e⟩⟩
/-- Restrict's result -/
theorem fxR_ok {sh : Int → Nat} {l : List Nd} (hl : GrS sh l) (h0 : 0 < l.length) {s : Int} {oc : Nat} (hoc : oc < sh s) :
    grB (fxR s oc l) = true ∧ GrS sh (fxR s oc l) ∧ Can (fxR s oc l) ∧ (fxR s oc l).length ≤ l.length ∧ (∀ Q : Int → Prop, AllF Q l → AllF (fun x => Q x ∧ x ≠ s) (fxR s oc l)) ∧ ∀ σ, Val sh σ → vl (fxR s oc l) σ = vl l (setA σ s oc) := by
  have ho : OcOk s oc l := fun n hn h1 h2 => ⟨by omega, by rw [hl.len n hn h1, h2]; omega⟩
  have ht := fx_tbl (site := s) (oc := oc) hl.fit ho tbl_nil l.length (Nat.le_refl _)
  have htb := fx_tb' hl ho
  have hv := fun σ (hσ : Val sh σ) => evl_fx hl ho hσ (fun _ _ _ _ => hoc) l.length (Nat.le_refl _) (l.length - 1) (by omega)
  have hlen := fx_len s oc l [] []
  rw [List.take_length] at ht hv
  have hr := ht.1.at_lt _ (lk_mem (at_ := (fx s oc [] [] l).2) (c := ((l.length - 1 : Nat) : Int)) (by omega) (by rw [hlen]; simp; omega))
  have hall : ∀ Q : Int → Prop, AllF Q l → AllF (fun x => Q x ∧ x ≠ s) (fx s oc [] [] l).1 := fun Q hQ => fx_all l [] [] (fun n hn => by cases hn) hQ
  unfold vl fxR
  obtain ⟨r, hr2⟩ : ∃ r : Nat, lk (fx s oc [] [] l).2 ((l.length - 1 : Nat) : Int) = r := ⟨_, (Int.toNat_of_nonneg hr.1).symm⟩
  rw [hr2] at hr hv ⊢
  have hr' : r < (fx s oc [] [] l).1.length := by omega
  have hc := htb.can hr'
  refine ⟨hc.1, (htb.expo hr').grs, hc.2, Nat.le_trans (expo_len ht.1.down hr') (by simpa using ht.2.1), fun Q hQ => expo_all ht.1.down hr' (hall Q hQ), fun σ hσ => ?_⟩
  rw [evl_expo htb.red htb.sh.len hσ hr']
  exact hv σ hσ
/-- several diagrams in one table keep their values -/
theorem evl_impKs {sh : Int → Nat} {s : Int} {ds : List S31} (hd : ∀ d ∈ ds, GrS sh d.f0 ∧ d.f0 ≠ [] ∧ AllF (fun x => s < x) d.f0) {σ : Int → Nat} (hσ : Val sh σ) : ∀ k, k ≤ ds.length → ∀ c : Nat, c < k → evl (impKs (ds.take k)).1 ((impKs (ds.take k)).2.getD c 0) σ = vl (ds.getD c ⟨[]⟩).f0 σ := by
  intro k
  induction k with
  | zero => intro _ c hc; omega
  | succ k ih =>
    intro hk c hc
    have ih := ih (by omega)
    have h1 := impKs_tb hd k (by omega)
    have h2 := impKs_tb hd (k + 1) (by omega)
    have hl2 := (impKs_tbl (ds := ds) (fun d hd' => ⟨(hd d hd').1.fit, (hd d hd').2.1⟩) k (by omega)).2.2
    obtain ⟨g1, g2, g3⟩ := hd ds[k] (List.getElem_mem _)
    have hgk : ds.getD k ⟨[]⟩ = ds[k] := by rw [List.getD_eq_getElem?_getD, List.getElem?_eq_getElem (by omega)]; rfl
    rw [List.take_succ_eq_append_getElem (by omega), impKs_snoc] at h2 ⊢
    obtain ⟨S, hS⟩ : ∃ S, S = impKs (ds.take k) := ⟨_, rfl⟩
    rw [← hS] at ih h1 h2 hl2 ⊢
    have hp := List.length_pos_iff.2 g2
    have hpre : S.1 <+: (impK S ds[k]).1 := by
      have := (imp_tbl g1.fit h1.1.tbl ds[k].f0.length (Nat.le_refl _)).2.2
      rwa [List.take_length] at this
    have e : (impK S ds[k]).2 = S.2 ++ [lk (imp S.1 [] ds[k].f0).2 ((ds[k].f0.length - 1 : Nat) : Int)] := rfl
    rw [e]
    rcases Nat.lt_or_ge c k with h3 | h3
    · have e3 : (S.2 ++ [lk (imp S.1 [] ds[k].f0).2 ((ds[k].f0.length - 1 : Nat) : Int)]).getD c 0 = S.2.getD c 0 := by
        rw [List.getD_eq_getElem?_getD, List.getD_eq_getElem?_getD, List.getElem?_append_left (by omega)]
      have hm := (h1.2 _ (getD_mem (l := S.2) (j := c) (by omega))).1
      rw [e3, evl_preI h1.1.red.fit h2.1.red.fit hpre σ hm.1 hm.2]
      exact ih c h3
    · obtain rfl : c = k := by omega
      have e3 : (S.2 ++ [lk (imp S.1 [] ds[c].f0).2 ((ds[c].f0.length - 1 : Nat) : Int)]).getD c 0 = lk (imp S.1 [] ds[c].f0).2 ((ds[c].f0.length - 1 : Nat) : Int) := by
        rw [List.getD_eq_getElem?_getD, List.getElem?_append_right (by omega), hl2]; simp
      rw [e3, hgk]
      have := evl_imp g1.fit g1.len h1.1.red hσ ds[c].f0.length (Nat.le_refl _) (ds[c].f0.length - 1) (by omega)
      rw [List.take_length] at this
      exact this
/-- Branch's values -/
theorem vl_jn {sh : Int → Nat} {s : Int} {ds : List S31} (hd : ∀ d ∈ ds, GrS sh d.f0 ∧ d.f0 ≠ [] ∧ AllF (fun x => s < x) d.f0) (hs : 0 ≤ s ∧ s < 64) (hne : ds ≠ []) (hl : ds.length = sh s) (hl2 : ds.length ≤ 16) {σ : Int → Nat} (hσ : Val sh σ) :
    vl (jn s ds) σ = vl (ds.getD (σ s) ⟨[]⟩).f0 σ := by
  obtain ⟨h1, h2, -⟩ := jn_tb hd hs hne hl hl2
  have h3 := impKs_tb hd ds.length (Nat.le_refl _)
  have h4 := impKs_tbl (ds := ds) (fun d hd' => ⟨(hd d hd').1.fit, (hd d hd').2.1⟩) ds.length (Nat.le_refl _)
  have h5 := evl_impKs hd hσ ds.length (Nat.le_refl _) (σ s) (by rw [hl]; exact hσ s)
  rw [List.take_length] at h3 h4 h5
  unfold vl jn
  obtain ⟨r, hr⟩ : ∃ r : Nat, (jnT s ds).2 = r := ⟨_, (Int.toNat_of_nonneg h2.1).symm⟩
  have h6 := evl_placeB (σ := σ) h3.1.red hs.1 (fun k hk => (h3.2 k hk).1) (by rw [h4.2.2, hl]; exact hσ s)
  have e : placeB (impKs ds).1 s (impKs ds).2 = jnT s ds := rfl
  rw [e] at h6
  rw [hr] at h2 h6 ⊢
  rw [evl_expo h1.red h1.sh.len hσ (by omega), h6, h5]
  rfl
/-- an assignment that is given as a list -/
def sg (o : List Int) : Int → Nat := fun s => (rd o s).toNat
theorem evK_vl {sh : Int → Nat} {l : List Nd} (hl : GrS sh l) (o : List Int) (hr : ∀ n ∈ l, 0 ≤ n.f0 → n.f0 < (o.length : Int) ∧ 0 ≤ rd o n.f0 ∧ rd o n.f0 < sh n.f0) : ∀ (i : Nat), i < l.length → ∀ d, i < d → evK l o d (i : Int) = (evl l i (sg o), 0) := by
  intro i
  induction i using Nat.strongRecOn with
  | _ i ih =>
    intro hi d hd
    obtain ⟨d, rfl⟩ : ∃ d', d = d' + 1 := ⟨d - 1, by omega⟩
    simp only [evK]
    by_cases h0 : (nth l (i : Int)).f0 < 0
    · rw [if_pos h0, evl_leaf hl.fit _ hi h0]
    · obtain ⟨h1, h2, h3⟩ := hr _ (nth_memN hi) (by omega)
      have h4 := hl.len _ (nth_memN hi) (by omega)
      rw [if_neg h0, if_neg (by omega), evl_br hl.fit _ hi (by omega)]
      obtain ⟨c0, c1⟩ := kid_lt hl.fit hi (by omega) (sg o (nth l i).f0)
      have e : rd (nth l (i : Int)).f2 (rd o (nth l (i : Int)).f0) = (nth l (i : Int)).f2.getD (sg o (nth l (i : Int)).f0) 0 := rfl
      rw [e]
      obtain ⟨c, hc⟩ : ∃ c : Nat, (nth l i).f2.getD (sg o (nth l i).f0) 0 = c := ⟨_, (Int.toNat_of_nonneg c0).symm⟩
      rw [hc] at c1 ⊢
      exact ih c (by omega) (by omega) d (by omega)
theorem evR_vl {sh : Int → Nat} {l : List Nd} (hl : GrS sh l) (hv : valE l = 0) (o : List Int) (hr : ∀ n ∈ l, 0 ≤ n.f0 → n.f0 < (o.length : Int) ∧ 0 ≤ rd o n.f0 ∧ rd o n.f0 < sh n.f0) : evR l o = (vl l (sg o), 0) := by
  have h0 := gr_pos (val_ok hv).1
  unfold evR vl
  rw [if_pos hv]
  exact evK_vl hl o hr _ (by omega) _ (by omega)
end Go.Proofs.YtopbjginpmdebaaDoor.K
namespace Go.Proofs.YtopbjginpmdebaaDoor.K
open Go.RowKit Go.Proofs.YtopbjginpmdebaaDoorW.PrintWords Go.Proofs.YtopbjginpmdebaaDoorW.PrintLast Go.Proofs.YtopbjginpmdebaaDoorW.PrintMore
attribute [local go_sem] max2_int min2_int max_two min_two max_three min_three max_four min_four   -- for this text's walks alone
set_option linter.unusedVariables false
set_option linter.unusedSimpArgs false

/-! ### exactpplref19_Fit: function 62 -/
def exactpplref19_Fit.f (l0_0 : List (S60)) : Option ((List (S60)) × Int) := if (l0_0.length : Int) > 20000 then (some (([] : List (S60)), 9)) else (some (l0_0, 0))
set_option maxHeartbeats 8000000 in
set_option maxRecDepth 100000 in
theorem exactpplref19_Fit.calls (P0_0_ : Nat → Prop) (A0_0 : Option Addr) (c0_0 : Nat) (l0_0 : List (S60)) (r1 : List (S60)) (r2 : Int) (w : World) (hs0_0 : Kd.V k60 60 w w.heap.size (fun k_ => P0_0_ k_) (.slice A0_0 l0_0.length c0_0) l0_0) (h : exactpplref19_Fit.f l0_0 = some (r1, r2)) :
  Calls Tryd.prog 62 #[.agg #[.slice A0_0 l0_0.length c0_0]] w fun e w' => ∃ v0_ : Value, e = .returned (.tuple #[.agg #[v0_], .int .i64 r2]) ∧ Kd.V k60 60 w' w.heap.size (fun k_ => (P0_0_ k_ ∨ w.heap.size ≤ k_)) v0_ r1 ∧ Below w.heap.size w w' := by
 have hu31 := Tryd.underlying31
 have HO0_0 := Aside0.mk (show Kd.V k60 60 w w.heap.size (fun k_ => (P0_0_ k_ ∨ w.heap.size ≤ k_)) (.slice A0_0 l0_0.length c0_0) l0_0 from Kd.V_mono hs0_0 (fun k_ hk => .inl hk))
 have HB := Aside0.mk (Below.refl w.heap.size w)
 have H : (if (l0_0.length : Int) > 20000 then (some (([] : List (S60)), 9)) else (some (l0_0, 0))) = some (r1, r2) := h
 clear h
 by_cases c2 : (l0_0.length : Int) > 20000
 ·rw [if_pos c2] at H
  have c2b0 : decide (20000 < (l0_0.length : Int)) = true := decide_eq_true c2
  have c2b1 : decide (20000 < l0_0.length) = true := decide_eq_true (by omega)
  clear c2
  simp only [Option.some.injEq, Prod.mk.injEq] at H
  obtain ⟨rfl, rfl⟩ := H
  go_enter Tryd.func62, Tryd.ntmps62
  go_wp2_with (first | ((with_reducible refine gate_dst (N := 1) rfl ?_); refine box_event ?hg (N := 1) ?hd (cs := #[.slice A0_0 l0_0.length c0_0]) (t := 31) ?hr ?_; (case hd => rfl); (case hg => rfl); (case hr => first | (go_simp; done) | (go_simp; rfl)); intro gb142 hg w3 hbox hb; have BK142 := Aside0.mk (hbox); have GW142 : Aside0 (w.heap.size ≤ gb142) := gw_ hg (below_size bl_); have GE142 := GW142; replace HO0_0 := Aside0.mk (Kd.V_below (Kd.V_elderB (pV_ HO0_0.out) gb142 (Nat.le_of_eq hg.symm)) hb); replace HB := Aside0.mk (below_step bl_ hb); clear hb hbox hg) | ((with_reducible refine gate_dst (N := 2) rfl ?_); refine box_event ?hg (N := 2) ?hd (cs := #[.slice none 0 0]) (t := 31) ?hr ?_; (case hd => rfl); (case hg => rfl); (case hr => first | (go_simp; done) | (go_simp; rfl)); intro gb143 hg w4 hbox hb; have BK143 := Aside0.mk (hbox); have GW143 : Aside0 (w.heap.size ≤ gb143) := gw_ hg (below_size bl_); have GE143 := GW143; have NB142_143 := Aside0.mk ((by rw [hg]; exact Nat.ne_of_lt (blk_lt (g := gb142) (o := .cells #[.slice A0_0 l0_0.length c0_0] 31 (0, 0)) bk_) : gb142 ≠ gb143)); have NB143_142 := Aside0.mk ((by rw [hg]; exact Nat.ne_of_gt (blk_lt (g := gb142) (o := .cells #[.slice A0_0 l0_0.length c0_0] 31 (0, 0)) bk_) : gb143 ≠ gb142)); replace HO0_0 := Aside0.mk (Kd.V_below (Kd.V_elderB (pV_ HO0_0.out) gb143 (Nat.le_of_eq hg.symm)) hb); replace BK142 := Aside0.mk (blk_below (g := gb142) (o := .cells #[.slice A0_0 l0_0.length c0_0] 31 (0, 0)) bk_ hb); replace HB := Aside0.mk (below_step bl_ hb); clear hb hbox hg; have hnb5 := NB142_143.out; have hnc5 := NB143_142.out; obtain ⟨hcz6_0, hfz6_0⟩ := cf1_ BK142.out; obtain ⟨hcz7_0, hfz7_0⟩ := cf1_ BK143.out))
  refine bodyPost_ret (results_ct rfl _ _ gb143 31 #[.slice none 0 0] (0, 0) _ rfl (by (with_reducible repeat (first | refine blk_drewN ?_ _ | refine blk_drew ?_ | refine blk_alloc ?_ _)); refine blk_put (cs := #[.slice none 0 0]) ?_ 0 _ rfl; (with_reducible repeat (first | refine blk_drewN ?_ _ | refine blk_drew ?_ | refine blk_alloc ?_ _)); exact BK143.out) Tryd.underlying31 rfl (by kernel_rfl)) rfl ?_
  exact ⟨_, re_, Kd.V_nil _ _ _ _ _, bl_⟩
 ·rw [if_neg c2] at H
  have c2b0 : decide (20000 < (l0_0.length : Int)) = false := decide_eq_false c2
  have c2b1 : decide (20000 < l0_0.length) = false := decide_eq_false (by omega)
  clear c2
  simp only [Option.some.injEq, Prod.mk.injEq] at H
  obtain ⟨rfl, rfl⟩ := H
  go_enter Tryd.func62, Tryd.ntmps62
  go_wp2_with (first | ((with_reducible refine gate_dst (N := 1) rfl ?_); refine box_event ?hg (N := 1) ?hd (cs := #[.slice A0_0 l0_0.length c0_0]) (t := 31) ?hr ?_; (case hd => rfl); (case hg => rfl); (case hr => first | (go_simp; done) | (go_simp; rfl)); intro gb142 hg w8 hbox hb; have BK142 := Aside0.mk (hbox); have GW142 : Aside0 (w.heap.size ≤ gb142) := gw_ hg (below_size bl_); have GE142 := GW142; replace HO0_0 := Aside0.mk (Kd.V_below (Kd.V_elderB (pV_ HO0_0.out) gb142 (Nat.le_of_eq hg.symm)) hb); replace HB := Aside0.mk (below_step bl_ hb); clear hb hbox hg) | ((with_reducible refine gate_dst (N := 2) rfl ?_); refine box_event ?hg (N := 2) ?hd (cs := #[.slice none 0 0]) (t := 31) ?hr ?_; (case hd => rfl); (case hg => rfl); (case hr => first | (go_simp; done) | (go_simp; rfl)); intro gb143 hg w9 hbox hb; have BK143 := Aside0.mk (hbox); have GW143 : Aside0 (w.heap.size ≤ gb143) := gw_ hg (below_size bl_); have GE143 := GW143; have NB142_143 := Aside0.mk ((by rw [hg]; exact Nat.ne_of_lt (blk_lt (g := gb142) (o := .cells #[.slice A0_0 l0_0.length c0_0] 31 (0, 0)) bk_) : gb142 ≠ gb143)); have NB143_142 := Aside0.mk ((by rw [hg]; exact Nat.ne_of_gt (blk_lt (g := gb142) (o := .cells #[.slice A0_0 l0_0.length c0_0] 31 (0, 0)) bk_) : gb143 ≠ gb142)); replace HO0_0 := Aside0.mk (Kd.V_below (Kd.V_elderB (pV_ HO0_0.out) gb143 (Nat.le_of_eq hg.symm)) hb); replace BK142 := Aside0.mk (blk_below (g := gb142) (o := .cells #[.slice A0_0 l0_0.length c0_0] 31 (0, 0)) bk_ hb); replace HB := Aside0.mk (below_step bl_ hb); clear hb hbox hg; have hnb10 := NB142_143.out; have hnc10 := NB143_142.out; obtain ⟨hcz11_0, hfz11_0⟩ := cf1_ BK142.out; obtain ⟨hcz12_0, hfz12_0⟩ := cf1_ BK143.out))
  refine bodyPost_ret (results_ct rfl _ _ gb143 31 #[.slice A0_0 l0_0.length c0_0] (0, 0) _ rfl (by (with_reducible repeat (first | refine blk_drewN ?_ _ | refine blk_drew ?_ | refine blk_alloc ?_ _)); refine blk_put (cs := #[.slice none 0 0]) ?_ 0 _ rfl; (with_reducible repeat (first | refine blk_drewN ?_ _ | refine blk_drew ?_ | refine blk_alloc ?_ _)); exact BK143.out) Tryd.underlying31 rfl (by kernel_rfl)) rfl ?_
  exact ⟨_, re_, by (with_reducible repeat (first | apply Kd.V_alloc | apply Kd.V_drewN | apply Kd.V_drew)); exact Kd.V_mono (Kd.V_far (p := ⟨gb143, 0, none⟩) (Kd.V_mono HO0_0.out (fun k_ hk => (⟨hk, by first | exact hk.2 | exact hk.1 | exact hk.2 | exact hk.1.1 | exact hk.1.2⟩ : _ ∧ k_ ≠ gb143))) (fun _ hk => hk.2) (.slice A0_0 l0_0.length c0_0)) (fun _ hk => hk.1.1.1), bl_⟩

end Go.Proofs.YtopbjginpmdebaaDoor.K
namespace Go.Proofs.YtopbjginpmdebaaDoor.K
open Go.RowKit Go.Proofs.YtopbjginpmdebaaDoorW.PrintWords Go.Proofs.YtopbjginpmdebaaDoorW.PrintLast Go.Proofs.YtopbjginpmdebaaDoorW.PrintMore
attribute [local go_sem] max2_int min2_int max_two min_two max_three min_three max_four min_four   -- for this text's walks alone
set_option linter.unusedVariables false
set_option linter.unusedSimpArgs false

/-! ### exactpplref19_Reduce: function 43 -/
def exactpplref19_Reduce.f (k : Nat) (l0 : List (S60)) : Option ((List (S60)) × Int) := (exactpplref19_Graph.f k l0).bind fun t198 => (if t198 = true then ((exactpplref19_Canon.f l0).bind fun t199 => ((exactpplref19_Fit.f t199).bind fun bt202 => (some (bt202.1, bt202.2)))) else (some (([] : List (S60)), 2)))
theorem exactpplref19_Reduce.mono : ∀ a0 k, LeO (exactpplref19_Reduce.f k a0) (exactpplref19_Reduce.f (k + 1) a0) := by
 intro a0 k
 unfold exactpplref19_Reduce.f
 repeat' first
   | (with_reducible exact exactpplref19_Graph.mono _ _)
   | (with_reducible exact LeO.refl _)
   | (with_reducible exact LeO.none _)
   | (with_reducible refine LeO.ite ?_ ?_)
   | (with_reducible refine LeO.bind ?_ (fun _ => ?_))
   | exact exactpplref19_Graph.mono _ _
   | exact LeO.none _
   | refine LeO.ite ?_ ?_
   | refine LeO.bind ?_ (fun _ => ?_)
set_option maxHeartbeats 8000000 in
set_option maxRecDepth 100000 in
theorem exactpplref19_Reduce.calls (k : Nat) (A0 : Option Addr) (c0 : Nat) (l0 : List (S60)) (r1 : List (S60)) (r2 : Int) (w : World) (hr0 : Kd.C k60 w A0 l0.length l0) (hc0 : l0.length ≤ c0) (h : exactpplref19_Reduce.f k l0 = some (r1, r2)) :
  Calls Tryd.prog 43 #[.slice A0 l0.length c0] w fun e w' => ∃ v0_ : Value, e = .returned (.tuple #[.agg #[v0_], .int .i64 r2]) ∧ Kd.V k60 60 w' w.heap.size (fun k_ => (w.heap.size ≤ k_)) v0_ r1 ∧ Below w.heap.size w w' := by
 have hu31 := Tryd.underlying31
 have HR0 := Aside0.mk hr0
 have HC0 := Aside0.mk hc0
 clear hr0 hc0
 have HB := Aside0.mk (Below.refl w.heap.size w)
 have H : ((exactpplref19_Graph.f k l0).bind fun t198 => (if t198 = true then ((exactpplref19_Canon.f l0).bind fun t199 => ((exactpplref19_Fit.f t199).bind fun bt202 => (some (bt202.1, bt202.2)))) else (some (([] : List (S60)), 2)))) = some (r1, r2) := h
 clear h
 replace H := Option.bind_eq_some_iff.mp H
 obtain ⟨t198, A20, H⟩ := H
 replace H : (if t198 = true then ((exactpplref19_Canon.f l0).bind fun t199 => ((exactpplref19_Fit.f t199).bind fun bt202 => (some (bt202.1, bt202.2)))) else (some (([] : List (S60)), 2))) = some (r1, r2) := H
 have A2 := Aside0.mk A20
 clear A20
 by_cases c3 : t198 = true
 ·subst c3
  have H1 : ((exactpplref19_Canon.f l0).bind fun t199 => ((exactpplref19_Fit.f t199).bind fun bt202 => (some (bt202.1, bt202.2)))) = some (r1, r2) := by rw [if_pos rfl] at H; exact H
  clear H
  have H := H1
  clear H1
  replace H := Option.bind_eq_some_iff.mp H
  obtain ⟨t199, A40, H⟩ := H
  replace H : ((exactpplref19_Fit.f t199).bind fun bt202 => (some (bt202.1, bt202.2))) = some (r1, r2) := H
  have A4 := Aside0.mk A40
  clear A40
  replace H := Option.bind_eq_some_iff.mp H
  obtain ⟨⟨t202, t205⟩, A50, H⟩ := H
  replace H : (some (t202, t205)) = some (r1, r2) := H
  have A5 := Aside0.mk A50
  clear A50
  simp only [Option.some.injEq, Prod.mk.injEq] at H
  obtain ⟨rfl, rfl⟩ := H
  go_enter Tryd.func43, Tryd.ntmps43
  go_wp2_with (first | ((with_reducible refine gate_dst (N := 2) rfl ?_); refine box_event ?hg (N := 2) ?hd (cs := #[.slice none 0 0]) (t := 31) ?hr ?_; (case hd => rfl); (case hg => rfl); (case hr => first | (go_simp; done) | (go_simp; rfl)); intro gb197 hg w6 hbox hb; have BK197 := Aside0.mk (hbox); have GW197 : Aside0 (w.heap.size ≤ gb197) := gw_ hg (below_size bl_); have GE197 := GW197; replace HB := Aside0.mk (below_step bl_ hb); clear hb hbox hg) | ((with_reducible refine gate_callee (f := 67) rfl ?_); refine goesL_ (some 5) rfl rfl Tryd.func67 (by kernel_rfl) rfl #[.slice A0 l0.length c0] rfl (by (try simp only [List.map_toArray, List.map_cons, List.map_nil]); first | done | rfl | (simp only [List.length_drop, List.length_take]; rfl)) ?_; (with_reducible refine (exactpplref19_Graph.calls k _ _ l0 true _ ?side1 ?side2 A2.out).mono ?_); (case side1 => repeat (first | exact (Kd.C_below HR0.out HB.out) | (with_reducible refine Kd.C_alloc ?_ _) | (with_reducible refine Kd.C_drewN ?_ _) | (with_reducible refine Kd.C_drew ?_))); (case side2 => exact HC0.out); rintro e w7 ⟨rfl, hb⟩; refine ⟨_, rfl, ?_⟩; replace BK197 := Aside0.mk (blk_below (g := gb197) (o := .cells #[.slice none 0 0] 31 (0, 0)) bk_ hb); replace HB := Aside0.mk (below_step bl_ hb); (try clear hb); (try clear hb2); (try clear hk); (try clear hi)) | ((with_reducible refine gate_callee (f := 68) rfl ?_); refine goesL_ (some 9) rfl rfl Tryd.func68 (by kernel_rfl) rfl #[.slice A0 l0.length c0] rfl (by (try simp only [List.map_toArray, List.map_cons, List.map_nil]); first | done | rfl | (simp only [List.length_drop, List.length_take]; rfl)) ?_; (with_reducible refine (exactpplref19_Canon.calls _ _ l0 t199 _ ?side1 ?side2 A4.out).mono ?_); (case side1 => repeat (first | exact (Kd.C_below HR0.out HB.out) | (with_reducible refine Kd.C_alloc ?_ _) | (with_reducible refine Kd.C_drewN ?_ _) | (with_reducible refine Kd.C_drew ?_))); (case side2 => exact HC0.out); rintro e w8 ⟨v200, rfl, ho0, hb⟩; refine ⟨_, rfl, ?_⟩; have HO201 := Aside0.mk (Kd.V_lower (Kd.V_mono (ok' := fun k_ => (w.heap.size ≤ k_) ∧ k_ ≠ gb197) ho0 (fun k_ hk_ => ⟨(Nat.le_trans (below_size bl_) hk_), (Kd.freshB (g := gb197) (o := .cells #[.slice none 0 0] 31 (0, 0)) bk_ k_ hk_)⟩)) (below_size bl_)); replace BK197 := Aside0.mk (blk_below (g := gb197) (o := .cells #[.slice none 0 0] 31 (0, 0)) bk_ hb); replace HB := Aside0.mk (below_step bl_ hb); (try clear hb); (try clear hb2); (try clear hk); (try clear hi); (try clear ho0); obtain ⟨Ao9, co9, eo9⟩ := Kd.V_slice HO201.out; subst eo9) | ((with_reducible refine gate_callee (f := 62) rfl ?_); refine goesL_ (some 10) rfl rfl Tryd.func62 (by kernel_rfl) rfl #[.agg #[.slice Ao9 t199.length co9]] rfl (by (try simp only [List.map_toArray, List.map_cons, List.map_nil]); first | done | rfl | (simp only [List.length_drop, List.length_take]; rfl)) ?_; (with_reducible refine (exactpplref19_Fit.calls (fun k_ => ((w.heap.size ≤ k_) ∧ k_ ≠ gb197)) _ _ t199 t202 t205 _ ?side1 A5.out).mono ?_); (case side1 => exact HO201.out); rintro e w10 ⟨v203, rfl, ho0, hb⟩; refine ⟨_, rfl, ?_⟩; have HO204 := Aside0.mk (Kd.V_lower (Kd.V_mono (ok' := fun k_ => (w.heap.size ≤ k_) ∧ k_ ≠ gb197) ho0 (fun k_ hk_ => ⟨Or.elim hk_ (fun hs_ => hs_.1) (fun hn_ => (Nat.le_trans (below_size bl_) hn_)), Or.elim hk_ (fun hs_ => hs_.2) (fun hn_ => (Kd.freshB (g := gb197) (o := .cells #[.slice none 0 0] 31 (0, 0)) bk_ k_ hn_))⟩)) (below_size bl_)); replace HO201 := Aside0.mk (Kd.V_below (pV_ HO201.out) hb); replace BK197 := Aside0.mk (blk_below (g := gb197) (o := .cells #[.slice none 0 0] 31 (0, 0)) bk_ hb); replace HB := Aside0.mk (below_step bl_ hb); (try clear hb); (try clear hb2); (try clear hk); (try clear hi); (try clear ho0); obtain ⟨Ao11, co11, eo11⟩ := Kd.V_slice HO204.out; subst eo11; obtain ⟨hcz12_0, hfz12_0⟩ := cf1_ BK197.out))
  refine bodyPost_ret (results_ct rfl _ _ gb197 31 #[.slice Ao11 t202.length co11] (0, 0) _ rfl (by (with_reducible repeat (first | refine blk_drewN ?_ _ | refine blk_drew ?_ | refine blk_alloc ?_ _)); refine blk_put (cs := #[.slice none 0 0]) ?_ 0 _ rfl; (with_reducible repeat (first | refine blk_drewN ?_ _ | refine blk_drew ?_ | refine blk_alloc ?_ _)); exact BK197.out) Tryd.underlying31 rfl (by kernel_rfl)) rfl ?_
  exact ⟨_, re_, by (with_reducible repeat (first | apply Kd.V_alloc | apply Kd.V_drewN | apply Kd.V_drew)); exact Kd.V_mono (Kd.V_far (p := ⟨gb197, 0, none⟩) (Kd.V_mono HO204.out (fun k_ hk => (⟨hk, by first | exact hk.2 | exact hk.1 | exact hk.2 | exact hk.1.1 | exact hk.1.2⟩ : _ ∧ k_ ≠ gb197))) (fun _ hk => hk.2) (.slice Ao11 t202.length co11)) (fun _ hk => hk.1.1), bl_⟩
 ·replace c3 := Bool.eq_false_iff.mpr c3
  subst c3
  have H1 : (some (([] : List (S60)), 2)) = some (r1, r2) := by rw [if_neg (show ¬ (false = true) by decide)] at H; exact H
  clear H
  have H := H1
  clear H1
  simp only [Option.some.injEq, Prod.mk.injEq] at H
  obtain ⟨rfl, rfl⟩ := H
  go_enter Tryd.func43, Tryd.ntmps43
  go_wp2_with (first | ((with_reducible refine gate_dst (N := 2) rfl ?_); refine box_event ?hg (N := 2) ?hd (cs := #[.slice none 0 0]) (t := 31) ?hr ?_; (case hd => rfl); (case hg => rfl); (case hr => first | (go_simp; done) | (go_simp; rfl)); intro gb197 hg w13 hbox hb; have BK197 := Aside0.mk (hbox); have GW197 : Aside0 (w.heap.size ≤ gb197) := gw_ hg (below_size bl_); have GE197 := GW197; replace HB := Aside0.mk (below_step bl_ hb); clear hb hbox hg) | ((with_reducible refine gate_callee (f := 67) rfl ?_); refine goesL_ (some 5) rfl rfl Tryd.func67 (by kernel_rfl) rfl #[.slice A0 l0.length c0] rfl (by (try simp only [List.map_toArray, List.map_cons, List.map_nil]); first | done | rfl | (simp only [List.length_drop, List.length_take]; rfl)) ?_; (with_reducible refine (exactpplref19_Graph.calls k _ _ l0 false _ ?side1 ?side2 A2.out).mono ?_); (case side1 => repeat (first | exact (Kd.C_below HR0.out HB.out) | (with_reducible refine Kd.C_alloc ?_ _) | (with_reducible refine Kd.C_drewN ?_ _) | (with_reducible refine Kd.C_drew ?_))); (case side2 => exact HC0.out); rintro e w14 ⟨rfl, hb⟩; refine ⟨_, rfl, ?_⟩; replace BK197 := Aside0.mk (blk_below (g := gb197) (o := .cells #[.slice none 0 0] 31 (0, 0)) bk_ hb); replace HB := Aside0.mk (below_step bl_ hb); (try clear hb); (try clear hb2); (try clear hk); (try clear hi); obtain ⟨hcz15_0, hfz15_0⟩ := cf1_ BK197.out))
  refine bodyPost_ret (results_ct rfl _ _ gb197 31 #[.slice none 0 0] (0, 0) _ rfl (by (with_reducible repeat (first | refine blk_drewN ?_ _ | refine blk_drew ?_ | refine blk_alloc ?_ _)); refine blk_put (cs := #[.slice none 0 0]) ?_ 0 _ rfl; (with_reducible repeat (first | refine blk_drewN ?_ _ | refine blk_drew ?_ | refine blk_alloc ?_ _)); exact BK197.out) Tryd.underlying31 rfl (by kernel_rfl)) rfl ?_
  exact ⟨_, re_, Kd.V_nil _ _ _ _ _, bl_⟩

end Go.Proofs.YtopbjginpmdebaaDoor.K
namespace Go.Proofs.YtopbjginpmdebaaDoor.K
open Go.RowKit Go.Proofs.YtopbjginpmdebaaDoorW.PrintWords Go.Proofs.YtopbjginpmdebaaDoorW.PrintLast Go.Proofs.YtopbjginpmdebaaDoorW.PrintMore
attribute [local go_sem] max2_int min2_int max_two min_two max_three min_three max_four min_four   -- for this text's walks alone
set_option linter.unusedVariables false
set_option linter.unusedSimpArgs false

/-! ### exactpplref19_Validate: function 44 -/
def exactpplref19_Validate.f (k : Nat) (l0_0 : List (S60)) : Option (Int) := (exactpplref19_Reduce.f k l0_0).bind fun bt207 => (if bt207.2 = 0 then ((exactpplref19_Same.f k bt207.1 l0_0).bind fun t212 => (if t212 = true then (some 0) else (some 2))) else (some bt207.2))
theorem exactpplref19_Validate.mono : ∀ a0 k, LeO (exactpplref19_Validate.f k a0) (exactpplref19_Validate.f (k + 1) a0) := by
 intro a0 k
 unfold exactpplref19_Validate.f
 repeat' first
   | (with_reducible exact exactpplref19_Reduce.mono _ _)
   | (with_reducible exact exactpplref19_Same.mono _ _ _)
   | (with_reducible exact LeO.refl _)
   | (with_reducible exact LeO.none _)
   | (with_reducible refine LeO.ite ?_ ?_)
   | (with_reducible refine LeO.bind ?_ (fun _ => ?_))
   | exact exactpplref19_Reduce.mono _ _
   | exact exactpplref19_Same.mono _ _ _
   | exact LeO.none _
   | refine LeO.ite ?_ ?_
   | refine LeO.bind ?_ (fun _ => ?_)
set_option maxHeartbeats 8000000 in
set_option maxRecDepth 100000 in
theorem exactpplref19_Validate.calls (k : Nat) (A0_0 : Option Addr) (c0_0 : Nat) (l0_0 : List (S60)) (r : Int) (w : World) (hr0_0 : Kd.C k60 w A0_0 l0_0.length l0_0) (hc0_0 : l0_0.length ≤ c0_0) (h : exactpplref19_Validate.f k l0_0 = some r) :
  Calls Tryd.prog 44 #[.agg #[.slice A0_0 l0_0.length c0_0]] w fun e w' => e = .returned (.int .i64 r) ∧ Below w.heap.size w w' := by
 have hu31 := Tryd.underlying31
 have HR0_0 := Aside0.mk hr0_0
 have HC0_0 := Aside0.mk hc0_0
 clear hr0_0 hc0_0
 have HB := Aside0.mk (Below.refl w.heap.size w)
 have H : ((exactpplref19_Reduce.f k l0_0).bind fun bt207 => (if bt207.2 = 0 then ((exactpplref19_Same.f k bt207.1 l0_0).bind fun t212 => (if t212 = true then (some 0) else (some 2))) else (some bt207.2))) = some r := h
 clear h
 replace H := Option.bind_eq_some_iff.mp H
 obtain ⟨⟨t207, t210⟩, A20, H⟩ := H
 replace H : (if t210 = 0 then ((exactpplref19_Same.f k t207 l0_0).bind fun t212 => (if t212 = true then (some 0) else (some 2))) else (some t210)) = some r := H
 have A2 := Aside0.mk A20
 clear A20
 by_cases c3 : t210 = 0
 ·rw [if_pos c3] at H
  have c3b0 : (t210 == 0) = true := beq_iff_eq.mpr c3
  have c3b1 : (t210 != 0) = false := bne_eq_false_iff_eq.mpr c3
  clear c3
  replace H := Option.bind_eq_some_iff.mp H
  obtain ⟨t212, A40, H⟩ := H
  replace H : (if t212 = true then (some 0) else (some 2)) = some r := H
  have A4 := Aside0.mk A40
  clear A40
  by_cases c5 : t212 = true
  ·subst c5
   have H1 : (some 0) = some r := by rw [if_pos rfl] at H; exact H
   clear H
   have H := H1
   clear H1
   obtain rfl := Option.some.inj H
   go_enter Tryd.func44, Tryd.ntmps44
   go_wp2_with (first | ((with_reducible refine gate_dst (N := 1) rfl ?_); refine box_event ?hg (N := 1) ?hd (cs := #[.slice A0_0 l0_0.length c0_0]) (t := 31) ?hr ?_; (case hd => rfl); (case hg => rfl); (case hr => first | (go_simp; done) | (go_simp; rfl)); intro gb206 hg w6 hbox hb; have BK206 := Aside0.mk (hbox); have GW206 : Aside0 (w.heap.size ≤ gb206) := gw_ hg (below_size bl_); have GE206 := GW206; replace HB := Aside0.mk (below_step bl_ hb); clear hb hbox hg; obtain ⟨hcz7_0, hfz7_0⟩ := cf1_ BK206.out) | ((with_reducible refine gate_callee (f := 43) rfl ?_); refine goesL_ (some 8) rfl rfl Tryd.func43 (by kernel_rfl) rfl #[.slice A0_0 l0_0.length c0_0] rfl (by (try simp only [List.map_toArray, List.map_cons, List.map_nil]); first | done | rfl | (simp only [List.length_drop, List.length_take]; rfl)) ?_; (with_reducible refine (exactpplref19_Reduce.calls k _ _ l0_0 t207 t210 _ ?side1 ?side2 A2.out).mono ?_); (case side1 => repeat (first | exact (Kd.C_below HR0_0.out HB.out) | (with_reducible refine Kd.C_alloc ?_ _) | (with_reducible refine Kd.C_drewN ?_ _) | (with_reducible refine Kd.C_drew ?_))); (case side2 => exact HC0_0.out); rintro e w8 ⟨v208, rfl, ho0, hb⟩; refine ⟨_, rfl, ?_⟩; have HO209 := Aside0.mk (Kd.V_lower (Kd.V_mono (ok' := fun k_ => k_ ≠ gb206) ho0 (fun k_ hk_ => (Kd.freshB (g := gb206) (o := .cells #[.slice A0_0 l0_0.length c0_0] 31 (0, 0)) bk_ k_ hk_))) (below_size bl_)); replace BK206 := Aside0.mk (blk_below (g := gb206) (o := .cells #[.slice A0_0 l0_0.length c0_0] 31 (0, 0)) bk_ hb); replace HB := Aside0.mk (below_step bl_ hb); (try clear hb); (try clear hb2); (try clear hk); (try clear hi); (try clear ho0)) | ((with_reducible refine gate_dst (N := 3) rfl ?_); refine box_event ?hg (N := 3) ?hd (cs := #[.slice none 0 0]) (t := 31) ?hr ?_; (case hd => rfl); (case hg => rfl); (case hr => first | (go_simp; done) | (go_simp; rfl)); intro gb211 hg w9 hbox hb; have BK211 := Aside0.mk (hbox); have GW211 : Aside0 (w.heap.size ≤ gb211) := gw_ hg (below_size bl_); have GE211 := GW211; have NB206_211 := Aside0.mk ((by rw [hg]; exact Nat.ne_of_lt (blk_lt (g := gb206) (o := .cells #[.slice A0_0 l0_0.length c0_0] 31 (0, 0)) bk_) : gb206 ≠ gb211)); have NB211_206 := Aside0.mk ((by rw [hg]; exact Nat.ne_of_gt (blk_lt (g := gb206) (o := .cells #[.slice A0_0 l0_0.length c0_0] 31 (0, 0)) bk_) : gb211 ≠ gb206)); replace HO209 := Aside0.mk (Kd.V_below (Kd.V_elderB (pV_ HO209.out) gb211 (Nat.le_of_eq hg.symm)) hb); replace BK206 := Aside0.mk (blk_below (g := gb206) (o := .cells #[.slice A0_0 l0_0.length c0_0] 31 (0, 0)) bk_ hb); replace HB := Aside0.mk (below_step bl_ hb); clear hb hbox hg; obtain ⟨Ao10, co10, eo10⟩ := Kd.V_slice HO209.out; subst eo10; have hnb11 := NB211_206.out; have hnc11 := NB206_211.out; obtain ⟨hcz12_0, hfz12_0⟩ := cf1_ BK211.out; obtain ⟨hcz13_0, hfz13_0⟩ := cf1_ BK206.out) | ((with_reducible refine gate_callee (f := 20) rfl ?_); refine goesL_ (some 16) rfl rfl Tryd.func20 (by kernel_rfl) rfl #[.agg #[.slice Ao10 t207.length co10], .agg #[.slice A0_0 l0_0.length c0_0]] rfl (by (try simp only [List.map_toArray, List.map_cons, List.map_nil]); first | done | rfl | (simp only [List.length_drop, List.length_take]; rfl)) ?_; (with_reducible refine (exactpplref19_Same.calls k _ _ t207 _ _ l0_0 true _ ?side1 ?side2 ?side3 ?side4 A4.out).mono ?_); (case side1 => refine (Kd.V_reads' (e := 60) (base := w.heap.size) (ok := fun k_ => (k_ ≠ gb206 ∧ k_ ≠ gb211)) (n := t207.length) (c := co10) ?_).2.2; exact (by (with_reducible repeat (first | apply Kd.V_alloc | apply Kd.V_drewN | apply Kd.V_drew)); exact (Kd.V_mono (Kd.V_far (p := ⟨gb211, 0, none⟩) (Kd.V_mono HO209.out (fun k_ hk => (⟨hk, by first | exact hk.2 | exact hk.1 | exact hk.2 | exact hk.1.1 | exact hk.1.2⟩ : _ ∧ k_ ≠ gb211))) (fun _ hk => hk.2) (.slice Ao10 t207.length co10)) (fun _ h_ => h_.1)))); (case side2 => exact (Kd.V_reads' HO209.out).2.1); (case side3 => exact Kd.C_below HR0_0.out bl_); (case side4 => exact HC0_0.out); rintro e w14 ⟨rfl, hb⟩; refine ⟨_, rfl, ?_⟩; replace HO209 := Aside0.mk (Kd.V_below (by (with_reducible repeat (first | apply Kd.V_alloc | apply Kd.V_drewN | apply Kd.V_drew)); exact (Kd.V_mono (Kd.V_far (p := ⟨gb211, 0, none⟩) (Kd.V_mono HO209.out (fun k_ hk => (⟨hk, by first | exact hk.2 | exact hk.1 | exact hk.2 | exact hk.1.1 | exact hk.1.2⟩ : _ ∧ k_ ≠ gb211))) (fun _ hk => hk.2) (.slice Ao10 t207.length co10)) (fun _ h_ => h_.1))) hb); replace BK206 := Aside0.mk (blk_below (g := gb206) (o := .cells #[.slice A0_0 l0_0.length c0_0] 31 (0, 0)) (by (with_reducible repeat (first | refine blk_drewN ?_ _ | refine blk_drew ?_ | refine blk_alloc ?_ _)); refine blk_far ?_ NB206_211.out _; (with_reducible repeat (first | refine blk_drewN ?_ _ | refine blk_drew ?_ | refine blk_alloc ?_ _)); exact BK206.out) hb); replace BK211 := Aside0.mk (blk_below (g := gb211) (o := .cells #[.slice Ao10 t207.length co10] 31 (0, 0)) (by (with_reducible repeat (first | refine blk_drewN ?_ _ | refine blk_drew ?_ | refine blk_alloc ?_ _)); refine blk_put (cs := #[.slice none 0 0]) ?_ 0 _ rfl; (with_reducible repeat (first | refine blk_drewN ?_ _ | refine blk_drew ?_ | refine blk_alloc ?_ _)); exact BK211.out) hb); replace HB := Aside0.mk (below_step bl_ hb); (try clear hb); (try clear hb2); (try clear hk); (try clear hi)))
   go_ret
   exact ⟨re_, bl_⟩
  ·replace c5 := Bool.eq_false_iff.mpr c5
   subst c5
   have H1 : (some 2) = some r := by rw [if_neg (show ¬ (false = true) by decide)] at H; exact H
   clear H
   have H := H1
   clear H1
   obtain rfl := Option.some.inj H
   go_enter Tryd.func44, Tryd.ntmps44
   go_wp2_with (first | ((with_reducible refine gate_dst (N := 1) rfl ?_); refine box_event ?hg (N := 1) ?hd (cs := #[.slice A0_0 l0_0.length c0_0]) (t := 31) ?hr ?_; (case hd => rfl); (case hg => rfl); (case hr => first | (go_simp; done) | (go_simp; rfl)); intro gb206 hg w15 hbox hb; have BK206 := Aside0.mk (hbox); have GW206 : Aside0 (w.heap.size ≤ gb206) := gw_ hg (below_size bl_); have GE206 := GW206; replace HB := Aside0.mk (below_step bl_ hb); clear hb hbox hg; obtain ⟨hcz16_0, hfz16_0⟩ := cf1_ BK206.out) | ((with_reducible refine gate_callee (f := 43) rfl ?_); refine goesL_ (some 8) rfl rfl Tryd.func43 (by kernel_rfl) rfl #[.slice A0_0 l0_0.length c0_0] rfl (by (try simp only [List.map_toArray, List.map_cons, List.map_nil]); first | done | rfl | (simp only [List.length_drop, List.length_take]; rfl)) ?_; (with_reducible refine (exactpplref19_Reduce.calls k _ _ l0_0 t207 t210 _ ?side1 ?side2 A2.out).mono ?_); (case side1 => repeat (first | exact (Kd.C_below HR0_0.out HB.out) | (with_reducible refine Kd.C_alloc ?_ _) | (with_reducible refine Kd.C_drewN ?_ _) | (with_reducible refine Kd.C_drew ?_))); (case side2 => exact HC0_0.out); rintro e w17 ⟨v208, rfl, ho0, hb⟩; refine ⟨_, rfl, ?_⟩; have HO209 := Aside0.mk (Kd.V_lower (Kd.V_mono (ok' := fun k_ => k_ ≠ gb206) ho0 (fun k_ hk_ => (Kd.freshB (g := gb206) (o := .cells #[.slice A0_0 l0_0.length c0_0] 31 (0, 0)) bk_ k_ hk_))) (below_size bl_)); replace BK206 := Aside0.mk (blk_below (g := gb206) (o := .cells #[.slice A0_0 l0_0.length c0_0] 31 (0, 0)) bk_ hb); replace HB := Aside0.mk (below_step bl_ hb); (try clear hb); (try clear hb2); (try clear hk); (try clear hi); (try clear ho0)) | ((with_reducible refine gate_dst (N := 3) rfl ?_); refine box_event ?hg (N := 3) ?hd (cs := #[.slice none 0 0]) (t := 31) ?hr ?_; (case hd => rfl); (case hg => rfl); (case hr => first | (go_simp; done) | (go_simp; rfl)); intro gb211 hg w18 hbox hb; have BK211 := Aside0.mk (hbox); have GW211 : Aside0 (w.heap.size ≤ gb211) := gw_ hg (below_size bl_); have GE211 := GW211; have NB206_211 := Aside0.mk ((by rw [hg]; exact Nat.ne_of_lt (blk_lt (g := gb206) (o := .cells #[.slice A0_0 l0_0.length c0_0] 31 (0, 0)) bk_) : gb206 ≠ gb211)); have NB211_206 := Aside0.mk ((by rw [hg]; exact Nat.ne_of_gt (blk_lt (g := gb206) (o := .cells #[.slice A0_0 l0_0.length c0_0] 31 (0, 0)) bk_) : gb211 ≠ gb206)); replace HO209 := Aside0.mk (Kd.V_below (Kd.V_elderB (pV_ HO209.out) gb211 (Nat.le_of_eq hg.symm)) hb); replace BK206 := Aside0.mk (blk_below (g := gb206) (o := .cells #[.slice A0_0 l0_0.length c0_0] 31 (0, 0)) bk_ hb); replace HB := Aside0.mk (below_step bl_ hb); clear hb hbox hg; obtain ⟨Ao19, co19, eo19⟩ := Kd.V_slice HO209.out; subst eo19; have hnb20 := NB211_206.out; have hnc20 := NB206_211.out; obtain ⟨hcz21_0, hfz21_0⟩ := cf1_ BK211.out; obtain ⟨hcz22_0, hfz22_0⟩ := cf1_ BK206.out) | ((with_reducible refine gate_callee (f := 20) rfl ?_); refine goesL_ (some 16) rfl rfl Tryd.func20 (by kernel_rfl) rfl #[.agg #[.slice Ao19 t207.length co19], .agg #[.slice A0_0 l0_0.length c0_0]] rfl (by (try simp only [List.map_toArray, List.map_cons, List.map_nil]); first | done | rfl | (simp only [List.length_drop, List.length_take]; rfl)) ?_; (with_reducible refine (exactpplref19_Same.calls k _ _ t207 _ _ l0_0 false _ ?side1 ?side2 ?side3 ?side4 A4.out).mono ?_); (case side1 => refine (Kd.V_reads' (e := 60) (base := w.heap.size) (ok := fun k_ => (k_ ≠ gb206 ∧ k_ ≠ gb211)) (n := t207.length) (c := co19) ?_).2.2; exact (by (with_reducible repeat (first | apply Kd.V_alloc | apply Kd.V_drewN | apply Kd.V_drew)); exact (Kd.V_mono (Kd.V_far (p := ⟨gb211, 0, none⟩) (Kd.V_mono HO209.out (fun k_ hk => (⟨hk, by first | exact hk.2 | exact hk.1 | exact hk.2 | exact hk.1.1 | exact hk.1.2⟩ : _ ∧ k_ ≠ gb211))) (fun _ hk => hk.2) (.slice Ao19 t207.length co19)) (fun _ h_ => h_.1)))); (case side2 => exact (Kd.V_reads' HO209.out).2.1); (case side3 => exact Kd.C_below HR0_0.out bl_); (case side4 => exact HC0_0.out); rintro e w23 ⟨rfl, hb⟩; refine ⟨_, rfl, ?_⟩; replace HO209 := Aside0.mk (Kd.V_below (by (with_reducible repeat (first | apply Kd.V_alloc | apply Kd.V_drewN | apply Kd.V_drew)); exact (Kd.V_mono (Kd.V_far (p := ⟨gb211, 0, none⟩) (Kd.V_mono HO209.out (fun k_ hk => (⟨hk, by first | exact hk.2 | exact hk.1 | exact hk.2 | exact hk.1.1 | exact hk.1.2⟩ : _ ∧ k_ ≠ gb211))) (fun _ hk => hk.2) (.slice Ao19 t207.length co19)) (fun _ h_ => h_.1))) hb); replace BK206 := Aside0.mk (blk_below (g := gb206) (o := .cells #[.slice A0_0 l0_0.length c0_0] 31 (0, 0)) (by (with_reducible repeat (first | refine blk_drewN ?_ _ | refine blk_drew ?_ | refine blk_alloc ?_ _)); refine blk_far ?_ NB206_211.out _; (with_reducible repeat (first | refine blk_drewN ?_ _ | refine blk_drew ?_ | refine blk_alloc ?_ _)); exact BK206.out) hb); replace BK211 := Aside0.mk (blk_below (g := gb211) (o := .cells #[.slice Ao19 t207.length co19] 31 (0, 0)) (by (with_reducible repeat (first | refine blk_drewN ?_ _ | refine blk_drew ?_ | refine blk_alloc ?_ _)); refine blk_put (cs := #[.slice none 0 0]) ?_ 0 _ rfl; (with_reducible repeat (first | refine blk_drewN ?_ _ | refine blk_drew ?_ | refine blk_alloc ?_ _)); exact BK211.out) hb); replace HB := Aside0.mk (below_step bl_ hb); (try clear hb); (try clear hb2); (try clear hk); (try clear hi)))
   go_ret
   exact ⟨re_, bl_⟩
 ·rw [if_neg c3] at H
  have c3b0 : (t210 == 0) = false := beq_eq_false_iff_ne.mpr c3
  have c3b1 : (t210 != 0) = true := bne_iff_ne.mpr c3
  obtain rfl := Option.some.inj H
  go_enter Tryd.func44, Tryd.ntmps44
  go_wp2_with (first | ((with_reducible refine gate_dst (N := 1) rfl ?_); refine box_event ?hg (N := 1) ?hd (cs := #[.slice A0_0 l0_0.length c0_0]) (t := 31) ?hr ?_; (case hd => rfl); (case hg => rfl); (case hr => first | (go_simp; done) | (go_simp; rfl)); intro gb206 hg w24 hbox hb; have BK206 := Aside0.mk (hbox); have GW206 : Aside0 (w.heap.size ≤ gb206) := gw_ hg (below_size bl_); have GE206 := GW206; replace HB := Aside0.mk (below_step bl_ hb); clear hb hbox hg; obtain ⟨hcz25_0, hfz25_0⟩ := cf1_ BK206.out) | ((with_reducible refine gate_callee (f := 43) rfl ?_); refine goesL_ (some 8) rfl rfl Tryd.func43 (by kernel_rfl) rfl #[.slice A0_0 l0_0.length c0_0] rfl (by (try simp only [List.map_toArray, List.map_cons, List.map_nil]); first | done | rfl | (simp only [List.length_drop, List.length_take]; rfl)) ?_; (with_reducible refine (exactpplref19_Reduce.calls k _ _ l0_0 t207 t210 _ ?side1 ?side2 A2.out).mono ?_); (case side1 => repeat (first | exact (Kd.C_below HR0_0.out HB.out) | (with_reducible refine Kd.C_alloc ?_ _) | (with_reducible refine Kd.C_drewN ?_ _) | (with_reducible refine Kd.C_drew ?_))); (case side2 => exact HC0_0.out); rintro e w26 ⟨v208, rfl, ho0, hb⟩; refine ⟨_, rfl, ?_⟩; have HO209 := Aside0.mk (Kd.V_lower (Kd.V_mono (ok' := fun k_ => k_ ≠ gb206) ho0 (fun k_ hk_ => (Kd.freshB (g := gb206) (o := .cells #[.slice A0_0 l0_0.length c0_0] 31 (0, 0)) bk_ k_ hk_))) (below_size bl_)); replace BK206 := Aside0.mk (blk_below (g := gb206) (o := .cells #[.slice A0_0 l0_0.length c0_0] 31 (0, 0)) bk_ hb); replace HB := Aside0.mk (below_step bl_ hb); (try clear hb); (try clear hb2); (try clear hk); (try clear hi); (try clear ho0)) | ((with_reducible refine gate_dst (N := 3) rfl ?_); refine box_event ?hg (N := 3) ?hd (cs := #[.slice none 0 0]) (t := 31) ?hr ?_; (case hd => rfl); (case hg => rfl); (case hr => first | (go_simp; done) | (go_simp; rfl)); intro gb211 hg w27 hbox hb; have BK211 := Aside0.mk (hbox); have GW211 : Aside0 (w.heap.size ≤ gb211) := gw_ hg (below_size bl_); have GE211 := GW211; have NB206_211 := Aside0.mk ((by rw [hg]; exact Nat.ne_of_lt (blk_lt (g := gb206) (o := .cells #[.slice A0_0 l0_0.length c0_0] 31 (0, 0)) bk_) : gb206 ≠ gb211)); have NB211_206 := Aside0.mk ((by rw [hg]; exact Nat.ne_of_gt (blk_lt (g := gb206) (o := .cells #[.slice A0_0 l0_0.length c0_0] 31 (0, 0)) bk_) : gb211 ≠ gb206)); replace HO209 := Aside0.mk (Kd.V_below (Kd.V_elderB (pV_ HO209.out) gb211 (Nat.le_of_eq hg.symm)) hb); replace BK206 := Aside0.mk (blk_below (g := gb206) (o := .cells #[.slice A0_0 l0_0.length c0_0] 31 (0, 0)) bk_ hb); replace HB := Aside0.mk (below_step bl_ hb); clear hb hbox hg; obtain ⟨Ao28, co28, eo28⟩ := Kd.V_slice HO209.out; subst eo28; have hnb29 := NB211_206.out; have hnc29 := NB206_211.out; obtain ⟨hcz30_0, hfz30_0⟩ := cf1_ BK211.out))
  go_ret
  exact ⟨re_, bl_⟩

end Go.Proofs.YtopbjginpmdebaaDoor.K
namespace Go.Proofs.YtopbjginpmdebaaDoor.K
open Go.RowKit Go.Proofs.YtopbjginpmdebaaDoorW.PrintWords Go.Proofs.YtopbjginpmdebaaDoorW.PrintLast Go.Proofs.YtopbjginpmdebaaDoorW.PrintMore
attribute [local go_sem] max2_int min2_int max_two min_two max_three min_three max_four min_four   -- for this text's walks alone
set_option linter.unusedVariables false
set_option linter.unusedSimpArgs false

/-! ### exactpplmake_Src_Pick: function 32 -/
def exactpplmake_Src_Pick.f (s0_0 : List Int) (s0_1 : Int) (s0_2 : Int) (l1 : List Int) : Option (Int × Int × Int) := (exactpplmake_Src_N.f s0_0 s0_1 s0_2 (l1.length : Int)).bind fun bt236 => (if 0 ≤ bt236.1 then (if bt236.1 < (l1.length : Int) then (some (rd l1 bt236.1, bt236.2.1, bt236.2.2)) else (none)) else (none))
set_option maxHeartbeats 8000000 in
set_option maxRecDepth 100000 in
theorem exactpplmake_Src_Pick.calls (g : Nat) (s0_0 : List Int) (s0_1 : Int) (s0_2 : Int) (A1 : Option Addr) (c1 : Nat) (l1 : List Int) (r1 : Int) (r2 : Int) (r3 : Int) (w0 w : World) (hI : IsS58 w0 w g s0_0 s0_1 s0_2) (hB : Below w0.heap.size w0 w) (hr1 : Kd.C (Kd.int .i64) w A1 l1.length l1) (hc1 : l1.length ≤ c1) (hf1 : ∀ ad, A1 = some ad → 0 < l1.length → ad.block ≠ g) (h : exactpplmake_Src_Pick.f s0_0 s0_1 s0_2 l1 = some (r1, r2, r3)) :
  Calls Tryd.prog 32 #[.pointer (some ⟨g, 0, none⟩), .slice A1 l1.length c1] w fun e w' => e = .returned (.int .i64 r1) ∧ IsS58 w0 w' g s0_0 r2 r3 ∧ Below w0.heap.size w0 w' ∧ KeepBut w w' g none := by
 have HR1 := Aside0.mk hr1
 have HC1 := Aside0.mk hc1
 clear hr1 hc1
 have HI0 := Aside0.mk hI
 have HK := Aside0.mk (KeepBut.refl w g none)
 have HL := Aside0.mk hB.size
 clear hI
 have HW0 := Aside0.mk hB.size
 have HB := Aside0.mk hB
 clear hB
 have H : ((exactpplmake_Src_N.f s0_0 s0_1 s0_2 (l1.length : Int)).bind fun bt236 => (if 0 ≤ bt236.1 then (if bt236.1 < (l1.length : Int) then (some (rd l1 bt236.1, bt236.2.1, bt236.2.2)) else (none)) else (none))) = some (r1, r2, r3) := h
 clear h
 replace H := Option.bind_eq_some_iff.mp H
 obtain ⟨⟨t236, t237, t238⟩, A30, H⟩ := H
 replace H : (if 0 ≤ t236 then (if t236 < (l1.length : Int) then (some (rd l1 t236, t237, t238)) else (none)) else (none)) = some (r1, r2, r3) := H
 have A3 := Aside0.mk A30
 clear A30
 by_cases c4 : 0 ≤ t236
 ·rw [if_pos c4] at H
  have c4b0 : decide (0 ≤ t236) = true := decide_eq_true c4
  clear c4
  by_cases c5 : t236 < (l1.length : Int)
  ·rw [if_pos c5] at H
   have c5b0 : decide (t236 < (l1.length : Int)) = true := decide_eq_true c5
   clear c5
   simp only [Option.some.injEq, Prod.mk.injEq] at H
   obtain ⟨rfl, rfl, rfl⟩ := H
   go_enter Tryd.func32, Tryd.ntmps32
   go_wp2_with (first | ((with_reducible refine gate_callee (f := 23) rfl ?_); refine goesL_ (some 9) rfl rfl Tryd.func23 (by kernel_rfl) rfl #[.pointer (some ⟨g, 0, none⟩), .int .i64 (l1.length : Int)] rfl (by (try simp only [List.map_toArray, List.map_cons, List.map_nil]); first | done | rfl | (simp only [List.length_drop, List.length_take]; rfl)) ?_; (with_reducible refine (exactpplmake_Src_N.calls g s0_0 s0_1 s0_2 (l1.length : Int) t236 t237 t238 w0 _ ?side1 ?side2 A3.out).mono ?_); (case side1 => repeat (first | (with_reducible first | exact HI0.out | apply IsS58.alloc | apply IsS58.drewN | apply IsS58.drew | apply IsS58.set_1 | apply IsS58.set_2) | exact HI0.out)); (case side2 => repeat (first | (with_reducible first | exact HB.out | apply below_alloc | apply pw_below_drewN | apply below_drew1 | refine below_set ?_ (IsS58.ge HI0.out)) | exact HB.out)); rintro e w6 ⟨rfl, hi, hb, hk⟩; refine ⟨_, rfl, ?_⟩; replace HK := Aside0.mk (KeepBut.trans (by repeat (first | (with_reducible first | exact HK.out | apply KeepBut.set_ | apply keep_drewN | apply keep_drew | apply keep_alloc) | exact HK.out)) hk (.inl rfl)); replace HB := Aside0.mk (hb); replace HI0 := Aside0.mk (hi); (try clear hb); (try clear hb2); (try clear hk); (try clear hi); have p239 : 0 ≤ (t236 : Int) := dt_; have q239 : t236 < (l1.length : Int) := dt_; obtain ⟨ad239, e239, hx239_0⟩ := Kd.at_int HR1.out t236 p239 q239; cases e239; replace hx239_0 := keep_cell HK.out hx239_0 (by first | (rw [add_block]; exact hf1 _ rfl (by omega)) | exact hf1 _ rfl (by omega) | exact hf1 ad239 rfl (by omega)); replace p239 := eq_true p239; replace q239 := eq_true q239))
   go_ret
   exact ⟨re_, si_, bl_, by repeat (first | (with_reducible first | exact HK.out | apply KeepBut.set_ | apply keep_drewN | apply keep_drew | apply keep_alloc) | exact HK.out)⟩
  ·rw [if_neg c5] at H
   exact absurd H (by simp)
 ·rw [if_neg c4] at H
  exact absurd H (by simp)

end Go.Proofs.YtopbjginpmdebaaDoor.K
-- the reference's Reduce, Validate; reduces; the numbers that are read
namespace Go.Proofs.YtopbjginpmdebaaDoor.K
open Go.RowKit Go.Maps Go.Proofs.YtopbjginpmdebaaDoorW.PrintWords Go.Proofs.YtopbjginpmdebaaDoorW.PrintLast Go.Proofs.YtopbjginpmdebaaDoorW.PrintMore
set_option linter.unusedVariables false
set_option linter.unusedSimpArgs false
/-- rounds enough for a list -/
def rnd (l : List Nd) : Nat := 1073741824 + l.length + l.length + 20006
theorem refReduce_f (l : List Nd) (h : ndOk l = true) (k : Nat) (hk : rnd l ≤ k) : exactpplref19_Reduce.f k l = some (redL l, redE l) := by
  have hr := ndOk_room h
  have hI := ndOk_I h
  unfold rnd at hk
  unfold exactpplref19_Reduce.f
  rw [graph_f l (by omega) 1073741824 (by decide) (fun n hn => (hI n hn).2.2) k (by omega), Option.bind_some]
  by_cases hg : grB l = true
  · rw [if_pos hg, exactpplref19_Canon.f, if_pos hg, if_pos h, Option.bind_some]
    unfold exactpplref19_Fit.f redL redE
    rw [if_pos hg]
    by_cases hl : (cn l).length ≤ 20000
    · rw [if_neg (by omega), if_pos hl]; rfl
    · rw [if_pos (by omega), if_neg hl]; rfl
  · rw [if_neg hg]
    unfold redL redE
    rw [if_neg hg]; rfl
theorem redL_len (l : List Nd) : (redL l).length ≤ 20000 := redL_kids
theorem refValidate_f (l : List Nd) (h : ndOk l = true) (k : Nat) (hk : rnd l ≤ k) : exactpplref19_Validate.f k l = some (valE l) := by
  unfold exactpplref19_Validate.f
  rw [refReduce_f l h k hk, Option.bind_some]
  have hl := redL_len l
  unfold rnd at hk
  unfold valE
  by_cases h0 : redE l = 0
  · rw [if_pos h0, if_pos h0, same_f (redL l) l (by omega) 1073741824 (by decide) (fun n hn => Nat.le_trans (redL_kids16 l n hn) (by decide)) k (by omega), Option.bind_some]
    have e : redL l = cn l := by unfold redL; rw [if_pos h0]
    rw [e]
    by_cases hq : cn l = l
    · rw [decide_eq_true hq, if_pos rfl, if_pos hq]
    · rw [decide_eq_false hq, if_neg (by decide), if_neg hq]
  · rw [if_neg h0, if_neg h0]
theorem mono_le {α : Type} {f : Nat → Option α} (h : ∀ k, LeO (f k) (f (k + 1))) {k k' : Nat} (hk : k ≤ k') {r : α} (e : f k = some r) : f k' = some r := by
  induction hk with
  | refl => exact e
  | step _ ih => exact h _ _ ih
/-- what a source is while it is read -/
structure Src (L : List Int) (at_ : Int) : Prop where
  len : L.length ≤ 1000
  i64 : ∀ x ∈ L, -9223372036854775808 ≤ x ∧ x ≤ 9223372036854775807
  lo : 0 ≤ at_
  hi : at_ ≤ (L.length : Int)
theorem new_f (l : List Int) (h : ∀ x ∈ l, -9223372036854775808 ≤ x ∧ x ≤ 9223372036854775807) : ∃ L, exactpplmake_New.f l = some (L, 0, 0) ∧ Src L 0 := by
  unfold exactpplmake_New.f
  by_cases h1 : (l.length : Int) > 1000
  · rw [if_pos h1, if_pos (by omega)]
    exact ⟨_, rfl, by simp; omega, fun x hx => h x (List.mem_of_mem_take hx), by omega, by omega⟩
  · rw [if_neg h1]
    exact ⟨_, rfl, by omega, h, by omega, by omega⟩
theorem w64_id {x : Int} (h : -9223372036854775808 ≤ x) (h2 : x ≤ 9223372036854775807) : wrap64 x = x := by unfold wrap64; omega
theorem raw_f {L : List Int} {a : Int} (h : Src L a) (st : Int) : ∃ x a', exactpplmake_Src_Raw.f L a st = some (x, a', st) ∧ (-9223372036854775808 ≤ x ∧ x ≤ 9223372036854775807) ∧ Src L a' := by
  have hl := h.len
  have h0 := h.lo
  have h1 := h.hi
  unfold exactpplmake_Src_Raw.f
  by_cases he : a ≥ (L.length : Int)
  · rw [if_pos he]
    exact ⟨0, a, rfl, by omega, h⟩
  · rw [if_neg he, w64_id (x := a + 1) (by omega) (by omega), w64_id (x := a + 1 - 1) (by omega) (by omega), if_pos (by omega), if_pos (by omega)]
    refine ⟨_, _, rfl, ?_, ⟨hl, h.i64, by omega, by omega⟩⟩
    refine h.i64 _ ?_
    have hj : a.toNat < L.length := by omega
    have e : rd L (a + 1 - 1) = L[a.toNat] := by rw [show a + 1 - 1 = ((a.toNat : Nat) : Int) by omega, rd_get hj]
    rw [e]; exact List.getElem_mem hj
theorem n_f {L : List Int} {a : Int} (h : Src L a) (st n : Int) (h1 : 1 ≤ n) (h2 : n ≤ 1000000000000) : ∃ x a', exactpplmake_Src_N.f L a st n = some (x, a', st) ∧ (0 ≤ x ∧ x < n) ∧ Src L a' := by
  unfold exactpplmake_Src_N.f
  obtain ⟨x, a', e, hx, h'⟩ := raw_f h st
  rw [if_neg (by omega), e, Option.bind_some, if_neg (by omega)]
  have ht1 := Int.lt_tmod_of_pos x (show 0 < n by omega)
  have ht2 := Int.tmod_lt_of_pos x (show 0 < n by omega)
  by_cases hn : Int.tmod x n < 0
  · simp only
    rw [if_pos hn, w64_id (by omega) (by omega)]
    exact ⟨_, _, rfl, by omega, h'⟩
  · simp only
    rw [if_neg hn]
    exact ⟨_, _, rfl, by omega, h'⟩
theorem n0_f {L : List Int} {a : Int} (h : Src L a) (st n : Int) (h1 : n < 1) : exactpplmake_Src_N.f L a st n = some (0, a, st) := by
  unfold exactpplmake_Src_N.f
  rw [if_pos h1]
theorem range_f {L : List Int} {a : Int} (h : Src L a) (st lo hi : Int) (h1 : lo ≤ hi) (h2 : -100000000000 ≤ lo) (h3 : hi ≤ 100000000000) : ∃ x a', exactpplmake_Src_Range.f L a st lo hi = some (x, a', st) ∧ (lo ≤ x ∧ x ≤ hi) ∧ Src L a' := by
  unfold exactpplmake_Src_Range.f
  rw [w64_id (x := hi - lo) (by omega) (by omega), w64_id (x := hi - lo + 1) (by omega) (by omega)]
  obtain ⟨x, a', e, hx, h'⟩ := n_f h st (hi - lo + 1) (by omega) (by omega)
  rw [e, Option.bind_some]
  simp only
  rw [w64_id (by omega) (by omega)]
  exact ⟨_, _, rfl, by omega, h'⟩
theorem pick_f {L : List Int} {a : Int} (h : Src L a) (st : Int) (l : List Int) (h1 : l ≠ []) (h2 : l.length ≤ 1000) : ∃ x a', exactpplmake_Src_Pick.f L a st l = some (x, a', st) ∧ x ∈ l ∧ Src L a' := by
  have hp := List.length_pos_iff.2 h1
  unfold exactpplmake_Src_Pick.f
  obtain ⟨x, a', e, hx, h'⟩ := n_f h st (l.length : Int) (by omega) (by omega)
  rw [e, Option.bind_some]
  simp only
  rw [if_pos (by omega), if_pos (by omega)]
  refine ⟨_, _, rfl, ?_, h'⟩
  have hj : x.toNat < l.length := by omega
  rw [show x = ((x.toNat : Nat) : Int) by omega, rd_get hj]
  exact List.getElem_mem hj
theorem width_f (s : Int) (h1 : 0 ≤ s) (h2 : s ≤ 1000000) : exactpplmake_Width.f s = some (2 + s % 2) := by
  unfold exactpplmake_Width.f
  rw [Int.tmod_eq_emod_of_nonneg h1, w64_id (by omega) (by omega)]
end Go.Proofs.YtopbjginpmdebaaDoor.K
