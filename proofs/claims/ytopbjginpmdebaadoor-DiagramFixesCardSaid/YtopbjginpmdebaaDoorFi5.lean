/- Lemmas for: Proved: the tied card of exactppllaw19.DiagramFixes (for every input the law returns true). Conditions: none beyond the given row. -/
import Derived.Test.YtopbjginpmdebaaDoorFi2
import Derived.Test.YtopbjginpmdebaaDoorFi3
import Derived.Test.YtopbjginpmdebaaDoorFi4
namespace Go.Proofs.YtopbjginpmdebaaDoor.K
open Go.RowKit Go.Proofs.YtopbjginpmdebaaDoorW.PrintWords Go.Proofs.YtopbjginpmdebaaDoorW.PrintLast Go.Proofs.YtopbjginpmdebaaDoorW.PrintMore
attribute [local go_sem] max2_int min2_int max_two min_two max_three min_three max_four min_four   -- for this text's walks alone
set_option linter.unusedVariables false
set_option linter.unusedSimpArgs false

/-! ### exactppllaw19_DiagramFixes: function 12 -/
mutual
def exactppllaw19_DiagramFixes.j0 : Nat → Int → Int → List Int → Int → Int → List (S60) → Option (Bool)
 | 0, _, _, _, _, _, _ => none
 | k + 1, x5, x6, x875000, x875001, x875002, x881000 => (exactpplmake_Width.f x5).bind fun t887 => ((exactpplmake_Src_N.f x875000 x875001 x875002 t887).bind fun bt888 => ((exactpplmake_Width.f x6).bind fun t891 => ((exactpplmake_Src_N.f x875000 bt888.2.1 bt888.2.2 t891).bind fun bt892 => ((diagram_Restrict.f x881000 x5 bt888.1).bind fun bt895 => ((diagram_Restrict.f x881000 x6 bt892.1).bind fun bt900 => ((diagram_Restrict.f bt895.1 x6 bt892.1).bind fun bt905 => ((diagram_Restrict.f bt900.1 x5 bt888.1).bind fun bt910 => (if bt895.2 = 0 then (if bt900.2 = 0 then (if bt905.2 = 0 then (if bt910.2 = 0 then ((exactpplref19_Same.f k bt905.1 bt910.1).bind fun t915 => (exactppllaw19_DiagramFixes.j1 k x5 bt888.1 (!t915) x875000 bt892.2.1 bt892.2.2 x881000 bt895.1)) else (exactppllaw19_DiagramFixes.j1 k x5 bt888.1 true x875000 bt892.2.1 bt892.2.2 x881000 bt895.1)) else (exactppllaw19_DiagramFixes.j1 k x5 bt888.1 true x875000 bt892.2.1 bt892.2.2 x881000 bt895.1)) else (exactppllaw19_DiagramFixes.j1 k x5 bt888.1 true x875000 bt892.2.1 bt892.2.2 x881000 bt895.1)) else (exactppllaw19_DiagramFixes.j1 k x5 bt888.1 true x875000 bt892.2.1 bt892.2.2 x881000 bt895.1)))))))))
def exactppllaw19_DiagramFixes.j1 : Nat → Int → Int → Bool → List Int → Int → Int → List (S60) → List (S60) → Option (Bool)
 | 0, _, _, _, _, _, _, _, _ => none
 | k + 1, x5, x7, x91, x875000, x875001, x875002, x881000, x900000 => if x91 = true then (some false) else ((exactpplmake_Src_Outcomes.f k x875000 x875001 x875002 4).bind fun bt916 => ((diagram_Eval.f x900000 bt916.1).bind fun bt921 => (if 0 ≤ x5 then (if x5 < (bt916.1.length : Int) then ((diagram_Eval.f x881000 (bt916.1.set (x5 : Int).toNat x7)).bind fun bt924 => ((diagram_Sites.f x900000).bind fun bt926 => (if bt921.2 = 0 then (if bt924.2 = 0 then (if bt926.2 = 0 then (exactppllaw19_DiagramFixes.j2 k x5 bt926.1 (bt921.1 != bt924.1)) else (exactppllaw19_DiagramFixes.j2 k x5 bt926.1 true)) else (exactppllaw19_DiagramFixes.j2 k x5 bt926.1 true)) else (exactppllaw19_DiagramFixes.j2 k x5 bt926.1 true)))) else (none)) else (none))))
def exactppllaw19_DiagramFixes.j2 : Nat → Int → List Int → Bool → Option (Bool)
 | 0, _, _, _ => none
 | k + 1, x5, x20, x129 => if x129 = true then (some false) else (exactppllaw19_DiagramFixes.l0 k x5 x20 0)
def exactppllaw19_DiagramFixes.l0 : Nat → Int → List Int → Int → Option (Bool)
 | 0, _, _, _ => none
 | k + 1, x5, x20, x21 => if x21 < (x20.length : Int) then (if 0 ≤ x21 then (if (rd x20 x21) = x5 then (some false) else (exactppllaw19_DiagramFixes.l0 k x5 x20 (wrap64 (x21 + 1)))) else (none)) else ((exactppllaw19_awake.f).bind fun t931 => (some t931))
end
def exactppllaw19_DiagramFixes.f (k : Nat) (l0 : List Int) : Option (Bool) := (exactpplmake_New.f l0).bind fun bt871 => ((exactpplmake_Src_Diagram.f k bt871.1 bt871.2.1 bt871.2.2 0 3).bind fun bt875 => ((exactpplmake_Src_N.f bt871.1 bt875.2.1 bt875.2.2 4).bind fun bt881 => ((exactpplmake_Src_N.f bt871.1 bt881.2.1 bt881.2.2 4).bind fun bt884 => (if bt881.1 = bt884.1 then (exactppllaw19_DiagramFixes.j0 k bt881.1 (Int.tmod (wrap64 (bt881.1 + 1)) 4) bt871.1 bt884.2.1 bt884.2.2 bt875.1) else (exactppllaw19_DiagramFixes.j0 k bt881.1 bt884.1 bt871.1 bt884.2.1 bt884.2.2 bt875.1)))))
theorem exactppllaw19_DiagramFixes.mono_l : ∀ k, (∀ y0 y1 y2 y3 y4 y5, LeO (exactppllaw19_DiagramFixes.j0 k y0 y1 y2 y3 y4 y5) (exactppllaw19_DiagramFixes.j0 (k + 1) y0 y1 y2 y3 y4 y5)) ∧ (∀ y0 y1 y2 y3 y4 y5 y6 y7, LeO (exactppllaw19_DiagramFixes.j1 k y0 y1 y2 y3 y4 y5 y6 y7) (exactppllaw19_DiagramFixes.j1 (k + 1) y0 y1 y2 y3 y4 y5 y6 y7)) ∧ (∀ y0 y1 y2, LeO (exactppllaw19_DiagramFixes.j2 k y0 y1 y2) (exactppllaw19_DiagramFixes.j2 (k + 1) y0 y1 y2)) ∧ (∀ y0 y1 y2, LeO (exactppllaw19_DiagramFixes.l0 k y0 y1 y2) (exactppllaw19_DiagramFixes.l0 (k + 1) y0 y1 y2))
 | 0 => ⟨fun _ _ _ _ _ _ r h => by simp [exactppllaw19_DiagramFixes.j0] at h, fun _ _ _ _ _ _ _ _ r h => by simp [exactppllaw19_DiagramFixes.j1] at h, fun _ _ _ r h => by simp [exactppllaw19_DiagramFixes.j2] at h, fun _ _ _ r h => by simp [exactppllaw19_DiagramFixes.l0] at h⟩
 | k + 1 => by
  obtain ⟨ih0, ih1, ih2, ih3⟩ := exactppllaw19_DiagramFixes.mono_l k
  refine ⟨?_, ?_, ?_, ?_⟩
  ·intro y0 y1 y2 y3 y4 y5
   unfold exactppllaw19_DiagramFixes.j0
   repeat' first
   | (with_reducible exact ih0 _ _ _ _ _ _)
   | (with_reducible exact ih1 _ _ _ _ _ _ _ _)
   | (with_reducible exact ih2 _ _ _)
   | (with_reducible exact ih3 _ _ _)
   | (with_reducible exact exactpplmake_Src_Diagram.mono _ _ _ _ _ _)
   | (with_reducible exact exactpplmake_Src_Outcomes.mono _ _ _ _ _)
   | (with_reducible exact exactpplref19_Same.mono _ _ _)
   | (with_reducible exact LeO.refl _)
   | (with_reducible exact LeO.none _)
   | (with_reducible refine LeO.ite ?_ ?_)
   | (with_reducible refine LeO.bind ?_ (fun _ => ?_))
   | exact ih0 _ _ _ _ _ _
   | exact ih1 _ _ _ _ _ _ _ _
   | exact ih2 _ _ _
   | exact ih3 _ _ _
   | exact exactpplmake_Src_Diagram.mono _ _ _ _ _ _
   | exact exactpplmake_Src_Outcomes.mono _ _ _ _ _
   | exact exactpplref19_Same.mono _ _ _
   | exact LeO.none _
   | refine LeO.ite ?_ ?_
   | refine LeO.bind ?_ (fun _ => ?_)
  ·intro y0 y1 y2 y3 y4 y5 y6 y7
   unfold exactppllaw19_DiagramFixes.j1
   repeat' first
   | (with_reducible exact ih0 _ _ _ _ _ _)
   | (with_reducible exact ih1 _ _ _ _ _ _ _ _)
   | (with_reducible exact ih2 _ _ _)
   | (with_reducible exact ih3 _ _ _)
   | (with_reducible exact exactpplmake_Src_Diagram.mono _ _ _ _ _ _)
   | (with_reducible exact exactpplmake_Src_Outcomes.mono _ _ _ _ _)
   | (with_reducible exact exactpplref19_Same.mono _ _ _)
   | (with_reducible exact LeO.refl _)
   | (with_reducible exact LeO.none _)
   | (with_reducible refine LeO.ite ?_ ?_)
   | (with_reducible refine LeO.bind ?_ (fun _ => ?_))
   | exact ih0 _ _ _ _ _ _
   | exact ih1 _ _ _ _ _ _ _ _
   | exact ih2 _ _ _
   | exact ih3 _ _ _
   | exact exactpplmake_Src_Diagram.mono _ _ _ _ _ _
   | exact exactpplmake_Src_Outcomes.mono _ _ _ _ _
   | exact exactpplref19_Same.mono _ _ _
   | exact LeO.none _
   | refine LeO.ite ?_ ?_
   | refine LeO.bind ?_ (fun _ => ?_)
  ·intro y0 y1 y2
   unfold exactppllaw19_DiagramFixes.j2
   repeat' first
   | (with_reducible exact ih0 _ _ _ _ _ _)
   | (with_reducible exact ih1 _ _ _ _ _ _ _ _)
   | (with_reducible exact ih2 _ _ _)
   | (with_reducible exact ih3 _ _ _)
   | (with_reducible exact exactpplmake_Src_Diagram.mono _ _ _ _ _ _)
   | (with_reducible exact exactpplmake_Src_Outcomes.mono _ _ _ _ _)
   | (with_reducible exact exactpplref19_Same.mono _ _ _)
   | (with_reducible exact LeO.refl _)
   | (with_reducible exact LeO.none _)
   | (with_reducible refine LeO.ite ?_ ?_)
   | (with_reducible refine LeO.bind ?_ (fun _ => ?_))
   | exact ih0 _ _ _ _ _ _
   | exact ih1 _ _ _ _ _ _ _ _
   | exact ih2 _ _ _
   | exact ih3 _ _ _
   | exact exactpplmake_Src_Diagram.mono _ _ _ _ _ _
   | exact exactpplmake_Src_Outcomes.mono _ _ _ _ _
   | exact exactpplref19_Same.mono _ _ _
   | exact LeO.none _
   | refine LeO.ite ?_ ?_
   | refine LeO.bind ?_ (fun _ => ?_)
  ·intro y0 y1 y2
   unfold exactppllaw19_DiagramFixes.l0
   repeat' first
   | (with_reducible exact ih0 _ _ _ _ _ _)
   | (with_reducible exact ih1 _ _ _ _ _ _ _ _)
   | (with_reducible exact ih2 _ _ _)
   | (with_reducible exact ih3 _ _ _)
   | (with_reducible exact exactpplmake_Src_Diagram.mono _ _ _ _ _ _)
   | (with_reducible exact exactpplmake_Src_Outcomes.mono _ _ _ _ _)
   | (with_reducible exact exactpplref19_Same.mono _ _ _)
   | (with_reducible exact LeO.refl _)
   | (with_reducible exact LeO.none _)
   | (with_reducible refine LeO.ite ?_ ?_)
   | (with_reducible refine LeO.bind ?_ (fun _ => ?_))
   | exact ih0 _ _ _ _ _ _
   | exact ih1 _ _ _ _ _ _ _ _
   | exact ih2 _ _ _
   | exact ih3 _ _ _
   | exact exactpplmake_Src_Diagram.mono _ _ _ _ _ _
   | exact exactpplmake_Src_Outcomes.mono _ _ _ _ _
   | exact exactpplref19_Same.mono _ _ _
   | exact LeO.none _
   | refine LeO.ite ?_ ?_
   | refine LeO.bind ?_ (fun _ => ?_)
theorem exactppllaw19_DiagramFixes.mono : ∀ a0 k, LeO (exactppllaw19_DiagramFixes.f k a0) (exactppllaw19_DiagramFixes.f (k + 1) a0) := by
 intro a0 k
 obtain ⟨ih0, ih1, ih2, ih3⟩ := exactppllaw19_DiagramFixes.mono_l k
 unfold exactppllaw19_DiagramFixes.f
 repeat' first
   | (with_reducible exact ih0 _ _ _ _ _ _)
   | (with_reducible exact ih1 _ _ _ _ _ _ _ _)
   | (with_reducible exact ih2 _ _ _)
   | (with_reducible exact ih3 _ _ _)
   | (with_reducible exact exactpplmake_Src_Diagram.mono _ _ _ _ _ _)
   | (with_reducible exact exactpplmake_Src_Outcomes.mono _ _ _ _ _)
   | (with_reducible exact exactpplref19_Same.mono _ _ _)
   | (with_reducible exact LeO.refl _)
   | (with_reducible exact LeO.none _)
   | (with_reducible refine LeO.ite ?_ ?_)
   | (with_reducible refine LeO.bind ?_ (fun _ => ?_))
   | exact ih0 _ _ _ _ _ _
   | exact ih1 _ _ _ _ _ _ _ _
   | exact ih2 _ _ _
   | exact ih3 _ _ _
   | exact exactpplmake_Src_Diagram.mono _ _ _ _ _ _
   | exact exactpplmake_Src_Outcomes.mono _ _ _ _ _
   | exact exactpplref19_Same.mono _ _ _
   | exact LeO.none _
   | refine LeO.ite ?_ ?_
   | refine LeO.bind ?_ (fun _ => ?_)
set_option maxHeartbeats 8000000 in
set_option maxRecDepth 100000 in
theorem exactppllaw19_DiagramFixes.calls (k : Nat) (A0 : Option Addr) (c0 : Nat) (l0 : List Int) (r : Bool) (w : World) (hr0 : Kd.C (Kd.int .i64) w A0 l0.length l0) (hc0 : l0.length ≤ c0) (h : exactppllaw19_DiagramFixes.f k l0 = some r) (htab : PowTab w.heap.size w) :
  Calls Tryd.prog 12 #[.slice A0 l0.length c0] w fun e w' => e = .returned (.bool r) ∧ Below w.heap.size w w' := by
 have HTAB := Aside0.mk htab
 clear htab
 have hu31 := Tryd.underlying31
 have HR0 := Aside0.mk hr0
 have HC0 := Aside0.mk hc0
 clear hr0 hc0
 have HB := Aside0.mk (Below.refl w.heap.size w)
 have H : ((exactpplmake_New.f l0).bind fun bt871 => ((exactpplmake_Src_Diagram.f k bt871.1 bt871.2.1 bt871.2.2 0 3).bind fun bt875 => ((exactpplmake_Src_N.f bt871.1 bt875.2.1 bt875.2.2 4).bind fun bt881 => ((exactpplmake_Src_N.f bt871.1 bt881.2.1 bt881.2.2 4).bind fun bt884 => (if bt881.1 = bt884.1 then (exactppllaw19_DiagramFixes.j0 k bt881.1 (Int.tmod (wrap64 (bt881.1 + 1)) 4) bt871.1 bt884.2.1 bt884.2.2 bt875.1) else (exactppllaw19_DiagramFixes.j0 k bt881.1 bt884.1 bt871.1 bt884.2.1 bt884.2.2 bt875.1)))))) = some r := h
 clear h
 replace H := Option.bind_eq_some_iff.mp H
 obtain ⟨⟨t871, t872, t873⟩, A20, H⟩ := H
 replace H : ((exactpplmake_Src_Diagram.f k t871 t872 t873 0 3).bind fun bt875 => ((exactpplmake_Src_N.f t871 bt875.2.1 bt875.2.2 4).bind fun bt881 => ((exactpplmake_Src_N.f t871 bt881.2.1 bt881.2.2 4).bind fun bt884 => (if bt881.1 = bt884.1 then (exactppllaw19_DiagramFixes.j0 k bt881.1 (Int.tmod (wrap64 (bt881.1 + 1)) 4) t871 bt884.2.1 bt884.2.2 bt875.1) else (exactppllaw19_DiagramFixes.j0 k bt881.1 bt884.1 t871 bt884.2.1 bt884.2.2 bt875.1))))) = some r := H
 have A2 := Aside0.mk A20
 clear A20
 replace H := Option.bind_eq_some_iff.mp H
 obtain ⟨⟨t875, t878, t879⟩, A30, H⟩ := H
 replace H : ((exactpplmake_Src_N.f t871 t878 t879 4).bind fun bt881 => ((exactpplmake_Src_N.f t871 bt881.2.1 bt881.2.2 4).bind fun bt884 => (if bt881.1 = bt884.1 then (exactppllaw19_DiagramFixes.j0 k bt881.1 (Int.tmod (wrap64 (bt881.1 + 1)) 4) t871 bt884.2.1 bt884.2.2 t875) else (exactppllaw19_DiagramFixes.j0 k bt881.1 bt884.1 t871 bt884.2.1 bt884.2.2 t875)))) = some r := H
 have A3 := Aside0.mk A30
 clear A30
 replace H := Option.bind_eq_some_iff.mp H
 obtain ⟨⟨t881, t882, t883⟩, A40, H⟩ := H
 replace H : ((exactpplmake_Src_N.f t871 t882 t883 4).bind fun bt884 => (if t881 = bt884.1 then (exactppllaw19_DiagramFixes.j0 k t881 (Int.tmod (wrap64 (t881 + 1)) 4) t871 bt884.2.1 bt884.2.2 t875) else (exactppllaw19_DiagramFixes.j0 k t881 bt884.1 t871 bt884.2.1 bt884.2.2 t875))) = some r := H
 have A4 := Aside0.mk A40
 clear A40
 replace H := Option.bind_eq_some_iff.mp H
 obtain ⟨⟨t884, t885, t886⟩, A50, H⟩ := H
 replace H : (if t881 = t884 then (exactppllaw19_DiagramFixes.j0 k t881 (Int.tmod (wrap64 (t881 + 1)) 4) t871 t885 t886 t875) else (exactppllaw19_DiagramFixes.j0 k t881 t884 t871 t885 t886 t875)) = some r := H
 have A5 := Aside0.mk A50
 clear A50
 have HC6 := Aside0.mk H
 clear H
 go_enter Tryd.func12, Tryd.ntmps12
 go_upto_if 32 with (first | ((with_reducible refine gate_callee (f := 15) rfl ?_); refine goesL_ (some 23) rfl rfl Tryd.func15 (by kernel_rfl) rfl #[.slice A0 l0.length c0] rfl (by (try simp only [List.map_toArray, List.map_cons, List.map_nil]); first | done | rfl | (simp only [List.length_drop, List.length_take]; rfl)) ?_; (with_reducible refine (exactpplmake_New.calls _ _ l0 t871 t872 t873 w _ ?side1 ?side2 ?side3 A2.out).mono ?_); (case side1 => repeat (first | (with_reducible first | exact HB.out | apply below_alloc | apply pw_below_drewN | apply below_drew1) | exact HB.out)); (case side2 => exact HR0.out); (case side3 => exact HC0.out); rintro e w7 ⟨g874, rfl, hi, hb, hb2⟩; refine ⟨_, rfl, ?_⟩; have HI874 := Aside0.mk (hi); replace HB := Aside0.mk (hb); (try clear hb); (try clear hb2); (try clear hk); (try clear hi)) | ((with_reducible refine gate_callee (f := 22) rfl ?_); refine goesL_ (some 25) rfl rfl Tryd.func22 (by kernel_rfl) rfl #[.pointer (some ⟨g874, 0, none⟩), .int .i64 0, .int .i64 3] rfl (by (try simp only [List.map_toArray, List.map_cons, List.map_nil]); first | done | rfl | (simp only [List.length_drop, List.length_take]; rfl)) ?_; (with_reducible refine (exactpplmake_Src_Diagram.calls k g874 t871 t872 t873 0 3 t875 t878 t879 w _ ?side1 ?side2 A3.out).mono ?_); (case side1 => repeat (first | (with_reducible first | exact HI874.out | apply IsS58.alloc | apply IsS58.drewN | apply IsS58.drew | apply IsS58.set_1 | apply IsS58.set_2) | exact HI874.out)); (case side2 => repeat (first | (with_reducible first | exact HB.out | apply below_alloc | apply pw_below_drewN | apply below_drew1 | refine below_set ?_ (IsS58.ge HI874.out)) | exact HB.out)); rintro e w8 ⟨v876, rfl, ho0, hi, hb, hk⟩; refine ⟨_, rfl, ?_⟩; have HO877 := Aside0.mk (Kd.V_lower (Kd.V_mono (ok' := fun k_ => k_ ≠ g874) ho0 (fun k_ hk_ => (IsS58.fresh si_ k_ hk_))) (below_size bl_)); replace HB := Aside0.mk (hb); replace HI874 := Aside0.mk (hi); (try clear hb); (try clear hb2); (try clear hk); (try clear hi); (try clear ho0)) | ((with_reducible refine gate_dst (N := 4) rfl ?_); refine box_event ?hg (N := 4) ?hd (cs := #[.slice none 0 0]) (t := 31) ?hr ?_; (case hd => rfl); (case hg => rfl); (case hr => first | (go_simp; done) | (go_simp; rfl)); intro gb880 hg w9 hbox hb; have BK880 := Aside0.mk (hbox); have GW880 : Aside0 (w.heap.size ≤ gb880) := gw_ hg (below_size bl_); have GE880 := GW880; have NB874_880 := Aside0.mk ((by rw [hg]; exact Nat.ne_of_lt (IsS58.lt (show IsS58 w _ g874 t871 t878 t879 from si_)) : g874 ≠ gb880)); have NB880_874 := Aside0.mk ((by rw [hg]; exact Nat.ne_of_gt (IsS58.lt (show IsS58 w _ g874 t871 t878 t879 from si_)) : gb880 ≠ g874)); replace HO877 := Aside0.mk (Kd.V_below (Kd.V_elderB (pV_ HO877.out) gb880 (Nat.le_of_eq hg.symm)) hb); replace HI874 := Aside0.mk (IsS58.below si_ hb); replace HB := Aside0.mk (below_step bl_ hb); clear hb hbox hg; obtain ⟨Ao10, co10, eo10⟩ := Kd.V_slice HO877.out; subst eo10; have hnb11 := NB880_874.out; have hnc11 := NB874_880.out; obtain ⟨hcz12_0, hfz12_0⟩ := cf1_ BK880.out) | ((with_reducible refine gate_callee (f := 23) rfl ?_); refine goesL_ (some 27) rfl rfl Tryd.func23 (by kernel_rfl) rfl #[.pointer (some ⟨g874, 0, none⟩), .int .i64 4] rfl (by (try simp only [List.map_toArray, List.map_cons, List.map_nil]); first | done | rfl | (simp only [List.length_drop, List.length_take]; rfl)) ?_; (with_reducible refine (exactpplmake_Src_N.calls g874 t871 t878 t879 4 t881 t882 t883 w _ ?side1 ?side2 A4.out).mono ?_); (case side1 => repeat (first | (with_reducible first | exact HI874.out | apply IsS58.alloc | apply IsS58.drewN | apply IsS58.drew | apply IsS58.set_1 | apply IsS58.set_2 | refine IsS58.far ?_ NB874_880.out _) | exact HI874.out)); (case side2 => repeat (first | (with_reducible first | exact HB.out | apply below_alloc | apply pw_below_drewN | apply below_drew1 | refine below_set ?_ (IsS58.ge HI874.out) | refine below_set ?_ GE880.out) | exact HB.out)); rintro e w13 ⟨rfl, hi, hb, hk⟩; refine ⟨_, rfl, ?_⟩; replace HO877 := Aside0.mk (Kd.V_mono (Kd.V_keep (Kd.V_mono (ok := fun k_ => (k_ ≠ g874 ∧ k_ ≠ gb880)) (by (with_reducible repeat (first | apply Kd.V_alloc | apply Kd.V_drewN | apply Kd.V_drew)); exact (Kd.V_mono (Kd.V_far (p := ⟨gb880, 0, none⟩) (Kd.V_mono HO877.out (fun k_ hk => (⟨hk, by first | exact hk.2 | exact hk.1 | exact hk.2 | exact hk.1.1 | exact hk.1.2⟩ : _ ∧ k_ ≠ gb880))) (fun _ hk => hk.2) (.slice Ao10 t875.length co10)) (fun _ h_ => h_.1))) (fun k_ hk_ => (⟨hk_, hk_.1⟩ : _ ∧ k_ ≠ g874))) hk (fun _ h => h.2)) (fun _ h => h.1)); replace BK880 := Aside0.mk (KeepBut.blk hk (g' := gb880) (o := .cells #[.slice Ao10 t875.length co10] 31 (0, 0)) (by (with_reducible repeat (first | refine blk_drewN ?_ _ | refine blk_drew ?_ | refine blk_alloc ?_ _)); refine blk_put (cs := #[.slice none 0 0]) ?_ 0 _ rfl; (with_reducible repeat (first | refine blk_drewN ?_ _ | refine blk_drew ?_ | refine blk_alloc ?_ _)); exact BK880.out) NB880_874.out (by simp)); replace HB := Aside0.mk (hb); replace HI874 := Aside0.mk (hi); (try clear hb); (try clear hb2); (try clear hk); (try clear hi)) | ((with_reducible refine gate_callee (f := 23) rfl ?_); refine goesL_ (some 29) rfl rfl Tryd.func23 (by kernel_rfl) rfl #[.pointer (some ⟨g874, 0, none⟩), .int .i64 4] rfl (by (try simp only [List.map_toArray, List.map_cons, List.map_nil]); first | done | rfl | (simp only [List.length_drop, List.length_take]; rfl)) ?_; (with_reducible refine (exactpplmake_Src_N.calls g874 t871 t882 t883 4 t884 t885 t886 w _ ?side1 ?side2 A5.out).mono ?_); (case side1 => repeat (first | (with_reducible first | exact HI874.out | apply IsS58.alloc | apply IsS58.drewN | apply IsS58.drew | apply IsS58.set_1 | apply IsS58.set_2 | refine IsS58.far ?_ NB874_880.out _) | exact HI874.out)); (case side2 => repeat (first | (with_reducible first | exact HB.out | apply below_alloc | apply pw_below_drewN | apply below_drew1 | refine below_set ?_ (IsS58.ge HI874.out) | refine below_set ?_ GE880.out) | exact HB.out)); rintro e w14 ⟨rfl, hi, hb, hk⟩; refine ⟨_, rfl, ?_⟩; replace HO877 := Aside0.mk (Kd.V_mono (Kd.V_keep (Kd.V_mono (ok := fun k_ => (k_ ≠ g874 ∧ k_ ≠ gb880)) (pV_ HO877.out) (fun k_ hk_ => (⟨hk_, hk_.1⟩ : _ ∧ k_ ≠ g874))) hk (fun _ h => h.2)) (fun _ h => h.1)); replace BK880 := Aside0.mk (KeepBut.blk hk (g' := gb880) (o := .cells #[.slice Ao10 t875.length co10] 31 (0, 0)) bk_ NB880_874.out (by simp)); replace HB := Aside0.mk (hb); replace HI874 := Aside0.mk (hi); (try clear hb); (try clear hb2); (try clear hk); (try clear hi)))
 (try simp only [Act.put, List.setIfInBounds_toArray, List.set_cons_zero, List.set_cons_succ])
 go_cut [6] (fun v6 wc => ∃ (kq : Nat) (x6_5 : Int), v6 = .int .i64 x6_5 ∧ Aside0 (exactppllaw19_DiagramFixes.j0 kq t881 x6_5 t871 t885 t886 t875 = some r) ∧ Aside0 (kq ≤ k) ∧ Aside0 (Kd.V k60 60 wc w.heap.size (fun k_ => k_ ≠ gb880 ∧ k_ ≠ g874) (.slice Ao10 t875.length co10) t875) ∧ Aside0 (wc.heap[gb880]? = some (.cells #[(.slice Ao10 t875.length co10)] 31 (0, 0))) ∧ Aside0 (IsS58 w wc g874 t871 t885 t886) ∧ Aside0 (Below w.heap.size w wc))
 case first =>
  have H := HC6.out
  clear HC6
  by_cases c15 : t881 = t884
  ·rw [if_pos c15] at H
   have c15b0 : (t881 == t884) = true := beq_iff_eq.mpr c15
   have c15b1 : (t881 != t884) = false := bne_eq_false_iff_eq.mpr c15
   clear c15
   (first | rw [c15b0] | (simp only [i64_w, i32_w]; rw [c15b0]) | skip)
   have H' := Aside0.mk H
   clear H
   go_wp2
   go_meet
   case rel => exact ⟨_, (Int.tmod (wrap64 (t881 + 1)) 4), rs_, H', ⟨by first | omega | exact Nat.le_refl _⟩, ⟨by (with_reducible repeat (first | apply Kd.V_alloc | apply Kd.V_drewN | apply Kd.V_drew)); exact Kd.V_mono HO877.out (fun _ hk => ⟨hk.2, hk.1⟩)⟩, ⟨bk_⟩, ⟨si_⟩, ⟨bl_⟩⟩
  ·rw [if_neg c15] at H
   have c15b0 : (t881 == t884) = false := beq_eq_false_iff_ne.mpr c15
   have c15b1 : (t881 != t884) = true := bne_iff_ne.mpr c15
   (first | rw [c15b0] | (simp only [i64_w, i32_w]; rw [c15b0]) | skip)
   have H' := Aside0.mk H
   clear H
   go_wp2
   go_meet
   case rel => exact ⟨_, (t884), rs_, H', ⟨by first | omega | exact Nat.le_refl _⟩, ⟨by (with_reducible repeat (first | apply Kd.V_alloc | apply Kd.V_drewN | apply Kd.V_drew)); exact Kd.V_mono HO877.out (fun _ hk => ⟨hk.2, hk.1⟩)⟩, ⟨bk_⟩, ⟨si_⟩, ⟨bl_⟩⟩
 case rest =>
  clear HC6
  try clear c1
  try clear c2
  try clear p2
  try clear p6
  try clear c11
  try clear c12
  try clear c15
  try clear c15b0
  try clear c15b1
  try clear hcz12_0 hfz12_0
  obtain ⟨kq, x6_5, rfl, HA, HJ5, HO_881000, BK880, HI874, HB⟩ := hcut
  cases kq with
  | zero => exact absurd HA.out (by simp [exactppllaw19_DiagramFixes.j0])
  | succ kj5 =>
   have H := HA.out
   clear HA
   simp only [exactppllaw19_DiagramFixes.j0] at H
   replace H := Option.bind_eq_some_iff.mp H
   obtain ⟨t887, A160, H⟩ := H
   replace H : ((exactpplmake_Src_N.f t871 t885 t886 t887).bind fun bt888 => ((exactpplmake_Width.f x6_5).bind fun t891 => ((exactpplmake_Src_N.f t871 bt888.2.1 bt888.2.2 t891).bind fun bt892 => ((diagram_Restrict.f t875 t881 bt888.1).bind fun bt895 => ((diagram_Restrict.f t875 x6_5 bt892.1).bind fun bt900 => ((diagram_Restrict.f bt895.1 x6_5 bt892.1).bind fun bt905 => ((diagram_Restrict.f bt900.1 t881 bt888.1).bind fun bt910 => (if bt895.2 = 0 then (if bt900.2 = 0 then (if bt905.2 = 0 then (if bt910.2 = 0 then ((exactpplref19_Same.f kj5 bt905.1 bt910.1).bind fun t915 => (exactppllaw19_DiagramFixes.j1 kj5 t881 bt888.1 (!t915) t871 bt892.2.1 bt892.2.2 t875 bt895.1)) else (exactppllaw19_DiagramFixes.j1 kj5 t881 bt888.1 true t871 bt892.2.1 bt892.2.2 t875 bt895.1)) else (exactppllaw19_DiagramFixes.j1 kj5 t881 bt888.1 true t871 bt892.2.1 bt892.2.2 t875 bt895.1)) else (exactppllaw19_DiagramFixes.j1 kj5 t881 bt888.1 true t871 bt892.2.1 bt892.2.2 t875 bt895.1)) else (exactppllaw19_DiagramFixes.j1 kj5 t881 bt888.1 true t871 bt892.2.1 bt892.2.2 t875 bt895.1))))))))) = some r := H
   have A16 := Aside0.mk A160
   clear A160
   replace H := Option.bind_eq_some_iff.mp H
   obtain ⟨⟨t888, t889, t890⟩, A170, H⟩ := H
   replace H : ((exactpplmake_Width.f x6_5).bind fun t891 => ((exactpplmake_Src_N.f t871 t889 t890 t891).bind fun bt892 => ((diagram_Restrict.f t875 t881 t888).bind fun bt895 => ((diagram_Restrict.f t875 x6_5 bt892.1).bind fun bt900 => ((diagram_Restrict.f bt895.1 x6_5 bt892.1).bind fun bt905 => ((diagram_Restrict.f bt900.1 t881 t888).bind fun bt910 => (if bt895.2 = 0 then (if bt900.2 = 0 then (if bt905.2 = 0 then (if bt910.2 = 0 then ((exactpplref19_Same.f kj5 bt905.1 bt910.1).bind fun t915 => (exactppllaw19_DiagramFixes.j1 kj5 t881 t888 (!t915) t871 bt892.2.1 bt892.2.2 t875 bt895.1)) else (exactppllaw19_DiagramFixes.j1 kj5 t881 t888 true t871 bt892.2.1 bt892.2.2 t875 bt895.1)) else (exactppllaw19_DiagramFixes.j1 kj5 t881 t888 true t871 bt892.2.1 bt892.2.2 t875 bt895.1)) else (exactppllaw19_DiagramFixes.j1 kj5 t881 t888 true t871 bt892.2.1 bt892.2.2 t875 bt895.1)) else (exactppllaw19_DiagramFixes.j1 kj5 t881 t888 true t871 bt892.2.1 bt892.2.2 t875 bt895.1)))))))) = some r := H
   have A17 := Aside0.mk A170
   clear A170
   replace H := Option.bind_eq_some_iff.mp H
   obtain ⟨t891, A180, H⟩ := H
   replace H : ((exactpplmake_Src_N.f t871 t889 t890 t891).bind fun bt892 => ((diagram_Restrict.f t875 t881 t888).bind fun bt895 => ((diagram_Restrict.f t875 x6_5 bt892.1).bind fun bt900 => ((diagram_Restrict.f bt895.1 x6_5 bt892.1).bind fun bt905 => ((diagram_Restrict.f bt900.1 t881 t888).bind fun bt910 => (if bt895.2 = 0 then (if bt900.2 = 0 then (if bt905.2 = 0 then (if bt910.2 = 0 then ((exactpplref19_Same.f kj5 bt905.1 bt910.1).bind fun t915 => (exactppllaw19_DiagramFixes.j1 kj5 t881 t888 (!t915) t871 bt892.2.1 bt892.2.2 t875 bt895.1)) else (exactppllaw19_DiagramFixes.j1 kj5 t881 t888 true t871 bt892.2.1 bt892.2.2 t875 bt895.1)) else (exactppllaw19_DiagramFixes.j1 kj5 t881 t888 true t871 bt892.2.1 bt892.2.2 t875 bt895.1)) else (exactppllaw19_DiagramFixes.j1 kj5 t881 t888 true t871 bt892.2.1 bt892.2.2 t875 bt895.1)) else (exactppllaw19_DiagramFixes.j1 kj5 t881 t888 true t871 bt892.2.1 bt892.2.2 t875 bt895.1))))))) = some r := H
   have A18 := Aside0.mk A180
   clear A180
   replace H := Option.bind_eq_some_iff.mp H
   obtain ⟨⟨t892, t893, t894⟩, A190, H⟩ := H
   replace H : ((diagram_Restrict.f t875 t881 t888).bind fun bt895 => ((diagram_Restrict.f t875 x6_5 t892).bind fun bt900 => ((diagram_Restrict.f bt895.1 x6_5 t892).bind fun bt905 => ((diagram_Restrict.f bt900.1 t881 t888).bind fun bt910 => (if bt895.2 = 0 then (if bt900.2 = 0 then (if bt905.2 = 0 then (if bt910.2 = 0 then ((exactpplref19_Same.f kj5 bt905.1 bt910.1).bind fun t915 => (exactppllaw19_DiagramFixes.j1 kj5 t881 t888 (!t915) t871 t893 t894 t875 bt895.1)) else (exactppllaw19_DiagramFixes.j1 kj5 t881 t888 true t871 t893 t894 t875 bt895.1)) else (exactppllaw19_DiagramFixes.j1 kj5 t881 t888 true t871 t893 t894 t875 bt895.1)) else (exactppllaw19_DiagramFixes.j1 kj5 t881 t888 true t871 t893 t894 t875 bt895.1)) else (exactppllaw19_DiagramFixes.j1 kj5 t881 t888 true t871 t893 t894 t875 bt895.1)))))) = some r := H
   have A19 := Aside0.mk A190
   clear A190
   replace H := Option.bind_eq_some_iff.mp H
   obtain ⟨⟨t895, t898⟩, A200, H⟩ := H
   replace H : ((diagram_Restrict.f t875 x6_5 t892).bind fun bt900 => ((diagram_Restrict.f t895 x6_5 t892).bind fun bt905 => ((diagram_Restrict.f bt900.1 t881 t888).bind fun bt910 => (if t898 = 0 then (if bt900.2 = 0 then (if bt905.2 = 0 then (if bt910.2 = 0 then ((exactpplref19_Same.f kj5 bt905.1 bt910.1).bind fun t915 => (exactppllaw19_DiagramFixes.j1 kj5 t881 t888 (!t915) t871 t893 t894 t875 t895)) else (exactppllaw19_DiagramFixes.j1 kj5 t881 t888 true t871 t893 t894 t875 t895)) else (exactppllaw19_DiagramFixes.j1 kj5 t881 t888 true t871 t893 t894 t875 t895)) else (exactppllaw19_DiagramFixes.j1 kj5 t881 t888 true t871 t893 t894 t875 t895)) else (exactppllaw19_DiagramFixes.j1 kj5 t881 t888 true t871 t893 t894 t875 t895))))) = some r := H
   have A20 := Aside0.mk A200
   clear A200
   replace H := Option.bind_eq_some_iff.mp H
   obtain ⟨⟨t900, t903⟩, A210, H⟩ := H
   replace H : ((diagram_Restrict.f t895 x6_5 t892).bind fun bt905 => ((diagram_Restrict.f t900 t881 t888).bind fun bt910 => (if t898 = 0 then (if t903 = 0 then (if bt905.2 = 0 then (if bt910.2 = 0 then ((exactpplref19_Same.f kj5 bt905.1 bt910.1).bind fun t915 => (exactppllaw19_DiagramFixes.j1 kj5 t881 t888 (!t915) t871 t893 t894 t875 t895)) else (exactppllaw19_DiagramFixes.j1 kj5 t881 t888 true t871 t893 t894 t875 t895)) else (exactppllaw19_DiagramFixes.j1 kj5 t881 t888 true t871 t893 t894 t875 t895)) else (exactppllaw19_DiagramFixes.j1 kj5 t881 t888 true t871 t893 t894 t875 t895)) else (exactppllaw19_DiagramFixes.j1 kj5 t881 t888 true t871 t893 t894 t875 t895)))) = some r := H
   have A21 := Aside0.mk A210
   clear A210
   replace H := Option.bind_eq_some_iff.mp H
   obtain ⟨⟨t905, t908⟩, A220, H⟩ := H
   replace H : ((diagram_Restrict.f t900 t881 t888).bind fun bt910 => (if t898 = 0 then (if t903 = 0 then (if t908 = 0 then (if bt910.2 = 0 then ((exactpplref19_Same.f kj5 t905 bt910.1).bind fun t915 => (exactppllaw19_DiagramFixes.j1 kj5 t881 t888 (!t915) t871 t893 t894 t875 t895)) else (exactppllaw19_DiagramFixes.j1 kj5 t881 t888 true t871 t893 t894 t875 t895)) else (exactppllaw19_DiagramFixes.j1 kj5 t881 t888 true t871 t893 t894 t875 t895)) else (exactppllaw19_DiagramFixes.j1 kj5 t881 t888 true t871 t893 t894 t875 t895)) else (exactppllaw19_DiagramFixes.j1 kj5 t881 t888 true t871 t893 t894 t875 t895))) = some r := H
   have A22 := Aside0.mk A220
   clear A220
   replace H := Option.bind_eq_some_iff.mp H
   obtain ⟨⟨t910, t913⟩, A230, H⟩ := H
   replace H : (if t898 = 0 then (if t903 = 0 then (if t908 = 0 then (if t913 = 0 then ((exactpplref19_Same.f kj5 t905 t910).bind fun t915 => (exactppllaw19_DiagramFixes.j1 kj5 t881 t888 (!t915) t871 t893 t894 t875 t895)) else (exactppllaw19_DiagramFixes.j1 kj5 t881 t888 true t871 t893 t894 t875 t895)) else (exactppllaw19_DiagramFixes.j1 kj5 t881 t888 true t871 t893 t894 t875 t895)) else (exactppllaw19_DiagramFixes.j1 kj5 t881 t888 true t871 t893 t894 t875 t895)) else (exactppllaw19_DiagramFixes.j1 kj5 t881 t888 true t871 t893 t894 t875 t895)) = some r := H
   have A23 := Aside0.mk A230
   clear A230
   have HC24 := Aside0.mk H
   clear H
   go_upto_region 11 with (first | ((with_reducible refine gate_callee (f := 42) rfl ?_); refine goesL_ (some 38) rfl rfl Tryd.func42 (by kernel_rfl) rfl #[.int .i64 t881] rfl (by (try simp only [List.map_toArray, List.map_cons, List.map_nil]); first | done | rfl | (simp only [List.length_drop, List.length_take]; rfl)) ?_; (with_reducible refine (exactpplmake_Width.calls t881 t887 _ A16.out).mono ?_); rintro e w' ⟨rfl, ⟨nd, rfl⟩⟩; refine ⟨_, rfl, ?_⟩; (try (rw [drewN_self wc]; generalize hq_ : World.drewN wc _ = wc; replace HO_881000 : Aside0 (Kd.V k60 60 wc w.heap.size (fun k_ => k_ ≠ g874 ∧ k_ ≠ gb880) (.slice Ao10 t875.length co10) t875) := ⟨by rw [← hq_]; exact (by (with_reducible repeat (first | apply Kd.V_alloc | apply Kd.V_drewN | apply Kd.V_drew)); exact Kd.V_mono HO_881000.out (fun _ hk => ⟨hk.2, hk.1⟩))⟩; replace BK880 : Aside0 (wc.heap[gb880]? = some (.cells #[.slice Ao10 t875.length co10] 31 (0, 0))) := ⟨by rw [← hq_]; exact bk_⟩; replace HI874 : Aside0 (IsS58 w wc g874 t871 t885 t886) := ⟨by rw [← hq_]; exact si_⟩; replace HB : Aside0 (Below w.heap.size w wc) := ⟨by rw [← hq_]; exact bl_⟩; clear hq_))) | ((with_reducible refine gate_callee (f := 23) rfl ?_); refine goesL_ (some 39) rfl rfl Tryd.func23 (by kernel_rfl) rfl #[.pointer (some ⟨g874, 0, none⟩), .int .i64 t887] rfl (by (try simp only [List.map_toArray, List.map_cons, List.map_nil]); first | done | rfl | (simp only [List.length_drop, List.length_take]; rfl)) ?_; (with_reducible refine (exactpplmake_Src_N.calls g874 t871 t885 t886 t887 t888 t889 t890 w _ ?side1 ?side2 A17.out).mono ?_); (case side1 => repeat (first | (with_reducible first | exact HI874.out | apply IsS58.alloc | apply IsS58.drewN | apply IsS58.drew | apply IsS58.set_1 | apply IsS58.set_2 | refine IsS58.far ?_ NB874_880.out _) | exact HI874.out)); (case side2 => repeat (first | (with_reducible first | exact HB.out | apply below_alloc | apply pw_below_drewN | apply below_drew1 | refine below_set ?_ (IsS58.ge HI874.out) | refine below_set ?_ GE880.out) | exact HB.out)); rintro e w25 ⟨rfl, hi, hb, hk⟩; refine ⟨_, rfl, ?_⟩; replace HO_881000 := Aside0.mk (Kd.V_mono (Kd.V_keep (Kd.V_mono (ok := fun k_ => (k_ ≠ gb880 ∧ k_ ≠ g874)) (by (with_reducible repeat (first | apply Kd.V_alloc | apply Kd.V_drewN | apply Kd.V_drew)); (first | exact HO_881000.out | exact Kd.V_mono HO_881000.out (fun _ h_ => ⟨h_.2, h_.1⟩))) (fun k_ hk_ => (⟨hk_, hk_.2⟩ : _ ∧ k_ ≠ g874))) hk (fun _ h => h.2)) (fun _ h => h.1)); replace BK880 := Aside0.mk (KeepBut.blk hk (g' := gb880) (o := .cells #[.slice Ao10 t875.length co10] 31 (0, 0)) bk_ NB880_874.out (by simp)); replace HB := Aside0.mk (hb); replace HI874 := Aside0.mk (hi); (try clear hb); (try clear hb2); (try clear hk); (try clear hi)) | ((with_reducible refine gate_callee (f := 42) rfl ?_); refine goesL_ (some 42) rfl rfl Tryd.func42 (by kernel_rfl) rfl #[.int .i64 x6_5] rfl (by (try simp only [List.map_toArray, List.map_cons, List.map_nil]); first | done | rfl | (simp only [List.length_drop, List.length_take]; rfl)) ?_; (with_reducible refine (exactpplmake_Width.calls x6_5 t891 _ A18.out).mono ?_); rintro e w' ⟨rfl, ⟨nd, rfl⟩⟩; refine ⟨_, rfl, ?_⟩; (try (rw [drewN_self w25]; generalize hq_ : World.drewN w25 _ = w25; replace HO_881000 : Aside0 (Kd.V k60 60 w25 w.heap.size (fun k_ => k_ ≠ g874 ∧ k_ ≠ gb880) (.slice Ao10 t875.length co10) t875) := ⟨by rw [← hq_]; exact (by (with_reducible repeat (first | apply Kd.V_alloc | apply Kd.V_drewN | apply Kd.V_drew)); exact Kd.V_mono HO_881000.out (fun _ hk => ⟨hk.2, hk.1⟩))⟩; replace BK880 : Aside0 (w25.heap[gb880]? = some (.cells #[.slice Ao10 t875.length co10] 31 (0, 0))) := ⟨by rw [← hq_]; exact bk_⟩; replace HI874 : Aside0 (IsS58 w w25 g874 t871 t889 t890) := ⟨by rw [← hq_]; exact si_⟩; replace HB : Aside0 (Below w.heap.size w w25) := ⟨by rw [← hq_]; exact bl_⟩; clear hq_))) | ((with_reducible refine gate_callee (f := 23) rfl ?_); refine goesL_ (some 43) rfl rfl Tryd.func23 (by kernel_rfl) rfl #[.pointer (some ⟨g874, 0, none⟩), .int .i64 t891] rfl (by (try simp only [List.map_toArray, List.map_cons, List.map_nil]); first | done | rfl | (simp only [List.length_drop, List.length_take]; rfl)) ?_; (with_reducible refine (exactpplmake_Src_N.calls g874 t871 t889 t890 t891 t892 t893 t894 w _ ?side1 ?side2 A19.out).mono ?_); (case side1 => repeat (first | (with_reducible first | exact HI874.out | apply IsS58.alloc | apply IsS58.drewN | apply IsS58.drew | apply IsS58.set_1 | apply IsS58.set_2 | refine IsS58.far ?_ NB874_880.out _) | exact HI874.out)); (case side2 => repeat (first | (with_reducible first | exact HB.out | apply below_alloc | apply pw_below_drewN | apply below_drew1 | refine below_set ?_ (IsS58.ge HI874.out) | refine below_set ?_ GE880.out) | exact HB.out)); rintro e w26 ⟨rfl, hi, hb, hk⟩; refine ⟨_, rfl, ?_⟩; replace HO_881000 := Aside0.mk (Kd.V_mono (Kd.V_keep (Kd.V_mono (ok := fun k_ => (k_ ≠ gb880 ∧ k_ ≠ g874)) (by (with_reducible repeat (first | apply Kd.V_alloc | apply Kd.V_drewN | apply Kd.V_drew)); (first | exact HO_881000.out | exact Kd.V_mono HO_881000.out (fun _ h_ => ⟨h_.2, h_.1⟩))) (fun k_ hk_ => (⟨hk_, hk_.2⟩ : _ ∧ k_ ≠ g874))) hk (fun _ h => h.2)) (fun _ h => h.1)); replace BK880 := Aside0.mk (KeepBut.blk hk (g' := gb880) (o := .cells #[.slice Ao10 t875.length co10] 31 (0, 0)) bk_ NB880_874.out (by simp)); replace HB := Aside0.mk (hb); replace HI874 := Aside0.mk (hi); (try clear hb); (try clear hb2); (try clear hk); (try clear hi); have hnb27 := NB880_874.out; have hnc27 := NB874_880.out; obtain ⟨hcz28_0, hfz28_0⟩ := cf1_ BK880.out) | ((with_reducible refine gate_callee (f := 30) rfl ?_); refine goesL_ (some 48) rfl rfl Tryd.func30 (by kernel_rfl) rfl #[.agg #[.slice Ao10 t875.length co10], .int .i64 t881, .int .i64 t888] rfl (by (try simp only [List.map_toArray, List.map_cons, List.map_nil]); first | done | rfl | (simp only [List.length_drop, List.length_take]; rfl)) ?_; (with_reducible refine (diagram_Restrict.calls _ _ t875 t881 t888 t895 t898 _ ?side1 ?side2 A20.out ?tab).mono ?_); (case tab => exact ptab HTAB.out bl_); (case side1 => repeat (first | exact (Kd.V_reads' HO_881000.out).2.2 | (with_reducible refine Kd.C_alloc ?_ _) | (with_reducible refine Kd.C_drewN ?_ _) | (with_reducible refine Kd.C_drew ?_))); (case side2 => exact (Kd.V_reads' HO_881000.out).2.1); rintro e w29 ⟨v896, rfl, ho0, hb⟩; refine ⟨_, rfl, ?_⟩; have HO897 := Aside0.mk (Kd.V_lower (Kd.V_mono (ok' := fun k_ => k_ ≠ gb880 ∧ k_ ≠ g874) ho0 (fun k_ hk_ => ⟨(Kd.freshB (g := gb880) (o := .cells #[.slice Ao10 t875.length co10] 31 (0, 0)) bk_ k_ hk_), (IsS58.fresh si_ k_ hk_)⟩)) (below_size bl_)); replace HO_881000 := Aside0.mk (Kd.V_below (by (with_reducible repeat (first | apply Kd.V_alloc | apply Kd.V_drewN | apply Kd.V_drew)); (first | exact HO_881000.out | exact Kd.V_mono HO_881000.out (fun _ h_ => ⟨h_.2, h_.1⟩))) hb); replace BK880 := Aside0.mk (blk_below (g := gb880) (o := .cells #[.slice Ao10 t875.length co10] 31 (0, 0)) bk_ hb); replace HI874 := Aside0.mk (IsS58.below si_ hb); replace HB := Aside0.mk (below_step bl_ hb); (try clear hb); (try clear hb2); (try clear hk); (try clear hi); (try clear ho0)) | ((with_reducible refine gate_dst (N := 9) rfl ?_); refine box_event ?hg (N := 9) ?hd (cs := #[.slice none 0 0]) (t := 31) ?hr ?_; (case hd => rfl); (case hg => rfl); (case hr => first | (go_simp; done) | (go_simp; rfl)); intro gb899 hg w30 hbox hb; have BK899 := Aside0.mk (hbox); have GW899 : Aside0 (w.heap.size ≤ gb899) := gw_ hg (below_size bl_); have GE899 := GW899; have NB880_899 := Aside0.mk ((by rw [hg]; exact Nat.ne_of_lt (blk_lt (g := gb880) (o := .cells #[.slice Ao10 t875.length co10] 31 (0, 0)) bk_) : gb880 ≠ gb899)); have NB899_880 := Aside0.mk ((by rw [hg]; exact Nat.ne_of_gt (blk_lt (g := gb880) (o := .cells #[.slice Ao10 t875.length co10] 31 (0, 0)) bk_) : gb899 ≠ gb880)); have NB874_899 := Aside0.mk ((by rw [hg]; exact Nat.ne_of_lt (IsS58.lt (show IsS58 w _ g874 t871 t893 t894 from si_)) : g874 ≠ gb899)); have NB899_874 := Aside0.mk ((by rw [hg]; exact Nat.ne_of_gt (IsS58.lt (show IsS58 w _ g874 t871 t893 t894 from si_)) : gb899 ≠ g874)); replace HO_881000 := Aside0.mk (Kd.V_below (Kd.V_elderB (by (with_reducible repeat (first | apply Kd.V_alloc | apply Kd.V_drewN | apply Kd.V_drew)); (first | exact HO_881000.out | exact Kd.V_mono HO_881000.out (fun _ h_ => ⟨h_.2, h_.1⟩))) gb899 (Nat.le_of_eq hg.symm)) hb); replace HO897 := Aside0.mk (Kd.V_below (Kd.V_elderB (pV_ HO897.out) gb899 (Nat.le_of_eq hg.symm)) hb); replace BK880 := Aside0.mk (blk_below (g := gb880) (o := .cells #[.slice Ao10 t875.length co10] 31 (0, 0)) bk_ hb); replace HI874 := Aside0.mk (IsS58.below si_ hb); replace HB := Aside0.mk (below_step bl_ hb); clear hb hbox hg; obtain ⟨Ao31, co31, eo31⟩ := Kd.V_slice HO897.out; subst eo31; have hnb32 := NB899_880.out; have hnc32 := NB880_899.out; have hnb33 := NB899_874.out; have hnc33 := NB874_899.out; obtain ⟨hcz34_0, hfz34_0⟩ := cf1_ BK899.out; obtain ⟨hcz35_0, hfz35_0⟩ := cf1_ BK880.out) | ((with_reducible refine gate_callee (f := 30) rfl ?_); refine goesL_ (some 55) rfl rfl Tryd.func30 (by kernel_rfl) rfl #[.agg #[.slice Ao10 t875.length co10], .int .i64 x6_5, .int .i64 t892] rfl (by (try simp only [List.map_toArray, List.map_cons, List.map_nil]); first | done | rfl | (simp only [List.length_drop, List.length_take]; rfl)) ?_; (with_reducible refine (diagram_Restrict.calls _ _ t875 x6_5 t892 t900 t903 _ ?side1 ?side2 A21.out ?tab).mono ?_); (case tab => exact ptab HTAB.out bl_); (case side1 => refine (Kd.V_reads' (e := 60) (base := w.heap.size) (ok := fun k_ => ((k_ ≠ gb880 ∧ k_ ≠ g874) ∧ k_ ≠ gb899)) (n := t875.length) (c := co10) ?_).2.2; exact (by (with_reducible repeat (first | apply Kd.V_alloc | apply Kd.V_drewN | apply Kd.V_drew)); exact (Kd.V_mono (Kd.V_far (p := ⟨gb899, 0, none⟩) (Kd.V_mono HO_881000.out (fun k_ hk => (⟨hk, by first | exact hk.2 | exact hk.1 | exact hk.2 | exact hk.1.1 | exact hk.1.2⟩ : _ ∧ k_ ≠ gb899))) (fun _ hk => hk.2) (.slice Ao31 t895.length co31)) (fun _ h_ => h_.1)))); (case side2 => exact (Kd.V_reads' HO_881000.out).2.1); rintro e w36 ⟨v901, rfl, ho0, hb⟩; refine ⟨_, rfl, ?_⟩; have HO902 := Aside0.mk (Kd.V_lower (Kd.V_mono (ok' := fun k_ => k_ ≠ gb880 ∧ k_ ≠ gb899 ∧ k_ ≠ g874) ho0 (fun k_ hk_ => ⟨(Kd.freshB (g := gb880) (o := .cells #[.slice Ao10 t875.length co10] 31 (0, 0)) (by (with_reducible repeat (first | refine blk_drewN ?_ _ | refine blk_drew ?_ | refine blk_alloc ?_ _)); refine blk_far ?_ NB880_899.out _; (with_reducible repeat (first | refine blk_drewN ?_ _ | refine blk_drew ?_ | refine blk_alloc ?_ _)); exact BK880.out) k_ hk_), (Kd.freshB (g := gb899) (o := .cells #[.slice Ao31 t895.length co31] 31 (0, 0)) (by (with_reducible repeat (first | refine blk_drewN ?_ _ | refine blk_drew ?_ | refine blk_alloc ?_ _)); refine blk_put (cs := #[.slice none 0 0]) ?_ 0 _ rfl; (with_reducible repeat (first | refine blk_drewN ?_ _ | refine blk_drew ?_ | refine blk_alloc ?_ _)); exact BK899.out) k_ hk_), (IsS58.fresh si_ k_ hk_)⟩)) (below_size bl_)); replace HO_881000 := Aside0.mk (Kd.V_below (by (with_reducible repeat (first | apply Kd.V_alloc | apply Kd.V_drewN | apply Kd.V_drew)); exact (Kd.V_mono (Kd.V_far (p := ⟨gb899, 0, none⟩) (Kd.V_mono HO_881000.out (fun k_ hk => (⟨hk, by first | exact hk.2 | exact hk.1 | exact hk.2 | exact hk.1.1 | exact hk.1.2⟩ : _ ∧ k_ ≠ gb899))) (fun _ hk => hk.2) (.slice Ao31 t895.length co31)) (fun _ h_ => h_.1))) hb); replace HO897 := Aside0.mk (Kd.V_below (by (with_reducible repeat (first | apply Kd.V_alloc | apply Kd.V_drewN | apply Kd.V_drew)); exact (Kd.V_mono (Kd.V_far (p := ⟨gb899, 0, none⟩) (Kd.V_mono HO897.out (fun k_ hk => (⟨hk, by first | exact hk.2 | exact hk.1 | exact hk.2 | exact hk.1.1 | exact hk.1.2⟩ : _ ∧ k_ ≠ gb899))) (fun _ hk => hk.2) (.slice Ao31 t895.length co31)) (fun _ h_ => h_.1))) hb); replace BK880 := Aside0.mk (blk_below (g := gb880) (o := .cells #[.slice Ao10 t875.length co10] 31 (0, 0)) (by (with_reducible repeat (first | refine blk_drewN ?_ _ | refine blk_drew ?_ | refine blk_alloc ?_ _)); refine blk_far ?_ NB880_899.out _; (with_reducible repeat (first | refine blk_drewN ?_ _ | refine blk_drew ?_ | refine blk_alloc ?_ _)); exact BK880.out) hb); replace HI874 := Aside0.mk (IsS58.below (show IsS58 w (w30.setCell ⟨gb899, 0, none⟩ (.slice Ao31 t895.length co31)) g874 t871 t893 t894 from si_) hb); replace BK899 := Aside0.mk (blk_below (g := gb899) (o := .cells #[.slice Ao31 t895.length co31] 31 (0, 0)) (by (with_reducible repeat (first | refine blk_drewN ?_ _ | refine blk_drew ?_ | refine blk_alloc ?_ _)); refine blk_put (cs := #[.slice none 0 0]) ?_ 0 _ rfl; (with_reducible repeat (first | refine blk_drewN ?_ _ | refine blk_drew ?_ | refine blk_alloc ?_ _)); exact BK899.out) hb); replace HB := Aside0.mk (below_step bl_ hb); (try clear hb); (try clear hb2); (try clear hk); (try clear hi); (try clear ho0)) | ((with_reducible refine gate_dst (N := 11) rfl ?_); refine box_event ?hg (N := 11) ?hd (cs := #[.slice none 0 0]) (t := 31) ?hr ?_; (case hd => rfl); (case hg => rfl); (case hr => first | (go_simp; done) | (go_simp; rfl)); intro gb904 hg w37 hbox hb; have BK904 := Aside0.mk (hbox); have GW904 : Aside0 (w.heap.size ≤ gb904) := gw_ hg (below_size bl_); have GE904 := GW904; have NB880_904 := Aside0.mk ((by rw [hg]; exact Nat.ne_of_lt (blk_lt (g := gb880) (o := .cells #[.slice Ao10 t875.length co10] 31 (0, 0)) bk_) : gb880 ≠ gb904)); have NB904_880 := Aside0.mk ((by rw [hg]; exact Nat.ne_of_gt (blk_lt (g := gb880) (o := .cells #[.slice Ao10 t875.length co10] 31 (0, 0)) bk_) : gb904 ≠ gb880)); have NB899_904 := Aside0.mk ((by rw [hg]; exact Nat.ne_of_lt (blk_lt (g := gb899) (o := .cells #[.slice Ao31 t895.length co31] 31 (0, 0)) bk_) : gb899 ≠ gb904)); have NB904_899 := Aside0.mk ((by rw [hg]; exact Nat.ne_of_gt (blk_lt (g := gb899) (o := .cells #[.slice Ao31 t895.length co31] 31 (0, 0)) bk_) : gb904 ≠ gb899)); have NB874_904 := Aside0.mk ((by rw [hg]; exact Nat.ne_of_lt (IsS58.lt (show IsS58 w _ g874 t871 t893 t894 from si_)) : g874 ≠ gb904)); have NB904_874 := Aside0.mk ((by rw [hg]; exact Nat.ne_of_gt (IsS58.lt (show IsS58 w _ g874 t871 t893 t894 from si_)) : gb904 ≠ g874)); replace HO_881000 := Aside0.mk (Kd.V_below (Kd.V_elderB (by (with_reducible repeat (first | apply Kd.V_alloc | apply Kd.V_drewN | apply Kd.V_drew)); (first | exact HO_881000.out | exact Kd.V_mono HO_881000.out (fun _ h_ => ⟨h_.2, h_.1⟩))) gb904 (Nat.le_of_eq hg.symm)) hb); replace HO897 := Aside0.mk (Kd.V_below (Kd.V_elderB (pV_ HO897.out) gb904 (Nat.le_of_eq hg.symm)) hb); replace HO902 := Aside0.mk (Kd.V_below (Kd.V_elderB (pV_ HO902.out) gb904 (Nat.le_of_eq hg.symm)) hb); replace BK880 := Aside0.mk (blk_below (g := gb880) (o := .cells #[.slice Ao10 t875.length co10] 31 (0, 0)) bk_ hb); replace HI874 := Aside0.mk (IsS58.below si_ hb); replace BK899 := Aside0.mk (blk_below (g := gb899) (o := .cells #[.slice Ao31 t895.length co31] 31 (0, 0)) bk_ hb); replace HB := Aside0.mk (below_step bl_ hb); clear hb hbox hg; obtain ⟨Ao38, co38, eo38⟩ := Kd.V_slice HO902.out; subst eo38; have hnb39 := NB904_880.out; have hnc39 := NB880_904.out; have hnb40 := NB904_899.out; have hnc40 := NB899_904.out; have hnb41 := NB904_874.out; have hnc41 := NB874_904.out; obtain ⟨hcz42_0, hfz42_0⟩ := cf1_ BK904.out; obtain ⟨hcz43_0, hfz43_0⟩ := cf1_ BK899.out) | ((with_reducible refine gate_callee (f := 30) rfl ?_); refine goesL_ (some 62) rfl rfl Tryd.func30 (by kernel_rfl) rfl #[.agg #[.slice Ao31 t895.length co31], .int .i64 x6_5, .int .i64 t892] rfl (by (try simp only [List.map_toArray, List.map_cons, List.map_nil]); first | done | rfl | (simp only [List.length_drop, List.length_take]; rfl)) ?_; (with_reducible refine (diagram_Restrict.calls _ _ t895 x6_5 t892 t905 t908 _ ?side1 ?side2 A22.out ?tab).mono ?_); (case tab => exact ptab HTAB.out bl_); (case side1 => refine (Kd.V_reads' (e := 60) (base := w.heap.size) (ok := fun k_ => (((k_ ≠ gb880 ∧ k_ ≠ g874) ∧ k_ ≠ gb899) ∧ k_ ≠ gb904)) (n := t895.length) (c := co31) ?_).2.2; exact (by (with_reducible repeat (first | apply Kd.V_alloc | apply Kd.V_drewN | apply Kd.V_drew)); exact (Kd.V_mono (Kd.V_far (p := ⟨gb904, 0, none⟩) (Kd.V_mono HO897.out (fun k_ hk => (⟨hk, by first | exact hk.2 | exact hk.1 | exact hk.2 | exact hk.1.1 | exact hk.1.2⟩ : _ ∧ k_ ≠ gb904))) (fun _ hk => hk.2) (.slice Ao38 t900.length co38)) (fun _ h_ => h_.1)))); (case side2 => exact (Kd.V_reads' HO897.out).2.1); rintro e w44 ⟨v906, rfl, ho0, hb⟩; refine ⟨_, rfl, ?_⟩; have HO907 := Aside0.mk (Kd.V_lower (Kd.V_mono (ok' := fun k_ => k_ ≠ gb880 ∧ k_ ≠ gb899 ∧ k_ ≠ gb904 ∧ k_ ≠ g874) ho0 (fun k_ hk_ => ⟨(Kd.freshB (g := gb880) (o := .cells #[.slice Ao10 t875.length co10] 31 (0, 0)) (by (with_reducible repeat (first | refine blk_drewN ?_ _ | refine blk_drew ?_ | refine blk_alloc ?_ _)); refine blk_far ?_ NB880_904.out _; (with_reducible repeat (first | refine blk_drewN ?_ _ | refine blk_drew ?_ | refine blk_alloc ?_ _)); exact BK880.out) k_ hk_), (Kd.freshB (g := gb899) (o := .cells #[.slice Ao31 t895.length co31] 31 (0, 0)) (by (with_reducible repeat (first | refine blk_drewN ?_ _ | refine blk_drew ?_ | refine blk_alloc ?_ _)); refine blk_far ?_ NB899_904.out _; (with_reducible repeat (first | refine blk_drewN ?_ _ | refine blk_drew ?_ | refine blk_alloc ?_ _)); exact BK899.out) k_ hk_), (Kd.freshB (g := gb904) (o := .cells #[.slice Ao38 t900.length co38] 31 (0, 0)) (by (with_reducible repeat (first | refine blk_drewN ?_ _ | refine blk_drew ?_ | refine blk_alloc ?_ _)); refine blk_put (cs := #[.slice none 0 0]) ?_ 0 _ rfl; (with_reducible repeat (first | refine blk_drewN ?_ _ | refine blk_drew ?_ | refine blk_alloc ?_ _)); exact BK904.out) k_ hk_), (IsS58.fresh si_ k_ hk_)⟩)) (below_size bl_)); replace HO_881000 := Aside0.mk (Kd.V_below (by (with_reducible repeat (first | apply Kd.V_alloc | apply Kd.V_drewN | apply Kd.V_drew)); exact (Kd.V_mono (Kd.V_far (p := ⟨gb904, 0, none⟩) (Kd.V_mono HO_881000.out (fun k_ hk => (⟨hk, by first | exact hk.2 | exact hk.1 | exact hk.2 | exact hk.1.1 | exact hk.1.2⟩ : _ ∧ k_ ≠ gb904))) (fun _ hk => hk.2) (.slice Ao38 t900.length co38)) (fun _ h_ => h_.1))) hb); replace HO897 := Aside0.mk (Kd.V_below (by (with_reducible repeat (first | apply Kd.V_alloc | apply Kd.V_drewN | apply Kd.V_drew)); exact (Kd.V_mono (Kd.V_far (p := ⟨gb904, 0, none⟩) (Kd.V_mono HO897.out (fun k_ hk => (⟨hk, by first | exact hk.2 | exact hk.1 | exact hk.2 | exact hk.1.1 | exact hk.1.2⟩ : _ ∧ k_ ≠ gb904))) (fun _ hk => hk.2) (.slice Ao38 t900.length co38)) (fun _ h_ => h_.1))) hb); replace HO902 := Aside0.mk (Kd.V_below (by (with_reducible repeat (first | apply Kd.V_alloc | apply Kd.V_drewN | apply Kd.V_drew)); exact (Kd.V_mono (Kd.V_far (p := ⟨gb904, 0, none⟩) (Kd.V_mono HO902.out (fun k_ hk => (⟨hk, by first | exact hk.2 | exact hk.1 | exact hk.2 | exact hk.1.1 | exact hk.1.2⟩ : _ ∧ k_ ≠ gb904))) (fun _ hk => hk.2) (.slice Ao38 t900.length co38)) (fun _ h_ => h_.1))) hb); replace BK880 := Aside0.mk (blk_below (g := gb880) (o := .cells #[.slice Ao10 t875.length co10] 31 (0, 0)) (by (with_reducible repeat (first | refine blk_drewN ?_ _ | refine blk_drew ?_ | refine blk_alloc ?_ _)); refine blk_far ?_ NB880_904.out _; (with_reducible repeat (first | refine blk_drewN ?_ _ | refine blk_drew ?_ | refine blk_alloc ?_ _)); exact BK880.out) hb); replace HI874 := Aside0.mk (IsS58.below (show IsS58 w (w37.setCell ⟨gb904, 0, none⟩ (.slice Ao38 t900.length co38)) g874 t871 t893 t894 from si_) hb); replace BK899 := Aside0.mk (blk_below (g := gb899) (o := .cells #[.slice Ao31 t895.length co31] 31 (0, 0)) (by (with_reducible repeat (first | refine blk_drewN ?_ _ | refine blk_drew ?_ | refine blk_alloc ?_ _)); refine blk_far ?_ NB899_904.out _; (with_reducible repeat (first | refine blk_drewN ?_ _ | refine blk_drew ?_ | refine blk_alloc ?_ _)); exact BK899.out) hb); replace BK904 := Aside0.mk (blk_below (g := gb904) (o := .cells #[.slice Ao38 t900.length co38] 31 (0, 0)) (by (with_reducible repeat (first | refine blk_drewN ?_ _ | refine blk_drew ?_ | refine blk_alloc ?_ _)); refine blk_put (cs := #[.slice none 0 0]) ?_ 0 _ rfl; (with_reducible repeat (first | refine blk_drewN ?_ _ | refine blk_drew ?_ | refine blk_alloc ?_ _)); exact BK904.out) hb); replace HB := Aside0.mk (below_step bl_ hb); (try clear hb); (try clear hb2); (try clear hk); (try clear hi); (try clear ho0)) | ((with_reducible refine gate_dst (N := 13) rfl ?_); refine box_event ?hg (N := 13) ?hd (cs := #[.slice none 0 0]) (t := 31) ?hr ?_; (case hd => rfl); (case hg => rfl); (case hr => first | (go_simp; done) | (go_simp; rfl)); intro gb909 hg w45 hbox hb; have BK909 := Aside0.mk (hbox); have GW909 : Aside0 (w.heap.size ≤ gb909) := gw_ hg (below_size bl_); have GE909 := GW909; have NB880_909 := Aside0.mk ((by rw [hg]; exact Nat.ne_of_lt (blk_lt (g := gb880) (o := .cells #[.slice Ao10 t875.length co10] 31 (0, 0)) bk_) : gb880 ≠ gb909)); have NB909_880 := Aside0.mk ((by rw [hg]; exact Nat.ne_of_gt (blk_lt (g := gb880) (o := .cells #[.slice Ao10 t875.length co10] 31 (0, 0)) bk_) : gb909 ≠ gb880)); have NB899_909 := Aside0.mk ((by rw [hg]; exact Nat.ne_of_lt (blk_lt (g := gb899) (o := .cells #[.slice Ao31 t895.length co31] 31 (0, 0)) bk_) : gb899 ≠ gb909)); have NB909_899 := Aside0.mk ((by rw [hg]; exact Nat.ne_of_gt (blk_lt (g := gb899) (o := .cells #[.slice Ao31 t895.length co31] 31 (0, 0)) bk_) : gb909 ≠ gb899)); have NB904_909 := Aside0.mk ((by rw [hg]; exact Nat.ne_of_lt (blk_lt (g := gb904) (o := .cells #[.slice Ao38 t900.length co38] 31 (0, 0)) bk_) : gb904 ≠ gb909)); have NB909_904 := Aside0.mk ((by rw [hg]; exact Nat.ne_of_gt (blk_lt (g := gb904) (o := .cells #[.slice Ao38 t900.length co38] 31 (0, 0)) bk_) : gb909 ≠ gb904)); have NB874_909 := Aside0.mk ((by rw [hg]; exact Nat.ne_of_lt (IsS58.lt (show IsS58 w _ g874 t871 t893 t894 from si_)) : g874 ≠ gb909)); have NB909_874 := Aside0.mk ((by rw [hg]; exact Nat.ne_of_gt (IsS58.lt (show IsS58 w _ g874 t871 t893 t894 from si_)) : gb909 ≠ g874)); replace HO_881000 := Aside0.mk (Kd.V_below (Kd.V_elderB (by (with_reducible repeat (first | apply Kd.V_alloc | apply Kd.V_drewN | apply Kd.V_drew)); (first | exact HO_881000.out | exact Kd.V_mono HO_881000.out (fun _ h_ => ⟨h_.2, h_.1⟩))) gb909 (Nat.le_of_eq hg.symm)) hb); replace HO897 := Aside0.mk (Kd.V_below (Kd.V_elderB (pV_ HO897.out) gb909 (Nat.le_of_eq hg.symm)) hb); replace HO902 := Aside0.mk (Kd.V_below (Kd.V_elderB (pV_ HO902.out) gb909 (Nat.le_of_eq hg.symm)) hb); replace HO907 := Aside0.mk (Kd.V_below (Kd.V_elderB (pV_ HO907.out) gb909 (Nat.le_of_eq hg.symm)) hb); replace BK880 := Aside0.mk (blk_below (g := gb880) (o := .cells #[.slice Ao10 t875.length co10] 31 (0, 0)) bk_ hb); replace HI874 := Aside0.mk (IsS58.below si_ hb); replace BK899 := Aside0.mk (blk_below (g := gb899) (o := .cells #[.slice Ao31 t895.length co31] 31 (0, 0)) bk_ hb); replace BK904 := Aside0.mk (blk_below (g := gb904) (o := .cells #[.slice Ao38 t900.length co38] 31 (0, 0)) bk_ hb); replace HB := Aside0.mk (below_step bl_ hb); clear hb hbox hg; obtain ⟨Ao46, co46, eo46⟩ := Kd.V_slice HO907.out; subst eo46; have hnb47 := NB909_880.out; have hnc47 := NB880_909.out; have hnb48 := NB909_899.out; have hnc48 := NB899_909.out; have hnb49 := NB909_904.out; have hnc49 := NB904_909.out; have hnb50 := NB909_874.out; have hnc50 := NB874_909.out; obtain ⟨hcz51_0, hfz51_0⟩ := cf1_ BK909.out; obtain ⟨hcz52_0, hfz52_0⟩ := cf1_ BK904.out) | ((with_reducible refine gate_callee (f := 30) rfl ?_); refine goesL_ (some 69) rfl rfl Tryd.func30 (by kernel_rfl) rfl #[.agg #[.slice Ao38 t900.length co38], .int .i64 t881, .int .i64 t888] rfl (by (try simp only [List.map_toArray, List.map_cons, List.map_nil]); first | done | rfl | (simp only [List.length_drop, List.length_take]; rfl)) ?_; (with_reducible refine (diagram_Restrict.calls _ _ t900 t881 t888 t910 t913 _ ?side1 ?side2 A23.out ?tab).mono ?_); (case tab => exact ptab HTAB.out bl_); (case side1 => refine (Kd.V_reads' (e := 60) (base := w.heap.size) (ok := fun k_ => (((k_ ≠ gb880 ∧ (k_ ≠ gb899 ∧ k_ ≠ g874)) ∧ k_ ≠ gb904) ∧ k_ ≠ gb909)) (n := t900.length) (c := co38) ?_).2.2; exact (by (with_reducible repeat (first | apply Kd.V_alloc | apply Kd.V_drewN | apply Kd.V_drew)); exact (Kd.V_mono (Kd.V_far (p := ⟨gb909, 0, none⟩) (Kd.V_mono HO902.out (fun k_ hk => (⟨hk, by first | exact hk.2 | exact hk.1 | exact hk.2 | exact hk.1.1 | exact hk.1.2⟩ : _ ∧ k_ ≠ gb909))) (fun _ hk => hk.2) (.slice Ao46 t905.length co46)) (fun _ h_ => h_.1)))); (case side2 => exact (Kd.V_reads' HO902.out).2.1); rintro e w53 ⟨v911, rfl, ho0, hb⟩; refine ⟨_, rfl, ?_⟩; have HO912 := Aside0.mk (Kd.V_lower (Kd.V_mono (ok' := fun k_ => k_ ≠ gb880 ∧ k_ ≠ gb899 ∧ k_ ≠ gb904 ∧ k_ ≠ gb909 ∧ k_ ≠ g874) ho0 (fun k_ hk_ => ⟨(Kd.freshB (g := gb880) (o := .cells #[.slice Ao10 t875.length co10] 31 (0, 0)) (by (with_reducible repeat (first | refine blk_drewN ?_ _ | refine blk_drew ?_ | refine blk_alloc ?_ _)); refine blk_far ?_ NB880_909.out _; (with_reducible repeat (first | refine blk_drewN ?_ _ | refine blk_drew ?_ | refine blk_alloc ?_ _)); exact BK880.out) k_ hk_), (Kd.freshB (g := gb899) (o := .cells #[.slice Ao31 t895.length co31] 31 (0, 0)) (by (with_reducible repeat (first | refine blk_drewN ?_ _ | refine blk_drew ?_ | refine blk_alloc ?_ _)); refine blk_far ?_ NB899_909.out _; (with_reducible repeat (first | refine blk_drewN ?_ _ | refine blk_drew ?_ | refine blk_alloc ?_ _)); exact BK899.out) k_ hk_), (Kd.freshB (g := gb904) (o := .cells #[.slice Ao38 t900.length co38] 31 (0, 0)) (by (with_reducible repeat (first | refine blk_drewN ?_ _ | refine blk_drew ?_ | refine blk_alloc ?_ _)); refine blk_far ?_ NB904_909.out _; (with_reducible repeat (first | refine blk_drewN ?_ _ | refine blk_drew ?_ | refine blk_alloc ?_ _)); exact BK904.out) k_ hk_), (Kd.freshB (g := gb909) (o := .cells #[.slice Ao46 t905.length co46] 31 (0, 0)) (by (with_reducible repeat (first | refine blk_drewN ?_ _ | refine blk_drew ?_ | refine blk_alloc ?_ _)); refine blk_put (cs := #[.slice none 0 0]) ?_ 0 _ rfl; (with_reducible repeat (first | refine blk_drewN ?_ _ | refine blk_drew ?_ | refine blk_alloc ?_ _)); exact BK909.out) k_ hk_), (IsS58.fresh si_ k_ hk_)⟩)) (below_size bl_)); replace HO_881000 := Aside0.mk (Kd.V_below (by (with_reducible repeat (first | apply Kd.V_alloc | apply Kd.V_drewN | apply Kd.V_drew)); exact (Kd.V_mono (Kd.V_far (p := ⟨gb909, 0, none⟩) (Kd.V_mono HO_881000.out (fun k_ hk => (⟨hk, by first | exact hk.2 | exact hk.1 | exact hk.2 | exact hk.1.1 | exact hk.1.2⟩ : _ ∧ k_ ≠ gb909))) (fun _ hk => hk.2) (.slice Ao46 t905.length co46)) (fun _ h_ => h_.1))) hb); replace HO897 := Aside0.mk (Kd.V_below (by (with_reducible repeat (first | apply Kd.V_alloc | apply Kd.V_drewN | apply Kd.V_drew)); exact (Kd.V_mono (Kd.V_far (p := ⟨gb909, 0, none⟩) (Kd.V_mono HO897.out (fun k_ hk => (⟨hk, by first | exact hk.2 | exact hk.1 | exact hk.2 | exact hk.1.1 | exact hk.1.2⟩ : _ ∧ k_ ≠ gb909))) (fun _ hk => hk.2) (.slice Ao46 t905.length co46)) (fun _ h_ => h_.1))) hb); replace HO902 := Aside0.mk (Kd.V_below (by (with_reducible repeat (first | apply Kd.V_alloc | apply Kd.V_drewN | apply Kd.V_drew)); exact (Kd.V_mono (Kd.V_far (p := ⟨gb909, 0, none⟩) (Kd.V_mono HO902.out (fun k_ hk => (⟨hk, by first | exact hk.2 | exact hk.1 | exact hk.2 | exact hk.1.1 | exact hk.1.2⟩ : _ ∧ k_ ≠ gb909))) (fun _ hk => hk.2) (.slice Ao46 t905.length co46)) (fun _ h_ => h_.1))) hb); replace HO907 := Aside0.mk (Kd.V_below (by (with_reducible repeat (first | apply Kd.V_alloc | apply Kd.V_drewN | apply Kd.V_drew)); exact (Kd.V_mono (Kd.V_far (p := ⟨gb909, 0, none⟩) (Kd.V_mono HO907.out (fun k_ hk => (⟨hk, by first | exact hk.2 | exact hk.1 | exact hk.2 | exact hk.1.1 | exact hk.1.2⟩ : _ ∧ k_ ≠ gb909))) (fun _ hk => hk.2) (.slice Ao46 t905.length co46)) (fun _ h_ => h_.1))) hb); replace BK880 := Aside0.mk (blk_below (g := gb880) (o := .cells #[.slice Ao10 t875.length co10] 31 (0, 0)) (by (with_reducible repeat (first | refine blk_drewN ?_ _ | refine blk_drew ?_ | refine blk_alloc ?_ _)); refine blk_far ?_ NB880_909.out _; (with_reducible repeat (first | refine blk_drewN ?_ _ | refine blk_drew ?_ | refine blk_alloc ?_ _)); exact BK880.out) hb); replace HI874 := Aside0.mk (IsS58.below (show IsS58 w (w45.setCell ⟨gb909, 0, none⟩ (.slice Ao46 t905.length co46)) g874 t871 t893 t894 from si_) hb); replace BK899 := Aside0.mk (blk_below (g := gb899) (o := .cells #[.slice Ao31 t895.length co31] 31 (0, 0)) (by (with_reducible repeat (first | refine blk_drewN ?_ _ | refine blk_drew ?_ | refine blk_alloc ?_ _)); refine blk_far ?_ NB899_909.out _; (with_reducible repeat (first | refine blk_drewN ?_ _ | refine blk_drew ?_ | refine blk_alloc ?_ _)); exact BK899.out) hb); replace BK904 := Aside0.mk (blk_below (g := gb904) (o := .cells #[.slice Ao38 t900.length co38] 31 (0, 0)) (by (with_reducible repeat (first | refine blk_drewN ?_ _ | refine blk_drew ?_ | refine blk_alloc ?_ _)); refine blk_far ?_ NB904_909.out _; (with_reducible repeat (first | refine blk_drewN ?_ _ | refine blk_drew ?_ | refine blk_alloc ?_ _)); exact BK904.out) hb); replace BK909 := Aside0.mk (blk_below (g := gb909) (o := .cells #[.slice Ao46 t905.length co46] 31 (0, 0)) (by (with_reducible repeat (first | refine blk_drewN ?_ _ | refine blk_drew ?_ | refine blk_alloc ?_ _)); refine blk_put (cs := #[.slice none 0 0]) ?_ 0 _ rfl; (with_reducible repeat (first | refine blk_drewN ?_ _ | refine blk_drew ?_ | refine blk_alloc ?_ _)); exact BK909.out) hb); replace HB := Aside0.mk (below_step bl_ hb); (try clear hb); (try clear hb2); (try clear hk); (try clear hi); (try clear ho0)) | ((with_reducible refine gate_dst (N := 15) rfl ?_); refine box_event ?hg (N := 15) ?hd (cs := #[.slice none 0 0]) (t := 31) ?hr ?_; (case hd => rfl); (case hg => rfl); (case hr => first | (go_simp; done) | (go_simp; rfl)); intro gb914 hg w54 hbox hb; have BK914 := Aside0.mk (hbox); have GW914 : Aside0 (w.heap.size ≤ gb914) := gw_ hg (below_size bl_); have GE914 := GW914; have NB880_914 := Aside0.mk ((by rw [hg]; exact Nat.ne_of_lt (blk_lt (g := gb880) (o := .cells #[.slice Ao10 t875.length co10] 31 (0, 0)) bk_) : gb880 ≠ gb914)); have NB914_880 := Aside0.mk ((by rw [hg]; exact Nat.ne_of_gt (blk_lt (g := gb880) (o := .cells #[.slice Ao10 t875.length co10] 31 (0, 0)) bk_) : gb914 ≠ gb880)); have NB899_914 := Aside0.mk ((by rw [hg]; exact Nat.ne_of_lt (blk_lt (g := gb899) (o := .cells #[.slice Ao31 t895.length co31] 31 (0, 0)) bk_) : gb899 ≠ gb914)); have NB914_899 := Aside0.mk ((by rw [hg]; exact Nat.ne_of_gt (blk_lt (g := gb899) (o := .cells #[.slice Ao31 t895.length co31] 31 (0, 0)) bk_) : gb914 ≠ gb899)); have NB904_914 := Aside0.mk ((by rw [hg]; exact Nat.ne_of_lt (blk_lt (g := gb904) (o := .cells #[.slice Ao38 t900.length co38] 31 (0, 0)) bk_) : gb904 ≠ gb914)); have NB914_904 := Aside0.mk ((by rw [hg]; exact Nat.ne_of_gt (blk_lt (g := gb904) (o := .cells #[.slice Ao38 t900.length co38] 31 (0, 0)) bk_) : gb914 ≠ gb904)); have NB909_914 := Aside0.mk ((by rw [hg]; exact Nat.ne_of_lt (blk_lt (g := gb909) (o := .cells #[.slice Ao46 t905.length co46] 31 (0, 0)) bk_) : gb909 ≠ gb914)); have NB914_909 := Aside0.mk ((by rw [hg]; exact Nat.ne_of_gt (blk_lt (g := gb909) (o := .cells #[.slice Ao46 t905.length co46] 31 (0, 0)) bk_) : gb914 ≠ gb909)); have NB874_914 := Aside0.mk ((by rw [hg]; exact Nat.ne_of_lt (IsS58.lt (show IsS58 w _ g874 t871 t893 t894 from si_)) : g874 ≠ gb914)); have NB914_874 := Aside0.mk ((by rw [hg]; exact Nat.ne_of_gt (IsS58.lt (show IsS58 w _ g874 t871 t893 t894 from si_)) : gb914 ≠ g874)); replace HO_881000 := Aside0.mk (Kd.V_below (Kd.V_elderB (by (with_reducible repeat (first | apply Kd.V_alloc | apply Kd.V_drewN | apply Kd.V_drew)); (first | exact HO_881000.out | exact Kd.V_mono HO_881000.out (fun _ h_ => ⟨h_.2, h_.1⟩))) gb914 (Nat.le_of_eq hg.symm)) hb); replace HO897 := Aside0.mk (Kd.V_below (Kd.V_elderB (pV_ HO897.out) gb914 (Nat.le_of_eq hg.symm)) hb); replace HO902 := Aside0.mk (Kd.V_below (Kd.V_elderB (pV_ HO902.out) gb914 (Nat.le_of_eq hg.symm)) hb); replace HO907 := Aside0.mk (Kd.V_below (Kd.V_elderB (pV_ HO907.out) gb914 (Nat.le_of_eq hg.symm)) hb); replace HO912 := Aside0.mk (Kd.V_below (Kd.V_elderB (pV_ HO912.out) gb914 (Nat.le_of_eq hg.symm)) hb); replace BK880 := Aside0.mk (blk_below (g := gb880) (o := .cells #[.slice Ao10 t875.length co10] 31 (0, 0)) bk_ hb); replace HI874 := Aside0.mk (IsS58.below si_ hb); replace BK899 := Aside0.mk (blk_below (g := gb899) (o := .cells #[.slice Ao31 t895.length co31] 31 (0, 0)) bk_ hb); replace BK904 := Aside0.mk (blk_below (g := gb904) (o := .cells #[.slice Ao38 t900.length co38] 31 (0, 0)) bk_ hb); replace BK909 := Aside0.mk (blk_below (g := gb909) (o := .cells #[.slice Ao46 t905.length co46] 31 (0, 0)) bk_ hb); replace HB := Aside0.mk (below_step bl_ hb); clear hb hbox hg; obtain ⟨Ao55, co55, eo55⟩ := Kd.V_slice HO912.out; subst eo55; have hnb56 := NB914_880.out; have hnc56 := NB880_914.out; have hnb57 := NB914_899.out; have hnc57 := NB899_914.out; have hnb58 := NB914_904.out; have hnc58 := NB904_914.out; have hnb59 := NB914_909.out; have hnc59 := NB909_914.out; have hnb60 := NB914_874.out; have hnc60 := NB874_914.out; obtain ⟨hcz61_0, hfz61_0⟩ := cf1_ BK914.out))
   (try simp only [Act.put, List.setIfInBounds_toArray, List.set_cons_zero, List.set_cons_succ])
   go_cut [91] (fun v91 wc => ∃ (kq : Nat) (x91_23 : Bool), v91 = .bool x91_23 ∧ Aside0 (exactppllaw19_DiagramFixes.j1 kq t881 t888 x91_23 t871 t893 t894 t875 t895 = some r) ∧ Aside0 (kq ≤ kj5) ∧ Aside0 (Kd.V k60 60 wc w.heap.size (fun k_ => k_ ≠ gb880 ∧ k_ ≠ gb899 ∧ k_ ≠ gb904 ∧ k_ ≠ gb909 ∧ k_ ≠ gb914 ∧ k_ ≠ g874) (.slice Ao10 t875.length co10) t875) ∧ Aside0 (Kd.V k60 60 wc w.heap.size (fun k_ => k_ ≠ gb880 ∧ k_ ≠ gb899 ∧ k_ ≠ gb904 ∧ k_ ≠ gb909 ∧ k_ ≠ gb914 ∧ k_ ≠ g874) (.slice Ao31 t895.length co31) t895) ∧ Aside0 (Kd.V k60 60 wc w.heap.size (fun k_ => k_ ≠ gb880 ∧ k_ ≠ gb899 ∧ k_ ≠ gb904 ∧ k_ ≠ gb909 ∧ k_ ≠ gb914 ∧ k_ ≠ g874) (.slice Ao38 t900.length co38) t900) ∧ Aside0 (Kd.V k60 60 wc w.heap.size (fun k_ => k_ ≠ gb880 ∧ k_ ≠ gb899 ∧ k_ ≠ gb904 ∧ k_ ≠ gb909 ∧ k_ ≠ gb914 ∧ k_ ≠ g874) (.slice Ao46 t905.length co46) t905) ∧ Aside0 (Kd.V k60 60 wc w.heap.size (fun k_ => k_ ≠ gb880 ∧ k_ ≠ gb899 ∧ k_ ≠ gb904 ∧ k_ ≠ gb909 ∧ k_ ≠ gb914 ∧ k_ ≠ g874) (.slice Ao55 t910.length co55) t910) ∧ Aside0 (wc.heap[gb880]? = some (.cells #[(.slice Ao10 t875.length co10)] 31 (0, 0))) ∧ Aside0 (wc.heap[gb899]? = some (.cells #[(.slice Ao31 t895.length co31)] 31 (0, 0))) ∧ Aside0 (wc.heap[gb904]? = some (.cells #[(.slice Ao38 t900.length co38)] 31 (0, 0))) ∧ Aside0 (wc.heap[gb909]? = some (.cells #[(.slice Ao46 t905.length co46)] 31 (0, 0))) ∧ Aside0 (wc.heap[gb914]? = some (.cells #[(.slice Ao55 t910.length co55)] 31 (0, 0))) ∧ Aside0 (IsS58 w wc g874 t871 t893 t894) ∧ Aside0 (Below w.heap.size w wc))
   case first =>
    have H := HC24.out
    clear HC24
    by_cases c62 : t898 = 0
    ·rw [if_pos c62] at H
     have c62b0 : (t898 == 0) = true := beq_iff_eq.mpr c62
     have c62b1 : (t898 != 0) = false := bne_eq_false_iff_eq.mpr c62
     clear c62
     (first | rw [c62b0] | (simp only [i64_w, i32_w]; rw [c62b0]) | skip)
     by_cases c63 : t903 = 0
     ·rw [if_pos c63] at H
      have c63b0 : (t903 == 0) = true := beq_iff_eq.mpr c63
      have c63b1 : (t903 != 0) = false := bne_eq_false_iff_eq.mpr c63
      clear c63
      by_cases c64 : t908 = 0
      ·rw [if_pos c64] at H
       have c64b0 : (t908 == 0) = true := beq_iff_eq.mpr c64
       have c64b1 : (t908 != 0) = false := bne_eq_false_iff_eq.mpr c64
       clear c64
       by_cases c65 : t913 = 0
       ·rw [if_pos c65] at H
        have c65b0 : (t913 == 0) = true := beq_iff_eq.mpr c65
        have c65b1 : (t913 != 0) = false := bne_eq_false_iff_eq.mpr c65
        clear c65
        replace H := Option.bind_eq_some_iff.mp H
        obtain ⟨t915, A660, H⟩ := H
        replace H : (exactppllaw19_DiagramFixes.j1 kj5 t881 t888 (!t915) t871 t893 t894 t875 t895) = some r := H
        have A66 := Aside0.mk A660
        clear A660
        have H' := Aside0.mk H
        clear H
        have hnb67 := NB909_880.out
        have hnc67 := NB880_909.out
        have hnb68 := NB909_899.out
        have hnc68 := NB899_909.out
        have hnb69 := NB909_904.out
        have hnc69 := NB904_909.out
        have hnb70 := NB909_914.out
        have hnc70 := NB914_909.out
        have hnb71 := NB909_874.out
        have hnc71 := NB874_909.out
        obtain ⟨hcz72_0, hfz72_0⟩ := cf1_ BK909.out
        have hnb73 := NB914_880.out
        have hnc73 := NB880_914.out
        have hnb74 := NB914_899.out
        have hnc74 := NB899_914.out
        have hnb75 := NB914_904.out
        have hnc75 := NB904_914.out
        have hnb76 := NB914_874.out
        have hnc76 := NB874_914.out
        obtain ⟨hcz77_0, hfz77_0⟩ := cf1_ BK914.out
        go_wp2_with (first | (go_at_call 20; (with_reducible refine (exactpplref19_Same.calls kj5 _ _ t905 _ _ t910 t915 _ ?side1 ?side2 ?side3 ?side4 A66.out).mono ?_); (case side1 => refine (Kd.V_reads' (e := 60) (base := w.heap.size) (ok := fun k_ => (((k_ ≠ gb880 ∧ (k_ ≠ gb899 ∧ (k_ ≠ gb904 ∧ k_ ≠ g874))) ∧ k_ ≠ gb909) ∧ k_ ≠ gb914)) (n := t905.length) (c := co46) ?_).2.2; exact (by (with_reducible repeat (first | apply Kd.V_alloc | apply Kd.V_drewN | apply Kd.V_drew)); exact (Kd.V_mono (Kd.V_far (p := ⟨gb914, 0, none⟩) (Kd.V_mono HO907.out (fun k_ hk => (⟨hk, by first | exact hk.2 | exact hk.1 | exact hk.2 | exact hk.1.1 | exact hk.1.2⟩ : _ ∧ k_ ≠ gb914))) (fun _ hk => hk.2) (.slice Ao55 t910.length co55)) (fun _ h_ => h_.1)))); (case side2 => exact (Kd.V_reads' HO907.out).2.1); (case side3 => refine (Kd.V_reads' (e := 60) (base := w.heap.size) (ok := fun k_ => ((k_ ≠ gb880 ∧ (k_ ≠ gb899 ∧ (k_ ≠ gb904 ∧ (k_ ≠ gb909 ∧ k_ ≠ g874)))) ∧ k_ ≠ gb914)) (n := t910.length) (c := co55) ?_).2.2; exact (by (with_reducible repeat (first | apply Kd.V_alloc | apply Kd.V_drewN | apply Kd.V_drew)); exact (Kd.V_mono (Kd.V_far (p := ⟨gb914, 0, none⟩) (Kd.V_mono HO912.out (fun k_ hk => (⟨hk, by first | exact hk.2 | exact hk.1 | exact hk.2 | exact hk.1.1 | exact hk.1.2⟩ : _ ∧ k_ ≠ gb914))) (fun _ hk => hk.2) (.slice Ao55 t910.length co55)) (fun _ h_ => h_.1)))); (case side4 => exact (Kd.V_reads' HO912.out).2.1); rintro e w78 ⟨rfl, hb⟩; replace HO_881000 := Aside0.mk (Kd.V_below (by (with_reducible repeat (first | apply Kd.V_alloc | apply Kd.V_drewN | apply Kd.V_drew)); exact (Kd.V_mono (Kd.V_far (p := ⟨gb914, 0, none⟩) (Kd.V_mono HO_881000.out (fun k_ hk => (⟨hk, by first | exact hk.2 | exact hk.1 | exact hk.2 | exact hk.1.1 | exact hk.1.2⟩ : _ ∧ k_ ≠ gb914))) (fun _ hk => hk.2) (.slice Ao55 t910.length co55)) (fun _ h_ => h_.1))) hb); replace HO897 := Aside0.mk (Kd.V_below (by (with_reducible repeat (first | apply Kd.V_alloc | apply Kd.V_drewN | apply Kd.V_drew)); exact (Kd.V_mono (Kd.V_far (p := ⟨gb914, 0, none⟩) (Kd.V_mono HO897.out (fun k_ hk => (⟨hk, by first | exact hk.2 | exact hk.1 | exact hk.2 | exact hk.1.1 | exact hk.1.2⟩ : _ ∧ k_ ≠ gb914))) (fun _ hk => hk.2) (.slice Ao55 t910.length co55)) (fun _ h_ => h_.1))) hb); replace HO902 := Aside0.mk (Kd.V_below (by (with_reducible repeat (first | apply Kd.V_alloc | apply Kd.V_drewN | apply Kd.V_drew)); exact (Kd.V_mono (Kd.V_far (p := ⟨gb914, 0, none⟩) (Kd.V_mono HO902.out (fun k_ hk => (⟨hk, by first | exact hk.2 | exact hk.1 | exact hk.2 | exact hk.1.1 | exact hk.1.2⟩ : _ ∧ k_ ≠ gb914))) (fun _ hk => hk.2) (.slice Ao55 t910.length co55)) (fun _ h_ => h_.1))) hb); replace HO907 := Aside0.mk (Kd.V_below (by (with_reducible repeat (first | apply Kd.V_alloc | apply Kd.V_drewN | apply Kd.V_drew)); exact (Kd.V_mono (Kd.V_far (p := ⟨gb914, 0, none⟩) (Kd.V_mono HO907.out (fun k_ hk => (⟨hk, by first | exact hk.2 | exact hk.1 | exact hk.2 | exact hk.1.1 | exact hk.1.2⟩ : _ ∧ k_ ≠ gb914))) (fun _ hk => hk.2) (.slice Ao55 t910.length co55)) (fun _ h_ => h_.1))) hb); replace HO912 := Aside0.mk (Kd.V_below (by (with_reducible repeat (first | apply Kd.V_alloc | apply Kd.V_drewN | apply Kd.V_drew)); exact (Kd.V_mono (Kd.V_far (p := ⟨gb914, 0, none⟩) (Kd.V_mono HO912.out (fun k_ hk => (⟨hk, by first | exact hk.2 | exact hk.1 | exact hk.2 | exact hk.1.1 | exact hk.1.2⟩ : _ ∧ k_ ≠ gb914))) (fun _ hk => hk.2) (.slice Ao55 t910.length co55)) (fun _ h_ => h_.1))) hb); replace BK880 := Aside0.mk (blk_below (g := gb880) (o := .cells #[.slice Ao10 t875.length co10] 31 (0, 0)) (by (with_reducible repeat (first | refine blk_drewN ?_ _ | refine blk_drew ?_ | refine blk_alloc ?_ _)); refine blk_far ?_ NB880_914.out _; (with_reducible repeat (first | refine blk_drewN ?_ _ | refine blk_drew ?_ | refine blk_alloc ?_ _)); exact BK880.out) hb); replace HI874 := Aside0.mk (IsS58.below (show IsS58 w (w54.setCell ⟨gb914, 0, none⟩ (.slice Ao55 t910.length co55)) g874 t871 t893 t894 from si_) hb); replace BK899 := Aside0.mk (blk_below (g := gb899) (o := .cells #[.slice Ao31 t895.length co31] 31 (0, 0)) (by (with_reducible repeat (first | refine blk_drewN ?_ _ | refine blk_drew ?_ | refine blk_alloc ?_ _)); refine blk_far ?_ NB899_914.out _; (with_reducible repeat (first | refine blk_drewN ?_ _ | refine blk_drew ?_ | refine blk_alloc ?_ _)); exact BK899.out) hb); replace BK904 := Aside0.mk (blk_below (g := gb904) (o := .cells #[.slice Ao38 t900.length co38] 31 (0, 0)) (by (with_reducible repeat (first | refine blk_drewN ?_ _ | refine blk_drew ?_ | refine blk_alloc ?_ _)); refine blk_far ?_ NB904_914.out _; (with_reducible repeat (first | refine blk_drewN ?_ _ | refine blk_drew ?_ | refine blk_alloc ?_ _)); exact BK904.out) hb); replace BK909 := Aside0.mk (blk_below (g := gb909) (o := .cells #[.slice Ao46 t905.length co46] 31 (0, 0)) (by (with_reducible repeat (first | refine blk_drewN ?_ _ | refine blk_drew ?_ | refine blk_alloc ?_ _)); refine blk_far ?_ NB909_914.out _; (with_reducible repeat (first | refine blk_drewN ?_ _ | refine blk_drew ?_ | refine blk_alloc ?_ _)); exact BK909.out) hb); replace BK914 := Aside0.mk (blk_below (g := gb914) (o := .cells #[.slice Ao55 t910.length co55] 31 (0, 0)) (by (with_reducible repeat (first | refine blk_drewN ?_ _ | refine blk_drew ?_ | refine blk_alloc ?_ _)); refine blk_put (cs := #[.slice none 0 0]) ?_ 0 _ rfl; (with_reducible repeat (first | refine blk_drewN ?_ _ | refine blk_drew ?_ | refine blk_alloc ?_ _)); exact BK914.out) hb); replace HB := Aside0.mk (below_step bl_ hb); (try clear hb); (try clear hb2); (try clear hk); (try clear hi)))
        go_meet
        case rel => exact ⟨_, (!t915), rs_, H', ⟨by have := HJ5.out; first | omega | exact Nat.le_refl _⟩, ⟨by (with_reducible repeat (first | apply Kd.V_alloc | apply Kd.V_drewN | apply Kd.V_drew)); exact Kd.V_mono HO_881000.out (fun _ hk => ⟨hk.1.1.1.1.1, ⟨hk.1.1.1.2, ⟨hk.1.1.2, ⟨hk.1.2, ⟨hk.2, hk.1.1.1.1.2⟩⟩⟩⟩⟩)⟩, ⟨by (with_reducible repeat (first | apply Kd.V_alloc | apply Kd.V_drewN | apply Kd.V_drew)); exact Kd.V_mono HO897.out (fun _ hk => ⟨hk.1.1.1.1.1, ⟨hk.1.1.1.2, ⟨hk.1.1.2, ⟨hk.1.2, ⟨hk.2, hk.1.1.1.1.2⟩⟩⟩⟩⟩)⟩, ⟨by (with_reducible repeat (first | apply Kd.V_alloc | apply Kd.V_drewN | apply Kd.V_drew)); exact Kd.V_mono HO902.out (fun _ hk => ⟨hk.1.1.1.1, ⟨hk.1.1.1.2.1, ⟨hk.1.1.2, ⟨hk.1.2, ⟨hk.2, hk.1.1.1.2.2⟩⟩⟩⟩⟩)⟩, ⟨by (with_reducible repeat (first | apply Kd.V_alloc | apply Kd.V_drewN | apply Kd.V_drew)); exact Kd.V_mono HO907.out (fun _ hk => ⟨hk.1.1.1, ⟨hk.1.1.2.1, ⟨hk.1.1.2.2.1, ⟨hk.1.2, ⟨hk.2, hk.1.1.2.2.2⟩⟩⟩⟩⟩)⟩, ⟨by (with_reducible repeat (first | apply Kd.V_alloc | apply Kd.V_drewN | apply Kd.V_drew)); exact Kd.V_mono HO912.out (fun _ hk => ⟨hk.1.1, ⟨hk.1.2.1, ⟨hk.1.2.2.1, ⟨hk.1.2.2.2.1, ⟨hk.2, hk.1.2.2.2.2⟩⟩⟩⟩⟩)⟩, ⟨bk_⟩, ⟨bk_⟩, ⟨bk_⟩, ⟨bk_⟩, ⟨bk_⟩, ⟨si_⟩, ⟨bl_⟩⟩
       ·rw [if_neg c65] at H
        have c65b0 : (t913 == 0) = false := beq_eq_false_iff_ne.mpr c65
        have c65b1 : (t913 != 0) = true := bne_iff_ne.mpr c65
        have H' := Aside0.mk H
        clear H
        go_wp2
        go_meet
        case rel => exact ⟨_, (true), rs_, H', ⟨by have := HJ5.out; first | omega | exact Nat.le_refl _⟩, ⟨by (with_reducible repeat (first | apply Kd.V_alloc | apply Kd.V_drewN | apply Kd.V_drew)); exact Kd.V_mono (Kd.V_far (p := ⟨gb914, 0, none⟩) (Kd.V_mono HO_881000.out (fun k_ hk => (⟨hk, by first | exact hk.2 | exact hk.1 | exact hk.2 | exact hk.1.1 | exact hk.1.2⟩ : _ ∧ k_ ≠ gb914))) (fun _ hk => hk.2) (.slice Ao55 t910.length co55)) (fun _ hk => ⟨hk.1.1.1.1.1.1, ⟨hk.1.1.1.1.2, ⟨hk.1.1.1.2, ⟨hk.1.1.2, ⟨hk.1.2, hk.1.1.1.1.1.2⟩⟩⟩⟩⟩)⟩, ⟨by (with_reducible repeat (first | apply Kd.V_alloc | apply Kd.V_drewN | apply Kd.V_drew)); exact Kd.V_mono (Kd.V_far (p := ⟨gb914, 0, none⟩) (Kd.V_mono HO897.out (fun k_ hk => (⟨hk, by first | exact hk.2 | exact hk.1 | exact hk.2 | exact hk.1.1 | exact hk.1.2⟩ : _ ∧ k_ ≠ gb914))) (fun _ hk => hk.2) (.slice Ao55 t910.length co55)) (fun _ hk => ⟨hk.1.1.1.1.1.1, ⟨hk.1.1.1.1.2, ⟨hk.1.1.1.2, ⟨hk.1.1.2, ⟨hk.1.2, hk.1.1.1.1.1.2⟩⟩⟩⟩⟩)⟩, ⟨by (with_reducible repeat (first | apply Kd.V_alloc | apply Kd.V_drewN | apply Kd.V_drew)); exact Kd.V_mono (Kd.V_far (p := ⟨gb914, 0, none⟩) (Kd.V_mono HO902.out (fun k_ hk => (⟨hk, by first | exact hk.2 | exact hk.1 | exact hk.2 | exact hk.1.1 | exact hk.1.2⟩ : _ ∧ k_ ≠ gb914))) (fun _ hk => hk.2) (.slice Ao55 t910.length co55)) (fun _ hk => ⟨hk.1.1.1.1.1, ⟨hk.1.1.1.1.2.1, ⟨hk.1.1.1.2, ⟨hk.1.1.2, ⟨hk.1.2, hk.1.1.1.1.2.2⟩⟩⟩⟩⟩)⟩, ⟨by (with_reducible repeat (first | apply Kd.V_alloc | apply Kd.V_drewN | apply Kd.V_drew)); exact Kd.V_mono (Kd.V_far (p := ⟨gb914, 0, none⟩) (Kd.V_mono HO907.out (fun k_ hk => (⟨hk, by first | exact hk.2 | exact hk.1 | exact hk.2 | exact hk.1.1 | exact hk.1.2⟩ : _ ∧ k_ ≠ gb914))) (fun _ hk => hk.2) (.slice Ao55 t910.length co55)) (fun _ hk => ⟨hk.1.1.1.1, ⟨hk.1.1.1.2.1, ⟨hk.1.1.1.2.2.1, ⟨hk.1.1.2, ⟨hk.1.2, hk.1.1.1.2.2.2⟩⟩⟩⟩⟩)⟩, ⟨by (with_reducible repeat (first | apply Kd.V_alloc | apply Kd.V_drewN | apply Kd.V_drew)); exact Kd.V_mono (Kd.V_far (p := ⟨gb914, 0, none⟩) (Kd.V_mono HO912.out (fun k_ hk => (⟨hk, by first | exact hk.2 | exact hk.1 | exact hk.2 | exact hk.1.1 | exact hk.1.2⟩ : _ ∧ k_ ≠ gb914))) (fun _ hk => hk.2) (.slice Ao55 t910.length co55)) (fun _ hk => ⟨hk.1.1.1, ⟨hk.1.1.2.1, ⟨hk.1.1.2.2.1, ⟨hk.1.1.2.2.2.1, ⟨hk.1.2, hk.1.1.2.2.2.2⟩⟩⟩⟩⟩)⟩, ⟨by (with_reducible repeat (first | refine blk_drewN ?_ _ | refine blk_drew ?_ | refine blk_alloc ?_ _)); refine blk_far ?_ NB880_914.out _; (with_reducible repeat (first | refine blk_drewN ?_ _ | refine blk_drew ?_ | refine blk_alloc ?_ _)); exact BK880.out⟩, ⟨by (with_reducible repeat (first | refine blk_drewN ?_ _ | refine blk_drew ?_ | refine blk_alloc ?_ _)); refine blk_far ?_ NB899_914.out _; (with_reducible repeat (first | refine blk_drewN ?_ _ | refine blk_drew ?_ | refine blk_alloc ?_ _)); exact BK899.out⟩, ⟨by (with_reducible repeat (first | refine blk_drewN ?_ _ | refine blk_drew ?_ | refine blk_alloc ?_ _)); refine blk_far ?_ NB904_914.out _; (with_reducible repeat (first | refine blk_drewN ?_ _ | refine blk_drew ?_ | refine blk_alloc ?_ _)); exact BK904.out⟩, ⟨by (with_reducible repeat (first | refine blk_drewN ?_ _ | refine blk_drew ?_ | refine blk_alloc ?_ _)); refine blk_far ?_ NB909_914.out _; (with_reducible repeat (first | refine blk_drewN ?_ _ | refine blk_drew ?_ | refine blk_alloc ?_ _)); exact BK909.out⟩, ⟨by (with_reducible repeat (first | refine blk_drewN ?_ _ | refine blk_drew ?_ | refine blk_alloc ?_ _)); refine blk_put (cs := #[.slice none 0 0]) ?_ 0 _ rfl; (with_reducible repeat (first | refine blk_drewN ?_ _ | refine blk_drew ?_ | refine blk_alloc ?_ _)); exact BK914.out⟩, ⟨si_⟩, ⟨bl_⟩⟩
      ·rw [if_neg c64] at H
       have c64b0 : (t908 == 0) = false := beq_eq_false_iff_ne.mpr c64
       have c64b1 : (t908 != 0) = true := bne_iff_ne.mpr c64
       have H' := Aside0.mk H
       clear H
       go_wp2
       go_meet
       case rel => exact ⟨_, (true), rs_, H', ⟨by have := HJ5.out; first | omega | exact Nat.le_refl _⟩, ⟨by (with_reducible repeat (first | apply Kd.V_alloc | apply Kd.V_drewN | apply Kd.V_drew)); exact Kd.V_mono (Kd.V_far (p := ⟨gb914, 0, none⟩) (Kd.V_mono HO_881000.out (fun k_ hk => (⟨hk, by first | exact hk.2 | exact hk.1 | exact hk.2 | exact hk.1.1 | exact hk.1.2⟩ : _ ∧ k_ ≠ gb914))) (fun _ hk => hk.2) (.slice Ao55 t910.length co55)) (fun _ hk => ⟨hk.1.1.1.1.1.1, ⟨hk.1.1.1.1.2, ⟨hk.1.1.1.2, ⟨hk.1.1.2, ⟨hk.1.2, hk.1.1.1.1.1.2⟩⟩⟩⟩⟩)⟩, ⟨by (with_reducible repeat (first | apply Kd.V_alloc | apply Kd.V_drewN | apply Kd.V_drew)); exact Kd.V_mono (Kd.V_far (p := ⟨gb914, 0, none⟩) (Kd.V_mono HO897.out (fun k_ hk => (⟨hk, by first | exact hk.2 | exact hk.1 | exact hk.2 | exact hk.1.1 | exact hk.1.2⟩ : _ ∧ k_ ≠ gb914))) (fun _ hk => hk.2) (.slice Ao55 t910.length co55)) (fun _ hk => ⟨hk.1.1.1.1.1.1, ⟨hk.1.1.1.1.2, ⟨hk.1.1.1.2, ⟨hk.1.1.2, ⟨hk.1.2, hk.1.1.1.1.1.2⟩⟩⟩⟩⟩)⟩, ⟨by (with_reducible repeat (first | apply Kd.V_alloc | apply Kd.V_drewN | apply Kd.V_drew)); exact Kd.V_mono (Kd.V_far (p := ⟨gb914, 0, none⟩) (Kd.V_mono HO902.out (fun k_ hk => (⟨hk, by first | exact hk.2 | exact hk.1 | exact hk.2 | exact hk.1.1 | exact hk.1.2⟩ : _ ∧ k_ ≠ gb914))) (fun _ hk => hk.2) (.slice Ao55 t910.length co55)) (fun _ hk => ⟨hk.1.1.1.1.1, ⟨hk.1.1.1.1.2.1, ⟨hk.1.1.1.2, ⟨hk.1.1.2, ⟨hk.1.2, hk.1.1.1.1.2.2⟩⟩⟩⟩⟩)⟩, ⟨by (with_reducible repeat (first | apply Kd.V_alloc | apply Kd.V_drewN | apply Kd.V_drew)); exact Kd.V_mono (Kd.V_far (p := ⟨gb914, 0, none⟩) (Kd.V_mono HO907.out (fun k_ hk => (⟨hk, by first | exact hk.2 | exact hk.1 | exact hk.2 | exact hk.1.1 | exact hk.1.2⟩ : _ ∧ k_ ≠ gb914))) (fun _ hk => hk.2) (.slice Ao55 t910.length co55)) (fun _ hk => ⟨hk.1.1.1.1, ⟨hk.1.1.1.2.1, ⟨hk.1.1.1.2.2.1, ⟨hk.1.1.2, ⟨hk.1.2, hk.1.1.1.2.2.2⟩⟩⟩⟩⟩)⟩, ⟨by (with_reducible repeat (first | apply Kd.V_alloc | apply Kd.V_drewN | apply Kd.V_drew)); exact Kd.V_mono (Kd.V_far (p := ⟨gb914, 0, none⟩) (Kd.V_mono HO912.out (fun k_ hk => (⟨hk, by first | exact hk.2 | exact hk.1 | exact hk.2 | exact hk.1.1 | exact hk.1.2⟩ : _ ∧ k_ ≠ gb914))) (fun _ hk => hk.2) (.slice Ao55 t910.length co55)) (fun _ hk => ⟨hk.1.1.1, ⟨hk.1.1.2.1, ⟨hk.1.1.2.2.1, ⟨hk.1.1.2.2.2.1, ⟨hk.1.2, hk.1.1.2.2.2.2⟩⟩⟩⟩⟩)⟩, ⟨by (with_reducible repeat (first | refine blk_drewN ?_ _ | refine blk_drew ?_ | refine blk_alloc ?_ _)); refine blk_far ?_ NB880_914.out _; (with_reducible repeat (first | refine blk_drewN ?_ _ | refine blk_drew ?_ | refine blk_alloc ?_ _)); exact BK880.out⟩, ⟨by (with_reducible repeat (first | refine blk_drewN ?_ _ | refine blk_drew ?_ | refine blk_alloc ?_ _)); refine blk_far ?_ NB899_914.out _; (with_reducible repeat (first | refine blk_drewN ?_ _ | refine blk_drew ?_ | refine blk_alloc ?_ _)); exact BK899.out⟩, ⟨by (with_reducible repeat (first | refine blk_drewN ?_ _ | refine blk_drew ?_ | refine blk_alloc ?_ _)); refine blk_far ?_ NB904_914.out _; (with_reducible repeat (first | refine blk_drewN ?_ _ | refine blk_drew ?_ | refine blk_alloc ?_ _)); exact BK904.out⟩, ⟨by (with_reducible repeat (first | refine blk_drewN ?_ _ | refine blk_drew ?_ | refine blk_alloc ?_ _)); refine blk_far ?_ NB909_914.out _; (with_reducible repeat (first | refine blk_drewN ?_ _ | refine blk_drew ?_ | refine blk_alloc ?_ _)); exact BK909.out⟩, ⟨by (with_reducible repeat (first | refine blk_drewN ?_ _ | refine blk_drew ?_ | refine blk_alloc ?_ _)); refine blk_put (cs := #[.slice none 0 0]) ?_ 0 _ rfl; (with_reducible repeat (first | refine blk_drewN ?_ _ | refine blk_drew ?_ | refine blk_alloc ?_ _)); exact BK914.out⟩, ⟨si_⟩, ⟨bl_⟩⟩
     ·rw [if_neg c63] at H
      have c63b0 : (t903 == 0) = false := beq_eq_false_iff_ne.mpr c63
      have c63b1 : (t903 != 0) = true := bne_iff_ne.mpr c63
      have H' := Aside0.mk H
      clear H
      go_wp2
      go_meet
      case rel => exact ⟨_, (true), rs_, H', ⟨by have := HJ5.out; first | omega | exact Nat.le_refl _⟩, ⟨by (with_reducible repeat (first | apply Kd.V_alloc | apply Kd.V_drewN | apply Kd.V_drew)); exact Kd.V_mono (Kd.V_far (p := ⟨gb914, 0, none⟩) (Kd.V_mono HO_881000.out (fun k_ hk => (⟨hk, by first | exact hk.2 | exact hk.1 | exact hk.2 | exact hk.1.1 | exact hk.1.2⟩ : _ ∧ k_ ≠ gb914))) (fun _ hk => hk.2) (.slice Ao55 t910.length co55)) (fun _ hk => ⟨hk.1.1.1.1.1.1, ⟨hk.1.1.1.1.2, ⟨hk.1.1.1.2, ⟨hk.1.1.2, ⟨hk.1.2, hk.1.1.1.1.1.2⟩⟩⟩⟩⟩)⟩, ⟨by (with_reducible repeat (first | apply Kd.V_alloc | apply Kd.V_drewN | apply Kd.V_drew)); exact Kd.V_mono (Kd.V_far (p := ⟨gb914, 0, none⟩) (Kd.V_mono HO897.out (fun k_ hk => (⟨hk, by first | exact hk.2 | exact hk.1 | exact hk.2 | exact hk.1.1 | exact hk.1.2⟩ : _ ∧ k_ ≠ gb914))) (fun _ hk => hk.2) (.slice Ao55 t910.length co55)) (fun _ hk => ⟨hk.1.1.1.1.1.1, ⟨hk.1.1.1.1.2, ⟨hk.1.1.1.2, ⟨hk.1.1.2, ⟨hk.1.2, hk.1.1.1.1.1.2⟩⟩⟩⟩⟩)⟩, ⟨by (with_reducible repeat (first | apply Kd.V_alloc | apply Kd.V_drewN | apply Kd.V_drew)); exact Kd.V_mono (Kd.V_far (p := ⟨gb914, 0, none⟩) (Kd.V_mono HO902.out (fun k_ hk => (⟨hk, by first | exact hk.2 | exact hk.1 | exact hk.2 | exact hk.1.1 | exact hk.1.2⟩ : _ ∧ k_ ≠ gb914))) (fun _ hk => hk.2) (.slice Ao55 t910.length co55)) (fun _ hk => ⟨hk.1.1.1.1.1, ⟨hk.1.1.1.1.2.1, ⟨hk.1.1.1.2, ⟨hk.1.1.2, ⟨hk.1.2, hk.1.1.1.1.2.2⟩⟩⟩⟩⟩)⟩, ⟨by (with_reducible repeat (first | apply Kd.V_alloc | apply Kd.V_drewN | apply Kd.V_drew)); exact Kd.V_mono (Kd.V_far (p := ⟨gb914, 0, none⟩) (Kd.V_mono HO907.out (fun k_ hk => (⟨hk, by first | exact hk.2 | exact hk.1 | exact hk.2 | exact hk.1.1 | exact hk.1.2⟩ : _ ∧ k_ ≠ gb914))) (fun _ hk => hk.2) (.slice Ao55 t910.length co55)) (fun _ hk => ⟨hk.1.1.1.1, ⟨hk.1.1.1.2.1, ⟨hk.1.1.1.2.2.1, ⟨hk.1.1.2, ⟨hk.1.2, hk.1.1.1.2.2.2⟩⟩⟩⟩⟩)⟩, ⟨by (with_reducible repeat (first | apply Kd.V_alloc | apply Kd.V_drewN | apply Kd.V_drew)); exact Kd.V_mono (Kd.V_far (p := ⟨gb914, 0, none⟩) (Kd.V_mono HO912.out (fun k_ hk => (⟨hk, by first | exact hk.2 | exact hk.1 | exact hk.2 | exact hk.1.1 | exact hk.1.2⟩ : _ ∧ k_ ≠ gb914))) (fun _ hk => hk.2) (.slice Ao55 t910.length co55)) (fun _ hk => ⟨hk.1.1.1, ⟨hk.1.1.2.1, ⟨hk.1.1.2.2.1, ⟨hk.1.1.2.2.2.1, ⟨hk.1.2, hk.1.1.2.2.2.2⟩⟩⟩⟩⟩)⟩, ⟨by (with_reducible repeat (first | refine blk_drewN ?_ _ | refine blk_drew ?_ | refine blk_alloc ?_ _)); refine blk_far ?_ NB880_914.out _; (with_reducible repeat (first | refine blk_drewN ?_ _ | refine blk_drew ?_ | refine blk_alloc ?_ _)); exact BK880.out⟩, ⟨by (with_reducible repeat (first | refine blk_drewN ?_ _ | refine blk_drew ?_ | refine blk_alloc ?_ _)); refine blk_far ?_ NB899_914.out _; (with_reducible repeat (first | refine blk_drewN ?_ _ | refine blk_drew ?_ | refine blk_alloc ?_ _)); exact BK899.out⟩, ⟨by (with_reducible repeat (first | refine blk_drewN ?_ _ | refine blk_drew ?_ | refine blk_alloc ?_ _)); refine blk_far ?_ NB904_914.out _; (with_reducible repeat (first | refine blk_drewN ?_ _ | refine blk_drew ?_ | refine blk_alloc ?_ _)); exact BK904.out⟩, ⟨by (with_reducible repeat (first | refine blk_drewN ?_ _ | refine blk_drew ?_ | refine blk_alloc ?_ _)); refine blk_far ?_ NB909_914.out _; (with_reducible repeat (first | refine blk_drewN ?_ _ | refine blk_drew ?_ | refine blk_alloc ?_ _)); exact BK909.out⟩, ⟨by (with_reducible repeat (first | refine blk_drewN ?_ _ | refine blk_drew ?_ | refine blk_alloc ?_ _)); refine blk_put (cs := #[.slice none 0 0]) ?_ 0 _ rfl; (with_reducible repeat (first | refine blk_drewN ?_ _ | refine blk_drew ?_ | refine blk_alloc ?_ _)); exact BK914.out⟩, ⟨si_⟩, ⟨bl_⟩⟩
    ·rw [if_neg c62] at H
     have c62b0 : (t898 == 0) = false := beq_eq_false_iff_ne.mpr c62
     have c62b1 : (t898 != 0) = true := bne_iff_ne.mpr c62
     (first | rw [c62b0] | (simp only [i64_w, i32_w]; rw [c62b0]) | skip)
     have H' := Aside0.mk H
     clear H
     go_wp2
     go_meet
     case rel => exact ⟨_, (true), rs_, H', ⟨by have := HJ5.out; first | omega | exact Nat.le_refl _⟩, ⟨by (with_reducible repeat (first | apply Kd.V_alloc | apply Kd.V_drewN | apply Kd.V_drew)); exact Kd.V_mono (Kd.V_far (p := ⟨gb914, 0, none⟩) (Kd.V_mono HO_881000.out (fun k_ hk => (⟨hk, by first | exact hk.2 | exact hk.1 | exact hk.2 | exact hk.1.1 | exact hk.1.2⟩ : _ ∧ k_ ≠ gb914))) (fun _ hk => hk.2) (.slice Ao55 t910.length co55)) (fun _ hk => ⟨hk.1.1.1.1.1.1, ⟨hk.1.1.1.1.2, ⟨hk.1.1.1.2, ⟨hk.1.1.2, ⟨hk.1.2, hk.1.1.1.1.1.2⟩⟩⟩⟩⟩)⟩, ⟨by (with_reducible repeat (first | apply Kd.V_alloc | apply Kd.V_drewN | apply Kd.V_drew)); exact Kd.V_mono (Kd.V_far (p := ⟨gb914, 0, none⟩) (Kd.V_mono HO897.out (fun k_ hk => (⟨hk, by first | exact hk.2 | exact hk.1 | exact hk.2 | exact hk.1.1 | exact hk.1.2⟩ : _ ∧ k_ ≠ gb914))) (fun _ hk => hk.2) (.slice Ao55 t910.length co55)) (fun _ hk => ⟨hk.1.1.1.1.1.1, ⟨hk.1.1.1.1.2, ⟨hk.1.1.1.2, ⟨hk.1.1.2, ⟨hk.1.2, hk.1.1.1.1.1.2⟩⟩⟩⟩⟩)⟩, ⟨by (with_reducible repeat (first | apply Kd.V_alloc | apply Kd.V_drewN | apply Kd.V_drew)); exact Kd.V_mono (Kd.V_far (p := ⟨gb914, 0, none⟩) (Kd.V_mono HO902.out (fun k_ hk => (⟨hk, by first | exact hk.2 | exact hk.1 | exact hk.2 | exact hk.1.1 | exact hk.1.2⟩ : _ ∧ k_ ≠ gb914))) (fun _ hk => hk.2) (.slice Ao55 t910.length co55)) (fun _ hk => ⟨hk.1.1.1.1.1, ⟨hk.1.1.1.1.2.1, ⟨hk.1.1.1.2, ⟨hk.1.1.2, ⟨hk.1.2, hk.1.1.1.1.2.2⟩⟩⟩⟩⟩)⟩, ⟨by (with_reducible repeat (first | apply Kd.V_alloc | apply Kd.V_drewN | apply Kd.V_drew)); exact Kd.V_mono (Kd.V_far (p := ⟨gb914, 0, none⟩) (Kd.V_mono HO907.out (fun k_ hk => (⟨hk, by first | exact hk.2 | exact hk.1 | exact hk.2 | exact hk.1.1 | exact hk.1.2⟩ : _ ∧ k_ ≠ gb914))) (fun _ hk => hk.2) (.slice Ao55 t910.length co55)) (fun _ hk => ⟨hk.1.1.1.1, ⟨hk.1.1.1.2.1, ⟨hk.1.1.1.2.2.1, ⟨hk.1.1.2, ⟨hk.1.2, hk.1.1.1.2.2.2⟩⟩⟩⟩⟩)⟩, ⟨by (with_reducible repeat (first | apply Kd.V_alloc | apply Kd.V_drewN | apply Kd.V_drew)); exact Kd.V_mono (Kd.V_far (p := ⟨gb914, 0, none⟩) (Kd.V_mono HO912.out (fun k_ hk => (⟨hk, by first | exact hk.2 | exact hk.1 | exact hk.2 | exact hk.1.1 | exact hk.1.2⟩ : _ ∧ k_ ≠ gb914))) (fun _ hk => hk.2) (.slice Ao55 t910.length co55)) (fun _ hk => ⟨hk.1.1.1, ⟨hk.1.1.2.1, ⟨hk.1.1.2.2.1, ⟨hk.1.1.2.2.2.1, ⟨hk.1.2, hk.1.1.2.2.2.2⟩⟩⟩⟩⟩)⟩, ⟨by (with_reducible repeat (first | refine blk_drewN ?_ _ | refine blk_drew ?_ | refine blk_alloc ?_ _)); refine blk_far ?_ NB880_914.out _; (with_reducible repeat (first | refine blk_drewN ?_ _ | refine blk_drew ?_ | refine blk_alloc ?_ _)); exact BK880.out⟩, ⟨by (with_reducible repeat (first | refine blk_drewN ?_ _ | refine blk_drew ?_ | refine blk_alloc ?_ _)); refine blk_far ?_ NB899_914.out _; (with_reducible repeat (first | refine blk_drewN ?_ _ | refine blk_drew ?_ | refine blk_alloc ?_ _)); exact BK899.out⟩, ⟨by (with_reducible repeat (first | refine blk_drewN ?_ _ | refine blk_drew ?_ | refine blk_alloc ?_ _)); refine blk_far ?_ NB904_914.out _; (with_reducible repeat (first | refine blk_drewN ?_ _ | refine blk_drew ?_ | refine blk_alloc ?_ _)); exact BK904.out⟩, ⟨by (with_reducible repeat (first | refine blk_drewN ?_ _ | refine blk_drew ?_ | refine blk_alloc ?_ _)); refine blk_far ?_ NB909_914.out _; (with_reducible repeat (first | refine blk_drewN ?_ _ | refine blk_drew ?_ | refine blk_alloc ?_ _)); exact BK909.out⟩, ⟨by (with_reducible repeat (first | refine blk_drewN ?_ _ | refine blk_drew ?_ | refine blk_alloc ?_ _)); refine blk_put (cs := #[.slice none 0 0]) ?_ 0 _ rfl; (with_reducible repeat (first | refine blk_drewN ?_ _ | refine blk_drew ?_ | refine blk_alloc ?_ _)); exact BK914.out⟩, ⟨si_⟩, ⟨bl_⟩⟩
   case rest =>
    clear HC24
    try clear c1
    try clear c2
    try clear p2
    try clear c3
    try clear c4
    try clear c5
    try clear c6
    try clear p6
    try clear c7
    try clear c11
    try clear c12
    try clear c15
    try clear c15b0
    try clear c15b1
    try clear c22
    try clear c23
    try clear c27
    try clear c30
    try clear c32
    try clear c33
    try clear c39
    try clear c40
    try clear c41
    try clear c42
    try clear c47
    try clear c48
    try clear c49
    try clear c50
    try clear c56
    try clear c57
    try clear c58
    try clear c59
    try clear c60
    try clear c62
    try clear c62b0
    try clear c62b1
    try clear c63
    try clear c63b0
    try clear c63b1
    try clear c64
    try clear c64b0
    try clear c64b1
    try clear p64
    try clear c65
    try clear c65b0
    try clear c65b1
    try clear c67
    try clear c68
    try clear c69
    try clear c70
    try clear c71
    try clear c73
    try clear c74
    try clear c75
    try clear c76
    try clear hcz12_0 hfz12_0
    try clear hcz28_0 hfz28_0
    try clear hcz34_0 hfz34_0
    try clear hcz35_0 hfz35_0
    try clear hcz42_0 hfz42_0
    try clear hcz43_0 hfz43_0
    try clear hcz51_0 hfz51_0
    try clear hcz52_0 hfz52_0
    try clear hcz61_0 hfz61_0
    try clear hcz72_0 hfz72_0
    try clear hcz77_0 hfz77_0
    try clear p2
    try clear p6
    obtain ⟨kq, x91_23, rfl, HA, HJ23, HO_881000, HO_900000, HO_905000, HO_910000, HO_915000, BK880, BK899, BK904, BK909, BK914, HI874, HB⟩ := hcut
    cases kq with
    | zero => exact absurd HA.out (by simp [exactppllaw19_DiagramFixes.j1])
    | succ kj23 =>
     have H := HA.out
     clear HA
     simp only [exactppllaw19_DiagramFixes.j1] at H
     by_cases c79 : x91_23 = true
     ·subst c79
      have H1 : (some false) = some r := by rw [if_pos rfl] at H; exact H
      clear H
      have H := H1
      clear H1
      obtain rfl := Option.some.inj H
      go_wp2
      go_ret
      exact ⟨re_, bl_⟩
     ·replace c79 := Bool.eq_false_iff.mpr c79
      subst c79
      have H1 : ((exactpplmake_Src_Outcomes.f kj23 t871 t893 t894 4).bind fun bt916 => ((diagram_Eval.f t895 bt916.1).bind fun bt921 => (if 0 ≤ t881 then (if t881 < (bt916.1.length : Int) then ((diagram_Eval.f t875 (bt916.1.set (t881 : Int).toNat t888)).bind fun bt924 => ((diagram_Sites.f t895).bind fun bt926 => (if bt921.2 = 0 then (if bt924.2 = 0 then (if bt926.2 = 0 then (exactppllaw19_DiagramFixes.j2 kj23 t881 bt926.1 (bt921.1 != bt924.1)) else (exactppllaw19_DiagramFixes.j2 kj23 t881 bt926.1 true)) else (exactppllaw19_DiagramFixes.j2 kj23 t881 bt926.1 true)) else (exactppllaw19_DiagramFixes.j2 kj23 t881 bt926.1 true)))) else (none)) else (none)))) = some r := by rw [if_neg (show ¬ (false = true) by decide)] at H; exact H
      clear H
      have H := H1
      clear H1
      replace H := Option.bind_eq_some_iff.mp H
      obtain ⟨⟨t916, t919, t920⟩, A800, H⟩ := H
      replace H : ((diagram_Eval.f t895 t916).bind fun bt921 => (if 0 ≤ t881 then (if t881 < (t916.length : Int) then ((diagram_Eval.f t875 (t916.set (t881 : Int).toNat t888)).bind fun bt924 => ((diagram_Sites.f t895).bind fun bt926 => (if bt921.2 = 0 then (if bt924.2 = 0 then (if bt926.2 = 0 then (exactppllaw19_DiagramFixes.j2 kj23 t881 bt926.1 (bt921.1 != bt924.1)) else (exactppllaw19_DiagramFixes.j2 kj23 t881 bt926.1 true)) else (exactppllaw19_DiagramFixes.j2 kj23 t881 bt926.1 true)) else (exactppllaw19_DiagramFixes.j2 kj23 t881 bt926.1 true)))) else (none)) else (none))) = some r := H
      have A80 := Aside0.mk A800
      clear A800
      replace H := Option.bind_eq_some_iff.mp H
      obtain ⟨⟨t921, t922⟩, A810, H⟩ := H
      replace H : (if 0 ≤ t881 then (if t881 < (t916.length : Int) then ((diagram_Eval.f t875 (t916.set (t881 : Int).toNat t888)).bind fun bt924 => ((diagram_Sites.f t895).bind fun bt926 => (if t922 = 0 then (if bt924.2 = 0 then (if bt926.2 = 0 then (exactppllaw19_DiagramFixes.j2 kj23 t881 bt926.1 (t921 != bt924.1)) else (exactppllaw19_DiagramFixes.j2 kj23 t881 bt926.1 true)) else (exactppllaw19_DiagramFixes.j2 kj23 t881 bt926.1 true)) else (exactppllaw19_DiagramFixes.j2 kj23 t881 bt926.1 true)))) else (none)) else (none)) = some r := H
      have A81 := Aside0.mk A810
      clear A810
      by_cases c82 : 0 ≤ t881
      ·rw [if_pos c82] at H
       have c82b0 : decide (0 ≤ t881) = true := decide_eq_true c82
       clear c82
       by_cases c83 : t881 < (t916.length : Int)
       ·rw [if_pos c83] at H
        have c83b0 : decide (t881 < (t916.length : Int)) = true := decide_eq_true c83
        clear c83
        obtain ⟨y923, hy923⟩ : ∃ y_ : List Int, y_ = (t916.set (t881 : Int).toNat t888) := ⟨_, rfl⟩
        replace H : ((diagram_Eval.f t875 y923).bind fun bt924 => ((diagram_Sites.f t895).bind fun bt926 => (if t922 = 0 then (if bt924.2 = 0 then (if bt926.2 = 0 then (exactppllaw19_DiagramFixes.j2 kj23 t881 bt926.1 (t921 != bt924.1)) else (exactppllaw19_DiagramFixes.j2 kj23 t881 bt926.1 true)) else (exactppllaw19_DiagramFixes.j2 kj23 t881 bt926.1 true)) else (exactppllaw19_DiagramFixes.j2 kj23 t881 bt926.1 true)))) = some r := by first | (rw [hy923]; with_reducible exact H) | (have H2_ := (Option.bind_some _ _).symm.trans H; rw [hy923]; with_reducible exact H2_) | (have H2_ := (Option.bind_some _ _).symm.trans H; with_reducible exact H2_) | with_reducible exact H | (rw [hy923]; exact H) | exact H
        have Ny923 := Aside0.mk hy923
        clear hy923
        replace H := Option.bind_eq_some_iff.mp H
        obtain ⟨⟨t924, t925⟩, A850, H⟩ := H
        replace H : ((diagram_Sites.f t895).bind fun bt926 => (if t922 = 0 then (if t925 = 0 then (if bt926.2 = 0 then (exactppllaw19_DiagramFixes.j2 kj23 t881 bt926.1 (t921 != t924)) else (exactppllaw19_DiagramFixes.j2 kj23 t881 bt926.1 true)) else (exactppllaw19_DiagramFixes.j2 kj23 t881 bt926.1 true)) else (exactppllaw19_DiagramFixes.j2 kj23 t881 bt926.1 true))) = some r := H
        have A85 := Aside0.mk A850
        clear A850
        replace H := Option.bind_eq_some_iff.mp H
        obtain ⟨⟨t926, t929⟩, A860, H⟩ := H
        replace H : (if t922 = 0 then (if t925 = 0 then (if t929 = 0 then (exactppllaw19_DiagramFixes.j2 kj23 t881 t926 (t921 != t924)) else (exactppllaw19_DiagramFixes.j2 kj23 t881 t926 true)) else (exactppllaw19_DiagramFixes.j2 kj23 t881 t926 true)) else (exactppllaw19_DiagramFixes.j2 kj23 t881 t926 true)) = some r := H
        have A86 := Aside0.mk A860
        clear A860
        have HC87 := Aside0.mk H
        clear H
        go_upto_region 18 with (first | ((with_reducible refine gate_callee (f := 24) rfl ?_); refine goesL_ (some 93) rfl rfl Tryd.func24 (by kernel_rfl) rfl #[.pointer (some ⟨g874, 0, none⟩), .int .i64 4] rfl (by (try simp only [List.map_toArray, List.map_cons, List.map_nil]); first | done | rfl | (simp only [List.length_drop, List.length_take]; rfl)) ?_; (with_reducible refine (exactpplmake_Src_Outcomes.calls kj23 g874 t871 t893 t894 4 t916 t919 t920 w _ ?side1 ?side2 A80.out).mono ?_); (case side1 => repeat (first | (with_reducible first | exact HI874.out | apply IsS58.alloc | apply IsS58.drewN | apply IsS58.drew | apply IsS58.set_1 | apply IsS58.set_2 | refine IsS58.far ?_ NB874_880.out _ | refine IsS58.far ?_ NB874_899.out _ | refine IsS58.far ?_ NB874_904.out _ | refine IsS58.far ?_ NB874_909.out _ | refine IsS58.far ?_ NB874_914.out _) | exact HI874.out)); (case side2 => repeat (first | (with_reducible first | exact HB.out | apply below_alloc | apply pw_below_drewN | apply below_drew1 | refine below_set ?_ (IsS58.ge HI874.out) | refine below_set ?_ GE880.out | refine below_set ?_ GE899.out | refine below_set ?_ GE904.out | refine below_set ?_ GE909.out | refine below_set ?_ GE914.out) | exact HB.out)); rintro e w88 ⟨v917, rfl, ho0, hi, hb, hk⟩; refine ⟨_, rfl, ?_⟩; have HO918 := Aside0.mk (Kd.R_lower ho0 (below_size bl_)); replace HO_881000 := Aside0.mk (Kd.V_mono (Kd.V_told (Kd.V_oldK (Kd.V_mono (ok := fun k_ => (k_ ≠ gb880 ∧ (k_ ≠ gb899 ∧ (k_ ≠ gb904 ∧ (k_ ≠ gb909 ∧ (k_ ≠ gb914 ∧ k_ ≠ g874)))))) (by (with_reducible repeat (first | apply Kd.V_alloc | apply Kd.V_drewN | apply Kd.V_drew)); (first | exact HO_881000.out | exact Kd.V_mono HO_881000.out (fun _ h_ => ⟨h_.2, h_.1⟩))) (fun k_ hk_ => (⟨hk_, hk_.2.2.2.2.2⟩ : _ ∧ k_ ≠ g874))) hk) (Kd.R_base ho0)) (fun _ h_ => h_.1)); replace HO_900000 := Aside0.mk (Kd.V_mono (Kd.V_told (Kd.V_oldK (Kd.V_mono (ok := fun k_ => (k_ ≠ gb880 ∧ (k_ ≠ gb899 ∧ (k_ ≠ gb904 ∧ (k_ ≠ gb909 ∧ (k_ ≠ gb914 ∧ k_ ≠ g874)))))) (pV_ HO_900000.out) (fun k_ hk_ => (⟨hk_, hk_.2.2.2.2.2⟩ : _ ∧ k_ ≠ g874))) hk) (Kd.R_base ho0)) (fun _ h_ => h_.1)); replace HO_905000 := Aside0.mk (Kd.V_mono (Kd.V_told (Kd.V_oldK (Kd.V_mono (ok := fun k_ => (k_ ≠ gb880 ∧ (k_ ≠ gb899 ∧ (k_ ≠ gb904 ∧ (k_ ≠ gb909 ∧ (k_ ≠ gb914 ∧ k_ ≠ g874)))))) (pV_ HO_905000.out) (fun k_ hk_ => (⟨hk_, hk_.2.2.2.2.2⟩ : _ ∧ k_ ≠ g874))) hk) (Kd.R_base ho0)) (fun _ h_ => h_.1)); replace HO_910000 := Aside0.mk (Kd.V_mono (Kd.V_told (Kd.V_oldK (Kd.V_mono (ok := fun k_ => (k_ ≠ gb880 ∧ (k_ ≠ gb899 ∧ (k_ ≠ gb904 ∧ (k_ ≠ gb909 ∧ (k_ ≠ gb914 ∧ k_ ≠ g874)))))) (pV_ HO_910000.out) (fun k_ hk_ => (⟨hk_, hk_.2.2.2.2.2⟩ : _ ∧ k_ ≠ g874))) hk) (Kd.R_base ho0)) (fun _ h_ => h_.1)); replace HO_915000 := Aside0.mk (Kd.V_mono (Kd.V_told (Kd.V_oldK (Kd.V_mono (ok := fun k_ => (k_ ≠ gb880 ∧ (k_ ≠ gb899 ∧ (k_ ≠ gb904 ∧ (k_ ≠ gb909 ∧ (k_ ≠ gb914 ∧ k_ ≠ g874)))))) (pV_ HO_915000.out) (fun k_ hk_ => (⟨hk_, hk_.2.2.2.2.2⟩ : _ ∧ k_ ≠ g874))) hk) (Kd.R_base ho0)) (fun _ h_ => h_.1)); replace BK880 := Aside0.mk (KeepBut.blk hk (g' := gb880) (o := .cells #[.slice Ao10 t875.length co10] 31 (0, 0)) bk_ NB880_874.out (by simp)); replace BK899 := Aside0.mk (KeepBut.blk hk (g' := gb899) (o := .cells #[.slice Ao31 t895.length co31] 31 (0, 0)) bk_ NB899_874.out (by simp)); replace BK904 := Aside0.mk (KeepBut.blk hk (g' := gb904) (o := .cells #[.slice Ao38 t900.length co38] 31 (0, 0)) bk_ NB904_874.out (by simp)); replace BK909 := Aside0.mk (KeepBut.blk hk (g' := gb909) (o := .cells #[.slice Ao46 t905.length co46] 31 (0, 0)) bk_ NB909_874.out (by simp)); replace BK914 := Aside0.mk (KeepBut.blk hk (g' := gb914) (o := .cells #[.slice Ao55 t910.length co55] 31 (0, 0)) bk_ NB914_874.out (by simp)); replace HB := Aside0.mk (hb); replace HI874 := Aside0.mk (hi); (try clear hb); (try clear hb2); (try clear hk); (try clear hi); (try clear ho0); have hnb89 := NB899_880.out; have hnc89 := NB880_899.out; have hnb90 := NB899_904.out; have hnc90 := NB904_899.out; have hnb91 := NB899_909.out; have hnc91 := NB909_899.out; have hnb92 := NB899_914.out; have hnc92 := NB914_899.out; have hnb93 := NB899_874.out; have hnc93 := NB874_899.out; obtain ⟨hcz94_0, hfz94_0⟩ := cf1_ BK899.out; obtain ⟨Ao95, co95, eo95⟩ := Kd.R_slice HO918.out; subst eo95) | ((with_reducible refine gate_callee (f := 26) rfl ?_); refine goesL_ (some 97) rfl rfl Tryd.func26 (by kernel_rfl) rfl #[.agg #[.slice Ao31 t895.length co31], .slice Ao95 t916.length co95] rfl (by (try simp only [List.map_toArray, List.map_cons, List.map_nil]); first | done | rfl | (simp only [List.length_drop, List.length_take]; rfl)) ?_; (with_reducible refine (diagram_Eval.calls _ _ t895 _ _ t916 t921 t922 _ ?side1 ?side2 ?side3 ?side4 A81.out ?tab).mono ?_); (case tab => exact ptab HTAB.out bl_); (case side1 => repeat (first | exact (Kd.V_reads' HO_900000.out).2.2 | (with_reducible refine Kd.C_alloc ?_ _) | (with_reducible refine Kd.C_drewN ?_ _) | (with_reducible refine Kd.C_drew ?_))); (case side2 => exact (Kd.V_reads' HO_900000.out).2.1); (case side3 => repeat (first | exact (Kd.R_reads' HO918.out).2.2 | (with_reducible refine Kd.C_alloc ?_ _) | (with_reducible refine Kd.C_drewN ?_ _) | (with_reducible refine Kd.C_drew ?_))); (case side4 => exact (Kd.R_reads' HO918.out).2.1); rintro e w96 ⟨rfl, hb⟩; refine ⟨_, rfl, ?_⟩; replace HO_881000 := Aside0.mk (Kd.V_below (by (with_reducible repeat (first | apply Kd.V_alloc | apply Kd.V_drewN | apply Kd.V_drew)); (first | exact HO_881000.out | exact Kd.V_mono HO_881000.out (fun _ h_ => ⟨h_.2, h_.1⟩))) hb); replace HO_900000 := Aside0.mk (Kd.V_below (pV_ HO_900000.out) hb); replace HO_905000 := Aside0.mk (Kd.V_below (pV_ HO_905000.out) hb); replace HO_910000 := Aside0.mk (Kd.V_below (pV_ HO_910000.out) hb); replace HO_915000 := Aside0.mk (Kd.V_below (pV_ HO_915000.out) hb); replace HO918 := Aside0.mk (Kd.R_below (pR_ HO918.out) hb); replace BK880 := Aside0.mk (blk_below (g := gb880) (o := .cells #[.slice Ao10 t875.length co10] 31 (0, 0)) bk_ hb); replace BK899 := Aside0.mk (blk_below (g := gb899) (o := .cells #[.slice Ao31 t895.length co31] 31 (0, 0)) bk_ hb); replace BK904 := Aside0.mk (blk_below (g := gb904) (o := .cells #[.slice Ao38 t900.length co38] 31 (0, 0)) bk_ hb); replace BK909 := Aside0.mk (blk_below (g := gb909) (o := .cells #[.slice Ao46 t905.length co46] 31 (0, 0)) bk_ hb); replace BK914 := Aside0.mk (blk_below (g := gb914) (o := .cells #[.slice Ao55 t910.length co55] 31 (0, 0)) bk_ hb); replace HI874 := Aside0.mk (IsS58.below si_ hb); replace HB := Aside0.mk (below_step bl_ hb); (try clear hb); (try clear hb2); (try clear hk); (try clear hi); have p84 : 0 ≤ (t881 : Int) := dt_; have q84 : (t881 : Int) < ((t916.length : Int) : Int) := dt_; obtain ⟨go84, co84, eo84, gb84, gl84, cl84, HG84⟩ := Kd.R_form HO918.out (by omega); (first | cases eo84 | (injection eo84 with ea_ en_ ec_; (first | subst ea_ | (injection ea_ with ea_; subst ea_)); subst ec_; clear en_)); have GB84 := Aside0.mk gb84; have GG84 := Aside0.mk HG84; clear gb84 gl84 HG84; obtain ⟨hx84_0, hf84_0⟩ := Kd.R_celln 0 HO918.out (t881 : Int) p84 q84; replace p84 := eq_true p84; replace q84 := eq_true q84; obtain ⟨hy97_, hz97_⟩ := Kd.R_celln 0 HO918.out (t881 : Int) (dt_) (dt_); have HP97 := Kd.R_putg HO918.out (t881 : Int) t888) | ((with_reducible refine gate_store (t := 3) (p := 103) rfl ?_); refine store_event (t := 3) (p := 103) (v := ?vo_w98) (w1 := (w96.setCell ⟨go84, (t881 : Int).toNat, none⟩ (.int .i64 t888))) ?hg ?ho ?hn ?hr ?_; (case ho => rfl); (case hg => rfl); (case hn => rfl); (case hr => first | (go_simp; done) | (go_simp; rfl)); intro w98 hw; have hg : w96.grownBy w98 (some go84) := (by rw [hw]; exact HP97.2); have hp_ : Kd.R (Kd.int .i64) 3 w98 w.heap.size (fun _ => True) (.slice (some ⟨go84, 0, none⟩) t916.length co95) y923 := (by rw [hw, Ny923.out]; exact HP97.1); clear HP97; replace HO_881000 := Aside0.mk (Kd.V_afterv (v := (.slice (some ⟨go84, 0, none⟩) t916.length co95)) (v1 := (.slice (some ⟨go84, 0, none⟩) t916.length co95)) (ok := (fun k_ => k_ ≠ gb880 ∧ k_ ≠ gb899 ∧ k_ ≠ gb904 ∧ k_ ≠ gb909 ∧ k_ ≠ gb914 ∧ k_ ≠ g874)) (by (with_reducible repeat (first | apply Kd.V_alloc | apply Kd.V_drewN | apply Kd.V_drew)); (first | exact HO_881000.out | exact Kd.V_mono HO_881000.out (fun _ h_ => ⟨h_.2, h_.1⟩))) hg (.inl rfl)); replace HO_900000 := Aside0.mk (Kd.V_afterv (v := (.slice (some ⟨go84, 0, none⟩) t916.length co95)) (v1 := (.slice (some ⟨go84, 0, none⟩) t916.length co95)) (ok := (fun k_ => k_ ≠ gb880 ∧ k_ ≠ gb899 ∧ k_ ≠ gb904 ∧ k_ ≠ gb909 ∧ k_ ≠ gb914 ∧ k_ ≠ g874)) (pV_ HO_900000.out) hg (.inl rfl)); replace HO_905000 := Aside0.mk (Kd.V_afterv (v := (.slice (some ⟨go84, 0, none⟩) t916.length co95)) (v1 := (.slice (some ⟨go84, 0, none⟩) t916.length co95)) (ok := (fun k_ => k_ ≠ gb880 ∧ k_ ≠ gb899 ∧ k_ ≠ gb904 ∧ k_ ≠ gb909 ∧ k_ ≠ gb914 ∧ k_ ≠ g874)) (pV_ HO_905000.out) hg (.inl rfl)); replace HO_910000 := Aside0.mk (Kd.V_afterv (v := (.slice (some ⟨go84, 0, none⟩) t916.length co95)) (v1 := (.slice (some ⟨go84, 0, none⟩) t916.length co95)) (ok := (fun k_ => k_ ≠ gb880 ∧ k_ ≠ gb899 ∧ k_ ≠ gb904 ∧ k_ ≠ gb909 ∧ k_ ≠ gb914 ∧ k_ ≠ g874)) (pV_ HO_910000.out) hg (.inl rfl)); replace HO_915000 := Aside0.mk (Kd.V_afterv (v := (.slice (some ⟨go84, 0, none⟩) t916.length co95)) (v1 := (.slice (some ⟨go84, 0, none⟩) t916.length co95)) (ok := (fun k_ => k_ ≠ gb880 ∧ k_ ≠ gb899 ∧ k_ ≠ gb904 ∧ k_ ≠ gb909 ∧ k_ ≠ gb914 ∧ k_ ≠ g874)) (pV_ HO_915000.out) hg (.inl rfl)); replace BK880 := Aside0.mk (blk_grown (g := gb880) (o := .cells #[.slice Ao10 t875.length co10] 31 (0, 0)) bk_ hg (Kd.R_ne HO918.out BK880.out (by decide))); replace BK899 := Aside0.mk (blk_grown (g := gb899) (o := .cells #[.slice Ao31 t895.length co31] 31 (0, 0)) bk_ hg (Kd.R_ne HO918.out BK899.out (by decide))); replace BK904 := Aside0.mk (blk_grown (g := gb904) (o := .cells #[.slice Ao38 t900.length co38] 31 (0, 0)) bk_ hg (Kd.R_ne HO918.out BK904.out (by decide))); replace BK909 := Aside0.mk (blk_grown (g := gb909) (o := .cells #[.slice Ao46 t905.length co46] 31 (0, 0)) bk_ hg (Kd.R_ne HO918.out BK909.out (by decide))); replace BK914 := Aside0.mk (blk_grown (g := gb914) (o := .cells #[.slice Ao55 t910.length co55] 31 (0, 0)) bk_ hg (Kd.R_ne HO918.out BK914.out (by decide))); replace HI874 := Aside0.mk (IsS58.grown si_ hg (IsS58.own_ne HI874.out HO918.out (by decide))); replace HO918 := Aside0.mk (hp_); replace HB := Aside0.mk ((by rw [hw]; exact below_set (HB.out) GB84.out : Below w.heap.size w w98)); clear hg hw hp_; have hnb99 := NB880_904.out; have hnc99 := NB904_880.out; have hnb100 := NB880_909.out; have hnc100 := NB909_880.out; have hnb101 := NB880_914.out; have hnc101 := NB914_880.out; have hnb102 := NB880_874.out; have hnc102 := NB874_880.out; obtain ⟨hcz103_0, hfz103_0⟩ := cf1_ BK880.out) | ((with_reducible refine gate_callee (f := 26) rfl ?_); refine goesL_ (some 107) rfl rfl Tryd.func26 (by kernel_rfl) rfl #[.agg #[.slice Ao10 t875.length co10], .slice (some ⟨go84, 0, none⟩) y923.length co95] rfl (by (try simp only [List.map_toArray, List.map_cons, List.map_nil]); first | done | (rw [show y923.length = t916.length from (Kd.R_reads' HO918.out).1.symm] <;> rfl) | rfl | (simp only [List.length_drop, List.length_take]; rfl)) ?_; (with_reducible refine (diagram_Eval.calls _ _ t875 _ _ y923 t924 t925 _ ?side1 ?side2 ?side3 ?side4 A85.out ?tab).mono ?_); (case tab => exact ptab HTAB.out bl_); (case side1 => repeat (first | exact (Kd.V_reads' HO_881000.out).2.2 | (with_reducible refine Kd.C_alloc ?_ _) | (with_reducible refine Kd.C_drewN ?_ _) | (with_reducible refine Kd.C_drew ?_))); (case side2 => exact (Kd.V_reads' HO_881000.out).2.1); (case side3 => repeat (first | exact (Kd.R_reads' HO918.out).2.2 | (with_reducible refine Kd.C_alloc ?_ _) | (with_reducible refine Kd.C_drewN ?_ _) | (with_reducible refine Kd.C_drew ?_))); (case side4 => rw [show y923.length = t916.length from (Kd.R_reads' HO918.out).1.symm]; exact (Kd.R_reads' HO918.out).2.1); rintro e w104 ⟨rfl, hb⟩; refine ⟨_, rfl, ?_⟩; replace HO_881000 := Aside0.mk (Kd.V_below (by (with_reducible repeat (first | apply Kd.V_alloc | apply Kd.V_drewN | apply Kd.V_drew)); (first | exact HO_881000.out | exact Kd.V_mono HO_881000.out (fun _ h_ => ⟨h_.2, h_.1⟩))) hb); replace HO_900000 := Aside0.mk (Kd.V_below (pV_ HO_900000.out) hb); replace HO_905000 := Aside0.mk (Kd.V_below (pV_ HO_905000.out) hb); replace HO_910000 := Aside0.mk (Kd.V_below (pV_ HO_910000.out) hb); replace HO_915000 := Aside0.mk (Kd.V_below (pV_ HO_915000.out) hb); replace HO918 := Aside0.mk (Kd.R_below (pR_ HO918.out) hb); replace BK880 := Aside0.mk (blk_below (g := gb880) (o := .cells #[.slice Ao10 t875.length co10] 31 (0, 0)) bk_ hb); replace BK899 := Aside0.mk (blk_below (g := gb899) (o := .cells #[.slice Ao31 t895.length co31] 31 (0, 0)) bk_ hb); replace BK904 := Aside0.mk (blk_below (g := gb904) (o := .cells #[.slice Ao38 t900.length co38] 31 (0, 0)) bk_ hb); replace BK909 := Aside0.mk (blk_below (g := gb909) (o := .cells #[.slice Ao46 t905.length co46] 31 (0, 0)) bk_ hb); replace BK914 := Aside0.mk (blk_below (g := gb914) (o := .cells #[.slice Ao55 t910.length co55] 31 (0, 0)) bk_ hb); replace HI874 := Aside0.mk (IsS58.below si_ hb); replace HB := Aside0.mk (below_step bl_ hb); (try clear hb); (try clear hb2); (try clear hk); (try clear hi); obtain ⟨hcz105_0, hfz105_0⟩ := cf1_ BK899.out) | ((with_reducible refine gate_callee (f := 37) rfl ?_); refine goesL_ (some 112) rfl rfl Tryd.func37 (by kernel_rfl) rfl #[.agg #[.slice Ao31 t895.length co31]] rfl (by (try simp only [List.map_toArray, List.map_cons, List.map_nil]); first | done | rfl | (simp only [List.length_drop, List.length_take]; rfl)) ?_; (with_reducible refine (diagram_Sites.calls _ _ t895 t926 t929 _ ?side1 ?side2 A86.out ?tab).mono ?_); (case tab => exact ptab HTAB.out bl_); (case side1 => repeat (first | exact (Kd.V_reads' HO_900000.out).2.2 | (with_reducible refine Kd.C_alloc ?_ _) | (with_reducible refine Kd.C_drewN ?_ _) | (with_reducible refine Kd.C_drew ?_))); (case side2 => exact (Kd.V_reads' HO_900000.out).2.1); rintro e w106 ⟨v927, rfl, ho0, hb⟩; refine ⟨_, rfl, ?_⟩; have HO928 := Aside0.mk (Kd.R_lower (Kd.R_new' ho0 (Kd.R_lt (pR_ HO918.out))) (below_size bl_)); replace HO_881000 := Aside0.mk (Kd.V_elder' (by (with_reducible repeat (first | apply Kd.V_alloc | apply Kd.V_drewN | apply Kd.V_drew)); (first | exact HO_881000.out | exact Kd.V_mono HO_881000.out (fun _ h_ => ⟨h_.2, h_.1⟩))) (Kd.R_base ho0) hb); replace HO_900000 := Aside0.mk (Kd.V_elder' (pV_ HO_900000.out) (Kd.R_base ho0) hb); replace HO_905000 := Aside0.mk (Kd.V_elder' (pV_ HO_905000.out) (Kd.R_base ho0) hb); replace HO_910000 := Aside0.mk (Kd.V_elder' (pV_ HO_910000.out) (Kd.R_base ho0) hb); replace HO_915000 := Aside0.mk (Kd.V_elder' (pV_ HO_915000.out) (Kd.R_base ho0) hb); replace HO918 := Aside0.mk (Kd.R_elder' (pR_ HO918.out) (Kd.R_base ho0) hb); replace BK880 := Aside0.mk (blk_below (g := gb880) (o := .cells #[.slice Ao10 t875.length co10] 31 (0, 0)) bk_ hb); replace BK899 := Aside0.mk (blk_below (g := gb899) (o := .cells #[.slice Ao31 t895.length co31] 31 (0, 0)) bk_ hb); replace BK904 := Aside0.mk (blk_below (g := gb904) (o := .cells #[.slice Ao38 t900.length co38] 31 (0, 0)) bk_ hb); replace BK909 := Aside0.mk (blk_below (g := gb909) (o := .cells #[.slice Ao46 t905.length co46] 31 (0, 0)) bk_ hb); replace BK914 := Aside0.mk (blk_below (g := gb914) (o := .cells #[.slice Ao55 t910.length co55] 31 (0, 0)) bk_ hb); replace HI874 := Aside0.mk (IsS58.below si_ hb); replace HB := Aside0.mk (below_step bl_ hb); (try clear hb); (try clear hb2); (try clear hk); (try clear hi); (try clear ho0)))
        (try simp only [Act.put, List.setIfInBounds_toArray, List.set_cons_zero, List.set_cons_succ])
        go_cut [129] (fun v129 wc => ∃ (kq : Nat) (x129_86 : Bool), v129 = .bool x129_86 ∧ Aside0 (exactppllaw19_DiagramFixes.j2 kq t881 t926 x129_86 = some r) ∧ Aside0 (kq ≤ kj23) ∧ Aside0 (Kd.R (Kd.int .i64) 3 wc w.heap.size (fun _ => True) v927 t926) ∧ Aside0 (Kd.V k60 60 wc w.heap.size (fun k_ => some k_ ≠ (v927 : Value).ownBlock ∧ k_ ≠ gb880 ∧ k_ ≠ gb899 ∧ k_ ≠ gb904 ∧ k_ ≠ gb909 ∧ k_ ≠ gb914) (.slice Ao10 t875.length co10) t875) ∧ Aside0 (Kd.V k60 60 wc w.heap.size (fun k_ => some k_ ≠ (v927 : Value).ownBlock ∧ k_ ≠ gb880 ∧ k_ ≠ gb899 ∧ k_ ≠ gb904 ∧ k_ ≠ gb909 ∧ k_ ≠ gb914) (.slice Ao31 t895.length co31) t895) ∧ Aside0 (Kd.V k60 60 wc w.heap.size (fun k_ => some k_ ≠ (v927 : Value).ownBlock ∧ k_ ≠ gb880 ∧ k_ ≠ gb899 ∧ k_ ≠ gb904 ∧ k_ ≠ gb909 ∧ k_ ≠ gb914) (.slice Ao38 t900.length co38) t900) ∧ Aside0 (Kd.V k60 60 wc w.heap.size (fun k_ => some k_ ≠ (v927 : Value).ownBlock ∧ k_ ≠ gb880 ∧ k_ ≠ gb899 ∧ k_ ≠ gb904 ∧ k_ ≠ gb909 ∧ k_ ≠ gb914) (.slice Ao46 t905.length co46) t905) ∧ Aside0 (Kd.V k60 60 wc w.heap.size (fun k_ => some k_ ≠ (v927 : Value).ownBlock ∧ k_ ≠ gb880 ∧ k_ ≠ gb899 ∧ k_ ≠ gb904 ∧ k_ ≠ gb909 ∧ k_ ≠ gb914) (.slice Ao55 t910.length co55) t910) ∧ Aside0 (wc.heap[gb880]? = some (.cells #[(.slice Ao10 t875.length co10)] 31 (0, 0))) ∧ Aside0 (wc.heap[gb899]? = some (.cells #[(.slice Ao31 t895.length co31)] 31 (0, 0))) ∧ Aside0 (wc.heap[gb904]? = some (.cells #[(.slice Ao38 t900.length co38)] 31 (0, 0))) ∧ Aside0 (wc.heap[gb909]? = some (.cells #[(.slice Ao46 t905.length co46)] 31 (0, 0))) ∧ Aside0 (wc.heap[gb914]? = some (.cells #[(.slice Ao55 t910.length co55)] 31 (0, 0))) ∧ Aside0 (Below w.heap.size w wc))
        case first =>
         have H := HC87.out
         clear HC87
         by_cases c107 : t922 = 0
         ·rw [if_pos c107] at H
          have c107b0 : (t922 == 0) = true := beq_iff_eq.mpr c107
          have c107b1 : (t922 != 0) = false := bne_eq_false_iff_eq.mpr c107
          clear c107
          (first | rw [c107b0] | (simp only [i64_w, i32_w]; rw [c107b0]) | skip)
          by_cases c108 : t925 = 0
          ·rw [if_pos c108] at H
           have c108b0 : (t925 == 0) = true := beq_iff_eq.mpr c108
           have c108b1 : (t925 != 0) = false := bne_eq_false_iff_eq.mpr c108
           clear c108
           by_cases c109 : t929 = 0
           ·rw [if_pos c109] at H
            have c109b0 : (t929 == 0) = true := beq_iff_eq.mpr c109
            have c109b1 : (t929 != 0) = false := bne_eq_false_iff_eq.mpr c109
            clear c109
            have H' := Aside0.mk H
            clear H
            go_wp2
            go_meet
            case rel => exact ⟨_, ((t921 != t924)), rs_, H', ⟨by have := HJ5.out; have := HJ23.out; first | omega | exact Nat.le_refl _⟩, ⟨by (with_reducible repeat (first | apply Kd.R_alloc | apply Kd.R_drewN | apply Kd.R_drew)); exact Kd.R_mono HO928.out (fun _ hk => trivial)⟩, ⟨by (with_reducible repeat (first | apply Kd.V_alloc | apply Kd.V_drewN | apply Kd.V_drew)); exact Kd.V_mono HO_881000.out (fun _ hk => ⟨hk.2, ⟨hk.1.1.1, ⟨hk.1.1.2.1, ⟨hk.1.1.2.2.1, ⟨hk.1.1.2.2.2.1, hk.1.1.2.2.2.2.1⟩⟩⟩⟩⟩)⟩, ⟨by (with_reducible repeat (first | apply Kd.V_alloc | apply Kd.V_drewN | apply Kd.V_drew)); exact Kd.V_mono HO_900000.out (fun _ hk => ⟨hk.2, ⟨hk.1.1.1, ⟨hk.1.1.2.1, ⟨hk.1.1.2.2.1, ⟨hk.1.1.2.2.2.1, hk.1.1.2.2.2.2.1⟩⟩⟩⟩⟩)⟩, ⟨by (with_reducible repeat (first | apply Kd.V_alloc | apply Kd.V_drewN | apply Kd.V_drew)); exact Kd.V_mono HO_905000.out (fun _ hk => ⟨hk.2, ⟨hk.1.1.1, ⟨hk.1.1.2.1, ⟨hk.1.1.2.2.1, ⟨hk.1.1.2.2.2.1, hk.1.1.2.2.2.2.1⟩⟩⟩⟩⟩)⟩, ⟨by (with_reducible repeat (first | apply Kd.V_alloc | apply Kd.V_drewN | apply Kd.V_drew)); exact Kd.V_mono HO_910000.out (fun _ hk => ⟨hk.2, ⟨hk.1.1.1, ⟨hk.1.1.2.1, ⟨hk.1.1.2.2.1, ⟨hk.1.1.2.2.2.1, hk.1.1.2.2.2.2.1⟩⟩⟩⟩⟩)⟩, ⟨by (with_reducible repeat (first | apply Kd.V_alloc | apply Kd.V_drewN | apply Kd.V_drew)); exact Kd.V_mono HO_915000.out (fun _ hk => ⟨hk.2, ⟨hk.1.1.1, ⟨hk.1.1.2.1, ⟨hk.1.1.2.2.1, ⟨hk.1.1.2.2.2.1, hk.1.1.2.2.2.2.1⟩⟩⟩⟩⟩)⟩, ⟨bk_⟩, ⟨bk_⟩, ⟨bk_⟩, ⟨bk_⟩, ⟨bk_⟩, ⟨bl_⟩⟩
           ·rw [if_neg c109] at H
            have c109b0 : (t929 == 0) = false := beq_eq_false_iff_ne.mpr c109
            have c109b1 : (t929 != 0) = true := bne_iff_ne.mpr c109
            have H' := Aside0.mk H
            clear H
            go_wp2
            go_meet
            case rel => exact ⟨_, (true), rs_, H', ⟨by have := HJ5.out; have := HJ23.out; first | omega | exact Nat.le_refl _⟩, ⟨by (with_reducible repeat (first | apply Kd.R_alloc | apply Kd.R_drewN | apply Kd.R_drew)); exact Kd.R_mono HO928.out (fun _ hk => trivial)⟩, ⟨by (with_reducible repeat (first | apply Kd.V_alloc | apply Kd.V_drewN | apply Kd.V_drew)); exact Kd.V_mono HO_881000.out (fun _ hk => ⟨hk.2, ⟨hk.1.1.1, ⟨hk.1.1.2.1, ⟨hk.1.1.2.2.1, ⟨hk.1.1.2.2.2.1, hk.1.1.2.2.2.2.1⟩⟩⟩⟩⟩)⟩, ⟨by (with_reducible repeat (first | apply Kd.V_alloc | apply Kd.V_drewN | apply Kd.V_drew)); exact Kd.V_mono HO_900000.out (fun _ hk => ⟨hk.2, ⟨hk.1.1.1, ⟨hk.1.1.2.1, ⟨hk.1.1.2.2.1, ⟨hk.1.1.2.2.2.1, hk.1.1.2.2.2.2.1⟩⟩⟩⟩⟩)⟩, ⟨by (with_reducible repeat (first | apply Kd.V_alloc | apply Kd.V_drewN | apply Kd.V_drew)); exact Kd.V_mono HO_905000.out (fun _ hk => ⟨hk.2, ⟨hk.1.1.1, ⟨hk.1.1.2.1, ⟨hk.1.1.2.2.1, ⟨hk.1.1.2.2.2.1, hk.1.1.2.2.2.2.1⟩⟩⟩⟩⟩)⟩, ⟨by (with_reducible repeat (first | apply Kd.V_alloc | apply Kd.V_drewN | apply Kd.V_drew)); exact Kd.V_mono HO_910000.out (fun _ hk => ⟨hk.2, ⟨hk.1.1.1, ⟨hk.1.1.2.1, ⟨hk.1.1.2.2.1, ⟨hk.1.1.2.2.2.1, hk.1.1.2.2.2.2.1⟩⟩⟩⟩⟩)⟩, ⟨by (with_reducible repeat (first | apply Kd.V_alloc | apply Kd.V_drewN | apply Kd.V_drew)); exact Kd.V_mono HO_915000.out (fun _ hk => ⟨hk.2, ⟨hk.1.1.1, ⟨hk.1.1.2.1, ⟨hk.1.1.2.2.1, ⟨hk.1.1.2.2.2.1, hk.1.1.2.2.2.2.1⟩⟩⟩⟩⟩)⟩, ⟨bk_⟩, ⟨bk_⟩, ⟨bk_⟩, ⟨bk_⟩, ⟨bk_⟩, ⟨bl_⟩⟩
          ·rw [if_neg c108] at H
           have c108b0 : (t925 == 0) = false := beq_eq_false_iff_ne.mpr c108
           have c108b1 : (t925 != 0) = true := bne_iff_ne.mpr c108
           have H' := Aside0.mk H
           clear H
           go_wp2
           go_meet
           case rel => exact ⟨_, (true), rs_, H', ⟨by have := HJ5.out; have := HJ23.out; first | omega | exact Nat.le_refl _⟩, ⟨by (with_reducible repeat (first | apply Kd.R_alloc | apply Kd.R_drewN | apply Kd.R_drew)); exact Kd.R_mono HO928.out (fun _ hk => trivial)⟩, ⟨by (with_reducible repeat (first | apply Kd.V_alloc | apply Kd.V_drewN | apply Kd.V_drew)); exact Kd.V_mono HO_881000.out (fun _ hk => ⟨hk.2, ⟨hk.1.1.1, ⟨hk.1.1.2.1, ⟨hk.1.1.2.2.1, ⟨hk.1.1.2.2.2.1, hk.1.1.2.2.2.2.1⟩⟩⟩⟩⟩)⟩, ⟨by (with_reducible repeat (first | apply Kd.V_alloc | apply Kd.V_drewN | apply Kd.V_drew)); exact Kd.V_mono HO_900000.out (fun _ hk => ⟨hk.2, ⟨hk.1.1.1, ⟨hk.1.1.2.1, ⟨hk.1.1.2.2.1, ⟨hk.1.1.2.2.2.1, hk.1.1.2.2.2.2.1⟩⟩⟩⟩⟩)⟩, ⟨by (with_reducible repeat (first | apply Kd.V_alloc | apply Kd.V_drewN | apply Kd.V_drew)); exact Kd.V_mono HO_905000.out (fun _ hk => ⟨hk.2, ⟨hk.1.1.1, ⟨hk.1.1.2.1, ⟨hk.1.1.2.2.1, ⟨hk.1.1.2.2.2.1, hk.1.1.2.2.2.2.1⟩⟩⟩⟩⟩)⟩, ⟨by (with_reducible repeat (first | apply Kd.V_alloc | apply Kd.V_drewN | apply Kd.V_drew)); exact Kd.V_mono HO_910000.out (fun _ hk => ⟨hk.2, ⟨hk.1.1.1, ⟨hk.1.1.2.1, ⟨hk.1.1.2.2.1, ⟨hk.1.1.2.2.2.1, hk.1.1.2.2.2.2.1⟩⟩⟩⟩⟩)⟩, ⟨by (with_reducible repeat (first | apply Kd.V_alloc | apply Kd.V_drewN | apply Kd.V_drew)); exact Kd.V_mono HO_915000.out (fun _ hk => ⟨hk.2, ⟨hk.1.1.1, ⟨hk.1.1.2.1, ⟨hk.1.1.2.2.1, ⟨hk.1.1.2.2.2.1, hk.1.1.2.2.2.2.1⟩⟩⟩⟩⟩)⟩, ⟨bk_⟩, ⟨bk_⟩, ⟨bk_⟩, ⟨bk_⟩, ⟨bk_⟩, ⟨bl_⟩⟩
         ·rw [if_neg c107] at H
          have c107b0 : (t922 == 0) = false := beq_eq_false_iff_ne.mpr c107
          have c107b1 : (t922 != 0) = true := bne_iff_ne.mpr c107
          (first | rw [c107b0] | (simp only [i64_w, i32_w]; rw [c107b0]) | skip)
          have H' := Aside0.mk H
          clear H
          go_wp2
          go_meet
          case rel => exact ⟨_, (true), rs_, H', ⟨by have := HJ5.out; have := HJ23.out; first | omega | exact Nat.le_refl _⟩, ⟨by (with_reducible repeat (first | apply Kd.R_alloc | apply Kd.R_drewN | apply Kd.R_drew)); exact Kd.R_mono HO928.out (fun _ hk => trivial)⟩, ⟨by (with_reducible repeat (first | apply Kd.V_alloc | apply Kd.V_drewN | apply Kd.V_drew)); exact Kd.V_mono HO_881000.out (fun _ hk => ⟨hk.2, ⟨hk.1.1.1, ⟨hk.1.1.2.1, ⟨hk.1.1.2.2.1, ⟨hk.1.1.2.2.2.1, hk.1.1.2.2.2.2.1⟩⟩⟩⟩⟩)⟩, ⟨by (with_reducible repeat (first | apply Kd.V_alloc | apply Kd.V_drewN | apply Kd.V_drew)); exact Kd.V_mono HO_900000.out (fun _ hk => ⟨hk.2, ⟨hk.1.1.1, ⟨hk.1.1.2.1, ⟨hk.1.1.2.2.1, ⟨hk.1.1.2.2.2.1, hk.1.1.2.2.2.2.1⟩⟩⟩⟩⟩)⟩, ⟨by (with_reducible repeat (first | apply Kd.V_alloc | apply Kd.V_drewN | apply Kd.V_drew)); exact Kd.V_mono HO_905000.out (fun _ hk => ⟨hk.2, ⟨hk.1.1.1, ⟨hk.1.1.2.1, ⟨hk.1.1.2.2.1, ⟨hk.1.1.2.2.2.1, hk.1.1.2.2.2.2.1⟩⟩⟩⟩⟩)⟩, ⟨by (with_reducible repeat (first | apply Kd.V_alloc | apply Kd.V_drewN | apply Kd.V_drew)); exact Kd.V_mono HO_910000.out (fun _ hk => ⟨hk.2, ⟨hk.1.1.1, ⟨hk.1.1.2.1, ⟨hk.1.1.2.2.1, ⟨hk.1.1.2.2.2.1, hk.1.1.2.2.2.2.1⟩⟩⟩⟩⟩)⟩, ⟨by (with_reducible repeat (first | apply Kd.V_alloc | apply Kd.V_drewN | apply Kd.V_drew)); exact Kd.V_mono HO_915000.out (fun _ hk => ⟨hk.2, ⟨hk.1.1.1, ⟨hk.1.1.2.1, ⟨hk.1.1.2.2.1, ⟨hk.1.1.2.2.2.1, hk.1.1.2.2.2.2.1⟩⟩⟩⟩⟩)⟩, ⟨bk_⟩, ⟨bk_⟩, ⟨bk_⟩, ⟨bk_⟩, ⟨bk_⟩, ⟨bl_⟩⟩
        case rest =>
         clear HC87
         try clear c1
         try clear c2
         try clear p2
         try clear c3
         try clear c4
         try clear c5
         try clear c6
         try clear p6
         try clear c7
         try clear c8
         try clear p8
         try clear q8
         try clear hx8
         try clear hf8
         try clear c9
         try clear c10
         try clear c11
         try clear c12
         try clear c15
         try clear c15b0
         try clear c15b1
         try clear c22
         try clear c23
         try clear c24
         try clear c26
         try clear c27
         try clear c30
         try clear c32
         try clear c33
         try clear c37
         try clear c39
         try clear c40
         try clear c41
         try clear c42
         try clear c47
         try clear c48
         try clear c49
         try clear c50
         try clear c56
         try clear c57
         try clear c58
         try clear c59
         try clear c60
         try clear c62
         try clear c62b0
         try clear c62b1
         try clear c63
         try clear c63b0
         try clear c63b1
         try clear c64
         try clear c64b0
         try clear c64b1
         try clear p64
         try clear c65
         try clear c65b0
         try clear c65b1
         try clear c67
         try clear c68
         try clear c69
         try clear c70
         try clear c71
         try clear c73
         try clear c74
         try clear c75
         try clear c76
         try clear c79
         try clear c82
         try clear c82b0
         try clear c83
         try clear c83b0
         try clear p84
         try clear q84
         try clear hx84
         try clear hf84
         try clear c89
         try clear c90
         try clear c91
         try clear c92
         try clear c93
         try clear c99
         try clear c100
         try clear c101
         try clear c102
         try clear c107
         try clear c107b0
         try clear c107b1
         try clear c108
         try clear c108b0
         try clear c108b1
         try clear c109
         try clear c109b0
         try clear c109b1
         try clear hcz103_0 hfz103_0
         try clear hcz105_0 hfz105_0
         try clear hcz12_0 hfz12_0
         try clear hcz28_0 hfz28_0
         try clear hcz34_0 hfz34_0
         try clear hcz35_0 hfz35_0
         try clear hcz42_0 hfz42_0
         try clear hcz43_0 hfz43_0
         try clear hcz51_0 hfz51_0
         try clear hcz52_0 hfz52_0
         try clear hcz61_0 hfz61_0
         try clear hcz72_0 hfz72_0
         try clear hcz77_0 hfz77_0
         try clear hcz94_0 hfz94_0
         try clear hx84_0
         try clear p2
         try clear p6
         try clear p64
         try clear p84
         try clear q84
         obtain ⟨kq, x129_86, rfl, HA, HJ86, HO_20, HO_881000, HO_900000, HO_905000, HO_910000, HO_915000, BK880, BK899, BK904, BK909, BK914, HB⟩ := hcut
         cases kq with
         | zero => exact absurd HA.out (by simp [exactppllaw19_DiagramFixes.j2])
         | succ kj86 =>
          have H := HA.out
          clear HA
          simp only [exactppllaw19_DiagramFixes.j2] at H
          by_cases c110 : x129_86 = true
          ·subst c110
           have H1 : (some false) = some r := by rw [if_pos rfl] at H; exact H
           clear H
           have H := H1
           clear H1
           obtain rfl := Option.some.inj H
           go_wp2
           go_ret
           exact ⟨re_, bl_⟩
          ·replace c110 := Bool.eq_false_iff.mpr c110
           subst c110
           have H1 : (exactppllaw19_DiagramFixes.l0 kj86 t881 t926 0) = some r := by rw [if_neg (show ¬ (false = true) by decide)] at H; exact H
           clear H
           have H := H1
           clear H1
           have H' := Aside0.mk H
           clear H
           go_wp2
           go_loopg [21] kj86 (fun kq v21 w' => ∃ (x21_4 : Int), v21 = .int .i64 x21_4 ∧ Aside0 (exactppllaw19_DiagramFixes.l0 kq t881 t926 x21_4 = some r) ∧ Aside0 (kq ≤ kj86) ∧ Aside0 (Kd.R (Kd.int .i64) 3 w' w.heap.size (fun _ => True) v927 t926) ∧ Aside0 (Kd.V k60 60 w' w.heap.size (fun k_ => some k_ ≠ (v927 : Value).ownBlock ∧ k_ ≠ gb880 ∧ k_ ≠ gb899 ∧ k_ ≠ gb904 ∧ k_ ≠ gb909 ∧ k_ ≠ gb914) (.slice Ao10 t875.length co10) t875) ∧ Aside0 (Kd.V k60 60 w' w.heap.size (fun k_ => some k_ ≠ (v927 : Value).ownBlock ∧ k_ ≠ gb880 ∧ k_ ≠ gb899 ∧ k_ ≠ gb904 ∧ k_ ≠ gb909 ∧ k_ ≠ gb914) (.slice Ao31 t895.length co31) t895) ∧ Aside0 (Kd.V k60 60 w' w.heap.size (fun k_ => some k_ ≠ (v927 : Value).ownBlock ∧ k_ ≠ gb880 ∧ k_ ≠ gb899 ∧ k_ ≠ gb904 ∧ k_ ≠ gb909 ∧ k_ ≠ gb914) (.slice Ao38 t900.length co38) t900) ∧ Aside0 (Kd.V k60 60 w' w.heap.size (fun k_ => some k_ ≠ (v927 : Value).ownBlock ∧ k_ ≠ gb880 ∧ k_ ≠ gb899 ∧ k_ ≠ gb904 ∧ k_ ≠ gb909 ∧ k_ ≠ gb914) (.slice Ao46 t905.length co46) t905) ∧ Aside0 (Kd.V k60 60 w' w.heap.size (fun k_ => some k_ ≠ (v927 : Value).ownBlock ∧ k_ ≠ gb880 ∧ k_ ≠ gb899 ∧ k_ ≠ gb904 ∧ k_ ≠ gb909 ∧ k_ ≠ gb914) (.slice Ao55 t910.length co55) t910) ∧ Aside0 (w'.heap[gb880]? = some (.cells #[(.slice Ao10 t875.length co10)] 31 (0, 0))) ∧ Aside0 (w'.heap[gb899]? = some (.cells #[(.slice Ao31 t895.length co31)] 31 (0, 0))) ∧ Aside0 (w'.heap[gb904]? = some (.cells #[(.slice Ao38 t900.length co38)] 31 (0, 0))) ∧ Aside0 (w'.heap[gb909]? = some (.cells #[(.slice Ao46 t905.length co46)] 31 (0, 0))) ∧ Aside0 (w'.heap[gb914]? = some (.cells #[(.slice Ao55 t910.length co55)] 31 (0, 0))) ∧ Aside0 (Below w.heap.size w w'))
           case atStart => exact ⟨(0), rs_, H', ⟨Nat.le_refl _⟩, ⟨pR_ HO_20.out⟩, ⟨by (with_reducible repeat (first | apply Kd.V_alloc | apply Kd.V_drewN | apply Kd.V_drew)); (first | exact HO_881000.out | exact Kd.V_mono HO_881000.out (fun _ h_ => ⟨h_.2, h_.1⟩))⟩, ⟨pV_ HO_900000.out⟩, ⟨pV_ HO_905000.out⟩, ⟨pV_ HO_910000.out⟩, ⟨pV_ HO_915000.out⟩, ⟨bk_⟩, ⟨bk_⟩, ⟨bk_⟩, ⟨bk_⟩, ⟨bk_⟩, ⟨bl_⟩⟩
           case round =>
            clear H'
            try clear c1
            try clear c2
            try clear p2
            try clear c3
            try clear c4
            try clear c5
            try clear c6
            try clear p6
            try clear c7
            try clear c8
            try clear p8
            try clear q8
            try clear hx8
            try clear hf8
            try clear c9
            try clear c10
            try clear c11
            try clear c12
            try clear c15
            try clear c15b0
            try clear c15b1
            try clear c22
            try clear c23
            try clear c24
            try clear c26
            try clear c27
            try clear c30
            try clear c32
            try clear c33
            try clear c37
            try clear c39
            try clear c40
            try clear c41
            try clear c42
            try clear c47
            try clear c48
            try clear c49
            try clear c50
            try clear c56
            try clear c57
            try clear c58
            try clear c59
            try clear c60
            try clear c62
            try clear c62b0
            try clear c62b1
            try clear c63
            try clear c63b0
            try clear c63b1
            try clear c64
            try clear c64b0
            try clear c64b1
            try clear p64
            try clear c65
            try clear c65b0
            try clear c65b1
            try clear c67
            try clear c68
            try clear c69
            try clear c70
            try clear c71
            try clear c73
            try clear c74
            try clear c75
            try clear c76
            try clear c79
            try clear c82
            try clear c82b0
            try clear c83
            try clear c83b0
            try clear p84
            try clear q84
            try clear hx84
            try clear hf84
            try clear c89
            try clear c90
            try clear c91
            try clear c92
            try clear c93
            try clear c99
            try clear c100
            try clear c101
            try clear c102
            try clear c107
            try clear c107b0
            try clear c107b1
            try clear c108
            try clear c108b0
            try clear c108b1
            try clear c109
            try clear c109b0
            try clear c109b1
            try clear c110
            try clear hcz103_0 hfz103_0
            try clear hcz105_0 hfz105_0
            try clear hcz12_0 hfz12_0
            try clear hcz28_0 hfz28_0
            try clear hcz34_0 hfz34_0
            try clear hcz35_0 hfz35_0
            try clear hcz42_0 hfz42_0
            try clear hcz43_0 hfz43_0
            try clear hcz51_0 hfz51_0
            try clear hcz52_0 hfz52_0
            try clear hcz61_0 hfz61_0
            try clear hcz72_0 hfz72_0
            try clear hcz77_0 hfz77_0
            try clear hcz94_0 hfz94_0
            try clear hx84_0
            try clear p2
            try clear p6
            try clear p64
            try clear p8
            try clear p84
            try clear q8
            try clear q84
            obtain ⟨x21_4, rfl, HA, HK4, HO_20, HO_881000, HO_900000, HO_905000, HO_910000, HO_915000, BK880, BK899, BK904, BK909, BK914, HB⟩ := hrel
            cases gk with
            | zero => exact absurd HA.out (by simp [exactppllaw19_DiagramFixes.l0])
            | succ k4 =>
             have H := HA.out
             clear HA
             simp only [exactppllaw19_DiagramFixes.l0] at H
             by_cases c111 : x21_4 < (t926.length : Int)
             ·rw [if_pos c111] at H
              have c111b0 : decide (x21_4 < (t926.length : Int)) = true := decide_eq_true c111
              clear c111
              by_cases c112 : 0 ≤ x21_4
              ·rw [if_pos c112] at H
               have c112b0 : decide (0 ≤ x21_4) = true := decide_eq_true c112
               clear c112
               by_cases c113 : (rd t926 x21_4) = t881
               ·rw [if_pos c113] at H
                have c113b0 : ((rd t926 x21_4) == t881) = true := beq_iff_eq.mpr c113
                have c113b1 : ((rd t926 x21_4) != t881) = false := bne_eq_false_iff_eq.mpr c113
                clear c113
                obtain rfl := Option.some.inj H
                obtain ⟨Ao114, co114, eo114⟩ := Kd.R_slice HO_20.out
                subst eo114
                have p930 : 0 ≤ (x21_4 : Int) := dt_
                have q930 : x21_4 < (t926.length : Int) := dt_
                obtain ⟨ad930, e930, hx930_0⟩ := Kd.at_int (Kd.R_reads' HO_20.out).2.2 x21_4 p930 q930
                cases e930
                replace p930 := eq_true p930
                replace q930 := eq_true q930
                go_wp2
                go_ret
                exact ⟨re_, bl_⟩
               ·rw [if_neg c113] at H
                have c113b0 : ((rd t926 x21_4) == t881) = false := beq_eq_false_iff_ne.mpr c113
                have c113b1 : ((rd t926 x21_4) != t881) = true := bne_iff_ne.mpr c113
                have H' := Aside0.mk H
                clear H
                obtain ⟨Ao115, co115, eo115⟩ := Kd.R_slice HO_20.out
                subst eo115
                have p930 : 0 ≤ (x21_4 : Int) := dt_
                have q930 : x21_4 < (t926.length : Int) := dt_
                obtain ⟨ad930, e930, hx930_0⟩ := Kd.at_int (Kd.R_reads' HO_20.out).2.2 x21_4 p930 q930
                cases e930
                replace p930 := eq_true p930
                replace q930 := eq_true q930
                go_wp2
                go_roundg k4
                case measure => have := HJ5.out; have := HJ23.out; have := HJ86.out; have := HK4.out; omega
                case rel => exact ⟨(wrap64 (x21_4 + 1)), rs_, H', ⟨by have := HJ5.out; have := HJ23.out; have := HJ86.out; have := HK4.out; omega⟩, ⟨pR_ HO_20.out⟩, ⟨by (with_reducible repeat (first | apply Kd.V_alloc | apply Kd.V_drewN | apply Kd.V_drew)); (first | exact HO_881000.out | exact Kd.V_mono HO_881000.out (fun _ h_ => ⟨h_.2, h_.1⟩))⟩, ⟨pV_ HO_900000.out⟩, ⟨pV_ HO_905000.out⟩, ⟨pV_ HO_910000.out⟩, ⟨pV_ HO_915000.out⟩, ⟨bk_⟩, ⟨bk_⟩, ⟨bk_⟩, ⟨bk_⟩, ⟨bk_⟩, ⟨bl_⟩⟩
              ·rw [if_neg c112] at H
               exact absurd H (by simp)
             ·rw [if_neg c111] at H
              have c111b0 : decide (x21_4 < (t926.length : Int)) = false := decide_eq_false c111
              clear c111
              replace H := Option.bind_eq_some_iff.mp H
              obtain ⟨t931, A1160, H⟩ := H
              replace H : (some t931) = some r := H
              have A116 := Aside0.mk A1160
              clear A1160
              obtain rfl := Option.some.inj H
              obtain ⟨Ao117, co117, eo117⟩ := Kd.R_slice HO_20.out
              subst eo117
              go_wp2_with (first | ((with_reducible refine gate_callee (f := 17) rfl ?_); refine goesL_ (some 142) rfl rfl Tryd.func17 (by kernel_rfl) rfl #[] rfl (by (try simp only [List.map_toArray, List.map_cons, List.map_nil]); first | done | rfl | (simp only [List.length_drop, List.length_take]; rfl)) ?_; (with_reducible refine (exactppllaw19_awake.calls  t931 _ A116.out ?tab).mono ?_); (case tab => exact ptab HTAB.out bl_); rintro e w118 ⟨rfl, hb⟩; refine ⟨_, rfl, ?_⟩; replace HO_20 := Aside0.mk (Kd.R_below (pR_ HO_20.out) hb); replace HO_881000 := Aside0.mk (Kd.V_below (by (with_reducible repeat (first | apply Kd.V_alloc | apply Kd.V_drewN | apply Kd.V_drew)); (first | exact HO_881000.out | exact Kd.V_mono HO_881000.out (fun _ h_ => ⟨h_.2, h_.1⟩))) hb); replace HO_900000 := Aside0.mk (Kd.V_below (pV_ HO_900000.out) hb); replace HO_905000 := Aside0.mk (Kd.V_below (pV_ HO_905000.out) hb); replace HO_910000 := Aside0.mk (Kd.V_below (pV_ HO_910000.out) hb); replace HO_915000 := Aside0.mk (Kd.V_below (pV_ HO_915000.out) hb); replace BK880 := Aside0.mk (blk_below (g := gb880) (o := .cells #[.slice Ao10 t875.length co10] 31 (0, 0)) bk_ hb); replace BK899 := Aside0.mk (blk_below (g := gb899) (o := .cells #[.slice Ao31 t895.length co31] 31 (0, 0)) bk_ hb); replace BK904 := Aside0.mk (blk_below (g := gb904) (o := .cells #[.slice Ao38 t900.length co38] 31 (0, 0)) bk_ hb); replace BK909 := Aside0.mk (blk_below (g := gb909) (o := .cells #[.slice Ao46 t905.length co46] 31 (0, 0)) bk_ hb); replace BK914 := Aside0.mk (blk_below (g := gb914) (o := .cells #[.slice Ao55 t910.length co55] 31 (0, 0)) bk_ hb); replace HB := Aside0.mk (below_step bl_ hb); (try clear hb); (try clear hb2); (try clear hk); (try clear hi)))
              go_ret
              exact ⟨re_, bl_⟩
       ·rw [if_neg c83] at H
        exact absurd H (by simp)
      ·rw [if_neg c82] at H
       exact absurd H (by simp)

/-- THE ONE PURE STATEMENT of exactppllaw19_DiagramFixes: yours. -/
def exactppllaw19_DiagramFixes.Pure : Prop := ∀ (l0 : List Int), l0.length ≤ maxLen → l0.length * 8 ≤ 140737488351232 → (∀ x ∈ l0, (Lit.int .i64 x).wf = true) → ∃ k, exactppllaw19_DiagramFixes.f k l0 = some true
theorem exactppllaw19_DiagramFixes.walk (P : exactppllaw19_DiagramFixes.Pure) (a0 : Option Addr) (len0 cap0 : Nat) (z0 : List Int) (w : World) (htab : PowTab w.heap.size w) (w0 : (a0 = none ∧ len0 = 0 ∧ cap0 = 0 ∧ z0 = []) ∨ ∃ x, a0 = some x ∧ len0 ≤ cap0 ∧ cap0 ≤ maxLen ∧ z0.length = cap0 ∧ (∀ i, i < z0.length → w.cell? (x.add i) = some (.int .i64 (z0.getD i 0))) ∧ ∀ n ∈ z0, (Lit.int .i64 n).wf = true) (y0 : len0 * 8 ≤ 140737488351232) :
  Calls Tryd.prog 12 #[.slice a0 len0 cap0] w fun e w' => e = .returned (.bool true) ∧ Below w.heap.size w w' := by
 obtain ⟨l0, rfl, hr0, hm0, hw0, hc0⟩ := ReadsInt.ofRowC w0
 obtain ⟨k, h⟩ := P l0 hm0 y0 hw0
 refine (exactppllaw19_DiagramFixes.calls k _ _ l0 true w (Kd.C_of_reads (d := (0 : Int)) (h1 := fun _ => rfl) hr0) hc0 h htab).mono ?_
 rintro e w' ⟨rfl, hd⟩
 exact ⟨rfl, hd⟩

end Go.Proofs.YtopbjginpmdebaaDoor.K
namespace Go.Proofs.YtopbjginpmdebaaDoor.K
set_option linter.unusedVariables false
set_option linter.unusedSimpArgs false
/-- the value of node i for an assignment, d levels -/
def ev (u : List Nd) : Nat → Int → (Int → Nat) → Int
  | 0, _, _ => 0
  | d + 1, i, σ => if (nth u i).f0 < 0 then (nth u i).f1 else ev u d ((nth u i).f2.getD (σ (nth u i).f0) 0) σ
def evl (u : List Nd) (i : Int) (σ : Int → Nat) : Int := ev u (i.toNat + 1) i σ
/-- an assignment for a shape -/
def Val (sh : Int → Nat) (σ : Int → Nat) : Prop := ∀ s, σ s < sh s
def setA (σ : Int → Nat) (s : Int) (k : Nat) : Int → Nat := fun x => if x = s then k else σ x
theorem Val.set {sh σ : Int → Nat} (h : Val sh σ) {s : Int} {k : Nat} (hk : k < sh s) : Val sh (setA σ s k) := by
  intro x
  unfold setA
  split
  · rename_i e; rw [e]; exact hk
  · exact h x
/-- a reduced list whose branches of a site have one number of kids, greater sites below -/
structure Sh (sh : Int → Nat) (u : List Nd) : Prop where
  red : Red u
  ord : ∀ i : Nat, i < u.length → ∀ k ∈ (nth u i).f2, (nth u k).f0 < 0 ∨ (nth u i).f0 < (nth u k).f0
  len : ∀ n ∈ u, 0 ≤ n.f0 → n.f2.length = sh n.f0
theorem getD_mem {l : List Int} {j : Nat} (h : j < l.length) : l.getD j 0 ∈ l := by
  rw [List.getD_eq_getElem?_getD, List.getElem?_eq_getElem h]; exact List.getElem_mem h
theorem getD_out {l : List Int} {j : Nat} (h : l.length ≤ j) : l.getD j 0 = 0 := by
  rw [List.getD_eq_getElem?_getD, List.getElem?_eq_none h]; rfl
theorem nth_memN {u : List Nd} {i : Nat} (h : i < u.length) : nth u i ∈ u := nth_mem (by omega) (by omega)
theorem kid_lt {u : List Nd} (hu : Fit u) {i : Nat} (hi : i < u.length) (h0 : 0 ≤ (nth u i).f0) (j : Nat) : 0 ≤ (nth u i).f2.getD j 0 ∧ (nth u i).f2.getD j 0 < i := by
  rcases Nat.lt_or_ge j (nth u i).f2.length with h | h
  · exact hu.1 i hi _ (getD_mem h)
  · rw [getD_out h]
    have hne := hu.2 _ (nth_memN hi) h0
    obtain ⟨x, hx⟩ := List.exists_mem_of_ne_nil _ hne
    have := hu.1 i hi x hx
    omega
theorem ev_fuel {u : List Nd} (hu : Fit u) (σ : Int → Nat) : ∀ (i : Nat), i < u.length → ∀ d, i < d → ev u d i σ = ev u (i + 1) i σ := by
  intro i
  induction i using Nat.strongRecOn with
  | _ i ih =>
    intro hi d hd
    obtain ⟨d, rfl⟩ : ∃ e, d = e + 1 := ⟨d - 1, by omega⟩
    simp only [ev]
    by_cases h0 : (nth u i).f0 < 0
    · rw [if_pos h0, if_pos h0]
    · rw [if_neg h0, if_neg h0]
      obtain ⟨c0, c1⟩ := kid_lt hu hi (by omega) (σ (nth u i).f0)
      obtain ⟨c, hc⟩ : ∃ c : Nat, (nth u i).f2.getD (σ (nth u i).f0) 0 = c := ⟨_, (Int.toNat_of_nonneg c0).symm⟩
      rw [hc] at c1 ⊢
      rw [ih c (by omega) (by omega) d (by omega), ih c (by omega) (by omega) i (by omega)]
theorem evl_eq {u : List Nd} (hu : Fit u) (σ : Int → Nat) {i : Nat} (hi : i < u.length) : evl u i σ = if (nth u i).f0 < 0 then (nth u i).f1 else evl u ((nth u i).f2.getD (σ (nth u i).f0) 0) σ := by
  unfold evl
  rw [Int.toNat_natCast]
  by_cases h0 : (nth u i).f0 < 0
  · simp only [ev]
    rw [if_pos h0, if_pos h0]
  · simp only [ev]
    rw [if_neg h0, if_neg h0]
    obtain ⟨c0, c1⟩ := kid_lt hu hi (by omega) (σ (nth u i).f0)
    obtain ⟨c, hc⟩ : ∃ c : Nat, (nth u i).f2.getD (σ (nth u i).f0) 0 = c := ⟨_, (Int.toNat_of_nonneg c0).symm⟩
    rw [hc] at c1 ⊢
    rw [Int.toNat_natCast]
    exact ev_fuel hu σ c (by omega) i (by omega)
theorem evl_leaf {u : List Nd} (hu : Fit u) (σ : Int → Nat) {i : Nat} (hi : i < u.length) (h : (nth u i).f0 < 0) : evl u i σ = (nth u i).f1 := by rw [evl_eq hu σ hi, if_pos h]
theorem evl_br {u : List Nd} (hu : Fit u) (σ : Int → Nat) {i : Nat} (hi : i < u.length) (h : 0 ≤ (nth u i).f0) : evl u i σ = evl u ((nth u i).f2.getD (σ (nth u i).f0) 0) σ := by rw [evl_eq hu σ hi, if_neg (by omega)]
theorem kid_top {sh : Int → Nat} {u : List Nd} (h : Sh sh u) {i : Nat} (hi : i < u.length) (h0 : 0 ≤ (nth u i).f0) (j : Nat) : (nth u ((nth u i).f2.getD j 0)).f0 < 0 ∨ (nth u i).f0 < (nth u ((nth u i).f2.getD j 0)).f0 := by
  rcases Nat.lt_or_ge j (nth u i).f2.length with h1 | h1
  · exact h.ord i hi _ (getD_mem h1)
  · rw [getD_out h1]
    refine .inl ?_
    rcases Int.lt_or_le (nth u 0).f0 0 with h2 | h2
    · exact h2
    · exfalso
      have := kid_lt h.red.fit (i := 0) (by omega) h2 0
      omega
/-- only the sites from the node's on matter -/
theorem evl_agree {sh : Int → Nat} {u : List Nd} (h : Sh sh u) : ∀ (i : Nat), i < u.length → ∀ σ τ : Int → Nat, ((nth u i).f0 < 0 ∨ ∀ x, (nth u i).f0 ≤ x → σ x = τ x) → evl u i σ = evl u i τ := by
  intro i
  induction i using Nat.strongRecOn with
  | _ i ih =>
    intro hi σ τ hx
    by_cases h0 : (nth u i).f0 < 0
    · rw [evl_leaf h.red.fit σ hi h0, evl_leaf h.red.fit τ hi h0]
    · have hx := hx.resolve_left h0
      rw [evl_br h.red.fit σ hi (by omega), evl_br h.red.fit τ hi (by omega), ← hx _ (Int.le_refl _)]
      obtain ⟨c0, c1⟩ := kid_lt h.red.fit hi (by omega) (σ (nth u i).f0)
      have ht := kid_top h hi (by omega) (σ (nth u i).f0)
      obtain ⟨c, hc⟩ : ∃ c : Nat, (nth u i).f2.getD (σ (nth u i).f0) 0 = c := ⟨_, (Int.toNat_of_nonneg c0).symm⟩
      rw [hc] at c1 ht ⊢
      refine ih c (by omega) (by omega) σ τ ?_
      rcases ht with ht | ht
      · exact .inl ht
      · exact .inr fun x hx' => hx x (by omega)
/-- a kid's value is the branch's for its outcome -/
theorem evl_kid {sh : Int → Nat} {u : List Nd} (h : Sh sh u) {i : Nat} (hi : i < u.length) (h0 : 0 ≤ (nth u i).f0) (σ : Int → Nat) (k : Nat) : evl u i (setA σ (nth u i).f0 k) = evl u ((nth u i).f2.getD k 0) σ := by
  have e : setA σ (nth u i).f0 k (nth u i).f0 = k := by unfold setA; rw [if_pos rfl]
  rw [evl_br h.red.fit _ hi h0, e]
  obtain ⟨c0, c1⟩ := kid_lt h.red.fit hi h0 k
  have ht := kid_top h hi h0 k
  obtain ⟨c, hc⟩ : ∃ c : Nat, (nth u i).f2.getD k 0 = c := ⟨_, (Int.toNat_of_nonneg c0).symm⟩
  rw [hc] at c1 ht ⊢
  refine evl_agree h c (by omega) _ _ ?_
  rcases ht with ht | ht
  · exact .inl ht
  · refine .inr fun x hx => ?_
    unfold setA
    rw [if_neg (by omega)]
theorem evl_above {sh : Int → Nat} {u : List Nd} (h : Sh sh u) {j : Nat} (hj : j < u.length) {s : Int} (hs : (nth u j).f0 < 0 ∨ s < (nth u j).f0) (σ : Int → Nat) (k : Nat) : evl u j (setA σ s k) = evl u j σ := by
  refine evl_agree h j hj _ _ ?_
  rcases hs with hs | hs
  · exact .inl hs
  · refine .inr fun x hx => ?_
    unfold setA
    rw [if_neg (by omega)]
theorem sameK_of {l : List Int} {x : Int} (h : ∀ k ∈ l, k = x) : sameK l = true := by
  cases l with
  | nil => rfl
  | cons a l =>
    refine List.all_eq_true.2 fun k hk => ?_
    have h1 := h k hk
    have h2 := h a List.mem_cons_self
    simp [h1, h2]
theorem mem_getD {l : List Int} {x : Int} (h : x ∈ l) : ∃ k, k < l.length ∧ l.getD k 0 = x := by
  obtain ⟨k, hk, rfl⟩ := List.getElem_of_mem h
  exact ⟨k, hk, by rw [List.getD_eq_getElem?_getD, List.getElem?_eq_getElem hk]; rfl⟩
/-- two nodes of one function are one -/
theorem canon {sh : Int → Nat} {u : List Nd} (h : Sh sh u) (hp : ∀ s, 0 < sh s) : ∀ (N i j : Nat), i + j ≤ N → i < u.length → j < u.length → (∀ σ, Val sh σ → evl u i σ = evl u j σ) → i = j := by
  intro N
  induction N with
  | zero => intro i j h1 _ _ _; omega
  | succ N ih =>
    -- a branch whose function is that of a node above its site
    have key : ∀ i j : Nat, i + j ≤ N + 1 → i < u.length → j < u.length → (∀ σ, Val sh σ → evl u i σ = evl u j σ) → 0 ≤ (nth u i).f0 → ((nth u j).f0 < 0 ∨ (nth u i).f0 < (nth u j).f0) → False := by
      intro i j hij hi hj hσ h0 ht
      have hn := nth_memN hi
      have hl := h.len _ hn h0
      have hall : ∀ k ∈ (nth u i).f2, k = (j : Int) := by
        intro x hx
        obtain ⟨k, hk, rfl⟩ := mem_getD hx
        obtain ⟨c0, c1⟩ := kid_lt h.red.fit hi h0 k
        obtain ⟨c, hc⟩ : ∃ c : Nat, (nth u i).f2.getD k 0 = c := ⟨_, (Int.toNat_of_nonneg c0).symm⟩
        have e1 := fun σ => evl_kid h hi h0 σ k
        rw [hc] at c1 e1 ⊢
        congr 1
        refine ih c j (by omega) (by omega) hj fun σ hv => ?_
        rw [← e1 σ, hσ _ (hv.set (by omega)), evl_above h hj ht]
      have := h.red.thin _ hn (h.red.full _ hn h0).1
      rw [sameK_of hall] at this
      cases this
    intro i j hij hi hj hσ
    by_cases hi0 : (nth u i).f0 < 0
    · by_cases hj0 : (nth u j).f0 < 0
      · have e := hσ (fun _ => 0) (fun s => hp s)
        rw [evl_leaf h.red.fit _ hi hi0, evl_leaf h.red.fit _ hj hj0] at e
        have li := h.red.leafy _ (nth_memN hi) hi0
        have lj := h.red.leafy _ (nth_memN hj) hj0
        have := nodup_nth h.red.nodup (i := (i : Int)) (j := (j : Int)) ⟨by omega, by omega⟩ ⟨by omega, by omega⟩ (nd_ext (li.1.trans lj.1.symm) e (li.2.trans lj.2.symm))
        omega
      · exact (key j i (by omega) hj hi (fun σ hv => (hσ σ hv).symm) (by omega) (.inl hi0)).elim
    · by_cases hj0 : (nth u j).f0 < 0
      · exact (key i j hij hi hj hσ (by omega) (.inl hj0)).elim
      · rcases Int.lt_trichotomy (nth u i).f0 (nth u j).f0 with hlt | heq | hlt
        · exact (key i j hij hi hj hσ (by omega) (.inr hlt)).elim
        · have hli := h.len _ (nth_memN hi) (by omega)
          have hlj := h.len _ (nth_memN hj) (by omega)
          have fi := h.red.full _ (nth_memN hi) (by omega)
          have fj := h.red.full _ (nth_memN hj) (by omega)
          have e2 : (nth u i).f2 = (nth u j).f2 := by
            refine List.ext_getElem (by rw [hli, hlj, heq]) fun k hk1 hk2 => ?_
            obtain ⟨c0, c1⟩ := kid_lt h.red.fit hi (by omega) k
            obtain ⟨d0, d1⟩ := kid_lt h.red.fit hj (by omega) k
            obtain ⟨c, hc⟩ : ∃ c : Nat, (nth u i).f2.getD k 0 = c := ⟨_, (Int.toNat_of_nonneg c0).symm⟩
            obtain ⟨d, hd⟩ : ∃ d : Nat, (nth u j).f2.getD k 0 = d := ⟨_, (Int.toNat_of_nonneg d0).symm⟩
            have e1 := fun σ => evl_kid h hi (by omega) σ k
            have e2 := fun σ => evl_kid h hj (by omega) σ k
            rw [hc] at c1 e1
            rw [hd] at d1 e2
            have : c = d := ih c d (by omega) (by omega) (by omega) fun σ hv => by
              rw [← e1 σ, ← e2 σ, ← heq]
              exact hσ _ (hv.set (by omega))
            have g1 : (nth u i).f2[k] = (nth u i).f2.getD k 0 := by rw [List.getD_eq_getElem?_getD, List.getElem?_eq_getElem hk1]; rfl
            have g2 : (nth u j).f2[k] = (nth u j).f2.getD k 0 := by rw [List.getD_eq_getElem?_getD, List.getElem?_eq_getElem hk2]; rfl
            rw [g1, g2, hc, hd, this]
          have := nodup_nth h.red.nodup (i := (i : Int)) (j := (j : Int)) ⟨by omega, by omega⟩ ⟨by omega, by omega⟩ (nd_ext heq (fi.2.trans fj.2.symm) e2)
          omega
        · exact (key j i (by omega) hj hi (fun σ hv => (hσ σ hv).symm) (by omega) (.inr hlt)).elim
/-- the longer list has the shorter one's values -/
theorem evl_pre {u v : List Nd} (hu : Fit u) (hv : Fit v) (h : u <+: v) (σ : Int → Nat) : ∀ (i : Nat), i < u.length → evl v i σ = evl u i σ := by
  intro i
  induction i using Nat.strongRecOn with
  | _ i ih =>
    intro hi
    have hl := h.length_le
    rw [evl_eq hu σ hi, evl_eq hv σ (by omega), nth_prefix h (by omega) (by omega)]
    by_cases h0 : (nth u i).f0 < 0
    · rw [if_pos h0, if_pos h0]
    · rw [if_neg h0, if_neg h0]
      obtain ⟨c0, c1⟩ := kid_lt hu hi (by omega) (σ (nth u i).f0)
      obtain ⟨c, hc⟩ : ∃ c : Nat, (nth u i).f2.getD (σ (nth u i).f0) 0 = c := ⟨_, (Int.toNat_of_nonneg c0).symm⟩
      rw [hc] at c1 ⊢
      exact ih c (by omega) (by omega)
theorem evl_preI {u v : List Nd} (hu : Fit u) (hv : Fit v) (h : u <+: v) (σ : Int → Nat) {i : Int} (h0 : 0 ≤ i) (hi : i < u.length) : evl v i σ = evl u i σ := by
  have := evl_pre hu hv h σ i.toNat (by omega)
  rwa [Int.toNat_of_nonneg h0] at this
theorem mp_getD {φ : PM} {l : List Int} {k : Nat} (h : k < l.length) : (mp φ l).getD k 0 = (φ (l.getD k 0)).getD 0 := by
  unfold mp
  rw [List.getD_eq_getElem?_getD, List.getD_eq_getElem?_getD, List.getElem?_map, List.getElem?_eq_getElem h]; rfl
theorem evl_iso {u v : List Nd} {φ : PM} (h : Iso u v φ) (hu : Fit u) (hv : Fit v) {sh : Int → Nat} (hl : ∀ n ∈ u, 0 ≤ n.f0 → n.f2.length = sh n.f0) {σ : Int → Nat} (hσ : Val sh σ) : ∀ (i : Nat) (a : Int), φ i = some a → evl u i σ = evl v a σ := by
  intro i
  induction i using Nat.strongRecOn with
  | _ i ih =>
    intro a ha
    obtain ⟨_, a0, i1, a1, hn, hk⟩ := h.node i a ha
    obtain ⟨b, rfl⟩ : ∃ b : Nat, a = b := ⟨_, (Int.toNat_of_nonneg a0).symm⟩
    rw [evl_eq hu σ (by omega), evl_eq hv σ (by omega), hn]
    simp only
    by_cases h0 : (nth u i).f0 < 0
    · rw [if_pos h0, if_pos h0]
    · rw [if_neg h0, if_neg h0]
      have hlen : σ (nth u i).f0 < (nth u i).f2.length := by rw [hl _ (nth_memN (by omega)) (by omega)]; exact hσ _
      rw [mp_getD hlen]
      obtain ⟨c0, c1⟩ := kid_lt hu (i := i) (by omega) (by omega) (σ (nth u i).f0)
      have hm := getD_mem hlen
      obtain ⟨c, hc⟩ : ∃ c : Nat, (nth u i).f2.getD (σ (nth u i).f0) 0 = c := ⟨_, (Int.toNat_of_nonneg c0).symm⟩
      rw [hc] at c1 hm ⊢
      obtain ⟨d, hd⟩ := Option.isSome_iff_exists.1 (hk _ hm)
      rw [hd]
      exact ih c (by omega) d hd
/-- what a branch's place tells -/
theorem evl_placeB {u : List Nd} {s : Int} {ks : List Int} (hu : Red u) (hs : 0 ≤ s) (hk : ∀ k ∈ ks, 0 ≤ k ∧ k < (u.length : Int)) {σ : Int → Nat} (hσ : σ s < ks.length) :
    evl (placeB u s ks).1 (placeB u s ks).2 σ = evl u (ks.getD (σ s) 0) σ := by
  have hne : ks ≠ [] := by intro e; rw [e] at hσ; simp at hσ
  have hm := getD_mem hσ
  obtain ⟨h0, h1⟩ := hk _ hm
  have hr := hu.placeB hs hk hne
  by_cases hq : sameK ks = true
  · have e : placeB u s ks = (u, ks.headD 0) := by unfold placeB; rw [if_pos hq]
    rw [e, sameK_head hq _ hm]
  · have e : placeB u s ks = place0 u ⟨s, 0, ks⟩ := by unfold placeB; rw [if_neg hq]
    rw [e] at hr ⊢
    obtain ⟨p0, p1⟩ := place0_lt u ⟨s, 0, ks⟩
    have hn := place0_nth u ⟨s, 0, ks⟩
    obtain ⟨b, hb⟩ : ∃ b : Nat, (place0 u ⟨s, 0, ks⟩).2 = b := ⟨_, (Int.toNat_of_nonneg p0).symm⟩
    rw [hb] at p1 hn ⊢
    rw [evl_br hr.fit σ (by omega) (by rw [hn]; exact hs), hn]
    exact evl_preI hu.fit hr.fit (place0_pre _ _) σ h0 h1
theorem evl_place0 {u : List Nd} {v : Int} (hr : Red (place0 u ⟨-1, v, []⟩).1) (σ : Int → Nat) : evl (place0 u ⟨-1, v, []⟩).1 (place0 u ⟨-1, v, []⟩).2 σ = v := by
  obtain ⟨p0, p1⟩ := place0_lt u ⟨-1, v, []⟩
  have hn := place0_nth u ⟨-1, v, []⟩
  obtain ⟨b, hb⟩ : ∃ b : Nat, (place0 u ⟨-1, v, []⟩).2 = b := ⟨_, (Int.toNat_of_nonneg p0).symm⟩
  rw [hb] at p1 hn ⊢
  rw [evl_leaf hr.fit σ (by omega) (by rw [hn]; show (-1 : Int) < 0; omega), hn]
theorem lk_new (at_ : List Int) (x : Int) {c : Int} (h : c = (at_.length : Int)) : lk (at_ ++ [x]) c = x := by
  subst h
  unfold lk
  rw [List.getD_eq_getElem?_getD, Int.toNat_natCast, List.getElem?_append_right (Nat.le_refl _)]
  simp
theorem lk_old {at_ : List Int} {x : Int} {c : Nat} (h : c < at_.length) : lk (at_ ++ [x]) (c : Int) = lk at_ (c : Int) := by
  unfold lk
  rw [List.getD_eq_getElem?_getD, List.getD_eq_getElem?_getD, List.getElem?_append_left (by omega)]
/-- storing a graph keeps its values -/
theorem evl_imp {sh : Int → Nat} {l u : List Nd} (hl : Fit l) (hlen : ∀ n ∈ l, 0 ≤ n.f0 → n.f2.length = sh n.f0) (hu : Red u) {σ : Int → Nat} (hσ : Val sh σ) : ∀ k, k ≤ l.length → ∀ c : Nat, c < k → evl (imp u [] (l.take k)).1 (lk (imp u [] (l.take k)).2 (c : Int)) σ = evl l c σ := by
  intro k
  induction k with
  | zero => intro _ c hc; omega
  | succ k ih =>
    intro hk c hc
    have ih := ih (by omega)
    obtain ⟨t1, t2, t3⟩ := imp_tbl hl (u := u) ⟨hu.down, hu.nodup, by simp⟩ k (by omega)
    have hr := imp_red hl hu k (by omega)
    have hr2 := imp_red hl hu (k + 1) (by omega)
    have hlen2 := imp_len (l.take k) u []
    have hdn := hl.1 k (by omega)
    have hmem : nth l k ∈ l := nth_memN (by omega)
    rw [take_snoc' (ns := l) (k := k) (by omega), imp_snoc] at hr2 ⊢
    generalize hI : imp u [] (l.take k) = I at ih t1 t2 t3 hr hlen2 hr2 ⊢
    obtain ⟨v, at_⟩ := I
    simp only at ih t1 t2 t3 hr hlen2 hr2 ⊢
    have hal : at_.length = k := by rw [hlen2]; simp; omega
    have hpre : v <+: (place1 v at_ (nth l k)).1 := by
      unfold place1
      split
      · exact place0_pre _ _
      · exact placeB_pre _ _ _
    rcases Nat.lt_or_ge c k with h1 | h1
    · rw [lk_old (by omega)]
      obtain ⟨q0, q1⟩ := t1.at_lt _ (lk_mem (at_ := at_) (c := (c : Int)) (by omega) (by omega))
      rw [evl_preI hr.fit hr2.fit hpre σ q0 q1]
      exact ih c h1
    · have e : c = k := by omega
      subst e
      rw [lk_new _ _ (by omega)]
      by_cases h0 : (nth l c).f0 < 0
      · have e : place1 v at_ (nth l c) = place0 v ⟨-1, (nth l c).f1, []⟩ := by unfold place1; rw [if_pos h0]
        rw [e] at hr2 ⊢
        rw [evl_place0 hr2, evl_leaf hl σ (by omega) h0]
      · have e : place1 v at_ (nth l c) = placeB v (nth l c).f0 ((nth l c).f2.map (lk at_)) := by unfold place1; rw [if_neg h0]
        have hs : σ (nth l c).f0 < (nth l c).f2.length := by rw [hlen _ hmem (by omega)]; exact hσ _
        have hkk := t1.kids (l := (nth l c).f2) (fun x hx => by have := hdn x hx; omega)
        rw [e, evl_placeB hr (by omega) hkk (by simpa using hs), evl_br hl σ (by omega) (by omega)]
        obtain ⟨c0, c1⟩ := kid_lt hl (i := c) (by omega) (by omega) (σ (nth l c).f0)
        have e2 : ((nth l c).f2.map (lk at_)).getD (σ (nth l c).f0) 0 = lk at_ ((nth l c).f2.getD (σ (nth l c).f0) 0) := by
          rw [List.getD_eq_getElem?_getD, List.getD_eq_getElem?_getD, List.getElem?_map, List.getElem?_eq_getElem hs]; rfl
        rw [e2]
        obtain ⟨d, hd⟩ : ∃ d : Nat, (nth l c).f2.getD (σ (nth l c).f0) 0 = d := ⟨_, (Int.toNat_of_nonneg c0).symm⟩
        rw [hd] at c1 ⊢
        exact ih d (by omega)
theorem evl_expo {sh : Int → Nat} {u : List Nd} (hu : Red u) (hlen : ∀ n ∈ u, 0 ≤ n.f0 → n.f2.length = sh n.f0) {σ : Int → Nat} (hσ : Val sh σ) {r : Nat} (hr : r < u.length) : evl (expo u r) (((expo u r).length - 1 : Nat) : Int) σ = evl u r σ := by
  obtain ⟨g, h1, h2, h3⟩ := expo_pl hu.down hr
  exact (evl_iso h1.iso hu.fit (h1.red hu).fit hlen hσ r _ h2).symm
/-- what a root gives stays when the table grows -/
theorem expo_pre {u v : List Nd} (hu : Down u) (hv : Down v) (h : u <+: v) {r : Nat} (hr : r < u.length) : expo v r = expo u r := by
  have hl := h.length_le
  have hi : Iso u v (fun i => if 0 ≤ i ∧ i < u.length then some i else none) := by
    refine ⟨fun i j a h1 h2 => ?_, fun i a h1 => ?_⟩
    · by_cases c1 : 0 ≤ i ∧ i < u.length
      · by_cases c2 : 0 ≤ j ∧ j < u.length
        · rw [if_pos c1] at h1; rw [if_pos c2] at h2
          injection h1 with h1; injection h2 with h2; omega
        · rw [if_neg c2] at h2; cases h2
      · rw [if_neg c1] at h1; cases h1
    · by_cases c1 : 0 ≤ i ∧ i < u.length
      · rw [if_pos c1] at h1
        injection h1 with h1
        subst h1
        have hd := hu i.toNat (by omega)
        rw [Int.toNat_of_nonneg c1.1] at hd
        refine ⟨c1.1, c1.1, c1.2, by omega, ?_, fun k hk => ?_⟩
        · rw [nth_prefix h c1.1 c1.2]
          refine nd_ext rfl rfl ?_
          show (nth u i).f2 = mp _ (nth u i).f2
          unfold mp
          refine ((List.map_id' (l := (nth u i).f2)).symm.trans (List.map_congr_left fun k hk => ?_))
          have := hd k hk
          show k = (if 0 ≤ k ∧ k < (u.length : Int) then some k else none).getD 0
          rw [if_pos ⟨this.1, by omega⟩]; rfl
        · have := hd k hk
          show (if 0 ≤ k ∧ k < (u.length : Int) then some k else none).isSome = true
          rw [if_pos ⟨this.1, by omega⟩]; rfl
      · rw [if_neg c1] at h1; cases h1
  exact (expo_iso hi hu hv (i := (r : Int)) (a := (r : Int)) (by rw [if_pos ⟨by omega, by omega⟩])).symm
/-- two canonical diagrams of one function are one -/
theorem can_unique {sh : Int → Nat} (hp : ∀ s, 0 < sh s) {a b : List Nd} (ha : Can a) (hb : Can b) (la : ∀ n ∈ a, 0 ≤ n.f0 → n.f2.length = sh n.f0) (lb : ∀ n ∈ b, 0 ≤ n.f0 → n.f2.length = sh n.f0) (hU : Sh sh (imp (imp [] [] a).1 [] b).1)
    (h : ∀ σ, Val sh σ → evl a ((a.length - 1 : Nat) : Int) σ = evl b ((b.length - 1 : Nat) : Int) σ) : a = b := by
  have pa := ha.ne
  have pb := hb.ne
  have ra := imp_red ha.red.fit red_nil a.length (Nat.le_refl _)
  have ta := (imp_tbl ha.red.fit tbl_nil a.length (Nat.le_refl _)).1
  rw [List.take_length] at ra ta
  have tb := imp_tbl hb.red.fit (u := (imp [] [] a).1) ⟨ra.down, ra.nodup, by simp⟩ b.length (Nat.le_refl _)
  rw [List.take_length] at tb
  obtain ⟨tb, -, hpre⟩ := tb
  have xa := ta.at_lt _ (lk_mem (at_ := (imp [] [] a).2) (c := ((a.length - 1 : Nat) : Int)) (by omega) (by rw [imp_len]; simp; omega))
  have xb := tb.at_lt _ (lk_mem (at_ := (imp (imp [] [] a).1 [] b).2) (c := ((b.length - 1 : Nat) : Int)) (by omega) (by rw [imp_len]; simp; omega))
  have ea := imp_expo ha red_nil
  have eb := imp_expo hb ra
  have va := fun σ (hσ : Val sh σ) => evl_imp ha.red.fit la red_nil hσ a.length (Nat.le_refl _) (a.length - 1) (by omega)
  have vb := fun σ (hσ : Val sh σ) => evl_imp hb.red.fit lb ra hσ b.length (Nat.le_refl _) (b.length - 1) (by omega)
  rw [List.take_length] at va vb
  have hl := hpre.length_le
  obtain ⟨r, hr⟩ : ∃ r : Nat, lk (imp [] [] a).2 ((a.length - 1 : Nat) : Int) = r := ⟨_, (Int.toNat_of_nonneg xa.1).symm⟩
  obtain ⟨t, ht⟩ : ∃ t : Nat, lk (imp (imp [] [] a).1 [] b).2 ((b.length - 1 : Nat) : Int) = t := ⟨_, (Int.toNat_of_nonneg xb.1).symm⟩
  rw [hr] at xa ea va
  rw [ht] at xb eb vb
  have hrt : r = t := canon hU hp (r + t) r t (Nat.le_refl _) (by omega) (by omega) fun σ hσ => by
    rw [vb σ hσ, ← h σ hσ, ← va σ hσ]
    exact evl_pre ra.fit hU.red.fit hpre σ r (by omega)
  rw [← ea, ← eb, ← hrt]
  exact (expo_pre ra.down hU.red.down hpre (by omega)).symm
end Go.Proofs.YtopbjginpmdebaaDoor.K
-- diagrams by their values: what Restrict, Branch and Eval make
namespace Go.Proofs.YtopbjginpmdebaaDoor.K
open Go.RowKit Go.Maps Go.Proofs.YtopbjginpmdebaaDoorW.PrintWords Go.Proofs.YtopbjginpmdebaaDoorW.PrintLast Go.Proofs.YtopbjginpmdebaaDoorW.PrintMore
set_option linter.unusedVariables false
set_option linter.unusedSimpArgs false
/-- a diagram's value for an assignment -/
def vl (d : List Nd) (σ : Int → Nat) : Int := evl d ((d.length - 1 : Nat) : Int) σ
theorem Tb.sh {sh : Int → Nat} {u : List Nd} (h : Tb sh u) : Sh sh u := ⟨h.red, h.ord, fun n hn h0 => by
  rcases h.ok n hn with h1 | h1
  · omega
  · exact h1.2.2.1⟩
theorem GrS.len {sh : Int → Nat} {l : List Nd} (h : GrS sh l) : ∀ n ∈ l, 0 ≤ n.f0 → n.f2.length = sh n.f0 := by
  intro n hn h0
  obtain ⟨i, hi, rfl⟩ := mem_nth hn
  rcases h.nd i hi with h1 | h1
  · have := (lf_iff.1 h1).1; omega
  · exact h1.2
theorem imp_tb' {sh : Int → Nat} {l u : List Nd} (h : Tb sh u) (hl : GrS sh l) : Tb sh (imp u [] l).1 := by
  have := (imp_tb h hl l.length (Nat.le_refl _)).1
  rwa [List.take_length] at this
/-- canonical diagrams of one shape with the same values are equal -/
theorem dg_unique {sh : Int → Nat} (hp : ∀ s, 0 < sh s) {a b : List Nd} (ga : GrS sh a) (gb : GrS sh b) (ca : Can a) (cb : Can b) (h : ∀ σ, Val sh σ → vl a σ = vl b σ) : a = b :=
  can_unique hp ca cb ga.len gb.len (imp_tb' (imp_tb' (tb_nil sh) ga) gb).sh h
/-- only the sites that occur matter -/
theorem evl_congr {u : List Nd} (hu : Fit u) {σ τ : Int → Nat} (h : ∀ n ∈ u, 0 ≤ n.f0 → σ n.f0 = τ n.f0) : ∀ i : Nat, i < u.length → evl u i σ = evl u i τ := by
  intro i
  induction i using Nat.strongRecOn with
  | _ i ih =>
    intro hi
    by_cases h0 : (nth u i).f0 < 0
    · rw [evl_leaf hu σ hi h0, evl_leaf hu τ hi h0]
    · rw [evl_br hu σ hi (by omega), evl_br hu τ hi (by omega), ← h _ (nth_memN hi) (by omega)]
      obtain ⟨c0, c1⟩ := kid_lt hu hi (by omega) (σ (nth u i).f0)
      obtain ⟨c, hc⟩ : ∃ c : Nat, (nth u i).f2.getD (σ (nth u i).f0) 0 = c := ⟨_, (Int.toNat_of_nonneg c0).symm⟩
      rw [hc] at c1 ⊢
      exact ih c (by omega) (by omega)
theorem vl_congr {u : List Nd} (hu : Fit u) (h0 : 0 < u.length) {σ τ : Int → Nat} (h : ∀ n ∈ u, 0 ≤ n.f0 → σ n.f0 = τ n.f0) : vl u σ = vl u τ := evl_congr hu h _ (by omega)
theorem rd_getD (l : List Int) (i : Int) : rd l i = l.getD i.toNat 0 := rfl
/-- Restrict's table -/
theorem fx_tb {sh : Int → Nat} {l : List Nd} (hl : GrS sh l) {s oc : Int} (ho : OcOk s oc l) : ∀ k, k ≤ l.length → Tb sh (fx s oc [] [] (l.take k)).1 ∧ AtOk l (fx s oc [] [] (l.take k)).1 (fx s oc [] [] (l.take k)).2 k := by
  intro k
  induction k with
  | zero => intro _; exact ⟨by simpa [fx] using tb_nil sh, fun c hc => by omega⟩
  | succ k ih =>
    intro hk
    obtain ⟨h1, h2⟩ := ih (by omega)
    have h3 := (fx_tbl (site := s) (oc := oc) hl.fit ho tbl_nil k (by omega)).1
    have hlen := fx_len s oc (l.take k) [] []
    have hm : nth l (k : Int) ∈ l := nth_memN (by omega)
    have hd := hl.fit.1 k (by omega)
    rw [take_snoc' (by omega), fx_snoc]
    generalize fx s oc [] [] (l.take k) = S at h1 h2 h3 hlen ⊢
    have hal : S.2.length = k := by rw [hlen]; simp; omega
    unfold fx1
    by_cases hs : 0 ≤ (nth l (k : Int)).f0 ∧ (nth l (k : Int)).f0 = s
    · rw [if_pos hs]
      refine ⟨h1, fun c hc => ?_⟩
      have hoc := ho _ hm hs.1 hs.2
      rcases Nat.lt_or_ge c k with h4 | h4
      · rw [lk_snoc_old (by omega)]
        exact h2 c h4
      · obtain rfl : c = k := by omega
        have hkid := rd_mem hoc.1 hoc.2
        have hlt := hd _ hkid
        rw [lk_new _ _ (by omega)]
        have h5 := h2 (rd (nth l (c : Int)).f2 oc).toNat (by omega)
        rw [Int.toNat_of_nonneg hlt.1] at h5
        rcases h5 with h5 | h5
        · exact .inl h5
        · refine .inr ⟨hs.1, ?_⟩
          rcases hl.nd c (by omega) with h6 | h6
          · have := (lf_iff.1 h6).1; omega
          · have := ((br_iff.1 h6.1).2 _ hkid).2
            show _ ≤ (nth S.1 (lk S.2 (rd (nth l (c : Int)).f2 oc))).f0
            omega
    · rw [if_neg hs]
      exact h1.step hl (by omega) hal h2 h3.at_lt
theorem fx_tb' {sh : Int → Nat} {l : List Nd} (hl : GrS sh l) {s oc : Int} (ho : OcOk s oc l) : Tb sh (fx s oc [] [] l).1 := by
  have := (fx_tb hl ho l.length (Nat.le_refl _)).1
  rwa [List.take_length] at this
/-- its values -/
theorem evl_fx {sh : Int → Nat} {l : List Nd} (hl : GrS sh l) {s : Int} {oc : Nat} (ho : OcOk s oc l) {σ : Int → Nat} (hσ : Val sh σ) (hoc : ∀ n ∈ l, 0 ≤ n.f0 → n.f0 = s → oc < sh s) : ∀ k, k ≤ l.length → ∀ c : Nat, c < k → evl (fx s oc [] [] (l.take k)).1 (lk (fx s oc [] [] (l.take k)).2 (c : Int)) σ = evl l c (setA σ s oc) := by
  intro k
  induction k with
  | zero => intro _ c hc; omega
  | succ k ih =>
    intro hk c hc
    have ih := ih (by omega)
    have t1 := (fx_tbl (site := s) (oc := oc) hl.fit ho tbl_nil k (by omega)).1
    have hr := (fx_tb hl ho k (by omega)).1.red
    have hr2 := (fx_tb hl ho (k + 1) (by omega)).1.red
    have hlen2 := fx_len s oc (l.take k) [] []
    have hdn := hl.fit.1 k (by omega)
    have hmem : nth l k ∈ l := nth_memN (by omega)
    rw [take_snoc' (ns := l) (k := k) (by omega), fx_snoc] at hr2 ⊢
    generalize fx s oc [] [] (l.take k) = I at ih t1 hr hlen2 hr2 ⊢
    obtain ⟨v, at_⟩ := I
    simp only at ih t1 hr hlen2 hr2 ⊢
    have hal : at_.length = k := by rw [hlen2]; simp; omega
    by_cases hs : 0 ≤ (nth l (k : Int)).f0 ∧ (nth l (k : Int)).f0 = s
    · have e : fx1 s oc v at_ (nth l k) = (v, lk at_ (rd (nth l k).f2 oc)) := by unfold fx1; rw [if_pos hs]
      rw [e]
      simp only
      rcases Nat.lt_or_ge c k with h1 | h1
      · rw [lk_old (by omega)]; exact ih c h1
      · obtain rfl : c = k := by omega
        rw [lk_new _ _ (by omega), evl_br hl.fit _ (by omega) hs.1, hs.2]
        have e2 : setA σ s oc s = oc := by unfold setA; rw [if_pos rfl]
        rw [e2, rd_getD, Int.toNat_natCast]
        obtain ⟨c0, c1⟩ := kid_lt hl.fit (i := c) (by omega) hs.1 oc
        obtain ⟨d, hd⟩ : ∃ d : Nat, (nth l c).f2.getD oc 0 = d := ⟨_, (Int.toNat_of_nonneg c0).symm⟩
        rw [hd] at c1 ⊢
        exact ih d (by omega)
    · have e : fx1 s oc v at_ (nth l k) = place1 v at_ (nth l k) := by unfold fx1; rw [if_neg hs]
      rw [e] at hr2 ⊢
      have hpre : v <+: (place1 v at_ (nth l k)).1 := by
        unfold place1
        split
        · exact place0_pre _ _
        · exact placeB_pre _ _ _
      rcases Nat.lt_or_ge c k with h1 | h1
      · rw [lk_old (by omega)]
        obtain ⟨q0, q1⟩ := t1.at_lt _ (lk_mem (at_ := at_) (c := (c : Int)) (by omega) (by omega))
        rw [evl_preI hr.fit hr2.fit hpre σ q0 q1]
        exact ih c h1
      · obtain rfl : c = k := by omega
        rw [lk_new _ _ (by omega)]
        by_cases h0 : (nth l c).f0 < 0
        · have e : place1 v at_ (nth l c) = place0 v ⟨-1, (nth l c).f1, []⟩ := by unfold place1; rw [if_pos h0]
          rw [e] at hr2 ⊢
          rw [evl_place0 hr2, evl_leaf hl.fit _ (by omega) h0]
        · have e : place1 v at_ (nth l c) = placeB v (nth l c).f0 ((nth l c).f2.map (lk at_)) := by unfold place1; rw [if_neg h0]
          have hq : setA σ s oc (nth l c).f0 = σ (nth l c).f0 := by unfold setA; rw [if_neg (fun e => hs ⟨by omega, e⟩)]
          have hs' : σ (nth l c).f0 < (nth l c).f2.length := by rw [hl.len _ hmem (by omega)]; exact hσ _
          have hkk := t1.kids (l := (nth l c).f2) (fun x hx => by have := hdn x hx; omega)
          rw [e, evl_placeB hr (by omega) hkk (by simpa using hs'), evl_br hl.fit _ (by omega) (by omega), hq]
          obtain ⟨c0, c1⟩ := kid_lt hl.fit (i := c) (by omega) (by omega) (σ (nth l c).f0)
          have e2 : ((nth l c).f2.map (lk at_)).getD (σ (nth l c).f0) 0 = lk at_ ((nth l c).f2.getD (σ (nth l c).f0) 0) := by
            rw [List.getD_eq_getElem?_getD, List.getD_eq_getElem?_getD, List.getElem?_map, List.getElem?_eq_getElem hs']; rfl
          rw [e2]
          obtain ⟨d, hd⟩ : ∃ d : Nat, (nth l c).f2.getD (σ (nth l c).f0) 0 = d := ⟨_, (Int.toNat_of_nonneg c0).symm⟩
          rw [hd] at c1 ⊢
          exact ih d (by omega)
theorem fx_all {Q : Int → Prop} {s oc : Int} : ∀ (l u : List Nd) (at_ : List Int), AllF (fun x => Q x ∧ x ≠ s) u → AllF Q l → AllF (fun x => Q x ∧ x ≠ s) (fx s oc u at_ l).1
  | [], u, at_, h, _ => h
  | n :: l, u, at_, h, hl => by
    simp only [fx]
    refine fx_all l _ _ ?_ (fun m hm => hl m (List.mem_cons_of_mem _ hm))
    unfold fx1
    by_cases hs : 0 ≤ n.f0 ∧ n.f0 = s
    · rw [if_pos hs]; exact h
    · rw [if_neg hs]
      unfold place1
      by_cases h0 : n.f0 < 0
      · rw [if_pos h0]
        exact place0_all h (fun h0 => by simp only at h0; omega)
      · rw [if_neg h0]
        exact placeB_all h ⟨hl n List.mem_cons_self (by omega), fun e => hs ⟨by omega, e⟩⟩
/-- Restrict's result -/
theorem fxR_ok {sh : Int → Nat} {l : List Nd} (hl : GrS sh l) (h0 : 0 < l.length) {s : Int} {oc : Nat} (hoc : oc < sh s) :
    grB (fxR s oc l) = true ∧ GrS sh (fxR s oc l) ∧ Can (fxR s oc l) ∧ (fxR s oc l).length ≤ l.length ∧ (∀ Q : Int → Prop, AllF Q l → AllF (fun x => Q x ∧ x ≠ s) (fxR s oc l)) ∧ ∀ σ, Val sh σ → vl (fxR s oc l) σ = vl l (setA σ s oc) := by
  have ho : OcOk s oc l := fun n hn h1 h2 => ⟨by omega, by rw [hl.len n hn h1, h2]; omega⟩
  have ht := fx_tbl (site := s) (oc := oc) hl.fit ho tbl_nil l.length (Nat.le_refl _)
  have htb := fx_tb' hl ho
  have hv := fun σ (hσ : Val sh σ) => evl_fx hl ho hσ (fun _ _ _ _ => hoc) l.length (Nat.le_refl _) (l.length - 1) (by omega)
  have hlen := fx_len s oc l [] []
  rw [List.take_length] at ht hv
  have hr := ht.1.at_lt _ (lk_mem (at_ := (fx s oc [] [] l).2) (c := ((l.length - 1 : Nat) : Int)) (by omega) (by rw [hlen]; simp; omega))
  have hall : ∀ Q : Int → Prop, AllF Q l → AllF (fun x => Q x ∧ x ≠ s) (fx s oc [] [] l).1 := fun Q hQ => fx_all l [] [] (fun n hn => by cases hn) hQ
  unfold vl fxR
  obtain ⟨r, hr2⟩ : ∃ r : Nat, lk (fx s oc [] [] l).2 ((l.length - 1 : Nat) : Int) = r := ⟨_, (Int.toNat_of_nonneg hr.1).symm⟩
  rw [hr2] at hr hv ⊢
  have hr' : r < (fx s oc [] [] l).1.length := by omega
  have hc := htb.can hr'
  refine ⟨hc.1, (htb.expo hr').grs, hc.2, Nat.le_trans (expo_len ht.1.down hr') (by simpa using ht.2.1), fun Q hQ => expo_all ht.1.down hr' (hall Q hQ), fun σ hσ => ?_⟩
  rw [evl_expo htb.red htb.sh.len hσ hr']
  exact hv σ hσ
/-- several diagrams in one table keep their values -/
theorem evl_impKs {sh : Int → Nat} {s : Int} {ds : List S31} (hd : ∀ d ∈ ds, GrS sh d.f0 ∧ d.f0 ≠ [] ∧ AllF (fun x => s < x) d.f0) {σ : Int → Nat} (hσ : Val sh σ) : ∀ k, k ≤ ds.length → ∀ c : Nat, c < k → evl (impKs (ds.take k)).1 ((impKs (ds.take k)).2.getD c 0) σ = vl (ds.getD c ⟨[]⟩).f0 σ := by
  intro k
  induction k with
  | zero => intro _ c hc; omega
  | succ k ih =>
    intro hk c hc
    have ih := ih (by omega)
    have h1 := impKs_tb hd k (by omega)
    have h2 := impKs_tb hd (k + 1) (by omega)
    have hl2 := (impKs_tbl (ds := ds) (fun d hd' => ⟨(hd d hd').1.fit, (hd d hd').2.1⟩) k (by omega)).2.2
    obtain ⟨g1, g2, g3⟩ := hd ds[k] (List.getElem_mem _)
    have hgk : ds.getD k ⟨[]⟩ = ds[k] := by rw [List.getD_eq_getElem?_getD, List.getElem?_eq_getElem (by omega)]; rfl
    rw [List.take_succ_eq_append_getElem (by omega), impKs_snoc] at h2 ⊢
    obtain ⟨S, hS⟩ : ∃ S, S = impKs (ds.take k) := ⟨_, rfl⟩
    rw [← hS] at ih h1 h2 hl2 ⊢
    have hp := List.length_pos_iff.2 g2
    have hpre : S.1 <+: (impK S ds[k]).1 := by
      have := (imp_tbl g1.fit h1.1.tbl ds[k].f0.length (Nat.le_refl _)).2.2
      rwa [List.take_length] at this
    have e : (impK S ds[k]).2 = S.2 ++ [lk (imp S.1 [] ds[k].f0).2 ((ds[k].f0.length - 1 : Nat) : Int)] := rfl
    rw [e]
    rcases Nat.lt_or_ge c k with h3 | h3
    · have e3 : (S.2 ++ [lk (imp S.1 [] ds[k].f0).2 ((ds[k].f0.length - 1 : Nat) : Int)]).getD c 0 = S.2.getD c 0 := by
        rw [List.getD_eq_getElem?_getD, List.getD_eq_getElem?_getD, List.getElem?_append_left (by omega)]
      have hm := (h1.2 _ (getD_mem (l := S.2) (j := c) (by omega))).1
      rw [e3, evl_preI h1.1.red.fit h2.1.red.fit hpre σ hm.1 hm.2]
      exact ih c h3
    · obtain rfl : c = k := by omega
      have e3 : (S.2 ++ [lk (imp S.1 [] ds[c].f0).2 ((ds[c].f0.length - 1 : Nat) : Int)]).getD c 0 = lk (imp S.1 [] ds[c].f0).2 ((ds[c].f0.length - 1 : Nat) : Int) := by
        rw [List.getD_eq_getElem?_getD, List.getElem?_append_right (by omega), hl2]; simp
      rw [e3, hgk]
      have := evl_imp g1.fit g1.len h1.1.red hσ ds[c].f0.length (Nat.le_refl _) (ds[c].f0.length - 1) (by omega)
      rw [List.take_length] at this
      exact this
/-- Branch's values -/
theorem vl_jn {sh : Int → Nat} {s : Int} {ds : List S31} (hd : ∀ d ∈ ds, GrS sh d.f0 ∧ d.f0 ≠ [] ∧ AllF (fun x => s < x) d.f0) (hs : 0 ≤ s ∧ s < 64) (hne : ds ≠ []) (hl : ds.length = sh s) (hl2 : ds.length ≤ 16) {σ : Int → Nat} (hσ : Val sh σ) :
    vl (jn s ds) σ = vl (ds.getD (σ s) ⟨[]⟩).f0 σ := by
  obtain ⟨h1, h2, -⟩ := jn_tb hd hs hne hl hl2
  have h3 := impKs_tb hd ds.length (Nat.le_refl _)
  have h4 := impKs_tbl (ds := ds) (fun d hd' => ⟨(hd d hd').1.fit, (hd d hd').2.1⟩) ds.length (Nat.le_refl _)
  have h5 := evl_impKs hd hσ ds.length (Nat.le_refl _) (σ s) (by rw [hl]; exact hσ s)
  rw [List.take_length] at h3 h4 h5
  unfold vl jn
  obtain ⟨r, hr⟩ : ∃ r : Nat, (jnT s ds).2 = r := ⟨_, (Int.toNat_of_nonneg h2.1).symm⟩
  have h6 := evl_placeB (σ := σ) h3.1.red hs.1 (fun k hk => (h3.2 k hk).1) (by rw [h4.2.2, hl]; exact hσ s)
  have e : placeB (impKs ds).1 s (impKs ds).2 = jnT s ds := rfl
  rw [e] at h6
  rw [hr] at h2 h6 ⊢
  rw [evl_expo h1.red h1.sh.len hσ (by omega), h6, h5]
  rfl
/-- an assignment that is given as a list -/
def sg (o : List Int) : Int → Nat := fun s => (rd o s).toNat
theorem evK_vl {sh : Int → Nat} {l : List Nd} (hl : GrS sh l) (o : List Int) (hr : ∀ n ∈ l, 0 ≤ n.f0 → n.f0 < (o.length : Int) ∧ 0 ≤ rd o n.f0 ∧ rd o n.f0 < sh n.f0) : ∀ (i : Nat), i < l.length → ∀ d, i < d → evK l o d (i : Int) = (evl l i (sg o), 0) := by
  intro i
  induction i using Nat.strongRecOn with
  | _ i ih =>
    intro hi d hd
    obtain ⟨d, rfl⟩ : ∃ d', d = d' + 1 := ⟨d - 1, by omega⟩
    simp only [evK]
    by_cases h0 : (nth l (i : Int)).f0 < 0
    · rw [if_pos h0, evl_leaf hl.fit _ hi h0]
    · obtain ⟨h1, h2, h3⟩ := hr _ (nth_memN hi) (by omega)
      have h4 := hl.len _ (nth_memN hi) (by omega)
      rw [if_neg h0, if_neg (by omega), evl_br hl.fit _ hi (by omega)]
      obtain ⟨c0, c1⟩ := kid_lt hl.fit hi (by omega) (sg o (nth l i).f0)
      have e : rd (nth l (i : Int)).f2 (rd o (nth l (i : Int)).f0) = (nth l (i : Int)).f2.getD (sg o (nth l (i : Int)).f0) 0 := rfl
      rw [e]
      obtain ⟨c, hc⟩ : ∃ c : Nat, (nth l i).f2.getD (sg o (nth l i).f0) 0 = c := ⟨_, (Int.toNat_of_nonneg c0).symm⟩
      rw [hc] at c1 ⊢
      exact ih c (by omega) (by omega) d (by omega)
theorem evR_vl {sh : Int → Nat} {l : List Nd} (hl : GrS sh l) (hv : valE l = 0) (o : List Int) (hr : ∀ n ∈ l, 0 ≤ n.f0 → n.f0 < (o.length : Int) ∧ 0 ≤ rd o n.f0 ∧ rd o n.f0 < sh n.f0) : evR l o = (vl l (sg o), 0) := by
  have h0 := gr_pos (val_ok hv).1
  unfold evR vl
  rw [if_pos hv]
  exact evK_vl hl o hr _ (by omega) _ (by omega)
end Go.Proofs.YtopbjginpmdebaaDoor.K
namespace Go.Proofs.YtopbjginpmdebaaDoor.K
open Go.RowKit Go.Proofs.YtopbjginpmdebaaDoorW.PrintWords Go.Proofs.YtopbjginpmdebaaDoorW.PrintLast Go.Proofs.YtopbjginpmdebaaDoorW.PrintMore
attribute [local go_sem] max2_int min2_int max_two min_two max_three min_three max_four min_four   -- for this text's walks alone
set_option linter.unusedVariables false
set_option linter.unusedSimpArgs false

/-! ### exactpplref19_Fit: function 62 -/
def exactpplref19_Fit.f (l0_0 : List (S60)) : Option ((List (S60)) × Int) := if (l0_0.length : Int) > 20000 then (some (([] : List (S60)), 9)) else (some (l0_0, 0))
set_option maxHeartbeats 8000000 in
set_option maxRecDepth 100000 in
theorem exactpplref19_Fit.calls (P0_0_ : Nat → Prop) (A0_0 : Option Addr) (c0_0 : Nat) (l0_0 : List (S60)) (r1 : List (S60)) (r2 : Int) (w : World) (hs0_0 : Kd.V k60 60 w w.heap.size (fun k_ => P0_0_ k_) (.slice A0_0 l0_0.length c0_0) l0_0) (h : exactpplref19_Fit.f l0_0 = some (r1, r2)) :
    Calls Tryd.prog 62 #[.agg #[.slice A0_0 l0_0.length c0_0]] w fun e w' => ∃ v0_ : Value, e = .returned (.tuple #[.agg #[v0_], .int .i64 r2]) ∧ Kd.V k60 60 w' w.heap.size (fun k_ => (P0_0_ k_ ∨ w.heap.size ≤ k_)) v0_ r1 ∧ Below w.heap.size w w' := by
  have hu31 := Tryd.underlying31
  have HO0_0 := Aside0.mk (show Kd.V k60 60 w w.heap.size (fun k_ => (P0_0_ k_ ∨ w.heap.size ≤ k_)) (.slice A0_0 l0_0.length c0_0) l0_0 from Kd.V_mono hs0_0 (fun k_ hk => .inl hk))
  have HB := Aside0.mk (Below.refl w.heap.size w)
  have H : (if (l0_0.length : Int) > 20000 then (some (([] : List (S60)), 9)) else (some (l0_0, 0))) = some (r1, r2) := h
  clear h
  by_cases c2 : (l0_0.length : Int) > 20000
  · rw [if_pos c2] at H
    have c2b0 : decide (20000 < (l0_0.length : Int)) = true := decide_eq_true c2
    have c2b1 : decide (20000 < l0_0.length) = true := decide_eq_true (by omega)
    clear c2
    simp only [Option.some.injEq, Prod.mk.injEq] at H
    obtain ⟨rfl, rfl⟩ := H
    go_enter Tryd.func62, Tryd.ntmps62
    go_wp2_with (first | ((with_reducible refine gate_dst (N := 1) rfl ?_); refine box_event ?hg (N := 1) ?hd (cs := #[.slice A0_0 l0_0.length c0_0]) (t := 31) ?hr ?_; (case hd => rfl); (case hg => rfl); (case hr => first | (go_simp; done) | (go_simp; rfl)); intro gb142 hg w3 hbox hb; have n0_ := Aside0.mk (Kd.V_below (Kd.V_elderB (by (with_reducible repeat (first | apply Kd.V_alloc | apply Kd.V_drewN | apply Kd.V_drew)); exact HO0_0.out) gb142 (Nat.le_of_eq hg.symm)) hb); have n1_ := Aside0.mk (below_step (by repeat (first | (with_reducible first | exact HB.out | apply below_alloc | apply pw_below_drewN | apply below_drew1) | exact HB.out)) hb); have n2_ := Aside0.mk (hbox); have n3_ := Aside0.mk ((by rw [hg]; exact (below_size (by repeat (first | (with_reducible first | exact HB.out | apply below_alloc | apply pw_below_drewN | apply below_drew1) | exact HB.out))) : w.heap.size ≤ gb142)); have n4_ := Aside0.mk ((by rw [hg]; exact (below_size (by repeat (first | (with_reducible first | exact HB.out | apply below_alloc | apply pw_below_drewN | apply below_drew1) | exact HB.out))) : w.heap.size ≤ gb142)); clear HO0_0; clear HB; have HO0_0 := n0_; have HB := n1_; have BK142 := n2_; have GW142 := n3_; have GE142 := n4_; clear n0_ n1_ n2_ n3_ n4_; clear hb hbox hg) | ((with_reducible refine gate_dst (N := 2) rfl ?_); refine box_event ?hg (N := 2) ?hd (cs := #[.slice none 0 0]) (t := 31) ?hr ?_; (case hd => rfl); (case hg => rfl); (case hr => first | (go_simp; done) | (go_simp; rfl)); intro gb143 hg w4 hbox hb; have n0_ := Aside0.mk (Kd.V_below (Kd.V_elderB (by (with_reducible repeat (first | apply Kd.V_alloc | apply Kd.V_drewN | apply Kd.V_drew)); exact HO0_0.out) gb143 (Nat.le_of_eq hg.symm)) hb); have n1_ := Aside0.mk (blk_below (g := gb142) (o := .cells #[.slice A0_0 l0_0.length c0_0] 31 (0, 0)) (by (with_reducible repeat (first | refine blk_drewN ?_ _ | refine blk_drew ?_ | refine blk_alloc ?_ _)); exact BK142.out) hb); have n2_ := Aside0.mk (below_step (by repeat (first | (with_reducible first | exact HB.out | apply below_alloc | apply pw_below_drewN | apply below_drew1 | refine below_set ?_ GE142.out) | exact HB.out)) hb); have n3_ := Aside0.mk (hbox); have n4_ := Aside0.mk ((by rw [hg]; exact (below_size (by repeat (first | (with_reducible first | exact HB.out | apply below_alloc | apply pw_below_drewN | apply below_drew1 | refine below_set ?_ GE142.out) | exact HB.out))) : w.heap.size ≤ gb143)); have n5_ := Aside0.mk ((by rw [hg]; exact (below_size (by repeat (first | (with_reducible first | exact HB.out | apply below_alloc | apply pw_below_drewN | apply below_drew1 | refine below_set ?_ GE142.out) | exact HB.out))) : w.heap.size ≤ gb143)); have n6_ := Aside0.mk ((by rw [hg]; exact Nat.ne_of_lt (blk_lt (g := gb142) (o := .cells #[.slice A0_0 l0_0.length c0_0] 31 (0, 0)) (by (with_reducible repeat (first | refine blk_drewN ?_ _ | refine blk_drew ?_ | refine blk_alloc ?_ _)); exact BK142.out)) : gb142 ≠ gb143)); have n7_ := Aside0.mk ((by rw [hg]; exact Nat.ne_of_gt (blk_lt (g := gb142) (o := .cells #[.slice A0_0 l0_0.length c0_0] 31 (0, 0)) (by (with_reducible repeat (first | refine blk_drewN ?_ _ | refine blk_drew ?_ | refine blk_alloc ?_ _)); exact BK142.out)) : gb143 ≠ gb142)); clear HO0_0; clear BK142; clear HB; have HO0_0 := n0_; have BK142 := n1_; have HB := n2_; have BK143 := n3_; have GW143 := n4_; have GE143 := n5_; have NB142_143 := n6_; have NB143_142 := n7_; clear n0_ n1_ n2_ n3_ n4_ n5_ n6_ n7_; clear hb hbox hg; have hnb5 := NB142_143.out; have hnc5 := NB143_142.out; have hcz6_0 : w4.cell? ⟨gb142, 0, none⟩ = some (.slice A0_0 l0_0.length c0_0) := (blk_cell BK142.out 0).trans rfl; have hfz6_0 := blk_frozen BK142.out 0; have hcz7_0 : w4.cell? ⟨gb143, 0, none⟩ = some (.slice none 0 0) := (blk_cell BK143.out 0).trans rfl; have hfz7_0 := blk_frozen BK143.out 0))
    refine bodyPost_ret (results_ct rfl _ _ gb143 31 #[.slice none 0 0] (0, 0) _ rfl (by (with_reducible repeat (first | refine blk_drewN ?_ _ | refine blk_drew ?_ | refine blk_alloc ?_ _)); refine blk_put (cs := #[.slice none 0 0]) ?_ 0 _ rfl; (with_reducible repeat (first | refine blk_drewN ?_ _ | refine blk_drew ?_ | refine blk_alloc ?_ _)); exact BK143.out) Tryd.underlying31 rfl (by kernel_rfl)) rfl ?_
    exact ⟨_, by first | rfl | (simp [errW_none, errW_some] <;> rfl) | (simp [*, errW_none, errW_some] <;> rfl), Kd.V_nil _ _ _ _ _, by repeat (first | (with_reducible first | exact HB.out | apply below_alloc | apply pw_below_drewN | apply below_drew1 | refine below_set ?_ GE142.out | refine below_set ?_ GE143.out) | exact HB.out)⟩
  · rw [if_neg c2] at H
    have c2b0 : decide (20000 < (l0_0.length : Int)) = false := decide_eq_false c2
    have c2b1 : decide (20000 < l0_0.length) = false := decide_eq_false (by omega)
    clear c2
    simp only [Option.some.injEq, Prod.mk.injEq] at H
    obtain ⟨rfl, rfl⟩ := H
    go_enter Tryd.func62, Tryd.ntmps62
    go_wp2_with (first | ((with_reducible refine gate_dst (N := 1) rfl ?_); refine box_event ?hg (N := 1) ?hd (cs := #[.slice A0_0 l0_0.length c0_0]) (t := 31) ?hr ?_; (case hd => rfl); (case hg => rfl); (case hr => first | (go_simp; done) | (go_simp; rfl)); intro gb142 hg w8 hbox hb; have n0_ := Aside0.mk (Kd.V_below (Kd.V_elderB (by (with_reducible repeat (first | apply Kd.V_alloc | apply Kd.V_drewN | apply Kd.V_drew)); exact HO0_0.out) gb142 (Nat.le_of_eq hg.symm)) hb); have n1_ := Aside0.mk (below_step (by repeat (first | (with_reducible first | exact HB.out | apply below_alloc | apply pw_below_drewN | apply below_drew1) | exact HB.out)) hb); have n2_ := Aside0.mk (hbox); have n3_ := Aside0.mk ((by rw [hg]; exact (below_size (by repeat (first | (with_reducible first | exact HB.out | apply below_alloc | apply pw_below_drewN | apply below_drew1) | exact HB.out))) : w.heap.size ≤ gb142)); have n4_ := Aside0.mk ((by rw [hg]; exact (below_size (by repeat (first | (with_reducible first | exact HB.out | apply below_alloc | apply pw_below_drewN | apply below_drew1) | exact HB.out))) : w.heap.size ≤ gb142)); clear HO0_0; clear HB; have HO0_0 := n0_; have HB := n1_; have BK142 := n2_; have GW142 := n3_; have GE142 := n4_; clear n0_ n1_ n2_ n3_ n4_; clear hb hbox hg) | ((with_reducible refine gate_dst (N := 2) rfl ?_); refine box_event ?hg (N := 2) ?hd (cs := #[.slice none 0 0]) (t := 31) ?hr ?_; (case hd => rfl); (case hg => rfl); (case hr => first | (go_simp; done) | (go_simp; rfl)); intro gb143 hg w9 hbox hb; have n0_ := Aside0.mk (Kd.V_below (Kd.V_elderB (by (with_reducible repeat (first | apply Kd.V_alloc | apply Kd.V_drewN | apply Kd.V_drew)); exact HO0_0.out) gb143 (Nat.le_of_eq hg.symm)) hb); have n1_ := Aside0.mk (blk_below (g := gb142) (o := .cells #[.slice A0_0 l0_0.length c0_0] 31 (0, 0)) (by (with_reducible repeat (first | refine blk_drewN ?_ _ | refine blk_drew ?_ | refine blk_alloc ?_ _)); exact BK142.out) hb); have n2_ := Aside0.mk (below_step (by repeat (first | (with_reducible first | exact HB.out | apply below_alloc | apply pw_below_drewN | apply below_drew1 | refine below_set ?_ GE142.out) | exact HB.out)) hb); have n3_ := Aside0.mk (hbox); have n4_ := Aside0.mk ((by rw [hg]; exact (below_size (by repeat (first | (with_reducible first | exact HB.out | apply below_alloc | apply pw_below_drewN | apply below_drew1 | refine below_set ?_ GE142.out) | exact HB.out))) : w.heap.size ≤ gb143)); have n5_ := Aside0.mk ((by rw [hg]; exact (below_size (by repeat (first | (with_reducible first | exact HB.out | apply below_alloc | apply pw_below_drewN | apply below_drew1 | refine below_set ?_ GE142.out) | exact HB.out))) : w.heap.size ≤ gb143)); have n6_ := Aside0.mk ((by rw [hg]; exact Nat.ne_of_lt (blk_lt (g := gb142) (o := .cells #[.slice A0_0 l0_0.length c0_0] 31 (0, 0)) (by (with_reducible repeat (first | refine blk_drewN ?_ _ | refine blk_drew ?_ | refine blk_alloc ?_ _)); exact BK142.out)) : gb142 ≠ gb143)); have n7_ := Aside0.mk ((by rw [hg]; exact Nat.ne_of_gt (blk_lt (g := gb142) (o := .cells #[.slice A0_0 l0_0.length c0_0] 31 (0, 0)) (by (with_reducible repeat (first | refine blk_drewN ?_ _ | refine blk_drew ?_ | refine blk_alloc ?_ _)); exact BK142.out)) : gb143 ≠ gb142)); clear HO0_0; clear BK142; clear HB; have HO0_0 := n0_; have BK142 := n1_; have HB := n2_; have BK143 := n3_; have GW143 := n4_; have GE143 := n5_; have NB142_143 := n6_; have NB143_142 := n7_; clear n0_ n1_ n2_ n3_ n4_ n5_ n6_ n7_; clear hb hbox hg; have hnb10 := NB142_143.out; have hnc10 := NB143_142.out; have hcz11_0 : w9.cell? ⟨gb142, 0, none⟩ = some (.slice A0_0 l0_0.length c0_0) := (blk_cell BK142.out 0).trans rfl; have hfz11_0 := blk_frozen BK142.out 0; have hcz12_0 : w9.cell? ⟨gb143, 0, none⟩ = some (.slice none 0 0) := (blk_cell BK143.out 0).trans rfl; have hfz12_0 := blk_frozen BK143.out 0))
    refine bodyPost_ret (results_ct rfl _ _ gb143 31 #[.slice A0_0 l0_0.length c0_0] (0, 0) _ rfl (by (with_reducible repeat (first | refine blk_drewN ?_ _ | refine blk_drew ?_ | refine blk_alloc ?_ _)); refine blk_put (cs := #[.slice none 0 0]) ?_ 0 _ rfl; (with_reducible repeat (first | refine blk_drewN ?_ _ | refine blk_drew ?_ | refine blk_alloc ?_ _)); exact BK143.out) Tryd.underlying31 rfl (by kernel_rfl)) rfl ?_
    exact ⟨_, by first | rfl | (simp [errW_none, errW_some] <;> rfl) | (simp [*, errW_none, errW_some] <;> rfl), by (with_reducible repeat (first | apply Kd.V_alloc | apply Kd.V_drewN | apply Kd.V_drew)); exact Kd.V_mono (Kd.V_far (p := ⟨gb143, 0, none⟩) (Kd.V_mono HO0_0.out (fun k_ hk => (⟨hk, by first | exact hk.2 | exact hk.1 | exact hk.2 | exact hk.1.1 | exact hk.1.2⟩ : _ ∧ k_ ≠ gb143))) (fun _ hk => hk.2) (.slice A0_0 l0_0.length c0_0)) (fun _ hk => hk.1.1.1), by repeat (first | (with_reducible first | exact HB.out | apply below_alloc | apply pw_below_drewN | apply below_drew1 | refine below_set ?_ GE142.out | refine below_set ?_ GE143.out) | exact HB.out)⟩

end Go.Proofs.YtopbjginpmdebaaDoor.K
namespace Go.Proofs.YtopbjginpmdebaaDoor.K
open Go.RowKit Go.Proofs.YtopbjginpmdebaaDoorW.PrintWords Go.Proofs.YtopbjginpmdebaaDoorW.PrintLast Go.Proofs.YtopbjginpmdebaaDoorW.PrintMore
attribute [local go_sem] max2_int min2_int max_two min_two max_three min_three max_four min_four   -- for this text's walks alone
set_option linter.unusedVariables false
set_option linter.unusedSimpArgs false

/-! ### exactpplref19_Reduce: function 43 -/
def exactpplref19_Reduce.f (k : Nat) (l0 : List (S60)) : Option ((List (S60)) × Int) := (exactpplref19_Graph.f k l0).bind fun t198 => (if t198 = true then ((exactpplref19_Canon.f l0).bind fun t199 => ((exactpplref19_Fit.f t199).bind fun bt202 => (some (bt202.1, bt202.2)))) else (some (([] : List (S60)), 2)))
theorem exactpplref19_Reduce.mono : ∀ a0 k, LeO (exactpplref19_Reduce.f k a0) (exactpplref19_Reduce.f (k + 1) a0) := by
 intro a0 k
 unfold exactpplref19_Reduce.f
 repeat' first
   | (with_reducible exact exactpplref19_Graph.mono _ _)
   | (with_reducible exact LeO.refl _)
   | (with_reducible exact LeO.none _)
   | (with_reducible refine LeO.ite ?_ ?_)
   | (with_reducible refine LeO.bind ?_ (fun _ => ?_))
   | exact exactpplref19_Graph.mono _ _
   | exact LeO.none _
   | refine LeO.ite ?_ ?_
   | refine LeO.bind ?_ (fun _ => ?_)
set_option maxHeartbeats 8000000 in
set_option maxRecDepth 100000 in
theorem exactpplref19_Reduce.calls (k : Nat) (A0 : Option Addr) (c0 : Nat) (l0 : List (S60)) (r1 : List (S60)) (r2 : Int) (w : World) (hr0 : Kd.C k60 w A0 l0.length l0) (hc0 : l0.length ≤ c0) (h : exactpplref19_Reduce.f k l0 = some (r1, r2)) :
  Calls Tryd.prog 43 #[.slice A0 l0.length c0] w fun e w' => ∃ v0_ : Value, e = .returned (.tuple #[.agg #[v0_], .int .i64 r2]) ∧ Kd.V k60 60 w' w.heap.size (fun k_ => (w.heap.size ≤ k_)) v0_ r1 ∧ Below w.heap.size w w' := by
 have hu31 := Tryd.underlying31
 have HR0 := Aside0.mk hr0
 have HC0 := Aside0.mk hc0
 clear hr0 hc0
 have HB := Aside0.mk (Below.refl w.heap.size w)
 have H : ((exactpplref19_Graph.f k l0).bind fun t198 => (if t198 = true then ((exactpplref19_Canon.f l0).bind fun t199 => ((exactpplref19_Fit.f t199).bind fun bt202 => (some (bt202.1, bt202.2)))) else (some (([] : List (S60)), 2)))) = some (r1, r2) := h
 clear h
 replace H := Option.bind_eq_some_iff.mp H
 obtain ⟨t198, A20, H⟩ := H
 replace H : (if t198 = true then ((exactpplref19_Canon.f l0).bind fun t199 => ((exactpplref19_Fit.f t199).bind fun bt202 => (some (bt202.1, bt202.2)))) else (some (([] : List (S60)), 2))) = some (r1, r2) := H
 have A2 := Aside0.mk A20
 clear A20
 by_cases c3 : t198 = true
 ·subst c3
  have H1 : ((exactpplref19_Canon.f l0).bind fun t199 => ((exactpplref19_Fit.f t199).bind fun bt202 => (some (bt202.1, bt202.2)))) = some (r1, r2) := by rw [if_pos rfl] at H; exact H
  clear H
  have H := H1
  clear H1
  replace H := Option.bind_eq_some_iff.mp H
  obtain ⟨t199, A40, H⟩ := H
  replace H : ((exactpplref19_Fit.f t199).bind fun bt202 => (some (bt202.1, bt202.2))) = some (r1, r2) := H
  have A4 := Aside0.mk A40
  clear A40
  replace H := Option.bind_eq_some_iff.mp H
  obtain ⟨⟨t202, t205⟩, A50, H⟩ := H
  replace H : (some (t202, t205)) = some (r1, r2) := H
  have A5 := Aside0.mk A50
  clear A50
  simp only [Option.some.injEq, Prod.mk.injEq] at H
  obtain ⟨rfl, rfl⟩ := H
  go_enter Tryd.func43, Tryd.ntmps43
  go_wp2_with (first | ((with_reducible refine gate_dst (N := 2) rfl ?_); refine box_event ?hg (N := 2) ?hd (cs := #[.slice none 0 0]) (t := 31) ?hr ?_; (case hd => rfl); (case hg => rfl); (case hr => first | (go_simp; done) | (go_simp; rfl)); intro gb197 hg w6 hbox hb; have BK197 := Aside0.mk (hbox); have GW197 : Aside0 (w.heap.size ≤ gb197) := gw_ hg (below_size bl_); have GE197 := GW197; replace HB := Aside0.mk (below_step bl_ hb); clear hb hbox hg) | ((with_reducible refine gate_callee (f := 67) rfl ?_); refine goesL_ (some 5) rfl rfl Tryd.func67 (by kernel_rfl) rfl #[.slice A0 l0.length c0] rfl (by (try simp only [List.map_toArray, List.map_cons, List.map_nil]); first | done | rfl | (simp only [List.length_drop, List.length_take]; rfl)) ?_; (with_reducible refine (exactpplref19_Graph.calls k _ _ l0 true _ ?side1 ?side2 A2.out).mono ?_); (case side1 => repeat (first | exact (Kd.C_below HR0.out HB.out) | (with_reducible refine Kd.C_alloc ?_ _) | (with_reducible refine Kd.C_drewN ?_ _) | (with_reducible refine Kd.C_drew ?_))); (case side2 => exact HC0.out); rintro e w7 ⟨rfl, hb⟩; refine ⟨_, rfl, ?_⟩; replace BK197 := Aside0.mk (blk_below (g := gb197) (o := .cells #[.slice none 0 0] 31 (0, 0)) bk_ hb); replace HB := Aside0.mk (below_step bl_ hb); (try clear hb); (try clear hb2); (try clear hk); (try clear hi)) | ((with_reducible refine gate_callee (f := 68) rfl ?_); refine goesL_ (some 9) rfl rfl Tryd.func68 (by kernel_rfl) rfl #[.slice A0 l0.length c0] rfl (by (try simp only [List.map_toArray, List.map_cons, List.map_nil]); first | done | rfl | (simp only [List.length_drop, List.length_take]; rfl)) ?_; (with_reducible refine (exactpplref19_Canon.calls _ _ l0 t199 _ ?side1 ?side2 A4.out).mono ?_); (case side1 => repeat (first | exact (Kd.C_below HR0.out HB.out) | (with_reducible refine Kd.C_alloc ?_ _) | (with_reducible refine Kd.C_drewN ?_ _) | (with_reducible refine Kd.C_drew ?_))); (case side2 => exact HC0.out); rintro e w8 ⟨v200, rfl, ho0, hb⟩; refine ⟨_, rfl, ?_⟩; have HO201 := Aside0.mk (Kd.V_lower (Kd.V_mono (ok' := fun k_ => (w.heap.size ≤ k_) ∧ k_ ≠ gb197) ho0 (fun k_ hk_ => ⟨(Nat.le_trans (below_size bl_) hk_), (Kd.freshB (g := gb197) (o := .cells #[.slice none 0 0] 31 (0, 0)) bk_ k_ hk_)⟩)) (below_size bl_)); replace BK197 := Aside0.mk (blk_below (g := gb197) (o := .cells #[.slice none 0 0] 31 (0, 0)) bk_ hb); replace HB := Aside0.mk (below_step bl_ hb); (try clear hb); (try clear hb2); (try clear hk); (try clear hi); (try clear ho0); obtain ⟨Ao9, co9, eo9⟩ := Kd.V_slice HO201.out; subst eo9) | ((with_reducible refine gate_callee (f := 62) rfl ?_); refine goesL_ (some 10) rfl rfl Tryd.func62 (by kernel_rfl) rfl #[.agg #[.slice Ao9 t199.length co9]] rfl (by (try simp only [List.map_toArray, List.map_cons, List.map_nil]); first | done | rfl | (simp only [List.length_drop, List.length_take]; rfl)) ?_; (with_reducible refine (exactpplref19_Fit.calls (fun k_ => ((w.heap.size ≤ k_) ∧ k_ ≠ gb197)) _ _ t199 t202 t205 _ ?side1 A5.out).mono ?_); (case side1 => exact HO201.out); rintro e w10 ⟨v203, rfl, ho0, hb⟩; refine ⟨_, rfl, ?_⟩; have HO204 := Aside0.mk (Kd.V_lower (Kd.V_mono (ok' := fun k_ => (w.heap.size ≤ k_) ∧ k_ ≠ gb197) ho0 (fun k_ hk_ => ⟨Or.elim hk_ (fun hs_ => hs_.1) (fun hn_ => (Nat.le_trans (below_size bl_) hn_)), Or.elim hk_ (fun hs_ => hs_.2) (fun hn_ => (Kd.freshB (g := gb197) (o := .cells #[.slice none 0 0] 31 (0, 0)) bk_ k_ hn_))⟩)) (below_size bl_)); replace HO201 := Aside0.mk (Kd.V_below (pV_ HO201.out) hb); replace BK197 := Aside0.mk (blk_below (g := gb197) (o := .cells #[.slice none 0 0] 31 (0, 0)) bk_ hb); replace HB := Aside0.mk (below_step bl_ hb); (try clear hb); (try clear hb2); (try clear hk); (try clear hi); (try clear ho0); obtain ⟨Ao11, co11, eo11⟩ := Kd.V_slice HO204.out; subst eo11; obtain ⟨hcz12_0, hfz12_0⟩ := cf1_ BK197.out))
  refine bodyPost_ret (results_ct rfl _ _ gb197 31 #[.slice Ao11 t202.length co11] (0, 0) _ rfl (by (with_reducible repeat (first | refine blk_drewN ?_ _ | refine blk_drew ?_ | refine blk_alloc ?_ _)); refine blk_put (cs := #[.slice none 0 0]) ?_ 0 _ rfl; (with_reducible repeat (first | refine blk_drewN ?_ _ | refine blk_drew ?_ | refine blk_alloc ?_ _)); exact BK197.out) Tryd.underlying31 rfl (by kernel_rfl)) rfl ?_
  exact ⟨_, re_, by (with_reducible repeat (first | apply Kd.V_alloc | apply Kd.V_drewN | apply Kd.V_drew)); exact Kd.V_mono (Kd.V_far (p := ⟨gb197, 0, none⟩) (Kd.V_mono HO204.out (fun k_ hk => (⟨hk, by first | exact hk.2 | exact hk.1 | exact hk.2 | exact hk.1.1 | exact hk.1.2⟩ : _ ∧ k_ ≠ gb197))) (fun _ hk => hk.2) (.slice Ao11 t202.length co11)) (fun _ hk => hk.1.1), bl_⟩
 ·replace c3 := Bool.eq_false_iff.mpr c3
  subst c3
  have H1 : (some (([] : List (S60)), 2)) = some (r1, r2) := by rw [if_neg (show ¬ (false = true) by decide)] at H; exact H
  clear H
  have H := H1
  clear H1
  simp only [Option.some.injEq, Prod.mk.injEq] at H
  obtain ⟨rfl, rfl⟩ := H
  go_enter Tryd.func43, Tryd.ntmps43
  go_wp2_with (first | ((with_reducible refine gate_dst (N := 2) rfl ?_); refine box_event ?hg (N := 2) ?hd (cs := #[.slice none 0 0]) (t := 31) ?hr ?_; (case hd => rfl); (case hg => rfl); (case hr => first | (go_simp; done) | (go_simp; rfl)); intro gb197 hg w13 hbox hb; have BK197 := Aside0.mk (hbox); have GW197 : Aside0 (w.heap.size ≤ gb197) := gw_ hg (below_size bl_); have GE197 := GW197; replace HB := Aside0.mk (below_step bl_ hb); clear hb hbox hg) | ((with_reducible refine gate_callee (f := 67) rfl ?_); refine goesL_ (some 5) rfl rfl Tryd.func67 (by kernel_rfl) rfl #[.slice A0 l0.length c0] rfl (by (try simp only [List.map_toArray, List.map_cons, List.map_nil]); first | done | rfl | (simp only [List.length_drop, List.length_take]; rfl)) ?_; (with_reducible refine (exactpplref19_Graph.calls k _ _ l0 false _ ?side1 ?side2 A2.out).mono ?_); (case side1 => repeat (first | exact (Kd.C_below HR0.out HB.out) | (with_reducible refine Kd.C_alloc ?_ _) | (with_reducible refine Kd.C_drewN ?_ _) | (with_reducible refine Kd.C_drew ?_))); (case side2 => exact HC0.out); rintro e w14 ⟨rfl, hb⟩; refine ⟨_, rfl, ?_⟩; replace BK197 := Aside0.mk (blk_below (g := gb197) (o := .cells #[.slice none 0 0] 31 (0, 0)) bk_ hb); replace HB := Aside0.mk (below_step bl_ hb); (try clear hb); (try clear hb2); (try clear hk); (try clear hi); obtain ⟨hcz15_0, hfz15_0⟩ := cf1_ BK197.out))
  refine bodyPost_ret (results_ct rfl _ _ gb197 31 #[.slice none 0 0] (0, 0) _ rfl (by (with_reducible repeat (first | refine blk_drewN ?_ _ | refine blk_drew ?_ | refine blk_alloc ?_ _)); refine blk_put (cs := #[.slice none 0 0]) ?_ 0 _ rfl; (with_reducible repeat (first | refine blk_drewN ?_ _ | refine blk_drew ?_ | refine blk_alloc ?_ _)); exact BK197.out) Tryd.underlying31 rfl (by kernel_rfl)) rfl ?_
  exact ⟨_, re_, Kd.V_nil _ _ _ _ _, bl_⟩

end Go.Proofs.YtopbjginpmdebaaDoor.K
namespace Go.Proofs.YtopbjginpmdebaaDoor.K
open Go.RowKit Go.Proofs.YtopbjginpmdebaaDoorW.PrintWords Go.Proofs.YtopbjginpmdebaaDoorW.PrintLast Go.Proofs.YtopbjginpmdebaaDoorW.PrintMore
attribute [local go_sem] max2_int min2_int max_two min_two max_three min_three max_four min_four   -- for this text's walks alone
set_option linter.unusedVariables false
set_option linter.unusedSimpArgs false

/-! ### exactpplref19_Validate: function 44 -/
def exactpplref19_Validate.f (k : Nat) (l0_0 : List (S60)) : Option (Int) := (exactpplref19_Reduce.f k l0_0).bind fun bt207 => (if bt207.2 = 0 then ((exactpplref19_Same.f k bt207.1 l0_0).bind fun t212 => (if t212 = true then (some 0) else (some 2))) else (some bt207.2))
theorem exactpplref19_Validate.mono : ∀ a0 k, LeO (exactpplref19_Validate.f k a0) (exactpplref19_Validate.f (k + 1) a0) := by
 intro a0 k
 unfold exactpplref19_Validate.f
 repeat' first
   | (with_reducible exact exactpplref19_Reduce.mono _ _)
   | (with_reducible exact exactpplref19_Same.mono _ _ _)
   | (with_reducible exact LeO.refl _)
   | (with_reducible exact LeO.none _)
   | (with_reducible refine LeO.ite ?_ ?_)
   | (with_reducible refine LeO.bind ?_ (fun _ => ?_))
   | exact exactpplref19_Reduce.mono _ _
   | exact exactpplref19_Same.mono _ _ _
   | exact LeO.none _
   | refine LeO.ite ?_ ?_
   | refine LeO.bind ?_ (fun _ => ?_)
set_option maxHeartbeats 8000000 in
set_option maxRecDepth 100000 in
theorem exactpplref19_Validate.calls (k : Nat) (A0_0 : Option Addr) (c0_0 : Nat) (l0_0 : List (S60)) (r : Int) (w : World) (hr0_0 : Kd.C k60 w A0_0 l0_0.length l0_0) (hc0_0 : l0_0.length ≤ c0_0) (h : exactpplref19_Validate.f k l0_0 = some r) :
  Calls Tryd.prog 44 #[.agg #[.slice A0_0 l0_0.length c0_0]] w fun e w' => e = .returned (.int .i64 r) ∧ Below w.heap.size w w' := by
 have hu31 := Tryd.underlying31
 have HR0_0 := Aside0.mk hr0_0
 have HC0_0 := Aside0.mk hc0_0
 clear hr0_0 hc0_0
 have HB := Aside0.mk (Below.refl w.heap.size w)
 have H : ((exactpplref19_Reduce.f k l0_0).bind fun bt207 => (if bt207.2 = 0 then ((exactpplref19_Same.f k bt207.1 l0_0).bind fun t212 => (if t212 = true then (some 0) else (some 2))) else (some bt207.2))) = some r := h
 clear h
 replace H := Option.bind_eq_some_iff.mp H
 obtain ⟨⟨t207, t210⟩, A20, H⟩ := H
 replace H : (if t210 = 0 then ((exactpplref19_Same.f k t207 l0_0).bind fun t212 => (if t212 = true then (some 0) else (some 2))) else (some t210)) = some r := H
 have A2 := Aside0.mk A20
 clear A20
 by_cases c3 : t210 = 0
 ·rw [if_pos c3] at H
  have c3b0 : (t210 == 0) = true := beq_iff_eq.mpr c3
  have c3b1 : (t210 != 0) = false := bne_eq_false_iff_eq.mpr c3
  clear c3
  replace H := Option.bind_eq_some_iff.mp H
  obtain ⟨t212, A40, H⟩ := H
  replace H : (if t212 = true then (some 0) else (some 2)) = some r := H
  have A4 := Aside0.mk A40
  clear A40
  by_cases c5 : t212 = true
  ·subst c5
   have H1 : (some 0) = some r := by rw [if_pos rfl] at H; exact H
   clear H
   have H := H1
   clear H1
   obtain rfl := Option.some.inj H
   go_enter Tryd.func44, Tryd.ntmps44
   go_wp2_with (first | ((with_reducible refine gate_dst (N := 1) rfl ?_); refine box_event ?hg (N := 1) ?hd (cs := #[.slice A0_0 l0_0.length c0_0]) (t := 31) ?hr ?_; (case hd => rfl); (case hg => rfl); (case hr => first | (go_simp; done) | (go_simp; rfl)); intro gb206 hg w6 hbox hb; have BK206 := Aside0.mk (hbox); have GW206 : Aside0 (w.heap.size ≤ gb206) := gw_ hg (below_size bl_); have GE206 := GW206; replace HB := Aside0.mk (below_step bl_ hb); clear hb hbox hg; obtain ⟨hcz7_0, hfz7_0⟩ := cf1_ BK206.out) | ((with_reducible refine gate_callee (f := 43) rfl ?_); refine goesL_ (some 8) rfl rfl Tryd.func43 (by kernel_rfl) rfl #[.slice A0_0 l0_0.length c0_0] rfl (by (try simp only [List.map_toArray, List.map_cons, List.map_nil]); first | done | rfl | (simp only [List.length_drop, List.length_take]; rfl)) ?_; (with_reducible refine (exactpplref19_Reduce.calls k _ _ l0_0 t207 t210 _ ?side1 ?side2 A2.out).mono ?_); (case side1 => repeat (first | exact (Kd.C_below HR0_0.out HB.out) | (with_reducible refine Kd.C_alloc ?_ _) | (with_reducible refine Kd.C_drewN ?_ _) | (with_reducible refine Kd.C_drew ?_))); (case side2 => exact HC0_0.out); rintro e w8 ⟨v208, rfl, ho0, hb⟩; refine ⟨_, rfl, ?_⟩; have HO209 := Aside0.mk (Kd.V_lower (Kd.V_mono (ok' := fun k_ => k_ ≠ gb206) ho0 (fun k_ hk_ => (Kd.freshB (g := gb206) (o := .cells #[.slice A0_0 l0_0.length c0_0] 31 (0, 0)) bk_ k_ hk_))) (below_size bl_)); replace BK206 := Aside0.mk (blk_below (g := gb206) (o := .cells #[.slice A0_0 l0_0.length c0_0] 31 (0, 0)) bk_ hb); replace HB := Aside0.mk (below_step bl_ hb); (try clear hb); (try clear hb2); (try clear hk); (try clear hi); (try clear ho0)) | ((with_reducible refine gate_dst (N := 3) rfl ?_); refine box_event ?hg (N := 3) ?hd (cs := #[.slice none 0 0]) (t := 31) ?hr ?_; (case hd => rfl); (case hg => rfl); (case hr => first | (go_simp; done) | (go_simp; rfl)); intro gb211 hg w9 hbox hb; have BK211 := Aside0.mk (hbox); have GW211 : Aside0 (w.heap.size ≤ gb211) := gw_ hg (below_size bl_); have GE211 := GW211; have NB206_211 := Aside0.mk ((by rw [hg]; exact Nat.ne_of_lt (blk_lt (g := gb206) (o := .cells #[.slice A0_0 l0_0.length c0_0] 31 (0, 0)) bk_) : gb206 ≠ gb211)); have NB211_206 := Aside0.mk ((by rw [hg]; exact Nat.ne_of_gt (blk_lt (g := gb206) (o := .cells #[.slice A0_0 l0_0.length c0_0] 31 (0, 0)) bk_) : gb211 ≠ gb206)); replace HO209 := Aside0.mk (Kd.V_below (Kd.V_elderB (pV_ HO209.out) gb211 (Nat.le_of_eq hg.symm)) hb); replace BK206 := Aside0.mk (blk_below (g := gb206) (o := .cells #[.slice A0_0 l0_0.length c0_0] 31 (0, 0)) bk_ hb); replace HB := Aside0.mk (below_step bl_ hb); clear hb hbox hg; obtain ⟨Ao10, co10, eo10⟩ := Kd.V_slice HO209.out; subst eo10; have hnb11 := NB211_206.out; have hnc11 := NB206_211.out; obtain ⟨hcz12_0, hfz12_0⟩ := cf1_ BK211.out; obtain ⟨hcz13_0, hfz13_0⟩ := cf1_ BK206.out) | ((with_reducible refine gate_callee (f := 20) rfl ?_); refine goesL_ (some 16) rfl rfl Tryd.func20 (by kernel_rfl) rfl #[.agg #[.slice Ao10 t207.length co10], .agg #[.slice A0_0 l0_0.length c0_0]] rfl (by (try simp only [List.map_toArray, List.map_cons, List.map_nil]); first | done | rfl | (simp only [List.length_drop, List.length_take]; rfl)) ?_; (with_reducible refine (exactpplref19_Same.calls k _ _ t207 _ _ l0_0 true _ ?side1 ?side2 ?side3 ?side4 A4.out).mono ?_); (case side1 => refine (Kd.V_reads' (e := 60) (base := w.heap.size) (ok := fun k_ => (k_ ≠ gb206 ∧ k_ ≠ gb211)) (n := t207.length) (c := co10) ?_).2.2; exact (by (with_reducible repeat (first | apply Kd.V_alloc | apply Kd.V_drewN | apply Kd.V_drew)); exact (Kd.V_mono (Kd.V_far (p := ⟨gb211, 0, none⟩) (Kd.V_mono HO209.out (fun k_ hk => (⟨hk, by first | exact hk.2 | exact hk.1 | exact hk.2 | exact hk.1.1 | exact hk.1.2⟩ : _ ∧ k_ ≠ gb211))) (fun _ hk => hk.2) (.slice Ao10 t207.length co10)) (fun _ h_ => h_.1)))); (case side2 => exact (Kd.V_reads' HO209.out).2.1); (case side3 => exact Kd.C_below HR0_0.out bl_); (case side4 => exact HC0_0.out); rintro e w14 ⟨rfl, hb⟩; refine ⟨_, rfl, ?_⟩; replace HO209 := Aside0.mk (Kd.V_below (by (with_reducible repeat (first | apply Kd.V_alloc | apply Kd.V_drewN | apply Kd.V_drew)); exact (Kd.V_mono (Kd.V_far (p := ⟨gb211, 0, none⟩) (Kd.V_mono HO209.out (fun k_ hk => (⟨hk, by first | exact hk.2 | exact hk.1 | exact hk.2 | exact hk.1.1 | exact hk.1.2⟩ : _ ∧ k_ ≠ gb211))) (fun _ hk => hk.2) (.slice Ao10 t207.length co10)) (fun _ h_ => h_.1))) hb); replace BK206 := Aside0.mk (blk_below (g := gb206) (o := .cells #[.slice A0_0 l0_0.length c0_0] 31 (0, 0)) (by (with_reducible repeat (first | refine blk_drewN ?_ _ | refine blk_drew ?_ | refine blk_alloc ?_ _)); refine blk_far ?_ NB206_211.out _; (with_reducible repeat (first | refine blk_drewN ?_ _ | refine blk_drew ?_ | refine blk_alloc ?_ _)); exact BK206.out) hb); replace BK211 := Aside0.mk (blk_below (g := gb211) (o := .cells #[.slice Ao10 t207.length co10] 31 (0, 0)) (by (with_reducible repeat (first | refine blk_drewN ?_ _ | refine blk_drew ?_ | refine blk_alloc ?_ _)); refine blk_put (cs := #[.slice none 0 0]) ?_ 0 _ rfl; (with_reducible repeat (first | refine blk_drewN ?_ _ | refine blk_drew ?_ | refine blk_alloc ?_ _)); exact BK211.out) hb); replace HB := Aside0.mk (below_step bl_ hb); (try clear hb); (try clear hb2); (try clear hk); (try clear hi)))
   go_ret
   exact ⟨re_, bl_⟩
  ·replace c5 := Bool.eq_false_iff.mpr c5
   subst c5
   have H1 : (some 2) = some r := by rw [if_neg (show ¬ (false = true) by decide)] at H; exact H
   clear H
   have H := H1
   clear H1
   obtain rfl := Option.some.inj H
   go_enter Tryd.func44, Tryd.ntmps44
   go_wp2_with (first | ((with_reducible refine gate_dst (N := 1) rfl ?_); refine box_event ?hg (N := 1) ?hd (cs := #[.slice A0_0 l0_0.length c0_0]) (t := 31) ?hr ?_; (case hd => rfl); (case hg => rfl); (case hr => first | (go_simp; done) | (go_simp; rfl)); intro gb206 hg w15 hbox hb; have BK206 := Aside0.mk (hbox); have GW206 : Aside0 (w.heap.size ≤ gb206) := gw_ hg (below_size bl_); have GE206 := GW206; replace HB := Aside0.mk (below_step bl_ hb); clear hb hbox hg; obtain ⟨hcz16_0, hfz16_0⟩ := cf1_ BK206.out) | ((with_reducible refine gate_callee (f := 43) rfl ?_); refine goesL_ (some 8) rfl rfl Tryd.func43 (by kernel_rfl) rfl #[.slice A0_0 l0_0.length c0_0] rfl (by (try simp only [List.map_toArray, List.map_cons, List.map_nil]); first | done | rfl | (simp only [List.length_drop, List.length_take]; rfl)) ?_; (with_reducible refine (exactpplref19_Reduce.calls k _ _ l0_0 t207 t210 _ ?side1 ?side2 A2.out).mono ?_); (case side1 => repeat (first | exact (Kd.C_below HR0_0.out HB.out) | (with_reducible refine Kd.C_alloc ?_ _) | (with_reducible refine Kd.C_drewN ?_ _) | (with_reducible refine Kd.C_drew ?_))); (case side2 => exact HC0_0.out); rintro e w17 ⟨v208, rfl, ho0, hb⟩; refine ⟨_, rfl, ?_⟩; have HO209 := Aside0.mk (Kd.V_lower (Kd.V_mono (ok' := fun k_ => k_ ≠ gb206) ho0 (fun k_ hk_ => (Kd.freshB (g := gb206) (o := .cells #[.slice A0_0 l0_0.length c0_0] 31 (0, 0)) bk_ k_ hk_))) (below_size bl_)); replace BK206 := Aside0.mk (blk_below (g := gb206) (o := .cells #[.slice A0_0 l0_0.length c0_0] 31 (0, 0)) bk_ hb); replace HB := Aside0.mk (below_step bl_ hb); (try clear hb); (try clear hb2); (try clear hk); (try clear hi); (try clear ho0)) | ((with_reducible refine gate_dst (N := 3) rfl ?_); refine box_event ?hg (N := 3) ?hd (cs := #[.slice none 0 0]) (t := 31) ?hr ?_; (case hd => rfl); (case hg => rfl); (case hr => first | (go_simp; done) | (go_simp; rfl)); intro gb211 hg w18 hbox hb; have BK211 := Aside0.mk (hbox); have GW211 : Aside0 (w.heap.size ≤ gb211) := gw_ hg (below_size bl_); have GE211 := GW211; have NB206_211 := Aside0.mk ((by rw [hg]; exact Nat.ne_of_lt (blk_lt (g := gb206) (o := .cells #[.slice A0_0 l0_0.length c0_0] 31 (0, 0)) bk_) : gb206 ≠ gb211)); have NB211_206 := Aside0.mk ((by rw [hg]; exact Nat.ne_of_gt (blk_lt (g := gb206) (o := .cells #[.slice A0_0 l0_0.length c0_0] 31 (0, 0)) bk_) : gb211 ≠ gb206)); replace HO209 := Aside0.mk (Kd.V_below (Kd.V_elderB (pV_ HO209.out) gb211 (Nat.le_of_eq hg.symm)) hb); replace BK206 := Aside0.mk (blk_below (g := gb206) (o := .cells #[.slice A0_0 l0_0.length c0_0] 31 (0, 0)) bk_ hb); replace HB := Aside0.mk (below_step bl_ hb); clear hb hbox hg; obtain ⟨Ao19, co19, eo19⟩ := Kd.V_slice HO209.out; subst eo19; have hnb20 := NB211_206.out; have hnc20 := NB206_211.out; obtain ⟨hcz21_0, hfz21_0⟩ := cf1_ BK211.out; obtain ⟨hcz22_0, hfz22_0⟩ := cf1_ BK206.out) | ((with_reducible refine gate_callee (f := 20) rfl ?_); refine goesL_ (some 16) rfl rfl Tryd.func20 (by kernel_rfl) rfl #[.agg #[.slice Ao19 t207.length co19], .agg #[.slice A0_0 l0_0.length c0_0]] rfl (by (try simp only [List.map_toArray, List.map_cons, List.map_nil]); first | done | rfl | (simp only [List.length_drop, List.length_take]; rfl)) ?_; (with_reducible refine (exactpplref19_Same.calls k _ _ t207 _ _ l0_0 false _ ?side1 ?side2 ?side3 ?side4 A4.out).mono ?_); (case side1 => refine (Kd.V_reads' (e := 60) (base := w.heap.size) (ok := fun k_ => (k_ ≠ gb206 ∧ k_ ≠ gb211)) (n := t207.length) (c := co19) ?_).2.2; exact (by (with_reducible repeat (first | apply Kd.V_alloc | apply Kd.V_drewN | apply Kd.V_drew)); exact (Kd.V_mono (Kd.V_far (p := ⟨gb211, 0, none⟩) (Kd.V_mono HO209.out (fun k_ hk => (⟨hk, by first | exact hk.2 | exact hk.1 | exact hk.2 | exact hk.1.1 | exact hk.1.2⟩ : _ ∧ k_ ≠ gb211))) (fun _ hk => hk.2) (.slice Ao19 t207.length co19)) (fun _ h_ => h_.1)))); (case side2 => exact (Kd.V_reads' HO209.out).2.1); (case side3 => exact Kd.C_below HR0_0.out bl_); (case side4 => exact HC0_0.out); rintro e w23 ⟨rfl, hb⟩; refine ⟨_, rfl, ?_⟩; replace HO209 := Aside0.mk (Kd.V_below (by (with_reducible repeat (first | apply Kd.V_alloc | apply Kd.V_drewN | apply Kd.V_drew)); exact (Kd.V_mono (Kd.V_far (p := ⟨gb211, 0, none⟩) (Kd.V_mono HO209.out (fun k_ hk => (⟨hk, by first | exact hk.2 | exact hk.1 | exact hk.2 | exact hk.1.1 | exact hk.1.2⟩ : _ ∧ k_ ≠ gb211))) (fun _ hk => hk.2) (.slice Ao19 t207.length co19)) (fun _ h_ => h_.1))) hb); replace BK206 := Aside0.mk (blk_below (g := gb206) (o := .cells #[.slice A0_0 l0_0.length c0_0] 31 (0, 0)) (by (with_reducible repeat (first | refine blk_drewN ?_ _ | refine blk_drew ?_ | refine blk_alloc ?_ _)); refine blk_far ?_ NB206_211.out _; (with_reducible repeat (first | refine blk_drewN ?_ _ | refine blk_drew ?_ | refine blk_alloc ?_ _)); exact BK206.out) hb); replace BK211 := Aside0.mk (blk_below (g := gb211) (o := .cells #[.slice Ao19 t207.length co19] 31 (0, 0)) (by (with_reducible repeat (first | refine blk_drewN ?_ _ | refine blk_drew ?_ | refine blk_alloc ?_ _)); refine blk_put (cs := #[.slice none 0 0]) ?_ 0 _ rfl; (with_reducible repeat (first | refine blk_drewN ?_ _ | refine blk_drew ?_ | refine blk_alloc ?_ _)); exact BK211.out) hb); replace HB := Aside0.mk (below_step bl_ hb); (try clear hb); (try clear hb2); (try clear hk); (try clear hi)))
   go_ret
   exact ⟨re_, bl_⟩
 ·rw [if_neg c3] at H
  have c3b0 : (t210 == 0) = false := beq_eq_false_iff_ne.mpr c3
  have c3b1 : (t210 != 0) = true := bne_iff_ne.mpr c3
  obtain rfl := Option.some.inj H
  go_enter Tryd.func44, Tryd.ntmps44
  go_wp2_with (first | ((with_reducible refine gate_dst (N := 1) rfl ?_); refine box_event ?hg (N := 1) ?hd (cs := #[.slice A0_0 l0_0.length c0_0]) (t := 31) ?hr ?_; (case hd => rfl); (case hg => rfl); (case hr => first | (go_simp; done) | (go_simp; rfl)); intro gb206 hg w24 hbox hb; have BK206 := Aside0.mk (hbox); have GW206 : Aside0 (w.heap.size ≤ gb206) := gw_ hg (below_size bl_); have GE206 := GW206; replace HB := Aside0.mk (below_step bl_ hb); clear hb hbox hg; obtain ⟨hcz25_0, hfz25_0⟩ := cf1_ BK206.out) | ((with_reducible refine gate_callee (f := 43) rfl ?_); refine goesL_ (some 8) rfl rfl Tryd.func43 (by kernel_rfl) rfl #[.slice A0_0 l0_0.length c0_0] rfl (by (try simp only [List.map_toArray, List.map_cons, List.map_nil]); first | done | rfl | (simp only [List.length_drop, List.length_take]; rfl)) ?_; (with_reducible refine (exactpplref19_Reduce.calls k _ _ l0_0 t207 t210 _ ?side1 ?side2 A2.out).mono ?_); (case side1 => repeat (first | exact (Kd.C_below HR0_0.out HB.out) | (with_reducible refine Kd.C_alloc ?_ _) | (with_reducible refine Kd.C_drewN ?_ _) | (with_reducible refine Kd.C_drew ?_))); (case side2 => exact HC0_0.out); rintro e w26 ⟨v208, rfl, ho0, hb⟩; refine ⟨_, rfl, ?_⟩; have HO209 := Aside0.mk (Kd.V_lower (Kd.V_mono (ok' := fun k_ => k_ ≠ gb206) ho0 (fun k_ hk_ => (Kd.freshB (g := gb206) (o := .cells #[.slice A0_0 l0_0.length c0_0] 31 (0, 0)) bk_ k_ hk_))) (below_size bl_)); replace BK206 := Aside0.mk (blk_below (g := gb206) (o := .cells #[.slice A0_0 l0_0.length c0_0] 31 (0, 0)) bk_ hb); replace HB := Aside0.mk (below_step bl_ hb); (try clear hb); (try clear hb2); (try clear hk); (try clear hi); (try clear ho0)) | ((with_reducible refine gate_dst (N := 3) rfl ?_); refine box_event ?hg (N := 3) ?hd (cs := #[.slice none 0 0]) (t := 31) ?hr ?_; (case hd => rfl); (case hg => rfl); (case hr => first | (go_simp; done) | (go_simp; rfl)); intro gb211 hg w27 hbox hb; have BK211 := Aside0.mk (hbox); have GW211 : Aside0 (w.heap.size ≤ gb211) := gw_ hg (below_size bl_); have GE211 := GW211; have NB206_211 := Aside0.mk ((by rw [hg]; exact Nat.ne_of_lt (blk_lt (g := gb206) (o := .cells #[.slice A0_0 l0_0.length c0_0] 31 (0, 0)) bk_) : gb206 ≠ gb211)); have NB211_206 := Aside0.mk ((by rw [hg]; exact Nat.ne_of_gt (blk_lt (g := gb206) (o := .cells #[.slice A0_0 l0_0.length c0_0] 31 (0, 0)) bk_) : gb211 ≠ gb206)); replace HO209 := Aside0.mk (Kd.V_below (Kd.V_elderB (pV_ HO209.out) gb211 (Nat.le_of_eq hg.symm)) hb); replace BK206 := Aside0.mk (blk_below (g := gb206) (o := .cells #[.slice A0_0 l0_0.length c0_0] 31 (0, 0)) bk_ hb); replace HB := Aside0.mk (below_step bl_ hb); clear hb hbox hg; obtain ⟨Ao28, co28, eo28⟩ := Kd.V_slice HO209.out; subst eo28; have hnb29 := NB211_206.out; have hnc29 := NB206_211.out; obtain ⟨hcz30_0, hfz30_0⟩ := cf1_ BK211.out))
  go_ret
  exact ⟨re_, bl_⟩

end Go.Proofs.YtopbjginpmdebaaDoor.K
namespace Go.Proofs.YtopbjginpmdebaaDoor.K
open Go.RowKit Go.Proofs.YtopbjginpmdebaaDoorW.PrintWords Go.Proofs.YtopbjginpmdebaaDoorW.PrintLast Go.Proofs.YtopbjginpmdebaaDoorW.PrintMore
attribute [local go_sem] max2_int min2_int max_two min_two max_three min_three max_four min_four   -- for this text's walks alone
set_option linter.unusedVariables false
set_option linter.unusedSimpArgs false

/-! ### exactpplmake_Src_Pick: function 32 -/
def exactpplmake_Src_Pick.f (s0_0 : List Int) (s0_1 : Int) (s0_2 : Int) (l1 : List Int) : Option (Int × Int × Int) := (exactpplmake_Src_N.f s0_0 s0_1 s0_2 (l1.length : Int)).bind fun bt236 => (if 0 ≤ bt236.1 then (if bt236.1 < (l1.length : Int) then (some (rd l1 bt236.1, bt236.2.1, bt236.2.2)) else (none)) else (none))
set_option maxHeartbeats 8000000 in
set_option maxRecDepth 100000 in
theorem exactpplmake_Src_Pick.calls (g : Nat) (s0_0 : List Int) (s0_1 : Int) (s0_2 : Int) (A1 : Option Addr) (c1 : Nat) (l1 : List Int) (r1 : Int) (r2 : Int) (r3 : Int) (w0 w : World) (hI : IsS58 w0 w g s0_0 s0_1 s0_2) (hB : Below w0.heap.size w0 w) (hr1 : Kd.C (Kd.int .i64) w A1 l1.length l1) (hc1 : l1.length ≤ c1) (hf1 : ∀ ad, A1 = some ad → 0 < l1.length → ad.block ≠ g) (h : exactpplmake_Src_Pick.f s0_0 s0_1 s0_2 l1 = some (r1, r2, r3)) :
  Calls Tryd.prog 32 #[.pointer (some ⟨g, 0, none⟩), .slice A1 l1.length c1] w fun e w' => e = .returned (.int .i64 r1) ∧ IsS58 w0 w' g s0_0 r2 r3 ∧ Below w0.heap.size w0 w' ∧ KeepBut w w' g none := by
 have HR1 := Aside0.mk hr1
 have HC1 := Aside0.mk hc1
 clear hr1 hc1
 have HI0 := Aside0.mk hI
 have HK := Aside0.mk (KeepBut.refl w g none)
 have HL := Aside0.mk hB.size
 clear hI
 have HW0 := Aside0.mk hB.size
 have HB := Aside0.mk hB
 clear hB
 have H : ((exactpplmake_Src_N.f s0_0 s0_1 s0_2 (l1.length : Int)).bind fun bt236 => (if 0 ≤ bt236.1 then (if bt236.1 < (l1.length : Int) then (some (rd l1 bt236.1, bt236.2.1, bt236.2.2)) else (none)) else (none))) = some (r1, r2, r3) := h
 clear h
 replace H := Option.bind_eq_some_iff.mp H
 obtain ⟨⟨t236, t237, t238⟩, A30, H⟩ := H
 replace H : (if 0 ≤ t236 then (if t236 < (l1.length : Int) then (some (rd l1 t236, t237, t238)) else (none)) else (none)) = some (r1, r2, r3) := H
 have A3 := Aside0.mk A30
 clear A30
 by_cases c4 : 0 ≤ t236
 ·rw [if_pos c4] at H
  have c4b0 : decide (0 ≤ t236) = true := decide_eq_true c4
  clear c4
  by_cases c5 : t236 < (l1.length : Int)
  ·rw [if_pos c5] at H
   have c5b0 : decide (t236 < (l1.length : Int)) = true := decide_eq_true c5
   clear c5
   simp only [Option.some.injEq, Prod.mk.injEq] at H
   obtain ⟨rfl, rfl, rfl⟩ := H
   go_enter Tryd.func32, Tryd.ntmps32
   go_wp2_with (first | ((with_reducible refine gate_callee (f := 23) rfl ?_); refine goesL_ (some 9) rfl rfl Tryd.func23 (by kernel_rfl) rfl #[.pointer (some ⟨g, 0, none⟩), .int .i64 (l1.length : Int)] rfl (by (try simp only [List.map_toArray, List.map_cons, List.map_nil]); first | done | rfl | (simp only [List.length_drop, List.length_take]; rfl)) ?_; (with_reducible refine (exactpplmake_Src_N.calls g s0_0 s0_1 s0_2 (l1.length : Int) t236 t237 t238 w0 _ ?side1 ?side2 A3.out).mono ?_); (case side1 => repeat (first | (with_reducible first | exact HI0.out | apply IsS58.alloc | apply IsS58.drewN | apply IsS58.drew | apply IsS58.set_1 | apply IsS58.set_2) | exact HI0.out)); (case side2 => repeat (first | (with_reducible first | exact HB.out | apply below_alloc | apply pw_below_drewN | apply below_drew1 | refine below_set ?_ (IsS58.ge HI0.out)) | exact HB.out)); rintro e w6 ⟨rfl, hi, hb, hk⟩; refine ⟨_, rfl, ?_⟩; replace HK := Aside0.mk (KeepBut.trans (by repeat (first | (with_reducible first | exact HK.out | apply KeepBut.set_ | apply keep_drewN | apply keep_drew | apply keep_alloc) | exact HK.out)) hk (.inl rfl)); replace HB := Aside0.mk (hb); replace HI0 := Aside0.mk (hi); (try clear hb); (try clear hb2); (try clear hk); (try clear hi); have p239 : 0 ≤ (t236 : Int) := dt_; have q239 : t236 < (l1.length : Int) := dt_; obtain ⟨ad239, e239, hx239_0⟩ := Kd.at_int HR1.out t236 p239 q239; cases e239; replace hx239_0 := keep_cell HK.out hx239_0 (by first | (rw [add_block]; exact hf1 _ rfl (by omega)) | exact hf1 _ rfl (by omega) | exact hf1 ad239 rfl (by omega)); replace p239 := eq_true p239; replace q239 := eq_true q239))
   go_ret
   exact ⟨re_, si_, bl_, by repeat (first | (with_reducible first | exact HK.out | apply KeepBut.set_ | apply keep_drewN | apply keep_drew | apply keep_alloc) | exact HK.out)⟩
  ·rw [if_neg c5] at H
   exact absurd H (by simp)
 ·rw [if_neg c4] at H
  exact absurd H (by simp)

end Go.Proofs.YtopbjginpmdebaaDoor.K
-- the reference's Reduce, Validate; reduces; the numbers that are read
namespace Go.Proofs.YtopbjginpmdebaaDoor.K
open Go.RowKit Go.Maps Go.Proofs.YtopbjginpmdebaaDoorW.PrintWords Go.Proofs.YtopbjginpmdebaaDoorW.PrintLast Go.Proofs.YtopbjginpmdebaaDoorW.PrintMore
set_option linter.unusedVariables false
set_option linter.unusedSimpArgs false
/-- rounds enough for a list -/
def rnd (l : List Nd) : Nat := 1073741824 + l.length + l.length + 20006
theorem refReduce_f (l : List Nd) (h : ndOk l = true) (k : Nat) (hk : rnd l ≤ k) : exactpplref19_Reduce.f k l = some (redL l, redE l) := by
  have hr := ndOk_room h
  have hI := ndOk_I h
  unfold rnd at hk
  unfold exactpplref19_Reduce.f
  rw [graph_f l (by omega) 1073741824 (by decide) (fun n hn => (hI n hn).2.2) k (by omega), Option.bind_some]
  by_cases hg : grB l = true
  · rw [if_pos hg, exactpplref19_Canon.f, if_pos hg, if_pos h, Option.bind_some]
    unfold exactpplref19_Fit.f redL redE
    rw [if_pos hg]
    by_cases hl : (cn l).length ≤ 20000
    · rw [if_neg (by omega), if_pos hl]; rfl
    · rw [if_pos (by omega), if_neg hl]; rfl
  · rw [if_neg hg]
    unfold redL redE
    rw [if_neg hg]; rfl
theorem redL_len (l : List Nd) : (redL l).length ≤ 20000 := redL_kids
theorem refValidate_f (l : List Nd) (h : ndOk l = true) (k : Nat) (hk : rnd l ≤ k) : exactpplref19_Validate.f k l = some (valE l) := by
  unfold exactpplref19_Validate.f
  rw [refReduce_f l h k hk, Option.bind_some]
  have hl := redL_len l
  unfold rnd at hk
  unfold valE
  by_cases h0 : redE l = 0
  · rw [if_pos h0, if_pos h0, same_f (redL l) l (by omega) 1073741824 (by decide) (fun n hn => Nat.le_trans (redL_kids16 l n hn) (by decide)) k (by omega), Option.bind_some]
    have e : redL l = cn l := by unfold redL; rw [if_pos h0]
    rw [e]
    by_cases hq : cn l = l
    · rw [decide_eq_true hq, if_pos rfl, if_pos hq]
    · rw [decide_eq_false hq, if_neg (by decide), if_neg hq]
  · rw [if_neg h0, if_neg h0]
theorem mono_le {α : Type} {f : Nat → Option α} (h : ∀ k, LeO (f k) (f (k + 1))) {k k' : Nat} (hk : k ≤ k') {r : α} (e : f k = some r) : f k' = some r := by
  induction hk with
  | refl => exact e
  | step _ ih => exact h _ _ ih
/-- what a source is while it is read -/
structure Src (L : List Int) (at_ : Int) : Prop where
  len : L.length ≤ 1000
  i64 : ∀ x ∈ L, -9223372036854775808 ≤ x ∧ x ≤ 9223372036854775807
  lo : 0 ≤ at_
  hi : at_ ≤ (L.length : Int)
theorem new_f (l : List Int) (h : ∀ x ∈ l, -9223372036854775808 ≤ x ∧ x ≤ 9223372036854775807) : ∃ L, exactpplmake_New.f l = some (L, 0, 0) ∧ Src L 0 := by
  unfold exactpplmake_New.f
  by_cases h1 : (l.length : Int) > 1000
  · rw [if_pos h1, if_pos (by omega)]
    exact ⟨_, rfl, by simp; omega, fun x hx => h x (List.mem_of_mem_take hx), by omega, by omega⟩
  · rw [if_neg h1]
    exact ⟨_, rfl, by omega, h, by omega, by omega⟩
theorem w64_id {x : Int} (h : -9223372036854775808 ≤ x) (h2 : x ≤ 9223372036854775807) : wrap64 x = x := by unfold wrap64; omega
theorem raw_f {L : List Int} {a : Int} (h : Src L a) (st : Int) : ∃ x a', exactpplmake_Src_Raw.f L a st = some (x, a', st) ∧ (-9223372036854775808 ≤ x ∧ x ≤ 9223372036854775807) ∧ Src L a' := by
  have hl := h.len
  have h0 := h.lo
  have h1 := h.hi
  unfold exactpplmake_Src_Raw.f
  by_cases he : a ≥ (L.length : Int)
  · rw [if_pos he]
    exact ⟨0, a, rfl, by omega, h⟩
  · rw [if_neg he, w64_id (x := a + 1) (by omega) (by omega), w64_id (x := a + 1 - 1) (by omega) (by omega), if_pos (by omega), if_pos (by omega)]
    refine ⟨_, _, rfl, ?_, ⟨hl, h.i64, by omega, by omega⟩⟩
    refine h.i64 _ ?_
    have hj : a.toNat < L.length := by omega
    have e : rd L (a + 1 - 1) = L[a.toNat] := by rw [show a + 1 - 1 = ((a.toNat : Nat) : Int) by omega, rd_get hj]
    rw [e]; exact List.getElem_mem hj
theorem n_f {L : List Int} {a : Int} (h : Src L a) (st n : Int) (h1 : 1 ≤ n) (h2 : n ≤ 1000000000000) : ∃ x a', exactpplmake_Src_N.f L a st n = some (x, a', st) ∧ (0 ≤ x ∧ x < n) ∧ Src L a' := by
  unfold exactpplmake_Src_N.f
  obtain ⟨x, a', e, hx, h'⟩ := raw_f h st
  rw [if_neg (by omega), e, Option.bind_some, if_neg (by omega)]
  have ht1 := Int.lt_tmod_of_pos x (show 0 < n by omega)
  have ht2 := Int.tmod_lt_of_pos x (show 0 < n by omega)
  by_cases hn : Int.tmod x n < 0
  · simp only
    rw [if_pos hn, w64_id (by omega) (by omega)]
    exact ⟨_, _, rfl, by omega, h'⟩
  · simp only
    rw [if_neg hn]
    exact ⟨_, _, rfl, by omega, h'⟩
theorem n0_f {L : List Int} {a : Int} (h : Src L a) (st n : Int) (h1 : n < 1) : exactpplmake_Src_N.f L a st n = some (0, a, st) := by
  unfold exactpplmake_Src_N.f
  rw [if_pos h1]
theorem range_f {L : List Int} {a : Int} (h : Src L a) (st lo hi : Int) (h1 : lo ≤ hi) (h2 : -100000000000 ≤ lo) (h3 : hi ≤ 100000000000) : ∃ x a', exactpplmake_Src_Range.f L a st lo hi = some (x, a', st) ∧ (lo ≤ x ∧ x ≤ hi) ∧ Src L a' := by
  unfold exactpplmake_Src_Range.f
  rw [w64_id (x := hi - lo) (by omega) (by omega), w64_id (x := hi - lo + 1) (by omega) (by omega)]
  obtain ⟨x, a', e, hx, h'⟩ := n_f h st (hi - lo + 1) (by omega) (by omega)
  rw [e, Option.bind_some]
  simp only
  rw [w64_id (by omega) (by omega)]
  exact ⟨_, _, rfl, by omega, h'⟩
theorem pick_f {L : List Int} {a : Int} (h : Src L a) (st : Int) (l : List Int) (h1 : l ≠ []) (h2 : l.length ≤ 1000) : ∃ x a', exactpplmake_Src_Pick.f L a st l = some (x, a', st) ∧ x ∈ l ∧ Src L a' := by
  have hp := List.length_pos_iff.2 h1
  unfold exactpplmake_Src_Pick.f
  obtain ⟨x, a', e, hx, h'⟩ := n_f h st (l.length : Int) (by omega) (by omega)
  rw [e, Option.bind_some]
  simp only
  rw [if_pos (by omega), if_pos (by omega)]
  refine ⟨_, _, rfl, ?_, h'⟩
  have hj : x.toNat < l.length := by omega
  rw [show x = ((x.toNat : Nat) : Int) by omega, rd_get hj]
  exact List.getElem_mem hj
theorem width_f (s : Int) (h1 : 0 ≤ s) (h2 : s ≤ 1000000) : exactpplmake_Width.f s = some (2 + s % 2) := by
  unfold exactpplmake_Width.f
  rw [Int.tmod_eq_emod_of_nonneg h1, w64_id (by omega) (by omega)]
end Go.Proofs.YtopbjginpmdebaaDoor.K
