/- Lemmas for: Proved: the tied card of exactppllaw19.DiagramLists (for every input the law returns true). Conditions: none beyond the given row. -/
import Derived.Lib.RowBridge
import Derived.Shelf.Slices.In.SortNone
import Derived.StillTailTactics
import Derived.SizedLaws
import Derived.ChangeSlices
import Derived.Test.YtopbjginpmdebaaDoorLi2
import Derived.Test.YtopbjginpmdebaaDoorLi4
namespace Go.Proofs.YtopbjginpmdebaaDoor.K
open Go.RowKit Go.Proofs.YtopbjginpmdebaaDoorW.PrintWords Go.Proofs.YtopbjginpmdebaaDoorW.PrintLast Go.Proofs.YtopbjginpmdebaaDoorW.PrintMore
attribute [local go_sem] max2_int min2_int max_two min_two max_three min_three max_four min_four   -- for this text's walks alone
set_option linter.unusedVariables false
set_option linter.unusedSimpArgs false

/-! ### exactpplref19_Validate: function 44 -/
def exactpplref19_Validate.f (k : Nat) (l0_0 : List (S60)) : Option (Int) := (exactpplref19_Reduce.f k l0_0).bind fun bt207 => (if bt207.2 = 0 then ((exactpplref19_Same.f k bt207.1 l0_0).bind fun t212 => (if t212 = true then (some 0) else (some 2))) else (some bt207.2))
theorem exactpplref19_Validate.mono : ∀ a0 k, LeO (exactpplref19_Validate.f k a0) (exactpplref19_Validate.f (k + 1) a0) := by
 intro a0 k
 unfold exactpplref19_Validate.f
 repeat' first
   | (with_reducible exact exactpplref19_Reduce.mono _ _)
   | (with_reducible exact exactpplref19_Same.mono _ _ _)
   | (with_reducible exact LeO.refl _)
   | (with_reducible exact LeO.none _)
   | (with_reducible refine LeO.ite ?_ ?_)
   | (with_reducible refine LeO.bind ?_ (fun _ => ?_))
   | exact exactpplref19_Reduce.mono _ _
   | exact exactpplref19_Same.mono _ _ _
   | exact LeO.none _
   | refine LeO.ite ?_ ?_
   | refine LeO.bind ?_ (fun _ => ?_)
set_option maxHeartbeats 8000000 in
set_option maxRecDepth 100000 in
theorem exactpplref19_Validate.calls (k : Nat) (A0_0 : Option Addr) (c0_0 : Nat) (l0_0 : List (S60)) (r : Int) (w : World) (hr0_0 : Kd.C k60 w A0_0 l0_0.length l0_0) (hc0_0 : l0_0.length ≤ c0_0) (h : exactpplref19_Validate.f k l0_0 = some r) :
  Calls Tryd.prog 44 #[.agg #[.slice A0_0 l0_0.length c0_0]] w fun e w' => e = .returned (.int .i64 r) ∧ Below w.heap.size w w' := by
 have hu31 := Tryd.underlying31
 have HR0_0 := Aside0.mk hr0_0
 have HC0_0 := Aside0.mk hc0_0
 clear hr0_0 hc0_0
 have HB := Aside0.mk (Below.refl w.heap.size w)
 have H : ((exactpplref19_Reduce.f k l0_0).bind fun bt207 => (if bt207.2 = 0 then ((exactpplref19_Same.f k bt207.1 l0_0).bind fun t212 => (if t212 = true then (some 0) else (some 2))) else (some bt207.2))) = some r := h
 clear h
 replace H := Option.bind_eq_some_iff.mp H
 obtain ⟨⟨t207, t210⟩, A20, H⟩ := H
 replace H : (if t210 = 0 then ((exactpplref19_Same.f k t207 l0_0).bind fun t212 => (if t212 = true then (some 0) else (some 2))) else (some t210)) = some r := H
 have A2 := Aside0.mk A20
 clear A20
 by_cases c3 : t210 = 0
 ·rw [if_pos c3] at H
  have c3b0 : (t210 == 0) = true := beq_iff_eq.mpr c3
  have c3b1 : (t210 != 0) = false := bne_eq_false_iff_eq.mpr c3
  clear c3
  replace H := Option.bind_eq_some_iff.mp H
  obtain ⟨t212, A40, H⟩ := H
  replace H : (if t212 = true then (some 0) else (some 2)) = some r := H
  have A4 := Aside0.mk A40
  clear A40
  by_cases c5 : t212 = true
  ·subst c5
   have H1 : (some 0) = some r := by rw [if_pos rfl] at H; exact H
   clear H
   have H := H1
   clear H1
   obtain rfl := Option.some.inj H
   go_enter Tryd.func44, Tryd.ntmps44
   go_wp2_with (first | ((with_reducible refine gate_dst (N := 1) rfl ?_); refine box_event ?hg (N := 1) ?hd (cs := #[.slice A0_0 l0_0.length c0_0]) (t := 31) ?hr ?_; (case hd => rfl); (case hg => rfl); (case hr => first | (go_simp; done) | (go_simp; rfl)); intro gb206 hg w6 hbox hb; have BK206 := Aside0.mk (hbox); have GW206 : Aside0 (w.heap.size ≤ gb206) := gw_ hg (below_size bl_); have GE206 := GW206; replace HB := Aside0.mk (below_step bl_ hb); clear hb hbox hg; obtain ⟨hcz7_0, hfz7_0⟩ := cf1_ BK206.out) | ((with_reducible refine gate_callee (f := 43) rfl ?_); refine goesL_ (some 8) rfl rfl Tryd.func43 (by kernel_rfl) rfl #[.slice A0_0 l0_0.length c0_0] rfl (by (try simp only [List.map_toArray, List.map_cons, List.map_nil]); first | done | rfl | (simp only [List.length_drop, List.length_take]; rfl)) ?_; (with_reducible refine (exactpplref19_Reduce.calls k _ _ l0_0 t207 t210 _ ?side1 ?side2 A2.out).mono ?_); (case side1 => repeat (first | exact (Kd.C_below HR0_0.out HB.out) | (with_reducible refine Kd.C_alloc ?_ _) | (with_reducible refine Kd.C_drewN ?_ _) | (with_reducible refine Kd.C_drew ?_))); (case side2 => exact HC0_0.out); rintro e w8 ⟨v208, rfl, ho0, hb⟩; refine ⟨_, rfl, ?_⟩; have HO209 := Aside0.mk (Kd.V_lower (Kd.V_mono (ok' := fun k_ => k_ ≠ gb206) ho0 (fun k_ hk_ => (Kd.freshB (g := gb206) (o := .cells #[.slice A0_0 l0_0.length c0_0] 31 (0, 0)) bk_ k_ hk_))) (below_size bl_)); replace BK206 := Aside0.mk (blk_below (g := gb206) (o := .cells #[.slice A0_0 l0_0.length c0_0] 31 (0, 0)) bk_ hb); replace HB := Aside0.mk (below_step bl_ hb); (try clear hb); (try clear hb2); (try clear hk); (try clear hi); (try clear ho0)) | ((with_reducible refine gate_dst (N := 3) rfl ?_); refine box_event ?hg (N := 3) ?hd (cs := #[.slice none 0 0]) (t := 31) ?hr ?_; (case hd => rfl); (case hg => rfl); (case hr => first | (go_simp; done) | (go_simp; rfl)); intro gb211 hg w9 hbox hb; have BK211 := Aside0.mk (hbox); have GW211 : Aside0 (w.heap.size ≤ gb211) := gw_ hg (below_size bl_); have GE211 := GW211; have NB206_211 := Aside0.mk ((by rw [hg]; exact Nat.ne_of_lt (blk_lt (g := gb206) (o := .cells #[.slice A0_0 l0_0.length c0_0] 31 (0, 0)) bk_) : gb206 ≠ gb211)); have NB211_206 := Aside0.mk ((by rw [hg]; exact Nat.ne_of_gt (blk_lt (g := gb206) (o := .cells #[.slice A0_0 l0_0.length c0_0] 31 (0, 0)) bk_) : gb211 ≠ gb206)); replace HO209 := Aside0.mk (Kd.V_below (Kd.V_elderB (pV_ HO209.out) gb211 (Nat.le_of_eq hg.symm)) hb); replace BK206 := Aside0.mk (blk_below (g := gb206) (o := .cells #[.slice A0_0 l0_0.length c0_0] 31 (0, 0)) bk_ hb); replace HB := Aside0.mk (below_step bl_ hb); clear hb hbox hg; obtain ⟨Ao10, co10, eo10⟩ := Kd.V_slice HO209.out; subst eo10; have hnb11 := NB211_206.out; have hnc11 := NB206_211.out; obtain ⟨hcz12_0, hfz12_0⟩ := cf1_ BK211.out; obtain ⟨hcz13_0, hfz13_0⟩ := cf1_ BK206.out) | ((with_reducible refine gate_callee (f := 20) rfl ?_); refine goesL_ (some 16) rfl rfl Tryd.func20 (by kernel_rfl) rfl #[.agg #[.slice Ao10 t207.length co10], .agg #[.slice A0_0 l0_0.length c0_0]] rfl (by (try simp only [List.map_toArray, List.map_cons, List.map_nil]); first | done | rfl | (simp only [List.length_drop, List.length_take]; rfl)) ?_; (with_reducible refine (exactpplref19_Same.calls k _ _ t207 _ _ l0_0 true _ ?side1 ?side2 ?side3 ?side4 A4.out).mono ?_); (case side1 => refine (Kd.V_reads' (e := 60) (base := w.heap.size) (ok := fun k_ => (k_ ≠ gb206 ∧ k_ ≠ gb211)) (n := t207.length) (c := co10) ?_).2.2; exact (by (with_reducible repeat (first | apply Kd.V_alloc | apply Kd.V_drewN | apply Kd.V_drew)); exact (Kd.V_mono (Kd.V_far (p := ⟨gb211, 0, none⟩) (Kd.V_mono HO209.out (fun k_ hk => (⟨hk, by first | exact hk.2 | exact hk.1 | exact hk.2 | exact hk.1.1 | exact hk.1.2⟩ : _ ∧ k_ ≠ gb211))) (fun _ hk => hk.2) (.slice Ao10 t207.length co10)) (fun _ h_ => h_.1)))); (case side2 => exact (Kd.V_reads' HO209.out).2.1); (case side3 => exact Kd.C_below HR0_0.out bl_); (case side4 => exact HC0_0.out); rintro e w14 ⟨rfl, hb⟩; refine ⟨_, rfl, ?_⟩; replace HO209 := Aside0.mk (Kd.V_below (by (with_reducible repeat (first | apply Kd.V_alloc | apply Kd.V_drewN | apply Kd.V_drew)); exact (Kd.V_mono (Kd.V_far (p := ⟨gb211, 0, none⟩) (Kd.V_mono HO209.out (fun k_ hk => (⟨hk, by first | exact hk.2 | exact hk.1 | exact hk.2 | exact hk.1.1 | exact hk.1.2⟩ : _ ∧ k_ ≠ gb211))) (fun _ hk => hk.2) (.slice Ao10 t207.length co10)) (fun _ h_ => h_.1))) hb); replace BK206 := Aside0.mk (blk_below (g := gb206) (o := .cells #[.slice A0_0 l0_0.length c0_0] 31 (0, 0)) (by (with_reducible repeat (first | refine blk_drewN ?_ _ | refine blk_drew ?_ | refine blk_alloc ?_ _)); refine blk_far ?_ NB206_211.out _; (with_reducible repeat (first | refine blk_drewN ?_ _ | refine blk_drew ?_ | refine blk_alloc ?_ _)); exact BK206.out) hb); replace BK211 := Aside0.mk (blk_below (g := gb211) (o := .cells #[.slice Ao10 t207.length co10] 31 (0, 0)) (by (with_reducible repeat (first | refine blk_drewN ?_ _ | refine blk_drew ?_ | refine blk_alloc ?_ _)); refine blk_put (cs := #[.slice none 0 0]) ?_ 0 _ rfl; (with_reducible repeat (first | refine blk_drewN ?_ _ | refine blk_drew ?_ | refine blk_alloc ?_ _)); exact BK211.out) hb); replace HB := Aside0.mk (below_step bl_ hb); (try clear hb); (try clear hb2); (try clear hk); (try clear hi)))
   go_ret
   exact ⟨re_, bl_⟩
  ·replace c5 := Bool.eq_false_iff.mpr c5
   subst c5
   have H1 : (some 2) = some r := by rw [if_neg (show ¬ (false = true) by decide)] at H; exact H
   clear H
   have H := H1
   clear H1
   obtain rfl := Option.some.inj H
   go_enter Tryd.func44, Tryd.ntmps44
   go_wp2_with (first | ((with_reducible refine gate_dst (N := 1) rfl ?_); refine box_event ?hg (N := 1) ?hd (cs := #[.slice A0_0 l0_0.length c0_0]) (t := 31) ?hr ?_; (case hd => rfl); (case hg => rfl); (case hr => first | (go_simp; done) | (go_simp; rfl)); intro gb206 hg w15 hbox hb; have BK206 := Aside0.mk (hbox); have GW206 : Aside0 (w.heap.size ≤ gb206) := gw_ hg (below_size bl_); have GE206 := GW206; replace HB := Aside0.mk (below_step bl_ hb); clear hb hbox hg; obtain ⟨hcz16_0, hfz16_0⟩ := cf1_ BK206.out) | ((with_reducible refine gate_callee (f := 43) rfl ?_); refine goesL_ (some 8) rfl rfl Tryd.func43 (by kernel_rfl) rfl #[.slice A0_0 l0_0.length c0_0] rfl (by (try simp only [List.map_toArray, List.map_cons, List.map_nil]); first | done | rfl | (simp only [List.length_drop, List.length_take]; rfl)) ?_; (with_reducible refine (exactpplref19_Reduce.calls k _ _ l0_0 t207 t210 _ ?side1 ?side2 A2.out).mono ?_); (case side1 => repeat (first | exact (Kd.C_below HR0_0.out HB.out) | (with_reducible refine Kd.C_alloc ?_ _) | (with_reducible refine Kd.C_drewN ?_ _) | (with_reducible refine Kd.C_drew ?_))); (case side2 => exact HC0_0.out); rintro e w17 ⟨v208, rfl, ho0, hb⟩; refine ⟨_, rfl, ?_⟩; have HO209 := Aside0.mk (Kd.V_lower (Kd.V_mono (ok' := fun k_ => k_ ≠ gb206) ho0 (fun k_ hk_ => (Kd.freshB (g := gb206) (o := .cells #[.slice A0_0 l0_0.length c0_0] 31 (0, 0)) bk_ k_ hk_))) (below_size bl_)); replace BK206 := Aside0.mk (blk_below (g := gb206) (o := .cells #[.slice A0_0 l0_0.length c0_0] 31 (0, 0)) bk_ hb); replace HB := Aside0.mk (below_step bl_ hb); (try clear hb); (try clear hb2); (try clear hk); (try clear hi); (try clear ho0)) | ((with_reducible refine gate_dst (N := 3) rfl ?_); refine box_event ?hg (N := 3) ?hd (cs := #[.slice none 0 0]) (t := 31) ?hr ?_; (case hd => rfl); (case hg => rfl); (case hr => first | (go_simp; done) | (go_simp; rfl)); intro gb211 hg w18 hbox hb; have BK211 := Aside0.mk (hbox); have GW211 : Aside0 (w.heap.size ≤ gb211) := gw_ hg (below_size bl_); have GE211 := GW211; have NB206_211 := Aside0.mk ((by rw [hg]; exact Nat.ne_of_lt (blk_lt (g := gb206) (o := .cells #[.slice A0_0 l0_0.length c0_0] 31 (0, 0)) bk_) : gb206 ≠ gb211)); have NB211_206 := Aside0.mk ((by rw [hg]; exact Nat.ne_of_gt (blk_lt (g := gb206) (o := .cells #[.slice A0_0 l0_0.length c0_0] 31 (0, 0)) bk_) : gb211 ≠ gb206)); replace HO209 := Aside0.mk (Kd.V_below (Kd.V_elderB (pV_ HO209.out) gb211 (Nat.le_of_eq hg.symm)) hb); replace BK206 := Aside0.mk (blk_below (g := gb206) (o := .cells #[.slice A0_0 l0_0.length c0_0] 31 (0, 0)) bk_ hb); replace HB := Aside0.mk (below_step bl_ hb); clear hb hbox hg; obtain ⟨Ao19, co19, eo19⟩ := Kd.V_slice HO209.out; subst eo19; have hnb20 := NB211_206.out; have hnc20 := NB206_211.out; obtain ⟨hcz21_0, hfz21_0⟩ := cf1_ BK211.out; obtain ⟨hcz22_0, hfz22_0⟩ := cf1_ BK206.out) | ((with_reducible refine gate_callee (f := 20) rfl ?_); refine goesL_ (some 16) rfl rfl Tryd.func20 (by kernel_rfl) rfl #[.agg #[.slice Ao19 t207.length co19], .agg #[.slice A0_0 l0_0.length c0_0]] rfl (by (try simp only [List.map_toArray, List.map_cons, List.map_nil]); first | done | rfl | (simp only [List.length_drop, List.length_take]; rfl)) ?_; (with_reducible refine (exactpplref19_Same.calls k _ _ t207 _ _ l0_0 false _ ?side1 ?side2 ?side3 ?side4 A4.out).mono ?_); (case side1 => refine (Kd.V_reads' (e := 60) (base := w.heap.size) (ok := fun k_ => (k_ ≠ gb206 ∧ k_ ≠ gb211)) (n := t207.length) (c := co19) ?_).2.2; exact (by (with_reducible repeat (first | apply Kd.V_alloc | apply Kd.V_drewN | apply Kd.V_drew)); exact (Kd.V_mono (Kd.V_far (p := ⟨gb211, 0, none⟩) (Kd.V_mono HO209.out (fun k_ hk => (⟨hk, by first | exact hk.2 | exact hk.1 | exact hk.2 | exact hk.1.1 | exact hk.1.2⟩ : _ ∧ k_ ≠ gb211))) (fun _ hk => hk.2) (.slice Ao19 t207.length co19)) (fun _ h_ => h_.1)))); (case side2 => exact (Kd.V_reads' HO209.out).2.1); (case side3 => exact Kd.C_below HR0_0.out bl_); (case side4 => exact HC0_0.out); rintro e w23 ⟨rfl, hb⟩; refine ⟨_, rfl, ?_⟩; replace HO209 := Aside0.mk (Kd.V_below (by (with_reducible repeat (first | apply Kd.V_alloc | apply Kd.V_drewN | apply Kd.V_drew)); exact (Kd.V_mono (Kd.V_far (p := ⟨gb211, 0, none⟩) (Kd.V_mono HO209.out (fun k_ hk => (⟨hk, by first | exact hk.2 | exact hk.1 | exact hk.2 | exact hk.1.1 | exact hk.1.2⟩ : _ ∧ k_ ≠ gb211))) (fun _ hk => hk.2) (.slice Ao19 t207.length co19)) (fun _ h_ => h_.1))) hb); replace BK206 := Aside0.mk (blk_below (g := gb206) (o := .cells #[.slice A0_0 l0_0.length c0_0] 31 (0, 0)) (by (with_reducible repeat (first | refine blk_drewN ?_ _ | refine blk_drew ?_ | refine blk_alloc ?_ _)); refine blk_far ?_ NB206_211.out _; (with_reducible repeat (first | refine blk_drewN ?_ _ | refine blk_drew ?_ | refine blk_alloc ?_ _)); exact BK206.out) hb); replace BK211 := Aside0.mk (blk_below (g := gb211) (o := .cells #[.slice Ao19 t207.length co19] 31 (0, 0)) (by (with_reducible repeat (first | refine blk_drewN ?_ _ | refine blk_drew ?_ | refine blk_alloc ?_ _)); refine blk_put (cs := #[.slice none 0 0]) ?_ 0 _ rfl; (with_reducible repeat (first | refine blk_drewN ?_ _ | refine blk_drew ?_ | refine blk_alloc ?_ _)); exact BK211.out) hb); replace HB := Aside0.mk (below_step bl_ hb); (try clear hb); (try clear hb2); (try clear hk); (try clear hi)))
   go_ret
   exact ⟨re_, bl_⟩
 ·rw [if_neg c3] at H
  have c3b0 : (t210 == 0) = false := beq_eq_false_iff_ne.mpr c3
  have c3b1 : (t210 != 0) = true := bne_iff_ne.mpr c3
  obtain rfl := Option.some.inj H
  go_enter Tryd.func44, Tryd.ntmps44
  go_wp2_with (first | ((with_reducible refine gate_dst (N := 1) rfl ?_); refine box_event ?hg (N := 1) ?hd (cs := #[.slice A0_0 l0_0.length c0_0]) (t := 31) ?hr ?_; (case hd => rfl); (case hg => rfl); (case hr => first | (go_simp; done) | (go_simp; rfl)); intro gb206 hg w24 hbox hb; have BK206 := Aside0.mk (hbox); have GW206 : Aside0 (w.heap.size ≤ gb206) := gw_ hg (below_size bl_); have GE206 := GW206; replace HB := Aside0.mk (below_step bl_ hb); clear hb hbox hg; obtain ⟨hcz25_0, hfz25_0⟩ := cf1_ BK206.out) | ((with_reducible refine gate_callee (f := 43) rfl ?_); refine goesL_ (some 8) rfl rfl Tryd.func43 (by kernel_rfl) rfl #[.slice A0_0 l0_0.length c0_0] rfl (by (try simp only [List.map_toArray, List.map_cons, List.map_nil]); first | done | rfl | (simp only [List.length_drop, List.length_take]; rfl)) ?_; (with_reducible refine (exactpplref19_Reduce.calls k _ _ l0_0 t207 t210 _ ?side1 ?side2 A2.out).mono ?_); (case side1 => repeat (first | exact (Kd.C_below HR0_0.out HB.out) | (with_reducible refine Kd.C_alloc ?_ _) | (with_reducible refine Kd.C_drewN ?_ _) | (with_reducible refine Kd.C_drew ?_))); (case side2 => exact HC0_0.out); rintro e w26 ⟨v208, rfl, ho0, hb⟩; refine ⟨_, rfl, ?_⟩; have HO209 := Aside0.mk (Kd.V_lower (Kd.V_mono (ok' := fun k_ => k_ ≠ gb206) ho0 (fun k_ hk_ => (Kd.freshB (g := gb206) (o := .cells #[.slice A0_0 l0_0.length c0_0] 31 (0, 0)) bk_ k_ hk_))) (below_size bl_)); replace BK206 := Aside0.mk (blk_below (g := gb206) (o := .cells #[.slice A0_0 l0_0.length c0_0] 31 (0, 0)) bk_ hb); replace HB := Aside0.mk (below_step bl_ hb); (try clear hb); (try clear hb2); (try clear hk); (try clear hi); (try clear ho0)) | ((with_reducible refine gate_dst (N := 3) rfl ?_); refine box_event ?hg (N := 3) ?hd (cs := #[.slice none 0 0]) (t := 31) ?hr ?_; (case hd => rfl); (case hg => rfl); (case hr => first | (go_simp; done) | (go_simp; rfl)); intro gb211 hg w27 hbox hb; have BK211 := Aside0.mk (hbox); have GW211 : Aside0 (w.heap.size ≤ gb211) := gw_ hg (below_size bl_); have GE211 := GW211; have NB206_211 := Aside0.mk ((by rw [hg]; exact Nat.ne_of_lt (blk_lt (g := gb206) (o := .cells #[.slice A0_0 l0_0.length c0_0] 31 (0, 0)) bk_) : gb206 ≠ gb211)); have NB211_206 := Aside0.mk ((by rw [hg]; exact Nat.ne_of_gt (blk_lt (g := gb206) (o := .cells #[.slice A0_0 l0_0.length c0_0] 31 (0, 0)) bk_) : gb211 ≠ gb206)); replace HO209 := Aside0.mk (Kd.V_below (Kd.V_elderB (pV_ HO209.out) gb211 (Nat.le_of_eq hg.symm)) hb); replace BK206 := Aside0.mk (blk_below (g := gb206) (o := .cells #[.slice A0_0 l0_0.length c0_0] 31 (0, 0)) bk_ hb); replace HB := Aside0.mk (below_step bl_ hb); clear hb hbox hg; obtain ⟨Ao28, co28, eo28⟩ := Kd.V_slice HO209.out; subst eo28; have hnb29 := NB211_206.out; have hnc29 := NB206_211.out; obtain ⟨hcz30_0, hfz30_0⟩ := cf1_ BK211.out))
  go_ret
  exact ⟨re_, bl_⟩

end Go.Proofs.YtopbjginpmdebaaDoor.K
namespace Go.Proofs.YtopbjginpmdebaaDoor.K
open Go.RowKit Go.Proofs.YtopbjginpmdebaaDoorW.PrintWords Go.Proofs.YtopbjginpmdebaaDoorW.PrintLast Go.Proofs.YtopbjginpmdebaaDoorW.PrintMore
attribute [local go_sem] max2_int min2_int max_two min_two max_three min_three max_four min_four   -- for this text's walks alone
set_option linter.unusedVariables false
set_option linter.unusedSimpArgs false

/-! ### exactpplref19_add: function 65 -/
def exactpplref19_add.l0 : Nat → List Int → Int → Int → Option (List Int)
 | 0, _, _, _ => none
 | k + 1, x0, x1, x5 => if x5 < (x0.length : Int) then (if 0 ≤ x5 then (if (rd x0 x5) < x1 then (exactpplref19_add.l0 k x0 x1 (wrap64 (x5 + 1))) else (if (rd x0 x5) = x1 then (some x0) else (if x5 ≤ (x0.length : Int) then ((some (x0.take (x5 : Int).toNat : List Int)).bind fun y784 => (if ([] : List Int).length + y784.length < 17592186044416 then ((some (([] : List Int) ++ y784 : List Int)).bind fun y788 => (if y788.length < 17592186044416 then ((some (y788 ++ [x1] : List Int)).bind fun y791 => ((some (x0.drop (x5 : Int).toNat : List Int)).bind fun y794 => (if y791.length + y794.length < 17592186044416 then (some (y791 ++ y794)) else (none)))) else (none))) else (none))) else (none)))) else (none)) else (if 0 ≤ x5 then (if x5 ≤ (x0.length : Int) then ((some (x0.take (x5 : Int).toNat : List Int)).bind fun y801 => (if ([] : List Int).length + y801.length < 17592186044416 then ((some (([] : List Int) ++ y801 : List Int)).bind fun y805 => (if y805.length < 17592186044416 then ((some (y805 ++ [x1] : List Int)).bind fun y808 => ((some (x0.drop (x5 : Int).toNat : List Int)).bind fun y811 => (if y808.length + y811.length < 17592186044416 then (some (y808 ++ y811)) else (none)))) else (none))) else (none))) else (none)) else (none))
def exactpplref19_add.f (k : Nat) (l0 : List Int) (a1 : Int) : Option (List Int) := exactpplref19_add.l0 k l0 a1 0
theorem exactpplref19_add.mono_l : ∀ k, (∀ y0 y1 y2, LeO (exactpplref19_add.l0 k y0 y1 y2) (exactpplref19_add.l0 (k + 1) y0 y1 y2))
 | 0 => fun _ _ _ r h => by simp [exactpplref19_add.l0] at h
 | k + 1 => by
  have ih0 := exactpplref19_add.mono_l k
  ·intro y0 y1 y2
   unfold exactpplref19_add.l0
   repeat' first
   | (with_reducible exact ih0 _ _ _)
   | (with_reducible exact LeO.refl _)
   | (with_reducible exact LeO.none _)
   | (with_reducible refine LeO.ite ?_ ?_)
   | (with_reducible refine LeO.bind ?_ (fun _ => ?_))
   | exact ih0 _ _ _
   | exact LeO.none _
   | refine LeO.ite ?_ ?_
   | refine LeO.bind ?_ (fun _ => ?_)
theorem exactpplref19_add.mono : ∀ a0 a1 k, LeO (exactpplref19_add.f k a0 a1) (exactpplref19_add.f (k + 1) a0 a1) := by
 intro a0 a1 k
 have ih0 := exactpplref19_add.mono_l k
 unfold exactpplref19_add.f
 repeat' first
   | (with_reducible exact ih0 _ _ _)
   | (with_reducible exact LeO.refl _)
   | (with_reducible exact LeO.none _)
   | (with_reducible refine LeO.ite ?_ ?_)
   | (with_reducible refine LeO.bind ?_ (fun _ => ?_))
   | exact ih0 _ _ _
   | exact LeO.none _
   | refine LeO.ite ?_ ?_
   | refine LeO.bind ?_ (fun _ => ?_)
set_option maxHeartbeats 8000000 in
set_option maxRecDepth 100000 in
theorem exactpplref19_add.calls (k : Nat) (P0_ : Nat → Prop) (u9000_ : Value) (l0 : List Int) (a1 : Int) (r : List Int) (w0 w : World) (hB : Below w0.heap.size w0 w) (ho0 : Kd.R (Kd.int .i64) 3 w w0.heap.size P0_ u9000_ l0) (h : exactpplref19_add.f k l0 a1 = some r) :
  Calls Tryd.prog 65 #[u9000_, .int .i64 a1] w fun e w' => ∃ v0_ : Value, e = .returned (v0_) ∧ Kd.R (Kd.int .i64) 3 w' w0.heap.size (fun k_ => (P0_ k_ ∨ w.heap.size ≤ k_)) v0_ r ∧ Below w0.heap.size w0 w' ∧ Kept w w' (fun k_ => P0_ k_) := by
 have HO0 := Aside0.mk (show Kd.R (Kd.int .i64) 3 w w0.heap.size (fun k_ => (P0_ k_ ∨ w.heap.size ≤ k_)) u9000_ l0 from Kd.R_mono ho0 (fun k_ hk => (.inl hk)))
 have HK := Aside0.mk (Kept.refl w (fun k_ => P0_ k_))
 have HW0 := Aside0.mk hB.size
 have HB := Aside0.mk hB
 clear hB
 have H : (exactpplref19_add.l0 k l0 a1 0) = some r := h
 clear h
 have H' := Aside0.mk H
 clear H
 go_enter Tryd.func65, Tryd.ntmps65
 go_wp2
 go_loopg [5] k (fun kq v5 w' => ∃ (x5_1 : Int), v5 = .int .i64 x5_1 ∧ Aside0 (exactpplref19_add.l0 kq l0 a1 x5_1 = some r) ∧ Aside0 (kq ≤ k) ∧ Aside0 (Kd.R (Kd.int .i64) 3 w' w0.heap.size (fun k_ => (P0_ k_ ∨ w.heap.size ≤ k_)) u9000_ l0) ∧ Aside0 (Kept w w' (fun k_ => P0_ k_)) ∧ Aside0 (Below w0.heap.size w0 w'))
 case atStart => exact ⟨(0), rs_, H', ⟨Nat.le_refl _⟩, ⟨pR_ HO0.out⟩, ⟨by repeat (first | (with_reducible first | exact HK.out | apply Kept.alloc | apply Kept.drewN | apply Kept.drew) | exact HK.out)⟩, ⟨bl_⟩⟩
 case round =>
  clear H'
  try clear p2
  obtain ⟨x5_1, rfl, HA, HK1, HO_0, HK, HB⟩ := hrel
  cases gk with
  | zero => exact absurd HA.out (by simp [exactpplref19_add.l0])
  | succ k1 =>
   have H := HA.out
   clear HA
   simp only [exactpplref19_add.l0] at H
   by_cases c3 : x5_1 < (l0.length : Int)
   ·rw [if_pos c3] at H
    have c3b0 : decide (x5_1 < (l0.length : Int)) = true := decide_eq_true c3
    clear c3
    by_cases c4 : 0 ≤ x5_1
    ·rw [if_pos c4] at H
     have c4b0 : decide (0 ≤ x5_1) = true := decide_eq_true c4
     clear c4
     by_cases c5 : (rd l0 x5_1) < a1
     ·rw [if_pos c5] at H
      have c5b0 : decide ((rd l0 x5_1) < a1) = true := decide_eq_true c5
      clear c5
      have H' := Aside0.mk H
      clear H
      obtain ⟨Ao6, co6, eo6⟩ := Kd.R_slice HO_0.out
      subst eo6
      have p782 : 0 ≤ (x5_1 : Int) := dt_
      have q782 : x5_1 < (l0.length : Int) := dt_
      obtain ⟨ad782, e782, hx782_0⟩ := Kd.at_int (Kd.R_reads' HO_0.out).2.2 x5_1 p782 q782
      cases e782
      replace p782 := eq_true p782
      replace q782 := eq_true q782
      go_wp2
      go_roundg k1
      case measure => have := HK1.out; omega
      case rel => exact ⟨(wrap64 (x5_1 + 1)), rs_, H', ⟨by have := HK1.out; omega⟩, ⟨pR_ HO_0.out⟩, ⟨by repeat (first | (with_reducible first | exact HK.out | apply Kept.alloc | apply Kept.drewN | apply Kept.drew) | exact HK.out)⟩, ⟨bl_⟩⟩
     ·rw [if_neg c5] at H
      have c5b0 : decide ((rd l0 x5_1) < a1) = false := decide_eq_false c5
      clear c5
      by_cases c7 : (rd l0 x5_1) = a1
      ·rw [if_pos c7] at H
       have c7b0 : ((rd l0 x5_1) == a1) = true := beq_iff_eq.mpr c7
       have c7b1 : ((rd l0 x5_1) != a1) = false := bne_eq_false_iff_eq.mpr c7
       clear c7
       obtain rfl := Option.some.inj H
       obtain ⟨Ao8, co8, eo8⟩ := Kd.R_slice HO_0.out
       subst eo8
       have p782 : 0 ≤ (x5_1 : Int) := dt_
       have q782 : x5_1 < (l0.length : Int) := dt_
       obtain ⟨ad782, e782, hx782_0⟩ := Kd.at_int (Kd.R_reads' HO_0.out).2.2 x5_1 p782 q782
       cases e782
       replace p782 := eq_true p782
       replace q782 := eq_true q782
       have p783 : 0 ≤ (x5_1 : Int) := dt_
       have q783 : x5_1 < (l0.length : Int) := dt_
       obtain ⟨ad783, e783, hx783_0⟩ := Kd.at_int (Kd.R_reads' HO_0.out).2.2 x5_1 p783 q783
       obtain rfl : ad782 = ad783 := (by injection e783)
       replace p783 := eq_true p783
       replace q783 := eq_true q783
       go_wp2
       go_ret
       exact ⟨_, re_, pR_ HO_0.out, bl_, by repeat (first | (with_reducible first | exact HK.out | apply Kept.alloc | apply Kept.drewN | apply Kept.drew) | exact HK.out)⟩
      ·rw [if_neg c7] at H
       have c7b0 : ((rd l0 x5_1) == a1) = false := beq_eq_false_iff_ne.mpr c7
       have c7b1 : ((rd l0 x5_1) != a1) = true := bne_iff_ne.mpr c7
       have c9b0 := eq_true (dt_ : 0 ≤ x5_1)
       by_cases c10 : x5_1 ≤ (l0.length : Int)
       ·rw [if_pos c10] at H
        have c10b0 := eq_true c10
        have c10b1 : decide (x5_1 ≤ (l0.length : Int)) = true := decide_eq_true c10
        clear c10
        obtain ⟨y784, hy784⟩ : ∃ y_ : List Int, y_ = (l0.take (x5_1 : Int).toNat) := ⟨_, rfl⟩
        replace H : (if ([] : List Int).length + y784.length < 17592186044416 then ((some (([] : List Int) ++ y784 : List Int)).bind fun y788 => (if y788.length < 17592186044416 then ((some (y788 ++ [a1] : List Int)).bind fun y791 => ((some (l0.drop (x5_1 : Int).toNat : List Int)).bind fun y794 => (if y791.length + y794.length < 17592186044416 then (some (y791 ++ y794)) else (none)))) else (none))) else (none)) = some r := by first | (rw [hy784]; with_reducible exact H) | (have H2_ := (Option.bind_some _ _).symm.trans H; rw [hy784]; with_reducible exact H2_) | (have H2_ := (Option.bind_some _ _).symm.trans H; with_reducible exact H2_) | with_reducible exact H | (rw [hy784]; exact H) | exact H
        have Ny784 := Aside0.mk hy784
        clear hy784
        by_cases c11 : ([] : List Int).length + y784.length < 17592186044416
        ·rw [if_pos c11] at H
         have LMc11 := Aside0.mk c11
         clear c11
         obtain ⟨y788, hy788⟩ : ∃ y_ : List Int, y_ = (([] : List Int) ++ y784) := ⟨_, rfl⟩
         replace H : (if y788.length < 17592186044416 then ((some (y788 ++ [a1] : List Int)).bind fun y791 => ((some (l0.drop (x5_1 : Int).toNat : List Int)).bind fun y794 => (if y791.length + y794.length < 17592186044416 then (some (y791 ++ y794)) else (none)))) else (none)) = some r := by first | (rw [hy788]; with_reducible exact H) | (have H2_ := (Option.bind_some _ _).symm.trans H; rw [hy788]; with_reducible exact H2_) | (have H2_ := (Option.bind_some _ _).symm.trans H; with_reducible exact H2_) | with_reducible exact H | (rw [hy788]; exact H) | exact H
         have Ny788 := Aside0.mk hy788
         clear hy788
         by_cases c12 : y788.length < 17592186044416
         ·rw [if_pos c12] at H
          have LMc12 := Aside0.mk c12
          clear c12
          obtain ⟨y791, hy791⟩ : ∃ y_ : List Int, y_ = (y788 ++ [a1]) := ⟨_, rfl⟩
          replace H : ((some (l0.drop (x5_1 : Int).toNat : List Int)).bind fun y794 => (if y791.length + y794.length < 17592186044416 then (some (y791 ++ y794)) else (none))) = some r := by first | (rw [hy791]; with_reducible exact H) | (have H2_ := (Option.bind_some _ _).symm.trans H; rw [hy791]; with_reducible exact H2_) | (have H2_ := (Option.bind_some _ _).symm.trans H; with_reducible exact H2_) | with_reducible exact H | (rw [hy791]; exact H) | exact H
          have Ny791 := Aside0.mk hy791
          clear hy791
          have c13b0 := eq_true (dt_ : 0 ≤ x5_1)
          have c14b0 := eq_true (dt_ : x5_1 ≤ (l0.length : Int))
          obtain ⟨y794, hy794⟩ : ∃ y_ : List Int, y_ = (l0.drop (x5_1 : Int).toNat) := ⟨_, rfl⟩
          replace H : (if y791.length + y794.length < 17592186044416 then (some (y791 ++ y794)) else (none)) = some r := by first | (rw [hy794]; with_reducible exact H) | (have H2_ := (Option.bind_some _ _).symm.trans H; rw [hy794]; with_reducible exact H2_) | (have H2_ := (Option.bind_some _ _).symm.trans H; with_reducible exact H2_) | with_reducible exact H | (rw [hy794]; exact H) | exact H
          have Ny794 := Aside0.mk hy794
          clear hy794
          by_cases c15 : y791.length + y794.length < 17592186044416
          ·rw [if_pos c15] at H
           have LMc15 := Aside0.mk c15
           clear c15
           obtain ⟨y798, hy798⟩ : ∃ y_ : List Int, y_ = (y791 ++ y794) := ⟨_, rfl⟩
           replace H : (some y798) = some r := by first | (rw [hy798]; with_reducible exact H) | (have H2_ := (Option.bind_some _ _).symm.trans H; rw [hy798]; with_reducible exact H2_) | (have H2_ := (Option.bind_some _ _).symm.trans H; with_reducible exact H2_) | with_reducible exact H | (rw [hy798]; exact H) | exact H
           have Ny798 := Aside0.mk hy798
           clear hy798
           obtain rfl := Option.some.inj H
           obtain ⟨Ao16, co16, eo16⟩ := Kd.R_slice HO_0.out
           subst eo16
           have p782 : 0 ≤ (x5_1 : Int) := dt_
           have q782 : x5_1 < (l0.length : Int) := dt_
           obtain ⟨ad782, e782, hx782_0⟩ := Kd.at_int (Kd.R_reads' HO_0.out).2.2 x5_1 p782 q782
           cases e782
           replace p782 := eq_true p782
           replace q782 := eq_true q782
           have p783 : 0 ≤ (x5_1 : Int) := dt_
           have q783 : x5_1 < (l0.length : Int) := dt_
           obtain ⟨ad783, e783, hx783_0⟩ := Kd.at_int (Kd.R_reads' HO_0.out).2.2 x5_1 p783 q783
           obtain rfl : ad782 = ad783 := (by injection e783)
           replace p783 := eq_true p783
           replace q783 := eq_true q783
           have q17 : (x5_1 : Int) ≤ ((l0.length : Int) : Int) := dt_
           obtain ⟨i017, hi017, _, hsz17, _⟩ := info_parts info3
           have hroom17 : l0.length ≤ co16 := (Kd.R_reads' HO_0.out).2.1
           have hC17 : Kd.C (Kd.int .i64) _ (some ad782) l0.length l0 := (Kd.R_reads' HO_0.out).2.2
           have hcut17 := cut_to (P := Tryd.prog) 22 3 .i64 Tryd.underlying22 hi017 (some ad782) l0.length co16 x5_1 (dt_) q17 hroom17
           have hr17 := Kd.C_take (m := (x5_1 : Int).toNat) hC17 (by omega)
           have hy17 : y784.length = (x5_1 : Int).toNat := (by rw [Ny784.out, List.length_take]; omega)
           rw [← Ny784.out] at hr17
           rw [← hy17] at hcut17
           have HR787 := Aside0.mk hr17
           have HC787 := Aside0.mk (show y784.length ≤ co16 from by omega)
           clear hr17 hC17 hroom17 hi017 hsz17
           have KY17 := Aside0.mk hy17
           clear hy17
           have KL17 := Aside0.mk (show (x5_1 : Int).toNat ≤ l0.length from by omega)
           replace q17 := eq_true q17
           go_wp2_with (first | ((with_reducible refine gate_builtin (b := .append) (xs := #[.const (.slice none 0 0), .tmp 36]) rfl ?_); at_builtin; refine Kd.R_append_rows (Kd.int .i64) (w0 := w0) w0.heap.size rfl (.const (.slice none 0 0)) (.tmp 36) 22 3 (.int .i64 0) 8 rfl Tryd.underlying22 info3 rfl (by decide) (by omega) (.slice none 0 0) ([] : List Int) y784 _ _ _ (fun k_ => (P0_ k_ ∨ w.heap.size ≤ k_) ∧ some k_ ≠ (.slice (some ad782) l0.length co16 : Value).ownBlock) (fun _ => False) rfl rfl ?aO ?aR (fun _ _ h => h) (fun _ h => h.elim) ?aF ?aB ?aS ?aL ?_; (case aR => repeat (first | exact (by repeat (first | (with_reducible exact HR787.out) | (with_reducible refine Kd.C_alloc ?_ _) | (with_reducible refine Kd.C_drewN ?_ _) | (with_reducible refine Kd.C_drew ?_) | exact HR787.out)) | (with_reducible refine Kd.C_alloc ?_ _) | (with_reducible refine Kd.C_drewN ?_ _) | (with_reducible refine Kd.C_drew ?_))); (case aB => exact bl_); (case aF => exact (fun k_ hk => ⟨(.inr (Nat.le_trans (by first | exact HK.out.1 | exact (show Kept w _ (fun k_ => P0_ k_) from by repeat (first | (with_reducible first | exact HK.out | apply Kept.alloc | apply Kept.drewN | apply Kept.drew) | exact HK.out)).1) hk)), Kd.fresh' (Kd.R_lt (pR_ HO_0.out)) k_ hk⟩)); (case aO => exact ((Kd.R_nil _ _ _ _ (fun k_ => (P0_ k_ ∨ w.heap.size ≤ k_) ∧ some k_ ≠ (.slice (some ad782) l0.length co16 : Value).ownBlock)))); (case aS => exact (below_size bl_)); (case aL => have := LMc11.out; omega); intro v789 w18 ho hb hg hat; rw [← Ny788.out] at ho; have HO790 := Aside0.mk (ho); replace HB := Aside0.mk (hb); replace HK := Aside0.mk (Kept.of_grown (S := (fun k_ => P0_ k_)) hg (by repeat (first | (with_reducible first | exact HK.out | apply Kept.alloc | apply Kept.drewN | apply Kept.drew) | exact HK.out)) (fun k_ e_ => by simp [Value.ownBlock] at e_)); replace HR787 := Aside0.mk ((show Kd.C (Kd.int .i64) w18 (some ad782) y784.length y784 from by rw [Ny784.out]; exact Kd.C_take (m := (x5_1 : Int).toNat) ((Kd.R_reads' (Kd.R_after (Kd.R_apart_nil (pR_ HO_0.out)) hg hat)).2.2) KL17.out)); replace HO_0 := Aside0.mk (Kd.R_after (Kd.R_apart_nil (pR_ HO_0.out)) hg hat); clear ho hb hg hat) | ((with_reducible refine gate_builtin (b := .append) (xs := #[.tmp 38, .tmp 40]) rfl ?_); at_builtin; refine Kd.R_append (Kd.int .i64) (w0 := w0) w0.heap.size rfl (.tmp 38) (.tmp 40) 22 3 (.int .i64 0) 8 rfl Tryd.underlying22 info3 rfl (by decide) (by omega) v789 y788 a1 [.int .i64 a1] (fun k_ => (P0_ k_ ∨ w.heap.size ≤ k_) ∧ some k_ ≠ (.slice (some ad782) l0.length co16 : Value).ownBlock) (fun _ => False) rfl rfl ?aP (fun _ hk => hk.elim) ?aF ?aO ?aB ?aS ?aL ?_; (case aP => exact rfl); (case aB => exact bl_); (case aF => exact (fun k_ hk => ⟨(.inr (Nat.le_trans (by first | exact HK.out.1 | exact (show Kept w _ (fun k_ => P0_ k_) from by repeat (first | (with_reducible first | exact HK.out | apply Kept.alloc | apply Kept.drewN | apply Kept.drew) | exact HK.out)).1) hk)), Kd.fresh' (Kd.R_lt (pR_ HO_0.out)) k_ hk⟩)); (case aO => exact (pR_ HO790.out)); (case aS => exact (below_size bl_)); (case aL => have := LMc12.out; omega); intro v792 w19 ho hb hg hat; rw [← Ny791.out] at ho; have HO793 := Aside0.mk (ho); replace HB := Aside0.mk (hb); replace HK := Aside0.mk (Kept.of_grown (S := (fun k_ => P0_ k_)) hg (by repeat (first | (with_reducible first | exact HK.out | apply Kept.alloc | apply Kept.drewN | apply Kept.drew) | exact HK.out)) (fun k_ e_ => (HO790.out.1 k_ e_).1)); replace HR787 := Aside0.mk ((show Kd.C (Kd.int .i64) w19 (some ad782) y784.length y784 from by rw [Ny784.out]; exact Kd.C_take (m := (x5_1 : Int).toNat) ((Kd.R_reads' (Kd.R_after (ok := (fun k_ => (P0_ k_ ∨ w.heap.size ≤ k_))) (pR_ HO_0.out) hg hat)).2.2) KL17.out)); replace HO_0 := Aside0.mk (Kd.R_after (ok := (fun k_ => (P0_ k_ ∨ w.heap.size ≤ k_))) (pR_ HO_0.out) hg hat); clear HO790; clear ho hb hg hat; have q20 : (x5_1 : Int) ≤ ((l0.length : Int) : Int) := dt_; obtain ⟨i020, hi020, _, hsz20, _⟩ := info_parts info3; have hroom20 : l0.length ≤ co16 := (Kd.R_reads' HO_0.out).2.1; have hC20 : Kd.C (Kd.int .i64) _ (some ad782) l0.length l0 := (Kd.R_reads' HO_0.out).2.2; have q020 : (0 : Int) ≤ (x5_1 : Int) := dt_; have hcut20 := cut_from (P := Tryd.prog) 22 3 .i64 Tryd.underlying22 hi020 1 hsz20 (some ad782) l0.length co16 x5_1 q020 q20; have hr20 := Kd.C_drop (m := (x5_1 : Int).toNat) (c := co16) hC20 (by omega) hroom20; obtain ⟨A20, hA20⟩ : ∃ A9_, A9_ = (if co16 = (x5_1 : Int).toNat then (some ad782) else ((some ad782) : Option Addr).map (·.add ((x5_1 : Int).toNat * 1))) := ⟨_, rfl⟩; obtain ⟨c20, hc20⟩ : ∃ c9_, c9_ = co16 - (x5_1 : Int).toNat := ⟨_, rfl⟩; have hy20 : y794.length = l0.length - (x5_1 : Int).toNat := (by rw [Ny794.out, List.length_drop] <;> omega); rw [show (l0).drop (x5_1 : Int).toNat = y794 from Ny794.out.symm] at hr20; replace hr20 : Kd.C (Kd.int .i64) _ A20 y794.length y794 := (by rw [hA20]; exact hr20); rw [← hy20, ← hA20, ← hc20] at hcut20; have HR797 := Aside0.mk hr20; have HC797 := Aside0.mk (show y794.length ≤ c20 from by rw [hy20, hc20]; exact Nat.sub_le_sub_right hroom20 _); clear hr20 hC20 hroom20 hi020 hsz20 hc20; have KY20 := Aside0.mk hy20; have KA20 := Aside0.mk hA20; clear hy20 hA20; have KL20 := Aside0.mk (show (x5_1 : Int).toNat ≤ l0.length from by omega); replace q20 := eq_true q20) | ((with_reducible refine gate_builtin (b := .append) (xs := #[.tmp 42, .tmp 45]) rfl ?_); at_builtin; refine Kd.R_append_rows (Kd.int .i64) (w0 := w0) w0.heap.size rfl (.tmp 42) (.tmp 45) 22 3 (.int .i64 0) 8 rfl Tryd.underlying22 info3 rfl (by decide) (by omega) v792 y791 y794 _ _ _ (fun k_ => (P0_ k_ ∨ w.heap.size ≤ k_) ∧ some k_ ≠ (.slice (some ad782) l0.length co16 : Value).ownBlock) (fun _ => False) rfl rfl ?aO ?aR (fun _ _ h => h) (fun _ h => h.elim) ?aF ?aB ?aS ?aL ?_; (case aR => repeat (first | exact (by repeat (first | (with_reducible exact HR797.out) | (with_reducible refine Kd.C_alloc ?_ _) | (with_reducible refine Kd.C_drewN ?_ _) | (with_reducible refine Kd.C_drew ?_) | exact HR797.out)) | (with_reducible refine Kd.C_alloc ?_ _) | (with_reducible refine Kd.C_drewN ?_ _) | (with_reducible refine Kd.C_drew ?_))); (case aB => exact bl_); (case aF => exact (fun k_ hk => ⟨(.inr (Nat.le_trans (by first | exact HK.out.1 | exact (show Kept w _ (fun k_ => P0_ k_) from by repeat (first | (with_reducible first | exact HK.out | apply Kept.alloc | apply Kept.drewN | apply Kept.drew) | exact HK.out)).1) hk)), Kd.fresh' (Kd.R_lt (pR_ HO_0.out)) k_ hk⟩)); (case aO => exact (pR_ HO793.out)); (case aS => exact (below_size bl_)); (case aL => have := LMc15.out; omega); intro v799 w21 ho hb hg hat; rw [← Ny798.out] at ho; have HO800 := Aside0.mk (ho); replace HB := Aside0.mk (hb); replace HK := Aside0.mk (Kept.of_grown (S := (fun k_ => P0_ k_)) hg (by repeat (first | (with_reducible first | exact HK.out | apply Kept.alloc | apply Kept.drewN | apply Kept.drew) | exact HK.out)) (fun k_ e_ => (HO793.out.1 k_ e_).1)); replace HR787 := Aside0.mk ((show Kd.C (Kd.int .i64) w21 (some ad782) y784.length y784 from by rw [Ny784.out]; exact Kd.C_take (m := (x5_1 : Int).toNat) ((Kd.R_reads' (Kd.R_after (ok := (fun k_ => (P0_ k_ ∨ w.heap.size ≤ k_))) (pR_ HO_0.out) hg hat)).2.2) KL17.out)); replace HR797 := Aside0.mk ((show Kd.C (Kd.int .i64) w21 A20 y794.length y794 from by rw [Ny794.out, KA20.out]; exact Kd.C_drop (m := (x5_1 : Int).toNat) (c := co16) ((Kd.R_reads' (Kd.R_after (ok := (fun k_ => (P0_ k_ ∨ w.heap.size ≤ k_))) (pR_ HO_0.out) hg hat)).2.2) KL20.out ((Kd.R_reads' (Kd.R_after (ok := (fun k_ => (P0_ k_ ∨ w.heap.size ≤ k_))) (pR_ HO_0.out) hg hat)).2.1))); replace HO_0 := Aside0.mk (Kd.R_after (ok := (fun k_ => (P0_ k_ ∨ w.heap.size ≤ k_))) (pR_ HO_0.out) hg hat); clear HO793; clear ho hb hg hat))
           go_ret
           exact ⟨_, re_, by (with_reducible repeat (first | apply Kd.R_alloc | apply Kd.R_drewN | apply Kd.R_drew)); exact Kd.R_mono HO800.out (fun _ hk => hk.1), bl_, by repeat (first | (with_reducible first | exact HK.out | apply Kept.alloc | apply Kept.drewN | apply Kept.drew) | exact HK.out)⟩
          ·rw [if_neg c15] at H
           exact absurd H (by simp)
         ·rw [if_neg c12] at H
          exact absurd H (by simp)
        ·rw [if_neg c11] at H
         exact absurd H (by simp)
       ·rw [if_neg c10] at H
        exact absurd H (by simp)
    ·rw [if_neg c4] at H
     exact absurd H (by simp)
   ·rw [if_neg c3] at H
    have c3b0 : decide (x5_1 < (l0.length : Int)) = false := decide_eq_false c3
    clear c3
    by_cases c22 : 0 ≤ x5_1
    ·rw [if_pos c22] at H
     have c22b0 := eq_true c22
     have c22b1 : decide (0 ≤ x5_1) = true := decide_eq_true c22
     clear c22
     by_cases c23 : x5_1 ≤ (l0.length : Int)
     ·rw [if_pos c23] at H
      have c23b0 := eq_true c23
      have c23b1 : decide (x5_1 ≤ (l0.length : Int)) = true := decide_eq_true c23
      clear c23
      obtain ⟨y801, hy801⟩ : ∃ y_ : List Int, y_ = (l0.take (x5_1 : Int).toNat) := ⟨_, rfl⟩
      replace H : (if ([] : List Int).length + y801.length < 17592186044416 then ((some (([] : List Int) ++ y801 : List Int)).bind fun y805 => (if y805.length < 17592186044416 then ((some (y805 ++ [a1] : List Int)).bind fun y808 => ((some (l0.drop (x5_1 : Int).toNat : List Int)).bind fun y811 => (if y808.length + y811.length < 17592186044416 then (some (y808 ++ y811)) else (none)))) else (none))) else (none)) = some r := by first | (rw [hy801]; with_reducible exact H) | (have H2_ := (Option.bind_some _ _).symm.trans H; rw [hy801]; with_reducible exact H2_) | (have H2_ := (Option.bind_some _ _).symm.trans H; with_reducible exact H2_) | with_reducible exact H | (rw [hy801]; exact H) | exact H
      have Ny801 := Aside0.mk hy801
      clear hy801
      by_cases c24 : ([] : List Int).length + y801.length < 17592186044416
      ·rw [if_pos c24] at H
       have LMc24 := Aside0.mk c24
       clear c24
       obtain ⟨y805, hy805⟩ : ∃ y_ : List Int, y_ = (([] : List Int) ++ y801) := ⟨_, rfl⟩
       replace H : (if y805.length < 17592186044416 then ((some (y805 ++ [a1] : List Int)).bind fun y808 => ((some (l0.drop (x5_1 : Int).toNat : List Int)).bind fun y811 => (if y808.length + y811.length < 17592186044416 then (some (y808 ++ y811)) else (none)))) else (none)) = some r := by first | (rw [hy805]; with_reducible exact H) | (have H2_ := (Option.bind_some _ _).symm.trans H; rw [hy805]; with_reducible exact H2_) | (have H2_ := (Option.bind_some _ _).symm.trans H; with_reducible exact H2_) | with_reducible exact H | (rw [hy805]; exact H) | exact H
       have Ny805 := Aside0.mk hy805
       clear hy805
       by_cases c25 : y805.length < 17592186044416
       ·rw [if_pos c25] at H
        have LMc25 := Aside0.mk c25
        clear c25
        obtain ⟨y808, hy808⟩ : ∃ y_ : List Int, y_ = (y805 ++ [a1]) := ⟨_, rfl⟩
        replace H : ((some (l0.drop (x5_1 : Int).toNat : List Int)).bind fun y811 => (if y808.length + y811.length < 17592186044416 then (some (y808 ++ y811)) else (none))) = some r := by first | (rw [hy808]; with_reducible exact H) | (have H2_ := (Option.bind_some _ _).symm.trans H; rw [hy808]; with_reducible exact H2_) | (have H2_ := (Option.bind_some _ _).symm.trans H; with_reducible exact H2_) | with_reducible exact H | (rw [hy808]; exact H) | exact H
        have Ny808 := Aside0.mk hy808
        clear hy808
        have c26b0 := eq_true (dt_ : 0 ≤ x5_1)
        have c27b0 := eq_true (dt_ : x5_1 ≤ (l0.length : Int))
        obtain ⟨y811, hy811⟩ : ∃ y_ : List Int, y_ = (l0.drop (x5_1 : Int).toNat) := ⟨_, rfl⟩
        replace H : (if y808.length + y811.length < 17592186044416 then (some (y808 ++ y811)) else (none)) = some r := by first | (rw [hy811]; with_reducible exact H) | (have H2_ := (Option.bind_some _ _).symm.trans H; rw [hy811]; with_reducible exact H2_) | (have H2_ := (Option.bind_some _ _).symm.trans H; with_reducible exact H2_) | with_reducible exact H | (rw [hy811]; exact H) | exact H
        have Ny811 := Aside0.mk hy811
        clear hy811
        by_cases c28 : y808.length + y811.length < 17592186044416
        ·rw [if_pos c28] at H
         have LMc28 := Aside0.mk c28
         clear c28
         obtain ⟨y815, hy815⟩ : ∃ y_ : List Int, y_ = (y808 ++ y811) := ⟨_, rfl⟩
         replace H : (some y815) = some r := by first | (rw [hy815]; with_reducible exact H) | (have H2_ := (Option.bind_some _ _).symm.trans H; rw [hy815]; with_reducible exact H2_) | (have H2_ := (Option.bind_some _ _).symm.trans H; with_reducible exact H2_) | with_reducible exact H | (rw [hy815]; exact H) | exact H
         have Ny815 := Aside0.mk hy815
         clear hy815
         obtain rfl := Option.some.inj H
         obtain ⟨Ao29, co29, eo29⟩ := Kd.R_slice HO_0.out
         subst eo29
         have q30 : (x5_1 : Int) ≤ ((l0.length : Int) : Int) := dt_
         obtain ⟨i030, hi030, _, hsz30, _⟩ := info_parts info3
         have hroom30 : l0.length ≤ co29 := (Kd.R_reads' HO_0.out).2.1
         have hC30 : Kd.C (Kd.int .i64) _ Ao29 l0.length l0 := (Kd.R_reads' HO_0.out).2.2
         have hcut30 := cut_to (P := Tryd.prog) 22 3 .i64 Tryd.underlying22 hi030 Ao29 l0.length co29 x5_1 (dt_) q30 hroom30
         have hr30 := Kd.C_take (m := (x5_1 : Int).toNat) hC30 (by omega)
         have hy30 : y801.length = (x5_1 : Int).toNat := (by rw [Ny801.out, List.length_take]; omega)
         rw [← Ny801.out] at hr30
         rw [← hy30] at hcut30
         have HR804 := Aside0.mk hr30
         have HC804 := Aside0.mk (show y801.length ≤ co29 from by omega)
         clear hr30 hC30 hroom30 hi030 hsz30
         have KY30 := Aside0.mk hy30
         clear hy30
         have KL30 := Aside0.mk (show (x5_1 : Int).toNat ≤ l0.length from by omega)
         replace q30 := eq_true q30
         go_wp2_with (first | ((with_reducible refine gate_builtin (b := .append) (xs := #[.const (.slice none 0 0), .tmp 36]) rfl ?_); at_builtin; refine Kd.R_append_rows (Kd.int .i64) (w0 := w0) w0.heap.size rfl (.const (.slice none 0 0)) (.tmp 36) 22 3 (.int .i64 0) 8 rfl Tryd.underlying22 info3 rfl (by decide) (by omega) (.slice none 0 0) ([] : List Int) y801 _ _ _ (fun k_ => (P0_ k_ ∨ w.heap.size ≤ k_) ∧ some k_ ≠ (.slice Ao29 l0.length co29 : Value).ownBlock) (fun _ => False) rfl rfl ?aO ?aR (fun _ _ h => h) (fun _ h => h.elim) ?aF ?aB ?aS ?aL ?_; (case aR => repeat (first | exact (by repeat (first | (with_reducible exact HR804.out) | (with_reducible refine Kd.C_alloc ?_ _) | (with_reducible refine Kd.C_drewN ?_ _) | (with_reducible refine Kd.C_drew ?_) | exact HR804.out)) | (with_reducible refine Kd.C_alloc ?_ _) | (with_reducible refine Kd.C_drewN ?_ _) | (with_reducible refine Kd.C_drew ?_))); (case aB => exact bl_); (case aF => exact (fun k_ hk => ⟨(.inr (Nat.le_trans (by first | exact HK.out.1 | exact (show Kept w _ (fun k_ => P0_ k_) from by repeat (first | (with_reducible first | exact HK.out | apply Kept.alloc | apply Kept.drewN | apply Kept.drew) | exact HK.out)).1) hk)), Kd.fresh' (Kd.R_lt (pR_ HO_0.out)) k_ hk⟩)); (case aO => exact ((Kd.R_nil _ _ _ _ (fun k_ => (P0_ k_ ∨ w.heap.size ≤ k_) ∧ some k_ ≠ (.slice Ao29 l0.length co29 : Value).ownBlock)))); (case aS => exact (below_size bl_)); (case aL => have := LMc24.out; omega); intro v806 w31 ho hb hg hat; rw [← Ny805.out] at ho; have HO807 := Aside0.mk (ho); replace HB := Aside0.mk (hb); replace HK := Aside0.mk (Kept.of_grown (S := (fun k_ => P0_ k_)) hg (by repeat (first | (with_reducible first | exact HK.out | apply Kept.alloc | apply Kept.drewN | apply Kept.drew) | exact HK.out)) (fun k_ e_ => by simp [Value.ownBlock] at e_)); replace HR804 := Aside0.mk ((show Kd.C (Kd.int .i64) w31 Ao29 y801.length y801 from by rw [Ny801.out]; exact Kd.C_take (m := (x5_1 : Int).toNat) ((Kd.R_reads' (Kd.R_after (Kd.R_apart_nil (pR_ HO_0.out)) hg hat)).2.2) KL30.out)); replace HO_0 := Aside0.mk (Kd.R_after (Kd.R_apart_nil (pR_ HO_0.out)) hg hat); clear ho hb hg hat) | ((with_reducible refine gate_builtin (b := .append) (xs := #[.tmp 38, .tmp 40]) rfl ?_); at_builtin; refine Kd.R_append (Kd.int .i64) (w0 := w0) w0.heap.size rfl (.tmp 38) (.tmp 40) 22 3 (.int .i64 0) 8 rfl Tryd.underlying22 info3 rfl (by decide) (by omega) v806 y805 a1 [.int .i64 a1] (fun k_ => (P0_ k_ ∨ w.heap.size ≤ k_) ∧ some k_ ≠ (.slice Ao29 l0.length co29 : Value).ownBlock) (fun _ => False) rfl rfl ?aP (fun _ hk => hk.elim) ?aF ?aO ?aB ?aS ?aL ?_; (case aP => exact rfl); (case aB => exact bl_); (case aF => exact (fun k_ hk => ⟨(.inr (Nat.le_trans (by first | exact HK.out.1 | exact (show Kept w _ (fun k_ => P0_ k_) from by repeat (first | (with_reducible first | exact HK.out | apply Kept.alloc | apply Kept.drewN | apply Kept.drew) | exact HK.out)).1) hk)), Kd.fresh' (Kd.R_lt (pR_ HO_0.out)) k_ hk⟩)); (case aO => exact (pR_ HO807.out)); (case aS => exact (below_size bl_)); (case aL => have := LMc25.out; omega); intro v809 w32 ho hb hg hat; rw [← Ny808.out] at ho; have HO810 := Aside0.mk (ho); replace HB := Aside0.mk (hb); replace HK := Aside0.mk (Kept.of_grown (S := (fun k_ => P0_ k_)) hg (by repeat (first | (with_reducible first | exact HK.out | apply Kept.alloc | apply Kept.drewN | apply Kept.drew) | exact HK.out)) (fun k_ e_ => (HO807.out.1 k_ e_).1)); replace HR804 := Aside0.mk ((show Kd.C (Kd.int .i64) w32 Ao29 y801.length y801 from by rw [Ny801.out]; exact Kd.C_take (m := (x5_1 : Int).toNat) ((Kd.R_reads' (Kd.R_after (ok := (fun k_ => (P0_ k_ ∨ w.heap.size ≤ k_))) (pR_ HO_0.out) hg hat)).2.2) KL30.out)); replace HO_0 := Aside0.mk (Kd.R_after (ok := (fun k_ => (P0_ k_ ∨ w.heap.size ≤ k_))) (pR_ HO_0.out) hg hat); clear HO807; clear ho hb hg hat; have q33 : (x5_1 : Int) ≤ ((l0.length : Int) : Int) := dt_; obtain ⟨i033, hi033, _, hsz33, _⟩ := info_parts info3; have hroom33 : l0.length ≤ co29 := (Kd.R_reads' HO_0.out).2.1; have hC33 : Kd.C (Kd.int .i64) _ Ao29 l0.length l0 := (Kd.R_reads' HO_0.out).2.2; have q033 : (0 : Int) ≤ (x5_1 : Int) := dt_; have hcut33 := cut_from (P := Tryd.prog) 22 3 .i64 Tryd.underlying22 hi033 1 hsz33 Ao29 l0.length co29 x5_1 q033 q33; have hr33 := Kd.C_drop (m := (x5_1 : Int).toNat) (c := co29) hC33 (by omega) hroom33; obtain ⟨A33, hA33⟩ : ∃ A9_, A9_ = (if co29 = (x5_1 : Int).toNat then Ao29 else (Ao29 : Option Addr).map (·.add ((x5_1 : Int).toNat * 1))) := ⟨_, rfl⟩; obtain ⟨c33, hc33⟩ : ∃ c9_, c9_ = co29 - (x5_1 : Int).toNat := ⟨_, rfl⟩; have hy33 : y811.length = l0.length - (x5_1 : Int).toNat := (by rw [Ny811.out, List.length_drop] <;> omega); rw [show (l0).drop (x5_1 : Int).toNat = y811 from Ny811.out.symm] at hr33; replace hr33 : Kd.C (Kd.int .i64) _ A33 y811.length y811 := (by rw [hA33]; exact hr33); rw [← hy33, ← hA33, ← hc33] at hcut33; have HR814 := Aside0.mk hr33; have HC814 := Aside0.mk (show y811.length ≤ c33 from by rw [hy33, hc33]; exact Nat.sub_le_sub_right hroom33 _); clear hr33 hC33 hroom33 hi033 hsz33 hc33; have KY33 := Aside0.mk hy33; have KA33 := Aside0.mk hA33; clear hy33 hA33; have KL33 := Aside0.mk (show (x5_1 : Int).toNat ≤ l0.length from by omega); replace q33 := eq_true q33) | ((with_reducible refine gate_builtin (b := .append) (xs := #[.tmp 42, .tmp 45]) rfl ?_); at_builtin; refine Kd.R_append_rows (Kd.int .i64) (w0 := w0) w0.heap.size rfl (.tmp 42) (.tmp 45) 22 3 (.int .i64 0) 8 rfl Tryd.underlying22 info3 rfl (by decide) (by omega) v809 y808 y811 _ _ _ (fun k_ => (P0_ k_ ∨ w.heap.size ≤ k_) ∧ some k_ ≠ (.slice Ao29 l0.length co29 : Value).ownBlock) (fun _ => False) rfl rfl ?aO ?aR (fun _ _ h => h) (fun _ h => h.elim) ?aF ?aB ?aS ?aL ?_; (case aR => repeat (first | exact (by repeat (first | (with_reducible exact HR814.out) | (with_reducible refine Kd.C_alloc ?_ _) | (with_reducible refine Kd.C_drewN ?_ _) | (with_reducible refine Kd.C_drew ?_) | exact HR814.out)) | (with_reducible refine Kd.C_alloc ?_ _) | (with_reducible refine Kd.C_drewN ?_ _) | (with_reducible refine Kd.C_drew ?_))); (case aB => exact bl_); (case aF => exact (fun k_ hk => ⟨(.inr (Nat.le_trans (by first | exact HK.out.1 | exact (show Kept w _ (fun k_ => P0_ k_) from by repeat (first | (with_reducible first | exact HK.out | apply Kept.alloc | apply Kept.drewN | apply Kept.drew) | exact HK.out)).1) hk)), Kd.fresh' (Kd.R_lt (pR_ HO_0.out)) k_ hk⟩)); (case aO => exact (pR_ HO810.out)); (case aS => exact (below_size bl_)); (case aL => have := LMc28.out; omega); intro v816 w34 ho hb hg hat; rw [← Ny815.out] at ho; have HO817 := Aside0.mk (ho); replace HB := Aside0.mk (hb); replace HK := Aside0.mk (Kept.of_grown (S := (fun k_ => P0_ k_)) hg (by repeat (first | (with_reducible first | exact HK.out | apply Kept.alloc | apply Kept.drewN | apply Kept.drew) | exact HK.out)) (fun k_ e_ => (HO810.out.1 k_ e_).1)); replace HR804 := Aside0.mk ((show Kd.C (Kd.int .i64) w34 Ao29 y801.length y801 from by rw [Ny801.out]; exact Kd.C_take (m := (x5_1 : Int).toNat) ((Kd.R_reads' (Kd.R_after (ok := (fun k_ => (P0_ k_ ∨ w.heap.size ≤ k_))) (pR_ HO_0.out) hg hat)).2.2) KL30.out)); replace HR814 := Aside0.mk ((show Kd.C (Kd.int .i64) w34 A33 y811.length y811 from by rw [Ny811.out, KA33.out]; exact Kd.C_drop (m := (x5_1 : Int).toNat) (c := co29) ((Kd.R_reads' (Kd.R_after (ok := (fun k_ => (P0_ k_ ∨ w.heap.size ≤ k_))) (pR_ HO_0.out) hg hat)).2.2) KL33.out ((Kd.R_reads' (Kd.R_after (ok := (fun k_ => (P0_ k_ ∨ w.heap.size ≤ k_))) (pR_ HO_0.out) hg hat)).2.1))); replace HO_0 := Aside0.mk (Kd.R_after (ok := (fun k_ => (P0_ k_ ∨ w.heap.size ≤ k_))) (pR_ HO_0.out) hg hat); clear HO810; clear ho hb hg hat))
         go_ret
         exact ⟨_, re_, by (with_reducible repeat (first | apply Kd.R_alloc | apply Kd.R_drewN | apply Kd.R_drew)); exact Kd.R_mono HO817.out (fun _ hk => hk.1), bl_, by repeat (first | (with_reducible first | exact HK.out | apply Kept.alloc | apply Kept.drewN | apply Kept.drew) | exact HK.out)⟩
        ·rw [if_neg c28] at H
         exact absurd H (by simp)
       ·rw [if_neg c25] at H
        exact absurd H (by simp)
      ·rw [if_neg c24] at H
       exact absurd H (by simp)
     ·rw [if_neg c23] at H
      exact absurd H (by simp)
    ·rw [if_neg c22] at H
     exact absurd H (by simp)

end Go.Proofs.YtopbjginpmdebaaDoor.K
namespace Go.Proofs.YtopbjginpmdebaaDoor.K
open Go.RowKit Go.Proofs.YtopbjginpmdebaaDoorW.PrintWords Go.Proofs.YtopbjginpmdebaaDoorW.PrintLast Go.Proofs.YtopbjginpmdebaaDoorW.PrintMore
attribute [local go_sem] max2_int min2_int max_two min_two max_three min_three max_four min_four   -- for this text's walks alone
set_option linter.unusedVariables false
set_option linter.unusedSimpArgs false

/-! ### exactpplref19_Sites: function 38 -/
def exactpplref19_Sites.l0 : Nat → List Int → Int → List (S60) → Option (List Int × Int)
 | 0, _, _, _ => none
 | k + 1, x5, x6, x819000 => if x6 < (x819000.length : Int) then (if 0 ≤ x6 then ((exactpplref19_IsBranch.f ((rd_T60 x819000 x6).f0) ((rd_T60 x819000 x6).f1) ((rd_T60 x819000 x6).f2)).bind fun t821 => (if t821 = true then ((exactpplref19_add.f k x5 ((rd_T60 x819000 x6).f0)).bind fun t823 => (exactpplref19_Sites.l0 k t823 (wrap64 (x6 + 1)) x819000)) else (exactpplref19_Sites.l0 k x5 (wrap64 (x6 + 1)) x819000))) else (none)) else (some (x5, 0))
def exactpplref19_Sites.f (k : Nat) (l0_0 : List (S60)) : Option (List Int × Int) := (exactpplref19_Validate.f k l0_0).bind fun t819 => (if t819 = 0 then (exactpplref19_Sites.l0 k ([] : List Int) 0 l0_0) else (some (([] : List Int), t819)))
theorem exactpplref19_Sites.mono_l : ∀ k, (∀ y0 y1 y2, LeO (exactpplref19_Sites.l0 k y0 y1 y2) (exactpplref19_Sites.l0 (k + 1) y0 y1 y2))
 | 0 => fun _ _ _ r h => by simp [exactpplref19_Sites.l0] at h
 | k + 1 => by
  have ih0 := exactpplref19_Sites.mono_l k
  ·intro y0 y1 y2
   unfold exactpplref19_Sites.l0
   repeat' first
   | (with_reducible exact ih0 _ _ _)
   | (with_reducible exact exactpplref19_Validate.mono _ _)
   | (with_reducible exact exactpplref19_add.mono _ _ _)
   | (with_reducible exact LeO.refl _)
   | (with_reducible exact LeO.none _)
   | (with_reducible refine LeO.ite ?_ ?_)
   | (with_reducible refine LeO.bind ?_ (fun _ => ?_))
   | exact ih0 _ _ _
   | exact exactpplref19_Validate.mono _ _
   | exact exactpplref19_add.mono _ _ _
   | exact LeO.none _
   | refine LeO.ite ?_ ?_
   | refine LeO.bind ?_ (fun _ => ?_)
theorem exactpplref19_Sites.mono : ∀ a0 k, LeO (exactpplref19_Sites.f k a0) (exactpplref19_Sites.f (k + 1) a0) := by
 intro a0 k
 have ih0 := exactpplref19_Sites.mono_l k
 unfold exactpplref19_Sites.f
 repeat' first
   | (with_reducible exact ih0 _ _ _)
   | (with_reducible exact exactpplref19_Validate.mono _ _)
   | (with_reducible exact exactpplref19_add.mono _ _ _)
   | (with_reducible exact LeO.refl _)
   | (with_reducible exact LeO.none _)
   | (with_reducible refine LeO.ite ?_ ?_)
   | (with_reducible refine LeO.bind ?_ (fun _ => ?_))
   | exact ih0 _ _ _
   | exact exactpplref19_Validate.mono _ _
   | exact exactpplref19_add.mono _ _ _
   | exact LeO.none _
   | refine LeO.ite ?_ ?_
   | refine LeO.bind ?_ (fun _ => ?_)
set_option maxHeartbeats 8000000 in
set_option maxRecDepth 100000 in
theorem exactpplref19_Sites.calls (k : Nat) (A0_0 : Option Addr) (c0_0 : Nat) (l0_0 : List (S60)) (r1 : List Int) (r2 : Int) (w : World) (hr0_0 : Kd.C k60 w A0_0 l0_0.length l0_0) (hc0_0 : l0_0.length ≤ c0_0) (h : exactpplref19_Sites.f k l0_0 = some (r1, r2)) :
  Calls Tryd.prog 38 #[.agg #[.slice A0_0 l0_0.length c0_0]] w fun e w' => ∃ v0_ : Value, e = .returned (.tuple #[v0_, .int .i64 r2]) ∧ Kd.R (Kd.int .i64) 3 w' w.heap.size (fun _ => True) v0_ r1 ∧ Below w.heap.size w w' := by
 have hu31 := Tryd.underlying31
 have hu60 := Tryd.underlying60
 have HR0_0 := Aside0.mk hr0_0
 have HC0_0 := Aside0.mk hc0_0
 clear hr0_0 hc0_0
 have HB := Aside0.mk (Below.refl w.heap.size w)
 have H : ((exactpplref19_Validate.f k l0_0).bind fun t819 => (if t819 = 0 then (exactpplref19_Sites.l0 k ([] : List Int) 0 l0_0) else (some (([] : List Int), t819)))) = some (r1, r2) := h
 clear h
 replace H := Option.bind_eq_some_iff.mp H
 obtain ⟨t819, A20, H⟩ := H
 replace H : (if t819 = 0 then (exactpplref19_Sites.l0 k ([] : List Int) 0 l0_0) else (some (([] : List Int), t819))) = some (r1, r2) := H
 have A2 := Aside0.mk A20
 clear A20
 by_cases c3 : t819 = 0
 ·rw [if_pos c3] at H
  have c3b0 : (t819 == 0) = true := beq_iff_eq.mpr c3
  have c3b1 : (t819 != 0) = false := bne_eq_false_iff_eq.mpr c3
  clear c3
  have H' := Aside0.mk H
  clear H
  go_enter Tryd.func38, Tryd.ntmps38
  go_wp2_with (first | ((with_reducible refine gate_dst (N := 1) rfl ?_); refine box_event ?hg (N := 1) ?hd (cs := #[.slice A0_0 l0_0.length c0_0]) (t := 31) ?hr ?_; (case hd => rfl); (case hg => rfl); (case hr => first | (go_simp; done) | (go_simp; rfl)); intro gb818 hg w4 hbox hb; have BK818 := Aside0.mk (hbox); have GW818 : Aside0 (w.heap.size ≤ gb818) := gw_ hg (below_size bl_); have GE818 := GW818; replace HB := Aside0.mk (below_step bl_ hb); clear hb hbox hg; obtain ⟨hcz5_0, hfz5_0⟩ := cf1_ BK818.out) | ((with_reducible refine gate_callee (f := 44) rfl ?_); refine goesL_ (some 8) rfl rfl Tryd.func44 (by kernel_rfl) rfl #[.agg #[.slice A0_0 l0_0.length c0_0]] rfl (by (try simp only [List.map_toArray, List.map_cons, List.map_nil]); first | done | rfl | (simp only [List.length_drop, List.length_take]; rfl)) ?_; (with_reducible refine (exactpplref19_Validate.calls k _ _ l0_0 t819 _ ?side1 ?side2 A2.out).mono ?_); (case side1 => repeat (first | exact (Kd.C_below HR0_0.out HB.out) | (with_reducible refine Kd.C_alloc ?_ _) | (with_reducible refine Kd.C_drewN ?_ _) | (with_reducible refine Kd.C_drew ?_))); (case side2 => exact HC0_0.out); rintro e w6 ⟨rfl, hb⟩; refine ⟨_, rfl, ?_⟩; replace BK818 := Aside0.mk (blk_below (g := gb818) (o := .cells #[.slice A0_0 l0_0.length c0_0] 31 (0, 0)) bk_ hb); replace HB := Aside0.mk (below_step bl_ hb); (try clear hb); (try clear hb2); (try clear hk); (try clear hi)))
  go_loopg [5, 6] k (fun kq v5 v6 w' => ∃ (x5_1 : List Int) (x6_1 : Int), v6 = .int .i64 x6_1 ∧ Aside0 (exactpplref19_Sites.l0 kq x5_1 x6_1 l0_0 = some (r1, r2)) ∧ Aside0 (kq ≤ k) ∧ Aside0 (Kd.R (Kd.int .i64) 3 w' w.heap.size (fun _ => True) v5 x5_1) ∧ Aside0 (w'.heap[gb818]? = some (.cells #[(.slice A0_0 l0_0.length c0_0)] 31 (0, 0))) ∧ Aside0 (Below w.heap.size w w'))
  case atStart => exact ⟨(([] : List Int)), (0), rs_, H', ⟨Nat.le_refl _⟩, ⟨by first | exact Kd.R_nil _ _ _ _ _ | exact Kd.N_nil _ _ _ _ _ | exact Kd.V_nil _ _ _ _ _ | exact Kd.Q_nil _ _ _ _ _ | exact Kd.S_nil _ _ _ _ _⟩, ⟨bk_⟩, ⟨bl_⟩⟩
  case round =>
   clear H'
   try clear p2
   try clear c3
   try clear c3b0
   try clear c3b1
   try clear c4
   try clear hcz5_0 hfz5_0
   obtain ⟨x5_1, x6_1, rfl, HA, HK1, HO_5, BK818, HB⟩ := hrel
   cases gk with
   | zero => exact absurd HA.out (by simp [exactpplref19_Sites.l0])
   | succ k1 =>
    have H := HA.out
    clear HA
    simp only [exactpplref19_Sites.l0] at H
    by_cases c7 : x6_1 < (l0_0.length : Int)
    ·rw [if_pos c7] at H
     have c7b0 : decide (x6_1 < (l0_0.length : Int)) = true := decide_eq_true c7
     clear c7
     by_cases c8 : 0 ≤ x6_1
     ·rw [if_pos c8] at H
      have c8b0 : decide (0 ≤ x6_1) = true := decide_eq_true c8
      clear c8
      replace H := Option.bind_eq_some_iff.mp H
      obtain ⟨t821, A90, H⟩ := H
      replace H : (if t821 = true then ((exactpplref19_add.f k1 x5_1 ((rd_T60 l0_0 x6_1).f0)).bind fun t823 => (exactpplref19_Sites.l0 k1 t823 (wrap64 (x6_1 + 1)) l0_0)) else (exactpplref19_Sites.l0 k1 x5_1 (wrap64 (x6_1 + 1)) l0_0)) = some (r1, r2) := H
      have A9 := Aside0.mk A90
      clear A90
      by_cases c10 : t821 = true
      ·subst c10
       have H1 : ((exactpplref19_add.f k1 x5_1 ((rd_T60 l0_0 x6_1).f0)).bind fun t823 => (exactpplref19_Sites.l0 k1 t823 (wrap64 (x6_1 + 1)) l0_0)) = some (r1, r2) := by rw [if_pos rfl] at H; exact H
       clear H
       have H := H1
       clear H1
       replace H := Option.bind_eq_some_iff.mp H
       obtain ⟨t823, A110, H⟩ := H
       replace H : (exactpplref19_Sites.l0 k1 t823 (wrap64 (x6_1 + 1)) l0_0) = some (r1, r2) := H
       have A11 := Aside0.mk A110
       clear A110
       have H' := Aside0.mk H
       clear H
       obtain ⟨hcz12_0, hfz12_0⟩ := cf1_ BK818.out
       have p820 : 0 ≤ (x6_1 : Int) := dt_
       have q820 : x6_1 < (l0_0.length : Int) := dt_
       obtain ⟨ad820, A820_2, c820_2, e820, hx820_0, hx820_1, hx820_2, hl820_2, hi820_2⟩ := at_T60 HR0_0.out x6_1 p820 q820
       cases e820
       replace hx820_0 := (HB.out.cell (World.block_lt_of_cell? w _ hx820_0)).trans hx820_0
       replace hx820_1 := (HB.out.cell (World.block_lt_of_cell? w _ hx820_1)).trans hx820_1
       replace hx820_2 := (HB.out.cell (World.block_lt_of_cell? w _ hx820_2)).trans hx820_2
       have HR820_2 := Aside0.mk hi820_2
       have HC820_2 := Aside0.mk hl820_2
       clear hi820_2 hl820_2
       replace p820 := eq_true p820
       replace q820 := eq_true q820
       go_wp2_with (first | ((with_reducible refine gate_callee (f := 55) rfl ?_); refine goesL_ (some 24) rfl rfl Tryd.func55 (by kernel_rfl) rfl #[.agg #[.int .i64 ((rd_T60 l0_0 x6_1).f0), .int .i64 ((rd_T60 l0_0 x6_1).f1), .slice A820_2 ((rd_T60 l0_0 x6_1).f2).length c820_2]] rfl (by (try simp only [List.map_toArray, List.map_cons, List.map_nil]); first | done | rfl | (simp only [List.length_drop, List.length_take]; rfl)) ?_; (with_reducible refine (exactpplref19_IsBranch.calls ((rd_T60 l0_0 x6_1).f0) ((rd_T60 l0_0 x6_1).f1) _ _ ((rd_T60 l0_0 x6_1).f2) true _ ?side1 ?side2 A9.out).mono ?_); (case side1 => repeat (first | exact (Kd.C_below HR820_2.out HB.out) | (with_reducible refine Kd.C_alloc ?_ _) | (with_reducible refine Kd.C_drewN ?_ _) | (with_reducible refine Kd.C_drew ?_))); (case side2 => exact HC820_2.out); rintro e w13 ⟨rfl, hb⟩; refine ⟨_, rfl, ?_⟩; replace HO_5 := Aside0.mk (Kd.R_below (pR_ HO_5.out) hb); replace BK818 := Aside0.mk (blk_below (g := gb818) (o := .cells #[.slice (some ad820) l0_0.length c0_0] 31 (0, 0)) bk_ hb); replace HB := Aside0.mk (below_step bl_ hb); (try clear hb); (try clear hb2); (try clear hk); (try clear hi); obtain ⟨hcz14_0, hfz14_0⟩ := cf1_ BK818.out; have p822 : 0 ≤ (x6_1 : Int) := dt_; have q822 : x6_1 < (l0_0.length : Int) := dt_; obtain ⟨ad822, A822_2, c822_2, e822, hx822_0, hx822_1, hx822_2, hl822_2, hi822_2⟩ := at_T60 HR0_0.out x6_1 p822 q822; obtain rfl : ad820 = ad822 := (by injection e822); replace hx822_0 := (HB.out.cell (World.block_lt_of_cell? w _ hx822_0)).trans hx822_0; replace hx822_1 := (HB.out.cell (World.block_lt_of_cell? w _ hx822_1)).trans hx822_1; replace hx822_2 := (HB.out.cell (World.block_lt_of_cell? w _ hx822_2)).trans hx822_2; have HR822_2 := Aside0.mk hi822_2; have HC822_2 := Aside0.mk hl822_2; clear hi822_2 hl822_2; replace p822 := eq_true p822; replace q822 := eq_true q822; obtain ⟨Ao15, co15, eo15⟩ := Kd.R_slice HO_5.out; subst eo15) | ((with_reducible refine gate_callee (f := 65) rfl ?_); refine goesL_ (some 32) rfl rfl Tryd.func65 (by kernel_rfl) rfl #[.slice Ao15 x5_1.length co15, .int .i64 ((rd_T60 l0_0 x6_1).f0)] rfl (by (try simp only [List.map_toArray, List.map_cons, List.map_nil]); first | done | rfl | (simp only [List.length_drop, List.length_take]; rfl)) ?_; (with_reducible refine (exactpplref19_add.calls k1 (fun k_ => some k_ = (.slice Ao15 x5_1.length co15 : Value).ownBlock) (.slice Ao15 x5_1.length co15) x5_1 ((rd_T60 l0_0 x6_1).f0) t823 w _ ?side1 ?side2 A11.out).mono ?_); (case side1 => repeat (first | (with_reducible first | exact HB.out | apply below_alloc | apply pw_below_drewN | apply below_drew1 | refine below_set ?_ GE818.out) | exact HB.out)); (case side2 => exact Kd.R_tight rfl HO_5.out); rintro e w16 ⟨v824, rfl, ho0, hb, hkp⟩; refine ⟨_, rfl, ?_⟩; have HO825 := Aside0.mk (Kd.R_mono (ok' := fun k_ => True) ho0 (fun k_ hk_ => trivial)); replace BK818 := Aside0.mk (blk_kept bk_ hkp (fun hs_ => (fun e_ => (Kd.R_ne HO_5.out BK818.out (by decide)) e_) hs_)); replace HB := Aside0.mk (hb); clear HO_5; (try clear hb); (try clear hkp); (try clear ho0)))
       go_roundg k1
       case measure => have := HK1.out; omega
       case rel => exact ⟨(t823), (wrap64 (x6_1 + 1)), rs_, H', ⟨by have := HK1.out; omega⟩, ⟨pR_ HO825.out⟩, ⟨bk_⟩, ⟨bl_⟩⟩
      ·replace c10 := Bool.eq_false_iff.mpr c10
       subst c10
       have H1 : (exactpplref19_Sites.l0 k1 x5_1 (wrap64 (x6_1 + 1)) l0_0) = some (r1, r2) := by rw [if_neg (show ¬ (false = true) by decide)] at H; exact H
       clear H
       have H := H1
       clear H1
       have H' := Aside0.mk H
       clear H
       obtain ⟨hcz17_0, hfz17_0⟩ := cf1_ BK818.out
       have p820 : 0 ≤ (x6_1 : Int) := dt_
       have q820 : x6_1 < (l0_0.length : Int) := dt_
       obtain ⟨ad820, A820_2, c820_2, e820, hx820_0, hx820_1, hx820_2, hl820_2, hi820_2⟩ := at_T60 HR0_0.out x6_1 p820 q820
       cases e820
       replace hx820_0 := (HB.out.cell (World.block_lt_of_cell? w _ hx820_0)).trans hx820_0
       replace hx820_1 := (HB.out.cell (World.block_lt_of_cell? w _ hx820_1)).trans hx820_1
       replace hx820_2 := (HB.out.cell (World.block_lt_of_cell? w _ hx820_2)).trans hx820_2
       have HR820_2 := Aside0.mk hi820_2
       have HC820_2 := Aside0.mk hl820_2
       clear hi820_2 hl820_2
       replace p820 := eq_true p820
       replace q820 := eq_true q820
       go_wp2_with (first | ((with_reducible refine gate_callee (f := 55) rfl ?_); refine goesL_ (some 24) rfl rfl Tryd.func55 (by kernel_rfl) rfl #[.agg #[.int .i64 ((rd_T60 l0_0 x6_1).f0), .int .i64 ((rd_T60 l0_0 x6_1).f1), .slice A820_2 ((rd_T60 l0_0 x6_1).f2).length c820_2]] rfl (by (try simp only [List.map_toArray, List.map_cons, List.map_nil]); first | done | rfl | (simp only [List.length_drop, List.length_take]; rfl)) ?_; (with_reducible refine (exactpplref19_IsBranch.calls ((rd_T60 l0_0 x6_1).f0) ((rd_T60 l0_0 x6_1).f1) _ _ ((rd_T60 l0_0 x6_1).f2) false _ ?side1 ?side2 A9.out).mono ?_); (case side1 => repeat (first | exact (Kd.C_below HR820_2.out HB.out) | (with_reducible refine Kd.C_alloc ?_ _) | (with_reducible refine Kd.C_drewN ?_ _) | (with_reducible refine Kd.C_drew ?_))); (case side2 => exact HC820_2.out); rintro e w18 ⟨rfl, hb⟩; refine ⟨_, rfl, ?_⟩; replace HO_5 := Aside0.mk (Kd.R_below (pR_ HO_5.out) hb); replace BK818 := Aside0.mk (blk_below (g := gb818) (o := .cells #[.slice (some ad820) l0_0.length c0_0] 31 (0, 0)) bk_ hb); replace HB := Aside0.mk (below_step bl_ hb); (try clear hb); (try clear hb2); (try clear hk); (try clear hi)))
       go_roundg k1
       case measure => have := HK1.out; omega
       case rel => exact ⟨(x5_1), (wrap64 (x6_1 + 1)), rs_, H', ⟨by have := HK1.out; omega⟩, ⟨pR_ HO_5.out⟩, ⟨bk_⟩, ⟨bl_⟩⟩
     ·rw [if_neg c8] at H
      exact absurd H (by simp)
    ·rw [if_neg c7] at H
     have c7b0 : decide (x6_1 < (l0_0.length : Int)) = false := decide_eq_false c7
     clear c7
     simp only [Option.some.injEq, Prod.mk.injEq] at H
     obtain ⟨rfl, rfl⟩ := H
     obtain ⟨hcz19_0, hfz19_0⟩ := cf1_ BK818.out
     go_wp2
     go_ret2
     exact ⟨_, re_, pR_ HO_5.out, bl_⟩
 ·rw [if_neg c3] at H
  have c3b0 : (t819 == 0) = false := beq_eq_false_iff_ne.mpr c3
  have c3b1 : (t819 != 0) = true := bne_iff_ne.mpr c3
  simp only [Option.some.injEq, Prod.mk.injEq] at H
  obtain ⟨rfl, rfl⟩ := H
  go_enter Tryd.func38, Tryd.ntmps38
  go_wp2_with (first | ((with_reducible refine gate_dst (N := 1) rfl ?_); refine box_event ?hg (N := 1) ?hd (cs := #[.slice A0_0 l0_0.length c0_0]) (t := 31) ?hr ?_; (case hd => rfl); (case hg => rfl); (case hr => first | (go_simp; done) | (go_simp; rfl)); intro gb818 hg w20 hbox hb; have BK818 := Aside0.mk (hbox); have GW818 : Aside0 (w.heap.size ≤ gb818) := gw_ hg (below_size bl_); have GE818 := GW818; replace HB := Aside0.mk (below_step bl_ hb); clear hb hbox hg; obtain ⟨hcz21_0, hfz21_0⟩ := cf1_ BK818.out) | ((with_reducible refine gate_callee (f := 44) rfl ?_); refine goesL_ (some 8) rfl rfl Tryd.func44 (by kernel_rfl) rfl #[.agg #[.slice A0_0 l0_0.length c0_0]] rfl (by (try simp only [List.map_toArray, List.map_cons, List.map_nil]); first | done | rfl | (simp only [List.length_drop, List.length_take]; rfl)) ?_; (with_reducible refine (exactpplref19_Validate.calls k _ _ l0_0 t819 _ ?side1 ?side2 A2.out).mono ?_); (case side1 => repeat (first | exact (Kd.C_below HR0_0.out HB.out) | (with_reducible refine Kd.C_alloc ?_ _) | (with_reducible refine Kd.C_drewN ?_ _) | (with_reducible refine Kd.C_drew ?_))); (case side2 => exact HC0_0.out); rintro e w22 ⟨rfl, hb⟩; refine ⟨_, rfl, ?_⟩; replace BK818 := Aside0.mk (blk_below (g := gb818) (o := .cells #[.slice A0_0 l0_0.length c0_0] 31 (0, 0)) bk_ hb); replace HB := Aside0.mk (below_step bl_ hb); (try clear hb); (try clear hb2); (try clear hk); (try clear hi)))
  go_ret2
  exact ⟨_, re_, by first | exact Kd.R_nil _ _ _ _ _ | exact Kd.N_nil _ _ _ _ _ | exact Kd.V_nil _ _ _ _ _ | exact Kd.Q_nil _ _ _ _ _ | exact Kd.S_nil _ _ _ _ _, bl_⟩

end Go.Proofs.YtopbjginpmdebaaDoor.K
namespace Go.Proofs.YtopbjginpmdebaaDoor.K
open Go.RowKit Go.Proofs.YtopbjginpmdebaaDoorW.PrintWords Go.Proofs.YtopbjginpmdebaaDoorW.PrintLast Go.Proofs.YtopbjginpmdebaaDoorW.PrintMore
attribute [local go_sem] max2_int min2_int max_two min_two max_three min_three max_four min_four   -- for this text's walks alone
set_option linter.unusedVariables false
set_option linter.unusedSimpArgs false

/-! ### exactpplref19_Values: function 40 -/
def exactpplref19_Values.l0 : Nat → List Int → Int → List (S60) → Option (List Int × Int)
 | 0, _, _, _ => none
 | k + 1, x5, x6, x827000 => if x6 < (x827000.length : Int) then (if 0 ≤ x6 then ((exactpplref19_IsBranch.f ((rd_T60 x827000 x6).f0) ((rd_T60 x827000 x6).f1) ((rd_T60 x827000 x6).f2)).bind fun t829 => (if t829 = true then (exactpplref19_Values.l0 k x5 (wrap64 (x6 + 1)) x827000) else ((exactpplref19_add.f k x5 ((rd_T60 x827000 x6).f1)).bind fun t831 => (exactpplref19_Values.l0 k t831 (wrap64 (x6 + 1)) x827000)))) else (none)) else (some (x5, 0))
def exactpplref19_Values.f (k : Nat) (l0_0 : List (S60)) : Option (List Int × Int) := (exactpplref19_Validate.f k l0_0).bind fun t827 => (if t827 = 0 then (exactpplref19_Values.l0 k ([] : List Int) 0 l0_0) else (some (([] : List Int), t827)))
theorem exactpplref19_Values.mono_l : ∀ k, (∀ y0 y1 y2, LeO (exactpplref19_Values.l0 k y0 y1 y2) (exactpplref19_Values.l0 (k + 1) y0 y1 y2))
 | 0 => fun _ _ _ r h => by simp [exactpplref19_Values.l0] at h
 | k + 1 => by
  have ih0 := exactpplref19_Values.mono_l k
  ·intro y0 y1 y2
   unfold exactpplref19_Values.l0
   repeat' first
   | (with_reducible exact ih0 _ _ _)
   | (with_reducible exact exactpplref19_Validate.mono _ _)
   | (with_reducible exact exactpplref19_add.mono _ _ _)
   | (with_reducible exact LeO.refl _)
   | (with_reducible exact LeO.none _)
   | (with_reducible refine LeO.ite ?_ ?_)
   | (with_reducible refine LeO.bind ?_ (fun _ => ?_))
   | exact ih0 _ _ _
   | exact exactpplref19_Validate.mono _ _
   | exact exactpplref19_add.mono _ _ _
   | exact LeO.none _
   | refine LeO.ite ?_ ?_
   | refine LeO.bind ?_ (fun _ => ?_)
theorem exactpplref19_Values.mono : ∀ a0 k, LeO (exactpplref19_Values.f k a0) (exactpplref19_Values.f (k + 1) a0) := by
 intro a0 k
 have ih0 := exactpplref19_Values.mono_l k
 unfold exactpplref19_Values.f
 repeat' first
   | (with_reducible exact ih0 _ _ _)
   | (with_reducible exact exactpplref19_Validate.mono _ _)
   | (with_reducible exact exactpplref19_add.mono _ _ _)
   | (with_reducible exact LeO.refl _)
   | (with_reducible exact LeO.none _)
   | (with_reducible refine LeO.ite ?_ ?_)
   | (with_reducible refine LeO.bind ?_ (fun _ => ?_))
   | exact ih0 _ _ _
   | exact exactpplref19_Validate.mono _ _
   | exact exactpplref19_add.mono _ _ _
   | exact LeO.none _
   | refine LeO.ite ?_ ?_
   | refine LeO.bind ?_ (fun _ => ?_)
set_option maxHeartbeats 8000000 in
set_option maxRecDepth 100000 in
theorem exactpplref19_Values.calls (k : Nat) (A0_0 : Option Addr) (c0_0 : Nat) (l0_0 : List (S60)) (r1 : List Int) (r2 : Int) (w : World) (hr0_0 : Kd.C k60 w A0_0 l0_0.length l0_0) (hc0_0 : l0_0.length ≤ c0_0) (h : exactpplref19_Values.f k l0_0 = some (r1, r2)) :
  Calls Tryd.prog 40 #[.agg #[.slice A0_0 l0_0.length c0_0]] w fun e w' => ∃ v0_ : Value, e = .returned (.tuple #[v0_, .int .i64 r2]) ∧ Kd.R (Kd.int .i64) 3 w' w.heap.size (fun _ => True) v0_ r1 ∧ Below w.heap.size w w' := by
 have hu31 := Tryd.underlying31
 have hu60 := Tryd.underlying60
 have HR0_0 := Aside0.mk hr0_0
 have HC0_0 := Aside0.mk hc0_0
 clear hr0_0 hc0_0
 have HB := Aside0.mk (Below.refl w.heap.size w)
 have H : ((exactpplref19_Validate.f k l0_0).bind fun t827 => (if t827 = 0 then (exactpplref19_Values.l0 k ([] : List Int) 0 l0_0) else (some (([] : List Int), t827)))) = some (r1, r2) := h
 clear h
 replace H := Option.bind_eq_some_iff.mp H
 obtain ⟨t827, A20, H⟩ := H
 replace H : (if t827 = 0 then (exactpplref19_Values.l0 k ([] : List Int) 0 l0_0) else (some (([] : List Int), t827))) = some (r1, r2) := H
 have A2 := Aside0.mk A20
 clear A20
 by_cases c3 : t827 = 0
 ·rw [if_pos c3] at H
  have c3b0 : (t827 == 0) = true := beq_iff_eq.mpr c3
  have c3b1 : (t827 != 0) = false := bne_eq_false_iff_eq.mpr c3
  clear c3
  have H' := Aside0.mk H
  clear H
  go_enter Tryd.func40, Tryd.ntmps40
  go_wp2_with (first | ((with_reducible refine gate_dst (N := 1) rfl ?_); refine box_event ?hg (N := 1) ?hd (cs := #[.slice A0_0 l0_0.length c0_0]) (t := 31) ?hr ?_; (case hd => rfl); (case hg => rfl); (case hr => first | (go_simp; done) | (go_simp; rfl)); intro gb826 hg w4 hbox hb; have BK826 := Aside0.mk (hbox); have GW826 : Aside0 (w.heap.size ≤ gb826) := gw_ hg (below_size bl_); have GE826 := GW826; replace HB := Aside0.mk (below_step bl_ hb); clear hb hbox hg; obtain ⟨hcz5_0, hfz5_0⟩ := cf1_ BK826.out) | ((with_reducible refine gate_callee (f := 44) rfl ?_); refine goesL_ (some 8) rfl rfl Tryd.func44 (by kernel_rfl) rfl #[.agg #[.slice A0_0 l0_0.length c0_0]] rfl (by (try simp only [List.map_toArray, List.map_cons, List.map_nil]); first | done | rfl | (simp only [List.length_drop, List.length_take]; rfl)) ?_; (with_reducible refine (exactpplref19_Validate.calls k _ _ l0_0 t827 _ ?side1 ?side2 A2.out).mono ?_); (case side1 => repeat (first | exact (Kd.C_below HR0_0.out HB.out) | (with_reducible refine Kd.C_alloc ?_ _) | (with_reducible refine Kd.C_drewN ?_ _) | (with_reducible refine Kd.C_drew ?_))); (case side2 => exact HC0_0.out); rintro e w6 ⟨rfl, hb⟩; refine ⟨_, rfl, ?_⟩; replace BK826 := Aside0.mk (blk_below (g := gb826) (o := .cells #[.slice A0_0 l0_0.length c0_0] 31 (0, 0)) bk_ hb); replace HB := Aside0.mk (below_step bl_ hb); (try clear hb); (try clear hb2); (try clear hk); (try clear hi)))
  go_loopg [5, 6] k (fun kq v5 v6 w' => ∃ (x5_1 : List Int) (x6_1 : Int), v6 = .int .i64 x6_1 ∧ Aside0 (exactpplref19_Values.l0 kq x5_1 x6_1 l0_0 = some (r1, r2)) ∧ Aside0 (kq ≤ k) ∧ Aside0 (Kd.R (Kd.int .i64) 3 w' w.heap.size (fun _ => True) v5 x5_1) ∧ Aside0 (w'.heap[gb826]? = some (.cells #[(.slice A0_0 l0_0.length c0_0)] 31 (0, 0))) ∧ Aside0 (Below w.heap.size w w'))
  case atStart => exact ⟨(([] : List Int)), (0), rs_, H', ⟨Nat.le_refl _⟩, ⟨by first | exact Kd.R_nil _ _ _ _ _ | exact Kd.N_nil _ _ _ _ _ | exact Kd.V_nil _ _ _ _ _ | exact Kd.Q_nil _ _ _ _ _ | exact Kd.S_nil _ _ _ _ _⟩, ⟨bk_⟩, ⟨bl_⟩⟩
  case round =>
   clear H'
   try clear p2
   try clear c3
   try clear c3b0
   try clear c3b1
   try clear c4
   try clear hcz5_0 hfz5_0
   obtain ⟨x5_1, x6_1, rfl, HA, HK1, HO_5, BK826, HB⟩ := hrel
   cases gk with
   | zero => exact absurd HA.out (by simp [exactpplref19_Values.l0])
   | succ k1 =>
    have H := HA.out
    clear HA
    simp only [exactpplref19_Values.l0] at H
    by_cases c7 : x6_1 < (l0_0.length : Int)
    ·rw [if_pos c7] at H
     have c7b0 : decide (x6_1 < (l0_0.length : Int)) = true := decide_eq_true c7
     clear c7
     by_cases c8 : 0 ≤ x6_1
     ·rw [if_pos c8] at H
      have c8b0 : decide (0 ≤ x6_1) = true := decide_eq_true c8
      clear c8
      replace H := Option.bind_eq_some_iff.mp H
      obtain ⟨t829, A90, H⟩ := H
      replace H : (if t829 = true then (exactpplref19_Values.l0 k1 x5_1 (wrap64 (x6_1 + 1)) l0_0) else ((exactpplref19_add.f k1 x5_1 ((rd_T60 l0_0 x6_1).f1)).bind fun t831 => (exactpplref19_Values.l0 k1 t831 (wrap64 (x6_1 + 1)) l0_0))) = some (r1, r2) := H
      have A9 := Aside0.mk A90
      clear A90
      by_cases c10 : t829 = true
      ·subst c10
       have H1 : (exactpplref19_Values.l0 k1 x5_1 (wrap64 (x6_1 + 1)) l0_0) = some (r1, r2) := by rw [if_pos rfl] at H; exact H
       clear H
       have H := H1
       clear H1
       have H' := Aside0.mk H
       clear H
       obtain ⟨hcz11_0, hfz11_0⟩ := cf1_ BK826.out
       have p828 : 0 ≤ (x6_1 : Int) := dt_
       have q828 : x6_1 < (l0_0.length : Int) := dt_
       obtain ⟨ad828, A828_2, c828_2, e828, hx828_0, hx828_1, hx828_2, hl828_2, hi828_2⟩ := at_T60 HR0_0.out x6_1 p828 q828
       cases e828
       replace hx828_0 := (HB.out.cell (World.block_lt_of_cell? w _ hx828_0)).trans hx828_0
       replace hx828_1 := (HB.out.cell (World.block_lt_of_cell? w _ hx828_1)).trans hx828_1
       replace hx828_2 := (HB.out.cell (World.block_lt_of_cell? w _ hx828_2)).trans hx828_2
       have HR828_2 := Aside0.mk hi828_2
       have HC828_2 := Aside0.mk hl828_2
       clear hi828_2 hl828_2
       replace p828 := eq_true p828
       replace q828 := eq_true q828
       go_wp2_with (first | ((with_reducible refine gate_callee (f := 55) rfl ?_); refine goesL_ (some 24) rfl rfl Tryd.func55 (by kernel_rfl) rfl #[.agg #[.int .i64 ((rd_T60 l0_0 x6_1).f0), .int .i64 ((rd_T60 l0_0 x6_1).f1), .slice A828_2 ((rd_T60 l0_0 x6_1).f2).length c828_2]] rfl (by (try simp only [List.map_toArray, List.map_cons, List.map_nil]); first | done | rfl | (simp only [List.length_drop, List.length_take]; rfl)) ?_; (with_reducible refine (exactpplref19_IsBranch.calls ((rd_T60 l0_0 x6_1).f0) ((rd_T60 l0_0 x6_1).f1) _ _ ((rd_T60 l0_0 x6_1).f2) true _ ?side1 ?side2 A9.out).mono ?_); (case side1 => repeat (first | exact (Kd.C_below HR828_2.out HB.out) | (with_reducible refine Kd.C_alloc ?_ _) | (with_reducible refine Kd.C_drewN ?_ _) | (with_reducible refine Kd.C_drew ?_))); (case side2 => exact HC828_2.out); rintro e w12 ⟨rfl, hb⟩; refine ⟨_, rfl, ?_⟩; replace HO_5 := Aside0.mk (Kd.R_below (pR_ HO_5.out) hb); replace BK826 := Aside0.mk (blk_below (g := gb826) (o := .cells #[.slice (some ad828) l0_0.length c0_0] 31 (0, 0)) bk_ hb); replace HB := Aside0.mk (below_step bl_ hb); (try clear hb); (try clear hb2); (try clear hk); (try clear hi)))
       go_roundg k1
       case measure => have := HK1.out; omega
       case rel => exact ⟨(x5_1), (wrap64 (x6_1 + 1)), rs_, H', ⟨by have := HK1.out; omega⟩, ⟨pR_ HO_5.out⟩, ⟨bk_⟩, ⟨bl_⟩⟩
      ·replace c10 := Bool.eq_false_iff.mpr c10
       subst c10
       have H1 : ((exactpplref19_add.f k1 x5_1 ((rd_T60 l0_0 x6_1).f1)).bind fun t831 => (exactpplref19_Values.l0 k1 t831 (wrap64 (x6_1 + 1)) l0_0)) = some (r1, r2) := by rw [if_neg (show ¬ (false = true) by decide)] at H; exact H
       clear H
       have H := H1
       clear H1
       replace H := Option.bind_eq_some_iff.mp H
       obtain ⟨t831, A130, H⟩ := H
       replace H : (exactpplref19_Values.l0 k1 t831 (wrap64 (x6_1 + 1)) l0_0) = some (r1, r2) := H
       have A13 := Aside0.mk A130
       clear A130
       have H' := Aside0.mk H
       clear H
       obtain ⟨hcz14_0, hfz14_0⟩ := cf1_ BK826.out
       have p828 : 0 ≤ (x6_1 : Int) := dt_
       have q828 : x6_1 < (l0_0.length : Int) := dt_
       obtain ⟨ad828, A828_2, c828_2, e828, hx828_0, hx828_1, hx828_2, hl828_2, hi828_2⟩ := at_T60 HR0_0.out x6_1 p828 q828
       cases e828
       replace hx828_0 := (HB.out.cell (World.block_lt_of_cell? w _ hx828_0)).trans hx828_0
       replace hx828_1 := (HB.out.cell (World.block_lt_of_cell? w _ hx828_1)).trans hx828_1
       replace hx828_2 := (HB.out.cell (World.block_lt_of_cell? w _ hx828_2)).trans hx828_2
       have HR828_2 := Aside0.mk hi828_2
       have HC828_2 := Aside0.mk hl828_2
       clear hi828_2 hl828_2
       replace p828 := eq_true p828
       replace q828 := eq_true q828
       go_wp2_with (first | ((with_reducible refine gate_callee (f := 55) rfl ?_); refine goesL_ (some 24) rfl rfl Tryd.func55 (by kernel_rfl) rfl #[.agg #[.int .i64 ((rd_T60 l0_0 x6_1).f0), .int .i64 ((rd_T60 l0_0 x6_1).f1), .slice A828_2 ((rd_T60 l0_0 x6_1).f2).length c828_2]] rfl (by (try simp only [List.map_toArray, List.map_cons, List.map_nil]); first | done | rfl | (simp only [List.length_drop, List.length_take]; rfl)) ?_; (with_reducible refine (exactpplref19_IsBranch.calls ((rd_T60 l0_0 x6_1).f0) ((rd_T60 l0_0 x6_1).f1) _ _ ((rd_T60 l0_0 x6_1).f2) false _ ?side1 ?side2 A9.out).mono ?_); (case side1 => repeat (first | exact (Kd.C_below HR828_2.out HB.out) | (with_reducible refine Kd.C_alloc ?_ _) | (with_reducible refine Kd.C_drewN ?_ _) | (with_reducible refine Kd.C_drew ?_))); (case side2 => exact HC828_2.out); rintro e w15 ⟨rfl, hb⟩; refine ⟨_, rfl, ?_⟩; replace HO_5 := Aside0.mk (Kd.R_below (pR_ HO_5.out) hb); replace BK826 := Aside0.mk (blk_below (g := gb826) (o := .cells #[.slice (some ad828) l0_0.length c0_0] 31 (0, 0)) bk_ hb); replace HB := Aside0.mk (below_step bl_ hb); (try clear hb); (try clear hb2); (try clear hk); (try clear hi); obtain ⟨hcz16_0, hfz16_0⟩ := cf1_ BK826.out; have p830 : 0 ≤ (x6_1 : Int) := dt_; have q830 : x6_1 < (l0_0.length : Int) := dt_; obtain ⟨ad830, A830_2, c830_2, e830, hx830_0, hx830_1, hx830_2, hl830_2, hi830_2⟩ := at_T60 HR0_0.out x6_1 p830 q830; obtain rfl : ad828 = ad830 := (by injection e830); replace hx830_0 := (HB.out.cell (World.block_lt_of_cell? w _ hx830_0)).trans hx830_0; replace hx830_1 := (HB.out.cell (World.block_lt_of_cell? w _ hx830_1)).trans hx830_1; replace hx830_2 := (HB.out.cell (World.block_lt_of_cell? w _ hx830_2)).trans hx830_2; have HR830_2 := Aside0.mk hi830_2; have HC830_2 := Aside0.mk hl830_2; clear hi830_2 hl830_2; replace p830 := eq_true p830; replace q830 := eq_true q830; obtain ⟨Ao17, co17, eo17⟩ := Kd.R_slice HO_5.out; subst eo17) | ((with_reducible refine gate_callee (f := 65) rfl ?_); refine goesL_ (some 33) rfl rfl Tryd.func65 (by kernel_rfl) rfl #[.slice Ao17 x5_1.length co17, .int .i64 ((rd_T60 l0_0 x6_1).f1)] rfl (by (try simp only [List.map_toArray, List.map_cons, List.map_nil]); first | done | rfl | (simp only [List.length_drop, List.length_take]; rfl)) ?_; (with_reducible refine (exactpplref19_add.calls k1 (fun k_ => some k_ = (.slice Ao17 x5_1.length co17 : Value).ownBlock) (.slice Ao17 x5_1.length co17) x5_1 ((rd_T60 l0_0 x6_1).f1) t831 w _ ?side1 ?side2 A13.out).mono ?_); (case side1 => repeat (first | (with_reducible first | exact HB.out | apply below_alloc | apply pw_below_drewN | apply below_drew1 | refine below_set ?_ GE826.out) | exact HB.out)); (case side2 => exact Kd.R_tight rfl HO_5.out); rintro e w18 ⟨v832, rfl, ho0, hb, hkp⟩; refine ⟨_, rfl, ?_⟩; have HO833 := Aside0.mk (Kd.R_mono (ok' := fun k_ => True) ho0 (fun k_ hk_ => trivial)); replace BK826 := Aside0.mk (blk_kept bk_ hkp (fun hs_ => (fun e_ => (Kd.R_ne HO_5.out BK826.out (by decide)) e_) hs_)); replace HB := Aside0.mk (hb); clear HO_5; (try clear hb); (try clear hkp); (try clear ho0)))
       go_roundg k1
       case measure => have := HK1.out; omega
       case rel => exact ⟨(t831), (wrap64 (x6_1 + 1)), rs_, H', ⟨by have := HK1.out; omega⟩, ⟨pR_ HO833.out⟩, ⟨bk_⟩, ⟨bl_⟩⟩
     ·rw [if_neg c8] at H
      exact absurd H (by simp)
    ·rw [if_neg c7] at H
     have c7b0 : decide (x6_1 < (l0_0.length : Int)) = false := decide_eq_false c7
     clear c7
     simp only [Option.some.injEq, Prod.mk.injEq] at H
     obtain ⟨rfl, rfl⟩ := H
     obtain ⟨hcz19_0, hfz19_0⟩ := cf1_ BK826.out
     go_wp2
     go_ret2
     exact ⟨_, re_, pR_ HO_5.out, bl_⟩
 ·rw [if_neg c3] at H
  have c3b0 : (t827 == 0) = false := beq_eq_false_iff_ne.mpr c3
  have c3b1 : (t827 != 0) = true := bne_iff_ne.mpr c3
  simp only [Option.some.injEq, Prod.mk.injEq] at H
  obtain ⟨rfl, rfl⟩ := H
  go_enter Tryd.func40, Tryd.ntmps40
  go_wp2_with (first | ((with_reducible refine gate_dst (N := 1) rfl ?_); refine box_event ?hg (N := 1) ?hd (cs := #[.slice A0_0 l0_0.length c0_0]) (t := 31) ?hr ?_; (case hd => rfl); (case hg => rfl); (case hr => first | (go_simp; done) | (go_simp; rfl)); intro gb826 hg w20 hbox hb; have BK826 := Aside0.mk (hbox); have GW826 : Aside0 (w.heap.size ≤ gb826) := gw_ hg (below_size bl_); have GE826 := GW826; replace HB := Aside0.mk (below_step bl_ hb); clear hb hbox hg; obtain ⟨hcz21_0, hfz21_0⟩ := cf1_ BK826.out) | ((with_reducible refine gate_callee (f := 44) rfl ?_); refine goesL_ (some 8) rfl rfl Tryd.func44 (by kernel_rfl) rfl #[.agg #[.slice A0_0 l0_0.length c0_0]] rfl (by (try simp only [List.map_toArray, List.map_cons, List.map_nil]); first | done | rfl | (simp only [List.length_drop, List.length_take]; rfl)) ?_; (with_reducible refine (exactpplref19_Validate.calls k _ _ l0_0 t827 _ ?side1 ?side2 A2.out).mono ?_); (case side1 => repeat (first | exact (Kd.C_below HR0_0.out HB.out) | (with_reducible refine Kd.C_alloc ?_ _) | (with_reducible refine Kd.C_drewN ?_ _) | (with_reducible refine Kd.C_drew ?_))); (case side2 => exact HC0_0.out); rintro e w22 ⟨rfl, hb⟩; refine ⟨_, rfl, ?_⟩; replace BK826 := Aside0.mk (blk_below (g := gb826) (o := .cells #[.slice A0_0 l0_0.length c0_0] 31 (0, 0)) bk_ hb); replace HB := Aside0.mk (below_step bl_ hb); (try clear hb); (try clear hb2); (try clear hk); (try clear hi)))
  go_ret2
  exact ⟨_, re_, by first | exact Kd.R_nil _ _ _ _ _ | exact Kd.N_nil _ _ _ _ _ | exact Kd.V_nil _ _ _ _ _ | exact Kd.Q_nil _ _ _ _ _ | exact Kd.S_nil _ _ _ _ _, bl_⟩

end Go.Proofs.YtopbjginpmdebaaDoor.K
-- rows of numbers that are sorted and compacted in place; ascending lists
namespace Go.Proofs.YtopbjginpmdebaaDoor.K
open Go.RowKit Go.Maps Go.Proofs.YtopbjginpmdebaaDoorW.PrintWords Go.Proofs.YtopbjginpmdebaaDoorW.PrintLast Go.Proofs.YtopbjginpmdebaaDoorW.PrintMore
set_option linter.unusedVariables false
set_option linter.unusedSimpArgs false
/-- what a sort or a compaction in place leaves of the heap -/
theorem put_heap (W : World) (g q : Nat) (ys : List Int) (os : Array Obj) : (∀ k, k < W.heap.size → k ≠ g → (Sort.grow (Sort.putRow (Value.int .i64) (Sort.ahead W q) g 0 ys.toArray) os).heap[k]? = W.heap[k]?) ∧ W.heap.size ≤ (Sort.grow (Sort.putRow (Value.int .i64) (Sort.ahead W q) g 0 ys.toArray) os).heap.size ∧
    ∀ cs t f, W.heap[g]? = some (.cells cs t f) → (Sort.grow (Sort.putRow (Value.int .i64) (Sort.ahead W q) g 0 ys.toArray) os).heap[g]? = some (.cells (Sort.putCells (Value.int .i64) 0 ys.toArray cs) t f) := by
  have hs : (Sort.putRow (Value.int .i64) (Sort.ahead W q) g 0 ys.toArray).heap.size = W.heap.size := by simp [Sort.putRow, Sort.mapBlock, Sort.ahead]
  have hg : ∀ k, k < W.heap.size → (Sort.grow (Sort.putRow (Value.int .i64) (Sort.ahead W q) g 0 ys.toArray) os).heap[k]? = (Sort.putRow (Value.int .i64) (Sort.ahead W q) g 0 ys.toArray).heap[k]? := by
    intro k hk
    show ((Sort.putRow (Value.int .i64) (Sort.ahead W q) g 0 ys.toArray).heap ++ os)[k]? = _
    rw [Array.getElem?_append_left (by rw [hs]; exact hk)]
  refine ⟨fun k hk hne => ?_, ?_, fun cs t f h => ?_⟩
  · rw [hg k hk]
    show (W.heap.modify g _)[k]? = _
    rw [Array.getElem?_modify, if_neg (fun e => hne e.symm)]
  · show _ ≤ ((Sort.putRow (Value.int .i64) (Sort.ahead W q) g 0 ys.toArray).heap ++ os).size
    rw [Array.size_append, hs]; omega
  · have hlt := blk_lt h
    rw [hg g hlt]
    show (W.heap.modify g _)[g]? = _
    rw [Array.getElem?_modify, if_pos rfl, h]; rfl
theorem put_own {W : World} {base g cap : Nat} {zs ys : List Int} (h : W.ownsRow base 3 1 (.slice (some ⟨g, 0, none⟩) zs.length cap) zs.length (encs (Value.int .i64) zs)) (hl : ys.length = zs.length) (q : Nat) (os : Array Obj) :
    (Sort.grow (Sort.putRow (Value.int .i64) (Sort.ahead W q) g 0 ys.toArray) os).ownsRow base 3 1 (.slice (some ⟨g, 0, none⟩) zs.length cap) zs.length (encs (Value.int .i64) ys) := by
  obtain ⟨h1, h2⟩ := h
  refine ⟨by simp [encs, hl], ?_⟩
  rcases h2 with ⟨he, _⟩ | ⟨g', cap', cur, he, hb, hh, hn, hm, hc, ht⟩
  · cases he
  · injection he with e1 _ e3
    injection e1 with e1
    injection e1 with e1 _ _
    subst e1; subst e3
    refine .inr ⟨g, cap, Sort.putCells (Value.int .i64) 0 ys.toArray cur, rfl, hb, (put_heap W g q ys os).2.2 _ _ _ hh, hn, hm, by simp [Sort.putCells, hc], ?_⟩
    apply List.ext_getElem
    · simp [Sort.putCells, encs, hl, hc]; omega
    · intro i i1 i2
      have hi : i < ys.length := by simpa [encs] using i2
      have hic : i < cur.size := by rw [hc]; omega
      simp only [List.getElem_take, Array.getElem_toList, Sort.putCells, Array.getElem_mapIdx, encs, List.getElem_map]
      rw [if_pos ⟨by omega, by simpa using hi⟩]
      simp [hi]
theorem own_holds {W : World} {base g cap : Nat} {zs : List Int} (h : W.ownsRow base 3 1 (.slice (some ⟨g, 0, none⟩) zs.length cap) zs.length (encs (Value.int .i64) zs)) : Sort.Holds (Value.int .i64) W g 0 zs.toArray ∧ g < W.heap.size ∧ zs.length ≤ cap ∧ base ≤ g := by
  obtain ⟨h1, h2⟩ := id h
  rcases h2 with ⟨he, _⟩ | ⟨g', cap', cur, he, hb, hh, hn, hm, hc, ht⟩
  · cases he
  · injection he with e1 _ e3
    injection e1 with e1
    injection e1 with e1 _ _
    subst e1; subst e3
    refine ⟨fun j hj => ?_, blk_lt hh, hn, hb⟩
    have hj' : j < zs.length := by simpa using hj
    have hcj : cur[j]? = some (Value.int .i64 zs[j]) := by
      have : (cur.toList.take (zs.length * 1))[j]? = (encs (Value.int .i64) zs)[j]? := by rw [ht]
      rw [List.getElem?_take, if_pos (by omega)] at this
      rw [← Array.getElem?_toList, this]
      simp [encs, hj']
    rw [Nat.zero_add]
    refine ⟨(blk_cell hh j).trans ?_, blk_frozen hh j⟩
    rw [hcj]; simp [hj']
theorem put_below {w W : World} {g q : Nat} {ys : List Int} {os : Array Obj} (h : Below w.heap.size w W) (hg : w.heap.size ≤ g) : Below w.heap.size w (Sort.grow (Sort.putRow (Value.int .i64) (Sort.ahead W q) g 0 ys.toArray) os) := by
  have hp := put_heap W g q ys os
  exact ⟨h.os, h.tape, h.output, Nat.le_trans h.size hp.2.1, fun k hk => (hp.1 k (Nat.lt_of_lt_of_le hk h.size) (by omega)).trans (h.block k hk)⟩
/-- Sort, then Compact -/
def srt (l : List Int) : List Int := l.mergeSort fun x y => decide (x ≤ y)
def srtc (l : List Int) : List Int := Lib.compact (srt l)
theorem srt_len (l : List Int) : (srt l).length = l.length := List.length_mergeSort l
theorem srt_mem (l : List Int) (x : Int) : x ∈ srt l ↔ x ∈ l := List.mem_mergeSort
theorem srt_le (l : List Int) : (srt l).Pairwise (· ≤ ·) := by
  have h := List.pairwise_mergeSort (le := fun x y : Int => decide (x ≤ y)) (fun a b c h1 h2 => by simp only [decide_eq_true_eq] at *; omega) (fun a b => by simp only [Bool.or_eq_true, decide_eq_true_eq]; omega) l
  exact h.imp fun h => of_decide_eq_true h
/-- of an ascending list one of each stays -/
theorem compact_spec (l : List Int) (h : l.Pairwise (· ≤ ·)) : (Lib.compact l).Pairwise (· < ·) ∧ ∀ x, x ∈ Lib.compact l ↔ x ∈ l := by
  have hle : ∀ i j : Nat, i ≤ j → j < l.length → l.toArray[i]! ≤ l.toArray[j]! := by
    intro i j hij hj
    rcases Nat.lt_or_ge i j with h1 | h1
    · have := (List.pairwise_iff_getElem.1 h) i j (by omega) hj h1
      simpa [hj, (show i < l.length by omega)] using this
    · obtain rfl : i = j := by omega
      exact Int.le_refl _
  have hkeep : ∀ j, Lib.keeps l.toArray j = true → j = 0 ∨ l.toArray[j]! ≠ l.toArray[j - 1]! := fun j hj => of_decide_eq_true hj
  constructor
  · unfold Lib.compact Lib.compactUpTo
    rw [List.pairwise_map, List.pairwise_filter]
    refine (List.pairwise_lt_range (n := l.length)).imp_of_mem fun {i j} hi hj hij hki hkj => ?_
    have hj' := List.mem_range.1 hj
    rcases hkeep j hkj with h1 | h1
    · omega
    · have h2 := hle i (j - 1) (by omega) (by omega)
      have h3 := hle (j - 1) j (by omega) hj'
      omega
  · intro x
    unfold Lib.compact Lib.compactUpTo
    rw [List.mem_map]
    constructor
    · rintro ⟨j, hj, rfl⟩
      have hj' := List.mem_range.1 (List.mem_filter.1 hj).1
      have : l.toArray[j]! = l[j] := by simp [hj']
      rw [this]; exact List.getElem_mem hj'
    · intro hx
      -- the first place that holds x
      have hne : ∃ j, j < l.length ∧ l.toArray[j]! = x := by
        obtain ⟨j, hj, rfl⟩ := List.getElem_of_mem hx
        exact ⟨j, hj, by simp [hj]⟩
      obtain ⟨j0, hj0⟩ := hne
      have key : ∀ m j, j ≤ m → j < l.length → l.toArray[j]! = x → ∃ i, i < l.length ∧ Lib.keeps l.toArray i = true ∧ l.toArray[i]! = x := by
        intro m
        induction m with
        | zero =>
          intro j h1 h2 h3
          obtain rfl : j = 0 := by omega
          exact ⟨0, h2, decide_eq_true (.inl rfl), h3⟩
        | succ m ih =>
          intro j h1 h2 h3
          by_cases h4 : j = 0 ∨ l.toArray[j]! ≠ l.toArray[j - 1]!
          · exact ⟨j, h2, decide_eq_true h4, h3⟩
          · have h5 : l.toArray[j]! = l.toArray[j - 1]! := Classical.byContradiction fun e => h4 (.inr e)
            have h6 : j ≠ 0 := fun e => h4 (.inl e)
            exact ih (j - 1) (by omega) (by omega) (h5.symm.trans h3)
      obtain ⟨i, h1, h2, h3⟩ := key j0 j0 (Nat.le_refl _) hj0.1 hj0.2
      exact ⟨i, List.mem_filter.2 ⟨List.mem_range.2 h1, h2⟩, h3⟩
end Go.Proofs.YtopbjginpmdebaaDoor.K
-- diagram.Sites, diagram.Values: collect and its closures (this text is printed by gen_Lw.py)
namespace Go.Proofs.YtopbjginpmdebaaDoor.K
open Go.RowKit Go.Maps Go.Proofs.YtopbjginpmdebaaDoorW.PrintWords Go.Proofs.YtopbjginpmdebaaDoorW.PrintLast Go.Proofs.YtopbjginpmdebaaDoorW.PrintMore
set_option linter.unusedVariables false
set_option linter.unusedSimpArgs false
/-- a branch's site, a leaf's value -/
def selS (n : Nd) : Option Int := if 0 ≤ n.f0 then some n.f0 else none
def selV (n : Nd) : Option Int := if n.f0 < 0 then some n.f1 else none
set_option maxHeartbeats 8000000 in
set_option maxRecDepth 100000 in
theorem clo64_calls (n : Nd) (A : Option Addr) (c : Nat) (w : World) : Calls Tryd.prog 64 #[.agg #[.int .i64 n.f0, .int .i64 n.f1, .slice A n.f2.length c]] w fun e w' => e = .returned (.tuple #[.int .i64 n.f0, .bool (decide (0 ≤ n.f0))]) ∧ Below w.heap.size w w' := by
  go_enter Tryd.func64, Tryd.ntmps64
  go_wp2
  go_quiet (fail)
  go_wp2
  exact bodyPost_ret (v := .tuple #[.int .i64 n.f0, .bool (decide (0 ≤ n.f0))]) (by simp [results, Tryd.f64, go_sem]) rfl ⟨rfl, below_drew2 ((Below.refl _ w).alloc (Nat.le_refl _) _) _⟩
set_option maxHeartbeats 8000000 in
set_option maxRecDepth 100000 in
theorem clo66_calls (n : Nd) (A : Option Addr) (c : Nat) (w : World) : Calls Tryd.prog 66 #[.agg #[.int .i64 n.f0, .int .i64 n.f1, .slice A n.f2.length c]] w fun e w' => e = .returned (.tuple #[.int .i64 n.f1, .bool (decide (n.f0 < 0))]) ∧ Below w.heap.size w w' := by
  go_enter Tryd.func66, Tryd.ntmps66
  go_wp2
  go_quiet (fail)
  go_wp2
  exact bodyPost_ret (v := .tuple #[.int .i64 n.f1, .bool (decide (n.f0 < 0))]) (by simp [results, Tryd.f66, go_sem]) rfl ⟨rfl, below_drew2 ((Below.refl _ w).alloc (Nat.le_refl _) _) _⟩
set_option maxHeartbeats 16000000 in
set_option maxRecDepth 100000 in
theorem col64_calls (nodes : List Nd) (A : Option Addr) (c : Nat) (w : World) (hC : k60.C w A nodes.length nodes) (hc : nodes.length ≤ c) (hI : ∀ n ∈ nodes, I64 n.f0 ∧ I64 n.f1 ∧ n.f2.length ≤ 1073741824) (hroom : (nodes.length + 1) * 40 ≤ 140737488355328) (htab : PowTab w.heap.size w) :
    Calls Tryd.prog 63 #[.agg #[.slice A nodes.length c], .func (.func 64) #[] #[]] w fun e w' => ∃ v, e = .returned (.tuple #[v, .int .i64 (valE nodes)]) ∧ (Kd.int .i64).R 3 w' w.heap.size (fun _ => True) v (if valE nodes = 0 then srtc (nodes.filterMap selS) else []) ∧ Below w.heap.size w w' := by
  have hb0 : Below w.heap.size w (w.alloc (.cells #[.slice A nodes.length c] 31)) := (Below.refl _ w).alloc (Nat.le_refl _) _
  have hV := validate_calls nodes A c (w.alloc (.cells #[.slice A nodes.length c] 31)) (Kd.C_below hC hb0) hc hI hroom (PowTab.up (htab.on hb0) hb0.size) (fun n hn => Nat.le_trans (redL_kids16 nodes n hn) (by decide))
  have hbx0 := heap_alloc_new w (.cells #[.slice A nodes.length c] 31)
  obtain ⟨N, hN⟩ : ∃ N, N = nodes.length := ⟨_, rfl⟩
  rw [← hN] at hV hc hb0 hbx0 ⊢
  have HB0 := Lib.hid hb0
  have HBX0 := Lib.hid hbx0
  have HN := Lib.hid hN
  have HRM := Lib.hid hroom
  have HC := Lib.hid hC
  have HI := Lib.hid hI
  have hs0 : (w.alloc (.cells #[.slice A N c] 31)).heap.size = w.heap.size + 1 := by simp
  have HS0 := Lib.hid hs0
  clear hI hC hroom htab hb0 hbx0 hN hs0
  by_cases h0 : valE nodes = 0
  · rw [if_pos h0, h0]
    rw [h0] at hV
    clear h0
    go_enter Tryd.func63, Tryd.ntmps63
    go_wp2_with (go_at_call 21; refine hV.mono ?_; clear hV; rintro e w2 ⟨rfl, hb2⟩; have HB2 := Lib.hid (HB0.out.trans (hb2.mono (by have := HS0.out; omega))); have hbx2 := (hb2.block _ (by have := HS0.out; omega)).trans HBX0.out; have b2 := blk_cell hbx2 0; have hlt2 := blk_lt hbx2; clear hb2 hbx2)
    go_loopw [7, 20] (fun v i W => ∃ (k : Nat) (vv : Value), vv = v ∧ i = .int .i64 k ∧ k ≤ N ∧ Below w.heap.size w W ∧ (Kd.int .i64).R 3 W w.heap.size (fun _ => True) vv ((nodes.take k).filterMap selS)) (fun _ i _ => N - (intOf i).toNat)
    case atStart => exact ⟨0, _, rfl, rfl, Nat.zero_le _, HB2.out, Kd.R_nil _ _ _ _ _⟩
    case round =>
      obtain ⟨k, vv, rfl, rfl, hk, hB, hR⟩ := hrel
      obtain ⟨Av, cv, rfl⟩ := Kd.R_slice hR
      obtain ⟨L, hL⟩ : ∃ L, L = (nodes.take k).filterMap selS := ⟨_, rfl⟩
      rw [← hL] at hR ⊢
      have hLl : L.length ≤ k := by rw [hL]; have := List.length_filterMap_le selS (nodes.take k); simp at this; omega
      have HR := Lib.hid hR
      have HB := Lib.hid hB
      have HL := Lib.hid hL
      have hsz := hB.size
      clear hR hB hL
      by_cases hlt : k < N
      · have hkn : k < nodes.length := by have := HN.out; omega
        have hnm : nth nodes k ∈ nodes := by rw [nth_lt hkn]; exact List.getElem_mem hkn
        obtain ⟨ad, A2, c2, rfl, d0, d1, d2, l2, g2⟩ := at_T60 (Kd.C_below HC.out HB.out) (k : Int) (by omega) (by omega)
        rw [Int.toNat_natCast] at d0 d1 d2
        rw [rd_nth] at d0 d1 d2 l2 g2
        have hsucc : nodes.take (k + 1) = nodes.take k ++ [nth nodes (k : Int)] := take_snoc' hkn
        obtain ⟨n, hn⟩ : ∃ n, n = nth nodes (k : Int) := ⟨_, rfl⟩
        rw [← hn] at d0 d1 d2 l2 g2 hnm hsucc
        have hkb : k < 4000000000000 := by have := HRM.out; have := HN.out; omega
        have hki : (k : Int) < (N : Int) := by omega
        have hb1 : Below wr.heap.size wr (wr.alloc (.cells #[.int .i64 n.f0, .int .i64 n.f1, .slice A2 n.f2.length c2] 60)) := (Below.refl _ wr).alloc (Nat.le_refl _) _
        have hA := clo64_calls n A2 c2 (wr.alloc (.cells #[.int .i64 n.f0, .int .i64 n.f1, .slice A2 n.f2.length c2] 60))
        have HB1 := Lib.hid hb1
        have HSC := Lib.hid hsucc
        have HNM := Lib.hid hnm
        clear hb1 hsucc hn hnm g2
        by_cases hch : 0 ≤ n.f0
        · have hd : decide (0 ≤ n.f0) = true := decide_eq_true hch
          have hsel : (nodes.take (k + 1)).filterMap selS = L ++ [n.f0] := by rw [HSC.out, List.filterMap_append, ← HL.out]; simp [selS, hch]
          have HSEL := Lib.hid hsel
          rw [hd] at hA
          clear hd hsel hch
          go_wp2_with (first
            | (go_at_call 64; refine hA.mono ?_; clear hA; rintro e w3 ⟨rfl, hb3⟩; have hb3' := HB1.out.trans (hb3.mono HB1.out.size); have HB3 := Lib.hid hb3'; have HR3 := Lib.hid (Kd.R_below HR.out hb3'); have hs3 := hb3'.size; clear hb3 hb3')
            | (at_builtin; refine Kd.R_append (Kd.int .i64) (w0 := w) (W := w3) w.heap.size rfl (.tmp 31) (.tmp 33) 22 3 (.int .i64 0) 8 rfl Tryd.underlying22 info3 rfl (by decide) (by decide) (.slice Av L.length cv) L (n.f0) [.int .i64 (n.f0)] (fun _ => True) (fun _ => False) (by rfl) (by rfl) rfl (fun _ h => h.elim) (fun j hj => trivial) HR3.out (HB.out.trans (HB3.out.mono hsz)) (by omega) (by omega) ?_; intro v5 w5 hR5 hB5 hg5 hat5; refine Hid.out ?_))
          refine Lib.hid ?_
          have HR5 := Lib.hid hR5
          have HB5 := Lib.hid hB5
          clear hR5 hB5 hg5 hat5
          go_wp2
          go_roundw
          case rel => exact ⟨k + 1, _, rfl, by go_num, hlt, HB5.out, by rw [HSEL.out]; exact HR5.out⟩
          case measure => simp [intOf]; omega
        · have hd : decide (0 ≤ n.f0) = false := decide_eq_false hch
          have hsel : (nodes.take (k + 1)).filterMap selS = L := by rw [HSC.out, List.filterMap_append, ← HL.out]; simp [selS, hch]
          have HSEL := Lib.hid hsel
          rw [hd] at hA
          clear hd hsel hch
          go_wp2_with (go_at_call 64; refine hA.mono ?_; clear hA; rintro e w3 ⟨rfl, hb3⟩; have hb3' := HB1.out.trans (hb3.mono HB1.out.size); have HB3 := Lib.hid hb3'; have HR3 := Lib.hid (Kd.R_below HR.out hb3'); have hs3 := hb3'.size; clear hb3 hb3')
          go_roundw
          case rel => exact ⟨k + 1, _, rfl, by go_num, hlt, HB.out.trans (HB3.out.mono hsz), by rw [HSEL.out]; exact HR3.out⟩
          case measure => simp [intOf]; omega
      · obtain rfl : N = k := by omega
        have hLn : L = nodes.filterMap selS := by rw [HL.out, List.take_of_length_le (by have := HN.out; omega)]
        have HLN := Lib.hid hLn
        have hLb : L.length < 4611686018427387904 := by have := HRM.out; have := HN.out; omega
        have hown : wr.ownsRow w.heap.size 3 1 (.slice Av L.length cv) L.length (encs (Value.int .i64) L) := Kd.own_of_R HR.out
        clear hLn
        rcases hown.2 with ⟨he, hl0⟩ | ⟨g, cap, cur, he, hg, hh, _⟩
        · injection he with e1 e2 e3
          obtain rfl : L = [] := List.length_eq_zero_iff.1 e2
          subst e1
          subst e3
          have hS := Any.slices_Sort_int_none Tryd.lays189 none 0 wr
          have hK := Tryd.slices_Compact_int_empty none 0 wr
          clear hown
          go_wp2_with (first
            | (go_at_call 75; refine hS.mono ?_; rintro e w4 ⟨rfl, rfl⟩)
            | (go_at_call 76; refine hK.mono ?_; rintro e w5 ⟨rfl, rfl⟩))
          refine bodyPost_ret (v := .tuple #[.slice none 0 0, .int .i64 0]) (by simp [results, Tryd.f63, go_sem]) rfl ⟨_, rfl, ?_, HB.out⟩
          rw [← HLN.out, show srtc [] = [] from by simp [srtc, srt, Lib.compact, Lib.compactUpTo]]
          exact Kd.R_nil _ _ _ _ _
        · injection he with e1 _ e3
          subst e1
          subst e3
          obtain ⟨hH, hgl, hcap, _⟩ := own_holds hown
          have hS := Tryd.slices_Sort_int g 0 cv L wr hH hgl hLb
          have hsl := srt_len L
          have HOWN := Lib.hid hown
          have HSL := Lib.hid hsl
          have hK : ∀ (q : Nat) (os : Array Obj), Calls Tryd.prog 76 #[.slice (some ⟨g, 0, none⟩) L.length cv] (Sort.grow (Sort.putRow (Value.int .i64) (Sort.ahead wr q) g 0 (srt L).toArray) os) fun e w' => ∃ v, e = .returned v ∧ (Kd.int .i64).R 3 w' w.heap.size (fun _ => True) v (srtc L) ∧ Below w.heap.size w w' := by
            intro q os
            have h1 := put_own HOWN.out HSL.out q os
            have h1' := h1
            rw [← HSL.out] at h1'
            obtain ⟨k1, k2, k3, k4⟩ := own_holds h1'
            have h2 := Tryd.slices_Compact_int g 0 cv (srt L) _ k1 (by rw [HSL.out]; omega) k3
            rw [HSL.out] at h2
            refine h2.mono ?_
            rintro e w5 ⟨rfl, q2, rfl⟩
            have hcl : (Lib.compact (srt L)).length ≤ L.length := by rw [← HSL.out]; exact Lib.compact_length_le _
            have h3 := put_own (ys := Lib.compact (srt L) ++ List.replicate (L.length - (Lib.compact (srt L)).length) 0) h1' (by rw [HSL.out]; simp; omega) q2 #[]
            rw [HSL.out, Sort.grow_empty] at h3
            have h4 := own_take (m := (Lib.compact (srt L)).length) h3 hcl
            refine ⟨_, rfl, Kd.R_of_own ?_ (fun _ _ => trivial), ?_⟩
            · have e : (encs (Value.int .i64) (Lib.compact (srt L) ++ List.replicate (L.length - (Lib.compact (srt L)).length) 0)).take ((Lib.compact (srt L)).length * 1) = encs (Value.int .i64) (Lib.compact (srt L)) := by
                rw [encs_append, List.take_append_of_le_length (by simp [encs]), List.take_of_length_le (by simp [encs])]
              rw [e] at h4
              exact h4
            · have h5 := put_below (q := q) (ys := srt L) (os := os) HB.out hg
              have h6 := put_below (q := q2) (ys := Lib.compact (srt L) ++ List.replicate (L.length - (Lib.compact (srt L)).length) 0) (os := #[]) h5 hg
              rwa [Sort.grow_empty] at h6
          have HK := Lib.hid hK
          clear hown hH hsl hK hh hgl
          go_wp2_with (first
            | (go_at_call 75; refine hS.mono ?_; clear hS; rintro e w4 ⟨rfl, q4, os4, rfl⟩)
            | (go_at_call 76; refine (HK.out _ _).mono ?_; rintro e w5 ⟨v5, rfl, hR5, hb5⟩))
          refine bodyPost_ret (v := .tuple #[v5, .int .i64 0]) (by simp [results, Tryd.f63, go_sem]) rfl ⟨_, rfl, ?_, hb5⟩
          rw [← HLN.out]
          exact hR5
  · rw [if_neg h0]
    obtain ⟨er, her⟩ : ∃ er, er = valE nodes := ⟨_, rfl⟩
    rw [← her] at hV h0 ⊢
    clear her
    go_enter Tryd.func63, Tryd.ntmps63
    go_wp2_with (go_at_call 21; refine hV.mono ?_; clear hV; rintro e w2 ⟨rfl, hb2⟩; have HB2 := Lib.hid (HB0.out.trans (hb2.mono (by have := HS0.out; omega))); clear hb2)
    exact bodyPost_ret (v := .tuple #[.slice none 0 0, .int .i64 er]) (by simp [results, Tryd.f63, go_sem]) rfl ⟨_, rfl, Kd.R_nil _ _ _ _ _, HB2.out⟩
set_option maxHeartbeats 16000000 in
set_option maxRecDepth 100000 in
theorem col66_calls (nodes : List Nd) (A : Option Addr) (c : Nat) (w : World) (hC : k60.C w A nodes.length nodes) (hc : nodes.length ≤ c) (hI : ∀ n ∈ nodes, I64 n.f0 ∧ I64 n.f1 ∧ n.f2.length ≤ 1073741824) (hroom : (nodes.length + 1) * 40 ≤ 140737488355328) (htab : PowTab w.heap.size w) :
    Calls Tryd.prog 63 #[.agg #[.slice A nodes.length c], .func (.func 66) #[] #[]] w fun e w' => ∃ v, e = .returned (.tuple #[v, .int .i64 (valE nodes)]) ∧ (Kd.int .i64).R 3 w' w.heap.size (fun _ => True) v (if valE nodes = 0 then srtc (nodes.filterMap selV) else []) ∧ Below w.heap.size w w' := by
  have hb0 : Below w.heap.size w (w.alloc (.cells #[.slice A nodes.length c] 31)) := (Below.refl _ w).alloc (Nat.le_refl _) _
  have hV := validate_calls nodes A c (w.alloc (.cells #[.slice A nodes.length c] 31)) (Kd.C_below hC hb0) hc hI hroom (PowTab.up (htab.on hb0) hb0.size) (fun n hn => Nat.le_trans (redL_kids16 nodes n hn) (by decide))
  have hbx0 := heap_alloc_new w (.cells #[.slice A nodes.length c] 31)
  obtain ⟨N, hN⟩ : ∃ N, N = nodes.length := ⟨_, rfl⟩
  rw [← hN] at hV hc hb0 hbx0 ⊢
  have HB0 := Lib.hid hb0
  have HBX0 := Lib.hid hbx0
  have HN := Lib.hid hN
  have HRM := Lib.hid hroom
  have HC := Lib.hid hC
  have HI := Lib.hid hI
  have hs0 : (w.alloc (.cells #[.slice A N c] 31)).heap.size = w.heap.size + 1 := by simp
  have HS0 := Lib.hid hs0
  clear hI hC hroom htab hb0 hbx0 hN hs0
  by_cases h0 : valE nodes = 0
  · rw [if_pos h0, h0]
    rw [h0] at hV
    clear h0
    go_enter Tryd.func63, Tryd.ntmps63
    go_wp2_with (go_at_call 21; refine hV.mono ?_; clear hV; rintro e w2 ⟨rfl, hb2⟩; have HB2 := Lib.hid (HB0.out.trans (hb2.mono (by have := HS0.out; omega))); have hbx2 := (hb2.block _ (by have := HS0.out; omega)).trans HBX0.out; have b2 := blk_cell hbx2 0; have hlt2 := blk_lt hbx2; clear hb2 hbx2)
    go_loopw [7, 20] (fun v i W => ∃ (k : Nat) (vv : Value), vv = v ∧ i = .int .i64 k ∧ k ≤ N ∧ Below w.heap.size w W ∧ (Kd.int .i64).R 3 W w.heap.size (fun _ => True) vv ((nodes.take k).filterMap selV)) (fun _ i _ => N - (intOf i).toNat)
    case atStart => exact ⟨0, _, rfl, rfl, Nat.zero_le _, HB2.out, Kd.R_nil _ _ _ _ _⟩
    case round =>
      obtain ⟨k, vv, rfl, rfl, hk, hB, hR⟩ := hrel
      obtain ⟨Av, cv, rfl⟩ := Kd.R_slice hR
      obtain ⟨L, hL⟩ : ∃ L, L = (nodes.take k).filterMap selV := ⟨_, rfl⟩
      rw [← hL] at hR ⊢
      have hLl : L.length ≤ k := by rw [hL]; have := List.length_filterMap_le selV (nodes.take k); simp at this; omega
      have HR := Lib.hid hR
      have HB := Lib.hid hB
      have HL := Lib.hid hL
      have hsz := hB.size
      clear hR hB hL
      by_cases hlt : k < N
      · have hkn : k < nodes.length := by have := HN.out; omega
        have hnm : nth nodes k ∈ nodes := by rw [nth_lt hkn]; exact List.getElem_mem hkn
        obtain ⟨ad, A2, c2, rfl, d0, d1, d2, l2, g2⟩ := at_T60 (Kd.C_below HC.out HB.out) (k : Int) (by omega) (by omega)
        rw [Int.toNat_natCast] at d0 d1 d2
        rw [rd_nth] at d0 d1 d2 l2 g2
        have hsucc : nodes.take (k + 1) = nodes.take k ++ [nth nodes (k : Int)] := take_snoc' hkn
        obtain ⟨n, hn⟩ : ∃ n, n = nth nodes (k : Int) := ⟨_, rfl⟩
        rw [← hn] at d0 d1 d2 l2 g2 hnm hsucc
        have hkb : k < 4000000000000 := by have := HRM.out; have := HN.out; omega
        have hki : (k : Int) < (N : Int) := by omega
        have hb1 : Below wr.heap.size wr (wr.alloc (.cells #[.int .i64 n.f0, .int .i64 n.f1, .slice A2 n.f2.length c2] 60)) := (Below.refl _ wr).alloc (Nat.le_refl _) _
        have hA := clo66_calls n A2 c2 (wr.alloc (.cells #[.int .i64 n.f0, .int .i64 n.f1, .slice A2 n.f2.length c2] 60))
        have HB1 := Lib.hid hb1
        have HSC := Lib.hid hsucc
        have HNM := Lib.hid hnm
        clear hb1 hsucc hn hnm g2
        by_cases hch : n.f0 < 0
        · have hd : decide (n.f0 < 0) = true := decide_eq_true hch
          have hsel : (nodes.take (k + 1)).filterMap selV = L ++ [n.f1] := by rw [HSC.out, List.filterMap_append, ← HL.out]; simp [selV, hch]
          have HSEL := Lib.hid hsel
          rw [hd] at hA
          clear hd hsel hch
          go_wp2_with (first
            | (go_at_call 66; refine hA.mono ?_; clear hA; rintro e w3 ⟨rfl, hb3⟩; have hb3' := HB1.out.trans (hb3.mono HB1.out.size); have HB3 := Lib.hid hb3'; have HR3 := Lib.hid (Kd.R_below HR.out hb3'); have hs3 := hb3'.size; clear hb3 hb3')
            | (at_builtin; refine Kd.R_append (Kd.int .i64) (w0 := w) (W := w3) w.heap.size rfl (.tmp 31) (.tmp 33) 22 3 (.int .i64 0) 8 rfl Tryd.underlying22 info3 rfl (by decide) (by decide) (.slice Av L.length cv) L (n.f1) [.int .i64 (n.f1)] (fun _ => True) (fun _ => False) (by rfl) (by rfl) rfl (fun _ h => h.elim) (fun j hj => trivial) HR3.out (HB.out.trans (HB3.out.mono hsz)) (by omega) (by omega) ?_; intro v5 w5 hR5 hB5 hg5 hat5; refine Hid.out ?_))
          refine Lib.hid ?_
          have HR5 := Lib.hid hR5
          have HB5 := Lib.hid hB5
          clear hR5 hB5 hg5 hat5
          go_wp2
          go_roundw
          case rel => exact ⟨k + 1, _, rfl, by go_num, hlt, HB5.out, by rw [HSEL.out]; exact HR5.out⟩
          case measure => simp [intOf]; omega
        · have hd : decide (n.f0 < 0) = false := decide_eq_false hch
          have hsel : (nodes.take (k + 1)).filterMap selV = L := by rw [HSC.out, List.filterMap_append, ← HL.out]; simp [selV, hch]
          have HSEL := Lib.hid hsel
          rw [hd] at hA
          clear hd hsel hch
          go_wp2_with (go_at_call 66; refine hA.mono ?_; clear hA; rintro e w3 ⟨rfl, hb3⟩; have hb3' := HB1.out.trans (hb3.mono HB1.out.size); have HB3 := Lib.hid hb3'; have HR3 := Lib.hid (Kd.R_below HR.out hb3'); have hs3 := hb3'.size; clear hb3 hb3')
          go_roundw
          case rel => exact ⟨k + 1, _, rfl, by go_num, hlt, HB.out.trans (HB3.out.mono hsz), by rw [HSEL.out]; exact HR3.out⟩
          case measure => simp [intOf]; omega
      · obtain rfl : N = k := by omega
        have hLn : L = nodes.filterMap selV := by rw [HL.out, List.take_of_length_le (by have := HN.out; omega)]
        have HLN := Lib.hid hLn
        have hLb : L.length < 4611686018427387904 := by have := HRM.out; have := HN.out; omega
        have hown : wr.ownsRow w.heap.size 3 1 (.slice Av L.length cv) L.length (encs (Value.int .i64) L) := Kd.own_of_R HR.out
        clear hLn
        rcases hown.2 with ⟨he, hl0⟩ | ⟨g, cap, cur, he, hg, hh, _⟩
        · injection he with e1 e2 e3
          obtain rfl : L = [] := List.length_eq_zero_iff.1 e2
          subst e1
          subst e3
          have hS := Any.slices_Sort_int_none Tryd.lays189 none 0 wr
          have hK := Tryd.slices_Compact_int_empty none 0 wr
          clear hown
          go_wp2_with (first
            | (go_at_call 75; refine hS.mono ?_; rintro e w4 ⟨rfl, rfl⟩)
            | (go_at_call 76; refine hK.mono ?_; rintro e w5 ⟨rfl, rfl⟩))
          refine bodyPost_ret (v := .tuple #[.slice none 0 0, .int .i64 0]) (by simp [results, Tryd.f63, go_sem]) rfl ⟨_, rfl, ?_, HB.out⟩
          rw [← HLN.out, show srtc [] = [] from by simp [srtc, srt, Lib.compact, Lib.compactUpTo]]
          exact Kd.R_nil _ _ _ _ _
        · injection he with e1 _ e3
          subst e1
          subst e3
          obtain ⟨hH, hgl, hcap, _⟩ := own_holds hown
          have hS := Tryd.slices_Sort_int g 0 cv L wr hH hgl hLb
          have hsl := srt_len L
          have HOWN := Lib.hid hown
          have HSL := Lib.hid hsl
          have hK : ∀ (q : Nat) (os : Array Obj), Calls Tryd.prog 76 #[.slice (some ⟨g, 0, none⟩) L.length cv] (Sort.grow (Sort.putRow (Value.int .i64) (Sort.ahead wr q) g 0 (srt L).toArray) os) fun e w' => ∃ v, e = .returned v ∧ (Kd.int .i64).R 3 w' w.heap.size (fun _ => True) v (srtc L) ∧ Below w.heap.size w w' := by
            intro q os
            have h1 := put_own HOWN.out HSL.out q os
            have h1' := h1
            rw [← HSL.out] at h1'
            obtain ⟨k1, k2, k3, k4⟩ := own_holds h1'
            have h2 := Tryd.slices_Compact_int g 0 cv (srt L) _ k1 (by rw [HSL.out]; omega) k3
            rw [HSL.out] at h2
            refine h2.mono ?_
            rintro e w5 ⟨rfl, q2, rfl⟩
            have hcl : (Lib.compact (srt L)).length ≤ L.length := by rw [← HSL.out]; exact Lib.compact_length_le _
            have h3 := put_own (ys := Lib.compact (srt L) ++ List.replicate (L.length - (Lib.compact (srt L)).length) 0) h1' (by rw [HSL.out]; simp; omega) q2 #[]
            rw [HSL.out, Sort.grow_empty] at h3
            have h4 := own_take (m := (Lib.compact (srt L)).length) h3 hcl
            refine ⟨_, rfl, Kd.R_of_own ?_ (fun _ _ => trivial), ?_⟩
            · have e : (encs (Value.int .i64) (Lib.compact (srt L) ++ List.replicate (L.length - (Lib.compact (srt L)).length) 0)).take ((Lib.compact (srt L)).length * 1) = encs (Value.int .i64) (Lib.compact (srt L)) := by
                rw [encs_append, List.take_append_of_le_length (by simp [encs]), List.take_of_length_le (by simp [encs])]
              rw [e] at h4
              exact h4
            · have h5 := put_below (q := q) (ys := srt L) (os := os) HB.out hg
              have h6 := put_below (q := q2) (ys := Lib.compact (srt L) ++ List.replicate (L.length - (Lib.compact (srt L)).length) 0) (os := #[]) h5 hg
              rwa [Sort.grow_empty] at h6
          have HK := Lib.hid hK
          clear hown hH hsl hK hh hgl
          go_wp2_with (first
            | (go_at_call 75; refine hS.mono ?_; clear hS; rintro e w4 ⟨rfl, q4, os4, rfl⟩)
            | (go_at_call 76; refine (HK.out _ _).mono ?_; rintro e w5 ⟨v5, rfl, hR5, hb5⟩))
          refine bodyPost_ret (v := .tuple #[v5, .int .i64 0]) (by simp [results, Tryd.f63, go_sem]) rfl ⟨_, rfl, ?_, hb5⟩
          rw [← HLN.out]
          exact hR5
  · rw [if_neg h0]
    obtain ⟨er, her⟩ : ∃ er, er = valE nodes := ⟨_, rfl⟩
    rw [← her] at hV h0 ⊢
    clear her
    go_enter Tryd.func63, Tryd.ntmps63
    go_wp2_with (go_at_call 21; refine hV.mono ?_; clear hV; rintro e w2 ⟨rfl, hb2⟩; have HB2 := Lib.hid (HB0.out.trans (hb2.mono (by have := HS0.out; omega))); clear hb2)
    exact bodyPost_ret (v := .tuple #[.slice none 0 0, .int .i64 er]) (by simp [results, Tryd.f63, go_sem]) rfl ⟨_, rfl, Kd.R_nil _ _ _ _ _, HB2.out⟩
end Go.Proofs.YtopbjginpmdebaaDoor.K
-- the contracts of diagram.Sites and diagram.Values, in the form that the printed texts call them
namespace Go.Proofs.YtopbjginpmdebaaDoor.K
open Go.RowKit Go.Maps Go.Proofs.YtopbjginpmdebaaDoorW.PrintWords Go.Proofs.YtopbjginpmdebaaDoorW.PrintLast Go.Proofs.YtopbjginpmdebaaDoorW.PrintMore
set_option linter.unusedVariables false
set_option linter.unusedSimpArgs false
def siL (l : List Nd) : List Int := if valE l = 0 then srtc (l.filterMap selS) else []
def diagram_Sites.f (l : List S60) : Option (List Int × Int) := if ndOk l = true then some (siL l, valE l) else none
set_option maxHeartbeats 8000000 in
set_option maxRecDepth 100000 in
theorem diagram_Sites.calls (A : Option Addr) (c : Nat) (l : List S60) (r1 : List Int) (r2 : Int) (w : World) (hr : Kd.C k60 w A l.length l) (hc : l.length ≤ c) (h : diagram_Sites.f l = some (r1, r2)) (htab : PowTab w.heap.size w) :
    Calls Tryd.prog 37 #[.agg #[.slice A l.length c]] w fun e w' => ∃ v0_ : Value, e = .returned (.tuple #[v0_, .int .i64 r2]) ∧ Kd.R (Kd.int .i64) 3 w' w.heap.size (fun _ => True) v0_ r1 ∧ Below w.heap.size w w' := by
  unfold diagram_Sites.f at h
  by_cases hk : ndOk l = true
  · rw [if_pos hk] at h
    simp only [Option.some.injEq, Prod.mk.injEq] at h
    obtain ⟨h1, h2⟩ := h
    have hb0 : Below w.heap.size w (w.alloc (.cells #[.slice A l.length c] 31)) := (Below.refl _ w).alloc (Nat.le_refl _) _
    have hA := (col64_calls l A c (w.alloc (.cells #[.slice A l.length c] 31)) (Kd.C_below hr hb0) hc (ndOk_I hk) (ndOk_room hk) (PowTab.up (htab.on hb0) hb0.size)).mono (R' := fun e w' => ∃ v, e = .returned (.tuple #[v, .int .i64 r2]) ∧ Kd.R (Kd.int .i64) 3 w' w.heap.size (fun _ => True) v r1 ∧ Below w.heap.size w w') (by
      rintro e w' ⟨v, rfl, hR, hB⟩
      refine ⟨v, by rw [h2], ?_, hb0.trans (hB.mono hb0.size)⟩
      rw [← h1]
      exact Kd.R_lower hR hb0.size)
    obtain ⟨N, hN⟩ : ∃ N, N = l.length := ⟨_, rfl⟩
    rw [← hN] at hA ⊢
    clear hr hc htab hb0 hk h1 h2 hN
    go_enter Tryd.func37, Tryd.ntmps37
    go_wp2_with (go_at_call 63; refine hA.mono ?_; clear hA; rintro e w2 ⟨v, rfl, hR, hB⟩)
    exact bodyPost_ret (v := .tuple #[v, .int .i64 r2]) (by simp [results, Tryd.f37, go_sem]) rfl ⟨v, rfl, hR, hB⟩
  · rw [if_neg hk] at h; cases h
def vaL (l : List Nd) : List Int := if valE l = 0 then srtc (l.filterMap selV) else []
def diagram_Values.f (l : List S60) : Option (List Int × Int) := if ndOk l = true then some (vaL l, valE l) else none
set_option maxHeartbeats 8000000 in
set_option maxRecDepth 100000 in
theorem diagram_Values.calls (A : Option Addr) (c : Nat) (l : List S60) (r1 : List Int) (r2 : Int) (w : World) (hr : Kd.C k60 w A l.length l) (hc : l.length ≤ c) (h : diagram_Values.f l = some (r1, r2)) (htab : PowTab w.heap.size w) :
    Calls Tryd.prog 39 #[.agg #[.slice A l.length c]] w fun e w' => ∃ v0_ : Value, e = .returned (.tuple #[v0_, .int .i64 r2]) ∧ Kd.R (Kd.int .i64) 3 w' w.heap.size (fun _ => True) v0_ r1 ∧ Below w.heap.size w w' := by
  unfold diagram_Values.f at h
  by_cases hk : ndOk l = true
  · rw [if_pos hk] at h
    simp only [Option.some.injEq, Prod.mk.injEq] at h
    obtain ⟨h1, h2⟩ := h
    have hb0 : Below w.heap.size w (w.alloc (.cells #[.slice A l.length c] 31)) := (Below.refl _ w).alloc (Nat.le_refl _) _
    have hA := (col66_calls l A c (w.alloc (.cells #[.slice A l.length c] 31)) (Kd.C_below hr hb0) hc (ndOk_I hk) (ndOk_room hk) (PowTab.up (htab.on hb0) hb0.size)).mono (R' := fun e w' => ∃ v, e = .returned (.tuple #[v, .int .i64 r2]) ∧ Kd.R (Kd.int .i64) 3 w' w.heap.size (fun _ => True) v r1 ∧ Below w.heap.size w w') (by
      rintro e w' ⟨v, rfl, hR, hB⟩
      refine ⟨v, by rw [h2], ?_, hb0.trans (hB.mono hb0.size)⟩
      rw [← h1]
      exact Kd.R_lower hR hb0.size)
    obtain ⟨N, hN⟩ : ∃ N, N = l.length := ⟨_, rfl⟩
    rw [← hN] at hA ⊢
    clear hr hc htab hb0 hk h1 h2 hN
    go_enter Tryd.func39, Tryd.ntmps39
    go_wp2_with (go_at_call 63; refine hA.mono ?_; clear hA; rintro e w2 ⟨v, rfl, hR, hB⟩)
    exact bodyPost_ret (v := .tuple #[v, .int .i64 r2]) (by simp [results, Tryd.f39, go_sem]) rfl ⟨v, rfl, hR, hB⟩
  · rw [if_neg hk] at h; cases h
end Go.Proofs.YtopbjginpmdebaaDoor.K
namespace Go.Proofs.YtopbjginpmdebaaDoor.K
open Go.RowKit Go.Proofs.YtopbjginpmdebaaDoorW.PrintWords Go.Proofs.YtopbjginpmdebaaDoorW.PrintLast Go.Proofs.YtopbjginpmdebaaDoorW.PrintMore
attribute [local go_sem] max2_int min2_int max_two min_two max_three min_three max_four min_four   -- for this text's walks alone
set_option linter.unusedVariables false
set_option linter.unusedSimpArgs false

/-! ### exactppllaw19_DiagramLists: function 11 -/
def exactppllaw19_DiagramLists.j0 : Nat → List (S60) → Option (Bool)
 | 0, _ => none
 | k + 1, x844000 => (diagram_Sites.f x844000).bind fun bt852 => ((exactpplref19_Sites.f k x844000).bind fun bt856 => ((diagram_Values.f x844000).bind fun bt860 => ((exactpplref19_Values.f k x844000).bind fun bt864 => (if bt852.2 = bt856.2 then (if bt860.2 = bt864.2 then ((exactpplref07_SameInts.f k bt852.1 bt856.1).bind fun t868 => (if t868 = true then ((exactpplref07_SameInts.f k bt860.1 bt864.1).bind fun t869 => (if t869 = true then ((exactppllaw19_awake.f).bind fun t870 => (some t870)) else (some false))) else (some false))) else (some false)) else (some false)))))
def exactppllaw19_DiagramLists.f (k : Nat) (l0 : List Int) : Option (Bool) := (exactpplmake_New.f l0).bind fun bt834 => ((exactpplmake_Src_Diagram.f k bt834.1 bt834.2.1 bt834.2.2 0 4).bind fun bt838 => ((exactpplmake_Src_N.f bt834.1 bt838.2.1 bt838.2.2 6).bind fun bt844 => (if bt844.1 = 0 then ((exactpplmake_Src_Nodes.f k bt834.1 bt844.2.1 bt844.2.2).bind fun bt847 => (exactppllaw19_DiagramLists.j0 k bt847.1)) else (exactppllaw19_DiagramLists.j0 k bt838.1))))
theorem exactppllaw19_DiagramLists.mono_l : ∀ k, (∀ y0, LeO (exactppllaw19_DiagramLists.j0 k y0) (exactppllaw19_DiagramLists.j0 (k + 1) y0))
 | 0 => fun _ r h => by simp [exactppllaw19_DiagramLists.j0] at h
 | k + 1 => by
  have ih0 := exactppllaw19_DiagramLists.mono_l k
  ·intro y0
   unfold exactppllaw19_DiagramLists.j0
   repeat' first
   | (with_reducible exact ih0 _)
   | (with_reducible exact exactpplmake_Src_Diagram.mono _ _ _ _ _ _)
   | (with_reducible exact exactpplmake_Src_Nodes.mono _ _ _ _)
   | (with_reducible exact exactpplref07_SameInts.mono _ _ _)
   | (with_reducible exact exactpplref19_Sites.mono _ _)
   | (with_reducible exact exactpplref19_Values.mono _ _)
   | (with_reducible exact LeO.refl _)
   | (with_reducible exact LeO.none _)
   | (with_reducible refine LeO.ite ?_ ?_)
   | (with_reducible refine LeO.bind ?_ (fun _ => ?_))
   | exact ih0 _
   | exact exactpplmake_Src_Diagram.mono _ _ _ _ _ _
   | exact exactpplmake_Src_Nodes.mono _ _ _ _
   | exact exactpplref07_SameInts.mono _ _ _
   | exact exactpplref19_Sites.mono _ _
   | exact exactpplref19_Values.mono _ _
   | exact LeO.none _
   | refine LeO.ite ?_ ?_
   | refine LeO.bind ?_ (fun _ => ?_)
theorem exactppllaw19_DiagramLists.mono : ∀ a0 k, LeO (exactppllaw19_DiagramLists.f k a0) (exactppllaw19_DiagramLists.f (k + 1) a0) := by
 intro a0 k
 have ih0 := exactppllaw19_DiagramLists.mono_l k
 unfold exactppllaw19_DiagramLists.f
 repeat' first
   | (with_reducible exact ih0 _)
   | (with_reducible exact exactpplmake_Src_Diagram.mono _ _ _ _ _ _)
   | (with_reducible exact exactpplmake_Src_Nodes.mono _ _ _ _)
   | (with_reducible exact exactpplref07_SameInts.mono _ _ _)
   | (with_reducible exact exactpplref19_Sites.mono _ _)
   | (with_reducible exact exactpplref19_Values.mono _ _)
   | (with_reducible exact LeO.refl _)
   | (with_reducible exact LeO.none _)
   | (with_reducible refine LeO.ite ?_ ?_)
   | (with_reducible refine LeO.bind ?_ (fun _ => ?_))
   | exact ih0 _
   | exact exactpplmake_Src_Diagram.mono _ _ _ _ _ _
   | exact exactpplmake_Src_Nodes.mono _ _ _ _
   | exact exactpplref07_SameInts.mono _ _ _
   | exact exactpplref19_Sites.mono _ _
   | exact exactpplref19_Values.mono _ _
   | exact LeO.none _
   | refine LeO.ite ?_ ?_
   | refine LeO.bind ?_ (fun _ => ?_)
set_option maxHeartbeats 8000000 in
set_option maxRecDepth 100000 in
theorem exactppllaw19_DiagramLists.calls (k : Nat) (A0 : Option Addr) (c0 : Nat) (l0 : List Int) (r : Bool) (w : World) (hr0 : Kd.C (Kd.int .i64) w A0 l0.length l0) (hc0 : l0.length ≤ c0) (h : exactppllaw19_DiagramLists.f k l0 = some r) (htab : PowTab w.heap.size w) :
  Calls Tryd.prog 11 #[.slice A0 l0.length c0] w fun e w' => e = .returned (.bool r) ∧ Below w.heap.size w w' := by
 have HTAB := Aside0.mk htab
 clear htab
 have hu31 := Tryd.underlying31
 have HR0 := Aside0.mk hr0
 have HC0 := Aside0.mk hc0
 clear hr0 hc0
 have HB := Aside0.mk (Below.refl w.heap.size w)
 have H : ((exactpplmake_New.f l0).bind fun bt834 => ((exactpplmake_Src_Diagram.f k bt834.1 bt834.2.1 bt834.2.2 0 4).bind fun bt838 => ((exactpplmake_Src_N.f bt834.1 bt838.2.1 bt838.2.2 6).bind fun bt844 => (if bt844.1 = 0 then ((exactpplmake_Src_Nodes.f k bt834.1 bt844.2.1 bt844.2.2).bind fun bt847 => (exactppllaw19_DiagramLists.j0 k bt847.1)) else (exactppllaw19_DiagramLists.j0 k bt838.1))))) = some r := h
 clear h
 replace H := Option.bind_eq_some_iff.mp H
 obtain ⟨⟨t834, t835, t836⟩, A20, H⟩ := H
 replace H : ((exactpplmake_Src_Diagram.f k t834 t835 t836 0 4).bind fun bt838 => ((exactpplmake_Src_N.f t834 bt838.2.1 bt838.2.2 6).bind fun bt844 => (if bt844.1 = 0 then ((exactpplmake_Src_Nodes.f k t834 bt844.2.1 bt844.2.2).bind fun bt847 => (exactppllaw19_DiagramLists.j0 k bt847.1)) else (exactppllaw19_DiagramLists.j0 k bt838.1)))) = some r := H
 have A2 := Aside0.mk A20
 clear A20
 replace H := Option.bind_eq_some_iff.mp H
 obtain ⟨⟨t838, t841, t842⟩, A30, H⟩ := H
 replace H : ((exactpplmake_Src_N.f t834 t841 t842 6).bind fun bt844 => (if bt844.1 = 0 then ((exactpplmake_Src_Nodes.f k t834 bt844.2.1 bt844.2.2).bind fun bt847 => (exactppllaw19_DiagramLists.j0 k bt847.1)) else (exactppllaw19_DiagramLists.j0 k t838))) = some r := H
 have A3 := Aside0.mk A30
 clear A30
 replace H := Option.bind_eq_some_iff.mp H
 obtain ⟨⟨t844, t845, t846⟩, A40, H⟩ := H
 replace H : (if t844 = 0 then ((exactpplmake_Src_Nodes.f k t834 t845 t846).bind fun bt847 => (exactppllaw19_DiagramLists.j0 k bt847.1)) else (exactppllaw19_DiagramLists.j0 k t838)) = some r := H
 have A4 := Aside0.mk A40
 clear A40
 have HC5 := Aside0.mk H
 clear H
 go_enter Tryd.func11, Tryd.ntmps11
 go_upto_if 19 with (first | ((with_reducible refine gate_callee (f := 15) rfl ?_); refine goesL_ (some 14) rfl rfl Tryd.func15 (by kernel_rfl) rfl #[.slice A0 l0.length c0] rfl (by (try simp only [List.map_toArray, List.map_cons, List.map_nil]); first | done | rfl | (simp only [List.length_drop, List.length_take]; rfl)) ?_; (with_reducible refine (exactpplmake_New.calls _ _ l0 t834 t835 t836 w _ ?side1 ?side2 ?side3 A2.out).mono ?_); (case side1 => repeat (first | (with_reducible first | exact HB.out | apply below_alloc | apply pw_below_drewN | apply below_drew1) | exact HB.out)); (case side2 => exact HR0.out); (case side3 => exact HC0.out); rintro e w6 ⟨g837, rfl, hi, hb, hb2⟩; refine ⟨_, rfl, ?_⟩; have HI837 := Aside0.mk (hi); replace HB := Aside0.mk (hb); (try clear hb); (try clear hb2); (try clear hk); (try clear hi)) | ((with_reducible refine gate_callee (f := 22) rfl ?_); refine goesL_ (some 16) rfl rfl Tryd.func22 (by kernel_rfl) rfl #[.pointer (some ⟨g837, 0, none⟩), .int .i64 0, .int .i64 4] rfl (by (try simp only [List.map_toArray, List.map_cons, List.map_nil]); first | done | rfl | (simp only [List.length_drop, List.length_take]; rfl)) ?_; (with_reducible refine (exactpplmake_Src_Diagram.calls k g837 t834 t835 t836 0 4 t838 t841 t842 w _ ?side1 ?side2 A3.out).mono ?_); (case side1 => repeat (first | (with_reducible first | exact HI837.out | apply IsS58.alloc | apply IsS58.drewN | apply IsS58.drew | apply IsS58.set_1 | apply IsS58.set_2) | exact HI837.out)); (case side2 => repeat (first | (with_reducible first | exact HB.out | apply below_alloc | apply pw_below_drewN | apply below_drew1 | refine below_set ?_ (IsS58.ge HI837.out)) | exact HB.out)); rintro e w7 ⟨v839, rfl, ho0, hi, hb, hk⟩; refine ⟨_, rfl, ?_⟩; have HO840 := Aside0.mk (Kd.V_lower (Kd.V_mono (ok' := fun k_ => k_ ≠ g837) ho0 (fun k_ hk_ => (IsS58.fresh si_ k_ hk_))) (below_size bl_)); replace HB := Aside0.mk (hb); replace HI837 := Aside0.mk (hi); (try clear hb); (try clear hb2); (try clear hk); (try clear hi); (try clear ho0)) | ((with_reducible refine gate_dst (N := 4) rfl ?_); refine box_event ?hg (N := 4) ?hd (cs := #[.slice none 0 0]) (t := 31) ?hr ?_; (case hd => rfl); (case hg => rfl); (case hr => first | (go_simp; done) | (go_simp; rfl)); intro gb843 hg w8 hbox hb; have BK843 := Aside0.mk (hbox); have GW843 : Aside0 (w.heap.size ≤ gb843) := gw_ hg (below_size bl_); have GE843 := GW843; have NB837_843 := Aside0.mk ((by rw [hg]; exact Nat.ne_of_lt (IsS58.lt (show IsS58 w _ g837 t834 t841 t842 from si_)) : g837 ≠ gb843)); have NB843_837 := Aside0.mk ((by rw [hg]; exact Nat.ne_of_gt (IsS58.lt (show IsS58 w _ g837 t834 t841 t842 from si_)) : gb843 ≠ g837)); replace HO840 := Aside0.mk (Kd.V_below (Kd.V_elderB (pV_ HO840.out) gb843 (Nat.le_of_eq hg.symm)) hb); replace HI837 := Aside0.mk (IsS58.below si_ hb); replace HB := Aside0.mk (below_step bl_ hb); clear hb hbox hg; obtain ⟨Ao9, co9, eo9⟩ := Kd.V_slice HO840.out; subst eo9; have hnb10 := NB843_837.out; have hnc10 := NB837_843.out; obtain ⟨hcz11_0, hfz11_0⟩ := cf1_ BK843.out) | ((with_reducible refine gate_callee (f := 23) rfl ?_); refine goesL_ (some 18) rfl rfl Tryd.func23 (by kernel_rfl) rfl #[.pointer (some ⟨g837, 0, none⟩), .int .i64 6] rfl (by (try simp only [List.map_toArray, List.map_cons, List.map_nil]); first | done | rfl | (simp only [List.length_drop, List.length_take]; rfl)) ?_; (with_reducible refine (exactpplmake_Src_N.calls g837 t834 t841 t842 6 t844 t845 t846 w _ ?side1 ?side2 A4.out).mono ?_); (case side1 => repeat (first | (with_reducible first | exact HI837.out | apply IsS58.alloc | apply IsS58.drewN | apply IsS58.drew | apply IsS58.set_1 | apply IsS58.set_2 | refine IsS58.far ?_ NB837_843.out _) | exact HI837.out)); (case side2 => repeat (first | (with_reducible first | exact HB.out | apply below_alloc | apply pw_below_drewN | apply below_drew1 | refine below_set ?_ (IsS58.ge HI837.out) | refine below_set ?_ GE843.out) | exact HB.out)); rintro e w12 ⟨rfl, hi, hb, hk⟩; refine ⟨_, rfl, ?_⟩; replace HO840 := Aside0.mk (Kd.V_mono (Kd.V_keep (Kd.V_mono (ok := fun k_ => (k_ ≠ g837 ∧ k_ ≠ gb843)) (by (with_reducible repeat (first | apply Kd.V_alloc | apply Kd.V_drewN | apply Kd.V_drew)); exact (Kd.V_mono (Kd.V_far (p := ⟨gb843, 0, none⟩) (Kd.V_mono HO840.out (fun k_ hk => (⟨hk, by first | exact hk.2 | exact hk.1 | exact hk.2 | exact hk.1.1 | exact hk.1.2⟩ : _ ∧ k_ ≠ gb843))) (fun _ hk => hk.2) (.slice Ao9 t838.length co9)) (fun _ h_ => h_.1))) (fun k_ hk_ => (⟨hk_, hk_.1⟩ : _ ∧ k_ ≠ g837))) hk (fun _ h => h.2)) (fun _ h => h.1)); replace BK843 := Aside0.mk (KeepBut.blk hk (g' := gb843) (o := .cells #[.slice Ao9 t838.length co9] 31 (0, 0)) (by (with_reducible repeat (first | refine blk_drewN ?_ _ | refine blk_drew ?_ | refine blk_alloc ?_ _)); refine blk_put (cs := #[.slice none 0 0]) ?_ 0 _ rfl; (with_reducible repeat (first | refine blk_drewN ?_ _ | refine blk_drew ?_ | refine blk_alloc ?_ _)); exact BK843.out) NB843_837.out (by simp)); replace HB := Aside0.mk (hb); replace HI837 := Aside0.mk (hi); (try clear hb); (try clear hb2); (try clear hk); (try clear hi)))
 (try simp only [Act.put, List.setIfInBounds_toArray, List.set_cons_zero, List.set_cons_succ])
 go_cut [] (fun wc => ∃ (kq : Nat) (x844000_4 : List (S60)) (u844000 : Value), Aside0 (exactppllaw19_DiagramLists.j0 kq x844000_4 = some r) ∧ Aside0 (kq ≤ k) ∧ Aside0 (Kd.V k60 60 wc w.heap.size (fun k_ => k_ ≠ gb843) u844000 x844000_4) ∧ Aside0 (wc.heap[gb843]? = some (.cells #[u844000] 31 (0, 0))) ∧ Aside0 (Below w.heap.size w wc))
 case first =>
  have H := HC5.out
  clear HC5
  by_cases c13 : t844 = 0
  ·rw [if_pos c13] at H
   have c13b0 : (t844 == 0) = true := beq_iff_eq.mpr c13
   have c13b1 : (t844 != 0) = false := bne_eq_false_iff_eq.mpr c13
   clear c13
   (first | rw [c13b0] | (simp only [i64_w, i32_w]; rw [c13b0]) | skip)
   replace H := Option.bind_eq_some_iff.mp H
   obtain ⟨⟨t847, t850, t851⟩, A140, H⟩ := H
   replace H : (exactppllaw19_DiagramLists.j0 k t847) = some r := H
   have A14 := Aside0.mk A140
   clear A140
   have H' := Aside0.mk H
   clear H
   go_wp2_with (first | ((with_reducible refine gate_callee (f := 16) rfl ?_); refine goesL_ (some 21) rfl rfl Tryd.func16 (by kernel_rfl) rfl #[.pointer (some ⟨g837, 0, none⟩)] rfl (by (try simp only [List.map_toArray, List.map_cons, List.map_nil]); first | done | rfl | (simp only [List.length_drop, List.length_take]; rfl)) ?_; (with_reducible refine (exactpplmake_Src_Nodes.calls k g837 t834 t845 t846 t847 t850 t851 w _ ?side1 ?side2 A14.out).mono ?_); (case side1 => repeat (first | (with_reducible first | exact HI837.out | apply IsS58.alloc | apply IsS58.drewN | apply IsS58.drew | apply IsS58.set_1 | apply IsS58.set_2 | refine IsS58.far ?_ NB837_843.out _) | exact HI837.out)); (case side2 => repeat (first | (with_reducible first | exact HB.out | apply below_alloc | apply pw_below_drewN | apply below_drew1 | refine below_set ?_ (IsS58.ge HI837.out) | refine below_set ?_ GE843.out) | exact HB.out)); rintro e w15 ⟨v848, rfl, ho0, hi, hb, hk⟩; refine ⟨_, rfl, ?_⟩; have HO849 := Aside0.mk (Kd.S_lower ho0 (below_size bl_)); replace HO840 := Aside0.mk (Kd.V_mono (Kd.V_told (Kd.V_oldK (Kd.V_mono (ok := fun k_ => (k_ ≠ g837 ∧ k_ ≠ gb843)) (pV_ HO840.out) (fun k_ hk_ => (⟨hk_, hk_.1⟩ : _ ∧ k_ ≠ g837))) hk) (Kd.S_base ho0)) (fun _ h_ => h_.1)); replace BK843 := Aside0.mk (KeepBut.blk hk (g' := gb843) (o := .cells #[.slice Ao9 t838.length co9] 31 (0, 0)) bk_ NB843_837.out (by simp)); replace HB := Aside0.mk (hb); replace HI837 := Aside0.mk (hi); (try clear hb); (try clear hb2); (try clear hk); (try clear hi); (try clear ho0); obtain ⟨Ao16, co16, eo16⟩ := Kd.S_slice HO849.out; subst eo16; have hnb17 := NB843_837.out; have hnc17 := NB837_843.out; obtain ⟨hcz18_0, hfz18_0⟩ := cf1_ BK843.out))
   go_meet
   case rel => exact ⟨_, (t847), (.slice Ao16 t847.length co16), H', ⟨by first | omega | exact Nat.le_refl _⟩, ⟨Kd.S_V (by (with_reducible repeat (first | apply Kd.S_alloc | apply Kd.S_drewN | apply Kd.S_drew)); exact Kd.S_mono (Kd.S_far (p := ⟨gb843, 0, none⟩) (Kd.S_types (Kd.S_types HO849.out BK843.out (by decide)) BK843.out (by decide)) (fun _ hk => hk.2) (.slice Ao16 t847.length co16)) (fun _ hk => hk.1.2))⟩, ⟨by (with_reducible repeat (first | refine blk_drewN ?_ _ | refine blk_drew ?_ | refine blk_alloc ?_ _)); refine blk_put (cs := #[.slice Ao9 t838.length co9]) ?_ 0 _ rfl; (with_reducible repeat (first | refine blk_drewN ?_ _ | refine blk_drew ?_ | refine blk_alloc ?_ _)); exact BK843.out⟩, ⟨bl_⟩⟩
  ·rw [if_neg c13] at H
   have c13b0 : (t844 == 0) = false := beq_eq_false_iff_ne.mpr c13
   have c13b1 : (t844 != 0) = true := bne_iff_ne.mpr c13
   (first | rw [c13b0] | (simp only [i64_w, i32_w]; rw [c13b0]) | skip)
   have H' := Aside0.mk H
   clear H
   go_wp2
   go_meet
   case rel => exact ⟨_, (t838), (.slice Ao9 t838.length co9), H', ⟨by first | omega | exact Nat.le_refl _⟩, ⟨by (with_reducible repeat (first | apply Kd.V_alloc | apply Kd.V_drewN | apply Kd.V_drew)); exact Kd.V_mono HO840.out (fun _ hk => hk.2)⟩, ⟨bk_⟩, ⟨bl_⟩⟩
 case rest =>
  clear HC5
  try clear c1
  try clear c2
  try clear p2
  try clear c10
  try clear c11
  try clear c13
  try clear c13b0
  try clear c13b1
  try clear c15
  try clear c16
  try clear c17
  try clear hcz11_0 hfz11_0
  try clear hcz18_0 hfz18_0
  obtain ⟨kq, x844000_4, u844000, HA, HJ4, HO_844000, BK843, HB⟩ := hcut
  cases kq with
  | zero => exact absurd HA.out (by simp [exactppllaw19_DiagramLists.j0])
  | succ kj4 =>
   have H := HA.out
   clear HA
   simp only [exactppllaw19_DiagramLists.j0] at H
   replace H := Option.bind_eq_some_iff.mp H
   obtain ⟨⟨t852, t855⟩, A190, H⟩ := H
   replace H : ((exactpplref19_Sites.f kj4 x844000_4).bind fun bt856 => ((diagram_Values.f x844000_4).bind fun bt860 => ((exactpplref19_Values.f kj4 x844000_4).bind fun bt864 => (if t855 = bt856.2 then (if bt860.2 = bt864.2 then ((exactpplref07_SameInts.f kj4 t852 bt856.1).bind fun t868 => (if t868 = true then ((exactpplref07_SameInts.f kj4 bt860.1 bt864.1).bind fun t869 => (if t869 = true then ((exactppllaw19_awake.f).bind fun t870 => (some t870)) else (some false))) else (some false))) else (some false)) else (some false))))) = some r := H
   have A19 := Aside0.mk A190
   clear A190
   replace H := Option.bind_eq_some_iff.mp H
   obtain ⟨⟨t856, t859⟩, A200, H⟩ := H
   replace H : ((diagram_Values.f x844000_4).bind fun bt860 => ((exactpplref19_Values.f kj4 x844000_4).bind fun bt864 => (if t855 = t859 then (if bt860.2 = bt864.2 then ((exactpplref07_SameInts.f kj4 t852 t856).bind fun t868 => (if t868 = true then ((exactpplref07_SameInts.f kj4 bt860.1 bt864.1).bind fun t869 => (if t869 = true then ((exactppllaw19_awake.f).bind fun t870 => (some t870)) else (some false))) else (some false))) else (some false)) else (some false)))) = some r := H
   have A20 := Aside0.mk A200
   clear A200
   replace H := Option.bind_eq_some_iff.mp H
   obtain ⟨⟨t860, t863⟩, A210, H⟩ := H
   replace H : ((exactpplref19_Values.f kj4 x844000_4).bind fun bt864 => (if t855 = t859 then (if t863 = bt864.2 then ((exactpplref07_SameInts.f kj4 t852 t856).bind fun t868 => (if t868 = true then ((exactpplref07_SameInts.f kj4 t860 bt864.1).bind fun t869 => (if t869 = true then ((exactppllaw19_awake.f).bind fun t870 => (some t870)) else (some false))) else (some false))) else (some false)) else (some false))) = some r := H
   have A21 := Aside0.mk A210
   clear A210
   replace H := Option.bind_eq_some_iff.mp H
   obtain ⟨⟨t864, t867⟩, A220, H⟩ := H
   replace H : (if t855 = t859 then (if t863 = t867 then ((exactpplref07_SameInts.f kj4 t852 t856).bind fun t868 => (if t868 = true then ((exactpplref07_SameInts.f kj4 t860 t864).bind fun t869 => (if t869 = true then ((exactppllaw19_awake.f).bind fun t870 => (some t870)) else (some false))) else (some false))) else (some false)) else (some false)) = some r := H
   have A22 := Aside0.mk A220
   clear A220
   by_cases c23 : t855 = t859
   ·rw [if_pos c23] at H
    have c23b0 : (t855 == t859) = true := beq_iff_eq.mpr c23
    have c23b1 : (t855 != t859) = false := bne_eq_false_iff_eq.mpr c23
    clear c23
    by_cases c24 : t863 = t867
    ·rw [if_pos c24] at H
     have c24b0 : (t863 == t867) = true := beq_iff_eq.mpr c24
     have c24b1 : (t863 != t867) = false := bne_eq_false_iff_eq.mpr c24
     clear c24
     replace H := Option.bind_eq_some_iff.mp H
     obtain ⟨t868, A250, H⟩ := H
     replace H : (if t868 = true then ((exactpplref07_SameInts.f kj4 t860 t864).bind fun t869 => (if t869 = true then ((exactppllaw19_awake.f).bind fun t870 => (some t870)) else (some false))) else (some false)) = some r := H
     have A25 := Aside0.mk A250
     clear A250
     by_cases c26 : t868 = true
     ·subst c26
      have H1 : ((exactpplref07_SameInts.f kj4 t860 t864).bind fun t869 => (if t869 = true then ((exactppllaw19_awake.f).bind fun t870 => (some t870)) else (some false))) = some r := by rw [if_pos rfl] at H; exact H
      clear H
      have H := H1
      clear H1
      replace H := Option.bind_eq_some_iff.mp H
      obtain ⟨t869, A270, H⟩ := H
      replace H : (if t869 = true then ((exactppllaw19_awake.f).bind fun t870 => (some t870)) else (some false)) = some r := H
      have A27 := Aside0.mk A270
      clear A270
      by_cases c28 : t869 = true
      ·subst c28
       have H1 : ((exactppllaw19_awake.f).bind fun t870 => (some t870)) = some r := by rw [if_pos rfl] at H; exact H
       clear H
       have H := H1
       clear H1
       replace H := Option.bind_eq_some_iff.mp H
       obtain ⟨t870, A290, H⟩ := H
       replace H : (some t870) = some r := H
       have A29 := Aside0.mk A290
       clear A290
       obtain rfl := Option.some.inj H
       obtain ⟨hcz30_0, hfz30_0⟩ := cf1_ BK843.out
       obtain ⟨Ao31, co31, eo31⟩ := Kd.V_slice HO_844000.out
       subst eo31
       go_wp2_with (first | ((with_reducible refine gate_callee (f := 37) rfl ?_); refine goesL_ (some 25) rfl rfl Tryd.func37 (by kernel_rfl) rfl #[.agg #[.slice Ao31 x844000_4.length co31]] rfl (by (try simp only [List.map_toArray, List.map_cons, List.map_nil]); first | done | rfl | (simp only [List.length_drop, List.length_take]; rfl)) ?_; (with_reducible refine (diagram_Sites.calls _ _ x844000_4 t852 t855 _ ?side1 ?side2 A19.out ?tab).mono ?_); (case tab => exact ptab HTAB.out bl_); (case side1 => repeat (first | exact (Kd.V_reads' HO_844000.out).2.2 | (with_reducible refine Kd.C_alloc ?_ _) | (with_reducible refine Kd.C_drewN ?_ _) | (with_reducible refine Kd.C_drew ?_))); (case side2 => exact (Kd.V_reads' HO_844000.out).2.1); rintro e w32 ⟨v853, rfl, ho0, hb⟩; refine ⟨_, rfl, ?_⟩; have HO854 := Aside0.mk (Kd.R_lower ho0 (below_size bl_)); replace HO_844000 := Aside0.mk (Kd.V_elder' (pV_ HO_844000.out) (Kd.R_base ho0) hb); replace BK843 := Aside0.mk (blk_below (g := gb843) (o := .cells #[.slice Ao31 x844000_4.length co31] 31 (0, 0)) bk_ hb); replace HB := Aside0.mk (below_step bl_ hb); (try clear hb); (try clear hb2); (try clear hk); (try clear hi); (try clear ho0); obtain ⟨hcz33_0, hfz33_0⟩ := cf1_ BK843.out) | ((with_reducible refine gate_callee (f := 38) rfl ?_); refine goesL_ (some 30) rfl rfl Tryd.func38 (by kernel_rfl) rfl #[.agg #[.slice Ao31 x844000_4.length co31]] rfl (by (try simp only [List.map_toArray, List.map_cons, List.map_nil]); first | done | rfl | (simp only [List.length_drop, List.length_take]; rfl)) ?_; (with_reducible refine (exactpplref19_Sites.calls kj4 _ _ x844000_4 t856 t859 _ ?side1 ?side2 A20.out).mono ?_); (case side1 => repeat (first | exact (Kd.V_reads' HO_844000.out).2.2 | (with_reducible refine Kd.C_alloc ?_ _) | (with_reducible refine Kd.C_drewN ?_ _) | (with_reducible refine Kd.C_drew ?_))); (case side2 => exact (Kd.V_reads' HO_844000.out).2.1); rintro e w34 ⟨v857, rfl, ho0, hb⟩; refine ⟨_, rfl, ?_⟩; have HO858 := Aside0.mk (Kd.R_lower (Kd.R_new' ho0 (Kd.R_lt (pR_ HO854.out))) (below_size bl_)); replace HO_844000 := Aside0.mk (Kd.V_elder' (pV_ HO_844000.out) (Kd.R_base ho0) hb); replace HO854 := Aside0.mk (Kd.R_elder' (pR_ HO854.out) (Kd.R_base ho0) hb); replace BK843 := Aside0.mk (blk_below (g := gb843) (o := .cells #[.slice Ao31 x844000_4.length co31] 31 (0, 0)) bk_ hb); replace HB := Aside0.mk (below_step bl_ hb); (try clear hb); (try clear hb2); (try clear hk); (try clear hi); (try clear ho0); obtain ⟨hcz35_0, hfz35_0⟩ := cf1_ BK843.out) | ((with_reducible refine gate_callee (f := 39) rfl ?_); refine goesL_ (some 35) rfl rfl Tryd.func39 (by kernel_rfl) rfl #[.agg #[.slice Ao31 x844000_4.length co31]] rfl (by (try simp only [List.map_toArray, List.map_cons, List.map_nil]); first | done | rfl | (simp only [List.length_drop, List.length_take]; rfl)) ?_; (with_reducible refine (diagram_Values.calls _ _ x844000_4 t860 t863 _ ?side1 ?side2 A21.out ?tab).mono ?_); (case tab => exact ptab HTAB.out bl_); (case side1 => repeat (first | exact (Kd.V_reads' HO_844000.out).2.2 | (with_reducible refine Kd.C_alloc ?_ _) | (with_reducible refine Kd.C_drewN ?_ _) | (with_reducible refine Kd.C_drew ?_))); (case side2 => exact (Kd.V_reads' HO_844000.out).2.1); rintro e w36 ⟨v861, rfl, ho0, hb⟩; refine ⟨_, rfl, ?_⟩; have HO862 := Aside0.mk (Kd.R_lower (Kd.R_new' (Kd.R_new' ho0 (Kd.R_lt (pR_ HO854.out))) (Kd.R_lt (pR_ HO858.out))) (below_size bl_)); replace HO_844000 := Aside0.mk (Kd.V_elder' (pV_ HO_844000.out) (Kd.R_base ho0) hb); replace HO854 := Aside0.mk (Kd.R_elder' (pR_ HO854.out) (Kd.R_base ho0) hb); replace HO858 := Aside0.mk (Kd.R_elder' (pR_ HO858.out) (Kd.R_base ho0) hb); replace BK843 := Aside0.mk (blk_below (g := gb843) (o := .cells #[.slice Ao31 x844000_4.length co31] 31 (0, 0)) bk_ hb); replace HB := Aside0.mk (below_step bl_ hb); (try clear hb); (try clear hb2); (try clear hk); (try clear hi); (try clear ho0); obtain ⟨hcz37_0, hfz37_0⟩ := cf1_ BK843.out) | ((with_reducible refine gate_callee (f := 40) rfl ?_); refine goesL_ (some 40) rfl rfl Tryd.func40 (by kernel_rfl) rfl #[.agg #[.slice Ao31 x844000_4.length co31]] rfl (by (try simp only [List.map_toArray, List.map_cons, List.map_nil]); first | done | rfl | (simp only [List.length_drop, List.length_take]; rfl)) ?_; (with_reducible refine (exactpplref19_Values.calls kj4 _ _ x844000_4 t864 t867 _ ?side1 ?side2 A22.out).mono ?_); (case side1 => repeat (first | exact (Kd.V_reads' HO_844000.out).2.2 | (with_reducible refine Kd.C_alloc ?_ _) | (with_reducible refine Kd.C_drewN ?_ _) | (with_reducible refine Kd.C_drew ?_))); (case side2 => exact (Kd.V_reads' HO_844000.out).2.1); rintro e w38 ⟨v865, rfl, ho0, hb⟩; refine ⟨_, rfl, ?_⟩; have HO866 := Aside0.mk (Kd.R_lower (Kd.R_new' (Kd.R_new' (Kd.R_new' ho0 (Kd.R_lt (pR_ HO854.out))) (Kd.R_lt (pR_ HO858.out))) (Kd.R_lt (pR_ HO862.out))) (below_size bl_)); replace HO_844000 := Aside0.mk (Kd.V_elder' (pV_ HO_844000.out) (Kd.R_base ho0) hb); replace HO854 := Aside0.mk (Kd.R_elder' (pR_ HO854.out) (Kd.R_base ho0) hb); replace HO858 := Aside0.mk (Kd.R_elder' (pR_ HO858.out) (Kd.R_base ho0) hb); replace HO862 := Aside0.mk (Kd.R_elder' (pR_ HO862.out) (Kd.R_base ho0) hb); replace BK843 := Aside0.mk (blk_below (g := gb843) (o := .cells #[.slice Ao31 x844000_4.length co31] 31 (0, 0)) bk_ hb); replace HB := Aside0.mk (below_step bl_ hb); (try clear hb); (try clear hb2); (try clear hk); (try clear hi); (try clear ho0); obtain ⟨Ao39, co39, eo39⟩ := Kd.R_slice HO854.out; subst eo39; obtain ⟨Ao40, co40, eo40⟩ := Kd.R_slice HO858.out; subst eo40) | (go_at_call 41; (with_reducible refine (exactpplref07_SameInts.calls kj4 _ _ t852 _ _ t856 true _ ?side1 ?side2 ?side3 ?side4 A25.out).mono ?_); (case side1 => repeat (first | exact (Kd.R_reads' HO854.out).2.2 | (with_reducible refine Kd.C_alloc ?_ _) | (with_reducible refine Kd.C_drewN ?_ _) | (with_reducible refine Kd.C_drew ?_))); (case side2 => exact (Kd.R_reads' HO854.out).2.1); (case side3 => repeat (first | exact (Kd.R_reads' HO858.out).2.2 | (with_reducible refine Kd.C_alloc ?_ _) | (with_reducible refine Kd.C_drewN ?_ _) | (with_reducible refine Kd.C_drew ?_))); (case side4 => exact (Kd.R_reads' HO858.out).2.1); rintro e w' ⟨rfl, ⟨nd, rfl⟩⟩; obtain ⟨Ao41, co41, eo41⟩ := Kd.R_slice HO862.out; subst eo41; obtain ⟨Ao42, co42, eo42⟩ := Kd.R_slice HO866.out; subst eo42) | (go_at_call 41; (with_reducible refine (exactpplref07_SameInts.calls kj4 _ _ t860 _ _ t864 true _ ?side1 ?side2 ?side3 ?side4 A27.out).mono ?_); (case side1 => repeat (first | exact (Kd.R_reads' HO862.out).2.2 | (with_reducible refine Kd.C_alloc ?_ _) | (with_reducible refine Kd.C_drewN ?_ _) | (with_reducible refine Kd.C_drew ?_))); (case side2 => exact (Kd.R_reads' HO862.out).2.1); (case side3 => repeat (first | exact (Kd.R_reads' HO866.out).2.2 | (with_reducible refine Kd.C_alloc ?_ _) | (with_reducible refine Kd.C_drewN ?_ _) | (with_reducible refine Kd.C_drew ?_))); (case side4 => exact (Kd.R_reads' HO866.out).2.1); rintro e w' ⟨rfl, ⟨nd, rfl⟩⟩) | (go_at_call 17; (with_reducible refine (exactppllaw19_awake.calls  t870 _ A29.out ?tab).mono ?_); (case tab => exact ptab HTAB.out bl_); rintro e w43 ⟨rfl, hb⟩; replace HO_844000 := Aside0.mk (Kd.V_below (pV_ HO_844000.out) hb); replace HO854 := Aside0.mk (Kd.R_below (pR_ HO854.out) hb); replace HO858 := Aside0.mk (Kd.R_below (pR_ HO858.out) hb); replace HO862 := Aside0.mk (Kd.R_below (pR_ HO862.out) hb); replace HO866 := Aside0.mk (Kd.R_below (pR_ HO866.out) hb); replace BK843 := Aside0.mk (blk_below (g := gb843) (o := .cells #[.slice Ao31 x844000_4.length co31] 31 (0, 0)) bk_ hb); replace HB := Aside0.mk (below_step bl_ hb); (try clear hb); (try clear hb2); (try clear hk); (try clear hi)))
       go_ret
       exact ⟨re_, bl_⟩
      ·replace c28 := Bool.eq_false_iff.mpr c28
       subst c28
       have H1 : (some false) = some r := by rw [if_neg (show ¬ (false = true) by decide)] at H; exact H
       clear H
       have H := H1
       clear H1
       obtain rfl := Option.some.inj H
       obtain ⟨hcz44_0, hfz44_0⟩ := cf1_ BK843.out
       obtain ⟨Ao45, co45, eo45⟩ := Kd.V_slice HO_844000.out
       subst eo45
       go_wp2_with (first | ((with_reducible refine gate_callee (f := 37) rfl ?_); refine goesL_ (some 25) rfl rfl Tryd.func37 (by kernel_rfl) rfl #[.agg #[.slice Ao45 x844000_4.length co45]] rfl (by (try simp only [List.map_toArray, List.map_cons, List.map_nil]); first | done | rfl | (simp only [List.length_drop, List.length_take]; rfl)) ?_; (with_reducible refine (diagram_Sites.calls _ _ x844000_4 t852 t855 _ ?side1 ?side2 A19.out ?tab).mono ?_); (case tab => exact ptab HTAB.out bl_); (case side1 => repeat (first | exact (Kd.V_reads' HO_844000.out).2.2 | (with_reducible refine Kd.C_alloc ?_ _) | (with_reducible refine Kd.C_drewN ?_ _) | (with_reducible refine Kd.C_drew ?_))); (case side2 => exact (Kd.V_reads' HO_844000.out).2.1); rintro e w46 ⟨v853, rfl, ho0, hb⟩; refine ⟨_, rfl, ?_⟩; have HO854 := Aside0.mk (Kd.R_lower ho0 (below_size bl_)); replace HO_844000 := Aside0.mk (Kd.V_elder' (pV_ HO_844000.out) (Kd.R_base ho0) hb); replace BK843 := Aside0.mk (blk_below (g := gb843) (o := .cells #[.slice Ao45 x844000_4.length co45] 31 (0, 0)) bk_ hb); replace HB := Aside0.mk (below_step bl_ hb); (try clear hb); (try clear hb2); (try clear hk); (try clear hi); (try clear ho0); obtain ⟨hcz47_0, hfz47_0⟩ := cf1_ BK843.out) | ((with_reducible refine gate_callee (f := 38) rfl ?_); refine goesL_ (some 30) rfl rfl Tryd.func38 (by kernel_rfl) rfl #[.agg #[.slice Ao45 x844000_4.length co45]] rfl (by (try simp only [List.map_toArray, List.map_cons, List.map_nil]); first | done | rfl | (simp only [List.length_drop, List.length_take]; rfl)) ?_; (with_reducible refine (exactpplref19_Sites.calls kj4 _ _ x844000_4 t856 t859 _ ?side1 ?side2 A20.out).mono ?_); (case side1 => repeat (first | exact (Kd.V_reads' HO_844000.out).2.2 | (with_reducible refine Kd.C_alloc ?_ _) | (with_reducible refine Kd.C_drewN ?_ _) | (with_reducible refine Kd.C_drew ?_))); (case side2 => exact (Kd.V_reads' HO_844000.out).2.1); rintro e w48 ⟨v857, rfl, ho0, hb⟩; refine ⟨_, rfl, ?_⟩; have HO858 := Aside0.mk (Kd.R_lower (Kd.R_new' ho0 (Kd.R_lt (pR_ HO854.out))) (below_size bl_)); replace HO_844000 := Aside0.mk (Kd.V_elder' (pV_ HO_844000.out) (Kd.R_base ho0) hb); replace HO854 := Aside0.mk (Kd.R_elder' (pR_ HO854.out) (Kd.R_base ho0) hb); replace BK843 := Aside0.mk (blk_below (g := gb843) (o := .cells #[.slice Ao45 x844000_4.length co45] 31 (0, 0)) bk_ hb); replace HB := Aside0.mk (below_step bl_ hb); (try clear hb); (try clear hb2); (try clear hk); (try clear hi); (try clear ho0); obtain ⟨hcz49_0, hfz49_0⟩ := cf1_ BK843.out) | ((with_reducible refine gate_callee (f := 39) rfl ?_); refine goesL_ (some 35) rfl rfl Tryd.func39 (by kernel_rfl) rfl #[.agg #[.slice Ao45 x844000_4.length co45]] rfl (by (try simp only [List.map_toArray, List.map_cons, List.map_nil]); first | done | rfl | (simp only [List.length_drop, List.length_take]; rfl)) ?_; (with_reducible refine (diagram_Values.calls _ _ x844000_4 t860 t863 _ ?side1 ?side2 A21.out ?tab).mono ?_); (case tab => exact ptab HTAB.out bl_); (case side1 => repeat (first | exact (Kd.V_reads' HO_844000.out).2.2 | (with_reducible refine Kd.C_alloc ?_ _) | (with_reducible refine Kd.C_drewN ?_ _) | (with_reducible refine Kd.C_drew ?_))); (case side2 => exact (Kd.V_reads' HO_844000.out).2.1); rintro e w50 ⟨v861, rfl, ho0, hb⟩; refine ⟨_, rfl, ?_⟩; have HO862 := Aside0.mk (Kd.R_lower (Kd.R_new' (Kd.R_new' ho0 (Kd.R_lt (pR_ HO854.out))) (Kd.R_lt (pR_ HO858.out))) (below_size bl_)); replace HO_844000 := Aside0.mk (Kd.V_elder' (pV_ HO_844000.out) (Kd.R_base ho0) hb); replace HO854 := Aside0.mk (Kd.R_elder' (pR_ HO854.out) (Kd.R_base ho0) hb); replace HO858 := Aside0.mk (Kd.R_elder' (pR_ HO858.out) (Kd.R_base ho0) hb); replace BK843 := Aside0.mk (blk_below (g := gb843) (o := .cells #[.slice Ao45 x844000_4.length co45] 31 (0, 0)) bk_ hb); replace HB := Aside0.mk (below_step bl_ hb); (try clear hb); (try clear hb2); (try clear hk); (try clear hi); (try clear ho0); obtain ⟨hcz51_0, hfz51_0⟩ := cf1_ BK843.out) | ((with_reducible refine gate_callee (f := 40) rfl ?_); refine goesL_ (some 40) rfl rfl Tryd.func40 (by kernel_rfl) rfl #[.agg #[.slice Ao45 x844000_4.length co45]] rfl (by (try simp only [List.map_toArray, List.map_cons, List.map_nil]); first | done | rfl | (simp only [List.length_drop, List.length_take]; rfl)) ?_; (with_reducible refine (exactpplref19_Values.calls kj4 _ _ x844000_4 t864 t867 _ ?side1 ?side2 A22.out).mono ?_); (case side1 => repeat (first | exact (Kd.V_reads' HO_844000.out).2.2 | (with_reducible refine Kd.C_alloc ?_ _) | (with_reducible refine Kd.C_drewN ?_ _) | (with_reducible refine Kd.C_drew ?_))); (case side2 => exact (Kd.V_reads' HO_844000.out).2.1); rintro e w52 ⟨v865, rfl, ho0, hb⟩; refine ⟨_, rfl, ?_⟩; have HO866 := Aside0.mk (Kd.R_lower (Kd.R_new' (Kd.R_new' (Kd.R_new' ho0 (Kd.R_lt (pR_ HO854.out))) (Kd.R_lt (pR_ HO858.out))) (Kd.R_lt (pR_ HO862.out))) (below_size bl_)); replace HO_844000 := Aside0.mk (Kd.V_elder' (pV_ HO_844000.out) (Kd.R_base ho0) hb); replace HO854 := Aside0.mk (Kd.R_elder' (pR_ HO854.out) (Kd.R_base ho0) hb); replace HO858 := Aside0.mk (Kd.R_elder' (pR_ HO858.out) (Kd.R_base ho0) hb); replace HO862 := Aside0.mk (Kd.R_elder' (pR_ HO862.out) (Kd.R_base ho0) hb); replace BK843 := Aside0.mk (blk_below (g := gb843) (o := .cells #[.slice Ao45 x844000_4.length co45] 31 (0, 0)) bk_ hb); replace HB := Aside0.mk (below_step bl_ hb); (try clear hb); (try clear hb2); (try clear hk); (try clear hi); (try clear ho0); obtain ⟨Ao53, co53, eo53⟩ := Kd.R_slice HO854.out; subst eo53; obtain ⟨Ao54, co54, eo54⟩ := Kd.R_slice HO858.out; subst eo54) | (go_at_call 41; (with_reducible refine (exactpplref07_SameInts.calls kj4 _ _ t852 _ _ t856 true _ ?side1 ?side2 ?side3 ?side4 A25.out).mono ?_); (case side1 => repeat (first | exact (Kd.R_reads' HO854.out).2.2 | (with_reducible refine Kd.C_alloc ?_ _) | (with_reducible refine Kd.C_drewN ?_ _) | (with_reducible refine Kd.C_drew ?_))); (case side2 => exact (Kd.R_reads' HO854.out).2.1); (case side3 => repeat (first | exact (Kd.R_reads' HO858.out).2.2 | (with_reducible refine Kd.C_alloc ?_ _) | (with_reducible refine Kd.C_drewN ?_ _) | (with_reducible refine Kd.C_drew ?_))); (case side4 => exact (Kd.R_reads' HO858.out).2.1); rintro e w' ⟨rfl, ⟨nd, rfl⟩⟩; obtain ⟨Ao55, co55, eo55⟩ := Kd.R_slice HO862.out; subst eo55; obtain ⟨Ao56, co56, eo56⟩ := Kd.R_slice HO866.out; subst eo56) | (go_at_call 41; (with_reducible refine (exactpplref07_SameInts.calls kj4 _ _ t860 _ _ t864 false _ ?side1 ?side2 ?side3 ?side4 A27.out).mono ?_); (case side1 => repeat (first | exact (Kd.R_reads' HO862.out).2.2 | (with_reducible refine Kd.C_alloc ?_ _) | (with_reducible refine Kd.C_drewN ?_ _) | (with_reducible refine Kd.C_drew ?_))); (case side2 => exact (Kd.R_reads' HO862.out).2.1); (case side3 => repeat (first | exact (Kd.R_reads' HO866.out).2.2 | (with_reducible refine Kd.C_alloc ?_ _) | (with_reducible refine Kd.C_drewN ?_ _) | (with_reducible refine Kd.C_drew ?_))); (case side4 => exact (Kd.R_reads' HO866.out).2.1); rintro e w' ⟨rfl, ⟨nd, rfl⟩⟩))
       go_ret
       exact ⟨re_, bl_⟩
     ·replace c26 := Bool.eq_false_iff.mpr c26
      subst c26
      have H1 : (some false) = some r := by rw [if_neg (show ¬ (false = true) by decide)] at H; exact H
      clear H
      have H := H1
      clear H1
      obtain rfl := Option.some.inj H
      obtain ⟨hcz57_0, hfz57_0⟩ := cf1_ BK843.out
      obtain ⟨Ao58, co58, eo58⟩ := Kd.V_slice HO_844000.out
      subst eo58
      go_wp2_with (first | ((with_reducible refine gate_callee (f := 37) rfl ?_); refine goesL_ (some 25) rfl rfl Tryd.func37 (by kernel_rfl) rfl #[.agg #[.slice Ao58 x844000_4.length co58]] rfl (by (try simp only [List.map_toArray, List.map_cons, List.map_nil]); first | done | rfl | (simp only [List.length_drop, List.length_take]; rfl)) ?_; (with_reducible refine (diagram_Sites.calls _ _ x844000_4 t852 t855 _ ?side1 ?side2 A19.out ?tab).mono ?_); (case tab => exact ptab HTAB.out bl_); (case side1 => repeat (first | exact (Kd.V_reads' HO_844000.out).2.2 | (with_reducible refine Kd.C_alloc ?_ _) | (with_reducible refine Kd.C_drewN ?_ _) | (with_reducible refine Kd.C_drew ?_))); (case side2 => exact (Kd.V_reads' HO_844000.out).2.1); rintro e w59 ⟨v853, rfl, ho0, hb⟩; refine ⟨_, rfl, ?_⟩; have HO854 := Aside0.mk (Kd.R_lower ho0 (below_size bl_)); replace HO_844000 := Aside0.mk (Kd.V_elder' (pV_ HO_844000.out) (Kd.R_base ho0) hb); replace BK843 := Aside0.mk (blk_below (g := gb843) (o := .cells #[.slice Ao58 x844000_4.length co58] 31 (0, 0)) bk_ hb); replace HB := Aside0.mk (below_step bl_ hb); (try clear hb); (try clear hb2); (try clear hk); (try clear hi); (try clear ho0); obtain ⟨hcz60_0, hfz60_0⟩ := cf1_ BK843.out) | ((with_reducible refine gate_callee (f := 38) rfl ?_); refine goesL_ (some 30) rfl rfl Tryd.func38 (by kernel_rfl) rfl #[.agg #[.slice Ao58 x844000_4.length co58]] rfl (by (try simp only [List.map_toArray, List.map_cons, List.map_nil]); first | done | rfl | (simp only [List.length_drop, List.length_take]; rfl)) ?_; (with_reducible refine (exactpplref19_Sites.calls kj4 _ _ x844000_4 t856 t859 _ ?side1 ?side2 A20.out).mono ?_); (case side1 => repeat (first | exact (Kd.V_reads' HO_844000.out).2.2 | (with_reducible refine Kd.C_alloc ?_ _) | (with_reducible refine Kd.C_drewN ?_ _) | (with_reducible refine Kd.C_drew ?_))); (case side2 => exact (Kd.V_reads' HO_844000.out).2.1); rintro e w61 ⟨v857, rfl, ho0, hb⟩; refine ⟨_, rfl, ?_⟩; have HO858 := Aside0.mk (Kd.R_lower (Kd.R_new' ho0 (Kd.R_lt (pR_ HO854.out))) (below_size bl_)); replace HO_844000 := Aside0.mk (Kd.V_elder' (pV_ HO_844000.out) (Kd.R_base ho0) hb); replace HO854 := Aside0.mk (Kd.R_elder' (pR_ HO854.out) (Kd.R_base ho0) hb); replace BK843 := Aside0.mk (blk_below (g := gb843) (o := .cells #[.slice Ao58 x844000_4.length co58] 31 (0, 0)) bk_ hb); replace HB := Aside0.mk (below_step bl_ hb); (try clear hb); (try clear hb2); (try clear hk); (try clear hi); (try clear ho0); obtain ⟨hcz62_0, hfz62_0⟩ := cf1_ BK843.out) | ((with_reducible refine gate_callee (f := 39) rfl ?_); refine goesL_ (some 35) rfl rfl Tryd.func39 (by kernel_rfl) rfl #[.agg #[.slice Ao58 x844000_4.length co58]] rfl (by (try simp only [List.map_toArray, List.map_cons, List.map_nil]); first | done | rfl | (simp only [List.length_drop, List.length_take]; rfl)) ?_; (with_reducible refine (diagram_Values.calls _ _ x844000_4 t860 t863 _ ?side1 ?side2 A21.out ?tab).mono ?_); (case tab => exact ptab HTAB.out bl_); (case side1 => repeat (first | exact (Kd.V_reads' HO_844000.out).2.2 | (with_reducible refine Kd.C_alloc ?_ _) | (with_reducible refine Kd.C_drewN ?_ _) | (with_reducible refine Kd.C_drew ?_))); (case side2 => exact (Kd.V_reads' HO_844000.out).2.1); rintro e w63 ⟨v861, rfl, ho0, hb⟩; refine ⟨_, rfl, ?_⟩; have HO862 := Aside0.mk (Kd.R_lower (Kd.R_new' (Kd.R_new' ho0 (Kd.R_lt (pR_ HO854.out))) (Kd.R_lt (pR_ HO858.out))) (below_size bl_)); replace HO_844000 := Aside0.mk (Kd.V_elder' (pV_ HO_844000.out) (Kd.R_base ho0) hb); replace HO854 := Aside0.mk (Kd.R_elder' (pR_ HO854.out) (Kd.R_base ho0) hb); replace HO858 := Aside0.mk (Kd.R_elder' (pR_ HO858.out) (Kd.R_base ho0) hb); replace BK843 := Aside0.mk (blk_below (g := gb843) (o := .cells #[.slice Ao58 x844000_4.length co58] 31 (0, 0)) bk_ hb); replace HB := Aside0.mk (below_step bl_ hb); (try clear hb); (try clear hb2); (try clear hk); (try clear hi); (try clear ho0); obtain ⟨hcz64_0, hfz64_0⟩ := cf1_ BK843.out) | ((with_reducible refine gate_callee (f := 40) rfl ?_); refine goesL_ (some 40) rfl rfl Tryd.func40 (by kernel_rfl) rfl #[.agg #[.slice Ao58 x844000_4.length co58]] rfl (by (try simp only [List.map_toArray, List.map_cons, List.map_nil]); first | done | rfl | (simp only [List.length_drop, List.length_take]; rfl)) ?_; (with_reducible refine (exactpplref19_Values.calls kj4 _ _ x844000_4 t864 t867 _ ?side1 ?side2 A22.out).mono ?_); (case side1 => repeat (first | exact (Kd.V_reads' HO_844000.out).2.2 | (with_reducible refine Kd.C_alloc ?_ _) | (with_reducible refine Kd.C_drewN ?_ _) | (with_reducible refine Kd.C_drew ?_))); (case side2 => exact (Kd.V_reads' HO_844000.out).2.1); rintro e w65 ⟨v865, rfl, ho0, hb⟩; refine ⟨_, rfl, ?_⟩; have HO866 := Aside0.mk (Kd.R_lower (Kd.R_new' (Kd.R_new' (Kd.R_new' ho0 (Kd.R_lt (pR_ HO854.out))) (Kd.R_lt (pR_ HO858.out))) (Kd.R_lt (pR_ HO862.out))) (below_size bl_)); replace HO_844000 := Aside0.mk (Kd.V_elder' (pV_ HO_844000.out) (Kd.R_base ho0) hb); replace HO854 := Aside0.mk (Kd.R_elder' (pR_ HO854.out) (Kd.R_base ho0) hb); replace HO858 := Aside0.mk (Kd.R_elder' (pR_ HO858.out) (Kd.R_base ho0) hb); replace HO862 := Aside0.mk (Kd.R_elder' (pR_ HO862.out) (Kd.R_base ho0) hb); replace BK843 := Aside0.mk (blk_below (g := gb843) (o := .cells #[.slice Ao58 x844000_4.length co58] 31 (0, 0)) bk_ hb); replace HB := Aside0.mk (below_step bl_ hb); (try clear hb); (try clear hb2); (try clear hk); (try clear hi); (try clear ho0); obtain ⟨Ao66, co66, eo66⟩ := Kd.R_slice HO854.out; subst eo66; obtain ⟨Ao67, co67, eo67⟩ := Kd.R_slice HO858.out; subst eo67) | (go_at_call 41; (with_reducible refine (exactpplref07_SameInts.calls kj4 _ _ t852 _ _ t856 false _ ?side1 ?side2 ?side3 ?side4 A25.out).mono ?_); (case side1 => repeat (first | exact (Kd.R_reads' HO854.out).2.2 | (with_reducible refine Kd.C_alloc ?_ _) | (with_reducible refine Kd.C_drewN ?_ _) | (with_reducible refine Kd.C_drew ?_))); (case side2 => exact (Kd.R_reads' HO854.out).2.1); (case side3 => repeat (first | exact (Kd.R_reads' HO858.out).2.2 | (with_reducible refine Kd.C_alloc ?_ _) | (with_reducible refine Kd.C_drewN ?_ _) | (with_reducible refine Kd.C_drew ?_))); (case side4 => exact (Kd.R_reads' HO858.out).2.1); rintro e w' ⟨rfl, ⟨nd, rfl⟩⟩))
      go_ret
      exact ⟨re_, bl_⟩
    ·rw [if_neg c24] at H
     have c24b0 : (t863 == t867) = false := beq_eq_false_iff_ne.mpr c24
     have c24b1 : (t863 != t867) = true := bne_iff_ne.mpr c24
     obtain rfl := Option.some.inj H
     obtain ⟨hcz68_0, hfz68_0⟩ := cf1_ BK843.out
     obtain ⟨Ao69, co69, eo69⟩ := Kd.V_slice HO_844000.out
     subst eo69
     go_wp2_with (first | ((with_reducible refine gate_callee (f := 37) rfl ?_); refine goesL_ (some 25) rfl rfl Tryd.func37 (by kernel_rfl) rfl #[.agg #[.slice Ao69 x844000_4.length co69]] rfl (by (try simp only [List.map_toArray, List.map_cons, List.map_nil]); first | done | rfl | (simp only [List.length_drop, List.length_take]; rfl)) ?_; (with_reducible refine (diagram_Sites.calls _ _ x844000_4 t852 t855 _ ?side1 ?side2 A19.out ?tab).mono ?_); (case tab => exact ptab HTAB.out bl_); (case side1 => repeat (first | exact (Kd.V_reads' HO_844000.out).2.2 | (with_reducible refine Kd.C_alloc ?_ _) | (with_reducible refine Kd.C_drewN ?_ _) | (with_reducible refine Kd.C_drew ?_))); (case side2 => exact (Kd.V_reads' HO_844000.out).2.1); rintro e w70 ⟨v853, rfl, ho0, hb⟩; refine ⟨_, rfl, ?_⟩; have HO854 := Aside0.mk (Kd.R_lower ho0 (below_size bl_)); replace HO_844000 := Aside0.mk (Kd.V_elder' (pV_ HO_844000.out) (Kd.R_base ho0) hb); replace BK843 := Aside0.mk (blk_below (g := gb843) (o := .cells #[.slice Ao69 x844000_4.length co69] 31 (0, 0)) bk_ hb); replace HB := Aside0.mk (below_step bl_ hb); (try clear hb); (try clear hb2); (try clear hk); (try clear hi); (try clear ho0); obtain ⟨hcz71_0, hfz71_0⟩ := cf1_ BK843.out) | ((with_reducible refine gate_callee (f := 38) rfl ?_); refine goesL_ (some 30) rfl rfl Tryd.func38 (by kernel_rfl) rfl #[.agg #[.slice Ao69 x844000_4.length co69]] rfl (by (try simp only [List.map_toArray, List.map_cons, List.map_nil]); first | done | rfl | (simp only [List.length_drop, List.length_take]; rfl)) ?_; (with_reducible refine (exactpplref19_Sites.calls kj4 _ _ x844000_4 t856 t859 _ ?side1 ?side2 A20.out).mono ?_); (case side1 => repeat (first | exact (Kd.V_reads' HO_844000.out).2.2 | (with_reducible refine Kd.C_alloc ?_ _) | (with_reducible refine Kd.C_drewN ?_ _) | (with_reducible refine Kd.C_drew ?_))); (case side2 => exact (Kd.V_reads' HO_844000.out).2.1); rintro e w72 ⟨v857, rfl, ho0, hb⟩; refine ⟨_, rfl, ?_⟩; have HO858 := Aside0.mk (Kd.R_lower (Kd.R_new' ho0 (Kd.R_lt (pR_ HO854.out))) (below_size bl_)); replace HO_844000 := Aside0.mk (Kd.V_elder' (pV_ HO_844000.out) (Kd.R_base ho0) hb); replace HO854 := Aside0.mk (Kd.R_elder' (pR_ HO854.out) (Kd.R_base ho0) hb); replace BK843 := Aside0.mk (blk_below (g := gb843) (o := .cells #[.slice Ao69 x844000_4.length co69] 31 (0, 0)) bk_ hb); replace HB := Aside0.mk (below_step bl_ hb); (try clear hb); (try clear hb2); (try clear hk); (try clear hi); (try clear ho0); obtain ⟨hcz73_0, hfz73_0⟩ := cf1_ BK843.out) | ((with_reducible refine gate_callee (f := 39) rfl ?_); refine goesL_ (some 35) rfl rfl Tryd.func39 (by kernel_rfl) rfl #[.agg #[.slice Ao69 x844000_4.length co69]] rfl (by (try simp only [List.map_toArray, List.map_cons, List.map_nil]); first | done | rfl | (simp only [List.length_drop, List.length_take]; rfl)) ?_; (with_reducible refine (diagram_Values.calls _ _ x844000_4 t860 t863 _ ?side1 ?side2 A21.out ?tab).mono ?_); (case tab => exact ptab HTAB.out bl_); (case side1 => repeat (first | exact (Kd.V_reads' HO_844000.out).2.2 | (with_reducible refine Kd.C_alloc ?_ _) | (with_reducible refine Kd.C_drewN ?_ _) | (with_reducible refine Kd.C_drew ?_))); (case side2 => exact (Kd.V_reads' HO_844000.out).2.1); rintro e w74 ⟨v861, rfl, ho0, hb⟩; refine ⟨_, rfl, ?_⟩; have HO862 := Aside0.mk (Kd.R_lower (Kd.R_new' (Kd.R_new' ho0 (Kd.R_lt (pR_ HO854.out))) (Kd.R_lt (pR_ HO858.out))) (below_size bl_)); replace HO_844000 := Aside0.mk (Kd.V_elder' (pV_ HO_844000.out) (Kd.R_base ho0) hb); replace HO854 := Aside0.mk (Kd.R_elder' (pR_ HO854.out) (Kd.R_base ho0) hb); replace HO858 := Aside0.mk (Kd.R_elder' (pR_ HO858.out) (Kd.R_base ho0) hb); replace BK843 := Aside0.mk (blk_below (g := gb843) (o := .cells #[.slice Ao69 x844000_4.length co69] 31 (0, 0)) bk_ hb); replace HB := Aside0.mk (below_step bl_ hb); (try clear hb); (try clear hb2); (try clear hk); (try clear hi); (try clear ho0); obtain ⟨hcz75_0, hfz75_0⟩ := cf1_ BK843.out) | ((with_reducible refine gate_callee (f := 40) rfl ?_); refine goesL_ (some 40) rfl rfl Tryd.func40 (by kernel_rfl) rfl #[.agg #[.slice Ao69 x844000_4.length co69]] rfl (by (try simp only [List.map_toArray, List.map_cons, List.map_nil]); first | done | rfl | (simp only [List.length_drop, List.length_take]; rfl)) ?_; (with_reducible refine (exactpplref19_Values.calls kj4 _ _ x844000_4 t864 t867 _ ?side1 ?side2 A22.out).mono ?_); (case side1 => repeat (first | exact (Kd.V_reads' HO_844000.out).2.2 | (with_reducible refine Kd.C_alloc ?_ _) | (with_reducible refine Kd.C_drewN ?_ _) | (with_reducible refine Kd.C_drew ?_))); (case side2 => exact (Kd.V_reads' HO_844000.out).2.1); rintro e w76 ⟨v865, rfl, ho0, hb⟩; refine ⟨_, rfl, ?_⟩; have HO866 := Aside0.mk (Kd.R_lower (Kd.R_new' (Kd.R_new' (Kd.R_new' ho0 (Kd.R_lt (pR_ HO854.out))) (Kd.R_lt (pR_ HO858.out))) (Kd.R_lt (pR_ HO862.out))) (below_size bl_)); replace HO_844000 := Aside0.mk (Kd.V_elder' (pV_ HO_844000.out) (Kd.R_base ho0) hb); replace HO854 := Aside0.mk (Kd.R_elder' (pR_ HO854.out) (Kd.R_base ho0) hb); replace HO858 := Aside0.mk (Kd.R_elder' (pR_ HO858.out) (Kd.R_base ho0) hb); replace HO862 := Aside0.mk (Kd.R_elder' (pR_ HO862.out) (Kd.R_base ho0) hb); replace BK843 := Aside0.mk (blk_below (g := gb843) (o := .cells #[.slice Ao69 x844000_4.length co69] 31 (0, 0)) bk_ hb); replace HB := Aside0.mk (below_step bl_ hb); (try clear hb); (try clear hb2); (try clear hk); (try clear hi); (try clear ho0)))
     go_ret
     exact ⟨re_, bl_⟩
   ·rw [if_neg c23] at H
    have c23b0 : (t855 == t859) = false := beq_eq_false_iff_ne.mpr c23
    have c23b1 : (t855 != t859) = true := bne_iff_ne.mpr c23
    obtain rfl := Option.some.inj H
    obtain ⟨hcz77_0, hfz77_0⟩ := cf1_ BK843.out
    obtain ⟨Ao78, co78, eo78⟩ := Kd.V_slice HO_844000.out
    subst eo78
    go_wp2_with (first | ((with_reducible refine gate_callee (f := 37) rfl ?_); refine goesL_ (some 25) rfl rfl Tryd.func37 (by kernel_rfl) rfl #[.agg #[.slice Ao78 x844000_4.length co78]] rfl (by (try simp only [List.map_toArray, List.map_cons, List.map_nil]); first | done | rfl | (simp only [List.length_drop, List.length_take]; rfl)) ?_; (with_reducible refine (diagram_Sites.calls _ _ x844000_4 t852 t855 _ ?side1 ?side2 A19.out ?tab).mono ?_); (case tab => exact ptab HTAB.out bl_); (case side1 => repeat (first | exact (Kd.V_reads' HO_844000.out).2.2 | (with_reducible refine Kd.C_alloc ?_ _) | (with_reducible refine Kd.C_drewN ?_ _) | (with_reducible refine Kd.C_drew ?_))); (case side2 => exact (Kd.V_reads' HO_844000.out).2.1); rintro e w79 ⟨v853, rfl, ho0, hb⟩; refine ⟨_, rfl, ?_⟩; have HO854 := Aside0.mk (Kd.R_lower ho0 (below_size bl_)); replace HO_844000 := Aside0.mk (Kd.V_elder' (pV_ HO_844000.out) (Kd.R_base ho0) hb); replace BK843 := Aside0.mk (blk_below (g := gb843) (o := .cells #[.slice Ao78 x844000_4.length co78] 31 (0, 0)) bk_ hb); replace HB := Aside0.mk (below_step bl_ hb); (try clear hb); (try clear hb2); (try clear hk); (try clear hi); (try clear ho0); obtain ⟨hcz80_0, hfz80_0⟩ := cf1_ BK843.out) | ((with_reducible refine gate_callee (f := 38) rfl ?_); refine goesL_ (some 30) rfl rfl Tryd.func38 (by kernel_rfl) rfl #[.agg #[.slice Ao78 x844000_4.length co78]] rfl (by (try simp only [List.map_toArray, List.map_cons, List.map_nil]); first | done | rfl | (simp only [List.length_drop, List.length_take]; rfl)) ?_; (with_reducible refine (exactpplref19_Sites.calls kj4 _ _ x844000_4 t856 t859 _ ?side1 ?side2 A20.out).mono ?_); (case side1 => repeat (first | exact (Kd.V_reads' HO_844000.out).2.2 | (with_reducible refine Kd.C_alloc ?_ _) | (with_reducible refine Kd.C_drewN ?_ _) | (with_reducible refine Kd.C_drew ?_))); (case side2 => exact (Kd.V_reads' HO_844000.out).2.1); rintro e w81 ⟨v857, rfl, ho0, hb⟩; refine ⟨_, rfl, ?_⟩; have HO858 := Aside0.mk (Kd.R_lower (Kd.R_new' ho0 (Kd.R_lt (pR_ HO854.out))) (below_size bl_)); replace HO_844000 := Aside0.mk (Kd.V_elder' (pV_ HO_844000.out) (Kd.R_base ho0) hb); replace HO854 := Aside0.mk (Kd.R_elder' (pR_ HO854.out) (Kd.R_base ho0) hb); replace BK843 := Aside0.mk (blk_below (g := gb843) (o := .cells #[.slice Ao78 x844000_4.length co78] 31 (0, 0)) bk_ hb); replace HB := Aside0.mk (below_step bl_ hb); (try clear hb); (try clear hb2); (try clear hk); (try clear hi); (try clear ho0); obtain ⟨hcz82_0, hfz82_0⟩ := cf1_ BK843.out) | ((with_reducible refine gate_callee (f := 39) rfl ?_); refine goesL_ (some 35) rfl rfl Tryd.func39 (by kernel_rfl) rfl #[.agg #[.slice Ao78 x844000_4.length co78]] rfl (by (try simp only [List.map_toArray, List.map_cons, List.map_nil]); first | done | rfl | (simp only [List.length_drop, List.length_take]; rfl)) ?_; (with_reducible refine (diagram_Values.calls _ _ x844000_4 t860 t863 _ ?side1 ?side2 A21.out ?tab).mono ?_); (case tab => exact ptab HTAB.out bl_); (case side1 => repeat (first | exact (Kd.V_reads' HO_844000.out).2.2 | (with_reducible refine Kd.C_alloc ?_ _) | (with_reducible refine Kd.C_drewN ?_ _) | (with_reducible refine Kd.C_drew ?_))); (case side2 => exact (Kd.V_reads' HO_844000.out).2.1); rintro e w83 ⟨v861, rfl, ho0, hb⟩; refine ⟨_, rfl, ?_⟩; have HO862 := Aside0.mk (Kd.R_lower (Kd.R_new' (Kd.R_new' ho0 (Kd.R_lt (pR_ HO854.out))) (Kd.R_lt (pR_ HO858.out))) (below_size bl_)); replace HO_844000 := Aside0.mk (Kd.V_elder' (pV_ HO_844000.out) (Kd.R_base ho0) hb); replace HO854 := Aside0.mk (Kd.R_elder' (pR_ HO854.out) (Kd.R_base ho0) hb); replace HO858 := Aside0.mk (Kd.R_elder' (pR_ HO858.out) (Kd.R_base ho0) hb); replace BK843 := Aside0.mk (blk_below (g := gb843) (o := .cells #[.slice Ao78 x844000_4.length co78] 31 (0, 0)) bk_ hb); replace HB := Aside0.mk (below_step bl_ hb); (try clear hb); (try clear hb2); (try clear hk); (try clear hi); (try clear ho0); obtain ⟨hcz84_0, hfz84_0⟩ := cf1_ BK843.out) | ((with_reducible refine gate_callee (f := 40) rfl ?_); refine goesL_ (some 40) rfl rfl Tryd.func40 (by kernel_rfl) rfl #[.agg #[.slice Ao78 x844000_4.length co78]] rfl (by (try simp only [List.map_toArray, List.map_cons, List.map_nil]); first | done | rfl | (simp only [List.length_drop, List.length_take]; rfl)) ?_; (with_reducible refine (exactpplref19_Values.calls kj4 _ _ x844000_4 t864 t867 _ ?side1 ?side2 A22.out).mono ?_); (case side1 => repeat (first | exact (Kd.V_reads' HO_844000.out).2.2 | (with_reducible refine Kd.C_alloc ?_ _) | (with_reducible refine Kd.C_drewN ?_ _) | (with_reducible refine Kd.C_drew ?_))); (case side2 => exact (Kd.V_reads' HO_844000.out).2.1); rintro e w85 ⟨v865, rfl, ho0, hb⟩; refine ⟨_, rfl, ?_⟩; have HO866 := Aside0.mk (Kd.R_lower (Kd.R_new' (Kd.R_new' (Kd.R_new' ho0 (Kd.R_lt (pR_ HO854.out))) (Kd.R_lt (pR_ HO858.out))) (Kd.R_lt (pR_ HO862.out))) (below_size bl_)); replace HO_844000 := Aside0.mk (Kd.V_elder' (pV_ HO_844000.out) (Kd.R_base ho0) hb); replace HO854 := Aside0.mk (Kd.R_elder' (pR_ HO854.out) (Kd.R_base ho0) hb); replace HO858 := Aside0.mk (Kd.R_elder' (pR_ HO858.out) (Kd.R_base ho0) hb); replace HO862 := Aside0.mk (Kd.R_elder' (pR_ HO862.out) (Kd.R_base ho0) hb); replace BK843 := Aside0.mk (blk_below (g := gb843) (o := .cells #[.slice Ao78 x844000_4.length co78] 31 (0, 0)) bk_ hb); replace HB := Aside0.mk (below_step bl_ hb); (try clear hb); (try clear hb2); (try clear hk); (try clear hi); (try clear ho0)))
    go_ret
    exact ⟨re_, bl_⟩

/-- THE ONE PURE STATEMENT of exactppllaw19_DiagramLists: yours. -/
def exactppllaw19_DiagramLists.Pure : Prop := ∀ (l0 : List Int), l0.length ≤ maxLen → l0.length * 8 ≤ 140737488351232 → (∀ x ∈ l0, (Lit.int .i64 x).wf = true) → ∃ k, exactppllaw19_DiagramLists.f k l0 = some true
theorem exactppllaw19_DiagramLists.walk (P : exactppllaw19_DiagramLists.Pure) (a0 : Option Addr) (len0 cap0 : Nat) (z0 : List Int) (w : World) (htab : PowTab w.heap.size w) (w0 : (a0 = none ∧ len0 = 0 ∧ cap0 = 0 ∧ z0 = []) ∨ ∃ x, a0 = some x ∧ len0 ≤ cap0 ∧ cap0 ≤ maxLen ∧ z0.length = cap0 ∧ (∀ i, i < z0.length → w.cell? (x.add i) = some (.int .i64 (z0.getD i 0))) ∧ ∀ n ∈ z0, (Lit.int .i64 n).wf = true) (y0 : len0 * 8 ≤ 140737488351232) :
  Calls Tryd.prog 11 #[.slice a0 len0 cap0] w fun e w' => e = .returned (.bool true) ∧ Below w.heap.size w w' := by
 obtain ⟨l0, rfl, hr0, hm0, hw0, hc0⟩ := ReadsInt.ofRowC w0
 obtain ⟨k, h⟩ := P l0 hm0 y0 hw0
 refine (exactppllaw19_DiagramLists.calls k _ _ l0 true w (Kd.C_of_reads (d := (0 : Int)) (h1 := fun _ => rfl) hr0) hc0 h htab).mono ?_
 rintro e w' ⟨rfl, hd⟩
 exact ⟨rfl, hd⟩

end Go.Proofs.YtopbjginpmdebaaDoor.K
-- the reference's Reduce, Validate; reduces; the numbers that are read
namespace Go.Proofs.YtopbjginpmdebaaDoor.K
open Go.RowKit Go.Maps Go.Proofs.YtopbjginpmdebaaDoorW.PrintWords Go.Proofs.YtopbjginpmdebaaDoorW.PrintLast Go.Proofs.YtopbjginpmdebaaDoorW.PrintMore
set_option linter.unusedVariables false
set_option linter.unusedSimpArgs false
/-- rounds enough for a list -/
def rnd (l : List Nd) : Nat := 1073741824 + l.length + l.length + 20006
theorem refReduce_f (l : List Nd) (h : ndOk l = true) (k : Nat) (hk : rnd l ≤ k) : exactpplref19_Reduce.f k l = some (redL l, redE l) := by
  have hr := ndOk_room h
  have hI := ndOk_I h
  unfold rnd at hk
  unfold exactpplref19_Reduce.f
  rw [graph_f l (by omega) 1073741824 (by decide) (fun n hn => (hI n hn).2.2) k (by omega), Option.bind_some]
  by_cases hg : grB l = true
  · rw [if_pos hg, exactpplref19_Canon.f, if_pos hg, if_pos h, Option.bind_some]
    unfold exactpplref19_Fit.f redL redE
    rw [if_pos hg]
    by_cases hl : (cn l).length ≤ 20000
    · rw [if_neg (by omega), if_pos hl]; rfl
    · rw [if_pos (by omega), if_neg hl]; rfl
  · rw [if_neg hg]
    unfold redL redE
    rw [if_neg hg]; rfl
theorem redL_len (l : List Nd) : (redL l).length ≤ 20000 := redL_kids
theorem refValidate_f (l : List Nd) (h : ndOk l = true) (k : Nat) (hk : rnd l ≤ k) : exactpplref19_Validate.f k l = some (valE l) := by
  unfold exactpplref19_Validate.f
  rw [refReduce_f l h k hk, Option.bind_some]
  have hl := redL_len l
  unfold rnd at hk
  unfold valE
  by_cases h0 : redE l = 0
  · rw [if_pos h0, if_pos h0, same_f (redL l) l (by omega) 1073741824 (by decide) (fun n hn => Nat.le_trans (redL_kids16 l n hn) (by decide)) k (by omega), Option.bind_some]
    have e : redL l = cn l := by unfold redL; rw [if_pos h0]
    rw [e]
    by_cases hq : cn l = l
    · rw [decide_eq_true hq, if_pos rfl, if_pos hq]
    · rw [decide_eq_false hq, if_neg (by decide), if_neg hq]
  · rw [if_neg h0, if_neg h0]
theorem mono_le {α : Type} {f : Nat → Option α} (h : ∀ k, LeO (f k) (f (k + 1))) {k k' : Nat} (hk : k ≤ k') {r : α} (e : f k = some r) : f k' = some r := by
  induction hk with
  | refl => exact e
  | step _ ih => exact h _ _ ih
/-- what a source is while it is read -/
structure Src (L : List Int) (at_ : Int) : Prop where
  len : L.length ≤ 1000
  i64 : ∀ x ∈ L, -9223372036854775808 ≤ x ∧ x ≤ 9223372036854775807
  lo : 0 ≤ at_
  hi : at_ ≤ (L.length : Int)
theorem new_f (l : List Int) (h : ∀ x ∈ l, -9223372036854775808 ≤ x ∧ x ≤ 9223372036854775807) : ∃ L, exactpplmake_New.f l = some (L, 0, 0) ∧ Src L 0 := by
  unfold exactpplmake_New.f
  by_cases h1 : (l.length : Int) > 1000
  · rw [if_pos h1, if_pos (by omega)]
    exact ⟨_, rfl, by simp; omega, fun x hx => h x (List.mem_of_mem_take hx), by omega, by omega⟩
  · rw [if_neg h1]
    exact ⟨_, rfl, by omega, h, by omega, by omega⟩
theorem w64_id {x : Int} (h : -9223372036854775808 ≤ x) (h2 : x ≤ 9223372036854775807) : wrap64 x = x := by unfold wrap64; omega
theorem raw_f {L : List Int} {a : Int} (h : Src L a) (st : Int) : ∃ x a', exactpplmake_Src_Raw.f L a st = some (x, a', st) ∧ (-9223372036854775808 ≤ x ∧ x ≤ 9223372036854775807) ∧ Src L a' := by
  have hl := h.len
  have h0 := h.lo
  have h1 := h.hi
  unfold exactpplmake_Src_Raw.f
  by_cases he : a ≥ (L.length : Int)
  · rw [if_pos he]
    exact ⟨0, a, rfl, by omega, h⟩
  · rw [if_neg he, w64_id (x := a + 1) (by omega) (by omega), w64_id (x := a + 1 - 1) (by omega) (by omega), if_pos (by omega), if_pos (by omega)]
    refine ⟨_, _, rfl, ?_, ⟨hl, h.i64, by omega, by omega⟩⟩
    refine h.i64 _ ?_
    have hj : a.toNat < L.length := by omega
    have e : rd L (a + 1 - 1) = L[a.toNat] := by rw [show a + 1 - 1 = ((a.toNat : Nat) : Int) by omega, rd_get hj]
    rw [e]; exact List.getElem_mem hj
theorem n_f {L : List Int} {a : Int} (h : Src L a) (st n : Int) (h1 : 1 ≤ n) (h2 : n ≤ 1000000000000) : ∃ x a', exactpplmake_Src_N.f L a st n = some (x, a', st) ∧ (0 ≤ x ∧ x < n) ∧ Src L a' := by
  unfold exactpplmake_Src_N.f
  obtain ⟨x, a', e, hx, h'⟩ := raw_f h st
  rw [if_neg (by omega), e, Option.bind_some, if_neg (by omega)]
  have ht1 := Int.lt_tmod_of_pos x (show 0 < n by omega)
  have ht2 := Int.tmod_lt_of_pos x (show 0 < n by omega)
  by_cases hn : Int.tmod x n < 0
  · simp only
    rw [if_pos hn, w64_id (by omega) (by omega)]
    exact ⟨_, _, rfl, by omega, h'⟩
  · simp only
    rw [if_neg hn]
    exact ⟨_, _, rfl, by omega, h'⟩
theorem n0_f {L : List Int} {a : Int} (h : Src L a) (st n : Int) (h1 : n < 1) : exactpplmake_Src_N.f L a st n = some (0, a, st) := by
  unfold exactpplmake_Src_N.f
  rw [if_pos h1]
theorem range_f {L : List Int} {a : Int} (h : Src L a) (st lo hi : Int) (h1 : lo ≤ hi) (h2 : -100000000000 ≤ lo) (h3 : hi ≤ 100000000000) : ∃ x a', exactpplmake_Src_Range.f L a st lo hi = some (x, a', st) ∧ (lo ≤ x ∧ x ≤ hi) ∧ Src L a' := by
  unfold exactpplmake_Src_Range.f
  rw [w64_id (x := hi - lo) (by omega) (by omega), w64_id (x := hi - lo + 1) (by omega) (by omega)]
  obtain ⟨x, a', e, hx, h'⟩ := n_f h st (hi - lo + 1) (by omega) (by omega)
  rw [e, Option.bind_some]
  simp only
  rw [w64_id (by omega) (by omega)]
  exact ⟨_, _, rfl, by omega, h'⟩
theorem pick_f {L : List Int} {a : Int} (h : Src L a) (st : Int) (l : List Int) (h1 : l ≠ []) (h2 : l.length ≤ 1000) : ∃ x a', exactpplmake_Src_Pick.f L a st l = some (x, a', st) ∧ x ∈ l ∧ Src L a' := by
  have hp := List.length_pos_iff.2 h1
  unfold exactpplmake_Src_Pick.f
  obtain ⟨x, a', e, hx, h'⟩ := n_f h st (l.length : Int) (by omega) (by omega)
  rw [e, Option.bind_some]
  simp only
  rw [if_pos (by omega), if_pos (by omega)]
  refine ⟨_, _, rfl, ?_, h'⟩
  have hj : x.toNat < l.length := by omega
  rw [show x = ((x.toNat : Nat) : Int) by omega, rd_get hj]
  exact List.getElem_mem hj
theorem width_f (s : Int) (h1 : 0 ≤ s) (h2 : s ≤ 1000000) : exactpplmake_Width.f s = some (2 + s % 2) := by
  unfold exactpplmake_Width.f
  rw [Int.tmod_eq_emod_of_nonneg h1, w64_id (by omega) (by omega)]
end Go.Proofs.YtopbjginpmdebaaDoor.K
-- Src.Nodes ends, and its nodes are a machine's
namespace Go.Proofs.YtopbjginpmdebaaDoor.K
open Go.RowKit Go.Maps Go.Proofs.YtopbjginpmdebaaDoorW.PrintWords Go.Proofs.YtopbjginpmdebaaDoorW.PrintLast Go.Proofs.YtopbjginpmdebaaDoorW.PrintMore
set_option linter.unusedVariables false
set_option linter.unusedSimpArgs false
/-- what Nodes writes -/
def NdG (n : Nd) : Prop := -2 ≤ n.f0 ∧ n.f0 ≤ 64 ∧ -1073741825 ≤ n.f1 ∧ n.f1 ≤ 1073741825 ∧ n.f2.length ≤ 4
/-- how a stretch of Nodes ends -/
def NdEnd (L : List Int) (st : Int) (f : Nat → Option (List S60 × Int × Int)) : Prop := ∃ k r a', f k = some (r, a', st) ∧ (∀ n ∈ r, NdG n) ∧ r.length ≤ 8 ∧ Src L a'
theorem NdG.snoc {l : List Nd} {n : Nd} (h : ∀ m ∈ l, NdG m) (hn : NdG n) : ∀ m ∈ l ++ [n], NdG m := fun m hm => (List.mem_append.1 hm).elim (h m) (fun e => by rw [List.mem_singleton.1 e]; exact hn)
theorem nd_j3 {L : List Int} {st : Int} {m : Nat} (ih : ∀ (l : List Nd) (a : Int), l.length + m ≤ 8 → (∀ n ∈ l, NdG n) → Src L a → NdEnd L st fun k => exactpplmake_Src_Nodes.l0 k l (m : Int) L a st)
    (l : List Nd) (a s v : Int) (ks : List Int) (hl : l.length + (m + 1) ≤ 8) (hg : ∀ n ∈ l, NdG n) (hS : Src L a) (hs : -2 ≤ s ∧ s ≤ 64) (hv : -1073741825 ≤ v ∧ v ≤ 1073741825) (hks : ks.length ≤ 3) :
    NdEnd L st fun k => exactpplmake_Src_Nodes.j3 k l ((m + 1 : Nat) : Int) L a st s v ks := by
  obtain ⟨x, a1, e1, hx, h1⟩ := n_f hS st 24 (by omega) (by omega)
  have hw : wrap64 (((m + 1 : Nat) : Int) - 1) = (m : Int) := by rw [w64_id (by omega) (by omega)]; omega
  by_cases hx0 : x = 0
  · obtain ⟨y, a2, e2, hy, h2⟩ := pick_f h1 st [-2, -1, 0, 63, 64] (by simp) (by simp)
    have hy' : -2 ≤ y ∧ y ≤ 64 := by simp at hy; omega
    obtain ⟨k, r, a', e, q1, q2, q3⟩ := ih (l ++ [⟨y, v, ks⟩]) a2 (by simp; omega) (NdG.snoc hg ⟨hy'.1, hy'.2, hv.1, hv.2, by show ks.length ≤ 4; omega⟩) h2
    refine ⟨k + 1, r, a', ?_, q1, q2, q3⟩
    simp only [exactpplmake_Src_Nodes.j3]
    rw [e1, Option.bind_some]
    simp only
    rw [if_pos hx0, e2, Option.bind_some, if_pos (by omega), hw]
    exact e
  · by_cases hx1 : x = 1
    · obtain ⟨y, a2, e2, hy, h2⟩ := pick_f h1 st [1073741824, 1073741825, -1073741824, -1073741825] (by simp) (by simp)
      have hy' : -1073741825 ≤ y ∧ y ≤ 1073741825 := by simp at hy; omega
      obtain ⟨k, r, a', e, q1, q2, q3⟩ := ih (l ++ [⟨s, y, ks⟩]) a2 (by simp; omega) (NdG.snoc hg ⟨hs.1, hs.2, hy'.1, hy'.2, by show ks.length ≤ 4; omega⟩) h2
      refine ⟨k + 1, r, a', ?_, q1, q2, q3⟩
      simp only [exactpplmake_Src_Nodes.j3]
      rw [e1, Option.bind_some]
      simp only
      rw [if_neg hx0, if_pos hx1, e2, Option.bind_some, if_pos (by omega), hw]
      exact e
    · by_cases hx2 : x = 2
      · obtain ⟨y, a2, e2, hy, h2⟩ := range_f h1 st (-1) (l.length : Int) (by omega) (by omega) (by omega)
        obtain ⟨k, r, a', e, q1, q2, q3⟩ := ih (l ++ [⟨s, v, ks ++ [y]⟩]) a2 (by simp; omega) (NdG.snoc hg ⟨hs.1, hs.2, hv.1, hv.2, by show (ks ++ [y]).length ≤ 4; simp; omega⟩) h2
        refine ⟨k + 1, r, a', ?_, q1, q2, q3⟩
        simp only [exactpplmake_Src_Nodes.j3]
        rw [e1, Option.bind_some]
        simp only
        rw [if_neg hx0, if_neg hx1, if_pos hx2, e2, Option.bind_some, if_pos (by omega), if_pos (by omega), hw]
        exact e
      · obtain ⟨k, r, a', e, q1, q2, q3⟩ := ih (l ++ [⟨s, v, ks⟩]) a1 (by simp; omega) (NdG.snoc hg ⟨hs.1, hs.2, hv.1, hv.2, by show ks.length ≤ 4; omega⟩) h1
        refine ⟨k + 1, r, a', ?_, q1, q2, q3⟩
        simp only [exactpplmake_Src_Nodes.j3]
        rw [e1, Option.bind_some]
        simp only
        rw [if_neg hx0, if_neg hx1, if_neg hx2, if_pos (by omega), hw]
        exact e
theorem nd_l1 {L : List Int} {st : Int} {m : Nat} (ih : ∀ (l : List Nd) (a : Int), l.length + m ≤ 8 → (∀ n ∈ l, NdG n) → Src L a → NdEnd L st fun k => exactpplmake_Src_Nodes.l0 k l (m : Int) L a st)
    (l : List Nd) (s v : Int) (hl : l.length + (m + 1) ≤ 8) (hg : ∀ n ∈ l, NdG n) (hs : 0 ≤ s ∧ s ≤ 2) (hv : -1073741825 ≤ v ∧ v ≤ 1073741825) : ∀ (c : Nat) (j : Nat) (a : Int) (ks : List Int), 3 - j ≤ c → j ≤ 3 → ks.length = j → Src L a →
    NdEnd L st fun k => exactpplmake_Src_Nodes.l1 k l ((m + 1 : Nat) : Int) (j : Int) L a st s v ks := by
  intro c
  induction c with
  | zero =>
    intro j a ks h1 h2 h3 hS
    obtain ⟨k, r, a', e, q1, q2, q3⟩ := nd_j3 ih l a s v ks hl hg hS ⟨by omega, by omega⟩ hv (by omega)
    refine ⟨k + 1, r, a', ?_, q1, q2, q3⟩
    simp only [exactpplmake_Src_Nodes.l1]
    rw [width_f s hs.1 (by omega), Option.bind_some, if_neg (by omega)]
    exact e
  | succ c ihc =>
    intro j a ks h1 h2 h3 hS
    by_cases hj : (j : Int) < 2 + s % 2
    · have hN : ∃ x a1, exactpplmake_Src_N.f L a st (l.length : Int) = some (x, a1, st) ∧ Src L a1 := by
        by_cases h0 : (l.length : Int) < 1
        · exact ⟨0, a, n0_f hS st _ h0, hS⟩
        · obtain ⟨x, a1, e1, _, h4⟩ := n_f hS st (l.length : Int) (by omega) (by omega)
          exact ⟨x, a1, e1, h4⟩
      obtain ⟨x, a1, e1, h4⟩ := hN
      obtain ⟨k, r, a', e, q1, q2, q3⟩ := ihc (j + 1) a1 (ks ++ [x]) (by omega) (by omega) (by simp; omega) h4
      refine ⟨k + 1, r, a', ?_, q1, q2, q3⟩
      simp only [exactpplmake_Src_Nodes.l1]
      rw [width_f s hs.1 (by omega), Option.bind_some, if_pos hj, e1, Option.bind_some, if_pos (by omega), w64_succ (by omega)]
      exact e
    · obtain ⟨k, r, a', e, q1, q2, q3⟩ := nd_j3 ih l a s v ks hl hg hS ⟨by omega, by omega⟩ hv (by omega)
      refine ⟨k + 1, r, a', ?_, q1, q2, q3⟩
      simp only [exactpplmake_Src_Nodes.l1]
      rw [width_f s hs.1 (by omega), Option.bind_some, if_neg hj]
      exact e
theorem nd_l0 {L : List Int} (st : Int) : ∀ (m : Nat) (l : List Nd) (a : Int), l.length + m ≤ 8 → (∀ n ∈ l, NdG n) → Src L a → NdEnd L st fun k => exactpplmake_Src_Nodes.l0 k l (m : Int) L a st := by
  intro m
  induction m with
  | zero =>
    intro l a hl hg hS
    refine ⟨1, l, a, ?_, hg, by omega, hS⟩
    simp only [exactpplmake_Src_Nodes.l0]
    rw [if_neg (by omega)]
  | succ m ih =>
    intro l a hl hg hS
    obtain ⟨x, a1, e1, hx, h1⟩ := range_f hS st (-2) 2 (by omega) (by omega) (by omega)
    by_cases h0 : (l.length : Int) > 0
    · obtain ⟨y, a2, e2, hy, h2⟩ := n_f h1 st 3 (by omega) (by omega)
      by_cases hy0 : y > 0
      · obtain ⟨z, a3, e3, hz, h3⟩ := n_f h2 st 3 (by omega) (by omega)
        obtain ⟨k, r, a', e, q1, q2, q3⟩ := nd_l1 ih l z 0 (by omega) hg ⟨hz.1, by omega⟩ (by omega) 3 0 a3 [] (by omega) (by omega) rfl h3
        refine ⟨k + 1 + 1, r, a', ?_, q1, q2, q3⟩
        simp only [exactpplmake_Src_Nodes.l0, exactpplmake_Src_Nodes.j1]
        rw [if_pos (by omega), e1, Option.bind_some, if_pos h0]
        simp only
        rw [e2, Option.bind_some]
        simp only
        rw [decide_eq_true hy0, if_pos rfl, e3, Option.bind_some]
        exact e
      · obtain ⟨k, r, a', e, q1, q2, q3⟩ := nd_j3 ih l a2 (-1) x [] (by omega) hg h2 (by omega) (by omega) (by simp)
        refine ⟨k + 1 + 1, r, a', ?_, q1, q2, q3⟩
        simp only [exactpplmake_Src_Nodes.l0, exactpplmake_Src_Nodes.j1]
        rw [if_pos (by omega), e1, Option.bind_some, if_pos h0]
        simp only
        rw [e2, Option.bind_some]
        simp only
        rw [decide_eq_false hy0, if_neg (by decide)]
        exact e
    · obtain ⟨k, r, a', e, q1, q2, q3⟩ := nd_j3 ih l a1 (-1) x [] (by omega) hg h1 (by omega) (by omega) (by simp)
      refine ⟨k + 1 + 1, r, a', ?_, q1, q2, q3⟩
      simp only [exactpplmake_Src_Nodes.l0, exactpplmake_Src_Nodes.j1]
      rw [if_pos (by omega), e1, Option.bind_some, if_neg h0]
      simp only
      rw [if_neg (by decide)]
      exact e
theorem NdG.ok {l : List Nd} (h : ∀ n ∈ l, NdG n) (hl : l.length ≤ 1000) : ndOk l = true := by
  unfold ndOk
  rw [Bool.and_eq_true, List.all_eq_true]
  refine ⟨fun n hn => decide_eq_true ?_, decide_eq_true (by omega)⟩
  have := h n hn
  unfold NdG at this
  omega
theorem nodes_f {L : List Int} {a : Int} (h : Src L a) (st : Int) : ∃ K r a', (∀ k, K ≤ k → exactpplmake_Src_Nodes.f k L a st = some (r, a', st)) ∧ (∀ n ∈ r, NdG n) ∧ r.length ≤ 8 ∧ Src L a' := by
  obtain ⟨x, a1, e1, hx, h1⟩ := n_f h st 9 (by omega) (by omega)
  obtain ⟨m, rfl⟩ : ∃ m : Nat, x = m := ⟨x.toNat, by omega⟩
  obtain ⟨k, r, a', e, q1, q2, q3⟩ := nd_l0 (L := L) st m [] a1 (by simp; omega) (by simp) h1
  refine ⟨k, r, a', fun k' hk => mono_le (f := fun k => exactpplmake_Src_Nodes.f k L a st) (fun k => exactpplmake_Src_Nodes.mono L a st k) hk ?_, q1, q2, q3⟩
  show exactpplmake_Src_Nodes.f k L a st = _
  unfold exactpplmake_Src_Nodes.f
  rw [e1, Option.bind_some]
  exact e
end Go.Proofs.YtopbjginpmdebaaDoor.K
namespace Go.Proofs.YtopbjginpmdebaaDoor.K
open Go.RowKit Go.Proofs.YtopbjginpmdebaaDoorW.PrintWords Go.Proofs.YtopbjginpmdebaaDoorW.PrintLast Go.Proofs.YtopbjginpmdebaaDoorW.PrintMore
attribute [local go_sem] max2_int min2_int max_two min_two max_three min_three max_four min_four   -- for this text's walks alone
set_option linter.unusedVariables false
set_option linter.unusedSimpArgs false

/-! ### exactppllaw19_reduces: function 14 -/
def exactppllaw19_reduces.f (k : Nat) (l0 : List (S60)) : Option (Bool) := (diagram_Reduce.f l0).bind fun bt213 => ((exactpplref19_Reduce.f k l0).bind fun bt218 => (if bt213.2 = bt218.2 then ((exactpplref19_Same.f k bt213.1 bt218.1).bind fun t223 => (if t223 = true then ((diagram_Validate.f l0).bind fun t224 => ((exactpplref19_Validate.f k l0).bind fun t225 => (some (t224 == t225)))) else (some false))) else (some false)))
theorem exactppllaw19_reduces.mono : ∀ a0 k, LeO (exactppllaw19_reduces.f k a0) (exactppllaw19_reduces.f (k + 1) a0) := by
 intro a0 k
 unfold exactppllaw19_reduces.f
 repeat' first
   | (with_reducible exact exactpplref19_Reduce.mono _ _)
   | (with_reducible exact exactpplref19_Same.mono _ _ _)
   | (with_reducible exact exactpplref19_Validate.mono _ _)
   | (with_reducible exact LeO.refl _)
   | (with_reducible exact LeO.none _)
   | (with_reducible refine LeO.ite ?_ ?_)
   | (with_reducible refine LeO.bind ?_ (fun _ => ?_))
   | exact exactpplref19_Reduce.mono _ _
   | exact exactpplref19_Same.mono _ _ _
   | exact exactpplref19_Validate.mono _ _
   | exact LeO.none _
   | refine LeO.ite ?_ ?_
   | refine LeO.bind ?_ (fun _ => ?_)
set_option maxHeartbeats 8000000 in
set_option maxRecDepth 100000 in
theorem exactppllaw19_reduces.calls (k : Nat) (A0 : Option Addr) (c0 : Nat) (l0 : List (S60)) (r : Bool) (w : World) (hr0 : Kd.C k60 w A0 l0.length l0) (hc0 : l0.length ≤ c0) (h : exactppllaw19_reduces.f k l0 = some r) (htab : PowTab w.heap.size w) :
  Calls Tryd.prog 14 #[.slice A0 l0.length c0] w fun e w' => e = .returned (.bool r) ∧ Below w.heap.size w w' := by
 have HTAB := Aside0.mk htab
 clear htab
 have hu31 := Tryd.underlying31
 have HR0 := Aside0.mk hr0
 have HC0 := Aside0.mk hc0
 clear hr0 hc0
 have HB := Aside0.mk (Below.refl w.heap.size w)
 have H : ((diagram_Reduce.f l0).bind fun bt213 => ((exactpplref19_Reduce.f k l0).bind fun bt218 => (if bt213.2 = bt218.2 then ((exactpplref19_Same.f k bt213.1 bt218.1).bind fun t223 => (if t223 = true then ((diagram_Validate.f l0).bind fun t224 => ((exactpplref19_Validate.f k l0).bind fun t225 => (some (t224 == t225)))) else (some false))) else (some false)))) = some r := h
 clear h
 replace H := Option.bind_eq_some_iff.mp H
 obtain ⟨⟨t213, t216⟩, A20, H⟩ := H
 replace H : ((exactpplref19_Reduce.f k l0).bind fun bt218 => (if t216 = bt218.2 then ((exactpplref19_Same.f k t213 bt218.1).bind fun t223 => (if t223 = true then ((diagram_Validate.f l0).bind fun t224 => ((exactpplref19_Validate.f k l0).bind fun t225 => (some (t224 == t225)))) else (some false))) else (some false))) = some r := H
 have A2 := Aside0.mk A20
 clear A20
 replace H := Option.bind_eq_some_iff.mp H
 obtain ⟨⟨t218, t221⟩, A30, H⟩ := H
 replace H : (if t216 = t221 then ((exactpplref19_Same.f k t213 t218).bind fun t223 => (if t223 = true then ((diagram_Validate.f l0).bind fun t224 => ((exactpplref19_Validate.f k l0).bind fun t225 => (some (t224 == t225)))) else (some false))) else (some false)) = some r := H
 have A3 := Aside0.mk A30
 clear A30
 by_cases c4 : t216 = t221
 ·rw [if_pos c4] at H
  have c4b0 : (t216 == t221) = true := beq_iff_eq.mpr c4
  have c4b1 : (t216 != t221) = false := bne_eq_false_iff_eq.mpr c4
  clear c4
  replace H := Option.bind_eq_some_iff.mp H
  obtain ⟨t223, A50, H⟩ := H
  replace H : (if t223 = true then ((diagram_Validate.f l0).bind fun t224 => ((exactpplref19_Validate.f k l0).bind fun t225 => (some (t224 == t225)))) else (some false)) = some r := H
  have A5 := Aside0.mk A50
  clear A50
  by_cases c6 : t223 = true
  ·subst c6
   have H1 : ((diagram_Validate.f l0).bind fun t224 => ((exactpplref19_Validate.f k l0).bind fun t225 => (some (t224 == t225)))) = some r := by rw [if_pos rfl] at H; exact H
   clear H
   have H := H1
   clear H1
   replace H := Option.bind_eq_some_iff.mp H
   obtain ⟨t224, A70, H⟩ := H
   replace H : ((exactpplref19_Validate.f k l0).bind fun t225 => (some (t224 == t225))) = some r := H
   have A7 := Aside0.mk A70
   clear A70
   replace H := Option.bind_eq_some_iff.mp H
   obtain ⟨t225, A80, H⟩ := H
   replace H : (some (t224 == t225)) = some r := H
   have A8 := Aside0.mk A80
   clear A80
   obtain rfl := Option.some.inj H
   go_enter Tryd.func14, Tryd.ntmps14
   go_wp2_with (first | ((with_reducible refine gate_callee (f := 19) rfl ?_); refine goesL_ (some 9) rfl rfl Tryd.func19 (by kernel_rfl) rfl #[.slice A0 l0.length c0] rfl (by (try simp only [List.map_toArray, List.map_cons, List.map_nil]); first | done | rfl | (simp only [List.length_drop, List.length_take]; rfl)) ?_; (with_reducible refine (diagram_Reduce.calls _ _ l0 t213 t216 _ ?side1 ?side2 A2.out ?tab).mono ?_); (case tab => exact ptab HTAB.out bl_); (case side1 => repeat (first | exact HR0.out | (with_reducible refine Kd.C_alloc ?_ _) | (with_reducible refine Kd.C_drewN ?_ _) | (with_reducible refine Kd.C_drew ?_))); (case side2 => exact HC0.out); rintro e w9 ⟨v214, rfl, ho0, hb⟩; refine ⟨_, rfl, ?_⟩; have HO215 := Aside0.mk (Kd.V_lower (Kd.V_mono (ok' := fun k_ => True) ho0 (fun k_ hk_ => trivial)) (below_size bl_)); replace HB := Aside0.mk (below_step bl_ hb); (try clear hb); (try clear hb2); (try clear hk); (try clear hi); (try clear ho0)) | ((with_reducible refine gate_dst (N := 3) rfl ?_); refine box_event ?hg (N := 3) ?hd (cs := #[.slice none 0 0]) (t := 31) ?hr ?_; (case hd => rfl); (case hg => rfl); (case hr => first | (go_simp; done) | (go_simp; rfl)); intro gb217 hg w10 hbox hb; have BK217 := Aside0.mk (hbox); have GW217 : Aside0 (w.heap.size ≤ gb217) := gw_ hg (below_size bl_); have GE217 := GW217; replace HO215 := Aside0.mk (Kd.V_below (Kd.V_elderB (pV_ HO215.out) gb217 (Nat.le_of_eq hg.symm)) hb); replace HB := Aside0.mk (below_step bl_ hb); clear hb hbox hg; obtain ⟨Ao11, co11, eo11⟩ := Kd.V_slice HO215.out; subst eo11; obtain ⟨hcz12_0, hfz12_0⟩ := cf1_ BK217.out) | ((with_reducible refine gate_callee (f := 43) rfl ?_); refine goesL_ (some 14) rfl rfl Tryd.func43 (by kernel_rfl) rfl #[.slice A0 l0.length c0] rfl (by (try simp only [List.map_toArray, List.map_cons, List.map_nil]); first | done | rfl | (simp only [List.length_drop, List.length_take]; rfl)) ?_; (with_reducible refine (exactpplref19_Reduce.calls k _ _ l0 t218 t221 _ ?side1 ?side2 A3.out).mono ?_); (case side1 => exact Kd.C_below HR0.out bl_); (case side2 => exact HC0.out); rintro e w13 ⟨v219, rfl, ho0, hb⟩; refine ⟨_, rfl, ?_⟩; have HO220 := Aside0.mk (Kd.V_lower (Kd.V_mono (ok' := fun k_ => k_ ≠ gb217) ho0 (fun k_ hk_ => (Kd.freshB (g := gb217) (o := .cells #[.slice Ao11 t213.length co11] 31 (0, 0)) (by (with_reducible repeat (first | refine blk_drewN ?_ _ | refine blk_drew ?_ | refine blk_alloc ?_ _)); refine blk_put (cs := #[.slice none 0 0]) ?_ 0 _ rfl; (with_reducible repeat (first | refine blk_drewN ?_ _ | refine blk_drew ?_ | refine blk_alloc ?_ _)); exact BK217.out) k_ hk_))) (below_size bl_)); replace HO215 := Aside0.mk (Kd.V_below (by (with_reducible repeat (first | apply Kd.V_alloc | apply Kd.V_drewN | apply Kd.V_drew)); exact (Kd.V_mono (Kd.V_far (p := ⟨gb217, 0, none⟩) (Kd.V_mono HO215.out (fun k_ hk => (⟨hk, by first | exact hk.2 | exact hk.1 | exact hk.2 | exact hk.1.1 | exact hk.1.2⟩ : _ ∧ k_ ≠ gb217))) (fun _ hk => hk.2) (.slice Ao11 t213.length co11)) (fun _ h_ => h_.1))) hb); replace BK217 := Aside0.mk (blk_below (g := gb217) (o := .cells #[.slice Ao11 t213.length co11] 31 (0, 0)) (by (with_reducible repeat (first | refine blk_drewN ?_ _ | refine blk_drew ?_ | refine blk_alloc ?_ _)); refine blk_put (cs := #[.slice none 0 0]) ?_ 0 _ rfl; (with_reducible repeat (first | refine blk_drewN ?_ _ | refine blk_drew ?_ | refine blk_alloc ?_ _)); exact BK217.out) hb); replace HB := Aside0.mk (below_step bl_ hb); (try clear hb); (try clear hb2); (try clear hk); (try clear hi); (try clear ho0)) | ((with_reducible refine gate_dst (N := 5) rfl ?_); refine box_event ?hg (N := 5) ?hd (cs := #[.slice none 0 0]) (t := 31) ?hr ?_; (case hd => rfl); (case hg => rfl); (case hr => first | (go_simp; done) | (go_simp; rfl)); intro gb222 hg w14 hbox hb; have BK222 := Aside0.mk (hbox); have GW222 : Aside0 (w.heap.size ≤ gb222) := gw_ hg (below_size bl_); have GE222 := GW222; have NB217_222 := Aside0.mk ((by rw [hg]; exact Nat.ne_of_lt (blk_lt (g := gb217) (o := .cells #[.slice Ao11 t213.length co11] 31 (0, 0)) bk_) : gb217 ≠ gb222)); have NB222_217 := Aside0.mk ((by rw [hg]; exact Nat.ne_of_gt (blk_lt (g := gb217) (o := .cells #[.slice Ao11 t213.length co11] 31 (0, 0)) bk_) : gb222 ≠ gb217)); replace HO215 := Aside0.mk (Kd.V_below (Kd.V_elderB (pV_ HO215.out) gb222 (Nat.le_of_eq hg.symm)) hb); replace HO220 := Aside0.mk (Kd.V_below (Kd.V_elderB (pV_ HO220.out) gb222 (Nat.le_of_eq hg.symm)) hb); replace BK217 := Aside0.mk (blk_below (g := gb217) (o := .cells #[.slice Ao11 t213.length co11] 31 (0, 0)) bk_ hb); replace HB := Aside0.mk (below_step bl_ hb); clear hb hbox hg; obtain ⟨Ao15, co15, eo15⟩ := Kd.V_slice HO220.out; subst eo15; have hnb16 := NB222_217.out; have hnc16 := NB217_222.out; obtain ⟨hcz17_0, hfz17_0⟩ := cf1_ BK222.out; obtain ⟨hcz18_0, hfz18_0⟩ := cf1_ BK217.out) | (go_at_call 20; (with_reducible refine (exactpplref19_Same.calls k _ _ t213 _ _ t218 true _ ?side1 ?side2 ?side3 ?side4 A5.out).mono ?_); (case side1 => refine (Kd.V_reads' (e := 60) (base := w.heap.size) (ok := fun k_ => ((True ∧ k_ ≠ gb217) ∧ k_ ≠ gb222)) (n := t213.length) (c := co11) ?_).2.2; exact (by (with_reducible repeat (first | apply Kd.V_alloc | apply Kd.V_drewN | apply Kd.V_drew)); exact (Kd.V_mono (Kd.V_far (p := ⟨gb222, 0, none⟩) (Kd.V_mono HO215.out (fun k_ hk => (⟨hk, by first | exact hk.2 | exact hk.1 | exact hk.2 | exact hk.1.1 | exact hk.1.2⟩ : _ ∧ k_ ≠ gb222))) (fun _ hk => hk.2) (.slice Ao15 t218.length co15)) (fun _ h_ => h_.1)))); (case side2 => exact (Kd.V_reads' HO215.out).2.1); (case side3 => refine (Kd.V_reads' (e := 60) (base := w.heap.size) (ok := fun k_ => (k_ ≠ gb217 ∧ k_ ≠ gb222)) (n := t218.length) (c := co15) ?_).2.2; exact (by (with_reducible repeat (first | apply Kd.V_alloc | apply Kd.V_drewN | apply Kd.V_drew)); exact (Kd.V_mono (Kd.V_far (p := ⟨gb222, 0, none⟩) (Kd.V_mono HO220.out (fun k_ hk => (⟨hk, by first | exact hk.2 | exact hk.1 | exact hk.2 | exact hk.1.1 | exact hk.1.2⟩ : _ ∧ k_ ≠ gb222))) (fun _ hk => hk.2) (.slice Ao15 t218.length co15)) (fun _ h_ => h_.1)))); (case side4 => exact (Kd.V_reads' HO220.out).2.1); rintro e w19 ⟨rfl, hb⟩; replace HO215 := Aside0.mk (Kd.V_below (by (with_reducible repeat (first | apply Kd.V_alloc | apply Kd.V_drewN | apply Kd.V_drew)); exact (Kd.V_mono (Kd.V_far (p := ⟨gb222, 0, none⟩) (Kd.V_mono HO215.out (fun k_ hk => (⟨hk, by first | exact hk.2 | exact hk.1 | exact hk.2 | exact hk.1.1 | exact hk.1.2⟩ : _ ∧ k_ ≠ gb222))) (fun _ hk => hk.2) (.slice Ao15 t218.length co15)) (fun _ h_ => h_.1))) hb); replace HO220 := Aside0.mk (Kd.V_below (by (with_reducible repeat (first | apply Kd.V_alloc | apply Kd.V_drewN | apply Kd.V_drew)); exact (Kd.V_mono (Kd.V_far (p := ⟨gb222, 0, none⟩) (Kd.V_mono HO220.out (fun k_ hk => (⟨hk, by first | exact hk.2 | exact hk.1 | exact hk.2 | exact hk.1.1 | exact hk.1.2⟩ : _ ∧ k_ ≠ gb222))) (fun _ hk => hk.2) (.slice Ao15 t218.length co15)) (fun _ h_ => h_.1))) hb); replace BK217 := Aside0.mk (blk_below (g := gb217) (o := .cells #[.slice Ao11 t213.length co11] 31 (0, 0)) (by (with_reducible repeat (first | refine blk_drewN ?_ _ | refine blk_drew ?_ | refine blk_alloc ?_ _)); refine blk_far ?_ NB217_222.out _; (with_reducible repeat (first | refine blk_drewN ?_ _ | refine blk_drew ?_ | refine blk_alloc ?_ _)); exact BK217.out) hb); replace BK222 := Aside0.mk (blk_below (g := gb222) (o := .cells #[.slice Ao15 t218.length co15] 31 (0, 0)) (by (with_reducible repeat (first | refine blk_drewN ?_ _ | refine blk_drew ?_ | refine blk_alloc ?_ _)); refine blk_put (cs := #[.slice none 0 0]) ?_ 0 _ rfl; (with_reducible repeat (first | refine blk_drewN ?_ _ | refine blk_drew ?_ | refine blk_alloc ?_ _)); exact BK222.out) hb); replace HB := Aside0.mk (below_step bl_ hb); (try clear hb); (try clear hb2); (try clear hk); (try clear hi)) | (go_at_call 21; (with_reducible refine (diagram_Validate.calls _ _ l0 t224 _ ?side1 ?side2 A7.out ?tab).mono ?_); (case tab => exact ptab HTAB.out bl_); (case side1 => repeat (first | exact (Kd.C_below HR0.out HB.out) | (with_reducible refine Kd.C_alloc ?_ _) | (with_reducible refine Kd.C_drewN ?_ _) | (with_reducible refine Kd.C_drew ?_))); (case side2 => exact HC0.out); rintro e w20 ⟨rfl, hb⟩; replace HO215 := Aside0.mk (Kd.V_below (pV_ HO215.out) hb); replace HO220 := Aside0.mk (Kd.V_below (pV_ HO220.out) hb); replace BK217 := Aside0.mk (blk_below (g := gb217) (o := .cells #[.slice Ao11 t213.length co11] 31 (0, 0)) bk_ hb); replace BK222 := Aside0.mk (blk_below (g := gb222) (o := .cells #[.slice Ao15 t218.length co15] 31 (0, 0)) bk_ hb); replace HB := Aside0.mk (below_step bl_ hb); (try clear hb); (try clear hb2); (try clear hk); (try clear hi)) | (go_at_call 44; (with_reducible refine (exactpplref19_Validate.calls k _ _ l0 t225 _ ?side1 ?side2 A8.out).mono ?_); (case side1 => repeat (first | exact (Kd.C_below HR0.out HB.out) | (with_reducible refine Kd.C_alloc ?_ _) | (with_reducible refine Kd.C_drewN ?_ _) | (with_reducible refine Kd.C_drew ?_))); (case side2 => exact HC0.out); rintro e w21 ⟨rfl, hb⟩; replace HO215 := Aside0.mk (Kd.V_below (pV_ HO215.out) hb); replace HO220 := Aside0.mk (Kd.V_below (pV_ HO220.out) hb); replace BK217 := Aside0.mk (blk_below (g := gb217) (o := .cells #[.slice Ao11 t213.length co11] 31 (0, 0)) bk_ hb); replace BK222 := Aside0.mk (blk_below (g := gb222) (o := .cells #[.slice Ao15 t218.length co15] 31 (0, 0)) bk_ hb); replace HB := Aside0.mk (below_step bl_ hb); (try clear hb); (try clear hb2); (try clear hk); (try clear hi)))
   go_ret
   exact ⟨re_, bl_⟩
  ·replace c6 := Bool.eq_false_iff.mpr c6
   subst c6
   have H1 : (some false) = some r := by rw [if_neg (show ¬ (false = true) by decide)] at H; exact H
   clear H
   have H := H1
   clear H1
   obtain rfl := Option.some.inj H
   go_enter Tryd.func14, Tryd.ntmps14
   go_wp2_with (first | ((with_reducible refine gate_callee (f := 19) rfl ?_); refine goesL_ (some 9) rfl rfl Tryd.func19 (by kernel_rfl) rfl #[.slice A0 l0.length c0] rfl (by (try simp only [List.map_toArray, List.map_cons, List.map_nil]); first | done | rfl | (simp only [List.length_drop, List.length_take]; rfl)) ?_; (with_reducible refine (diagram_Reduce.calls _ _ l0 t213 t216 _ ?side1 ?side2 A2.out ?tab).mono ?_); (case tab => exact ptab HTAB.out bl_); (case side1 => repeat (first | exact HR0.out | (with_reducible refine Kd.C_alloc ?_ _) | (with_reducible refine Kd.C_drewN ?_ _) | (with_reducible refine Kd.C_drew ?_))); (case side2 => exact HC0.out); rintro e w22 ⟨v214, rfl, ho0, hb⟩; refine ⟨_, rfl, ?_⟩; have HO215 := Aside0.mk (Kd.V_lower (Kd.V_mono (ok' := fun k_ => True) ho0 (fun k_ hk_ => trivial)) (below_size bl_)); replace HB := Aside0.mk (below_step bl_ hb); (try clear hb); (try clear hb2); (try clear hk); (try clear hi); (try clear ho0)) | ((with_reducible refine gate_dst (N := 3) rfl ?_); refine box_event ?hg (N := 3) ?hd (cs := #[.slice none 0 0]) (t := 31) ?hr ?_; (case hd => rfl); (case hg => rfl); (case hr => first | (go_simp; done) | (go_simp; rfl)); intro gb217 hg w23 hbox hb; have BK217 := Aside0.mk (hbox); have GW217 : Aside0 (w.heap.size ≤ gb217) := gw_ hg (below_size bl_); have GE217 := GW217; replace HO215 := Aside0.mk (Kd.V_below (Kd.V_elderB (pV_ HO215.out) gb217 (Nat.le_of_eq hg.symm)) hb); replace HB := Aside0.mk (below_step bl_ hb); clear hb hbox hg; obtain ⟨Ao24, co24, eo24⟩ := Kd.V_slice HO215.out; subst eo24; obtain ⟨hcz25_0, hfz25_0⟩ := cf1_ BK217.out) | ((with_reducible refine gate_callee (f := 43) rfl ?_); refine goesL_ (some 14) rfl rfl Tryd.func43 (by kernel_rfl) rfl #[.slice A0 l0.length c0] rfl (by (try simp only [List.map_toArray, List.map_cons, List.map_nil]); first | done | rfl | (simp only [List.length_drop, List.length_take]; rfl)) ?_; (with_reducible refine (exactpplref19_Reduce.calls k _ _ l0 t218 t221 _ ?side1 ?side2 A3.out).mono ?_); (case side1 => exact Kd.C_below HR0.out bl_); (case side2 => exact HC0.out); rintro e w26 ⟨v219, rfl, ho0, hb⟩; refine ⟨_, rfl, ?_⟩; have HO220 := Aside0.mk (Kd.V_lower (Kd.V_mono (ok' := fun k_ => k_ ≠ gb217) ho0 (fun k_ hk_ => (Kd.freshB (g := gb217) (o := .cells #[.slice Ao24 t213.length co24] 31 (0, 0)) (by (with_reducible repeat (first | refine blk_drewN ?_ _ | refine blk_drew ?_ | refine blk_alloc ?_ _)); refine blk_put (cs := #[.slice none 0 0]) ?_ 0 _ rfl; (with_reducible repeat (first | refine blk_drewN ?_ _ | refine blk_drew ?_ | refine blk_alloc ?_ _)); exact BK217.out) k_ hk_))) (below_size bl_)); replace HO215 := Aside0.mk (Kd.V_below (by (with_reducible repeat (first | apply Kd.V_alloc | apply Kd.V_drewN | apply Kd.V_drew)); exact (Kd.V_mono (Kd.V_far (p := ⟨gb217, 0, none⟩) (Kd.V_mono HO215.out (fun k_ hk => (⟨hk, by first | exact hk.2 | exact hk.1 | exact hk.2 | exact hk.1.1 | exact hk.1.2⟩ : _ ∧ k_ ≠ gb217))) (fun _ hk => hk.2) (.slice Ao24 t213.length co24)) (fun _ h_ => h_.1))) hb); replace BK217 := Aside0.mk (blk_below (g := gb217) (o := .cells #[.slice Ao24 t213.length co24] 31 (0, 0)) (by (with_reducible repeat (first | refine blk_drewN ?_ _ | refine blk_drew ?_ | refine blk_alloc ?_ _)); refine blk_put (cs := #[.slice none 0 0]) ?_ 0 _ rfl; (with_reducible repeat (first | refine blk_drewN ?_ _ | refine blk_drew ?_ | refine blk_alloc ?_ _)); exact BK217.out) hb); replace HB := Aside0.mk (below_step bl_ hb); (try clear hb); (try clear hb2); (try clear hk); (try clear hi); (try clear ho0)) | ((with_reducible refine gate_dst (N := 5) rfl ?_); refine box_event ?hg (N := 5) ?hd (cs := #[.slice none 0 0]) (t := 31) ?hr ?_; (case hd => rfl); (case hg => rfl); (case hr => first | (go_simp; done) | (go_simp; rfl)); intro gb222 hg w27 hbox hb; have BK222 := Aside0.mk (hbox); have GW222 : Aside0 (w.heap.size ≤ gb222) := gw_ hg (below_size bl_); have GE222 := GW222; have NB217_222 := Aside0.mk ((by rw [hg]; exact Nat.ne_of_lt (blk_lt (g := gb217) (o := .cells #[.slice Ao24 t213.length co24] 31 (0, 0)) bk_) : gb217 ≠ gb222)); have NB222_217 := Aside0.mk ((by rw [hg]; exact Nat.ne_of_gt (blk_lt (g := gb217) (o := .cells #[.slice Ao24 t213.length co24] 31 (0, 0)) bk_) : gb222 ≠ gb217)); replace HO215 := Aside0.mk (Kd.V_below (Kd.V_elderB (pV_ HO215.out) gb222 (Nat.le_of_eq hg.symm)) hb); replace HO220 := Aside0.mk (Kd.V_below (Kd.V_elderB (pV_ HO220.out) gb222 (Nat.le_of_eq hg.symm)) hb); replace BK217 := Aside0.mk (blk_below (g := gb217) (o := .cells #[.slice Ao24 t213.length co24] 31 (0, 0)) bk_ hb); replace HB := Aside0.mk (below_step bl_ hb); clear hb hbox hg; obtain ⟨Ao28, co28, eo28⟩ := Kd.V_slice HO220.out; subst eo28; have hnb29 := NB222_217.out; have hnc29 := NB217_222.out; obtain ⟨hcz30_0, hfz30_0⟩ := cf1_ BK222.out; obtain ⟨hcz31_0, hfz31_0⟩ := cf1_ BK217.out) | (go_at_call 20; (with_reducible refine (exactpplref19_Same.calls k _ _ t213 _ _ t218 false _ ?side1 ?side2 ?side3 ?side4 A5.out).mono ?_); (case side1 => refine (Kd.V_reads' (e := 60) (base := w.heap.size) (ok := fun k_ => ((True ∧ k_ ≠ gb217) ∧ k_ ≠ gb222)) (n := t213.length) (c := co24) ?_).2.2; exact (by (with_reducible repeat (first | apply Kd.V_alloc | apply Kd.V_drewN | apply Kd.V_drew)); exact (Kd.V_mono (Kd.V_far (p := ⟨gb222, 0, none⟩) (Kd.V_mono HO215.out (fun k_ hk => (⟨hk, by first | exact hk.2 | exact hk.1 | exact hk.2 | exact hk.1.1 | exact hk.1.2⟩ : _ ∧ k_ ≠ gb222))) (fun _ hk => hk.2) (.slice Ao28 t218.length co28)) (fun _ h_ => h_.1)))); (case side2 => exact (Kd.V_reads' HO215.out).2.1); (case side3 => refine (Kd.V_reads' (e := 60) (base := w.heap.size) (ok := fun k_ => (k_ ≠ gb217 ∧ k_ ≠ gb222)) (n := t218.length) (c := co28) ?_).2.2; exact (by (with_reducible repeat (first | apply Kd.V_alloc | apply Kd.V_drewN | apply Kd.V_drew)); exact (Kd.V_mono (Kd.V_far (p := ⟨gb222, 0, none⟩) (Kd.V_mono HO220.out (fun k_ hk => (⟨hk, by first | exact hk.2 | exact hk.1 | exact hk.2 | exact hk.1.1 | exact hk.1.2⟩ : _ ∧ k_ ≠ gb222))) (fun _ hk => hk.2) (.slice Ao28 t218.length co28)) (fun _ h_ => h_.1)))); (case side4 => exact (Kd.V_reads' HO220.out).2.1); rintro e w32 ⟨rfl, hb⟩; replace HO215 := Aside0.mk (Kd.V_below (by (with_reducible repeat (first | apply Kd.V_alloc | apply Kd.V_drewN | apply Kd.V_drew)); exact (Kd.V_mono (Kd.V_far (p := ⟨gb222, 0, none⟩) (Kd.V_mono HO215.out (fun k_ hk => (⟨hk, by first | exact hk.2 | exact hk.1 | exact hk.2 | exact hk.1.1 | exact hk.1.2⟩ : _ ∧ k_ ≠ gb222))) (fun _ hk => hk.2) (.slice Ao28 t218.length co28)) (fun _ h_ => h_.1))) hb); replace HO220 := Aside0.mk (Kd.V_below (by (with_reducible repeat (first | apply Kd.V_alloc | apply Kd.V_drewN | apply Kd.V_drew)); exact (Kd.V_mono (Kd.V_far (p := ⟨gb222, 0, none⟩) (Kd.V_mono HO220.out (fun k_ hk => (⟨hk, by first | exact hk.2 | exact hk.1 | exact hk.2 | exact hk.1.1 | exact hk.1.2⟩ : _ ∧ k_ ≠ gb222))) (fun _ hk => hk.2) (.slice Ao28 t218.length co28)) (fun _ h_ => h_.1))) hb); replace BK217 := Aside0.mk (blk_below (g := gb217) (o := .cells #[.slice Ao24 t213.length co24] 31 (0, 0)) (by (with_reducible repeat (first | refine blk_drewN ?_ _ | refine blk_drew ?_ | refine blk_alloc ?_ _)); refine blk_far ?_ NB217_222.out _; (with_reducible repeat (first | refine blk_drewN ?_ _ | refine blk_drew ?_ | refine blk_alloc ?_ _)); exact BK217.out) hb); replace BK222 := Aside0.mk (blk_below (g := gb222) (o := .cells #[.slice Ao28 t218.length co28] 31 (0, 0)) (by (with_reducible repeat (first | refine blk_drewN ?_ _ | refine blk_drew ?_ | refine blk_alloc ?_ _)); refine blk_put (cs := #[.slice none 0 0]) ?_ 0 _ rfl; (with_reducible repeat (first | refine blk_drewN ?_ _ | refine blk_drew ?_ | refine blk_alloc ?_ _)); exact BK222.out) hb); replace HB := Aside0.mk (below_step bl_ hb); (try clear hb); (try clear hb2); (try clear hk); (try clear hi)))
   go_ret
   exact ⟨re_, bl_⟩
 ·rw [if_neg c4] at H
  have c4b0 : (t216 == t221) = false := beq_eq_false_iff_ne.mpr c4
  have c4b1 : (t216 != t221) = true := bne_iff_ne.mpr c4
  obtain rfl := Option.some.inj H
  go_enter Tryd.func14, Tryd.ntmps14
  go_wp2_with (first | ((with_reducible refine gate_callee (f := 19) rfl ?_); refine goesL_ (some 9) rfl rfl Tryd.func19 (by kernel_rfl) rfl #[.slice A0 l0.length c0] rfl (by (try simp only [List.map_toArray, List.map_cons, List.map_nil]); first | done | rfl | (simp only [List.length_drop, List.length_take]; rfl)) ?_; (with_reducible refine (diagram_Reduce.calls _ _ l0 t213 t216 _ ?side1 ?side2 A2.out ?tab).mono ?_); (case tab => exact ptab HTAB.out bl_); (case side1 => repeat (first | exact HR0.out | (with_reducible refine Kd.C_alloc ?_ _) | (with_reducible refine Kd.C_drewN ?_ _) | (with_reducible refine Kd.C_drew ?_))); (case side2 => exact HC0.out); rintro e w33 ⟨v214, rfl, ho0, hb⟩; refine ⟨_, rfl, ?_⟩; have HO215 := Aside0.mk (Kd.V_lower (Kd.V_mono (ok' := fun k_ => True) ho0 (fun k_ hk_ => trivial)) (below_size bl_)); replace HB := Aside0.mk (below_step bl_ hb); (try clear hb); (try clear hb2); (try clear hk); (try clear hi); (try clear ho0)) | ((with_reducible refine gate_dst (N := 3) rfl ?_); refine box_event ?hg (N := 3) ?hd (cs := #[.slice none 0 0]) (t := 31) ?hr ?_; (case hd => rfl); (case hg => rfl); (case hr => first | (go_simp; done) | (go_simp; rfl)); intro gb217 hg w34 hbox hb; have BK217 := Aside0.mk (hbox); have GW217 : Aside0 (w.heap.size ≤ gb217) := gw_ hg (below_size bl_); have GE217 := GW217; replace HO215 := Aside0.mk (Kd.V_below (Kd.V_elderB (pV_ HO215.out) gb217 (Nat.le_of_eq hg.symm)) hb); replace HB := Aside0.mk (below_step bl_ hb); clear hb hbox hg; obtain ⟨Ao35, co35, eo35⟩ := Kd.V_slice HO215.out; subst eo35; obtain ⟨hcz36_0, hfz36_0⟩ := cf1_ BK217.out) | ((with_reducible refine gate_callee (f := 43) rfl ?_); refine goesL_ (some 14) rfl rfl Tryd.func43 (by kernel_rfl) rfl #[.slice A0 l0.length c0] rfl (by (try simp only [List.map_toArray, List.map_cons, List.map_nil]); first | done | rfl | (simp only [List.length_drop, List.length_take]; rfl)) ?_; (with_reducible refine (exactpplref19_Reduce.calls k _ _ l0 t218 t221 _ ?side1 ?side2 A3.out).mono ?_); (case side1 => exact Kd.C_below HR0.out bl_); (case side2 => exact HC0.out); rintro e w37 ⟨v219, rfl, ho0, hb⟩; refine ⟨_, rfl, ?_⟩; have HO220 := Aside0.mk (Kd.V_lower (Kd.V_mono (ok' := fun k_ => k_ ≠ gb217) ho0 (fun k_ hk_ => (Kd.freshB (g := gb217) (o := .cells #[.slice Ao35 t213.length co35] 31 (0, 0)) (by (with_reducible repeat (first | refine blk_drewN ?_ _ | refine blk_drew ?_ | refine blk_alloc ?_ _)); refine blk_put (cs := #[.slice none 0 0]) ?_ 0 _ rfl; (with_reducible repeat (first | refine blk_drewN ?_ _ | refine blk_drew ?_ | refine blk_alloc ?_ _)); exact BK217.out) k_ hk_))) (below_size bl_)); replace HO215 := Aside0.mk (Kd.V_below (by (with_reducible repeat (first | apply Kd.V_alloc | apply Kd.V_drewN | apply Kd.V_drew)); exact (Kd.V_mono (Kd.V_far (p := ⟨gb217, 0, none⟩) (Kd.V_mono HO215.out (fun k_ hk => (⟨hk, by first | exact hk.2 | exact hk.1 | exact hk.2 | exact hk.1.1 | exact hk.1.2⟩ : _ ∧ k_ ≠ gb217))) (fun _ hk => hk.2) (.slice Ao35 t213.length co35)) (fun _ h_ => h_.1))) hb); replace BK217 := Aside0.mk (blk_below (g := gb217) (o := .cells #[.slice Ao35 t213.length co35] 31 (0, 0)) (by (with_reducible repeat (first | refine blk_drewN ?_ _ | refine blk_drew ?_ | refine blk_alloc ?_ _)); refine blk_put (cs := #[.slice none 0 0]) ?_ 0 _ rfl; (with_reducible repeat (first | refine blk_drewN ?_ _ | refine blk_drew ?_ | refine blk_alloc ?_ _)); exact BK217.out) hb); replace HB := Aside0.mk (below_step bl_ hb); (try clear hb); (try clear hb2); (try clear hk); (try clear hi); (try clear ho0)) | ((with_reducible refine gate_dst (N := 5) rfl ?_); refine box_event ?hg (N := 5) ?hd (cs := #[.slice none 0 0]) (t := 31) ?hr ?_; (case hd => rfl); (case hg => rfl); (case hr => first | (go_simp; done) | (go_simp; rfl)); intro gb222 hg w38 hbox hb; have BK222 := Aside0.mk (hbox); have GW222 : Aside0 (w.heap.size ≤ gb222) := gw_ hg (below_size bl_); have GE222 := GW222; have NB217_222 := Aside0.mk ((by rw [hg]; exact Nat.ne_of_lt (blk_lt (g := gb217) (o := .cells #[.slice Ao35 t213.length co35] 31 (0, 0)) bk_) : gb217 ≠ gb222)); have NB222_217 := Aside0.mk ((by rw [hg]; exact Nat.ne_of_gt (blk_lt (g := gb217) (o := .cells #[.slice Ao35 t213.length co35] 31 (0, 0)) bk_) : gb222 ≠ gb217)); replace HO215 := Aside0.mk (Kd.V_below (Kd.V_elderB (pV_ HO215.out) gb222 (Nat.le_of_eq hg.symm)) hb); replace HO220 := Aside0.mk (Kd.V_below (Kd.V_elderB (pV_ HO220.out) gb222 (Nat.le_of_eq hg.symm)) hb); replace BK217 := Aside0.mk (blk_below (g := gb217) (o := .cells #[.slice Ao35 t213.length co35] 31 (0, 0)) bk_ hb); replace HB := Aside0.mk (below_step bl_ hb); clear hb hbox hg; obtain ⟨Ao39, co39, eo39⟩ := Kd.V_slice HO220.out; subst eo39; have hnb40 := NB222_217.out; have hnc40 := NB217_222.out; obtain ⟨hcz41_0, hfz41_0⟩ := cf1_ BK222.out))
  go_ret
  exact ⟨re_, bl_⟩

end Go.Proofs.YtopbjginpmdebaaDoor.K
-- reduces
namespace Go.Proofs.YtopbjginpmdebaaDoor.K
open Go.RowKit Go.Maps Go.Proofs.YtopbjginpmdebaaDoorW.PrintWords Go.Proofs.YtopbjginpmdebaaDoorW.PrintLast Go.Proofs.YtopbjginpmdebaaDoorW.PrintMore
set_option linter.unusedVariables false
set_option linter.unusedSimpArgs false
theorem reduces_f (l : List Nd) (h : ndOk l = true) (k : Nat) (hk : rnd l ≤ k) : exactppllaw19_reduces.f k l = some true := by
  have hl := redL_len l
  have hk' := hk
  unfold rnd at hk'
  unfold exactppllaw19_reduces.f diagram_Reduce.f
  rw [if_pos h, Option.bind_some, refReduce_f l h k hk, Option.bind_some, if_pos rfl, same_f _ _ (by show (redL l).length < _; omega) 1073741824 (by decide) (fun n hn => Nat.le_trans (redL_kids16 l n hn) (by decide)) k (by show (redL l).length + _ < _; omega), Option.bind_some, if_pos (by simp)]
  unfold diagram_Validate.f
  rw [if_pos h, Option.bind_some, refValidate_f l h k hk, Option.bind_some]
  simp
theorem wf_of {l : List Int} (h : ∀ x ∈ l, (Lit.int .i64 x).wf = true) : ∀ x ∈ l, -9223372036854775808 ≤ x ∧ x ≤ 9223372036854775807 := by
  intro x hx
  have h1 := h x hx
  have h2 : IntKind.i64.min ≤ x ∧ x ≤ 9223372036854775807 := by simpa [Lit.wf] using h1
  have h3 : IntKind.i64.min = -9223372036854775808 := by decide
  omega
end Go.Proofs.YtopbjginpmdebaaDoor.K
-- the shape of the diagrams that are made; Src.Diagram
namespace Go.Proofs.YtopbjginpmdebaaDoor.K
open Go.RowKit Go.Maps Go.Proofs.YtopbjginpmdebaaDoorW.PrintWords Go.Proofs.YtopbjginpmdebaaDoorW.PrintLast Go.Proofs.YtopbjginpmdebaaDoorW.PrintMore
set_option linter.unusedVariables false
set_option linter.unusedSimpArgs false
/-- the shape of what is made -/
def wd (s : Int) : Nat := (2 + s % 2).toNat
/-- how many nodes at most -/
def bnd : Nat → Nat
  | 0 => 1
  | n + 1 => 3 * bnd n + 1
theorem bnd_le : ∀ n, n ≤ 6 → bnd n ≤ 1093 := by
  intro n hn
  match n, hn with
  | 0, _ => decide
  | 1, _ => decide
  | 2, _ => decide
  | 3, _ => decide
  | 4, _ => decide
  | 5, _ => decide
  | 6, _ => decide
theorem bnd_mono (n : Nat) : bnd n ≤ bnd (n + 1) := by simp only [bnd]; omega
theorem bnd_pos (n : Nat) : 1 ≤ bnd n := by
  cases n with
  | zero => exact Nat.le_refl _
  | succ n => simp only [bnd]; omega
/-- a diagram that was made over the sites from lo to hi -/
structure Dg (lo hi : Int) (n : Nat) (r : List Nd) : Prop where
  gr : grB r = true
  shp : GrS wd r
  can : Can r
  len : r.length ≤ bnd n
  all : AllF (fun x => lo ≤ x ∧ x ≤ hi) r
theorem Dg.const {lo hi : Int} {n : Nat} (v : Int) (h : -1073741824 ≤ v ∧ v ≤ 1073741824) : Dg lo hi n [⟨-1, v, []⟩] := by
  have hs : GrS wd [⟨-1, v, []⟩] := ⟨fun i hi => by
    obtain rfl : i = 0 := by simp at hi; omega
    exact .inl (lf_iff.2 ⟨rfl, rfl, h.1, h.2⟩)⟩
  have hr : Red [⟨-1, v, []⟩] := ⟨fun i hi k hk => by
    obtain rfl : i = 0 := by simp at hi; omega
    simp [nth] at hk, by simp, by simp, by simp, by simp⟩
  refine ⟨hs.gr (by simp), hs, ⟨hr, by simp, ?_⟩, by simpa using bnd_pos n, ?_⟩
  · simp [expo, dfs, fin, upd, nth, mp]
  · intro n hn h0
    simp at hn
    subst hn
    simp at h0
theorem Dg.weaken {lo lo' hi : Int} {n m : Nat} {r : List Nd} (h : Dg lo hi n r) (h1 : lo' ≤ lo) (h2 : bnd n ≤ bnd m) : Dg lo' hi m r := ⟨h.gr, h.shp, h.can, Nat.le_trans h.len h2, fun x hx h0 => ⟨by have := (h.all x hx h0).1; omega, (h.all x hx h0).2⟩⟩
theorem sumL_le {m : Nat} : ∀ (ds : List S31), (∀ d ∈ ds, d.f0.length ≤ m) → sumL ds ≤ ds.length * m
  | [], _ => by simp [sumL]
  | d :: ds, h => by
    have h1 := h d List.mem_cons_self
    have h2 := sumL_le ds (fun e he => h e (List.mem_cons_of_mem _ he))
    simp only [sumL, List.map_cons, List.sum_cons, List.length_cons] at h2 ⊢
    rw [Nat.add_mul]; omega
theorem Dg.join {lo hi : Int} {n : Nat} {ds : List S31} (hd : ∀ d ∈ ds, Dg (lo + 1) hi n d.f0) (hl : ds.length = wd lo) (hlo : 0 ≤ lo ∧ lo ≤ hi) (hhi : hi ≤ 60) (hn : n ≤ 5) : exactpplref19_Join.f lo ds = some (jn lo ds) ∧ Dg lo hi (n + 1) (jn lo ds) := by
  have hw : wd lo = 2 ∨ wd lo = 3 := by unfold wd; omega
  have hne : ds ≠ [] := by intro e; rw [e] at hl; simp at hl; omega
  have hs := sumL_le ds (fun d hd' => (hd d hd').len)
  have hb := bnd_le n (by omega)
  have hs2 : sumL ds ≤ 3 * bnd n := Nat.le_trans hs (Nat.mul_le_mul_right _ (by omega))
  have hd1 : ∀ d ∈ ds, GrS wd d.f0 ∧ d.f0 ≠ [] ∧ AllF (fun x => lo < x) d.f0 := fun d hd' => ⟨(hd d hd').shp, gr_ne (hd d hd').gr, fun m hm h0 => by have := ((hd d hd').all m hm h0).1; omega⟩
  have hj := jn_ok hd1 ⟨hlo.1, by omega⟩ hne hl (by omega)
  have ht := jn_tb hd1 ⟨hlo.1, by omega⟩ hne hl (by omega)
  refine ⟨?_, ⟨hj.2.1, hj.1, hj.2.2.1, by simp only [bnd]; have := hj.2.2.2; omega, jn_all (fun d hd' m hm h0 => ⟨by have := ((hd d hd').all m hm h0).1; omega, ((hd d hd').all m hm h0).2⟩) ⟨Int.le_refl _, hlo.2⟩ ht.1.red.down ht.2.1⟩⟩
  unfold exactpplref19_Join.f
  rw [if_pos ⟨hlo.1, hne, by omega, by omega⟩, if_pos (List.all_eq_true.2 fun d hd' => (hd d hd').gr)]
/-- how a stretch of Diagram ends -/
def DgEnd (L : List Int) (st lo hi : Int) (n : Nat) (f : Nat → Option (List S60 × Int × Int)) : Prop := ∃ k r a', f k = some (r, a', st) ∧ Dg lo hi n r ∧ Src L a'
theorem diag_k {L : List Int} (st hi : Int) (hhi : hi ≤ 60) : ∀ (n : Nat), n ≤ 6 → ∀ (lo a : Int), 0 ≤ lo → hi - lo + 1 ≤ n → Src L a → DgEnd L st lo hi n fun k => exactpplmake_Src_Diagram.f k L a st lo hi := by
  intro n
  induction n with
  | zero =>
    intro hn lo a h0 h1 hS
    obtain ⟨x, a1, e1, hx, h2⟩ := range_f hS st (-2) 3 (by omega) (by omega) (by omega)
    refine ⟨1 + 1, [⟨-1, x, []⟩], a1, ?_, Dg.const x (by omega), h2⟩
    simp only [exactpplmake_Src_Diagram.f, exactpplmake_Src_Diagram.j0]
    rw [if_pos (by omega), if_pos trivial, e1, Option.bind_some, exactpplref19_Const.f, Option.bind_some]
  | succ n ih =>
    intro hn lo a h0 h1 hS
    by_cases hgt : lo > hi
    · obtain ⟨x, a1, e1, hx, h2⟩ := range_f hS st (-2) 3 (by omega) (by omega) (by omega)
      refine ⟨1 + 1, [⟨-1, x, []⟩], a1, ?_, Dg.const x (by omega), h2⟩
      simp only [exactpplmake_Src_Diagram.f, exactpplmake_Src_Diagram.j0]
      rw [if_pos (by omega), if_pos trivial, e1, Option.bind_some, exactpplref19_Const.f, Option.bind_some]
    · obtain ⟨y, a1, e1, hy, h2⟩ := n_f hS st 5 (by omega) (by omega)
      by_cases hy0 : y = 0
      · obtain ⟨x, a2, e2, hx, h3⟩ := range_f h2 st (-2) 3 (by omega) (by omega) (by omega)
        refine ⟨1 + 1, [⟨-1, x, []⟩], a2, ?_, Dg.const x (by omega), h3⟩
        simp only [exactpplmake_Src_Diagram.f, exactpplmake_Src_Diagram.j0]
        rw [if_neg hgt, e1, Option.bind_some]
        simp only
        rw [if_pos (by simpa using hy0), e2, Option.bind_some, exactpplref19_Const.f, Option.bind_some]
      · obtain ⟨z, a2, e2, hz, h3⟩ := n_f h2 st 4 (by omega) (by omega)
        by_cases hz0 : z = 0
        · obtain ⟨k, r, a', e, q1, q2⟩ := ih (by omega) (lo + 1) a2 (by omega) (by omega) h3
          refine ⟨k + 1 + 1, r, a', ?_, q1.weaken (by omega) (bnd_mono n), q2⟩
          simp only [exactpplmake_Src_Diagram.f, exactpplmake_Src_Diagram.j0]
          rw [if_neg hgt, e1, Option.bind_some]
          simp only
          rw [if_neg (by simpa using hy0), e2, Option.bind_some]
          simp only
          have e' : exactpplmake_Src_Diagram.f k L a2 st (lo + 1) hi = some (r, a', st) := e
          rw [if_pos hz0, w64_id (by omega) (by omega), e', Option.bind_some]
        · -- the kids, one by one
          have hw : wd lo = 2 ∨ wd lo = 3 := by unfold wd; omega
          have key : ∀ (c j : Nat) (a : Int) (ds : List S31), wd lo - j ≤ c → j ≤ wd lo → ds.length = j → (∀ d ∈ ds, Dg (lo + 1) hi n d.f0) → Src L a → DgEnd L st lo hi (n + 1) fun k => exactpplmake_Src_Diagram.l0 k lo hi ds (j : Int) L a st := by
            intro c
            induction c with
            | zero =>
              intro j a ds g1 g2 g3 g4 g5
              obtain ⟨j1, j2⟩ := Dg.join g4 (by omega) ⟨h0, by omega⟩ hhi (by omega)
              refine ⟨1, jn lo ds, a, ?_, j2, g5⟩
              simp only [exactpplmake_Src_Diagram.l0]
              rw [width_f lo h0 (by omega), Option.bind_some, if_neg (by unfold wd at g1; omega), j1, Option.bind_some]
            | succ c ihc =>
              intro j a ds g1 g2 g3 g4 g5
              by_cases hj : j < wd lo
              · obtain ⟨k1, r, a', e, q1, q2⟩ := ih (by omega) (lo + 1) a (by omega) (by omega) g5
                obtain ⟨k2, r2, a2', e2', q3, q4⟩ := ihc (j + 1) a' (ds ++ [⟨r⟩]) (by omega) (by omega) (by simp; omega) (fun d hd => (List.mem_append.1 hd).elim (g4 d) (fun e => by rw [List.mem_singleton.1 e]; exact q1)) q2
                refine ⟨k1 + k2 + 1, r2, a2', ?_, q3, q4⟩
                simp only [exactpplmake_Src_Diagram.l0]
                have e' : exactpplmake_Src_Diagram.f (k1 + k2) L a st (lo + 1) hi = some (r, a', st) := mono_le (f := fun k => exactpplmake_Src_Diagram.f k L a st (lo + 1) hi) (fun k => exactpplmake_Src_Diagram.mono L a st (lo + 1) hi k) (show k1 ≤ k1 + k2 by omega) e
                have e2'' := mono_le (f := fun k => exactpplmake_Src_Diagram.l0 k lo hi (ds ++ [⟨r⟩]) ((j + 1 : Nat) : Int) L a' st) (fun k => (exactpplmake_Src_Diagram.mono_l k).2.2 _ _ _ _ _ _ _) (show k2 ≤ k1 + k2 by omega) e2'
                rw [width_f lo h0 (by omega), Option.bind_some, if_pos (by unfold wd at hj; omega), w64_id (x := lo + 1) (by omega) (by omega)]
                rw [e', Option.bind_some]
                simp only
                rw [if_pos (by omega), w64_succ (by omega)]
                exact e2''
              · obtain ⟨j1, j2⟩ := Dg.join g4 (by omega) ⟨h0, by omega⟩ hhi (by omega)
                refine ⟨1, jn lo ds, a, ?_, j2, g5⟩
                simp only [exactpplmake_Src_Diagram.l0]
                rw [width_f lo h0 (by omega), Option.bind_some, if_neg (by unfold wd at hj; omega), j1, Option.bind_some]
          obtain ⟨k, r, a', e, q1, q2⟩ := key 3 0 a2 [] (by omega) (by omega) rfl (by simp) h3
          refine ⟨k + 1 + 1, r, a', ?_, q1, q2⟩
          simp only [exactpplmake_Src_Diagram.f, exactpplmake_Src_Diagram.j0]
          rw [if_neg hgt, e1, Option.bind_some]
          simp only
          rw [if_neg (by simpa using hy0), e2, Option.bind_some]
          simp only
          rw [if_neg hz0]
          exact e
theorem diag_f {L : List Int} {a : Int} (h : Src L a) (st lo hi : Int) (h0 : 0 ≤ lo) (h1 : hi ≤ 5) : ∃ K r a', (∀ k, K ≤ k → exactpplmake_Src_Diagram.f k L a st lo hi = some (r, a', st)) ∧ Dg lo hi 6 r ∧ Src L a' := by
  obtain ⟨k, r, a', e, q1, q2⟩ := diag_k (L := L) st hi (by omega) 6 (by omega) lo a h0 (by omega) h
  exact ⟨k, r, a', fun k' hk => mono_le (f := fun k => exactpplmake_Src_Diagram.f k L a st lo hi) (fun k => exactpplmake_Src_Diagram.mono L a st lo hi k) hk e, q1, q2⟩
theorem Dg.ok {lo hi : Int} {r : List Nd} (h : Dg lo hi 6 r) : ndOk r = true := gr_ok h.gr (by have := h.len; have := bnd_le 6 (by omega); omega)
theorem Dg.len' {lo hi : Int} {r : List Nd} (h : Dg lo hi 6 r) : r.length ≤ 1093 := Nat.le_trans h.len (bnd_le 6 (by omega))
end Go.Proofs.YtopbjginpmdebaaDoor.K
-- the reference's Sites and Values
namespace Go.Proofs.YtopbjginpmdebaaDoor.K
open Go.RowKit Go.Maps Go.Proofs.YtopbjginpmdebaaDoorW.PrintWords Go.Proofs.YtopbjginpmdebaaDoorW.PrintLast Go.Proofs.YtopbjginpmdebaaDoorW.PrintMore
set_option linter.unusedVariables false
set_option linter.unusedSimpArgs false
theorem asc_ext : ∀ (a b : List Int), a.Pairwise (· < ·) → b.Pairwise (· < ·) → (∀ x, x ∈ a ↔ x ∈ b) → a = b
  | [], [], _, _, _ => rfl
  | [], y :: b, _, _, h => by have := (h y).2 List.mem_cons_self; cases this
  | x :: a, [], _, _, h => by have := (h x).1 List.mem_cons_self; cases this
  | x :: a, y :: b, ha, hb, h => by
    rw [List.pairwise_cons] at ha hb
    have hxy : x = y := by
      have h1 := (h x).1 List.mem_cons_self
      have h2 := (h y).2 List.mem_cons_self
      rcases List.mem_cons.1 h1 with h1 | h1
      · exact h1
      · rcases List.mem_cons.1 h2 with h2 | h2
        · exact h2.symm
        · have := ha.1 y h2; have := hb.1 x h1; omega
    subst hxy
    congr 1
    refine asc_ext a b ha.2 hb.2 fun z => ?_
    constructor
    · intro hz
      rcases List.mem_cons.1 ((h z).1 (List.mem_cons_of_mem _ hz)) with h1 | h1
      · have := ha.1 z hz; omega
      · exact h1
    · intro hz
      rcases List.mem_cons.1 ((h z).2 (List.mem_cons_of_mem _ hz)) with h1 | h1
      · have := hb.1 z hz; omega
      · exact h1
theorem srtc_spec (l : List Int) : (srtc l).Pairwise (· < ·) ∧ ∀ x, x ∈ srtc l ↔ x ∈ l := by
  obtain ⟨h1, h2⟩ := compact_spec (srt l) (srt_le l)
  exact ⟨h1, fun x => (h2 x).trans (srt_mem l x)⟩
/-- what add answers -/
structure Added (l : List Int) (n : Int) (r : List Int) : Prop where
  asc : r.Pairwise (· < ·)
  mem : ∀ x, x ∈ r ↔ x ∈ l ∨ x = n
  len : r.length ≤ l.length + 1
theorem add_in {l : List Int} {n : Int} {j : Nat} (hp : l.Pairwise (· < ·)) (h1 : ∀ x ∈ l.take j, x < n) (h2 : ∀ x ∈ l.drop j, n < x) : Added l n (l.take j ++ [n] ++ l.drop j) := by
  refine ⟨?_, fun x => ?_, by simp; omega⟩
  · rw [List.append_assoc, List.pairwise_append]
    refine ⟨hp.sublist (List.take_sublist _ _), ?_, fun a ha b hb => ?_⟩
    · rw [List.singleton_append, List.pairwise_cons]
      exact ⟨h2, hp.sublist (List.drop_sublist _ _)⟩
    · have := h1 a ha
      rcases List.mem_append.1 hb with hb | hb
      · rw [List.mem_singleton.1 hb]; exact this
      · have := h2 b hb; omega
  · have e : x ∈ l ↔ x ∈ l.take j ∨ x ∈ l.drop j := by
      conv => lhs; rw [← List.take_append_drop j l]
      exact List.mem_append
    rw [e]
    simp only [List.mem_append, List.mem_singleton]
    constructor
    · rintro ((h | h) | h)
      · exact .inl (.inl h)
      · exact .inr h
      · exact .inl (.inr h)
    · rintro ((h | h) | h)
      · exact .inl (.inl h)
      · exact .inr h
      · exact .inl (.inr h)
theorem add_l0 (l : List Int) (n : Int) (hp : l.Pairwise (· < ·)) (hb : l.length < 1000000000) : ∀ (m j k : Nat), l.length - j ≤ m → j ≤ l.length → m < k → (∀ x ∈ l.take j, x < n) → ∃ r, exactpplref19_add.l0 k l n (j : Int) = some r ∧ Added l n r := by
  intro m
  have hend : ∀ (j k : Nat), j = l.length → (∀ x ∈ l.take j, x < n) → ∃ r, exactpplref19_add.l0 (k + 1) l n (j : Int) = some r ∧ Added l n r := by
    intro j k e h
    refine ⟨l.take j ++ [n] ++ l.drop j, ?_, add_in hp h (by intro x hx; rw [e, List.drop_length] at hx; cases hx)⟩
    simp only [exactpplref19_add.l0]
    rw [if_neg (by omega), if_pos (by omega), if_pos (by omega)]
    simp only [Option.bind_some, Int.toNat_natCast, List.nil_append, List.length_nil]
    rw [if_pos (by simp; omega), if_pos (by simp; omega), if_pos (by simp; omega)]
  induction m with
  | zero =>
    intro j k h1 h2 h3 h4
    obtain ⟨k, rfl⟩ : ∃ k', k = k' + 1 := ⟨k - 1, by omega⟩
    exact hend j k (by omega) h4
  | succ m ih =>
    intro j k h1 h2 h3 h4
    obtain ⟨k, rfl⟩ : ∃ k', k = k' + 1 := ⟨k - 1, by omega⟩
    by_cases hj : j < l.length
    · have hr : rd l (j : Int) = l[j] := rd_get hj
      have hw : wrap64 ((j : Int) + 1) = ((j + 1 : Nat) : Int) := by unfold wrap64; omega
      by_cases c1 : l[j] < n
      · obtain ⟨r, e, hr2⟩ := ih (j + 1) k (by omega) (by omega) (by omega) (fun x hx => by
          rw [List.take_succ_eq_append_getElem hj] at hx
          rcases List.mem_append.1 hx with hx | hx
          · exact h4 x hx
          · rw [List.mem_singleton.1 hx]; exact c1)
        refine ⟨r, ?_, hr2⟩
        simp only [exactpplref19_add.l0]
        rw [if_pos (by omega), if_pos (by omega), hr, if_pos c1, hw]
        exact e
      · by_cases c2 : l[j] = n
        · refine ⟨l, ?_, hp, fun x => ⟨.inl, fun h => ?_⟩, by omega⟩
          · simp only [exactpplref19_add.l0]
            rw [if_pos (by omega), if_pos (by omega), hr, if_neg c1, if_pos c2]
          · rcases h with h | h
            · exact h
            · rw [h, ← c2]; exact List.getElem_mem hj
        · refine ⟨l.take j ++ [n] ++ l.drop j, ?_, add_in hp h4 (fun x hx => ?_)⟩
          · simp only [exactpplref19_add.l0]
            rw [if_pos (by omega), if_pos (by omega), hr, if_neg c1, if_neg c2, if_pos (by omega)]
            simp only [Option.bind_some, Int.toNat_natCast, List.nil_append, List.length_nil]
            rw [if_pos (by simp; omega), if_pos (by simp; omega), if_pos (by simp; omega)]
          · rw [List.drop_eq_getElem_cons hj] at hx
            rcases List.mem_cons.1 hx with hx | hx
            · rw [hx]; omega
            · obtain ⟨i, hi, rfl⟩ := List.getElem_of_mem hx
              rw [List.getElem_drop]
              rw [List.length_drop] at hi
              have := (List.pairwise_iff_getElem.1 hp) j (j + 1 + i) hj (by omega) (by omega)
              omega
    · exact hend j k (by omega) h4
theorem add_f (l : List Int) (n : Int) (hp : l.Pairwise (· < ·)) (hb : l.length < 1000000000) (k : Nat) (hk : l.length < k) : ∃ r, exactpplref19_add.f k l n = some r ∧ Added l n r :=
  add_l0 l n hp hb l.length 0 k (by omega) (by omega) hk (by simp)
theorem gr_f0' {l : List Nd} (h : grB l = true) {n : Nd} (hn : n ∈ l) : n.f0 = -1 ∨ 0 ≤ n.f0 := by
  obtain ⟨i, hi, rfl⟩ := mem_nth hn
  rcases gr_nd h hi with h1 | h1
  · exact .inl (lf_iff.1 h1).1
  · exact .inr (br_iff.1 h1).1.1
/-- a list that holds what the first j nodes give -/
structure Got (sel : Nd → Option Int) (nodes : List Nd) (j : Nat) (r : List Int) : Prop where
  asc : r.Pairwise (· < ·)
  mem : ∀ x, x ∈ r ↔ x ∈ (nodes.take j).filterMap sel
  len : r.length ≤ j
theorem Got.skip {sel : Nd → Option Int} {nodes : List Nd} {j : Nat} {r : List Int} (h : Got sel nodes j r) (hj : j < nodes.length) (hs : sel (nth nodes (j : Int)) = none) : Got sel nodes (j + 1) r := by
  refine ⟨h.asc, fun x => ?_, by have := h.len; omega⟩
  rw [h.mem, take_snoc' hj, List.filterMap_append]
  simp [hs]
theorem Got.add {sel : Nd → Option Int} {nodes : List Nd} {j : Nat} {r r2 : List Int} {n : Int} (h : Got sel nodes j r) (hj : j < nodes.length) (hs : sel (nth nodes (j : Int)) = some n) (ha : Added r n r2) : Got sel nodes (j + 1) r2 := by
  refine ⟨ha.asc, fun x => ?_, by have := h.len; have := ha.len; omega⟩
  rw [ha.mem, h.mem, take_snoc' hj, List.filterMap_append]
  simp [hs]
theorem Got.done {sel : Nd → Option Int} {nodes : List Nd} {r : List Int} (h : Got sel nodes nodes.length r) : r = srtc (nodes.filterMap sel) := by
  obtain ⟨h1, h2⟩ := srtc_spec (nodes.filterMap sel)
  refine asc_ext _ _ h.asc h1 fun x => ?_
  rw [h.mem, h2, List.take_length]
theorem sites_l0 {nodes : List Nd} (hg : grB nodes = true) (hb : nodes.length < 1000000000) : ∀ (m j k : Nat) (r : List Int), nodes.length - j ≤ m → j ≤ nodes.length → m + nodes.length < k → Got selS nodes j r → exactpplref19_Sites.l0 k r (j : Int) nodes = some (srtc (nodes.filterMap selS), 0) := by
  intro m
  have hend : ∀ (j k : Nat) (r : List Int), j = nodes.length → Got selS nodes j r → exactpplref19_Sites.l0 (k + 1) r (j : Int) nodes = some (srtc (nodes.filterMap selS), 0) := by
    intro j k r e h
    subst e
    simp only [exactpplref19_Sites.l0]
    rw [if_neg (by omega), h.done]
  induction m with
  | zero =>
    intro j k r h1 h2 h3 h4
    obtain ⟨k, rfl⟩ : ∃ k', k = k' + 1 := ⟨k - 1, by omega⟩
    exact hend j k r (by omega) h4
  | succ m ih =>
    intro j k r h1 h2 h3 h4
    obtain ⟨k, rfl⟩ : ∃ k', k = k' + 1 := ⟨k - 1, by omega⟩
    by_cases hj : j < nodes.length
    · have hw : wrap64 ((j : Int) + 1) = ((j + 1 : Nat) : Int) := by unfold wrap64; omega
      have hm : nth nodes (j : Int) ∈ nodes := by rw [nth_lt hj]; exact List.getElem_mem hj
      simp only [exactpplref19_Sites.l0]
      rw [if_pos (by omega), if_pos (by omega), rd_nth, exactpplref19_IsBranch.f, Option.bind_some, hw]
      rcases gr_f0' hg hm with c1 | c1
      · rw [show ((nth nodes (j : Int)).f0 != -1) = false by simp [c1], if_neg (by decide)]
        exact ih (j + 1) k r (by omega) (by omega) (by omega) (h4.skip hj (by unfold selS; rw [if_neg (by omega)]))
      · have c2 : (nth nodes (j : Int)).f0 ≠ -1 := by omega
        rw [show ((nth nodes (j : Int)).f0 != -1) = true by simp [c2], if_pos rfl]
        obtain ⟨r2, e, ha⟩ := add_f r (nth nodes (j : Int)).f0 h4.asc (by have := h4.len; omega) k (by have := h4.len; omega)
        rw [e, Option.bind_some]
        exact ih (j + 1) k r2 (by omega) (by omega) (by omega) (h4.add hj (by unfold selS; rw [if_pos c1]) ha)
    · exact hend j k r (by omega) h4
theorem values_l0 {nodes : List Nd} (hg : grB nodes = true) (hb : nodes.length < 1000000000) : ∀ (m j k : Nat) (r : List Int), nodes.length - j ≤ m → j ≤ nodes.length → m + nodes.length < k → Got selV nodes j r → exactpplref19_Values.l0 k r (j : Int) nodes = some (srtc (nodes.filterMap selV), 0) := by
  intro m
  have hend : ∀ (j k : Nat) (r : List Int), j = nodes.length → Got selV nodes j r → exactpplref19_Values.l0 (k + 1) r (j : Int) nodes = some (srtc (nodes.filterMap selV), 0) := by
    intro j k r e h
    subst e
    simp only [exactpplref19_Values.l0]
    rw [if_neg (by omega), h.done]
  induction m with
  | zero =>
    intro j k r h1 h2 h3 h4
    obtain ⟨k, rfl⟩ : ∃ k', k = k' + 1 := ⟨k - 1, by omega⟩
    exact hend j k r (by omega) h4
  | succ m ih =>
    intro j k r h1 h2 h3 h4
    obtain ⟨k, rfl⟩ : ∃ k', k = k' + 1 := ⟨k - 1, by omega⟩
    by_cases hj : j < nodes.length
    · have hw : wrap64 ((j : Int) + 1) = ((j + 1 : Nat) : Int) := by unfold wrap64; omega
      have hm : nth nodes (j : Int) ∈ nodes := by rw [nth_lt hj]; exact List.getElem_mem hj
      simp only [exactpplref19_Values.l0]
      rw [if_pos (by omega), if_pos (by omega), rd_nth, exactpplref19_IsBranch.f, Option.bind_some, hw]
      rcases gr_f0' hg hm with c1 | c1
      · rw [show ((nth nodes (j : Int)).f0 != -1) = false by simp [c1], if_neg (by decide)]
        obtain ⟨r2, e, ha⟩ := add_f r (nth nodes (j : Int)).f1 h4.asc (by have := h4.len; omega) k (by have := h4.len; omega)
        rw [e, Option.bind_some]
        exact ih (j + 1) k r2 (by omega) (by omega) (by omega) (h4.add hj (by unfold selV; rw [if_pos (by omega)]) ha)
      · have c2 : (nth nodes (j : Int)).f0 ≠ -1 := by omega
        rw [show ((nth nodes (j : Int)).f0 != -1) = true by simp [c2], if_pos rfl]
        exact ih (j + 1) k r (by omega) (by omega) (by omega) (h4.skip hj (by unfold selV; rw [if_neg (by omega)]))
    · exact hend j k r (by omega) h4
theorem refSites_f (l : List Nd) (h : ndOk l = true) (hb : l.length < 1000000000) (k : Nat) (hk : rnd l ≤ k) : exactpplref19_Sites.f k l = some (siL l, valE l) := by
  unfold exactpplref19_Sites.f siL
  rw [refValidate_f l h k hk, Option.bind_some]
  unfold rnd at hk
  by_cases h0 : valE l = 0
  · rw [if_pos h0, if_pos h0, h0]
    exact sites_l0 (val_ok h0).1 hb l.length 0 k [] (by omega) (by omega) (by omega) ⟨List.Pairwise.nil, by simp, by simp⟩
  · rw [if_neg h0, if_neg h0]
theorem refValues_f (l : List Nd) (h : ndOk l = true) (hb : l.length < 1000000000) (k : Nat) (hk : rnd l ≤ k) : exactpplref19_Values.f k l = some (vaL l, valE l) := by
  unfold exactpplref19_Values.f vaL
  rw [refValidate_f l h k hk, Option.bind_some]
  unfold rnd at hk
  by_cases h0 : valE l = 0
  · rw [if_pos h0, if_pos h0, h0]
    exact values_l0 (val_ok h0).1 hb l.length 0 k [] (by omega) (by omega) (by omega) ⟨List.Pairwise.nil, by simp, by simp⟩
  · rw [if_neg h0, if_neg h0]
/-- how long they are -/
theorem srtc_len (l : List Int) : (srtc l).length ≤ l.length := by
  unfold srtc
  have := Lib.compact_length_le (srt l)
  rw [srt_len] at this
  exact this
theorem siL_len (l : List Nd) : (siL l).length ≤ l.length := by
  unfold siL
  split
  · exact Nat.le_trans (srtc_len _) (List.length_filterMap_le _ _)
  · simp
theorem vaL_len (l : List Nd) : (vaL l).length ≤ l.length := by
  unfold vaL
  split
  · exact Nat.le_trans (srtc_len _) (List.length_filterMap_le _ _)
  · simp
end Go.Proofs.YtopbjginpmdebaaDoor.K
-- the plain law of DiagramLists
namespace Go.Proofs.YtopbjginpmdebaaDoor.Pure
open Go.RowKit Go.Proofs.YtopbjginpmdebaaDoor.K Go.Proofs.YtopbjginpmdebaaDoorW.PrintWords Go.Proofs.YtopbjginpmdebaaDoorW.PrintLast
theorem ls_j0 (l : List Nd) (h : ndOk l = true) (hb : l.length < 1000000000) (k : Nat) (hk : rnd l ≤ k) : exactppllaw19_DiagramLists.j0 (k + 1) l = some true := by
  have hs := siL_len l
  have hv := vaL_len l
  have hk' := hk
  unfold rnd at hk'
  simp only [exactppllaw19_DiagramLists.j0]
  rw [diagram_Sites.f, if_pos h, Option.bind_some, refSites_f l h hb k hk, Option.bind_some, diagram_Values.f, if_pos h, Option.bind_some, refValues_f l h hb k hk, Option.bind_some, if_pos rfl, if_pos rfl]
  rw [sameInts_f _ _ (by show (siL l).length < _; omega) k (by show (siL l).length < _; omega), Option.bind_some, if_pos (by simp)]
  rw [sameInts_f _ _ (by show (vaL l).length < _; omega) k (by show (vaL l).length < _; omega), Option.bind_some, if_pos (by simp)]
  rfl
theorem DiagramLists : exactppllaw19_DiagramLists.Pure := by
  intro l _ _ hw
  obtain ⟨L, e1, h1⟩ := new_f l (wf_of hw)
  obtain ⟨K1, d, a1, e2, hd, h2⟩ := diag_f h1 0 0 4 (by omega) (by omega)
  obtain ⟨x, a2, e3, hx, h3⟩ := n_f h2 0 6 (by omega) (by omega)
  obtain ⟨K2, r, a3, e4, g1, g2, _⟩ := nodes_f h3 0
  have hok := NdG.ok g1 (by omega)
  have hdl := hd.len'
  refine ⟨K1 + K2 + rnd d + rnd r + 1, ?_⟩
  unfold exactppllaw19_DiagramLists.f
  rw [e1, Option.bind_some]
  simp only
  rw [e2 _ (by omega), Option.bind_some]
  simp only
  rw [e3, Option.bind_some]
  simp only
  by_cases h0 : x = 0
  · rw [if_pos h0, e4 _ (by omega), Option.bind_some]
    exact ls_j0 r hok (by omega) _ (by omega)
  · rw [if_neg h0]
    exact ls_j0 d hd.ok (by omega) _ (by omega)
end Go.Proofs.YtopbjginpmdebaaDoor.Pure
namespace Go.Proofs.YtopbjginpmdebaaDoorW.PrintWords
open Go.ChangeShapes Go.WideShapes
theorem sized_ints {H : Type} {enc : TypeId × Value → H} {P : Program} {W : World} {base : Nat} {spare : Nat → Bool} {held : Bool} {t e : TypeId} {k : IntKind} {a : Option Addr} {len cap : Nat} {d : DataW H} {ps : List MemPlace} {ts : List TypeId} {ds : List (DataW H)} {j : Nat}
    (hsz : (DataW.weightsEach P ts ds).all (· ≤ reachBytes) = true) (ht : ts[j]? = some t) (hd : ds[j]? = some d) (hu : P.underlying t = some (.slice e)) (he : P.underlying e = some (.int k)) (hc : P.cellsOf e = 1) {B : Nat} (hB : P.bytesOf e = B)
    (h : DataW.Trod enc P W base spare held t (.slice a len cap) d ps) : len * B ≤ 140737488351232 := by
  obtain ⟨fuel, hf⟩ := h
  rcases open_ints hu he hc hf with ⟨hcs, _⟩ | ⟨x, l, c, zs, hcs, _, hl, _, hz, hx, _, _⟩
  · simp [Value.cells] at hcs
    obtain ⟨rfl, rfl, rfl⟩ := hcs
    simp
  · simp [Value.cells] at hcs
    obtain ⟨rfl, rfl, rfl⟩ := hcs
    obtain ⟨hx, _⟩ := Prod.mk.inj hx
    subst hx
    have z := sized_slice hsz ht hd hu
    rw [hB] at z
    have hl2 : len ≤ zs.length := by
      rw [hz]
      split
      · exact hl
      · exact Nat.le_refl _
    have h1 : (lits (H := H) k (zs.take len)).length + (lits (H := H) k (zs.drop len)).length = zs.length := by
      simp [lits]
      omega
    rw [h1] at z
    exact Nat.le_trans (Nat.mul_le_mul_right _ hl2) z
end Go.Proofs.YtopbjginpmdebaaDoorW.PrintWords
