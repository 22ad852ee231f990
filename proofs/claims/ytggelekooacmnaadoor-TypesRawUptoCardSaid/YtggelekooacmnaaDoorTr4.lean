/- Lemmas for: sP -/
import Derived.StillTailTactics
import Derived.Test.YtggelekooacmnaaDoorTr2
import Derived.Test.YtggelekooacmnaaDoorTr3
namespace Go.Proofs.YtggelekooacmnaaDoor.Q
open Go.RowKit Go.Proofs.YtggelekooacmnaaDoorW.aU Go.Proofs.YtggelekooacmnaaDoorW.bD Go.Proofs.YtggelekooacmnaaDoorW.bH
attribute [local go_sem] dB dC dN dO cO cZ dD dE   -- for this text's walks alone
set_option linter.unusedVariables false
set_option linter.unusedSimpArgs false

/-! ### aQ: function 122 -/
mutual
def aQ.l0 : Nat → List Int → List Int → Int → Option (List Int × List Int × Int)
 | 0, _, _, _ => none
 | k + 1, x0, x1, x9 => if 0 ≤ (wrap64 ((x1.length : Int) - 1)) then (if (wrap64 ((x1.length : Int) - 1)) < (x1.length : Int) then (if 0 ≤ (IntKind.u64.wrap (x9)) then (if (shl .u32 (rd x1 (wrap64 ((x1.length : Int) - 1))) (IntKind.u64.wrap (x9))) < 2147483648 then (aQ.l0 k x0 x1 (wrap64 (x9 + 1))) else ((dF.f k x0 x9).bind fun BB => ((dF.f k x1 x9).bind fun DN => ((ay.f k DN).bind fun sW => (if 0 ≤ (wrap64 ((wrap64 ((x0.length : Int) - (x1.length : Int))) + 1)) then (if (wrap64 ((wrap64 ((x0.length : Int) - (x1.length : Int))) + 1) : Int).toNat ≤ 70368744177664 then ((some (List.replicate (wrap64 ((wrap64 ((x0.length : Int) - (x1.length : Int))) + 1) : Int).toNat 0 : List Int)).bind fun oP => (aQ.l1 k x9 BB sW oP (wrap64 ((oP.length : Int) - 1)))) else (none)) else (none)))))) else (none)) else (none)) else (none)
def aQ.l1 : Nat → Int → List Int → List Int → List Int → Int → Option (List Int × List Int × Int)
 | 0, _, _, _, _, _ => none
 | k + 1, x9, x10, x11, x12, x13 => if x13 ≥ 0 then ((fq.f k x10 x11 x13).bind fun bt432 => (if 0 ≤ x13 then (if x13 < (x12.length : Int) then (aQ.l1 k x9 bt432.2 x11 (x12.set (x13 : Int).toNat bt432.1) (wrap64 (x13 - 1))) else (none)) else (none))) else ((ay.f k x12).bind fun t435 => ((eP.f k x10 x9).bind fun t438 => (some (t435, t438, 0))))
end
def aQ.f (k : Nat) (l0 : List Int) (l1 : List Int) : Option (List Int × List Int × Int) := (ay.f k l0).bind fun gM => ((ay.f k l1).bind fun fe => (if (fe.length : Int) = 0 then (some (([] : List Int), ([] : List Int), 3)) else ((bT.f k gM fe).bind fun t407 => (if t407 < 0 then (some (([] : List Int), gM, 0)) else (if (fe.length : Int) = 1 then (if 0 < (fe.length : Int) then ((bA.f k gM (rd fe 0)).bind fun KP => ((ay.f k (([KP.2] : List Int))).bind fun t416 => (some (KP.1, t416, 0)))) else (none)) else (aQ.l0 k gM fe 0))))))
theorem aQ.fA : ∀ k, (∀ y0 y1 y2, LeO (aQ.l0 k y0 y1 y2) (aQ.l0 (k + 1) y0 y1 y2)) ∧ (∀ y0 y1 y2 y3 y4, LeO (aQ.l1 k y0 y1 y2 y3 y4) (aQ.l1 (k + 1) y0 y1 y2 y3 y4))
 | 0 => ⟨fun _ _ _ r h => by simp [aQ.l0] at h, fun _ _ _ _ _ r h => by simp [aQ.l1] at h⟩
 | k + 1 => by
  obtain ⟨ih0, ih1⟩ := aQ.fA k; refine ⟨?_, ?_⟩
  ·intro y0 y1 y2; unfold aQ.l0; repeat' first
   | (with_reducible exact ih0 _ _ _)
   | (with_reducible exact ih1 _ _ _ _ _)
   | (with_reducible exact bT.mono _ _ _)
   | (with_reducible exact ay.mono _ _)
   | (with_reducible exact fq.mono _ _ _ _)
   | (with_reducible exact dF.mono _ _ _)
   | (with_reducible exact bA.mono _ _ _)
   | (with_reducible exact eP.mono _ _ _)
   | (with_reducible exact LeO.refl _)
   | (with_reducible exact LeO.none _)
   | (with_reducible refine LeO.ite ?_ ?_)
   | (with_reducible refine LeO.bind ?_ (fun _ => ?_))
   | exact ih0 _ _ _
   | exact ih1 _ _ _ _ _
   | exact bT.mono _ _ _
   | exact ay.mono _ _
   | exact fq.mono _ _ _ _
   | exact dF.mono _ _ _
   | exact bA.mono _ _ _
   | exact eP.mono _ _ _
   | exact LeO.none _
   | refine LeO.ite ?_ ?_
   | refine LeO.bind ?_ (fun _ => ?_)
  ·intro y0 y1 y2 y3 y4; unfold aQ.l1; repeat' first
   | (with_reducible exact ih0 _ _ _)
   | (with_reducible exact ih1 _ _ _ _ _)
   | (with_reducible exact bT.mono _ _ _)
   | (with_reducible exact ay.mono _ _)
   | (with_reducible exact fq.mono _ _ _ _)
   | (with_reducible exact dF.mono _ _ _)
   | (with_reducible exact bA.mono _ _ _)
   | (with_reducible exact eP.mono _ _ _)
   | (with_reducible exact LeO.refl _)
   | (with_reducible exact LeO.none _)
   | (with_reducible refine LeO.ite ?_ ?_)
   | (with_reducible refine LeO.bind ?_ (fun _ => ?_))
   | exact ih0 _ _ _
   | exact ih1 _ _ _ _ _
   | exact bT.mono _ _ _
   | exact ay.mono _ _
   | exact fq.mono _ _ _ _
   | exact dF.mono _ _ _
   | exact bA.mono _ _ _
   | exact eP.mono _ _ _
   | exact LeO.none _
   | refine LeO.ite ?_ ?_
   | refine LeO.bind ?_ (fun _ => ?_)
theorem aQ.mono : ∀ a0 a1 k, LeO (aQ.f k a0 a1) (aQ.f (k + 1) a0 a1) := by
 intro a0 a1 k; obtain ⟨ih0, ih1⟩ := aQ.fA k; unfold aQ.f
 repeat' first
   | (with_reducible exact ih0 _ _ _)
   | (with_reducible exact ih1 _ _ _ _ _)
   | (with_reducible exact bT.mono _ _ _)
   | (with_reducible exact ay.mono _ _)
   | (with_reducible exact fq.mono _ _ _ _)
   | (with_reducible exact dF.mono _ _ _)
   | (with_reducible exact bA.mono _ _ _)
   | (with_reducible exact eP.mono _ _ _)
   | (with_reducible exact LeO.refl _)
   | (with_reducible exact LeO.none _)
   | (with_reducible refine LeO.ite ?_ ?_)
   | (with_reducible refine LeO.bind ?_ (fun _ => ?_))
   | exact ih0 _ _ _
   | exact ih1 _ _ _ _ _
   | exact bT.mono _ _ _
   | exact ay.mono _ _
   | exact fq.mono _ _ _ _
   | exact dF.mono _ _ _
   | exact bA.mono _ _ _
   | exact eP.mono _ _ _
   | exact LeO.none _
   | refine LeO.ite ?_ ?_
   | refine LeO.bind ?_ (fun _ => ?_)
set_option maxHeartbeats 8000000 in
set_option maxRecDepth 100000 in
theorem aQ.calls (k : Nat) (A0 : Option Addr) (c0 : Nat) (l0 : List Int) (A1 : Option Addr) (c1 : Nat) (l1 : List Int) (r1 : List Int) (r2 : List Int) (r3 : Int) (w : World) (hr0 : Kd.C (Kd.int .u32) w A0 l0.length l0) (hc0 : l0.length ≤ c0) (hr1 : Kd.C (Kd.int .u32) w A1 l1.length l1) (hc1 : l1.length ≤ c1) (h : aQ.f k l0 l1 = some (r1, r2, r3)) :
  Calls Tryd.prog 122 #[.slice A0 l0.length c0, .slice A1 l1.length c1] w fun e w' => ∃ v0_ v1_ : Value, e = .returned (.tuple #[v0_, v1_, .int .i64 r3]) ∧ Kd.R (Kd.int .u32) 119 w' w.heap.size (fun k_ => some k_ ≠ (v1_ : Value).ownBlock) v0_ r1 ∧ Kd.R (Kd.int .u32) 119 w' w.heap.size (fun k_ => some k_ ≠ (v0_ : Value).ownBlock) v1_ r2 ∧ Below w.heap.size w w' := by
 have HR0 := aa.mk hr0; have HC0 := aa.mk hc0; clear hr0 hc0; have HR1 := aa.mk hr1; have HC1 := aa.mk hc1; clear hr1 hc1; have HB := aa.mk (Below.refl w.heap.size w); have H : ((ay.f k l0).bind fun gM => ((ay.f k l1).bind fun fe => (if (fe.length : Int) = 0 then (some (([] : List Int), ([] : List Int), 3)) else ((bT.f k gM fe).bind fun t407 => (if t407 < 0 then (some (([] : List Int), gM, 0)) else (if (fe.length : Int) = 1 then (if 0 < (fe.length : Int) then ((bA.f k gM (rd fe 0)).bind fun KP => ((ay.f k (([KP.2] : List Int))).bind fun t416 => (some (KP.1, t416, 0)))) else (none)) else (aQ.l0 k gM fe 0))))))) = some (r1, r2, r3) := h; clear h; replace H := Option.bind_eq_some_iff.mp H; obtain ⟨gM, A30, H⟩ := H; (try dsimp only at H)
 have A3 := aa.mk A30; clear A30; replace H := Option.bind_eq_some_iff.mp H; obtain ⟨fe, A40, H⟩ := H; (try dsimp only at H)
 have A4 := aa.mk A40; clear A40; by_cases c5 : (fe.length : Int) = 0
 ·rw [if_pos c5] at H; obtain ⟨gQ, qF⟩ := bq_ c5; clear c5; simp only [Option.some.injEq, Prod.mk.injEq] at H; obtain ⟨rfl, rfl, rfl⟩ := H; go_enter Tryd.func122, Tryd.ntmps122; go_wp2_with (first | ((with_reducible refine aD (f := 116) rfl ?_); refine aZ (some 15) rfl rfl Tryd.func116 (by kernel_rfl) rfl #[.slice A0 l0.length c0] rfl mp_ ?_; (with_reducible refine (ay.calls k _ _ l0 gM _ ?az ?aA A3.out).mono ?_); (case az => exact cb_ (HR0.out)); (case aA => exact HC0.out); rintro e w6 ⟨v402, rfl, ho0, hb⟩; refine ⟨_, rfl, ?_⟩; have fU := aa.mk (Kd.bC ho0 (ax bl_)); replace HB := aa.mk (ai bl_ hb); (try clear hb); (try clear hb2); (try clear hk); (try clear hi); (try clear ho0)) | ((with_reducible refine aD (f := 116) rfl ?_); refine aZ (some 17) rfl rfl Tryd.func116 (by kernel_rfl) rfl #[.slice A1 l1.length c1] rfl mp_ ?_; (with_reducible refine (ay.calls k _ _ l1 fe _ ?az ?aA A4.out).mono ?_); (case az => exact cb_ (Kd.aK HR1.out HB.out)); (case aA => exact HC1.out); rintro e w7 ⟨v405, rfl, ho0, hb⟩; refine ⟨_, rfl, ?_⟩; have iN := aa.mk (Kd.bC (Kd.cz ho0 (Kd.dQ (pR_ fU.out))) (ax bl_)); replace fU := aa.mk (Kd.cB (pR_ fU.out) (Kd.cu ho0) hb); replace HB := aa.mk (ai bl_ hb); (try clear hb); (try clear hb2); (try clear hk); (try clear hi); (try clear ho0); obtain ⟨Ao8, co8, eo8⟩ := Kd.bK iN.out; subst eo8))
  go_ret3; exact ⟨_, _, re_, by first | exact Kd.mh _ _ _ _ _ | exact Kd.yS _ _ _ _ _ | exact Kd.yU _ _ _ _ _ | exact Kd.yQ _ _ _ _ _ | exact Kd.yR _ _ _ _ _, by first | exact Kd.mh _ _ _ _ _ | exact Kd.yS _ _ _ _ _ | exact Kd.yU _ _ _ _ _ | exact Kd.yQ _ _ _ _ _ | exact Kd.yR _ _ _ _ _, bl_⟩
 ·rw [if_neg c5] at H; obtain ⟨gQ, qF⟩ := bn_ c5; have c5b2 : ¬ (fe = []) := fun h_ => c5 (by rw [h_]; rfl)
  replace H := Option.bind_eq_some_iff.mp H; obtain ⟨t407, A90, H⟩ := H; (try dsimp only at H)
  have A9 := aa.mk A90; clear A90; by_cases c10 : t407 < 0
  ·rw [if_pos c10] at H; have ig := decide_eq_true c10; clear c10; simp only [Option.some.injEq, Prod.mk.injEq] at H; obtain ⟨rfl, rfl, rfl⟩ := H; go_enter Tryd.func122, Tryd.ntmps122; go_wp2_with (first | ((with_reducible refine aD (f := 116) rfl ?_); refine aZ (some 15) rfl rfl Tryd.func116 (by kernel_rfl) rfl #[.slice A0 l0.length c0] rfl mp_ ?_; (with_reducible refine (ay.calls k _ _ l0 gM _ ?az ?aA A3.out).mono ?_); (case az => exact cb_ (HR0.out)); (case aA => exact HC0.out); rintro e w11 ⟨v402, rfl, ho0, hb⟩; refine ⟨_, rfl, ?_⟩; have fU := aa.mk (Kd.bC ho0 (ax bl_)); replace HB := aa.mk (ai bl_ hb); (try clear hb); (try clear hb2); (try clear hk); (try clear hi); (try clear ho0)) | ((with_reducible refine aD (f := 116) rfl ?_); refine aZ (some 17) rfl rfl Tryd.func116 (by kernel_rfl) rfl #[.slice A1 l1.length c1] rfl mp_ ?_; (with_reducible refine (ay.calls k _ _ l1 fe _ ?az ?aA A4.out).mono ?_); (case az => exact cb_ (Kd.aK HR1.out HB.out)); (case aA => exact HC1.out); rintro e w12 ⟨v405, rfl, ho0, hb⟩; refine ⟨_, rfl, ?_⟩; have iN := aa.mk (Kd.bC (Kd.cz ho0 (Kd.dQ (pR_ fU.out))) (ax bl_)); replace fU := aa.mk (Kd.cB (pR_ fU.out) (Kd.cu ho0) hb); replace HB := aa.mk (ai bl_ hb); (try clear hb); (try clear hb2); (try clear hk); (try clear hi); (try clear ho0); obtain ⟨BC, AB, eo13⟩ := Kd.bK iN.out; subst eo13; obtain ⟨Ao14, co14, eo14⟩ := Kd.bK fU.out; subst eo14) | ((with_reducible refine aD (f := 123) rfl ?_); refine aZ (some 23) rfl rfl Tryd.func123 (by kernel_rfl) rfl #[.slice Ao14 gM.length co14, .slice BC fe.length AB] rfl mp_ ?_; (with_reducible refine (bT.calls k _ _ gM _ _ fe t407 _ ?az ?aA ?eH ?eO A9.out).mono ?_); (case az => exact cb_ ((Kd.aY fU.out).2.2)); (case aA => exact (Kd.aY fU.out).2.1); (case eH => exact cb_ ((Kd.aY iN.out).2.2)); (case eO => exact (Kd.aY iN.out).2.1); rintro e w15 ⟨rfl, hb⟩; refine ⟨_, rfl, ?_⟩; replace fU := aa.mk (Kd.dM (pR_ fU.out) hb); replace iN := aa.mk (Kd.dM (pR_ iN.out) hb); replace HB := aa.mk (ai bl_ hb); (try clear hb); (try clear hb2); (try clear hk); (try clear hi)))
   go_ret3; exact ⟨_, _, re_, by first | exact Kd.mh _ _ _ _ _ | exact Kd.yS _ _ _ _ _ | exact Kd.yU _ _ _ _ _ | exact Kd.yQ _ _ _ _ _ | exact Kd.yR _ _ _ _ _, by (with_reducible repeat (first | apply Kd.bL | apply Kd.bM | apply Kd.bQ)); exact Kd.bG fU.out (fun _ hk => (by simp [Value.ownBlock])), bl_⟩
  ·rw [if_neg c10] at H; have ig := decide_eq_false c10; clear c10; by_cases c16 : (fe.length : Int) = 1
   ·rw [if_pos c16] at H; obtain ⟨BJ, FZ⟩ := bq_ c16; clear c16; by_cases c17 : 0 < (fe.length : Int)
    ·rw [if_pos c17] at H; have l8 := decide_eq_true c17; have sV : decide (0 < fe.length) = true := decide_eq_true (by omega); clear c17; replace H := Option.bind_eq_some_iff.mp H; obtain ⟨⟨t409, t410⟩, A180, H⟩ := H; (try dsimp only at H)
     have A18 := aa.mk A180; clear A180; obtain ⟨y413, KQ⟩ : ∃ y_ : List Int, y_ = (([t410] : List Int)) := ⟨_, rfl⟩; replace H : ((ay.f k y413).bind fun t416 => (some (t409, t416, 0))) = some (r1, r2, r3) := by first | (rw [KQ]; with_reducible exact H) | (have H2_ := (Option.bind_some _ _).symm.trans H; rw [KQ]; with_reducible exact H2_) | (have H2_ := (Option.bind_some _ _).symm.trans H; with_reducible exact H2_) | with_reducible exact H | (rw [KQ]; exact H) | exact H
     have Ny413 := aa.mk KQ; clear KQ; replace H := Option.bind_eq_some_iff.mp H; obtain ⟨t416, A190, H⟩ := H; (try dsimp only at H)
     have A19 := aa.mk A190; clear A190; simp only [Option.some.injEq, Prod.mk.injEq] at H; obtain ⟨rfl, rfl, rfl⟩ := H; go_enter Tryd.func122, Tryd.ntmps122; go_wp2_with (first | ((with_reducible refine aD (f := 116) rfl ?_); refine aZ (some 15) rfl rfl Tryd.func116 (by kernel_rfl) rfl #[.slice A0 l0.length c0] rfl mp_ ?_; (with_reducible refine (ay.calls k _ _ l0 gM _ ?az ?aA A3.out).mono ?_); (case az => exact cb_ (HR0.out)); (case aA => exact HC0.out); rintro e w20 ⟨v402, rfl, ho0, hb⟩; refine ⟨_, rfl, ?_⟩; have fU := aa.mk (Kd.bC ho0 (ax bl_)); replace HB := aa.mk (ai bl_ hb); (try clear hb); (try clear hb2); (try clear hk); (try clear hi); (try clear ho0)) | ((with_reducible refine aD (f := 116) rfl ?_); refine aZ (some 17) rfl rfl Tryd.func116 (by kernel_rfl) rfl #[.slice A1 l1.length c1] rfl mp_ ?_; (with_reducible refine (ay.calls k _ _ l1 fe _ ?az ?aA A4.out).mono ?_); (case az => exact cb_ (Kd.aK HR1.out HB.out)); (case aA => exact HC1.out); rintro e w21 ⟨v405, rfl, ho0, hb⟩; refine ⟨_, rfl, ?_⟩; have iN := aa.mk (Kd.bC (Kd.cz ho0 (Kd.dQ (pR_ fU.out))) (ax bl_)); replace fU := aa.mk (Kd.cB (pR_ fU.out) (Kd.cu ho0) hb); replace HB := aa.mk (ai bl_ hb); (try clear hb); (try clear hb2); (try clear hk); (try clear hi); (try clear ho0); obtain ⟨DR, DT, eo22⟩ := Kd.bK iN.out; subst eo22; obtain ⟨xL, vv, zm⟩ := Kd.bK fU.out; subst zm) | ((with_reducible refine aD (f := 123) rfl ?_); refine aZ (some 23) rfl rfl Tryd.func123 (by kernel_rfl) rfl #[.slice xL gM.length vv, .slice DR fe.length DT] rfl mp_ ?_; (with_reducible refine (bT.calls k _ _ gM _ _ fe t407 _ ?az ?aA ?eH ?eO A9.out).mono ?_); (case az => exact cb_ ((Kd.aY fU.out).2.2)); (case aA => exact (Kd.aY fU.out).2.1); (case eH => exact cb_ ((Kd.aY iN.out).2.2)); (case eO => exact (Kd.aY iN.out).2.1); rintro e w24 ⟨rfl, hb⟩; refine ⟨_, rfl, ?_⟩; replace fU := aa.mk (Kd.dM (pR_ fU.out) hb); replace iN := aa.mk (Kd.dM (pR_ iN.out) hb); replace HB := aa.mk (ai bl_ hb); (try clear hb); (try clear hb2); (try clear hk); (try clear hi); have p408 : 0 ≤ (0 : Int) := (by omega); have q408 : 0 < (fe.length : Int) := dt_; obtain ⟨ad408, e408, Jc⟩ := Kd.jq (Kd.aY iN.out).2.2 0 p408 q408; cases e408; have qi408 : (0 < fe.length) = True := eq_true (by omega); (try rw [show ((0 : Int)).toNat = 0 from rfl] at Jc); (try rw [Addr.add_zero'] at Jc); replace p408 := eq_true p408; replace q408 := eq_true q408) | ((with_reducible refine aD (f := 118) rfl ?_); refine aZ (some 34) rfl rfl Tryd.func118 (by kernel_rfl) rfl #[.slice xL gM.length vv, .int .u32 (rd fe 0)] rfl mp_ ?_; (with_reducible refine (bA.calls k _ _ gM (rd fe 0) t409 t410 _ ?az ?aA A18.out).mono ?_); (case az => exact cb_ ((Kd.aY fU.out).2.2)); (case aA => exact (Kd.aY fU.out).2.1); rintro e w25 ⟨v411, rfl, ho0, hb⟩; refine ⟨_, rfl, ?_⟩; have Gl := aa.mk (Kd.bC (Kd.cz (Kd.cz ho0 (Kd.dQ (pR_ fU.out))) (Kd.dQ (pR_ iN.out))) (ax bl_)); replace fU := aa.mk (Kd.cB (pR_ fU.out) (Kd.cu ho0) hb); replace iN := aa.mk (Kd.cB (pR_ iN.out) (Kd.cu ho0) hb); replace HB := aa.mk (ai bl_ hb); (try clear hb); (try clear hb2); (try clear hk); (try clear hi); (try clear ho0)) | ((with_reducible refine aW (N := 39) rfl ?_); refine Kd.mi (Kd.int .u32) _ 119 ?hg (N := 39) ?hd (xs := ([t410] : List Int)) (inner := [.int .u32 t410]) (ok := fun _ => True) (okp := fun _ => True) ?hr ?hp (fun _ hk => hk) trivial (Below.refl _ _) (Nat.le_refl _) (by simp) ?_; (case hd => rfl); (case hg => rfl); (case hr => first | (go_simp; done) | (go_simp; rfl)); (case hp => exact (dA.one (show Kd.M (Kd.int .u32) _ _ _ t410 [.int .u32 t410] from rfl) (dA.none _ _))); intro v414 w26 ho27 hb hg_ fZ; clear hg_ fZ; (first | rw [← Ny413.out] at ho27 | (simp only [Int.reduceToNat] at ho27; rw [← Ny413.out] at ho27)); have Jd := aa.mk (Kd.bC (Kd.cz (Kd.cz (Kd.cz ho27 (Kd.dQ (pR_ fU.out))) (Kd.dQ (pR_ iN.out))) (Kd.dQ (pR_ Gl.out))) (ax bl_)); replace fU := aa.mk (Kd.cB (pR_ fU.out) (Kd.cu ho27) hb); replace iN := aa.mk (Kd.cB (pR_ iN.out) (Kd.cu ho27) hb); replace Gl := aa.mk (Kd.cB (pR_ Gl.out) (Kd.cu ho27) hb); replace HB := aa.mk (ai bl_ hb); clear hb ho27; obtain ⟨Ao28, co28, eo28⟩ := Kd.bK Jd.out; subst eo28) | ((with_reducible refine aD (f := 116) rfl ?_); refine aZ (some 40) rfl rfl Tryd.func116 (by kernel_rfl) rfl #[.slice Ao28 y413.length co28] rfl mp_ ?_; (with_reducible refine (ay.calls k _ _ y413 t416 _ ?az ?aA A19.out).mono ?_); (case az => exact cb_ ((Kd.aY Jd.out).2.2)); (case aA => exact (Kd.aY Jd.out).2.1); rintro e w29 ⟨v417, rfl, ho0, hb⟩; refine ⟨_, rfl, ?_⟩; have HO418 := aa.mk (Kd.bC (Kd.cz (Kd.cz (Kd.cz (Kd.cz ho0 (Kd.dQ (pR_ fU.out))) (Kd.dQ (pR_ iN.out))) (Kd.dQ (pR_ Gl.out))) (Kd.dQ (pR_ Jd.out))) (ax bl_)); replace fU := aa.mk (Kd.cB (pR_ fU.out) (Kd.cu ho0) hb); replace iN := aa.mk (Kd.cB (pR_ iN.out) (Kd.cu ho0) hb); replace Gl := aa.mk (Kd.cB (pR_ Gl.out) (Kd.cu ho0) hb); replace Jd := aa.mk (Kd.cB (pR_ Jd.out) (Kd.cu ho0) hb); replace HB := aa.mk (ai bl_ hb); (try clear hb); (try clear hb2); (try clear hk); (try clear hi); (try clear ho0)))
     go_ret3; exact ⟨_, _, re_, by (with_reducible repeat (first | apply Kd.bL | apply Kd.bM | apply Kd.bQ)); exact Kd.bG Gl.out (fun _ hk => hk.2), by (with_reducible repeat (first | apply Kd.bL | apply Kd.bM | apply Kd.bQ)); exact Kd.bG HO418.out (fun _ hk => hk.1.2), bl_⟩
    ·rw [if_neg c17] at H; exact absurd H (by simp)
   ·rw [if_neg c16] at H; obtain ⟨BJ, FZ⟩ := bn_ c16; have H' := aa.mk H; clear H; go_enter Tryd.func122, Tryd.ntmps122; go_wp2_with (first | ((with_reducible refine aD (f := 116) rfl ?_); refine aZ (some 15) rfl rfl Tryd.func116 (by kernel_rfl) rfl #[.slice A0 l0.length c0] rfl mp_ ?_; (with_reducible refine (ay.calls k _ _ l0 gM _ ?az ?aA A3.out).mono ?_); (case az => exact cb_ (HR0.out)); (case aA => exact HC0.out); rintro e w30 ⟨v402, rfl, ho0, hb⟩; refine ⟨_, rfl, ?_⟩; have fU := aa.mk (Kd.bC ho0 (ax bl_)); replace HB := aa.mk (ai bl_ hb); (try clear hb); (try clear hb2); (try clear hk); (try clear hi); (try clear ho0)) | ((with_reducible refine aD (f := 116) rfl ?_); refine aZ (some 17) rfl rfl Tryd.func116 (by kernel_rfl) rfl #[.slice A1 l1.length c1] rfl mp_ ?_; (with_reducible refine (ay.calls k _ _ l1 fe _ ?az ?aA A4.out).mono ?_); (case az => exact cb_ (Kd.aK HR1.out HB.out)); (case aA => exact HC1.out); rintro e w31 ⟨v405, rfl, ho0, hb⟩; refine ⟨_, rfl, ?_⟩; have iN := aa.mk (Kd.bC (Kd.cz ho0 (Kd.dQ (pR_ fU.out))) (ax bl_)); replace fU := aa.mk (Kd.cB (pR_ fU.out) (Kd.cu ho0) hb); replace HB := aa.mk (ai bl_ hb); (try clear hb); (try clear hb2); (try clear hk); (try clear hi); (try clear ho0); obtain ⟨Ao32, Dm, eo32⟩ := Kd.bK iN.out; subst eo32; obtain ⟨Ao33, co33, eo33⟩ := Kd.bK fU.out; subst eo33) | ((with_reducible refine aD (f := 123) rfl ?_); refine aZ (some 23) rfl rfl Tryd.func123 (by kernel_rfl) rfl #[.slice Ao33 gM.length co33, .slice Ao32 fe.length Dm] rfl mp_ ?_; (with_reducible refine (bT.calls k _ _ gM _ _ fe t407 _ ?az ?aA ?eH ?eO A9.out).mono ?_); (case az => exact cb_ ((Kd.aY fU.out).2.2)); (case aA => exact (Kd.aY fU.out).2.1); (case eH => exact cb_ ((Kd.aY iN.out).2.2)); (case eO => exact (Kd.aY iN.out).2.1); rintro e w34 ⟨rfl, hb⟩; refine ⟨_, rfl, ?_⟩; replace fU := aa.mk (Kd.dM (pR_ fU.out) hb); replace iN := aa.mk (Kd.dM (pR_ iN.out) hb); replace HB := aa.mk (ai bl_ hb); (try clear hb); (try clear hb2); (try clear hk); (try clear hi)))
    go_loopg [9] k (fun kq v9 w' => ∃ (fM : Int), v9 = .int .i64 fM ∧ aa (aQ.l0 kq gM fe fM = some (r1, r2, r3)) ∧ aa (kq ≤ k) ∧ aa (Kd.R (Kd.int .u32) 119 w' w.heap.size (fun k_ => some k_ ≠ ((.slice Ao32 fe.length Dm) : Value).ownBlock) (.slice Ao33 gM.length co33) gM) ∧ aa (Kd.R (Kd.int .u32) 119 w' w.heap.size (fun k_ => some k_ ≠ ((.slice Ao33 gM.length co33) : Value).ownBlock) (.slice Ao32 fe.length Dm) fe) ∧ aa (Below w.heap.size w w'))
    case atStart => exact ⟨(0), rs_, H', ⟨Nat.le_refl _⟩, ⟨by (with_reducible repeat (first | apply Kd.bL | apply Kd.bM | apply Kd.bQ)); exact Kd.bG fU.out (fun _ hk => hk.2)⟩, ⟨by (with_reducible repeat (first | apply Kd.bL | apply Kd.bM | apply Kd.bQ)); exact Kd.bG iN.out (fun _ hk => hk.2)⟩, ⟨bl_⟩⟩
    case round =>
     clear H'; (try clear c1); (try clear p2); (try clear p4); (try clear q4); (try clear hx4); (try clear qi4); (try clear c5); (try clear gQ); (try clear qF); (try clear c5b2); (try clear c10); (try clear ig); (try clear c11); (try clear c12); (try clear c16); (try clear BJ); (try clear FZ); (try clear c17); (try clear l8); (try clear sV); (try clear Jc); (try clear p408); (try clear q408); obtain ⟨fM, rfl, HA, HK1, gW, iX, HB⟩ := hrel; cases gk with
     | zero => exact absurd HA.out (by simp [aQ.l0])
     | succ k1 =>
      have H := HA.out; clear HA; simp only [aQ.l0] at H; obtain ⟨xw, hji35⟩ : ∃ j_ : Int, (wrap64 ((fe.length : Int) - 1)) = j_ := ⟨_, rfl⟩; replace H : (if 0 ≤ (xw) then (if (xw) < (fe.length : Int) then (if 0 ≤ (IntKind.u64.wrap (fM)) then (if (shl .u32 (rd fe (xw)) (IntKind.u64.wrap (fM))) < 2147483648 then (aQ.l0 k1 gM fe (wrap64 (fM + 1))) else ((dF.f k1 gM fM).bind fun BB => ((dF.f k1 fe fM).bind fun DN => ((ay.f k1 DN).bind fun sW => (if 0 ≤ (wrap64 ((wrap64 ((gM.length : Int) - (fe.length : Int))) + 1)) then (if (wrap64 ((wrap64 ((gM.length : Int) - (fe.length : Int))) + 1) : Int).toNat ≤ 70368744177664 then ((some (List.replicate (wrap64 ((wrap64 ((gM.length : Int) - (fe.length : Int))) + 1) : Int).toNat 0 : List Int)).bind fun oP => (aQ.l1 k1 fM BB sW oP (wrap64 ((oP.length : Int) - 1)))) else (none)) else (none)))))) else (none)) else (none)) else (none)) = some (r1, r2, r3) := by first | (rw [hji35] at H; exact H) | (simp only [hji35] at H ⊢; exact H)
      have hji35w : (IntKind.i64.wrap ((fe.length : Int) - 1)) = xw := (dS _).trans hji35; by_cases c36 : 0 ≤ (xw)
      ·rw [if_pos c36] at H; have Eb := decide_eq_true c36; clear c36; by_cases c37 : (xw) < (fe.length : Int)
       ·rw [if_pos c37] at H; have Ki := decide_eq_true c37; clear c37; obtain ⟨ji38, hji38⟩ : ∃ j_ : Int, (IntKind.u64.wrap (fM)) = j_ := ⟨_, rfl⟩; replace H : (if 0 ≤ (ji38) then (if (shl .u32 (rd fe (xw)) (ji38)) < 2147483648 then (aQ.l0 k1 gM fe (wrap64 (fM + 1))) else ((dF.f k1 gM fM).bind fun BB => ((dF.f k1 fe fM).bind fun DN => ((ay.f k1 DN).bind fun sW => (if 0 ≤ (wrap64 ((wrap64 ((gM.length : Int) - (fe.length : Int))) + 1)) then (if (wrap64 ((wrap64 ((gM.length : Int) - (fe.length : Int))) + 1) : Int).toNat ≤ 70368744177664 then ((some (List.replicate (wrap64 ((wrap64 ((gM.length : Int) - (fe.length : Int))) + 1) : Int).toNat 0 : List Int)).bind fun oP => (aQ.l1 k1 fM BB sW oP (wrap64 ((oP.length : Int) - 1)))) else (none)) else (none)))))) else (none)) = some (r1, r2, r3) := by first | (rw [hji38] at H; exact H) | (simp only [hji38] at H ⊢; exact H)
        by_cases c39 : 0 ≤ (ji38)
        ·rw [if_pos c39] at H; have zg := eq_true c39; have Ei := decide_eq_true c39; clear c39; obtain ⟨ji40, KR⟩ : ∃ j_ : Int, (shl .u32 (rd fe (xw)) (ji38)) = j_ := ⟨_, rfl⟩; replace H : (if (ji40) < 2147483648 then (aQ.l0 k1 gM fe (wrap64 (fM + 1))) else ((dF.f k1 gM fM).bind fun BB => ((dF.f k1 fe fM).bind fun DN => ((ay.f k1 DN).bind fun sW => (if 0 ≤ (wrap64 ((wrap64 ((gM.length : Int) - (fe.length : Int))) + 1)) then (if (wrap64 ((wrap64 ((gM.length : Int) - (fe.length : Int))) + 1) : Int).toNat ≤ 70368744177664 then ((some (List.replicate (wrap64 ((wrap64 ((gM.length : Int) - (fe.length : Int))) + 1) : Int).toNat 0 : List Int)).bind fun oP => (aQ.l1 k1 fM BB sW oP (wrap64 ((oP.length : Int) - 1)))) else (none)) else (none)))))) = some (r1, r2, r3) := by first | (rw [KR] at H; exact H) | (simp only [KR] at H ⊢; exact H)
         have hji40_ : (IntKind.u32.wrap ((rd fe (xw)) * 2 ^ min (ji38).toNat 32)) = ji40 := KR; have hji40z : (ji38) ≤ 32 → (IntKind.u32.wrap ((rd fe (xw)) * 2 ^ (ji38).toNat)) = ji40 := SF KR; by_cases c41 : (ji40) < 2147483648
         ·rw [if_pos c41] at H; have oH := decide_eq_true c41; clear c41; have H' := aa.mk H; clear H; have p419 : 0 ≤ ((xw) : Int) := dt_; have q419 : (xw) < (fe.length : Int) := dt_; obtain ⟨ad419, e419, Re⟩ := Kd.jq (Kd.aY iX.out).2.2 (xw) p419 q419; cases e419; replace p419 := eq_true p419; replace q419 := eq_true q419; go_wp2; go_roundg k1
          case measure => have := HK1.out; omega
          case rel => exact ⟨(wrap64 (fM + 1)), rs_, H', ⟨by have := HK1.out; omega⟩, ⟨pR_ gW.out⟩, ⟨pR_ iX.out⟩, ⟨bl_⟩⟩
         ·rw [if_neg c41] at H; have oH := decide_eq_false c41; clear c41; replace H := Option.bind_eq_some_iff.mp H; obtain ⟨BB, A420, H⟩ := H; (try dsimp only at H)
          have A42 := aa.mk A420; clear A420; replace H := Option.bind_eq_some_iff.mp H; obtain ⟨DN, A430, H⟩ := H; (try dsimp only at H)
          have A43 := aa.mk A430; clear A430; replace H := Option.bind_eq_some_iff.mp H; obtain ⟨sW, A440, H⟩ := H; (try dsimp only at H)
          have A44 := aa.mk A440; clear A440; obtain ⟨ji45, Gm⟩ : ∃ j_ : Int, (wrap64 ((wrap64 ((gM.length : Int) - (fe.length : Int))) + 1)) = j_ := ⟨_, rfl⟩; replace H : (if 0 ≤ (ji45) then (if (ji45 : Int).toNat ≤ 70368744177664 then ((some (List.replicate (ji45 : Int).toNat 0 : List Int)).bind fun oP => (aQ.l1 k1 fM BB sW oP (wrap64 ((oP.length : Int) - 1)))) else (none)) else (none)) = some (r1, r2, r3) := by first | (rw [Gm] at H; exact H) | (simp only [Gm] at H ⊢; exact H)
          (try rw [Gm] at A42)
          (try rw [Gm] at A43)
          (try rw [Gm] at A44)
          have hji45w : (IntKind.i64.wrap ((wrap64 ((gM.length : Int) - (fe.length : Int))) + 1)) = ji45 := (dS _).trans Gm; by_cases c46 : 0 ≤ (ji45)
          ·rw [if_pos c46] at H; have J7 := eq_true c46; have c46b1 := decide_eq_true c46; clear c46; by_cases c47 : (ji45 : Int).toNat ≤ 70368744177664
           ·rw [if_pos c47] at H; have c47b0 := eq_true c47; have c47b1 := decide_eq_true c47; clear c47; obtain ⟨oP, KS⟩ : ∃ y_ : List Int, y_ = (List.replicate (ji45 : Int).toNat 0) := ⟨_, rfl⟩; replace H : (aQ.l1 k1 fM BB sW oP (wrap64 ((oP.length : Int) - 1))) = some (r1, r2, r3) := by first | (rw [KS]; with_reducible exact H) | (have H2_ := (Option.bind_some _ _).symm.trans H; rw [KS]; with_reducible exact H2_) | (have H2_ := (Option.bind_some _ _).symm.trans H; with_reducible exact H2_) | with_reducible exact H | (rw [KS]; exact H) | exact H
            have Ny429 := aa.mk KS; clear KS; have H' := aa.mk H; clear H; have p419 : 0 ≤ ((xw) : Int) := dt_; have q419 : (xw) < (fe.length : Int) := dt_; obtain ⟨ad419, e419, Re⟩ := Kd.jq (Kd.aY iX.out).2.2 (xw) p419 q419; cases e419; replace p419 := eq_true p419; replace q419 := eq_true q419; go_wp2_with (first | ((with_reducible refine aD (f := 124) rfl ?_); refine aZ (some 55) rfl rfl Tryd.func124 (by kernel_rfl) rfl #[.slice Ao33 gM.length co33, .int .i64 fM] rfl mp_ ?_; (with_reducible refine (dF.calls k1 _ _ gM fM BB _ ?az ?aA A42.out).mono ?_); (case az => exact cb_ ((Kd.aY gW.out).2.2)); (case aA => exact (Kd.aY gW.out).2.1); rintro e w48 ⟨v421, rfl, ho0, hb⟩; refine ⟨_, rfl, ?_⟩; have Bn := aa.mk (Kd.bC (Kd.cz (Kd.cz ho0 (Kd.dQ (pR_ gW.out))) (Kd.dQ (pR_ iX.out))) (ax bl_)); replace gW := aa.mk (Kd.cB (pR_ gW.out) (Kd.cu ho0) hb); replace iX := aa.mk (Kd.cB (pR_ iX.out) (Kd.cu ho0) hb); replace HB := aa.mk (ai bl_ hb); (try clear hb); (try clear hb2); (try clear hk); (try clear hi); (try clear ho0)) | ((with_reducible refine aD (f := 124) rfl ?_); refine aZ (some 58) rfl rfl Tryd.func124 (by kernel_rfl) rfl #[.slice (some ad419) fe.length Dm, .int .i64 fM] rfl mp_ ?_; (with_reducible refine (dF.calls k1 _ _ fe fM DN _ ?az ?aA A43.out).mono ?_); (case az => exact cb_ ((Kd.aY iX.out).2.2)); (case aA => exact (Kd.aY iX.out).2.1); rintro e w49 ⟨v424, rfl, ho0, hb⟩; refine ⟨_, rfl, ?_⟩; have BR := aa.mk (Kd.bC (Kd.cz (Kd.cz (Kd.cz ho0 (Kd.dQ (pR_ gW.out))) (Kd.dQ (pR_ iX.out))) (Kd.dQ (pR_ Bn.out))) (ax bl_)); replace gW := aa.mk (Kd.cB (pR_ gW.out) (Kd.cu ho0) hb); replace iX := aa.mk (Kd.cB (pR_ iX.out) (Kd.cu ho0) hb); replace Bn := aa.mk (Kd.cB (pR_ Bn.out) (Kd.cu ho0) hb); replace HB := aa.mk (ai bl_ hb); (try clear hb); (try clear hb2); (try clear hk); (try clear hi); (try clear ho0); obtain ⟨Ao50, co50, eo50⟩ := Kd.bK BR.out; subst eo50) | ((with_reducible refine aD (f := 116) rfl ?_); refine aZ (some 59) rfl rfl Tryd.func116 (by kernel_rfl) rfl #[.slice Ao50 DN.length co50] rfl mp_ ?_; (with_reducible refine (ay.calls k1 _ _ DN sW _ ?az ?aA A44.out).mono ?_); (case az => exact cb_ ((Kd.aY BR.out).2.2)); (case aA => exact (Kd.aY BR.out).2.1); rintro e w51 ⟨v427, rfl, ho0, hb⟩; refine ⟨_, rfl, ?_⟩; have HO428 := aa.mk (Kd.bC (Kd.cz (Kd.cz (Kd.cz (Kd.cz ho0 (Kd.dQ (pR_ gW.out))) (Kd.dQ (pR_ iX.out))) (Kd.dQ (pR_ Bn.out))) (Kd.dQ (pR_ BR.out))) (ax bl_)); replace gW := aa.mk (Kd.cB (pR_ gW.out) (Kd.cu ho0) hb); replace iX := aa.mk (Kd.cB (pR_ iX.out) (Kd.cu ho0) hb); replace Bn := aa.mk (Kd.cB (pR_ Bn.out) (Kd.cu ho0) hb); replace BR := aa.mk (Kd.cB (pR_ BR.out) (Kd.cu ho0) hb); replace HB := aa.mk (ai bl_ hb); (try clear hb); (try clear hb2); (try clear hk); (try clear hi); (try clear ho0)) | ((with_reducible refine aW (N := 66) rfl ?_); refine Kd.Oq (Kd.int .u32) _ 119 rfl (N := 66) rfl 102 _ _ rfl ji45 rfl rfl Tryd.underlying102 (.int .u32 0) 4 zu rfl (by decide) (by omega) 0 (ok := fun _ => True) (okp := fun _ => True) rfl (fun _ hk => hk) trivial (dt_) (Nat.le_trans (Nat.mul_le_mul_right _ (dt_ : ji45.toNat ≤ 70368744177664)) (by omega)) (Below.refl _ _) (Nat.le_refl _) ?_; intro v430 w52 ho53 hb hg_ fZ; clear hg_ fZ; (first | rw [← Ny429.out] at ho53 | (simp only [Int.reduceToNat] at ho53; rw [← Ny429.out] at ho53)); have HO431 := aa.mk (Kd.bC (Kd.cz (Kd.cz (Kd.cz (Kd.cz (Kd.cz ho53 (Kd.dQ (pR_ gW.out))) (Kd.dQ (pR_ iX.out))) (Kd.dQ (pR_ Bn.out))) (Kd.dQ (pR_ BR.out))) (Kd.dQ (pR_ HO428.out))) (ax bl_)); replace gW := aa.mk (Kd.cB (pR_ gW.out) (Kd.cu ho53) hb); replace iX := aa.mk (Kd.cB (pR_ iX.out) (Kd.cu ho53) hb); replace Bn := aa.mk (Kd.cB (pR_ Bn.out) (Kd.cu ho53) hb); replace BR := aa.mk (Kd.cB (pR_ BR.out) (Kd.cu ho53) hb); replace HO428 := aa.mk (Kd.cB (pR_ HO428.out) (Kd.cu ho53) hb); replace HB := aa.mk (ai bl_ hb); clear hb ho53; obtain ⟨Ao54, co54, eo54⟩ := Kd.bK HO431.out; subst eo54))
            go_loopg [13] k1 (fun kq v13 w' => ∃ (xg : List Int) (nM : List Int) (nN : Int), v13 = .int .i64 nN ∧ aa (aQ.l1 kq fM xg sW nM nN = some (r1, r2, r3)) ∧ aa (kq ≤ k1) ∧ aa (Kd.R (Kd.int .u32) 119 w' w.heap.size (fun k_ => some k_ ≠ (v427 : Value).ownBlock ∧ some k_ ≠ ((.slice Ao54 oP.length co54) : Value).ownBlock) v421 xg) ∧ aa (Kd.R (Kd.int .u32) 119 w' w.heap.size (fun k_ => some k_ ≠ (v421 : Value).ownBlock ∧ some k_ ≠ ((.slice Ao54 oP.length co54) : Value).ownBlock) v427 sW) ∧ aa (Kd.R (Kd.int .u32) 119 w' w.heap.size (fun k_ => some k_ ≠ (v421 : Value).ownBlock ∧ some k_ ≠ (v427 : Value).ownBlock) (.slice Ao54 oP.length co54) nM) ∧ aa (Below w.heap.size w w'))
            case atStart => exact ⟨(BB), (oP), (wrap64 ((oP.length : Int) - 1)), rs_, H', ⟨Nat.le_refl _⟩, ⟨by (with_reducible repeat (first | apply Kd.bL | apply Kd.bM | apply Kd.bQ)); exact Kd.bG Bn.out (fun _ hk => ⟨hk.1.2, hk.2⟩)⟩, ⟨by (with_reducible repeat (first | apply Kd.bL | apply Kd.bM | apply Kd.bQ)); exact Kd.bG HO428.out (fun _ hk => ⟨hk.1.1.2, hk.2⟩)⟩, ⟨by (with_reducible repeat (first | apply Kd.bL | apply Kd.bM | apply Kd.bQ)); exact Kd.bG HO431.out (fun _ hk => ⟨hk.1.1.2, hk.2⟩)⟩, ⟨bl_⟩⟩
            case round =>
             clear H'; (try clear c1); (try clear p2); (try clear c3); (try clear c4); (try clear p4); (try clear q4); (try clear hx4); (try clear qi4); (try clear c5); (try clear gQ); (try clear qF); (try clear c5b2); (try clear p6); (try clear c10); (try clear ig); (try clear c11); (try clear c12); (try clear c16); (try clear BJ); (try clear FZ); (try clear c17); (try clear l8); (try clear sV); (try clear c36); (try clear Eb); (try clear c37); (try clear Ki); (try clear c39); (try clear zg); (try clear Ei); (try clear p40); (try clear q40); (try clear hx40); (try clear qi40); (try clear c41); (try clear oH); (try clear p41); (try clear q41); (try clear hx41); (try clear c46); (try clear J7); (try clear c46b1); (try clear c47); (try clear c47b0); (try clear c47b1); (try clear Jc); (try clear Re); (try clear p2); (try clear p4); (try clear p408); (try clear p419); (try clear q4); (try clear q408); (try clear q419); obtain ⟨xg, nM, nN, rfl, HA, HK2, qA, sZ, oL, HB⟩ := hrel; have Br := (Kd.aY oL.out).1; rw [Br] at oL; (try simp only [Br])
             (try simp only [Br] at qA)
             (try simp only [Br] at sZ)
             cases gk with
             | zero => exact absurd HA.out (by simp [aQ.l1])
             | succ k2 =>
              have H := HA.out; clear HA; simp only [aQ.l1] at H; by_cases c55 : nN ≥ 0
              ·rw [if_pos c55] at H; have c55b0 : decide (0 ≤ nN) = true := decide_eq_true c55; clear c55; replace H := Option.bind_eq_some_iff.mp H; obtain ⟨⟨t432, t433⟩, A560, H⟩ := H; (try dsimp only at H)
               have A56 := aa.mk A560; clear A560; by_cases c57 : 0 ≤ nN
               ·rw [if_pos c57] at H; have c57b0 := decide_eq_true c57; clear c57; by_cases c58 : nN < (nM.length : Int)
                ·rw [if_pos c58] at H; have c58b0 := decide_eq_true c58; clear c58; obtain ⟨y434, KT⟩ : ∃ y_ : List Int, y_ = (nM.set (nN : Int).toNat t432) := ⟨_, rfl⟩; replace H : (aQ.l1 k2 fM t433 sW y434 (wrap64 (nN - 1))) = some (r1, r2, r3) := by first | (rw [KT]; with_reducible exact H) | (have H2_ := (Option.bind_some _ _).symm.trans H; rw [KT]; with_reducible exact H2_) | (have H2_ := (Option.bind_some _ _).symm.trans H; with_reducible exact H2_) | with_reducible exact H | (rw [KT]; exact H) | exact H
                 have Ny434 := aa.mk KT; clear KT; have H' := aa.mk H; clear H; obtain ⟨Ao60, co60, eo60⟩ := Kd.bK qA.out; subst eo60; obtain ⟨Ao61, co61, eo61⟩ := Kd.bK sZ.out; subst eo61; go_wp2_with (first | ((with_reducible refine aD (f := 125) rfl ?_); refine aZ (some 79) rfl rfl Tryd.func125 (by kernel_rfl) rfl #[.slice Ao60 xg.length co60, .slice Ao61 sW.length co61, .int .i64 nN] rfl mp_ ?_; (with_reducible refine (fq.calls k2 (fun k_ => some k_ = (.slice Ao60 xg.length co60 : Value).ownBlock) (.slice Ao60 xg.length co60) xg _ _ sW nN t432 t433 w _ ?az ?aA ?eH ?eO A56.out).mono ?_); (case az => exact bl_); (case aA => exact Kd.LZ rfl qA.out); (case eH => exact Kd.Sg (sZ.out) (fun k_ hk_ hs_ => (hk_.1) hs_)); (case eO => exact (Kd.aY sZ.out).2.1); rintro e w62 ⟨rfl, hy0, hb, hkp⟩; refine ⟨_, rfl, ?_⟩; replace qA := aa.mk (Kd.R_reok rfl hy0 (fun k_ e_ => qA.out.1 k_ e_)); replace sZ := aa.mk (Kd.bG (ok' := fun k_ => some k_ ≠ (.slice Ao60 xg.length co60 : Value).ownBlock ∧ some k_ ≠ (.slice Ao54 nM.length co54 : Value).ownBlock) (Kd.O6 (sZ.out) hkp (fun k_ hk_ hs_ => (hk_.1) hs_)) (fun k_ hk_ => ⟨hk_.1.1, hk_.1.2⟩)); replace oL := aa.mk (Kd.bG (ok' := fun k_ => some k_ ≠ (.slice Ao60 xg.length co60 : Value).ownBlock ∧ some k_ ≠ (.slice Ao61 sW.length co61 : Value).ownBlock) (Kd.O6 (oL.out) hkp (fun k_ hk_ hs_ => (hk_.1) hs_)) (fun k_ hk_ => ⟨hk_.1.1, hk_.1.2⟩)); replace HB := aa.mk (hb); (try clear hb); (try clear hkp); (try clear hy0); have p59 : 0 ≤ (nN : Int) := dt_; have q59 : (nN : Int) < ((nM.length : Int) : Int) := dt_; obtain ⟨go59, co59, eo59, gb59, gl59, cl59, HG59⟩ := Kd.CX oL.out (by omega); (first | cases eo59 | (injection eo59 with ea_ en_ ec_; (first | subst ea_ | (injection ea_ with ea_; subst ea_)); subst ec_; clear en_)); have GB59 := aa.mk gb59; have GG59 := aa.mk HG59; clear gb59 gl59 HG59; obtain ⟨hx59_0, hf59_0⟩ := Kd.vC 0 oL.out (nN : Int) p59 q59; replace p59 := eq_true p59; replace q59 := eq_true q59; obtain ⟨hy63_, hz63_⟩ := Kd.vC 0 oL.out (nN : Int) (dt_) (dt_); have HP63 := Kd.Er oL.out (nN : Int) t432) | ((with_reducible refine vD (t := 119) (p := 80) rfl ?_); refine tN (t := 119) (p := 80) (v := ?vo_w64) (w1 := (w62.setCell ⟨go59, (nN : Int).toNat, none⟩ (.int .u32 t432))) ?hg ?ho ?hn ?hr ?_; (case ho => rfl); (case hg => rfl); (case hn => rfl); (case hr => first | (go_simp; done) | (go_simp; rfl)); intro w64 hw; have hg : w62.grownBy w64 (some go59) := (by rw [hw]; exact HP63.2); have hp_ : Kd.R (Kd.int .u32) 119 w64 w.heap.size (fun k_ => some k_ ≠ (.slice Ao60 xg.length co60 : Value).ownBlock ∧ some k_ ≠ (.slice Ao61 sW.length co61 : Value).ownBlock) (.slice (some ⟨go59, 0, none⟩) nM.length co54) y434 := (by rw [hw, Ny434.out]; exact HP63.1); clear HP63; replace qA := aa.mk (Kd.BZ (v := (.slice (some ⟨go59, 0, none⟩) nM.length co54)) (v1 := (.slice (some ⟨go59, 0, none⟩) nM.length co54)) (ok := (fun k_ => some k_ ≠ (.slice Ao61 sW.length co61 : Value).ownBlock)) (pR_ qA.out) hg (.inl rfl)); replace sZ := aa.mk (Kd.BZ (v := (.slice (some ⟨go59, 0, none⟩) nM.length co54)) (v1 := (.slice (some ⟨go59, 0, none⟩) nM.length co54)) (ok := (fun k_ => some k_ ≠ (.slice Ao60 xg.length co60 : Value).ownBlock)) (pR_ sZ.out) hg (.inl rfl)); replace oL := aa.mk (hp_); replace HB := aa.mk ((by rw [hw]; exact jA (HB.out) GB59.out : Below w.heap.size w w64)); clear hg hw hp_))
                 (try simp only [← Br])
                 go_roundg k2
                 case measure => have := HK1.out; have := HK2.out; omega
                 case rel => exact ⟨(t433), (y434), (wrap64 (nN - 1)), rs_, H', ⟨by have := HK1.out; have := HK2.out; omega⟩, ⟨by (try simp only [Br]); (with_reducible repeat (first | apply Kd.bL | apply Kd.bM | apply Kd.bQ)); exact qA.out⟩, ⟨by (try simp only [Br]); (with_reducible repeat (first | apply Kd.bL | apply Kd.bM | apply Kd.bQ)); exact sZ.out⟩, ⟨by (try simp only [Br]); (with_reducible repeat (first | apply Kd.bL | apply Kd.bM | apply Kd.bQ)); exact oL.out⟩, ⟨bl_⟩⟩
                ·rw [if_neg c58] at H; exact absurd H (by simp)
               ·rw [if_neg c57] at H; exact absurd H (by simp)
              ·rw [if_neg c55] at H; have c55b0 : decide (0 ≤ nN) = false := decide_eq_false c55; clear c55; replace H := Option.bind_eq_some_iff.mp H; obtain ⟨t435, A650, H⟩ := H; (try dsimp only at H)
               have A65 := aa.mk A650; clear A650; replace H := Option.bind_eq_some_iff.mp H; obtain ⟨t438, A660, H⟩ := H; (try dsimp only at H)
               have A66 := aa.mk A660; clear A660; simp only [Option.some.injEq, Prod.mk.injEq] at H; obtain ⟨rfl, rfl, rfl⟩ := H; go_wp2_with (first | ((with_reducible refine aD (f := 116) rfl ?_); refine aZ (some 82) rfl rfl Tryd.func116 (by kernel_rfl) rfl #[.slice Ao54 nM.length co54] rfl mp_ ?_; (with_reducible refine (ay.calls k2 _ _ nM t435 _ ?az ?aA A65.out).mono ?_); (case az => exact cb_ ((Kd.aY oL.out).2.2)); (case aA => exact (Kd.aY oL.out).2.1); rintro e w67 ⟨v436, rfl, ho0, hb⟩; refine ⟨_, rfl, ?_⟩; have HO437 := aa.mk (Kd.bC (Kd.cz (Kd.cz (Kd.cz ho0 (Kd.dQ (pR_ qA.out))) (Kd.dQ (pR_ sZ.out))) (Kd.dQ (pR_ oL.out))) (ax bl_)); replace qA := aa.mk (Kd.cB (pR_ qA.out) (Kd.cu ho0) hb); replace sZ := aa.mk (Kd.cB (pR_ sZ.out) (Kd.cu ho0) hb); replace oL := aa.mk (Kd.cB (pR_ oL.out) (Kd.cu ho0) hb); replace HB := aa.mk (ai bl_ hb); (try clear hb); (try clear hb2); (try clear hk); (try clear hi); (try clear ho0); obtain ⟨Ao68, co68, eo68⟩ := Kd.bK qA.out; subst eo68) | ((with_reducible refine aD (f := 126) rfl ?_); refine aZ (some 85) rfl rfl Tryd.func126 (by kernel_rfl) rfl #[.slice Ao68 xg.length co68, .int .i64 fM] rfl mp_ ?_; (with_reducible refine (eP.calls k2 _ _ xg fM t438 _ ?az ?aA A66.out).mono ?_); (case az => exact cb_ ((Kd.aY qA.out).2.2)); (case aA => exact (Kd.aY qA.out).2.1); rintro e w69 ⟨v439, rfl, ho0, hb⟩; refine ⟨_, rfl, ?_⟩; have HO440 := aa.mk (Kd.bC (Kd.cz (Kd.cz (Kd.cz (Kd.cz ho0 (Kd.dQ (pR_ qA.out))) (Kd.dQ (pR_ sZ.out))) (Kd.dQ (pR_ oL.out))) (Kd.dQ (pR_ HO437.out))) (ax bl_)); replace qA := aa.mk (Kd.cB (pR_ qA.out) (Kd.cu ho0) hb); replace sZ := aa.mk (Kd.cB (pR_ sZ.out) (Kd.cu ho0) hb); replace oL := aa.mk (Kd.cB (pR_ oL.out) (Kd.cu ho0) hb); replace HO437 := aa.mk (Kd.cB (pR_ HO437.out) (Kd.cu ho0) hb); replace HB := aa.mk (ai bl_ hb); (try clear hb); (try clear hb2); (try clear hk); (try clear hi); (try clear ho0)))
               go_ret3; exact ⟨_, _, by first | rfl | (simp [eT, eU] <;> rfl) | (simp only [← hji35, ← hji38, ← KR, ← Gm]; first | rfl | (simp [eT, eU] <;> rfl)) | (simp [*, eT, eU] <;> rfl), by (with_reducible repeat (first | apply Kd.bL | apply Kd.bM | apply Kd.bQ)); exact Kd.bG HO437.out (fun _ hk => hk.2), by (with_reducible repeat (first | apply Kd.bL | apply Kd.bM | apply Kd.bQ)); exact Kd.bG HO440.out (fun _ hk => hk.2), bl_⟩
           ·rw [if_neg c47] at H; exact absurd H (by simp)
          ·rw [if_neg c46] at H; exact absurd H (by simp)
        ·rw [if_neg c39] at H; exact absurd H (by simp)
       ·rw [if_neg c37] at H; exact absurd H (by simp)
      ·rw [if_neg c36] at H; exact absurd H (by simp)

end Go.Proofs.YtggelekooacmnaaDoor.Q
namespace Go.Proofs.YtggelekooacmnaaDoor.Q
open Go.RowKit Go.Proofs.YtggelekooacmnaaDoorW.aU Go.Proofs.YtggelekooacmnaaDoorW.bD Go.Proofs.YtggelekooacmnaaDoorW.bH
attribute [local go_sem] dB dC dN dO cO cZ dD dE   -- for this text's walks alone
set_option linter.unusedVariables false
set_option linter.unusedSimpArgs false

/-! ### bX: function 121 -/
def bX.l0 : Nat → List Int → List Int → Option (List Int)
  | 0, _, _ => none
  | k + 1, x0, x1 => if (x1.length : Int) > 0 then ((aQ.f k x0 x1).bind fun bt447 => (bX.l0 k x1 bt447.2.1)) else (some x0)
def bX.f (k : Nat) (l0 : List Int) (l1 : List Int) : Option (List Int) := (ay.f k l0).bind fun t441 => ((ay.f k l1).bind fun t444 => (bX.l0 k t441 t444))
theorem bX.fA : ∀ k, (∀ y0 y1, LeO (bX.l0 k y0 y1) (bX.l0 (k + 1) y0 y1))
  | 0 => fun _ _ r h => by simp [bX.l0] at h
  | k + 1 => by
    have ih0 := bX.fA k
    · intro y0 y1
      unfold bX.l0
      repeat' first
      | (with_reducible exact ih0 _ _)
      | (with_reducible exact aQ.mono _ _ _)
      | (with_reducible exact ay.mono _ _)
      | (with_reducible exact LeO.refl _)
      | (with_reducible exact LeO.none _)
      | (with_reducible refine LeO.ite ?_ ?_)
      | (with_reducible refine LeO.bind ?_ (fun _ => ?_))
      | exact ih0 _ _
      | exact aQ.mono _ _ _
      | exact ay.mono _ _
      | exact LeO.none _
      | refine LeO.ite ?_ ?_
      | refine LeO.bind ?_ (fun _ => ?_)
theorem bX.mono : ∀ a0 a1 k, LeO (bX.f k a0 a1) (bX.f (k + 1) a0 a1) := by
  intro a0 a1 k
  have ih0 := bX.fA k
  unfold bX.f
  repeat' first
      | (with_reducible exact ih0 _ _)
      | (with_reducible exact aQ.mono _ _ _)
      | (with_reducible exact ay.mono _ _)
      | (with_reducible exact LeO.refl _)
      | (with_reducible exact LeO.none _)
      | (with_reducible refine LeO.ite ?_ ?_)
      | (with_reducible refine LeO.bind ?_ (fun _ => ?_))
      | exact ih0 _ _
      | exact aQ.mono _ _ _
      | exact ay.mono _ _
      | exact LeO.none _
      | refine LeO.ite ?_ ?_
      | refine LeO.bind ?_ (fun _ => ?_)
set_option maxHeartbeats 8000000 in
set_option maxRecDepth 100000 in
theorem bX.calls (k : Nat) (A0 : Option Addr) (c0 : Nat) (l0 : List Int) (A1 : Option Addr) (c1 : Nat) (l1 : List Int) (r : List Int) (w : World) (hr0 : Kd.C (Kd.int .u32) w A0 l0.length l0) (hc0 : l0.length ≤ c0) (hr1 : Kd.C (Kd.int .u32) w A1 l1.length l1) (hc1 : l1.length ≤ c1) (h : bX.f k l0 l1 = some r) :
    Calls Tryd.prog 121 #[.slice A0 l0.length c0, .slice A1 l1.length c1] w fun e w' => ∃ v0_ : Value, e = .returned (v0_) ∧ Kd.R (Kd.int .u32) 119 w' w.heap.size (fun _ => True) v0_ r ∧ Below w.heap.size w w' := by
  have HR0 := aa.mk hr0
  have HC0 := aa.mk hc0
  clear hr0 hc0
  have HR1 := aa.mk hr1
  have HC1 := aa.mk hc1
  clear hr1 hc1
  have HB := aa.mk (Below.refl w.heap.size w)
  have H : ((ay.f k l0).bind fun t441 => ((ay.f k l1).bind fun t444 => (bX.l0 k t441 t444))) = some r := h
  clear h
  replace H := Option.bind_eq_some_iff.mp H
  obtain ⟨t441, A30, H⟩ := H
  replace H : ((ay.f k l1).bind fun t444 => (bX.l0 k t441 t444)) = some r := H
  have A3 := aa.mk A30
  clear A30
  replace H := Option.bind_eq_some_iff.mp H
  obtain ⟨t444, A40, H⟩ := H
  replace H : (bX.l0 k t441 t444) = some r := H
  have A4 := aa.mk A40
  clear A40
  have H' := aa.mk H
  clear H
  go_enter Tryd.func121, Tryd.ntmps121
  go_wp2_with (first | ((with_reducible refine aD (f := 116) rfl ?_); refine aZ (some 9) rfl rfl Tryd.func116 (by kernel_rfl) rfl #[.slice A0 l0.length c0] rfl (by (try simp only [List.map_toArray, List.map_cons, List.map_nil]); first | done | rfl | (simp only [List.length_drop, List.length_take]; rfl)) ?_; (with_reducible refine (ay.calls k _ _ l0 t441 _ ?az ?aA A3.out).mono ?_); (case az => repeat (first | exact HR0.out | (with_reducible refine Kd.qM ?_ _) | (with_reducible refine Kd.qN ?_ _) | (with_reducible refine Kd.uS ?_))); (case aA => exact HC0.out); rintro e w5 ⟨v442, rfl, ho0, hb⟩; refine ⟨_, rfl, ?_⟩; have n0_ := aa.mk (Kd.bC ho0 (ax (by repeat (first | (with_reducible first | exact HB.out | apply cK | apply bS | apply bR) | exact HB.out)))); have n1_ := aa.mk (ai (by repeat (first | (with_reducible first | exact HB.out | apply cK | apply bS | apply bR) | exact HB.out)) hb); clear HB; have KU := n0_; have HB := n1_; clear n0_ n1_; (try clear hb); (try clear hb2); (try clear hk); (try clear hi); (try clear ho0)) | ((with_reducible refine aD (f := 116) rfl ?_); refine aZ (some 11) rfl rfl Tryd.func116 (by kernel_rfl) rfl #[.slice A1 l1.length c1] rfl (by (try simp only [List.map_toArray, List.map_cons, List.map_nil]); first | done | rfl | (simp only [List.length_drop, List.length_take]; rfl)) ?_; (with_reducible refine (ay.calls k _ _ l1 t444 _ ?az ?aA A4.out).mono ?_); (case az => repeat (first | exact (Kd.aK HR1.out HB.out) | (with_reducible refine Kd.qM ?_ _) | (with_reducible refine Kd.qN ?_ _) | (with_reducible refine Kd.uS ?_))); (case aA => exact HC1.out); rintro e w6 ⟨v445, rfl, ho0, hb⟩; refine ⟨_, rfl, ?_⟩; have n0_ := aa.mk (Kd.cB (by (with_reducible repeat (first | apply Kd.bL | apply Kd.bM | apply Kd.bQ)); exact KU.out) (Kd.cu ho0) hb); have n1_ := aa.mk (Kd.bC (Kd.cz ho0 (Kd.dQ (by (with_reducible repeat (first | apply Kd.bL | apply Kd.bM | apply Kd.bQ)); exact KU.out))) (ax (by repeat (first | (with_reducible first | exact HB.out | apply cK | apply bS | apply bR) | exact HB.out)))); have n2_ := aa.mk (ai (by repeat (first | (with_reducible first | exact HB.out | apply cK | apply bS | apply bR) | exact HB.out)) hb); clear KU; clear HB; have KU := n0_; have HO446 := n1_; have HB := n2_; clear n0_ n1_ n2_; (try clear hb); (try clear hb2); (try clear hk); (try clear hi); (try clear ho0)))
  go_loopg [0, 1] k (fun kq v0 v1 w' => ∃ (xx : List Int) (BD : List Int), aa (bX.l0 kq xx BD = some r) ∧ aa (kq ≤ k) ∧ aa (Kd.R (Kd.int .u32) 119 w' w.heap.size (fun k_ => some k_ ≠ (v1 : Value).ownBlock) v0 xx) ∧ aa (Kd.R (Kd.int .u32) 119 w' w.heap.size (fun k_ => some k_ ≠ (v0 : Value).ownBlock) v1 BD) ∧ aa (Below w.heap.size w w'))
  case atStart => exact ⟨(t441), (t444), H', ⟨Nat.le_refl _⟩, ⟨by (with_reducible repeat (first | apply Kd.bL | apply Kd.bM | apply Kd.bQ)); exact Kd.bG KU.out (fun _ hk => hk.2)⟩, ⟨by (with_reducible repeat (first | apply Kd.bL | apply Kd.bM | apply Kd.bQ)); exact Kd.bG HO446.out (fun _ hk => hk.2)⟩, ⟨by repeat (first | (with_reducible first | exact HB.out | apply cK | apply bS | apply bR) | exact HB.out)⟩⟩
  case round =>
    clear H'
    try clear c1
    try clear p2
    obtain ⟨xx, BD, HA, HK1, gW, iX, HB⟩ := hrel
    cases gk with
    | zero => exact absurd HA.out (by simp [bX.l0])
    | succ k1 =>
      have H := HA.out
      clear HA
      simp only [bX.l0] at H
      by_cases c7 : (BD.length : Int) > 0
      · rw [if_pos c7] at H
        have jM : decide (0 < (BD.length : Int)) = true := decide_eq_true c7
        have vo : decide (0 < BD.length) = true := decide_eq_true (by omega)
        clear c7
        replace H := Option.bind_eq_some_iff.mp H
        obtain ⟨⟨t447, t448, t449⟩, A80, H⟩ := H
        replace H : (bX.l0 k1 BD t448) = some r := H
        have A8 := aa.mk A80
        clear A80
        have H' := aa.mk H
        clear H
        obtain ⟨Ao9, co9, eo9⟩ := Kd.bK iX.out
        subst eo9
        obtain ⟨Ao10, co10, eo10⟩ := Kd.bK gW.out
        subst eo10
        go_wp2_with (first | ((with_reducible refine aD (f := 122) rfl ?_); refine aZ (some 18) rfl rfl Tryd.func122 (by kernel_rfl) rfl #[.slice Ao10 xx.length co10, .slice Ao9 BD.length co9] rfl (by (try simp only [List.map_toArray, List.map_cons, List.map_nil]); first | done | rfl | (simp only [List.length_drop, List.length_take]; rfl)) ?_; (with_reducible refine (aQ.calls k1 _ _ xx _ _ BD t447 t448 t449 _ ?az ?aA ?eH ?eO A8.out).mono ?_); (case az => repeat (first | exact (Kd.aY gW.out).2.2 | (with_reducible refine Kd.qM ?_ _) | (with_reducible refine Kd.qN ?_ _) | (with_reducible refine Kd.uS ?_))); (case aA => exact (Kd.aY gW.out).2.1); (case eH => repeat (first | exact (Kd.aY iX.out).2.2 | (with_reducible refine Kd.qM ?_ _) | (with_reducible refine Kd.qN ?_ _) | (with_reducible refine Kd.uS ?_))); (case eO => exact (Kd.aY iX.out).2.1); rintro e w11 ⟨v450, v452, rfl, ho0, ho1, hb⟩; refine ⟨_, rfl, ?_⟩; have n0_ := aa.mk (Kd.bG (Kd.jr (Kd.jr (Kd.yT (by (with_reducible repeat (first | apply Kd.bL | apply Kd.bM | apply Kd.bQ)); exact gW.out) hb) (Kd.cu ho0)) (Kd.cu ho1)) (fun _ h_ => h_.1)); have n1_ := aa.mk (Kd.bG (Kd.jr (Kd.jr (Kd.yT (by (with_reducible repeat (first | apply Kd.bL | apply Kd.bM | apply Kd.bQ)); exact iX.out) hb) (Kd.cu ho0)) (Kd.cu ho1)) (fun _ h_ => h_.1)); have n2_ := aa.mk (Kd.bC (Kd.cz (Kd.cz ho0 (Kd.dQ (by (with_reducible repeat (first | apply Kd.bL | apply Kd.bM | apply Kd.bQ)); exact gW.out))) (Kd.dQ (by (with_reducible repeat (first | apply Kd.bL | apply Kd.bM | apply Kd.bQ)); exact iX.out))) (ax (by repeat (first | (with_reducible first | exact HB.out | apply cK | apply bS | apply bR) | exact HB.out)))); have n3_ := aa.mk (Kd.bC (Kd.cz (Kd.cz ho1 (Kd.dQ (by (with_reducible repeat (first | apply Kd.bL | apply Kd.bM | apply Kd.bQ)); exact gW.out))) (Kd.dQ (by (with_reducible repeat (first | apply Kd.bL | apply Kd.bM | apply Kd.bQ)); exact iX.out))) (ax (by repeat (first | (with_reducible first | exact HB.out | apply cK | apply bS | apply bR) | exact HB.out)))); have n4_ := aa.mk (ai (by repeat (first | (with_reducible first | exact HB.out | apply cK | apply bS | apply bR) | exact HB.out)) hb); clear gW; clear iX; clear HB; have gW := n0_; have iX := n1_; have HO451 := n2_; have HO453 := n3_; have HB := n4_; clear n0_ n1_ n2_ n3_ n4_; (try clear hb); (try clear hb2); (try clear hk); (try clear hi); (try clear ho0); (try clear ho1)))
        go_roundg k1
        case measure => have := HK1.out; omega
        case rel => exact ⟨(BD), (t448), H', ⟨by have := HK1.out; omega⟩, ⟨by (with_reducible repeat (first | apply Kd.bL | apply Kd.bM | apply Kd.bQ)); exact Kd.bG iX.out (fun _ hk => hk.2)⟩, ⟨by (with_reducible repeat (first | apply Kd.bL | apply Kd.bM | apply Kd.bQ)); exact Kd.bG HO453.out (fun _ hk => hk.2)⟩, ⟨by repeat (first | (with_reducible first | exact HB.out | apply cK | apply bS | apply bR) | exact HB.out)⟩⟩
      · rw [if_neg c7] at H
        have jM : decide (0 < (BD.length : Int)) = false := decide_eq_false c7
        have vo : decide (0 < BD.length) = false := decide_eq_false (by omega)
        clear c7
        obtain rfl := Option.some.inj H
        obtain ⟨Ao12, BA, eo12⟩ := Kd.bK iX.out
        subst eo12
        go_wp2
        go_ret
        exact ⟨_, by first | rfl | (simp [eT, eU] <;> rfl) | (simp [*, eT, eU] <;> rfl), by (with_reducible repeat (first | apply Kd.bL | apply Kd.bM | apply Kd.bQ)); exact Kd.bG gW.out (fun _ hk => trivial), by repeat (first | (with_reducible first | exact HB.out | apply cK | apply bS | apply bR) | exact HB.out)⟩

end Go.Proofs.YtggelekooacmnaaDoor.Q
namespace Go.Proofs.YtggelekooacmnaaDoor.Q
open Go.RowKit Go.Proofs.YtggelekooacmnaaDoorW.aU Go.Proofs.YtggelekooacmnaaDoorW.bD Go.Proofs.YtggelekooacmnaaDoorW.bH
attribute [local go_sem] dB dC dN dO cO cZ dD dE   -- for this text's walks alone
set_option linter.unusedVariables false
set_option linter.unusedSimpArgs false

/-! ### fw: function 117 -/
def fw.f (k : Nat) (a0 : Bool) (l1 : List Int) (l2 : List Int) : Option (Bool × List Int × List Int) := (bX.f k l1 l2).bind fun xy => ((aQ.f k l1 xy).bind fun Gn => ((aQ.f k l2 xy).bind fun KV => (if a0 = true then (some (decide ((Gn.1.length : Int) > 0), Gn.1, KV.1)) else (some (false, Gn.1, KV.1)))))
theorem fw.mono : ∀ a0 a1 a2 k, LeO (fw.f k a0 a1 a2) (fw.f (k + 1) a0 a1 a2) := by
 intro a0 a1 a2 k; unfold fw.f
 repeat' first
   | (with_reducible exact aQ.mono _ _ _)
   | (with_reducible exact bX.mono _ _ _)
   | (with_reducible exact LeO.refl _)
   | (with_reducible exact LeO.none _)
   | (with_reducible refine LeO.ite ?_ ?_)
   | (with_reducible refine LeO.bind ?_ (fun _ => ?_))
   | exact aQ.mono _ _ _
   | exact bX.mono _ _ _
   | exact LeO.none _
   | refine LeO.ite ?_ ?_
   | refine LeO.bind ?_ (fun _ => ?_)
set_option maxHeartbeats 8000000 in
set_option maxRecDepth 100000 in
theorem fw.calls (k : Nat) (a0 : Bool) (A1 : Option Addr) (c1 : Nat) (l1 : List Int) (A2 : Option Addr) (c2 : Nat) (l2 : List Int) (r1 : Bool) (r2 : List Int) (r3 : List Int) (w : World) (hr1 : Kd.C (Kd.int .u32) w A1 l1.length l1) (hc1 : l1.length ≤ c1) (hr2 : Kd.C (Kd.int .u32) w A2 l2.length l2) (hc2 : l2.length ≤ c2) (h : fw.f k a0 l1 l2 = some (r1, r2, r3)) :
  Calls Tryd.prog 117 #[.bool a0, .slice A1 l1.length c1, .slice A2 l2.length c2] w fun e w' => ∃ v1_ v2_ : Value, e = .returned (.agg #[.bool r1, v1_, v2_]) ∧ Kd.R (Kd.int .u32) 119 w' w.heap.size (fun k_ => some k_ ≠ (v2_ : Value).ownBlock) v1_ r2 ∧ Kd.R (Kd.int .u32) 119 w' w.heap.size (fun k_ => some k_ ≠ (v1_ : Value).ownBlock) v2_ r3 ∧ Below w.heap.size w w' := by
 have hu104 := Tryd.underlying104; have HR1 := aa.mk hr1; have HC1 := aa.mk hc1; clear hr1 hc1; have HR2 := aa.mk hr2; have HC2 := aa.mk hc2; clear hr2 hc2; have HB := aa.mk (Below.refl w.heap.size w); have H : ((bX.f k l1 l2).bind fun xy => ((aQ.f k l1 xy).bind fun Gn => ((aQ.f k l2 xy).bind fun KV => (if a0 = true then (some (decide ((Gn.1.length : Int) > 0), Gn.1, KV.1)) else (some (false, Gn.1, KV.1)))))) = some (r1, r2, r3) := h; clear h; replace H := Option.bind_eq_some_iff.mp H; obtain ⟨xy, A40, H⟩ := H; (try dsimp only at H)
 have A4 := aa.mk A40; clear A40; replace H := Option.bind_eq_some_iff.mp H; obtain ⟨⟨xz, t459, t460⟩, A50, H⟩ := H; (try dsimp only at H)
 have A5 := aa.mk A50; clear A50; replace H := Option.bind_eq_some_iff.mp H; obtain ⟨⟨t465, t466, t467⟩, A60, H⟩ := H; (try dsimp only at H)
 have A6 := aa.mk A60; clear A60; by_cases c7 : a0 = true
 ·subst c7; have H1 : (some (decide ((xz.length : Int) > 0), xz, t465)) = some (r1, r2, r3) := by rw [if_pos rfl] at H; exact H
  clear H; have H := H1; clear H1; rw [show (decide ((xz.length : Int) > 0)) = decide (0 < xz.length) from decide_eq_decide.mpr (by omega)] at H; simp only [Option.some.injEq, Prod.mk.injEq] at H; obtain ⟨rfl, rfl, rfl⟩ := H; go_enter Tryd.func117, Tryd.ntmps117; go_wp2_with (first | ((with_reducible refine aW (N := 6) rfl ?_); (try (refine fT (by rfl) ?_; dsimp only)); refine bf ?hg (N := 6) ?hd (cs := #[.bool false, .slice none 0 0, .slice none 0 0]) (t := 104) ?hr ?_; (case hd => rfl); (case hg => rfl); (case hr => first | (go_simp; done) | (go_simp; rfl)); intro qB hg w8 aG hb; have nO := aa.mk (aG); have GW454 : aa (w.heap.size ≤ qB) := gw_ hg (ax bl_); have GE454 := GW454; replace HB := aa.mk (ai bl_ hb); clear hb aG hg) | ((with_reducible refine aD (f := 121) rfl ?_); refine aZ (some 16) rfl rfl Tryd.func121 (by kernel_rfl) rfl #[.slice A1 l1.length c1, .slice A2 l2.length c2] rfl mp_ ?_; (with_reducible refine (bX.calls k _ _ l1 _ _ l2 xy _ ?az ?aA ?eH ?eO A4.out).mono ?_); (case az => exact cb_ (Kd.aK HR1.out HB.out)); (case aA => exact HC1.out); (case eH => exact cb_ (Kd.aK HR2.out HB.out)); (case eO => exact HC2.out); rintro e w9 ⟨v456, rfl, ho0, hb⟩; refine ⟨_, rfl, ?_⟩; have jm := aa.mk (Kd.bC ho0 (ax bl_)); replace nO := kb_ nO hb; replace HB := aa.mk (ai bl_ hb); (try clear hb); (try clear hb2); (try clear hk); (try clear hi); (try clear ho0); obtain ⟨Ao10, co10, eo10⟩ := Kd.bK jm.out; subst eo10) | ((with_reducible refine aD (f := 122) rfl ?_); refine aZ (some 20) rfl rfl Tryd.func122 (by kernel_rfl) rfl #[.slice A1 l1.length c1, .slice Ao10 xy.length co10] rfl mp_ ?_; (with_reducible refine (aQ.calls k _ _ l1 _ _ xy xz t459 t460 _ ?az ?aA ?eH ?eO A5.out).mono ?_); (case az => exact cb_ (Kd.aK HR1.out HB.out)); (case aA => exact HC1.out); (case eH => exact cb_ ((Kd.aY jm.out).2.2)); (case eO => exact (Kd.aY jm.out).2.1); rintro e w11 ⟨v461, v463, rfl, ho0, ho1, hb⟩; refine ⟨_, rfl, ?_⟩; have xh := aa.mk (Kd.bC (Kd.cz ho0 (Kd.dQ (pR_ jm.out))) (ax bl_)); have BS := aa.mk (Kd.bC (Kd.cz ho1 (Kd.dQ (pR_ jm.out))) (ax bl_)); replace jm := aa.mk (Kd.bG (Kd.jr (Kd.jr (Kd.yT (pR_ jm.out) hb) (Kd.cu ho0)) (Kd.cu ho1)) (fun _ h_ => h_.1)); replace nO := kb_ nO hb; replace HB := aa.mk (ai bl_ hb); (try clear hb); (try clear hb2); (try clear hk); (try clear hi); (try clear ho0); (try clear ho1)) | ((with_reducible refine aD (f := 122) rfl ?_); refine aZ (some 27) rfl rfl Tryd.func122 (by kernel_rfl) rfl #[.slice A2 l2.length c2, .slice Ao10 xy.length co10] rfl mp_ ?_; (with_reducible refine (aQ.calls k _ _ l2 _ _ xy t465 t466 t467 _ ?az ?aA ?eH ?eO A6.out).mono ?_); (case az => exact cb_ (Kd.aK HR2.out HB.out)); (case aA => exact HC2.out); (case eH => exact cb_ ((Kd.aY jm.out).2.2)); (case eO => exact (Kd.aY jm.out).2.1); rintro e w12 ⟨v468, v470, rfl, ho0, ho1, hb⟩; refine ⟨_, rfl, ?_⟩; have KW := aa.mk (Kd.bC (Kd.cz (Kd.cz (Kd.cz ho0 (Kd.dQ (pR_ jm.out))) (Kd.dQ (pR_ xh.out))) (Kd.dQ (pR_ BS.out))) (ax bl_)); have HO471 := aa.mk (Kd.bC (Kd.cz (Kd.cz (Kd.cz ho1 (Kd.dQ (pR_ jm.out))) (Kd.dQ (pR_ xh.out))) (Kd.dQ (pR_ BS.out))) (ax bl_)); replace jm := aa.mk (Kd.bG (Kd.jr (Kd.jr (Kd.yT (pR_ jm.out) hb) (Kd.cu ho0)) (Kd.cu ho1)) (fun _ h_ => h_.1)); replace xh := aa.mk (Kd.bG (Kd.jr (Kd.jr (Kd.yT (pR_ xh.out) hb) (Kd.cu ho0)) (Kd.cu ho1)) (fun _ h_ => h_.1)); replace BS := aa.mk (Kd.bG (Kd.jr (Kd.jr (Kd.yT (pR_ BS.out) hb) (Kd.cu ho0)) (Kd.cu ho1)) (fun _ h_ => h_.1)); replace nO := kb_ nO hb; replace HB := aa.mk (ai bl_ hb); (try clear hb); (try clear hb2); (try clear hk); (try clear hi); (try clear ho0); (try clear ho1); obtain ⟨BC, AB, eo13⟩ := Kd.bK xh.out; subst eo13; obtain ⟨Ao14, co14, eo14⟩ := Kd.bK KW.out; subst eo14; obtain ⟨nA, nC, nD, nE, nG, nH⟩ := lD nO.out))
  refine bodyPost_ret (results_cell_row rfl _ _ qB 104 #[.bool (decide (0 < xz.length)), .slice BC xz.length AB, .slice Ao14 t465.length co14] (0, 0) _ rfl b5_ Tryd.underlying104 rfl (by kernel_rfl)) rfl ?_
  exact ⟨_, _, re_, by (with_reducible repeat (first | apply Kd.bL | apply Kd.bM | apply Kd.bQ)); exact Kd.bG (Kd.bI (p := ⟨qB, 2, none⟩) (Kd.bI (p := ⟨qB, 1, none⟩) (Kd.bI (p := ⟨qB, 0, none⟩) (Kd.gB xh.out nO.out (by decide)) (fun _ hk => hk.2) (.bool (decide (0 < xz.length)))) (fun _ hk => hk.2) (.slice BC xz.length AB)) (fun _ hk => hk.2) (.slice Ao14 t465.length co14)) (fun _ hk => hk.1.1.2), by (with_reducible repeat (first | apply Kd.bL | apply Kd.bM | apply Kd.bQ)); exact Kd.bG (Kd.bI (p := ⟨qB, 2, none⟩) (Kd.bI (p := ⟨qB, 1, none⟩) (Kd.bI (p := ⟨qB, 0, none⟩) (Kd.gB KW.out nO.out (by decide)) (fun _ hk => hk.2) (.bool (decide (0 < xz.length)))) (fun _ hk => hk.2) (.slice BC xz.length AB)) (fun _ hk => hk.2) (.slice Ao14 t465.length co14)) (fun _ hk => hk.1.1.2), bl_⟩
 ·replace c7 := Bool.eq_false_iff.mpr c7; subst c7; have H1 : (some (false, xz, t465)) = some (r1, r2, r3) := by rw [if_neg (show ¬ (false = true) by decide)] at H; exact H
  clear H; have H := H1; clear H1; simp only [Option.some.injEq, Prod.mk.injEq] at H; obtain ⟨rfl, rfl, rfl⟩ := H; go_enter Tryd.func117, Tryd.ntmps117; go_wp2_with (first | ((with_reducible refine aW (N := 6) rfl ?_); (try (refine fT (by rfl) ?_; dsimp only)); refine bf ?hg (N := 6) ?hd (cs := #[.bool false, .slice none 0 0, .slice none 0 0]) (t := 104) ?hr ?_; (case hd => rfl); (case hg => rfl); (case hr => first | (go_simp; done) | (go_simp; rfl)); intro qB hg w16 aG hb; have nO := aa.mk (aG); have GW454 : aa (w.heap.size ≤ qB) := gw_ hg (ax bl_); have GE454 := GW454; replace HB := aa.mk (ai bl_ hb); clear hb aG hg) | ((with_reducible refine aD (f := 121) rfl ?_); refine aZ (some 16) rfl rfl Tryd.func121 (by kernel_rfl) rfl #[.slice A1 l1.length c1, .slice A2 l2.length c2] rfl mp_ ?_; (with_reducible refine (bX.calls k _ _ l1 _ _ l2 xy _ ?az ?aA ?eH ?eO A4.out).mono ?_); (case az => exact cb_ (Kd.aK HR1.out HB.out)); (case aA => exact HC1.out); (case eH => exact cb_ (Kd.aK HR2.out HB.out)); (case eO => exact HC2.out); rintro e w17 ⟨v456, rfl, ho0, hb⟩; refine ⟨_, rfl, ?_⟩; have jm := aa.mk (Kd.bC ho0 (ax bl_)); replace nO := kb_ nO hb; replace HB := aa.mk (ai bl_ hb); (try clear hb); (try clear hb2); (try clear hk); (try clear hi); (try clear ho0); obtain ⟨Ao18, co18, eo18⟩ := Kd.bK jm.out; subst eo18) | ((with_reducible refine aD (f := 122) rfl ?_); refine aZ (some 20) rfl rfl Tryd.func122 (by kernel_rfl) rfl #[.slice A1 l1.length c1, .slice Ao18 xy.length co18] rfl mp_ ?_; (with_reducible refine (aQ.calls k _ _ l1 _ _ xy xz t459 t460 _ ?az ?aA ?eH ?eO A5.out).mono ?_); (case az => exact cb_ (Kd.aK HR1.out HB.out)); (case aA => exact HC1.out); (case eH => exact cb_ ((Kd.aY jm.out).2.2)); (case eO => exact (Kd.aY jm.out).2.1); rintro e w19 ⟨v461, v463, rfl, ho0, ho1, hb⟩; refine ⟨_, rfl, ?_⟩; have xh := aa.mk (Kd.bC (Kd.cz ho0 (Kd.dQ (pR_ jm.out))) (ax bl_)); have BS := aa.mk (Kd.bC (Kd.cz ho1 (Kd.dQ (pR_ jm.out))) (ax bl_)); replace jm := aa.mk (Kd.bG (Kd.jr (Kd.jr (Kd.yT (pR_ jm.out) hb) (Kd.cu ho0)) (Kd.cu ho1)) (fun _ h_ => h_.1)); replace nO := kb_ nO hb; replace HB := aa.mk (ai bl_ hb); (try clear hb); (try clear hb2); (try clear hk); (try clear hi); (try clear ho0); (try clear ho1)) | ((with_reducible refine aD (f := 122) rfl ?_); refine aZ (some 27) rfl rfl Tryd.func122 (by kernel_rfl) rfl #[.slice A2 l2.length c2, .slice Ao18 xy.length co18] rfl mp_ ?_; (with_reducible refine (aQ.calls k _ _ l2 _ _ xy t465 t466 t467 _ ?az ?aA ?eH ?eO A6.out).mono ?_); (case az => exact cb_ (Kd.aK HR2.out HB.out)); (case aA => exact HC2.out); (case eH => exact cb_ ((Kd.aY jm.out).2.2)); (case eO => exact (Kd.aY jm.out).2.1); rintro e w20 ⟨v468, v470, rfl, ho0, ho1, hb⟩; refine ⟨_, rfl, ?_⟩; have KW := aa.mk (Kd.bC (Kd.cz (Kd.cz (Kd.cz ho0 (Kd.dQ (pR_ jm.out))) (Kd.dQ (pR_ xh.out))) (Kd.dQ (pR_ BS.out))) (ax bl_)); have HO471 := aa.mk (Kd.bC (Kd.cz (Kd.cz (Kd.cz ho1 (Kd.dQ (pR_ jm.out))) (Kd.dQ (pR_ xh.out))) (Kd.dQ (pR_ BS.out))) (ax bl_)); replace jm := aa.mk (Kd.bG (Kd.jr (Kd.jr (Kd.yT (pR_ jm.out) hb) (Kd.cu ho0)) (Kd.cu ho1)) (fun _ h_ => h_.1)); replace xh := aa.mk (Kd.bG (Kd.jr (Kd.jr (Kd.yT (pR_ xh.out) hb) (Kd.cu ho0)) (Kd.cu ho1)) (fun _ h_ => h_.1)); replace BS := aa.mk (Kd.bG (Kd.jr (Kd.jr (Kd.yT (pR_ BS.out) hb) (Kd.cu ho0)) (Kd.cu ho1)) (fun _ h_ => h_.1)); replace nO := kb_ nO hb; replace HB := aa.mk (ai bl_ hb); (try clear hb); (try clear hb2); (try clear hk); (try clear hi); (try clear ho0); (try clear ho1); obtain ⟨Ao21, co21, eo21⟩ := Kd.bK KW.out; subst eo21; obtain ⟨DR, DT, eo22⟩ := Kd.bK xh.out; subst eo22; obtain ⟨EN, EO, EP, ER, ES, ET⟩ := lD nO.out))
  refine bodyPost_ret (results_cell_row rfl _ _ qB 104 #[.bool false, .slice DR xz.length DT, .slice Ao21 t465.length co21] (0, 0) _ rfl b5_ Tryd.underlying104 rfl (by kernel_rfl)) rfl ?_
  exact ⟨_, _, re_, by (with_reducible repeat (first | apply Kd.bL | apply Kd.bM | apply Kd.bQ)); exact Kd.bG (Kd.bI (p := ⟨qB, 2, none⟩) (Kd.bI (p := ⟨qB, 1, none⟩) (Kd.bI (p := ⟨qB, 0, none⟩) (Kd.gB xh.out nO.out (by decide)) (fun _ hk => hk.2) (.bool false)) (fun _ hk => hk.2) (.slice DR xz.length DT)) (fun _ hk => hk.2) (.slice Ao21 t465.length co21)) (fun _ hk => hk.1.1.2), by (with_reducible repeat (first | apply Kd.bL | apply Kd.bM | apply Kd.bQ)); exact Kd.bG (Kd.bI (p := ⟨qB, 2, none⟩) (Kd.bI (p := ⟨qB, 1, none⟩) (Kd.bI (p := ⟨qB, 0, none⟩) (Kd.gB KW.out nO.out (by decide)) (fun _ hk => hk.2) (.bool false)) (fun _ hk => hk.2) (.slice DR xz.length DT)) (fun _ hk => hk.2) (.slice Ao21 t465.length co21)) (fun _ hk => hk.1.1.2), bl_⟩

end Go.Proofs.YtggelekooacmnaaDoor.Q
namespace Go.Proofs.YtggelekooacmnaaDoor.Q
open Go.RowKit Go.Proofs.YtggelekooacmnaaDoorW.aU Go.Proofs.YtggelekooacmnaaDoorW.bD Go.Proofs.YtggelekooacmnaaDoorW.bH
attribute [local go_sem] dB dC dN dO cO cZ dD dE   -- for this text's walks alone
set_option linter.unusedVariables false
set_option linter.unusedSimpArgs false

/-! ### eX: function 107 -/
def eX.f (k : Nat) (ah : Bool) (jw : List Int) (il : List Int) : Option (Bool × List Int × List Int) := (ay.f k il).bind fun t474 => (if (t474.length : Int) = 0 then (some (false, ([] : List Int), (([1] : List Int)))) else ((fw.f k ah jw il).bind fun Gp => (some (Gp.1, Gp.2.1, Gp.2.2))))
theorem eX.mono : ∀ a0 a1 a2 k, LeO (eX.f k a0 a1 a2) (eX.f (k + 1) a0 a1 a2) := by
 intro a0 a1 a2 k; unfold eX.f
 repeat' first
   | (with_reducible exact ay.mono _ _)
   | (with_reducible exact fw.mono _ _ _ _)
   | (with_reducible exact LeO.refl _)
   | (with_reducible exact LeO.none _)
   | (with_reducible refine LeO.ite ?_ ?_)
   | (with_reducible refine LeO.bind ?_ (fun _ => ?_))
   | exact ay.mono _ _
   | exact fw.mono _ _ _ _
   | exact LeO.none _
   | refine LeO.ite ?_ ?_
   | refine LeO.bind ?_ (fun _ => ?_)
set_option maxHeartbeats 8000000 in
set_option maxRecDepth 100000 in
theorem eX.calls (k : Nat) (ah : Bool) (xA : Option Addr) (xB : Nat) (jw : List Int) (uK : Option Addr) (uL : Nat) (il : List Int) (r1 : Bool) (r2 : List Int) (r3 : List Int) (w : World) (KX : Kd.C (Kd.int .u32) w xA jw.length jw) (KY : jw.length ≤ xB) (KZ : Kd.C (Kd.int .u32) w uK il.length il) (La : il.length ≤ uL) (h : eX.f k ah jw il = some (r1, r2, r3)) :
  Calls Tryd.prog 107 #[.agg #[.bool ah, .slice xA jw.length xB, .slice uK il.length uL]] w fun e w' => ∃ v1_ v2_ : Value, e = .returned (.agg #[.bool r1, v1_, v2_]) ∧ Kd.R (Kd.int .u32) 119 w' w.heap.size (fun k_ => some k_ ≠ (v2_ : Value).ownBlock) v1_ r2 ∧ Kd.R (Kd.int .u32) 119 w' w.heap.size (fun k_ => some k_ ≠ (v1_ : Value).ownBlock) v2_ r3 ∧ Below w.heap.size w w' := by
 have hu104 := Tryd.underlying104; have Je := aa.mk KX; have Jf := aa.mk KY; clear KX KY; have Em := aa.mk KZ; have En := aa.mk La; clear KZ La; have HB := aa.mk (Below.refl w.heap.size w); have H : ((ay.f k il).bind fun t474 => (if (t474.length : Int) = 0 then (some (false, ([] : List Int), (([1] : List Int)))) else ((fw.f k ah jw il).bind fun Gp => (some (Gp.1, Gp.2.1, Gp.2.2))))) = some (r1, r2, r3) := h; clear h; replace H := Option.bind_eq_some_iff.mp H; obtain ⟨t474, A20, H⟩ := H; (try dsimp only at H)
 have A2 := aa.mk A20; clear A20; by_cases c3 : (t474.length : Int) = 0
 ·rw [if_pos c3] at H; obtain ⟨gX, jH⟩ := bq_ c3; clear c3; obtain ⟨y477, Lb⟩ : ∃ y_ : List Int, y_ = (([1] : List Int)) := ⟨_, rfl⟩; replace H : (some (false, ([] : List Int), y477)) = some (r1, r2, r3) := by first | (rw [Lb]; with_reducible exact H) | (have H2_ := (Option.bind_some _ _).symm.trans H; rw [Lb]; with_reducible exact H2_) | (have H2_ := (Option.bind_some _ _).symm.trans H; with_reducible exact H2_) | with_reducible exact H | (rw [Lb]; exact H) | exact H
  have Ny477 := aa.mk Lb; clear Lb; simp only [Option.some.injEq, Prod.mk.injEq] at H; obtain ⟨rfl, rfl, rfl⟩ := H; go_enter Tryd.func107, Tryd.ntmps107; go_wp2_with (first | ((with_reducible refine aW (N := 1) rfl ?_); refine bf ?hg (N := 1) ?hd (cs := #[.bool ah, .slice xA jw.length xB, .slice uK il.length uL]) (t := 104) ?hr ?_; (case hd => rfl); (case hg => rfl); (case hr => first | (go_simp; done) | (go_simp; rfl)); intro gb472 hg w4 aG hb; have nI := aa.mk (aG); have GW472 : aa (w.heap.size ≤ gb472) := gw_ hg (ax bl_); have GE472 := GW472; replace HB := aa.mk (ai bl_ hb); clear hb aG hg) | ((with_reducible refine aW (N := 2) rfl ?_); refine bf ?hg (N := 2) ?hd (cs := #[.bool false, .slice none 0 0, .slice none 0 0]) (t := 104) ?hr ?_; (case hd => rfl); (case hg => rfl); (case hr => first | (go_simp; done) | (go_simp; rfl)); intro uQ hg w5 aG hb; have uR := aa.mk (aG); have GW473 : aa (w.heap.size ≤ uQ) := gw_ hg (ax bl_); have GE473 := GW473; have GR := nl_ nI hg; have GU := ng_ nI hg; replace nI := kb_ nI hb; replace HB := aa.mk (ai bl_ hb); clear hb aG hg; have hnb6 := GR.out; have hnc6 := GU.out; obtain ⟨yV, yX, yY, yZ, za, zb⟩ := lD nI.out) | ((with_reducible refine aD (f := 116) rfl ?_); refine aZ (some 5) rfl rfl Tryd.func116 (by kernel_rfl) rfl #[.slice uK il.length uL] rfl mp_ ?_; (with_reducible refine (ay.calls k _ _ il t474 _ ?az ?aA A2.out).mono ?_); (case az => exact cb_ (Kd.aK Em.out HB.out)); (case aA => exact En.out); rintro e w8 ⟨v475, rfl, ho0, hb⟩; refine ⟨_, rfl, ?_⟩; have Bo := aa.mk (Kd.bC ho0 (ax bl_)); replace nI := kb_ nI hb; replace uR := kb_ uR hb; replace HB := aa.mk (ai bl_ hb); (try clear hb); (try clear hb2); (try clear hk); (try clear hi); (try clear ho0); obtain ⟨Ao9, co9, eo9⟩ := Kd.bK Bo.out; subst eo9) | ((with_reducible refine aW (N := 8) rfl ?_); refine Kd.mi (Kd.int .u32) _ 119 ?hg (N := 8) ?hd (xs := ([1] : List Int)) (inner := [.int .u32 1]) (ok := fun _ => True) (okp := fun _ => True) ?hr ?hp (fun _ hk => hk) trivial (Below.refl _ _) (Nat.le_refl _) (by simp) ?_; (case hd => rfl); (case hg => rfl); (case hr => first | (go_simp; done) | (go_simp; rfl)); (case hp => exact (dA.one (show Kd.M (Kd.int .u32) _ _ _ 1 [.int .u32 1] from rfl) (dA.none _ _))); intro v478 w10 Bz hb hg_ fZ; clear hg_ fZ; (first | rw [← Ny477.out] at Bz | (simp only [Int.reduceToNat] at Bz; rw [← Ny477.out] at Bz)); have HO479 := aa.mk (Kd.bC (Kd.cz Bz (Kd.dQ (pR_ Bo.out))) (ax bl_)); replace Bo := aa.mk (Kd.cB (pR_ Bo.out) (Kd.cu Bz) hb); replace nI := kb_ nI hb; replace uR := kb_ uR hb; replace HB := aa.mk (ai bl_ hb); clear hb Bz; obtain ⟨Ao12, BA, eo12⟩ := Kd.bK HO479.out; subst eo12; obtain ⟨nU, nV, nW, nX, nY, nZ⟩ := lD uR.out))
  refine bodyPost_ret (results_cell_row rfl _ _ uQ 104 #[.bool false, .slice none 0 0, .slice Ao12 y477.length BA] (0, 0) _ rfl b5_ Tryd.underlying104 rfl (by kernel_rfl)) rfl ?_
  exact ⟨_, _, re_, by first | exact Kd.mh _ _ _ _ _ | exact Kd.yS _ _ _ _ _ | exact Kd.yU _ _ _ _ _ | exact Kd.yQ _ _ _ _ _ | exact Kd.yR _ _ _ _ _, by (with_reducible repeat (first | apply Kd.bL | apply Kd.bM | apply Kd.bQ)); exact Kd.bG (Kd.bI (p := ⟨uQ, 2, none⟩) (Kd.bI (p := ⟨uQ, 1, none⟩) (Kd.bI (p := ⟨uQ, 0, none⟩) (Kd.gB HO479.out uR.out (by decide)) (fun _ hk => hk.2) (.bool false)) (fun _ hk => hk.2) (.slice none 0 0)) (fun _ hk => hk.2) (.slice Ao12 y477.length BA)) (fun _ hk => (by simp [Value.ownBlock])), bl_⟩
 ·rw [if_neg c3] at H; obtain ⟨gX, jH⟩ := bn_ c3; have c3b2 : ¬ (t474 = []) := fun h_ => c3 (by rw [h_]; rfl)
  replace H := Option.bind_eq_some_iff.mp H; obtain ⟨⟨t480, t481, t484⟩, A140, H⟩ := H; (try dsimp only at H)
  have A14 := aa.mk A140; clear A140; simp only [Option.some.injEq, Prod.mk.injEq] at H; obtain ⟨rfl, rfl, rfl⟩ := H; go_enter Tryd.func107, Tryd.ntmps107; go_wp2_with (first | ((with_reducible refine aW (N := 1) rfl ?_); refine bf ?hg (N := 1) ?hd (cs := #[.bool ah, .slice xA jw.length xB, .slice uK il.length uL]) (t := 104) ?hr ?_; (case hd => rfl); (case hg => rfl); (case hr => first | (go_simp; done) | (go_simp; rfl)); intro gb472 hg w15 aG hb; have nI := aa.mk (aG); have GW472 : aa (w.heap.size ≤ gb472) := gw_ hg (ax bl_); have GE472 := GW472; replace HB := aa.mk (ai bl_ hb); clear hb aG hg) | ((with_reducible refine aW (N := 2) rfl ?_); refine bf ?hg (N := 2) ?hd (cs := #[.bool false, .slice none 0 0, .slice none 0 0]) (t := 104) ?hr ?_; (case hd => rfl); (case hg => rfl); (case hr => first | (go_simp; done) | (go_simp; rfl)); intro uQ hg w16 aG hb; have uR := aa.mk (aG); have GW473 : aa (w.heap.size ≤ uQ) := gw_ hg (ax bl_); have GE473 := GW473; have GR := nl_ nI hg; have GU := ng_ nI hg; replace nI := kb_ nI hb; replace HB := aa.mk (ai bl_ hb); clear hb aG hg; have hnb17 := GR.out; have hnc17 := GU.out; obtain ⟨mq, mr, mD, mE, mF, mG⟩ := lD nI.out) | ((with_reducible refine aD (f := 116) rfl ?_); refine aZ (some 5) rfl rfl Tryd.func116 (by kernel_rfl) rfl #[.slice uK il.length uL] rfl mp_ ?_; (with_reducible refine (ay.calls k _ _ il t474 _ ?az ?aA A2.out).mono ?_); (case az => exact cb_ (Kd.aK Em.out HB.out)); (case aA => exact En.out); rintro e w19 ⟨v475, rfl, ho0, hb⟩; refine ⟨_, rfl, ?_⟩; have Bo := aa.mk (Kd.bC ho0 (ax bl_)); replace nI := kb_ nI hb; replace uR := kb_ uR hb; replace HB := aa.mk (ai bl_ hb); (try clear hb); (try clear hb2); (try clear hk); (try clear hi); (try clear ho0); obtain ⟨Ao20, co20, eo20⟩ := Kd.bK Bo.out; subst eo20; obtain ⟨kI, kJ, kK, kL, kM, kN⟩ := lD nI.out) | ((with_reducible refine aD (f := 117) rfl ?_); refine aZ (some 16) rfl rfl Tryd.func117 (by kernel_rfl) rfl #[.bool ah, .slice xA jw.length xB, .slice uK il.length uL] rfl mp_ ?_; (with_reducible refine (fw.calls k ah _ _ jw _ _ il t480 t481 t484 _ ?az ?aA ?eH ?eO A14.out).mono ?_); (case az => exact cb_ (Kd.aK Je.out HB.out)); (case aA => exact Jf.out); (case eH => exact cb_ (Kd.aK Em.out HB.out)); (case eO => exact En.out); rintro e w22 ⟨v482, v485, rfl, ho0, ho1, hb⟩; refine ⟨_, rfl, ?_⟩; have HO483 := aa.mk (Kd.bC (Kd.cz ho0 (Kd.dQ (pR_ Bo.out))) (ax bl_)); have HO486 := aa.mk (Kd.bC (Kd.cz ho1 (Kd.dQ (pR_ Bo.out))) (ax bl_)); replace Bo := aa.mk (Kd.bG (Kd.jr (Kd.jr (Kd.yT (pR_ Bo.out) hb) (Kd.cu ho0)) (Kd.cu ho1)) (fun _ h_ => h_.1)); replace nI := kb_ nI hb; replace uR := kb_ uR hb; replace HB := aa.mk (ai bl_ hb); (try clear hb); (try clear hb2); (try clear hk); (try clear hi); (try clear ho0); (try clear ho1); obtain ⟨EN, EO, EP, ER, ES, ET⟩ := lD uR.out; obtain ⟨r9, oN, Am⟩ := Kd.bK HO483.out; subst Am; obtain ⟨Ao25, co25, eo25⟩ := Kd.bK HO486.out; subst eo25))
  refine bodyPost_ret (results_cell_row rfl _ _ uQ 104 #[.bool t480, .slice r9 t481.length oN, .slice Ao25 t484.length co25] (0, 0) _ rfl b5_ Tryd.underlying104 rfl (by kernel_rfl)) rfl ?_
  exact ⟨_, _, re_, by (with_reducible repeat (first | apply Kd.bL | apply Kd.bM | apply Kd.bQ)); exact Kd.bG (Kd.bI (p := ⟨uQ, 2, none⟩) (Kd.bI (p := ⟨uQ, 1, none⟩) (Kd.bI (p := ⟨uQ, 0, none⟩) (Kd.gB HO483.out uR.out (by decide)) (fun _ hk => hk.2) (.bool t480)) (fun _ hk => hk.2) (.slice r9 t481.length oN)) (fun _ hk => hk.2) (.slice Ao25 t484.length co25)) (fun _ hk => hk.1.1), by (with_reducible repeat (first | apply Kd.bL | apply Kd.bM | apply Kd.bQ)); exact Kd.bG (Kd.bI (p := ⟨uQ, 2, none⟩) (Kd.bI (p := ⟨uQ, 1, none⟩) (Kd.bI (p := ⟨uQ, 0, none⟩) (Kd.gB HO486.out uR.out (by decide)) (fun _ hk => hk.2) (.bool t480)) (fun _ hk => hk.2) (.slice r9 t481.length oN)) (fun _ hk => hk.2) (.slice Ao25 t484.length co25)) (fun _ hk => hk.1.1), bl_⟩

end Go.Proofs.YtggelekooacmnaaDoor.Q
namespace Go.Proofs.YtggelekooacmnaaDoor.Q
open Go.RowKit Go.Proofs.YtggelekooacmnaaDoorW.aU Go.Proofs.YtggelekooacmnaaDoorW.bD Go.Proofs.YtggelekooacmnaaDoorW.bH
attribute [local go_sem] dB dC dN dO cO cZ dD dE   -- for this text's walks alone
set_option linter.unusedVariables false
set_option linter.unusedSimpArgs false

/-! ### aI: function 108 -/
mutual
def aI.l0 : Nat → List Int → List Int → Option (ByteArray)
 | 0, _, _ => none
 | k + 1, x0, x3 => if (x0.length : Int) > 0 then ((bA.f k x0 10).bind fun bt490 => (if x3.length < 140737488355328 then (aI.l0 k bt490.1 (x3 ++ [((48 + bt490.2) % 4294967296) % 256])) else (none))) else (aI.l1 k x3 0 (wrap64 ((x3.length : Int) - 1)))
def aI.l1 : Nat → List Int → Int → Int → Option (ByteArray)
 | 0, _, _, _ => none
 | k + 1, x3, x6, x7 => if x6 < x7 then (if 0 ≤ x7 then (if x7 < (x3.length : Int) then (if 0 ≤ x6 then (if x6 < (x3.length : Int) then (aI.l1 k ((x3.set (x6 : Int).toNat (rd x3 x7)).set (x7 : Int).toNat (rd x3 x6)) (wrap64 (x6 + 1)) (wrap64 (x7 - 1))) else (none)) else (none)) else (none)) else (none)) else (some (strOfNums x3))
end
def aI.f (k : Nat) (l0 : List Int) : Option (ByteArray) := (ay.f k l0).bind fun DU => (if (DU.length : Int) = 0 then (some (⟨#[48]⟩ : ByteArray)) else (aI.l0 k DU ([] : List Int)))
theorem aI.fA : ∀ k, (∀ y0 y1, LeO (aI.l0 k y0 y1) (aI.l0 (k + 1) y0 y1)) ∧ (∀ y0 y1 y2, LeO (aI.l1 k y0 y1 y2) (aI.l1 (k + 1) y0 y1 y2))
 | 0 => ⟨fun _ _ r h => by simp [aI.l0] at h, fun _ _ _ r h => by simp [aI.l1] at h⟩
 | k + 1 => by
  obtain ⟨ih0, ih1⟩ := aI.fA k; refine ⟨?_, ?_⟩
  ·intro y0 y1; unfold aI.l0; repeat' first
   | (with_reducible exact ih0 _ _)
   | (with_reducible exact ih1 _ _ _)
   | (with_reducible exact ay.mono _ _)
   | (with_reducible exact bA.mono _ _ _)
   | (with_reducible exact LeO.refl _)
   | (with_reducible exact LeO.none _)
   | (with_reducible refine LeO.ite ?_ ?_)
   | (with_reducible refine LeO.bind ?_ (fun _ => ?_))
   | exact ih0 _ _
   | exact ih1 _ _ _
   | exact ay.mono _ _
   | exact bA.mono _ _ _
   | exact LeO.none _
   | refine LeO.ite ?_ ?_
   | refine LeO.bind ?_ (fun _ => ?_)
  ·intro y0 y1 y2; unfold aI.l1; repeat' first
   | (with_reducible exact ih0 _ _)
   | (with_reducible exact ih1 _ _ _)
   | (with_reducible exact ay.mono _ _)
   | (with_reducible exact bA.mono _ _ _)
   | (with_reducible exact LeO.refl _)
   | (with_reducible exact LeO.none _)
   | (with_reducible refine LeO.ite ?_ ?_)
   | (with_reducible refine LeO.bind ?_ (fun _ => ?_))
   | exact ih0 _ _
   | exact ih1 _ _ _
   | exact ay.mono _ _
   | exact bA.mono _ _ _
   | exact LeO.none _
   | refine LeO.ite ?_ ?_
   | refine LeO.bind ?_ (fun _ => ?_)
theorem aI.mono : ∀ a0 k, LeO (aI.f k a0) (aI.f (k + 1) a0) := by
 intro a0 k; obtain ⟨ih0, ih1⟩ := aI.fA k; unfold aI.f
 repeat' first
   | (with_reducible exact ih0 _ _)
   | (with_reducible exact ih1 _ _ _)
   | (with_reducible exact ay.mono _ _)
   | (with_reducible exact bA.mono _ _ _)
   | (with_reducible exact LeO.refl _)
   | (with_reducible exact LeO.none _)
   | (with_reducible refine LeO.ite ?_ ?_)
   | (with_reducible refine LeO.bind ?_ (fun _ => ?_))
   | exact ih0 _ _
   | exact ih1 _ _ _
   | exact ay.mono _ _
   | exact bA.mono _ _ _
   | exact LeO.none _
   | refine LeO.ite ?_ ?_
   | refine LeO.bind ?_ (fun _ => ?_)
def aI.T12 : Bool × List (List Nat × List Nat) := (true, [([], []), ([], []), ([], []), ([], []), ([], []), ([], []), ([4, 5], [4, 5]), ([6], [6]), ([], []), ([], []), ([8, 9], [8, 9]), ([10], [10]), ([0, 1, 0, 1, 4, 5, 6, 7, 11], [0, 1]), ([12, 7, 0, 1, 4, 5, 6, 7, 11], [7, 12]), ([2, 3, 0, 1, 2, 3, 4, 5, 6, 7, 8, 9, 10, 11, 12, 13], [2, 3]), ([14, 11, 13, 0, 1, 2, 3, 4, 5, 6, 7, 8, 9, 10, 11, 12, 13], [11, 14])])
def aI.B12 : List Nat := [0, 0, 0, 0, 0, 0, 48, 112, 0, 0, 768, 1792, 4083, 8179, 16383, 32767]
theorem aI.tab12 : jG .any (opsOf Tryd.f108 12) = aI.T12 := by kernel_rfl
theorem aI.bits12 : mo aI.T12.2 aI.B12 = true := by kernel_rfl
set_option maxHeartbeats 8000000 in
set_option maxRecDepth 100000 in
theorem aI.calls (k : Nat) (A0 : Option Addr) (c0 : Nat) (l0 : List Int) (r : ByteArray) (w : World) (hr0 : Kd.C (Kd.int .u32) w A0 l0.length l0) (hc0 : l0.length ≤ c0) (h : aI.f k l0 = some r) :
  Calls Tryd.prog 108 #[.slice A0 l0.length c0] w fun e w' => e = .returned (.string r) ∧ Below w.heap.size w w' := by
 have HR0 := aa.mk hr0; have HC0 := aa.mk hc0; clear hr0 hc0; have HB := aa.mk (Below.refl w.heap.size w); have H : ((ay.f k l0).bind fun DU => (if (DU.length : Int) = 0 then (some (⟨#[48]⟩ : ByteArray)) else (aI.l0 k DU ([] : List Int)))) = some r := h; clear h; replace H := Option.bind_eq_some_iff.mp H; obtain ⟨DU, A20, H⟩ := H; (try dsimp only at H)
 have A2 := aa.mk A20; clear A20; by_cases c3 : (DU.length : Int) = 0
 ·rw [if_pos c3] at H; obtain ⟨gX, jH⟩ := bq_ c3; clear c3; obtain rfl := Option.some.inj H; go_enter Tryd.func108, Tryd.ntmps108; go_wp2_with (first | ((with_reducible refine aD (f := 116) rfl ?_); refine aZ (some 9) rfl rfl Tryd.func116 (by kernel_rfl) rfl #[.slice A0 l0.length c0] rfl mp_ ?_; (with_reducible refine (ay.calls k _ _ l0 DU _ ?az ?aA A2.out).mono ?_); (case az => exact cb_ (HR0.out)); (case aA => exact HC0.out); rintro e w4 ⟨v488, rfl, ho0, hb⟩; refine ⟨_, rfl, ?_⟩; have HO489 := aa.mk (Kd.bC ho0 (ax bl_)); replace HB := aa.mk (ai bl_ hb); (try clear hb); (try clear hb2); (try clear hk); (try clear hi); (try clear ho0); obtain ⟨Ao5, co5, eo5⟩ := Kd.bK HO489.out; subst eo5))
  go_ret; exact ⟨re_, bl_⟩
 ·rw [if_neg c3] at H; obtain ⟨gX, jH⟩ := bn_ c3; have c3b2 : ¬ (DU = []) := fun h_ => c3 (by rw [h_]; rfl)
  have H' := aa.mk H; clear H; go_enter Tryd.func108, Tryd.ntmps108; go_wp2_with (first | ((with_reducible refine aD (f := 116) rfl ?_); refine aZ (some 9) rfl rfl Tryd.func116 (by kernel_rfl) rfl #[.slice A0 l0.length c0] rfl mp_ ?_; (with_reducible refine (ay.calls k _ _ l0 DU _ ?az ?aA A2.out).mono ?_); (case az => exact cb_ (HR0.out)); (case aA => exact HC0.out); rintro e w6 ⟨v488, rfl, ho0, hb⟩; refine ⟨_, rfl, ?_⟩; have HO489 := aa.mk (Kd.bC ho0 (ax bl_)); replace HB := aa.mk (ai bl_ hb); (try clear hb); (try clear hb2); (try clear hk); (try clear hi); (try clear ho0); obtain ⟨Ao7, co7, eo7⟩ := Kd.bK HO489.out; subst eo7))
  go_loopg [0, 3] k (fun kq v0 v3 w' => ∃ (xx : List Int) (dL : List Int), aa (aI.l0 kq xx dL = some r) ∧ aa (kq ≤ k) ∧ aa (Kd.R (Kd.int .u32) 119 w' w.heap.size (fun _ => True) v0 xx) ∧ aa (Kd.R (Kd.int .u8) 5 w' w.heap.size (fun _ => True) v3 dL) ∧ aa (Below w.heap.size w w'))
  case atStart => exact ⟨(DU), (([] : List Int)), H', ⟨Nat.le_refl _⟩, ⟨pR_ HO489.out⟩, ⟨by first | exact Kd.mh _ _ _ _ _ | exact Kd.yS _ _ _ _ _ | exact Kd.yU _ _ _ _ _ | exact Kd.yQ _ _ _ _ _ | exact Kd.yR _ _ _ _ _⟩, ⟨bl_⟩⟩
  case round =>
   clear H'; (try clear c1); (try clear p2); (try clear c3); (try clear gX); (try clear jH); (try clear c3b2); obtain ⟨xx, dL, HA, HK1, gW, gV, HB⟩ := hrel; cases gk with
   | zero => exact absurd HA.out (by simp [aI.l0])
   | succ k1 =>
    have H := HA.out; clear HA; simp only [aI.l0] at H; by_cases c8 : (xx.length : Int) > 0
    ·rw [if_pos c8] at H; have gH : decide (0 < (xx.length : Int)) = true := decide_eq_true c8; have jv : decide (0 < xx.length) = true := decide_eq_true (by omega); clear c8; replace H := Option.bind_eq_some_iff.mp H; obtain ⟨⟨t490, t491⟩, A90, H⟩ := H; (try dsimp only at H)
     have A9 := aa.mk A90; clear A90; by_cases c10 : dL.length < 140737488355328
     ·rw [if_pos c10] at H; have LMc10 := aa.mk c10; clear c10; obtain ⟨y494, Jg⟩ : ∃ y_ : List Int, y_ = (dL ++ [((48 + t491) % 4294967296) % 256]) := ⟨_, rfl⟩; replace H : (aI.l0 k1 t490 y494) = some r := by first | (rw [Jg]; with_reducible exact H) | (have H2_ := (Option.bind_some _ _).symm.trans H; rw [Jg]; with_reducible exact H2_) | (have H2_ := (Option.bind_some _ _).symm.trans H; with_reducible exact H2_) | with_reducible exact H | (rw [Jg]; exact H) | exact H
      rw [Int.emod_emod_of_dvd _ (by decide : (256 : Int) ∣ 4294967296)] at Jg; have Ny494 := aa.mk Jg; clear Jg; have H' := aa.mk H; clear H; obtain ⟨Ao11, co11, eo11⟩ := Kd.bK gW.out; subst eo11; go_wp2_with (first | ((with_reducible refine aD (f := 118) rfl ?_); refine aZ (some 18) rfl rfl Tryd.func118 (by kernel_rfl) rfl #[.slice Ao11 xx.length co11, .int .u32 10] rfl mp_ ?_; (with_reducible refine (bA.calls k1 _ _ xx 10 t490 t491 _ ?az ?aA A9.out).mono ?_); (case az => exact cb_ ((Kd.aY gW.out).2.2)); (case aA => exact (Kd.aY gW.out).2.1); rintro e w12 ⟨v492, rfl, ho0, hb⟩; refine ⟨_, rfl, ?_⟩; have HO493 := aa.mk (Kd.bC (Kd.cz ho0 (Kd.dQ (pR_ gW.out))) (ax bl_)); replace gW := aa.mk (Kd.cB (pR_ gW.out) (Kd.cu ho0) hb); replace gV := aa.mk (Kd.dM (pR_ gV.out) hb); replace HB := aa.mk (ai bl_ hb); (try clear hb); (try clear hb2); (try clear hk); (try clear hi); (try clear ho0)) | ((with_reducible refine mf (b := .append) (xs := #[.tmp 21, .tmp 25]) rfl ?_); at_builtin; refine Kd.Om (Kd.int .u8) (w0 := w) w.heap.size rfl (.tmp 21) (.tmp 25) 89 5 (.int .u8 0) 1 rfl Tryd.underlying89 info5 rfl (by decide) (by omega) u3 dL ((48 + t491) % 256) [.int .u8 ((48 + t491) % 256)] (fun _ => True) (fun _ => False) rfl rfl ?aP (fun _ hk => hk.elim) ?aF ?aO ?aB ?aS ?aL ?_; (case aP => exact rfl); (case aB => exact bl_); (case aF => exact (fun _ _ => trivial)); (case aO => exact (pR_ gV.out)); (case aS => exact (ax bl_)); (case aL => have := LMc10.out; omega); intro v495 w13 ho hb hg hat; rw [← Ny494.out] at ho; have HO496 := aa.mk (ho); replace gW := aa.mk (Kd.O3 (pR_ gW.out) (Kd.O1 (pR_ gV.out)) (by decide) hg); replace HO493 := aa.mk (Kd.O3 (pR_ HO493.out) (Kd.O1 (pR_ gV.out)) (by decide) hg); replace HB := aa.mk (hb); clear gV; clear ho hb hg hat))
      go_roundg k1
      case measure => have := HK1.out; omega
      case rel => exact ⟨(t490), (y494), H', ⟨by have := HK1.out; omega⟩, ⟨by (with_reducible repeat (first | apply Kd.bL | apply Kd.bM | apply Kd.bQ)); exact Kd.bG HO493.out (fun _ hk => trivial)⟩, ⟨pR_ HO496.out⟩, ⟨bl_⟩⟩
     ·rw [if_neg c10] at H; exact absurd H (by simp)
    ·rw [if_neg c8] at H; have gH : decide (0 < (xx.length : Int)) = false := decide_eq_false c8; have jv : decide (0 < xx.length) = false := decide_eq_false (by omega); clear c8; have H' := aa.mk H; clear H; obtain ⟨Ao14, co14, eo14⟩ := Kd.bK gW.out; subst eo14; obtain ⟨Ao15, co15, eo15⟩ := Kd.bK gV.out; subst eo15; go_wp2; go_loopg [6, 7] k1 (fun kq v6 v7 w' => ∃ (nL : List Int) (gT : Int) (oQ : Int), v6 = .int .i64 gT ∧ v7 = .int .i64 oQ ∧ aa (aI.l1 kq nL gT oQ = some r) ∧ aa (kq ≤ k1) ∧ aa (Kd.R (Kd.int .u8) 5 w' w.heap.size (fun _ => True) (.slice Ao15 dL.length co15) nL) ∧ aa (Below w.heap.size w w'))
     case atStart => exact ⟨(dL), (0), (wrap64 ((dL.length : Int) - 1)), rs_, rs_, H', ⟨Nat.le_refl _⟩, ⟨pR_ gV.out⟩, ⟨bl_⟩⟩
     case round =>
      clear H'; (try clear c1); (try clear p2); (try clear c3); (try clear gX); (try clear jH); (try clear c3b2); (try clear p6); (try clear c8); (try clear gH); (try clear jv); (try clear c10); (try clear c11); (try clear p2); obtain ⟨nL, gT, oQ, rfl, rfl, HA, HK2, gV, HB⟩ := hrel; have hl3_2 := (Kd.aY gV.out).1; rw [hl3_2] at gV; (try simp only [hl3_2])
      cases gk with
      | zero => exact absurd HA.out (by simp [aI.l1])
      | succ k2 =>
       have H := HA.out; clear HA; simp only [aI.l1] at H; by_cases c16 : gT < oQ
       ·rw [if_pos c16] at H; have BJ := decide_eq_true c16; clear c16; by_cases c17 : 0 ≤ oQ
        ·rw [if_pos c17] at H; have l8 := decide_eq_true c17; clear c17; by_cases c18 : oQ < (nL.length : Int)
         ·rw [if_pos c18] at H; have qH := decide_eq_true c18; clear c18; by_cases c19 : 0 ≤ gT
          ·rw [if_pos c19] at H; have IL := decide_eq_true c19; clear c19; by_cases c20 : gT < (nL.length : Int)
           ·rw [if_pos c20] at H; have qJ := decide_eq_true c20; clear c20; obtain ⟨y499, Lc⟩ : ∃ y_ : List Int, y_ = (nL.set (gT : Int).toNat (rd nL oQ)) := ⟨_, rfl⟩; replace H : (aI.l1 k2 (y499.set (oQ : Int).toNat (rd nL gT)) (wrap64 (gT + 1)) (wrap64 (oQ - 1))) = some r := by first | (rw [Lc]; with_reducible exact H) | (have H2_ := (Option.bind_some _ _).symm.trans H; rw [Lc]; with_reducible exact H2_) | (have H2_ := (Option.bind_some _ _).symm.trans H; with_reducible exact H2_) | with_reducible exact H | (rw [Lc]; exact H) | exact H
            have Ny499 := aa.mk Lc; clear Lc; obtain ⟨y500, Ld⟩ : ∃ y_ : List Int, y_ = (y499.set (oQ : Int).toNat (rd nL gT)) := ⟨_, rfl⟩; replace H : (aI.l1 k2 y500 (wrap64 (gT + 1)) (wrap64 (oQ - 1))) = some r := by first | (rw [Ld]; with_reducible exact H) | (have H2_ := (Option.bind_some _ _).symm.trans H; rw [Ld]; with_reducible exact H2_) | (have H2_ := (Option.bind_some _ _).symm.trans H; with_reducible exact H2_) | with_reducible exact H | (rw [Ld]; exact H) | exact H
            have Ny500 := aa.mk Ld; clear Ld; have H' := aa.mk H; clear H; try go_wp2
            replace gV := aa.mk (Kd.bQ gV.out); replace HB := aa.mk (bR HB.out); have p497 : 0 ≤ (oQ : Int) := dt_; have q497 : oQ < (nL.length : Int) := dt_; obtain ⟨ad497, e497, NM⟩ := Kd.jq (Kd.aY gV.out).2.2 oQ p497 q497; cases e497; replace p497 := eq_true p497; replace q497 := eq_true q497; have p498 : 0 ≤ (gT : Int) := dt_; have q498 : gT < (nL.length : Int) := dt_; obtain ⟨ad498, e498, NN⟩ := Kd.jq (Kd.aY gV.out).2.2 gT p498 q498; obtain rfl : ad497 = ad498 := (by injection e498); replace p498 := eq_true p498; replace q498 := eq_true q498; have p21 : 0 ≤ (gT : Int) := dt_; have q21 : (gT : Int) < ((nL.length : Int) : Int) := dt_; obtain ⟨go21, co21, eo21, gb21, gl21, cl21, HG21⟩ := Kd.CX gV.out (by omega); (first | cases eo21 | (injection eo21 with ea_ en_ ec_; (first | subst ea_ | (injection ea_ with ea_; subst ea_)); subst ec_; clear en_))
            have GB21 := aa.mk gb21; have GG21 := aa.mk HG21; clear gb21 gl21 HG21; (first | simp only [add_plain] at NM | skip)
            (first | simp only [add_plain] at NN | skip)
            obtain ⟨hx21_0, hf21_0⟩ := Kd.vC 0 gV.out (gT : Int) p21 q21; replace p21 := eq_true p21; replace q21 := eq_true q21; have HP24 := Kd.R_putn gV.out (gT : Int) (rd nL oQ); rw [← Ny499.out] at HP24; have HQ24 := aa.mk HP24; clear HP24; have p22 : 0 ≤ (oQ : Int) := dt_; have q22 : (oQ : Int) < ((nL.length : Int) : Int) := dt_; obtain ⟨hx22_0, hf22_0⟩ := Kd.vC 0 HQ24.out (oQ : Int) p22 q22; replace p22 := eq_true p22; replace q22 := eq_true q22; have HP25 := Kd.R_putn HQ24.out (oQ : Int) (rd nL gT); rw [← Ny500.out] at HP25; have HQ25 := aa.mk HP25; clear HP25; refine oG (n := 16) (S := fun w' => w'.cell? ⟨go21, (oQ).toNat, none⟩ = some (.int .u8 (rd nL oQ)) ∧ w'.cell? ⟨go21, (gT).toNat, none⟩ = some (.int .u8 (rd nL gT))) (ds := [13, 15]) #[false, false, false, false, false, false, false, false, false, false, false, false, false, false, false, false] (by kernel_rfl) rfl rfl ⟨NM, NN⟩ (fun hHeld => ?_); refine iV aI.tab12 aI.bits12 (fun HT_ HW_ => ?_)
            generalize wr.drew = w23 at gV HB GG21 HQ24 HQ25 hf21_0 hf22_0 hx21_0 hx22_0 NM NN hHeld ⊢
            refine pu_ HT_ 0 38 (bm 16 1) ?_
            refine pu_ HT_ 1 39 (bm 16 3) ?_
            refine pu_ HT_ 2 40 (bm 16 7) ?_
            refine pu_ HT_ 3 41 (bm 16 15) ?_
            refine pu_ HT_ 4 42 (bm 16 31) ?_
            refine pu_ HT_ 5 43 (bm 16 63) ?_
            refine pu_ HT_ 6 44 (bm 16 127) ?_
            refine pu_ HT_ 8 46 (bm 16 383) ?_
            refine pu_ HT_ 9 47 (bm 16 895) ?_
            refine pu_ HT_ 10 48 (bm 16 1919) ?_
            refine ta_ HT_ HW_ 7 45 (bm 16 2047) hHeld ?_
            refine ta_ HT_ HW_ 11 49 (bm 16 4095) hHeld ?_
            refine pu_ HT_ 12 50 (bm 16 8191) ?_
            refine last_ (i := 13) (N := none) #[true, true, true, true, true, true, true, true, true, true, true, true, true, true, false, false] rfl rfl (gK HT_.out (by kernel_rfl)) (by decide) (fun K hK => ?_)
            refine skip_ (w1 := ?_) (by rfl) rfl ?_ ?_
            rotate_left
            ·go_simp; rfl
            refine hK.out _ _ ?_
            clear hK K; refine pu_ HT_ 14 51 (bm 16 32767) ?_
            refine last_ (i := 15) (N := none) #[true, true, true, true, true, true, true, true, true, true, true, true, true, true, true, true] rfl rfl (gK HT_.out (by kernel_rfl)) (by decide) (fun K hK => ?_)
            refine skip_ (w1 := ?_) (by rfl) rfl ?_ ?_
            rotate_left
            ·go_simp; rfl
            refine hK.out _ _ ?_
            clear hK K; refine sS (lC HT_.out (by kernel_rfl)) ?_
            try go_wp2
            (try simp only [← hl3_2])
            go_roundg k2
            case measure => have := HK1.out; have := HK2.out; omega
            case rel => exact ⟨(y500), (wrap64 (gT + 1)), (wrap64 (oQ - 1)), rs_, rs_, H', ⟨by have := HK1.out; have := HK2.out; omega⟩, ⟨by (try simp only [hl3_2]); (with_reducible repeat (first | apply Kd.bL | apply Kd.bM | apply Kd.bQ)); exact HQ25.out⟩, ⟨bl_⟩⟩
           ·rw [if_neg c20] at H; exact absurd H (by simp)
          ·rw [if_neg c19] at H; exact absurd H (by simp)
         ·rw [if_neg c18] at H; exact absurd H (by simp)
        ·rw [if_neg c17] at H; exact absurd H (by simp)
       ·rw [if_neg c16] at H; have BJ := decide_eq_false c16; clear c16; obtain rfl := Option.some.inj H; have hcv26 := R8 (P := Tryd.prog) Tryd.underlying89 Tryd.underlying5 Tryd.underlying9 (Kd.Js gV.out); go_wp2; go_ret; exact ⟨re_, bl_⟩

end Go.Proofs.YtggelekooacmnaaDoor.Q
namespace Go.Proofs.YtggelekooacmnaaDoor.Q
open Go.RowKit Go.Proofs.YtggelekooacmnaaDoorW.aU Go.Proofs.YtggelekooacmnaaDoorW.bD Go.Proofs.YtggelekooacmnaaDoorW.bH
attribute [local go_sem] dB dC dN dO cO cZ dD dE   -- for this text's walks alone
set_option linter.unusedVariables false
set_option linter.unusedSimpArgs false

/-! ### eZ: function 99 -/
def eZ.f (k : Nat) (ah : Bool) (jw : List Int) (il : List Int) : Option (ByteArray) := (eX.f k ah jw il).bind fun BU => ((aI.f k BU.2.1).bind fun jy => (if BU.1 = true then (if 1 + jy.size ≤ 9223372036854775807 then ((aI.f k BU.2.2).bind fun oU => (if oU.toList = ([49] : List UInt8) then (some ((⟨#[45]⟩ : ByteArray) ++ jy)) else (if 1 + oU.size ≤ 9223372036854775807 then (if ((⟨#[45]⟩ : ByteArray) ++ jy).size + ((⟨#[47]⟩ : ByteArray) ++ oU).size ≤ 9223372036854775807 then (some (((⟨#[45]⟩ : ByteArray) ++ jy) ++ ((⟨#[47]⟩ : ByteArray) ++ oU))) else (none)) else (none)))) else (none)) else ((aI.f k BU.2.2).bind fun oV => (if oV.toList = ([49] : List UInt8) then (some jy) else (if 1 + oV.size ≤ 9223372036854775807 then (if jy.size + ((⟨#[47]⟩ : ByteArray) ++ oV).size ≤ 9223372036854775807 then (some (jy ++ ((⟨#[47]⟩ : ByteArray) ++ oV))) else (none)) else (none))))))
theorem eZ.mono : ∀ a0 a1 a2 k, LeO (eZ.f k a0 a1 a2) (eZ.f (k + 1) a0 a1 a2) := by
 intro a0 a1 a2 k; unfold eZ.f
 repeat' first
   | (with_reducible exact aI.mono _ _)
   | (with_reducible exact eX.mono _ _ _ _)
   | (with_reducible exact LeO.refl _)
   | (with_reducible exact LeO.none _)
   | (with_reducible refine LeO.ite ?_ ?_)
   | (with_reducible refine LeO.bind ?_ (fun _ => ?_))
   | exact aI.mono _ _
   | exact eX.mono _ _ _ _
   | exact LeO.none _
   | refine LeO.ite ?_ ?_
   | refine LeO.bind ?_ (fun _ => ?_)
set_option maxHeartbeats 8000000 in
set_option maxRecDepth 100000 in
theorem eZ.calls (k : Nat) (ah : Bool) (xA : Option Addr) (xB : Nat) (jw : List Int) (uK : Option Addr) (uL : Nat) (il : List Int) (r : ByteArray) (w : World) (KX : Kd.C (Kd.int .u32) w xA jw.length jw) (KY : jw.length ≤ xB) (KZ : Kd.C (Kd.int .u32) w uK il.length il) (La : il.length ≤ uL) (h : eZ.f k ah jw il = some r) :
  Calls Tryd.prog 99 #[.agg #[.bool ah, .slice xA jw.length xB, .slice uK il.length uL]] w fun e w' => e = .returned (.string r) ∧ Below w.heap.size w w' := by
 have hu104 := Tryd.underlying104; have Je := aa.mk KX; have Jf := aa.mk KY; clear KX KY; have Em := aa.mk KZ; have En := aa.mk La; clear KZ La; have HB := aa.mk (Below.refl w.heap.size w); have H : ((eX.f k ah jw il).bind fun BU => ((aI.f k BU.2.1).bind fun jy => (if BU.1 = true then (if 1 + jy.size ≤ 9223372036854775807 then ((aI.f k BU.2.2).bind fun oU => (if oU.toList = ([49] : List UInt8) then (some ((⟨#[45]⟩ : ByteArray) ++ jy)) else (if 1 + oU.size ≤ 9223372036854775807 then (if ((⟨#[45]⟩ : ByteArray) ++ jy).size + ((⟨#[47]⟩ : ByteArray) ++ oU).size ≤ 9223372036854775807 then (some (((⟨#[45]⟩ : ByteArray) ++ jy) ++ ((⟨#[47]⟩ : ByteArray) ++ oU))) else (none)) else (none)))) else (none)) else ((aI.f k BU.2.2).bind fun oV => (if oV.toList = ([49] : List UInt8) then (some jy) else (if 1 + oV.size ≤ 9223372036854775807 then (if jy.size + ((⟨#[47]⟩ : ByteArray) ++ oV).size ≤ 9223372036854775807 then (some (jy ++ ((⟨#[47]⟩ : ByteArray) ++ oV))) else (none)) else (none))))))) = some r := h; clear h; replace H := Option.bind_eq_some_iff.mp H; obtain ⟨⟨t502, jI, jo⟩, A20, H⟩ := H; (try dsimp only at H)
 have A2 := aa.mk A20; clear A20; replace H := Option.bind_eq_some_iff.mp H; obtain ⟨jy, A30, H⟩ := H; (try dsimp only at H)
 have A3 := aa.mk A30; clear A30; by_cases c4 : t502 = true
 ·subst c4; have H1 : (if 1 + jy.size ≤ 9223372036854775807 then ((aI.f k jo).bind fun oU => (if oU.toList = ([49] : List UInt8) then (some ((⟨#[45]⟩ : ByteArray) ++ jy)) else (if 1 + oU.size ≤ 9223372036854775807 then (if ((⟨#[45]⟩ : ByteArray) ++ jy).size + ((⟨#[47]⟩ : ByteArray) ++ oU).size ≤ 9223372036854775807 then (some (((⟨#[45]⟩ : ByteArray) ++ jy) ++ ((⟨#[47]⟩ : ByteArray) ++ oU))) else (none)) else (none)))) else (none)) = some r := by rw [if_pos rfl] at H; exact H
  clear H; have H := H1; clear H1; by_cases c5 : 1 + jy.size ≤ 9223372036854775807
  ·rw [if_pos c5] at H; have gQ := eq_true c5; have qF := decide_eq_true c5; try have c5b2 : (9223372036854775807 < 1 + jy.size) = False := eq_false (Nat.not_lt.2 c5)
   replace H := Option.bind_eq_some_iff.mp H; obtain ⟨oU, A60, H⟩ := H; (try dsimp only at H)
   have A6 := aa.mk A60; clear A60; by_cases c7 : oU.toList = ([49] : List UInt8)
   ·rw [if_pos c7] at H; obtain ⟨jM, vo⟩ := bq_ c7; clear c7; obtain rfl := Option.some.inj H; go_enter Tryd.func99, Tryd.ntmps99; go_wp2_with (first | ((with_reducible refine aW (N := 1) rfl ?_); refine bf ?hg (N := 1) ?hd (cs := #[.bool ah, .slice xA jw.length xB, .slice uK il.length uL]) (t := 104) ?hr ?_; (case hd => rfl); (case hg => rfl); (case hr => first | (go_simp; done) | (go_simp; rfl)); intro fH hg w8 aG hb; have fI := aa.mk (aG); have Gq : aa (w.heap.size ≤ fH) := gw_ hg (ax bl_); have GE501 := Gq; replace HB := aa.mk (ai bl_ hb); clear hb aG hg; obtain ⟨tC, tF, tH, tJ, tK, tL⟩ := lD fI.out) | ((with_reducible refine aD (f := 107) rfl ?_); refine aZ (some 6) rfl rfl Tryd.func107 (by kernel_rfl) rfl #[.agg #[.bool ah, .slice xA jw.length xB, .slice uK il.length uL]] rfl mp_ ?_; (with_reducible refine (eX.calls k ah _ _ jw _ _ il true jI jo _ ?az ?aA ?eH ?eO A2.out).mono ?_); (case az => exact cb_ (Kd.aK Je.out HB.out)); (case aA => exact Jf.out); (case eH => exact cb_ (Kd.aK Em.out HB.out)); (case eO => exact En.out); rintro e w10 ⟨v504, v507, rfl, ho0, ho1, hb⟩; refine ⟨_, rfl, ?_⟩; have iq := aa.mk (Kd.bC ho0 (ax bl_)); have iw := aa.mk (Kd.bC ho1 (ax bl_)); replace fI := kb_ fI hb; replace HB := aa.mk (ai bl_ hb); (try clear hb); (try clear hb2); (try clear hk); (try clear hi); (try clear ho0); (try clear ho1); obtain ⟨jO, jP, jQ, jR, jS, jT⟩ := lD fI.out; obtain ⟨Ao12, BA, eo12⟩ := Kd.bK iq.out; subst eo12; obtain ⟨BC, AB, eo13⟩ := Kd.bK iw.out; subst eo13) | ((with_reducible refine aD (f := 108) rfl ?_); refine aZ (some 9) rfl rfl Tryd.func108 (by kernel_rfl) rfl #[.slice Ao12 jI.length BA] rfl mp_ ?_; (with_reducible refine (aI.calls k _ _ jI jy _ ?az ?aA A3.out).mono ?_); (case az => refine (Kd.aY (e := 119) (base := w.heap.size) (ok := fun k_ => some k_ ≠ (.slice BC jo.length AB : Value).ownBlock) (n := jI.length) (c := BA) ?_).2.2; exact (by (with_reducible repeat (first | apply Kd.bL | apply Kd.bM | apply Kd.bQ)); exact (Kd.bG (Kd.bI (p := ⟨fH, 2, none⟩) (Kd.bI (p := ⟨fH, 1, none⟩) (Kd.bI (p := ⟨fH, 0, none⟩) (Kd.gB iq.out fI.out (by decide)) (fun _ hk => hk.2) (.bool true)) (fun _ hk => hk.2) (.slice Ao12 jI.length BA)) (fun _ hk => hk.2) (.slice BC jo.length AB)) (fun _ h_ => h_.1)))); (case aA => exact (Kd.aY iq.out).2.1); rintro e w14 ⟨rfl, hb⟩; refine ⟨_, rfl, ?_⟩; replace iq := aa.mk (Kd.dM (by (with_reducible repeat (first | apply Kd.bL | apply Kd.bM | apply Kd.bQ)); exact (Kd.bG (Kd.bI (p := ⟨fH, 2, none⟩) (Kd.bI (p := ⟨fH, 1, none⟩) (Kd.bI (p := ⟨fH, 0, none⟩) (Kd.gB iq.out fI.out (by decide)) (fun _ hk => hk.2) (.bool true)) (fun _ hk => hk.2) (.slice Ao12 jI.length BA)) (fun _ hk => hk.2) (.slice BC jo.length AB)) (fun _ h_ => h_.1))) hb); replace iw := aa.mk (Kd.dM (by (with_reducible repeat (first | apply Kd.bL | apply Kd.bM | apply Kd.bQ)); exact (Kd.bG (Kd.bI (p := ⟨fH, 2, none⟩) (Kd.bI (p := ⟨fH, 1, none⟩) (Kd.bI (p := ⟨fH, 0, none⟩) (Kd.gB iw.out fI.out (by decide)) (fun _ hk => hk.2) (.bool true)) (fun _ hk => hk.2) (.slice Ao12 jI.length BA)) (fun _ hk => hk.2) (.slice BC jo.length AB)) (fun _ h_ => h_.1))) hb); replace fI := aa.mk (dR (g := fH) (o := .cells #[.bool true, .slice Ao12 jI.length BA, .slice BC jo.length AB] 104 (0, 0)) b5_ hb); replace HB := aa.mk (ai bl_ hb); (try clear hb); (try clear hb2); (try clear hk); (try clear hi); obtain ⟨nA, nC, nD, nE, nG, nH⟩ := lD fI.out) | ((with_reducible refine aD (f := 108) rfl ?_); refine aZ (some 16) rfl rfl Tryd.func108 (by kernel_rfl) rfl #[.slice BC jo.length AB] rfl mp_ ?_; (with_reducible refine (aI.calls k _ _ jo oU _ ?az ?aA A6.out).mono ?_); (case az => exact cb_ ((Kd.aY iw.out).2.2)); (case aA => exact (Kd.aY iw.out).2.1); rintro e w16 ⟨rfl, hb⟩; refine ⟨_, rfl, ?_⟩; replace iq := aa.mk (Kd.dM (pR_ iq.out) hb); replace iw := aa.mk (Kd.dM (pR_ iw.out) hb); replace fI := kb_ fI hb; replace HB := aa.mk (ai bl_ hb); (try clear hb); (try clear hb2); (try clear hk); (try clear hi)))
    go_ret; exact ⟨re_, bl_⟩
   ·rw [if_neg c7] at H; obtain ⟨jM, vo⟩ := bn_ c7; by_cases c17 : 1 + oU.size ≤ 9223372036854775807
    ·rw [if_pos c17] at H; have l8 := eq_true c17; have sV := decide_eq_true c17; try have c17b2 : (9223372036854775807 < 1 + oU.size) = False := eq_false (Nat.not_lt.2 c17)
     by_cases c18 : ((⟨#[45]⟩ : ByteArray) ++ jy).size + ((⟨#[47]⟩ : ByteArray) ++ oU).size ≤ 9223372036854775807
     ·rw [if_pos c18] at H; have qH := eq_true c18; have zi := decide_eq_true c18; try have c18b2 : (9223372036854775807 < ((⟨#[45]⟩ : ByteArray) ++ jy).size + ((⟨#[47]⟩ : ByteArray) ++ oU).size) = False := eq_false (Nat.not_lt.2 c18)
      obtain rfl := Option.some.inj H; go_enter Tryd.func99, Tryd.ntmps99; go_wp2_with (first | ((with_reducible refine aW (N := 1) rfl ?_); refine bf ?hg (N := 1) ?hd (cs := #[.bool ah, .slice xA jw.length xB, .slice uK il.length uL]) (t := 104) ?hr ?_; (case hd => rfl); (case hg => rfl); (case hr => first | (go_simp; done) | (go_simp; rfl)); intro fH hg w19 aG hb; have fI := aa.mk (aG); have Gq : aa (w.heap.size ≤ fH) := gw_ hg (ax bl_); have GE501 := Gq; replace HB := aa.mk (ai bl_ hb); clear hb aG hg; obtain ⟨mH, mI, mJ, mK, mM, mO⟩ := lD fI.out) | ((with_reducible refine aD (f := 107) rfl ?_); refine aZ (some 6) rfl rfl Tryd.func107 (by kernel_rfl) rfl #[.agg #[.bool ah, .slice xA jw.length xB, .slice uK il.length uL]] rfl mp_ ?_; (with_reducible refine (eX.calls k ah _ _ jw _ _ il true jI jo _ ?az ?aA ?eH ?eO A2.out).mono ?_); (case az => exact cb_ (Kd.aK Je.out HB.out)); (case aA => exact Jf.out); (case eH => exact cb_ (Kd.aK Em.out HB.out)); (case eO => exact En.out); rintro e w21 ⟨v504, v507, rfl, ho0, ho1, hb⟩; refine ⟨_, rfl, ?_⟩; have iq := aa.mk (Kd.bC ho0 (ax bl_)); have iw := aa.mk (Kd.bC ho1 (ax bl_)); replace fI := kb_ fI hb; replace HB := aa.mk (ai bl_ hb); (try clear hb); (try clear hb2); (try clear hk); (try clear hi); (try clear ho0); (try clear ho1); obtain ⟨lF, lG, lH, lI, lJ, lK⟩ := lD fI.out; obtain ⟨xL, vv, zm⟩ := Kd.bK iq.out; subst zm; obtain ⟨r9, oN, Am⟩ := Kd.bK iw.out; subst Am) | ((with_reducible refine aD (f := 108) rfl ?_); refine aZ (some 9) rfl rfl Tryd.func108 (by kernel_rfl) rfl #[.slice xL jI.length vv] rfl mp_ ?_; (with_reducible refine (aI.calls k _ _ jI jy _ ?az ?aA A3.out).mono ?_); (case az => refine (Kd.aY (e := 119) (base := w.heap.size) (ok := fun k_ => some k_ ≠ (.slice r9 jo.length oN : Value).ownBlock) (n := jI.length) (c := vv) ?_).2.2; exact (by (with_reducible repeat (first | apply Kd.bL | apply Kd.bM | apply Kd.bQ)); exact (Kd.bG (Kd.bI (p := ⟨fH, 2, none⟩) (Kd.bI (p := ⟨fH, 1, none⟩) (Kd.bI (p := ⟨fH, 0, none⟩) (Kd.gB iq.out fI.out (by decide)) (fun _ hk => hk.2) (.bool true)) (fun _ hk => hk.2) (.slice xL jI.length vv)) (fun _ hk => hk.2) (.slice r9 jo.length oN)) (fun _ h_ => h_.1)))); (case aA => exact (Kd.aY iq.out).2.1); rintro e w25 ⟨rfl, hb⟩; refine ⟨_, rfl, ?_⟩; replace iq := aa.mk (Kd.dM (by (with_reducible repeat (first | apply Kd.bL | apply Kd.bM | apply Kd.bQ)); exact (Kd.bG (Kd.bI (p := ⟨fH, 2, none⟩) (Kd.bI (p := ⟨fH, 1, none⟩) (Kd.bI (p := ⟨fH, 0, none⟩) (Kd.gB iq.out fI.out (by decide)) (fun _ hk => hk.2) (.bool true)) (fun _ hk => hk.2) (.slice xL jI.length vv)) (fun _ hk => hk.2) (.slice r9 jo.length oN)) (fun _ h_ => h_.1))) hb); replace iw := aa.mk (Kd.dM (by (with_reducible repeat (first | apply Kd.bL | apply Kd.bM | apply Kd.bQ)); exact (Kd.bG (Kd.bI (p := ⟨fH, 2, none⟩) (Kd.bI (p := ⟨fH, 1, none⟩) (Kd.bI (p := ⟨fH, 0, none⟩) (Kd.gB iw.out fI.out (by decide)) (fun _ hk => hk.2) (.bool true)) (fun _ hk => hk.2) (.slice xL jI.length vv)) (fun _ hk => hk.2) (.slice r9 jo.length oN)) (fun _ h_ => h_.1))) hb); replace fI := aa.mk (dR (g := fH) (o := .cells #[.bool true, .slice xL jI.length vv, .slice r9 jo.length oN] 104 (0, 0)) b5_ hb); replace HB := aa.mk (ai bl_ hb); (try clear hb); (try clear hb2); (try clear hk); (try clear hi); obtain ⟨uB, uC, uD, uE, uF, uG⟩ := lD fI.out) | ((with_reducible refine aD (f := 108) rfl ?_); refine aZ (some 16) rfl rfl Tryd.func108 (by kernel_rfl) rfl #[.slice r9 jo.length oN] rfl mp_ ?_; (with_reducible refine (aI.calls k _ _ jo oU _ ?az ?aA A6.out).mono ?_); (case az => exact cb_ ((Kd.aY iw.out).2.2)); (case aA => exact (Kd.aY iw.out).2.1); rintro e w27 ⟨rfl, hb⟩; refine ⟨_, rfl, ?_⟩; replace iq := aa.mk (Kd.dM (pR_ iq.out) hb); replace iw := aa.mk (Kd.dM (pR_ iw.out) hb); replace fI := kb_ fI hb; replace HB := aa.mk (ai bl_ hb); (try clear hb); (try clear hb2); (try clear hk); (try clear hi)))
      go_ret; exact ⟨re_, bl_⟩
     ·rw [if_neg c18] at H; exact absurd H (by simp)
    ·rw [if_neg c17] at H; exact absurd H (by simp)
  ·rw [if_neg c5] at H; exact absurd H (by simp)
 ·replace c4 := Bool.eq_false_iff.mpr c4; subst c4; have H1 : ((aI.f k jo).bind fun oV => (if oV.toList = ([49] : List UInt8) then (some jy) else (if 1 + oV.size ≤ 9223372036854775807 then (if jy.size + ((⟨#[47]⟩ : ByteArray) ++ oV).size ≤ 9223372036854775807 then (some (jy ++ ((⟨#[47]⟩ : ByteArray) ++ oV))) else (none)) else (none)))) = some r := by rw [if_neg (show ¬ (false = true) by decide)] at H; exact H
  clear H; have H := H1; clear H1; replace H := Option.bind_eq_some_iff.mp H; obtain ⟨oV, A280, H⟩ := H; (try dsimp only at H)
  have A28 := aa.mk A280; clear A280; by_cases c29 : oV.toList = ([49] : List UInt8)
  ·rw [if_pos c29] at H; obtain ⟨BL, BM⟩ := bq_ c29; clear c29; obtain rfl := Option.some.inj H; go_enter Tryd.func99, Tryd.ntmps99; go_wp2_with (first | ((with_reducible refine aW (N := 1) rfl ?_); refine bf ?hg (N := 1) ?hd (cs := #[.bool ah, .slice xA jw.length xB, .slice uK il.length uL]) (t := 104) ?hr ?_; (case hd => rfl); (case hg => rfl); (case hr => first | (go_simp; done) | (go_simp; rfl)); intro fH hg w30 aG hb; have fI := aa.mk (aG); have Gq : aa (w.heap.size ≤ fH) := gw_ hg (ax bl_); have GE501 := Gq; replace HB := aa.mk (ai bl_ hb); clear hb aG hg; obtain ⟨xR, xS, xU, xV, xW, xX⟩ := lD fI.out) | ((with_reducible refine aD (f := 107) rfl ?_); refine aZ (some 6) rfl rfl Tryd.func107 (by kernel_rfl) rfl #[.agg #[.bool ah, .slice xA jw.length xB, .slice uK il.length uL]] rfl mp_ ?_; (with_reducible refine (eX.calls k ah _ _ jw _ _ il false jI jo _ ?az ?aA ?eH ?eO A2.out).mono ?_); (case az => exact cb_ (Kd.aK Je.out HB.out)); (case aA => exact Jf.out); (case eH => exact cb_ (Kd.aK Em.out HB.out)); (case eO => exact En.out); rintro e w32 ⟨v504, v507, rfl, ho0, ho1, hb⟩; refine ⟨_, rfl, ?_⟩; have iq := aa.mk (Kd.bC ho0 (ax bl_)); have iw := aa.mk (Kd.bC ho1 (ax bl_)); replace fI := kb_ fI hb; replace HB := aa.mk (ai bl_ hb); (try clear hb); (try clear hb2); (try clear hk); (try clear hi); (try clear ho0); (try clear ho1); obtain ⟨Ex, Ey, Ez, EA, EB, EC⟩ := lD fI.out; obtain ⟨Ao34, co34, eo34⟩ := Kd.bK iq.out; subst eo34; obtain ⟨Ao35, co35, eo35⟩ := Kd.bK iw.out; subst eo35) | ((with_reducible refine aD (f := 108) rfl ?_); refine aZ (some 9) rfl rfl Tryd.func108 (by kernel_rfl) rfl #[.slice Ao34 jI.length co34] rfl mp_ ?_; (with_reducible refine (aI.calls k _ _ jI jy _ ?az ?aA A3.out).mono ?_); (case az => refine (Kd.aY (e := 119) (base := w.heap.size) (ok := fun k_ => some k_ ≠ (.slice Ao35 jo.length co35 : Value).ownBlock) (n := jI.length) (c := co34) ?_).2.2; exact (by (with_reducible repeat (first | apply Kd.bL | apply Kd.bM | apply Kd.bQ)); exact (Kd.bG (Kd.bI (p := ⟨fH, 2, none⟩) (Kd.bI (p := ⟨fH, 1, none⟩) (Kd.bI (p := ⟨fH, 0, none⟩) (Kd.gB iq.out fI.out (by decide)) (fun _ hk => hk.2) (.bool false)) (fun _ hk => hk.2) (.slice Ao34 jI.length co34)) (fun _ hk => hk.2) (.slice Ao35 jo.length co35)) (fun _ h_ => h_.1)))); (case aA => exact (Kd.aY iq.out).2.1); rintro e w36 ⟨rfl, hb⟩; refine ⟨_, rfl, ?_⟩; replace iq := aa.mk (Kd.dM (by (with_reducible repeat (first | apply Kd.bL | apply Kd.bM | apply Kd.bQ)); exact (Kd.bG (Kd.bI (p := ⟨fH, 2, none⟩) (Kd.bI (p := ⟨fH, 1, none⟩) (Kd.bI (p := ⟨fH, 0, none⟩) (Kd.gB iq.out fI.out (by decide)) (fun _ hk => hk.2) (.bool false)) (fun _ hk => hk.2) (.slice Ao34 jI.length co34)) (fun _ hk => hk.2) (.slice Ao35 jo.length co35)) (fun _ h_ => h_.1))) hb); replace iw := aa.mk (Kd.dM (by (with_reducible repeat (first | apply Kd.bL | apply Kd.bM | apply Kd.bQ)); exact (Kd.bG (Kd.bI (p := ⟨fH, 2, none⟩) (Kd.bI (p := ⟨fH, 1, none⟩) (Kd.bI (p := ⟨fH, 0, none⟩) (Kd.gB iw.out fI.out (by decide)) (fun _ hk => hk.2) (.bool false)) (fun _ hk => hk.2) (.slice Ao34 jI.length co34)) (fun _ hk => hk.2) (.slice Ao35 jo.length co35)) (fun _ h_ => h_.1))) hb); replace fI := aa.mk (dR (g := fH) (o := .cells #[.bool false, .slice Ao34 jI.length co34, .slice Ao35 jo.length co35] 104 (0, 0)) b5_ hb); replace HB := aa.mk (ai bl_ hb); (try clear hb); (try clear hb2); (try clear hk); (try clear hi); obtain ⟨qP, qQ, qR, qU, qV, qW⟩ := lD fI.out) | ((with_reducible refine aD (f := 108) rfl ?_); refine aZ (some 16) rfl rfl Tryd.func108 (by kernel_rfl) rfl #[.slice Ao35 jo.length co35] rfl mp_ ?_; (with_reducible refine (aI.calls k _ _ jo oV _ ?az ?aA A28.out).mono ?_); (case az => exact cb_ ((Kd.aY iw.out).2.2)); (case aA => exact (Kd.aY iw.out).2.1); rintro e w38 ⟨rfl, hb⟩; refine ⟨_, rfl, ?_⟩; replace iq := aa.mk (Kd.dM (pR_ iq.out) hb); replace iw := aa.mk (Kd.dM (pR_ iw.out) hb); replace fI := kb_ fI hb; replace HB := aa.mk (ai bl_ hb); (try clear hb); (try clear hb2); (try clear hk); (try clear hi)))
   go_ret; exact ⟨re_, bl_⟩
  ·rw [if_neg c29] at H; obtain ⟨BL, BM⟩ := bn_ c29; by_cases c39 : 1 + oV.size ≤ 9223372036854775807
   ·rw [if_pos c39] at H; have zg := eq_true c39; have Ei := decide_eq_true c39; try have c39b2 : (9223372036854775807 < 1 + oV.size) = False := eq_false (Nat.not_lt.2 c39)
    by_cases c40 : jy.size + ((⟨#[47]⟩ : ByteArray) ++ oV).size ≤ 9223372036854775807
    ·rw [if_pos c40] at H; have c40b0 := eq_true c40; have c40b1 := decide_eq_true c40; try have c40b2 : (9223372036854775807 < jy.size + ((⟨#[47]⟩ : ByteArray) ++ oV).size) = False := eq_false (Nat.not_lt.2 c40)
     obtain rfl := Option.some.inj H; go_enter Tryd.func99, Tryd.ntmps99; go_wp2_with (first | ((with_reducible refine aW (N := 1) rfl ?_); refine bf ?hg (N := 1) ?hd (cs := #[.bool ah, .slice xA jw.length xB, .slice uK il.length uL]) (t := 104) ?hr ?_; (case hd => rfl); (case hg => rfl); (case hr => first | (go_simp; done) | (go_simp; rfl)); intro fH hg w41 aG hb; have fI := aa.mk (aG); have Gq : aa (w.heap.size ≤ fH) := gw_ hg (ax bl_); have GE501 := Gq; replace HB := aa.mk (ai bl_ hb); clear hb aG hg; obtain ⟨EW, EX, EY, EZ, E5, E8⟩ := lD fI.out) | ((with_reducible refine aD (f := 107) rfl ?_); refine aZ (some 6) rfl rfl Tryd.func107 (by kernel_rfl) rfl #[.agg #[.bool ah, .slice xA jw.length xB, .slice uK il.length uL]] rfl mp_ ?_; (with_reducible refine (eX.calls k ah _ _ jw _ _ il false jI jo _ ?az ?aA ?eH ?eO A2.out).mono ?_); (case az => exact cb_ (Kd.aK Je.out HB.out)); (case aA => exact Jf.out); (case eH => exact cb_ (Kd.aK Em.out HB.out)); (case eO => exact En.out); rintro e w43 ⟨v504, v507, rfl, ho0, ho1, hb⟩; refine ⟨_, rfl, ?_⟩; have iq := aa.mk (Kd.bC ho0 (ax bl_)); have iw := aa.mk (Kd.bC ho1 (ax bl_)); replace fI := kb_ fI hb; replace HB := aa.mk (ai bl_ hb); (try clear hb); (try clear hb2); (try clear hk); (try clear hi); (try clear ho0); (try clear ho1); obtain ⟨Qf, Qg, Qh, Qi, Qj, Qk⟩ := lD fI.out; obtain ⟨Ao45, co45, eo45⟩ := Kd.bK iq.out; subst eo45; obtain ⟨Ao46, co46, eo46⟩ := Kd.bK iw.out; subst eo46) | ((with_reducible refine aD (f := 108) rfl ?_); refine aZ (some 9) rfl rfl Tryd.func108 (by kernel_rfl) rfl #[.slice Ao45 jI.length co45] rfl mp_ ?_; (with_reducible refine (aI.calls k _ _ jI jy _ ?az ?aA A3.out).mono ?_); (case az => refine (Kd.aY (e := 119) (base := w.heap.size) (ok := fun k_ => some k_ ≠ (.slice Ao46 jo.length co46 : Value).ownBlock) (n := jI.length) (c := co45) ?_).2.2; exact (by (with_reducible repeat (first | apply Kd.bL | apply Kd.bM | apply Kd.bQ)); exact (Kd.bG (Kd.bI (p := ⟨fH, 2, none⟩) (Kd.bI (p := ⟨fH, 1, none⟩) (Kd.bI (p := ⟨fH, 0, none⟩) (Kd.gB iq.out fI.out (by decide)) (fun _ hk => hk.2) (.bool false)) (fun _ hk => hk.2) (.slice Ao45 jI.length co45)) (fun _ hk => hk.2) (.slice Ao46 jo.length co46)) (fun _ h_ => h_.1)))); (case aA => exact (Kd.aY iq.out).2.1); rintro e w47 ⟨rfl, hb⟩; refine ⟨_, rfl, ?_⟩; replace iq := aa.mk (Kd.dM (by (with_reducible repeat (first | apply Kd.bL | apply Kd.bM | apply Kd.bQ)); exact (Kd.bG (Kd.bI (p := ⟨fH, 2, none⟩) (Kd.bI (p := ⟨fH, 1, none⟩) (Kd.bI (p := ⟨fH, 0, none⟩) (Kd.gB iq.out fI.out (by decide)) (fun _ hk => hk.2) (.bool false)) (fun _ hk => hk.2) (.slice Ao45 jI.length co45)) (fun _ hk => hk.2) (.slice Ao46 jo.length co46)) (fun _ h_ => h_.1))) hb); replace iw := aa.mk (Kd.dM (by (with_reducible repeat (first | apply Kd.bL | apply Kd.bM | apply Kd.bQ)); exact (Kd.bG (Kd.bI (p := ⟨fH, 2, none⟩) (Kd.bI (p := ⟨fH, 1, none⟩) (Kd.bI (p := ⟨fH, 0, none⟩) (Kd.gB iw.out fI.out (by decide)) (fun _ hk => hk.2) (.bool false)) (fun _ hk => hk.2) (.slice Ao45 jI.length co45)) (fun _ hk => hk.2) (.slice Ao46 jo.length co46)) (fun _ h_ => h_.1))) hb); replace fI := aa.mk (dR (g := fH) (o := .cells #[.bool false, .slice Ao45 jI.length co45, .slice Ao46 jo.length co46] 104 (0, 0)) b5_ hb); replace HB := aa.mk (ai bl_ hb); (try clear hb); (try clear hb2); (try clear hk); (try clear hi); obtain ⟨G9, Ha, Hd, He, Hf, Hg⟩ := lD fI.out) | ((with_reducible refine aD (f := 108) rfl ?_); refine aZ (some 16) rfl rfl Tryd.func108 (by kernel_rfl) rfl #[.slice Ao46 jo.length co46] rfl mp_ ?_; (with_reducible refine (aI.calls k _ _ jo oV _ ?az ?aA A28.out).mono ?_); (case az => exact cb_ ((Kd.aY iw.out).2.2)); (case aA => exact (Kd.aY iw.out).2.1); rintro e w49 ⟨rfl, hb⟩; refine ⟨_, rfl, ?_⟩; replace iq := aa.mk (Kd.dM (pR_ iq.out) hb); replace iw := aa.mk (Kd.dM (pR_ iw.out) hb); replace fI := kb_ fI hb; replace HB := aa.mk (ai bl_ hb); (try clear hb); (try clear hb2); (try clear hk); (try clear hi)))
     go_ret; exact ⟨re_, bl_⟩
    ·rw [if_neg c40] at H; exact absurd H (by simp)
   ·rw [if_neg c39] at H; exact absurd H (by simp)

end Go.Proofs.YtggelekooacmnaaDoor.Q
namespace Go.Proofs.YtggelekooacmnaaDoor.Q
open Go.RowKit Go.Proofs.YtggelekooacmnaaDoorW.aU Go.Proofs.YtggelekooacmnaaDoorW.bD Go.Proofs.YtggelekooacmnaaDoorW.bH
attribute [local go_sem] dB dC dN dO cO cZ dD dE   -- for this text's walks alone
set_option linter.unusedVariables false
set_option linter.unusedSimpArgs false

/-! ### dV: function 109 -/
def dV.f (k : Nat) (a0 : Int) : Option (List Int × Int) := if a0 < 0 then (some (([] : List Int), 1)) else ((ay.f k (([(Go.bits .and .i64 a0 4294967295) % 4294967296, (a0 / 4294967296) % 4294967296] : List Int))).bind fun t515 => (some (t515, 0)))
theorem dV.mono : ∀ a0 k, LeO (dV.f k a0) (dV.f (k + 1) a0) := by
  intro a0 k
  unfold dV.f
  repeat' first
      | (with_reducible exact ay.mono _ _)
      | (with_reducible exact LeO.refl _)
      | (with_reducible exact LeO.none _)
      | (with_reducible refine LeO.ite ?_ ?_)
      | (with_reducible refine LeO.bind ?_ (fun _ => ?_))
      | exact ay.mono _ _
      | exact LeO.none _
      | refine LeO.ite ?_ ?_
      | refine LeO.bind ?_ (fun _ => ?_)
set_option maxHeartbeats 8000000 in
set_option maxRecDepth 100000 in
theorem dV.calls (k : Nat) (a0 : Int) (r1 : List Int) (r2 : Int) (w : World) (h : dV.f k a0 = some (r1, r2)) :
    Calls Tryd.prog 109 #[.int .i64 a0] w fun e w' => ∃ v0_ : Value, e = .returned (.tuple #[v0_, .int .i64 r2]) ∧ Kd.R (Kd.int .u32) 119 w' w.heap.size (fun _ => True) v0_ r1 ∧ Below w.heap.size w w' := by
  have HB := aa.mk (Below.refl w.heap.size w)
  have H : (if a0 < 0 then (some (([] : List Int), 1)) else ((ay.f k (([(Go.bits .and .i64 a0 4294967295) % 4294967296, (a0 / 4294967296) % 4294967296] : List Int))).bind fun t515 => (some (t515, 0)))) = some (r1, r2) := h
  clear h
  by_cases c2 : a0 < 0
  · rw [if_pos c2] at H
    have iZ : decide (a0 < 0) = true := decide_eq_true c2
    clear c2
    simp only [Option.some.injEq, Prod.mk.injEq] at H
    obtain ⟨rfl, rfl⟩ := H
    go_enter Tryd.func109, Tryd.ntmps109
    go_wp2
    go_ret2
    exact ⟨_, by first | rfl | (simp [eT, eU] <;> rfl) | (simp [*, eT, eU] <;> rfl), by first | exact Kd.mh _ _ _ _ _ | exact Kd.yS _ _ _ _ _ | exact Kd.yU _ _ _ _ _ | exact Kd.yQ _ _ _ _ _ | exact Kd.yR _ _ _ _ _, by repeat (first | (with_reducible first | exact HB.out | apply cK | apply bS | apply bR) | exact HB.out)⟩
  · rw [if_neg c2] at H
    have iZ : decide (a0 < 0) = false := decide_eq_false c2
    clear c2
    obtain ⟨y512, Le⟩ : ∃ y_ : List Int, y_ = (([(Go.bits .and .i64 a0 4294967295) % 4294967296, (a0 / 4294967296) % 4294967296] : List Int)) := ⟨_, rfl⟩
    replace H : ((ay.f k y512).bind fun t515 => (some (t515, 0))) = some (r1, r2) := by first | (rw [Le]; with_reducible exact H) | (have H2_ := (Option.bind_some _ _).symm.trans H; rw [Le]; with_reducible exact H2_) | (have H2_ := (Option.bind_some _ _).symm.trans H; with_reducible exact H2_) | with_reducible exact H | (rw [Le]; exact H) | exact H
    have Ny512 := aa.mk Le
    clear Le
    replace H := Option.bind_eq_some_iff.mp H
    obtain ⟨t515, A30, H⟩ := H
    replace H : (some (t515, 0)) = some (r1, r2) := H
    have A3 := aa.mk A30
    clear A30
    simp only [Option.some.injEq, Prod.mk.injEq] at H
    obtain ⟨rfl, rfl⟩ := H
    go_enter Tryd.func109, Tryd.ntmps109
    go_wp2_with (first | ((with_reducible refine aW (N := 12) rfl ?_); refine Kd.mi (Kd.int .u32) _ 119 ?hg (N := 12) ?hd (xs := ([(Go.bits .and .i64 a0 4294967295) % 4294967296, (a0 / 4294967296) % 4294967296] : List Int)) (inner := [.int .u32 ((Go.bits .and .i64 a0 4294967295) % 4294967296), .int .u32 ((a0 / 4294967296) % 4294967296)]) (ok := fun _ => True) (okp := fun _ => True) ?hr ?hp (fun _ hk => hk) trivial (Below.refl _ _) (Nat.le_refl _) (by simp) ?_; (case hd => rfl); (case hg => rfl); (case hr => first | (go_simp; done) | (go_simp; rfl)); (case hp => exact (dA.one (show Kd.M (Kd.int .u32) _ _ _ ((Go.bits .and .i64 a0 4294967295) % 4294967296) [.int .u32 ((Go.bits .and .i64 a0 4294967295) % 4294967296)] from rfl) (dA.one (show Kd.M (Kd.int .u32) _ _ _ ((a0 / 4294967296) % 4294967296) [.int .u32 ((a0 / 4294967296) % 4294967296)] from rfl) (dA.none _ _)))); intro v513 w4 ho5 hb hg_ fZ; clear hg_ fZ; (first | rw [← Ny512.out] at ho5 | (simp only [Int.reduceToNat] at ho5; rw [← Ny512.out] at ho5)); have n0_ := aa.mk (Kd.bC ho5 (ax (by repeat (first | (with_reducible first | exact HB.out | apply cK | apply bS | apply bR) | exact HB.out)))); have n1_ := aa.mk (ai (by repeat (first | (with_reducible first | exact HB.out | apply cK | apply bS | apply bR) | exact HB.out)) hb); clear HB; have Gr := n0_; have HB := n1_; clear n0_ n1_; clear hb ho5; obtain ⟨Ao6, co6, eo6⟩ := Kd.bK Gr.out; subst eo6) | ((with_reducible refine aD (f := 116) rfl ?_); refine aZ (some 13) rfl rfl Tryd.func116 (by kernel_rfl) rfl #[.slice Ao6 y512.length co6] rfl (by (try simp only [List.map_toArray, List.map_cons, List.map_nil]); first | done | rfl | (simp only [List.length_drop, List.length_take]; rfl)) ?_; (with_reducible refine (ay.calls k _ _ y512 t515 _ ?az ?aA A3.out).mono ?_); (case az => repeat (first | exact (Kd.aY Gr.out).2.2 | (with_reducible refine Kd.qM ?_ _) | (with_reducible refine Kd.qN ?_ _) | (with_reducible refine Kd.uS ?_))); (case aA => exact (Kd.aY Gr.out).2.1); rintro e w7 ⟨v516, rfl, ho0, hb⟩; refine ⟨_, rfl, ?_⟩; have n0_ := aa.mk (Kd.cB (by (with_reducible repeat (first | apply Kd.bL | apply Kd.bM | apply Kd.bQ)); exact Gr.out) (Kd.cu ho0) hb); have n1_ := aa.mk (Kd.bC (Kd.cz ho0 (Kd.dQ (by (with_reducible repeat (first | apply Kd.bL | apply Kd.bM | apply Kd.bQ)); exact Gr.out))) (ax (by repeat (first | (with_reducible first | exact HB.out | apply cK | apply bS | apply bR) | exact HB.out)))); have n2_ := aa.mk (ai (by repeat (first | (with_reducible first | exact HB.out | apply cK | apply bS | apply bR) | exact HB.out)) hb); clear Gr; clear HB; have Gr := n0_; have HO517 := n1_; have HB := n2_; clear n0_ n1_ n2_; (try clear hb); (try clear hb2); (try clear hk); (try clear hi); (try clear ho0)))
    go_ret2
    exact ⟨_, by first | rfl | (simp [eT, eU] <;> rfl) | (simp [*, eT, eU] <;> rfl), by (with_reducible repeat (first | apply Kd.bL | apply Kd.bM | apply Kd.bQ)); exact Kd.bG HO517.out (fun _ hk => trivial), by repeat (first | (with_reducible first | exact HB.out | apply cK | apply bS | apply bR) | exact HB.out)⟩

end Go.Proofs.YtggelekooacmnaaDoor.Q
namespace Go.Proofs.YtggelekooacmnaaDoor.Q
open Go.RowKit Go.Proofs.YtggelekooacmnaaDoorW.aU Go.Proofs.YtggelekooacmnaaDoorW.bD Go.Proofs.YtggelekooacmnaaDoorW.bH
attribute [local go_sem] dB dC dN dO cO cZ dD dE   -- for this text's walks alone
set_option linter.unusedVariables false
set_option linter.unusedSimpArgs false

/-! ### bJ: function 110 -/
def bJ.l0 : Nat → List Int → List Int → List Int → Int → Int → Option (List Int)
 | 0, _, _, _, _, _ => none
 | k + 1, x0, x1, x5, x6, x7 => if x7 < (x5.length : Int) then (if x7 < (x0.length : Int) then (if 0 ≤ x7 then (if x7 < (x1.length : Int) then (bJ.l0 k x0 x1 (x5.set (x7 : Int).toNat ((IntKind.u64.wrap ((IntKind.u64.wrap (x6 + (IntKind.u64.wrap (rd x0 x7)))) + (IntKind.u64.wrap (rd x1 x7)))) % 4294967296)) ((IntKind.u64.wrap ((IntKind.u64.wrap (x6 + (IntKind.u64.wrap (rd x0 x7)))) + (IntKind.u64.wrap (rd x1 x7)))) / 4294967296) (wrap64 (x7 + 1))) else (bJ.l0 k x0 x1 (x5.set (x7 : Int).toNat ((IntKind.u64.wrap (x6 + (IntKind.u64.wrap (rd x0 x7)))) % 4294967296)) ((IntKind.u64.wrap (x6 + (IntKind.u64.wrap (rd x0 x7)))) / 4294967296) (wrap64 (x7 + 1)))) else (none)) else (if x7 < (x1.length : Int) then (if 0 ≤ x7 then (bJ.l0 k x0 x1 (x5.set (x7 : Int).toNat ((IntKind.u64.wrap (x6 + (IntKind.u64.wrap (rd x1 x7)))) % 4294967296)) ((IntKind.u64.wrap (x6 + (IntKind.u64.wrap (rd x1 x7)))) / 4294967296) (wrap64 (x7 + 1))) else (none)) else (if 0 ≤ x7 then (bJ.l0 k x0 x1 (x5.set (x7 : Int).toNat ((x6) % 4294967296)) (x6 / 4294967296) (wrap64 (x7 + 1))) else (none)))) else ((ay.f k x5).bind fun t521 => (some t521))
def bJ.f (k : Nat) (l0 : List Int) (l1 : List Int) : Option (List Int) := if 0 ≤ (wrap64 ((mx (l0.length : Int) (l1.length : Int)) + 1)) then (if (wrap64 ((mx (l0.length : Int) (l1.length : Int)) + 1) : Int).toNat ≤ 70368744177664 then (bJ.l0 k l0 l1 (List.replicate (wrap64 ((mx (l0.length : Int) (l1.length : Int)) + 1) : Int).toNat 0) 0 0) else (none)) else (none)
theorem bJ.fA : ∀ k, (∀ y0 y1 y2 y3 y4, LeO (bJ.l0 k y0 y1 y2 y3 y4) (bJ.l0 (k + 1) y0 y1 y2 y3 y4))
 | 0 => fun _ _ _ _ _ r h => by simp [bJ.l0] at h
 | k + 1 => by
  have ih0 := bJ.fA k
  ·intro y0 y1 y2 y3 y4; unfold bJ.l0; repeat' first
   | (with_reducible exact ih0 _ _ _ _ _)
   | (with_reducible exact ay.mono _ _)
   | (with_reducible exact LeO.refl _)
   | (with_reducible exact LeO.none _)
   | (with_reducible refine LeO.ite ?_ ?_)
   | (with_reducible refine LeO.bind ?_ (fun _ => ?_))
   | exact ih0 _ _ _ _ _
   | exact ay.mono _ _
   | exact LeO.none _
   | refine LeO.ite ?_ ?_
   | refine LeO.bind ?_ (fun _ => ?_)
theorem bJ.mono : ∀ a0 a1 k, LeO (bJ.f k a0 a1) (bJ.f (k + 1) a0 a1) := by
 intro a0 a1 k; have ih0 := bJ.fA k; unfold bJ.f
 repeat' first
   | (with_reducible exact ih0 _ _ _ _ _)
   | (with_reducible exact ay.mono _ _)
   | (with_reducible exact LeO.refl _)
   | (with_reducible exact LeO.none _)
   | (with_reducible refine LeO.ite ?_ ?_)
   | (with_reducible refine LeO.bind ?_ (fun _ => ?_))
   | exact ih0 _ _ _ _ _
   | exact ay.mono _ _
   | exact LeO.none _
   | refine LeO.ite ?_ ?_
   | refine LeO.bind ?_ (fun _ => ?_)
set_option maxHeartbeats 8000000 in
set_option maxRecDepth 100000 in
theorem bJ.calls (k : Nat) (A0 : Option Addr) (c0 : Nat) (l0 : List Int) (A1 : Option Addr) (c1 : Nat) (l1 : List Int) (r : List Int) (w : World) (hr0 : Kd.C (Kd.int .u32) w A0 l0.length l0) (hc0 : l0.length ≤ c0) (hr1 : Kd.C (Kd.int .u32) w A1 l1.length l1) (hc1 : l1.length ≤ c1) (h : bJ.f k l0 l1 = some r) :
  Calls Tryd.prog 110 #[.slice A0 l0.length c0, .slice A1 l1.length c1] w fun e w' => ∃ v0_ : Value, e = .returned (v0_) ∧ Kd.R (Kd.int .u32) 119 w' w.heap.size (fun _ => True) v0_ r ∧ Below w.heap.size w w' := by
 have HR0 := aa.mk hr0; have HC0 := aa.mk hc0; clear hr0 hc0; have HR1 := aa.mk hr1; have HC1 := aa.mk hc1; clear hr1 hc1; have HB := aa.mk (Below.refl w.heap.size w); have H : (if 0 ≤ (wrap64 ((mx (l0.length : Int) (l1.length : Int)) + 1)) then (if (wrap64 ((mx (l0.length : Int) (l1.length : Int)) + 1) : Int).toNat ≤ 70368744177664 then (bJ.l0 k l0 l1 (List.replicate (wrap64 ((mx (l0.length : Int) (l1.length : Int)) + 1) : Int).toNat 0) 0 0) else (none)) else (none)) = some r := h; clear h; obtain ⟨ji3, DD⟩ : ∃ j_ : Int, (mx (l0.length : Int) (l1.length : Int)) = j_ := ⟨_, rfl⟩; replace H : (if 0 ≤ (wrap64 ((ji3) + 1)) then (if (wrap64 ((ji3) + 1) : Int).toNat ≤ 70368744177664 then (bJ.l0 k l0 l1 (List.replicate (wrap64 ((ji3) + 1) : Int).toNat 0) 0 0) else (none)) else (none)) = some r := by first | (rw [DD] at H; exact H) | (simp only [DD] at H ⊢; exact H)
 (try (have hji3l : 0 ≤ ji3 := by (rw [← DD]; unfold mx; (repeat' split) <;> omega)))
 (try (have hji3m : 0 ≤ ji3 := by omega))
 have hji3_ : (if (l0.length : Int) < (l1.length : Int) then (l1.length : Int) else (l0.length : Int)) = ji3 := DD; have hji3_n : (if l0.length < l1.length then (l1.length : Int) else (l0.length : Int)) = ji3 := by rw [← hji3_]; simp only [Int.ofNat_lt]
 obtain ⟨ji4, hji4⟩ : ∃ j_ : Int, (wrap64 ((ji3) + 1)) = j_ := ⟨_, rfl⟩; replace H : (if 0 ≤ (ji4) then (if (ji4 : Int).toNat ≤ 70368744177664 then (bJ.l0 k l0 l1 (List.replicate (ji4 : Int).toNat 0) 0 0) else (none)) else (none)) = some r := by first | (rw [hji4] at H; exact H) | (simp only [hji4] at H ⊢; exact H)
 have hji4w : (IntKind.i64.wrap ((ji3) + 1)) = ji4 := (dS _).trans hji4; by_cases c5 : 0 ≤ (ji4)
 ·rw [if_pos c5] at H; have gQ := eq_true c5; have qF := decide_eq_true c5; clear c5; by_cases c6 : (ji4 : Int).toNat ≤ 70368744177664
  ·rw [if_pos c6] at H; have uT := eq_true c6; have c6b1 := decide_eq_true c6; clear c6; obtain ⟨y518, Lf⟩ : ∃ y_ : List Int, y_ = (List.replicate (ji4 : Int).toNat 0) := ⟨_, rfl⟩; replace H : (bJ.l0 k l0 l1 y518 0 0) = some r := by first | (rw [Lf]; with_reducible exact H) | (have H2_ := (Option.bind_some _ _).symm.trans H; rw [Lf]; with_reducible exact H2_) | (have H2_ := (Option.bind_some _ _).symm.trans H; with_reducible exact H2_) | with_reducible exact H | (rw [Lf]; exact H) | exact H
   have Ny518 := aa.mk Lf; clear Lf; have H' := aa.mk H; clear H; go_enter Tryd.func110, Tryd.ntmps110; go_wp2_with (first | ((with_reducible refine aW (N := 14) rfl ?_); refine Kd.Oq (Kd.int .u32) _ 119 rfl (N := 14) rfl 102 _ _ rfl ji4 rfl rfl Tryd.underlying102 (.int .u32 0) 4 zu rfl (by decide) (by omega) 0 (ok := fun _ => True) (okp := fun _ => True) rfl (fun _ hk => hk) trivial (dt_) (Nat.le_trans (Nat.mul_le_mul_right _ (dt_ : ji4.toNat ≤ 70368744177664)) (by omega)) (Below.refl _ _) (Nat.le_refl _) ?_; intro v519 w7 ho8 hb hg_ fZ; clear hg_ fZ; (first | rw [← Ny518.out] at ho8 | (simp only [Int.reduceToNat] at ho8; rw [← Ny518.out] at ho8)); have HO520 := aa.mk (Kd.bC ho8 (ax bl_)); replace HB := aa.mk (ai bl_ hb); clear hb ho8))
   go_loopg [6, 7] k (fun kq v6 v7 w' => ∃ (bZ : List Int) (eY : Int) (dK : Int), v6 = .int .u64 eY ∧ v7 = .int .i64 dK ∧ aa (bJ.l0 kq l0 l1 bZ eY dK = some r) ∧ aa (kq ≤ k) ∧ aa (Kd.R (Kd.int .u32) 119 w' w.heap.size (fun _ => True) v519 bZ) ∧ aa (Below w.heap.size w w'))
   case atStart => exact ⟨(y518), (0), (0), rs_, rs_, H', ⟨Nat.le_refl _⟩, ⟨pR_ HO520.out⟩, ⟨bl_⟩⟩
   case round =>
    clear H'; (try clear c1); (try clear p2); (try clear c5); (try clear gQ); (try clear qF); (try clear c6); (try clear uT); (try clear c6b1); (try clear p6); obtain ⟨bZ, eY, dK, rfl, rfl, HA, HK1, gy, HB⟩ := hrel; cases gk with
    | zero => exact absurd HA.out (by simp [bJ.l0])
    | succ k1 =>
     have H := HA.out; clear HA; simp only [bJ.l0] at H; by_cases c9 : dK < (bZ.length : Int)
     ·rw [if_pos c9] at H; have qE := decide_eq_true c9; clear c9; by_cases c10 : dK < (l0.length : Int)
      ·rw [if_pos c10] at H; have ig := decide_eq_true c10; clear c10; by_cases c11 : 0 ≤ dK
       ·rw [if_pos c11] at H; have IE := decide_eq_true c11; clear c11; by_cases c12 : dK < (l1.length : Int)
        ·rw [if_pos c12] at H; have uN := decide_eq_true c12; clear c12; obtain ⟨y526, Lg⟩ : ∃ y_ : List Int, y_ = (bZ.set (dK : Int).toNat ((IntKind.u64.wrap ((IntKind.u64.wrap (eY + (IntKind.u64.wrap (rd l0 dK)))) + (IntKind.u64.wrap (rd l1 dK)))) % 4294967296)) := ⟨_, rfl⟩; replace H : (bJ.l0 k1 l0 l1 y526 ((IntKind.u64.wrap ((IntKind.u64.wrap (eY + (IntKind.u64.wrap (rd l0 dK)))) + (IntKind.u64.wrap (rd l1 dK)))) / 4294967296) (wrap64 (dK + 1))) = some r := by first | (rw [Lg]; with_reducible exact H) | (have H2_ := (Option.bind_some _ _).symm.trans H; rw [Lg]; with_reducible exact H2_) | (have H2_ := (Option.bind_some _ _).symm.trans H; with_reducible exact H2_) | with_reducible exact H | (rw [Lg]; exact H) | exact H
         have Ny526 := aa.mk Lg; clear Lg; have H' := aa.mk H; clear H; obtain ⟨Ao14, co14, eo14⟩ := Kd.bK gy.out; subst eo14; have p524 : 0 ≤ (dK : Int) := dt_; have q524 : dK < (l0.length : Int) := dt_; obtain ⟨ad524, e524, FN⟩ := Kd.jq HR0.out dK p524 q524; cases e524; replace FN := hc_ HB FN; replace p524 := eq_true p524; replace q524 := eq_true q524; have p525 : 0 ≤ (dK : Int) := dt_; have q525 : dK < (l1.length : Int) := dt_; obtain ⟨ad525, e525, Rf⟩ := Kd.jq HR1.out dK p525 q525; cases e525; replace Rf := hc_ HB Rf; replace p525 := eq_true p525; replace q525 := eq_true q525; have p13 : 0 ≤ (dK : Int) := dt_; have q13 : (dK : Int) < ((bZ.length : Int) : Int) := dt_; obtain ⟨go13, AB, eo13, gb13, gl13, cl13, HG13⟩ := Kd.CX gy.out (by omega); (first | cases eo13 | (injection eo13 with ea_ en_ ec_; (first | subst ea_ | (injection ea_ with ea_; subst ea_)); subst ec_; clear en_))
         have GB13 := aa.mk gb13; have GG13 := aa.mk HG13; clear gb13 gl13 HG13; obtain ⟨hx13_0, hf13_0⟩ := Kd.vC 0 gy.out (dK : Int) p13 q13; replace p13 := eq_true p13; replace q13 := eq_true q13; have HP15 := Kd.Er gy.out (dK : Int) ((IntKind.u64.wrap ((IntKind.u64.wrap (eY + (IntKind.u64.wrap (rd l0 dK)))) + (IntKind.u64.wrap (rd l1 dK)))) % 4294967296); go_wp2_with (first | ((with_reducible refine vD (t := 119) (p := 47) rfl ?_); refine tN (t := 119) (p := 47) (v := ?vo_w16) (w1 := (wr.setCell ⟨go13, (dK : Int).toNat, none⟩ (.int .u32 ((IntKind.u64.wrap ((IntKind.u64.wrap (eY + (IntKind.u64.wrap (rd l0 dK)))) + (IntKind.u64.wrap (rd l1 dK)))) % 4294967296)))) ?hg ?ho ?hn ?hr ?_; (case ho => rfl); (case hg => rfl); (case hn => rfl); (case hr => first | (go_simp; done) | (go_simp; rfl)); intro w16 hw; have hg : wr.grownBy w16 (some go13) := (by rw [hw]; exact HP15.2); have hp_ : Kd.R (Kd.int .u32) 119 w16 w.heap.size (fun _ => True) (.slice (some ⟨go13, 0, none⟩) bZ.length co14) y526 := (by rw [hw, Ny526.out]; exact HP15.1); clear HP15; replace gy := aa.mk (hp_); replace HB := aa.mk ((by rw [hw]; exact jA (HB.out) GB13.out : Below w.heap.size w w16)); clear hg hw hp_))
         go_roundg k1
         case measure => have := HK1.out; omega
         case rel => exact ⟨(y526), ((IntKind.u64.wrap ((IntKind.u64.wrap (eY + (IntKind.u64.wrap (rd l0 dK)))) + (IntKind.u64.wrap (rd l1 dK)))) / 4294967296), (wrap64 (dK + 1)), rs_, rs_, H', ⟨by have := HK1.out; omega⟩, ⟨pR_ gy.out⟩, ⟨bl_⟩⟩
        ·rw [if_neg c12] at H; have uN := decide_eq_false c12; clear c12; obtain ⟨y527, Lh⟩ : ∃ y_ : List Int, y_ = (bZ.set (dK : Int).toNat ((IntKind.u64.wrap (eY + (IntKind.u64.wrap (rd l0 dK)))) % 4294967296)) := ⟨_, rfl⟩; replace H : (bJ.l0 k1 l0 l1 y527 ((IntKind.u64.wrap (eY + (IntKind.u64.wrap (rd l0 dK)))) / 4294967296) (wrap64 (dK + 1))) = some r := by first | (rw [Lh]; with_reducible exact H) | (have H2_ := (Option.bind_some _ _).symm.trans H; rw [Lh]; with_reducible exact H2_) | (have H2_ := (Option.bind_some _ _).symm.trans H; with_reducible exact H2_) | with_reducible exact H | (rw [Lh]; exact H) | exact H
         have Ny527 := aa.mk Lh; clear Lh; have H' := aa.mk H; clear H; obtain ⟨Ao18, co18, eo18⟩ := Kd.bK gy.out; subst eo18; have p524 : 0 ≤ (dK : Int) := dt_; have q524 : dK < (l0.length : Int) := dt_; obtain ⟨ad524, e524, FN⟩ := Kd.jq HR0.out dK p524 q524; cases e524; replace FN := hc_ HB FN; replace p524 := eq_true p524; replace q524 := eq_true q524; have p17 : 0 ≤ (dK : Int) := dt_; have q17 : (dK : Int) < ((bZ.length : Int) : Int) := dt_; obtain ⟨go17, co17, eo17, gb17, gl17, cl17, HG17⟩ := Kd.CX gy.out (by omega); (first | cases eo17 | (injection eo17 with ea_ en_ ec_; (first | subst ea_ | (injection ea_ with ea_; subst ea_)); subst ec_; clear en_))
         have GB17 := aa.mk gb17; have GG17 := aa.mk HG17; clear gb17 gl17 HG17; obtain ⟨hx17_0, hf17_0⟩ := Kd.vC 0 gy.out (dK : Int) p17 q17; replace p17 := eq_true p17; replace q17 := eq_true q17; have HP19 := Kd.Er gy.out (dK : Int) ((IntKind.u64.wrap (eY + (IntKind.u64.wrap (rd l0 dK)))) % 4294967296); go_wp2_with (first | ((with_reducible refine vD (t := 119) (p := 47) rfl ?_); refine tN (t := 119) (p := 47) (v := ?vo_w20) (w1 := (wr.setCell ⟨go17, (dK : Int).toNat, none⟩ (.int .u32 ((IntKind.u64.wrap (eY + (IntKind.u64.wrap (rd l0 dK)))) % 4294967296)))) ?hg ?ho ?hn ?hr ?_; (case ho => rfl); (case hg => rfl); (case hn => rfl); (case hr => first | (go_simp; done) | (go_simp; rfl)); intro w20 hw; have hg : wr.grownBy w20 (some go17) := (by rw [hw]; exact HP19.2); have hp_ : Kd.R (Kd.int .u32) 119 w20 w.heap.size (fun _ => True) (.slice (some ⟨go17, 0, none⟩) bZ.length co18) y527 := (by rw [hw, Ny527.out]; exact HP19.1); clear HP19; replace gy := aa.mk (hp_); replace HB := aa.mk ((by rw [hw]; exact jA (HB.out) GB17.out : Below w.heap.size w w20)); clear hg hw hp_))
         go_roundg k1
         case measure => have := HK1.out; omega
         case rel => exact ⟨(y527), ((IntKind.u64.wrap (eY + (IntKind.u64.wrap (rd l0 dK)))) / 4294967296), (wrap64 (dK + 1)), rs_, rs_, H', ⟨by have := HK1.out; omega⟩, ⟨pR_ gy.out⟩, ⟨bl_⟩⟩
       ·rw [if_neg c11] at H; exact absurd H (by simp)
      ·rw [if_neg c10] at H; have ig := decide_eq_false c10; clear c10; by_cases c21 : dK < (l1.length : Int)
       ·rw [if_pos c21] at H; have AZ := decide_eq_true c21; clear c21; by_cases c22 : 0 ≤ dK
        ·rw [if_pos c22] at H; have c22b0 := decide_eq_true c22; clear c22; obtain ⟨y529, Li⟩ : ∃ y_ : List Int, y_ = (bZ.set (dK : Int).toNat ((IntKind.u64.wrap (eY + (IntKind.u64.wrap (rd l1 dK)))) % 4294967296)) := ⟨_, rfl⟩; replace H : (bJ.l0 k1 l0 l1 y529 ((IntKind.u64.wrap (eY + (IntKind.u64.wrap (rd l1 dK)))) / 4294967296) (wrap64 (dK + 1))) = some r := by first | (rw [Li]; with_reducible exact H) | (have H2_ := (Option.bind_some _ _).symm.trans H; rw [Li]; with_reducible exact H2_) | (have H2_ := (Option.bind_some _ _).symm.trans H; with_reducible exact H2_) | with_reducible exact H | (rw [Li]; exact H) | exact H
         have Ny529 := aa.mk Li; clear Li; have H' := aa.mk H; clear H; obtain ⟨r9, oN, Am⟩ := Kd.bK gy.out; subst Am; have p528 : 0 ≤ (dK : Int) := dt_; have q528 : dK < (l1.length : Int) := dt_; obtain ⟨ad528, e528, Rh⟩ := Kd.jq HR1.out dK p528 q528; cases e528; replace Rh := hc_ HB Rh; replace p528 := eq_true p528; replace q528 := eq_true q528; have p23 : 0 ≤ (dK : Int) := dt_; have q23 : (dK : Int) < ((bZ.length : Int) : Int) := dt_; obtain ⟨go23, vv, zm, gb23, gl23, cl23, HG23⟩ := Kd.CX gy.out (by omega); (first | cases zm | (injection zm with ea_ en_ ec_; (first | subst ea_ | (injection ea_ with ea_; subst ea_)); subst ec_; clear en_))
         have GB23 := aa.mk gb23; have GG23 := aa.mk HG23; clear gb23 gl23 HG23; obtain ⟨hx23_0, hf23_0⟩ := Kd.vC 0 gy.out (dK : Int) p23 q23; replace p23 := eq_true p23; replace q23 := eq_true q23; have HP25 := Kd.Er gy.out (dK : Int) ((IntKind.u64.wrap (eY + (IntKind.u64.wrap (rd l1 dK)))) % 4294967296); go_wp2_with (first | ((with_reducible refine vD (t := 119) (p := 47) rfl ?_); refine tN (t := 119) (p := 47) (v := ?vo_w26) (w1 := (wr.setCell ⟨go23, (dK : Int).toNat, none⟩ (.int .u32 ((IntKind.u64.wrap (eY + (IntKind.u64.wrap (rd l1 dK)))) % 4294967296)))) ?hg ?ho ?hn ?hr ?_; (case ho => rfl); (case hg => rfl); (case hn => rfl); (case hr => first | (go_simp; done) | (go_simp; rfl)); intro w26 hw; have hg : wr.grownBy w26 (some go23) := (by rw [hw]; exact HP25.2); have hp_ : Kd.R (Kd.int .u32) 119 w26 w.heap.size (fun _ => True) (.slice (some ⟨go23, 0, none⟩) bZ.length oN) y529 := (by rw [hw, Ny529.out]; exact HP25.1); clear HP25; replace gy := aa.mk (hp_); replace HB := aa.mk ((by rw [hw]; exact jA (HB.out) GB23.out : Below w.heap.size w w26)); clear hg hw hp_))
         go_roundg k1
         case measure => have := HK1.out; omega
         case rel => exact ⟨(y529), ((IntKind.u64.wrap (eY + (IntKind.u64.wrap (rd l1 dK)))) / 4294967296), (wrap64 (dK + 1)), rs_, rs_, H', ⟨by have := HK1.out; omega⟩, ⟨pR_ gy.out⟩, ⟨bl_⟩⟩
        ·rw [if_neg c22] at H; exact absurd H (by simp)
       ·rw [if_neg c21] at H; have AZ := decide_eq_false c21; clear c21; by_cases c27 : 0 ≤ dK
        ·rw [if_pos c27] at H; have Kh := decide_eq_true c27; clear c27; obtain ⟨y530, Lj⟩ : ∃ y_ : List Int, y_ = (bZ.set (dK : Int).toNat ((eY) % 4294967296)) := ⟨_, rfl⟩; replace H : (bJ.l0 k1 l0 l1 y530 (eY / 4294967296) (wrap64 (dK + 1))) = some r := by first | (rw [Lj]; with_reducible exact H) | (have H2_ := (Option.bind_some _ _).symm.trans H; rw [Lj]; with_reducible exact H2_) | (have H2_ := (Option.bind_some _ _).symm.trans H; with_reducible exact H2_) | with_reducible exact H | (rw [Lj]; exact H) | exact H
         have Ny530 := aa.mk Lj; clear Lj; have H' := aa.mk H; clear H; obtain ⟨Ao29, co29, eo29⟩ := Kd.bK gy.out; subst eo29; have p28 : 0 ≤ (dK : Int) := dt_; have q28 : (dK : Int) < ((bZ.length : Int) : Int) := dt_; obtain ⟨go28, co28, eo28, gb28, gl28, cl28, HG28⟩ := Kd.CX gy.out (by omega); (first | cases eo28 | (injection eo28 with ea_ en_ ec_; (first | subst ea_ | (injection ea_ with ea_; subst ea_)); subst ec_; clear en_))
         have GB28 := aa.mk gb28; have GG28 := aa.mk HG28; clear gb28 gl28 HG28; obtain ⟨hx28_0, hf28_0⟩ := Kd.vC 0 gy.out (dK : Int) p28 q28; replace p28 := eq_true p28; replace q28 := eq_true q28; have HP30 := Kd.Er gy.out (dK : Int) ((eY) % 4294967296); go_wp2_with (first | ((with_reducible refine vD (t := 119) (p := 47) rfl ?_); refine tN (t := 119) (p := 47) (v := ?vo_w31) (w1 := (wr.setCell ⟨go28, (dK : Int).toNat, none⟩ (.int .u32 ((eY) % 4294967296)))) ?hg ?ho ?hn ?hr ?_; (case ho => rfl); (case hg => rfl); (case hn => rfl); (case hr => first | (go_simp; done) | (go_simp; rfl)); intro w31 hw; have hg : wr.grownBy w31 (some go28) := (by rw [hw]; exact HP30.2); have hp_ : Kd.R (Kd.int .u32) 119 w31 w.heap.size (fun _ => True) (.slice (some ⟨go28, 0, none⟩) bZ.length co29) y530 := (by rw [hw, Ny530.out]; exact HP30.1); clear HP30; replace gy := aa.mk (hp_); replace HB := aa.mk ((by rw [hw]; exact jA (HB.out) GB28.out : Below w.heap.size w w31)); clear hg hw hp_))
         go_roundg k1
         case measure => have := HK1.out; omega
         case rel => exact ⟨(y530), (eY / 4294967296), (wrap64 (dK + 1)), rs_, rs_, H', ⟨by have := HK1.out; omega⟩, ⟨pR_ gy.out⟩, ⟨bl_⟩⟩
        ·rw [if_neg c27] at H; exact absurd H (by simp)
     ·rw [if_neg c9] at H; have qE := decide_eq_false c9; clear c9; replace H := Option.bind_eq_some_iff.mp H; obtain ⟨t521, A320, H⟩ := H; (try dsimp only at H)
      have A32 := aa.mk A320; clear A320; obtain rfl := Option.some.inj H; obtain ⟨Ao33, co33, eo33⟩ := Kd.bK gy.out; subst eo33; go_wp2_with (first | ((with_reducible refine aD (f := 116) rfl ?_); refine aZ (some 51) rfl rfl Tryd.func116 (by kernel_rfl) rfl #[.slice Ao33 bZ.length co33] rfl mp_ ?_; (with_reducible refine (ay.calls k1 _ _ bZ t521 _ ?az ?aA A32.out).mono ?_); (case az => exact cb_ ((Kd.aY gy.out).2.2)); (case aA => exact (Kd.aY gy.out).2.1); rintro e w34 ⟨v522, rfl, ho0, hb⟩; refine ⟨_, rfl, ?_⟩; have HO523 := aa.mk (Kd.bC (Kd.cz ho0 (Kd.dQ (pR_ gy.out))) (ax bl_)); replace gy := aa.mk (Kd.cB (pR_ gy.out) (Kd.cu ho0) hb); replace HB := aa.mk (ai bl_ hb); (try clear hb); (try clear hb2); (try clear hk); (try clear hi); (try clear ho0)))
      go_ret; exact ⟨_, by first | rfl | (simp [eT, eU] <;> rfl) | (simp only [← DD, ← hji4]; first | rfl | (simp [eT, eU] <;> rfl)) | (simp [*, eT, eU] <;> rfl), by (with_reducible repeat (first | apply Kd.bL | apply Kd.bM | apply Kd.bQ)); exact Kd.bG HO523.out (fun _ hk => trivial), bl_⟩
  ·rw [if_neg c6] at H; exact absurd H (by simp)
 ·rw [if_neg c5] at H; exact absurd H (by simp)

end Go.Proofs.YtggelekooacmnaaDoor.Q
namespace Go.Proofs.YtggelekooacmnaaDoor.Q
open Go.RowKit Go.Proofs.YtggelekooacmnaaDoorW.aU Go.Proofs.YtggelekooacmnaaDoorW.bD Go.Proofs.YtggelekooacmnaaDoorW.bH
attribute [local go_sem] dB dC dN dO cO cZ dD dE   -- for this text's walks alone
set_option linter.unusedVariables false
set_option linter.unusedSimpArgs false

/-! ### fQ: function 100 -/
def fQ.f (k : Nat) (a0 : Int) : Option (Bool × List Int × List Int) := if a0 ≥ 0 then ((dV.f k a0).bind fun bt532 => (some (false, bt532.1, (([1] : List Int))))) else ((dV.f k (wrap64 (-(wrap64 (a0 + 1))))).bind fun bt539 => ((bJ.f k bt539.1 (([1] : List Int))).bind fun DV => (some (true, DV, (([1] : List Int))))))
theorem fQ.mono : ∀ a0 k, LeO (fQ.f k a0) (fQ.f (k + 1) a0) := by
 intro a0 k; unfold fQ.f
 repeat' first
   | (with_reducible exact bJ.mono _ _ _)
   | (with_reducible exact dV.mono _ _)
   | (with_reducible exact LeO.refl _)
   | (with_reducible exact LeO.none _)
   | (with_reducible refine LeO.ite ?_ ?_)
   | (with_reducible refine LeO.bind ?_ (fun _ => ?_))
   | exact bJ.mono _ _ _
   | exact dV.mono _ _
   | exact LeO.none _
   | refine LeO.ite ?_ ?_
   | refine LeO.bind ?_ (fun _ => ?_)
set_option maxHeartbeats 8000000 in
set_option maxRecDepth 100000 in
theorem fQ.calls (k : Nat) (a0 : Int) (r1 : Bool) (r2 : List Int) (r3 : List Int) (w : World) (h : fQ.f k a0 = some (r1, r2, r3)) :
  Calls Tryd.prog 100 #[.int .i64 a0] w fun e w' => ∃ v1_ v2_ : Value, e = .returned (.agg #[.bool r1, v1_, v2_]) ∧ Kd.R (Kd.int .u32) 119 w' w.heap.size (fun k_ => some k_ ≠ (v2_ : Value).ownBlock) v1_ r2 ∧ Kd.R (Kd.int .u32) 119 w' w.heap.size (fun k_ => some k_ ≠ (v1_ : Value).ownBlock) v2_ r3 ∧ Below w.heap.size w w' := by
 have hu104 := Tryd.underlying104; have HB := aa.mk (Below.refl w.heap.size w); have H : (if a0 ≥ 0 then ((dV.f k a0).bind fun bt532 => (some (false, bt532.1, (([1] : List Int))))) else ((dV.f k (wrap64 (-(wrap64 (a0 + 1))))).bind fun bt539 => ((bJ.f k bt539.1 (([1] : List Int))).bind fun DV => (some (true, DV, (([1] : List Int))))))) = some (r1, r2, r3) := h; clear h; by_cases c2 : a0 ≥ 0
 ·rw [if_pos c2] at H; have iZ : decide (0 ≤ a0) = true := decide_eq_true c2; clear c2; replace H := Option.bind_eq_some_iff.mp H; obtain ⟨⟨t532, t533⟩, A30, H⟩ := H; (try dsimp only at H)
  have A3 := aa.mk A30; clear A30; obtain ⟨y536, Ll⟩ : ∃ y_ : List Int, y_ = (([1] : List Int)) := ⟨_, rfl⟩; replace H : (some (false, t532, y536)) = some (r1, r2, r3) := by first | (rw [Ll]; with_reducible exact H) | (have H2_ := (Option.bind_some _ _).symm.trans H; rw [Ll]; with_reducible exact H2_) | (have H2_ := (Option.bind_some _ _).symm.trans H; with_reducible exact H2_) | with_reducible exact H | (rw [Ll]; exact H) | exact H
  have Ny536 := aa.mk Ll; clear Ll; simp only [Option.some.injEq, Prod.mk.injEq] at H; obtain ⟨rfl, rfl, rfl⟩ := H; go_enter Tryd.func100, Tryd.ntmps100; go_wp2_with (first | ((with_reducible refine aW (N := 2) rfl ?_); refine bf ?hg (N := 2) ?hd (cs := #[.bool false, .slice none 0 0, .slice none 0 0]) (t := 104) ?hr ?_; (case hd => rfl); (case hg => rfl); (case hr => first | (go_simp; done) | (go_simp; rfl)); intro qC hg w4 aG hb; have nP := aa.mk (aG); have GW531 : aa (w.heap.size ≤ qC) := gw_ hg (ax bl_); have GE531 := GW531; replace HB := aa.mk (ai bl_ hb); clear hb aG hg) | ((with_reducible refine aD (f := 109) rfl ?_); refine aZ (some 11) rfl rfl Tryd.func109 (by kernel_rfl) rfl #[.int .i64 a0] rfl mp_ ?_; (with_reducible refine (dV.calls k a0 t532 t533 _ A3.out).mono ?_); rintro e w5 ⟨v534, rfl, ho0, hb⟩; refine ⟨_, rfl, ?_⟩; have Lm := aa.mk (Kd.bC ho0 (ax bl_)); replace nP := kb_ nP hb; replace HB := aa.mk (ai bl_ hb); (try clear hb); (try clear hb2); (try clear hk); (try clear hi); (try clear ho0)) | ((with_reducible refine aW (N := 15) rfl ?_); refine Kd.mi (Kd.int .u32) _ 119 ?hg (N := 15) ?hd (xs := ([1] : List Int)) (inner := [.int .u32 1]) (ok := fun _ => True) (okp := fun _ => True) ?hr ?hp (fun _ hk => hk) trivial (Below.refl _ _) (Nat.le_refl _) (by simp) ?_; (case hd => rfl); (case hg => rfl); (case hr => first | (go_simp; done) | (go_simp; rfl)); (case hp => exact (dA.one (show Kd.M (Kd.int .u32) _ _ _ 1 [.int .u32 1] from rfl) (dA.none _ _))); intro v537 w6 ho7 hb hg_ fZ; clear hg_ fZ; (first | rw [← Ny536.out] at ho7 | (simp only [Int.reduceToNat] at ho7; rw [← Ny536.out] at ho7)); have HO538 := aa.mk (Kd.bC (Kd.cz ho7 (Kd.dQ (pR_ Lm.out))) (ax bl_)); replace Lm := aa.mk (Kd.cB (pR_ Lm.out) (Kd.cu ho7) hb); replace nP := kb_ nP hb; replace HB := aa.mk (ai bl_ hb); clear hb ho7; obtain ⟨Ao8, co8, eo8⟩ := Kd.bK HO538.out; subst eo8; obtain ⟨Ao9, co9, eo9⟩ := Kd.bK Lm.out; subst eo9; obtain ⟨uj, uk, um, uo, uq, uu⟩ := lD nP.out))
  refine bodyPost_ret (results_cell_row rfl _ _ qC 104 #[.bool false, .slice Ao9 t532.length co9, .slice Ao8 y536.length co8] (0, 0) _ rfl b5_ Tryd.underlying104 rfl (by kernel_rfl)) rfl ?_
  exact ⟨_, _, re_, by (with_reducible repeat (first | apply Kd.bL | apply Kd.bM | apply Kd.bQ)); exact Kd.bG (Kd.bI (p := ⟨qC, 2, none⟩) (Kd.bI (p := ⟨qC, 1, none⟩) (Kd.bI (p := ⟨qC, 0, none⟩) (Kd.gB Lm.out nP.out (by decide)) (fun _ hk => hk.2) (.bool false)) (fun _ hk => hk.2) (.slice Ao9 t532.length co9)) (fun _ hk => hk.2) (.slice Ao8 y536.length co8)) (fun _ hk => hk.1.2), by (with_reducible repeat (first | apply Kd.bL | apply Kd.bM | apply Kd.bQ)); exact Kd.bG (Kd.bI (p := ⟨qC, 2, none⟩) (Kd.bI (p := ⟨qC, 1, none⟩) (Kd.bI (p := ⟨qC, 0, none⟩) (Kd.gB HO538.out nP.out (by decide)) (fun _ hk => hk.2) (.bool false)) (fun _ hk => hk.2) (.slice Ao9 t532.length co9)) (fun _ hk => hk.2) (.slice Ao8 y536.length co8)) (fun _ hk => hk.1.2), bl_⟩
 ·rw [if_neg c2] at H; have iZ : decide (0 ≤ a0) = false := decide_eq_false c2; clear c2; replace H := Option.bind_eq_some_iff.mp H; obtain ⟨⟨t539, t540⟩, A110, H⟩ := H; (try dsimp only at H)
  have A11 := aa.mk A110; clear A110; obtain ⟨y543, Lp⟩ : ∃ y_ : List Int, y_ = (([1] : List Int)) := ⟨_, rfl⟩; replace H : ((bJ.f k t539 y543).bind fun DV => (some (true, DV, (([1] : List Int))))) = some (r1, r2, r3) := by first | (rw [Lp]; with_reducible exact H) | (have H2_ := (Option.bind_some _ _).symm.trans H; rw [Lp]; with_reducible exact H2_) | (have H2_ := (Option.bind_some _ _).symm.trans H; with_reducible exact H2_) | with_reducible exact H | (rw [Lp]; exact H) | exact H
  have Ny543 := aa.mk Lp; clear Lp; replace H := Option.bind_eq_some_iff.mp H; obtain ⟨DV, A120, H⟩ := H; (try dsimp only at H)
  have A12 := aa.mk A120; clear A120; obtain ⟨y549, Lr⟩ : ∃ y_ : List Int, y_ = (([1] : List Int)) := ⟨_, rfl⟩; replace H : (some (true, DV, y549)) = some (r1, r2, r3) := by first | (rw [Lr]; with_reducible exact H) | (have H2_ := (Option.bind_some _ _).symm.trans H; rw [Lr]; with_reducible exact H2_) | (have H2_ := (Option.bind_some _ _).symm.trans H; with_reducible exact H2_) | with_reducible exact H | (rw [Lr]; exact H) | exact H
  have Ny549 := aa.mk Lr; clear Lr; simp only [Option.some.injEq, Prod.mk.injEq] at H; obtain ⟨rfl, rfl, rfl⟩ := H; go_enter Tryd.func100, Tryd.ntmps100; go_wp2_with (first | ((with_reducible refine aW (N := 2) rfl ?_); refine bf ?hg (N := 2) ?hd (cs := #[.bool false, .slice none 0 0, .slice none 0 0]) (t := 104) ?hr ?_; (case hd => rfl); (case hg => rfl); (case hr => first | (go_simp; done) | (go_simp; rfl)); intro qC hg w13 aG hb; have nP := aa.mk (aG); have GW531 : aa (w.heap.size ≤ qC) := gw_ hg (ax bl_); have GE531 := GW531; replace HB := aa.mk (ai bl_ hb); clear hb aG hg) | ((with_reducible refine aD (f := 109) rfl ?_); refine aZ (some 21) rfl rfl Tryd.func109 (by kernel_rfl) rfl #[.int .i64 (wrap64 (-(wrap64 (a0 + 1))))] rfl mp_ ?_; (with_reducible refine (dV.calls k (wrap64 (-(wrap64 (a0 + 1)))) t539 t540 _ A11.out).mono ?_); rintro e w14 ⟨v541, rfl, ho0, hb⟩; refine ⟨_, rfl, ?_⟩; have xG := aa.mk (Kd.bC ho0 (ax bl_)); replace nP := kb_ nP hb; replace HB := aa.mk (ai bl_ hb); (try clear hb); (try clear hb2); (try clear hk); (try clear hi); (try clear ho0)) | ((with_reducible refine aW (N := 25) rfl ?_); refine Kd.mi (Kd.int .u32) _ 119 ?hg (N := 25) ?hd (xs := ([1] : List Int)) (inner := [.int .u32 1]) (ok := fun _ => True) (okp := fun _ => True) ?hr ?hp (fun _ hk => hk) trivial (Below.refl _ _) (Nat.le_refl _) (by simp) ?_; (case hd => rfl); (case hg => rfl); (case hr => first | (go_simp; done) | (go_simp; rfl)); (case hp => exact (dA.one (show Kd.M (Kd.int .u32) _ _ _ 1 [.int .u32 1] from rfl) (dA.none _ _))); intro v544 w15 ho16 hb hg_ fZ; clear hg_ fZ; (first | rw [← Ny543.out] at ho16 | (simp only [Int.reduceToNat] at ho16; rw [← Ny543.out] at ho16)); have BV := aa.mk (Kd.bC (Kd.cz ho16 (Kd.dQ (pR_ xG.out))) (ax bl_)); replace xG := aa.mk (Kd.cB (pR_ xG.out) (Kd.cu ho16) hb); replace nP := kb_ nP hb; replace HB := aa.mk (ai bl_ hb); clear hb ho16; obtain ⟨Ao17, co17, eo17⟩ := Kd.bK xG.out; subst eo17; obtain ⟨Ao18, co18, eo18⟩ := Kd.bK BV.out; subst eo18) | ((with_reducible refine aD (f := 110) rfl ?_); refine aZ (some 26) rfl rfl Tryd.func110 (by kernel_rfl) rfl #[.slice Ao17 t539.length co17, .slice Ao18 y543.length co18] rfl mp_ ?_; (with_reducible refine (bJ.calls k _ _ t539 _ _ y543 DV _ ?az ?aA ?eH ?eO A12.out).mono ?_); (case az => exact cb_ ((Kd.aY xG.out).2.2)); (case aA => exact (Kd.aY xG.out).2.1); (case eH => exact cb_ ((Kd.aY BV.out).2.2)); (case eO => exact (Kd.aY BV.out).2.1); rintro e w19 ⟨v547, rfl, ho0, hb⟩; refine ⟨_, rfl, ?_⟩; have Ls := aa.mk (Kd.bC (Kd.cz (Kd.cz ho0 (Kd.dQ (pR_ xG.out))) (Kd.dQ (pR_ BV.out))) (ax bl_)); replace xG := aa.mk (Kd.cB (pR_ xG.out) (Kd.cu ho0) hb); replace BV := aa.mk (Kd.cB (pR_ BV.out) (Kd.cu ho0) hb); replace nP := kb_ nP hb; replace HB := aa.mk (ai bl_ hb); (try clear hb); (try clear hb2); (try clear hk); (try clear hi); (try clear ho0)) | ((with_reducible refine aW (N := 27) rfl ?_); refine Kd.mi (Kd.int .u32) _ 119 ?hg (N := 27) ?hd (xs := ([1] : List Int)) (inner := [.int .u32 1]) (ok := fun _ => True) (okp := fun _ => True) ?hr ?hp (fun _ hk => hk) trivial (Below.refl _ _) (Nat.le_refl _) (by simp) ?_; (case hd => rfl); (case hg => rfl); (case hr => first | (go_simp; done) | (go_simp; rfl)); (case hp => exact (dA.one (show Kd.M (Kd.int .u32) _ _ _ 1 [.int .u32 1] from rfl) (dA.none _ _))); intro v550 w20 ho21 hb hg_ fZ; clear hg_ fZ; (first | rw [← Ny549.out] at ho21 | (simp only [Int.reduceToNat] at ho21; rw [← Ny549.out] at ho21)); have HO551 := aa.mk (Kd.bC (Kd.cz (Kd.cz (Kd.cz ho21 (Kd.dQ (pR_ xG.out))) (Kd.dQ (pR_ BV.out))) (Kd.dQ (pR_ Ls.out))) (ax bl_)); replace xG := aa.mk (Kd.cB (pR_ xG.out) (Kd.cu ho21) hb); replace BV := aa.mk (Kd.cB (pR_ BV.out) (Kd.cu ho21) hb); replace Ls := aa.mk (Kd.cB (pR_ Ls.out) (Kd.cu ho21) hb); replace nP := kb_ nP hb; replace HB := aa.mk (ai bl_ hb); clear hb ho21; obtain ⟨DR, DT, eo22⟩ := Kd.bK HO551.out; subst eo22; obtain ⟨xL, vv, zm⟩ := Kd.bK Ls.out; subst zm; obtain ⟨xY, xZ, yc, yf, yg, yh⟩ := lD nP.out))
  refine bodyPost_ret (results_cell_row rfl _ _ qC 104 #[.bool true, .slice xL DV.length vv, .slice DR y549.length DT] (0, 0) _ rfl b5_ Tryd.underlying104 rfl (by kernel_rfl)) rfl ?_
  exact ⟨_, _, re_, by (with_reducible repeat (first | apply Kd.bL | apply Kd.bM | apply Kd.bQ)); exact Kd.bG (Kd.bI (p := ⟨qC, 2, none⟩) (Kd.bI (p := ⟨qC, 1, none⟩) (Kd.bI (p := ⟨qC, 0, none⟩) (Kd.gB Ls.out nP.out (by decide)) (fun _ hk => hk.2) (.bool true)) (fun _ hk => hk.2) (.slice xL DV.length vv)) (fun _ hk => hk.2) (.slice DR y549.length DT)) (fun _ hk => hk.1.2), by (with_reducible repeat (first | apply Kd.bL | apply Kd.bM | apply Kd.bQ)); exact Kd.bG (Kd.bI (p := ⟨qC, 2, none⟩) (Kd.bI (p := ⟨qC, 1, none⟩) (Kd.bI (p := ⟨qC, 0, none⟩) (Kd.gB HO551.out nP.out (by decide)) (fun _ hk => hk.2) (.bool true)) (fun _ hk => hk.2) (.slice xL DV.length vv)) (fun _ hk => hk.2) (.slice DR y549.length DT)) (fun _ hk => hk.1.2), bl_⟩

end Go.Proofs.YtggelekooacmnaaDoor.Q
namespace Go.Proofs.YtggelekooacmnaaDoor.Q
open Go.RowKit Go.Proofs.YtggelekooacmnaaDoorW.aU Go.Proofs.YtggelekooacmnaaDoorW.bD Go.Proofs.YtggelekooacmnaaDoorW.bH
attribute [local go_sem] dB dC dN dO cO cZ dD dE   -- for this text's walks alone
set_option linter.unusedVariables false
set_option linter.unusedSimpArgs false

/-! ### dx: function 92 -/
def dx.f (k : Nat) (a0 : Int) : Option (ByteArray) := (fQ.f k a0).bind fun Gs => ((eZ.f k Gs.1 Gs.2.1 Gs.2.2).bind fun t559 => (some t559))
theorem dx.mono : ∀ a0 k, LeO (dx.f k a0) (dx.f (k + 1) a0) := by
  intro a0 k
  unfold dx.f
  repeat' first
      | (with_reducible exact eZ.mono _ _ _ _)
      | (with_reducible exact fQ.mono _ _)
      | (with_reducible exact LeO.refl _)
      | (with_reducible exact LeO.none _)
      | (with_reducible refine LeO.ite ?_ ?_)
      | (with_reducible refine LeO.bind ?_ (fun _ => ?_))
      | exact eZ.mono _ _ _ _
      | exact fQ.mono _ _
      | exact LeO.none _
      | refine LeO.ite ?_ ?_
      | refine LeO.bind ?_ (fun _ => ?_)
set_option maxHeartbeats 8000000 in
set_option maxRecDepth 100000 in
theorem dx.calls (k : Nat) (a0 : Int) (r : ByteArray) (w : World) (h : dx.f k a0 = some r) :
    Calls Tryd.prog 92 #[.int .i64 a0] w fun e w' => e = .returned (.string r) ∧ Below w.heap.size w w' := by
  have HB := aa.mk (Below.refl w.heap.size w)
  have H : ((fQ.f k a0).bind fun Gs => ((eZ.f k Gs.1 Gs.2.1 Gs.2.2).bind fun t559 => (some t559))) = some r := h
  clear h
  replace H := Option.bind_eq_some_iff.mp H
  obtain ⟨⟨t552, t553, t556⟩, A20, H⟩ := H
  replace H : ((eZ.f k t552 t553 t556).bind fun t559 => (some t559)) = some r := H
  have A2 := aa.mk A20
  clear A20
  replace H := Option.bind_eq_some_iff.mp H
  obtain ⟨t559, A30, H⟩ := H
  replace H : (some t559) = some r := H
  have A3 := aa.mk A30
  clear A30
  obtain rfl := Option.some.inj H
  go_enter Tryd.func92, Tryd.ntmps92
  go_wp2_with (first | ((with_reducible refine aD (f := 100) rfl ?_); refine aZ (some 4) rfl rfl Tryd.func100 (by kernel_rfl) rfl #[.int .i64 a0] rfl (by (try simp only [List.map_toArray, List.map_cons, List.map_nil]); first | done | rfl | (simp only [List.length_drop, List.length_take]; rfl)) ?_; (with_reducible refine (fQ.calls k a0 t552 t553 t556 _ A2.out).mono ?_); rintro e w4 ⟨v554, v557, rfl, ho0, ho1, hb⟩; refine ⟨_, rfl, ?_⟩; have n0_ := aa.mk (Kd.bC ho0 (ax (by repeat (first | (with_reducible first | exact HB.out | apply cK | apply bS | apply bR) | exact HB.out)))); have n1_ := aa.mk (Kd.bC ho1 (ax (by repeat (first | (with_reducible first | exact HB.out | apply cK | apply bS | apply bR) | exact HB.out)))); have n2_ := aa.mk (ai (by repeat (first | (with_reducible first | exact HB.out | apply cK | apply bS | apply bR) | exact HB.out)) hb); clear HB; have Jh := n0_; have Ji := n1_; have HB := n2_; clear n0_ n1_ n2_; (try clear hb); (try clear hb2); (try clear hk); (try clear hi); (try clear ho0); (try clear ho1); obtain ⟨Ao5, co5, eo5⟩ := Kd.bK Jh.out; subst eo5; obtain ⟨Ao6, co6, eo6⟩ := Kd.bK Ji.out; subst eo6) | ((with_reducible refine aD (f := 99) rfl ?_); refine aZ (some 5) rfl rfl Tryd.func99 (by kernel_rfl) rfl #[.agg #[.bool t552, .slice Ao5 t553.length co5, .slice Ao6 t556.length co6]] rfl (by (try simp only [List.map_toArray, List.map_cons, List.map_nil]); first | done | rfl | (simp only [List.length_drop, List.length_take]; rfl)) ?_; (with_reducible refine (eZ.calls k t552 _ _ t553 _ _ t556 t559 _ ?az ?aA ?eH ?eO A3.out).mono ?_); (case az => repeat (first | exact (Kd.aY Jh.out).2.2 | (with_reducible refine Kd.qM ?_ _) | (with_reducible refine Kd.qN ?_ _) | (with_reducible refine Kd.uS ?_))); (case aA => exact (Kd.aY Jh.out).2.1); (case eH => repeat (first | exact (Kd.aY Ji.out).2.2 | (with_reducible refine Kd.qM ?_ _) | (with_reducible refine Kd.qN ?_ _) | (with_reducible refine Kd.uS ?_))); (case eO => exact (Kd.aY Ji.out).2.1); rintro e w7 ⟨rfl, hb⟩; refine ⟨_, rfl, ?_⟩; have n0_ := aa.mk (Kd.dM (by (with_reducible repeat (first | apply Kd.bL | apply Kd.bM | apply Kd.bQ)); exact Jh.out) hb); have n1_ := aa.mk (Kd.dM (by (with_reducible repeat (first | apply Kd.bL | apply Kd.bM | apply Kd.bQ)); exact Ji.out) hb); have n2_ := aa.mk (ai (by repeat (first | (with_reducible first | exact HB.out | apply cK | apply bS | apply bR) | exact HB.out)) hb); clear Jh; clear Ji; clear HB; have Jh := n0_; have Ji := n1_; have HB := n2_; clear n0_ n1_ n2_; (try clear hb); (try clear hb2); (try clear hk); (try clear hi)))
  go_ret
  exact ⟨by first | rfl | (simp [eT, eU] <;> rfl) | (simp [*, eT, eU] <;> rfl), by repeat (first | (with_reducible first | exact HB.out | apply cK | apply bS | apply bR) | exact HB.out)⟩

end Go.Proofs.YtggelekooacmnaaDoor.Q
namespace Go.Proofs.YtggelekooacmnaaDoor.Q
open Go.RowKit Go.Proofs.YtggelekooacmnaaDoorW.aU Go.Proofs.YtggelekooacmnaaDoorW.bD Go.Proofs.YtggelekooacmnaaDoorW.bH
attribute [local go_sem] dB dC dN dO cO cZ dD dE   -- for this text's walks alone
set_option linter.unusedVariables false
set_option linter.unusedSimpArgs false

/-! ### bn: function 74 -/
mutual
def bn.l0 : Nat → ByteArray → Int → Int → Int → Int → Int → List (S24) → Option (ByteArray)
 | 0, _, _, _, _, _, _, _ => none
 | k + 1, x3, x4, Ri, Rj, Rk, Rl, oD => if x4 < (oD.length : Int) then (if x4 > 0 then (if x3.size + 2 ≤ 9223372036854775807 then (if 0 ≤ x4 then ((bn.f k ((ag oD x4).f0) ((ag oD x4).f1) ((ag oD x4).f2) ((ag oD x4).f3) ((ag oD x4).f4)).bind fun t567 => (if (x3 ++ (⟨#[44, 32]⟩ : ByteArray)).size + t567.size ≤ 9223372036854775807 then (bn.l0 k ((x3 ++ (⟨#[44, 32]⟩ : ByteArray)) ++ t567) (wrap64 (x4 + 1)) Ri Rj Rk Rl oD) else (none))) else (none)) else (none)) else (if 0 ≤ x4 then ((bn.f k ((ag oD x4).f0) ((ag oD x4).f1) ((ag oD x4).f2) ((ag oD x4).f3) ((ag oD x4).f4)).bind fun t569 => (if x3.size + t569.size ≤ 9223372036854775807 then (bn.l0 k (x3 ++ t569) (wrap64 (x4 + 1)) Ri Rj Rk Rl oD) else (none))) else (none))) else (if x3.size + 1 ≤ 9223372036854775807 then (some (x3 ++ (⟨#[41]⟩ : ByteArray))) else (none))
def bn.f : Nat → Int → Int → Int → Int → List (S24) → Option (ByteArray)
 | 0, _, _, _, _, _ => none
 | k + 1, ah, au, aj, ak, af => if ah = 1 then (some (⟨#[98, 111, 111, 108]⟩ : ByteArray)) else (if ah = 2 then ((dx.f k au).bind fun nQ => (if 4 + nQ.size ≤ 9223372036854775807 then (if ((⟨#[105, 110, 116, 91]⟩ : ByteArray) ++ nQ).size + 2 ≤ 9223372036854775807 then ((dx.f k aj).bind fun xM => (if (((⟨#[105, 110, 116, 91]⟩ : ByteArray) ++ nQ) ++ (⟨#[44, 32]⟩ : ByteArray)).size + xM.size ≤ 9223372036854775807 then (if ((((⟨#[105, 110, 116, 91]⟩ : ByteArray) ++ nQ) ++ (⟨#[44, 32]⟩ : ByteArray)) ++ xM).size + 1 ≤ 9223372036854775807 then (some (((((⟨#[105, 110, 116, 91]⟩ : ByteArray) ++ nQ) ++ (⟨#[44, 32]⟩ : ByteArray)) ++ xM) ++ (⟨#[93]⟩ : ByteArray))) else (none)) else (none))) else (none)) else (none))) else (if ah = 3 then (some (⟨#[110, 97, 116]⟩ : ByteArray)) else (if ah = 4 then (some (⟨#[114, 101, 97, 108]⟩ : ByteArray)) else (if ah = 6 then ((dx.f k ak).bind fun tq => (if 5 + tq.size ≤ 9223372036854775807 then (if ((⟨#[108, 105, 115, 116, 91]⟩ : ByteArray) ++ tq).size + 2 ≤ 9223372036854775807 then (if 0 < (af.length : Int) then ((bn.f k ((ag af 0).f0) ((ag af 0).f1) ((ag af 0).f2) ((ag af 0).f3) ((ag af 0).f4)).bind fun t565 => (if (((⟨#[108, 105, 115, 116, 91]⟩ : ByteArray) ++ tq) ++ (⟨#[93, 32]⟩ : ByteArray)).size + t565.size ≤ 9223372036854775807 then (some ((((⟨#[108, 105, 115, 116, 91]⟩ : ByteArray) ++ tq) ++ (⟨#[93, 32]⟩ : ByteArray)) ++ t565)) else (none))) else (none)) else (none)) else (none))) else (bn.l0 k (⟨#[40]⟩ : ByteArray) 0 ah au aj ak af)))))
end
def bn.T5 : Bool × List (List Nat × List Nat) := (true, [([], []), ([0], [0]), ([1], [1]), ([2], [2]), ([3], [3]), ([], []), ([5], [5]), ([6, 2], [6]), ([4, 7], [4, 7]), ([8], [8]), ([9, 7, 0, 1, 2, 3, 4, 5, 6, 7, 8, 9], [9])])
def bn.B5 : List Nat := [0, 1, 3, 7, 15, 0, 32, 103, 255, 511, 1023]
theorem bn.tab5 : jG .any (opsOf Tryd.f74 5) = bn.T5 := by kernel_rfl
theorem bn.bits5 : mo bn.T5.2 bn.B5 = true := by kernel_rfl
def bn.T11 : Bool × List (List Nat × List Nat) := (true, [([], []), ([0], [0]), ([1], [1]), ([2], [2]), ([3], [3]), ([], []), ([5], [5]), ([6], [6]), ([7], [7]), ([8, 2], [8]), ([4, 9], [4, 9]), ([10, 9, 0, 1, 2, 3, 4, 5, 6, 7, 8, 9, 10], [10])])
def bn.B11 : List Nat := [0, 1, 3, 7, 15, 0, 32, 96, 224, 487, 1023, 2047]
theorem bn.JW : jG .any (opsOf Tryd.f74 11) = bn.T11 := by kernel_rfl
theorem bn.GG : mo bn.T11.2 bn.B11 = true := by kernel_rfl
set_option maxHeartbeats 8000000 in
set_option maxRecDepth 100000 in
theorem bn.calls (k : Nat) : ∀ (ah : Int) (au : Int) (aj : Int) (ak : Int) (aM : Option Addr) (aH : Nat) (af : List (S24)) (r : ByteArray) (w : World) (di : Kd.C k24 w aM af.length af) (dm : af.length ≤ aH) (h : bn.f k ah au aj ak af = some r),
  Calls Tryd.prog 74 #[.agg #[.int .i64 ah, .int .i64 au, .int .i64 aj, .int .i64 ak, .slice aM af.length aH]] w fun e w' => e = .returned (.string r) ∧ Below w.heap.size w w' := by
 induction k using Nat.strongRecOn with
 | _ k ih =>
 intro ah au aj ak aM aH af r w di dm h; cases k with
 | zero => exact absurd h (by simp [bn.f])
 | succ k =>
 simp only [bn.f] at h; have mg := Tryd.underlying24; have bu := aa.mk di; have bU := aa.mk dm; clear di dm; have HB := aa.mk (Below.refl w.heap.size w); have H : (if ah = 1 then (some (⟨#[98, 111, 111, 108]⟩ : ByteArray)) else (if ah = 2 then ((dx.f k au).bind fun nQ => (if 4 + nQ.size ≤ 9223372036854775807 then (if ((⟨#[105, 110, 116, 91]⟩ : ByteArray) ++ nQ).size + 2 ≤ 9223372036854775807 then ((dx.f k aj).bind fun xM => (if (((⟨#[105, 110, 116, 91]⟩ : ByteArray) ++ nQ) ++ (⟨#[44, 32]⟩ : ByteArray)).size + xM.size ≤ 9223372036854775807 then (if ((((⟨#[105, 110, 116, 91]⟩ : ByteArray) ++ nQ) ++ (⟨#[44, 32]⟩ : ByteArray)) ++ xM).size + 1 ≤ 9223372036854775807 then (some (((((⟨#[105, 110, 116, 91]⟩ : ByteArray) ++ nQ) ++ (⟨#[44, 32]⟩ : ByteArray)) ++ xM) ++ (⟨#[93]⟩ : ByteArray))) else (none)) else (none))) else (none)) else (none))) else (if ah = 3 then (some (⟨#[110, 97, 116]⟩ : ByteArray)) else (if ah = 4 then (some (⟨#[114, 101, 97, 108]⟩ : ByteArray)) else (if ah = 6 then ((dx.f k ak).bind fun tq => (if 5 + tq.size ≤ 9223372036854775807 then (if ((⟨#[108, 105, 115, 116, 91]⟩ : ByteArray) ++ tq).size + 2 ≤ 9223372036854775807 then (if 0 < (af.length : Int) then ((bn.f k ((ag af 0).f0) ((ag af 0).f1) ((ag af 0).f2) ((ag af 0).f3) ((ag af 0).f4)).bind fun t565 => (if (((⟨#[108, 105, 115, 116, 91]⟩ : ByteArray) ++ tq) ++ (⟨#[93, 32]⟩ : ByteArray)).size + t565.size ≤ 9223372036854775807 then (some ((((⟨#[108, 105, 115, 116, 91]⟩ : ByteArray) ++ tq) ++ (⟨#[93, 32]⟩ : ByteArray)) ++ t565)) else (none))) else (none)) else (none)) else (none))) else (bn.l0 k (⟨#[40]⟩ : ByteArray) 0 ah au aj ak af)))))) = some r := h; clear h; by_cases c2 : ah = 1
 ·rw [if_pos c2] at H; obtain ⟨iZ, kR⟩ := bq_ c2; clear c2; obtain rfl := Option.some.inj H; go_enter Tryd.func74, Tryd.ntmps74; go_wp2_with (first | ((with_reducible refine aW (N := 1) rfl ?_); refine bf ?hg (N := 1) ?hd (cs := #[.int .i64 ah, .int .i64 au, .int .i64 aj, .int .i64 ak, .slice aM af.length aH]) (t := 24) ?hr ?_; (case hd => rfl); (case hg => rfl); (case hr => first | (go_simp; done) | (go_simp; rfl)); intro kS hg w3 aG hb; have eu := aa.mk (aG); have zn : aa (w.heap.size ≤ kS) := gw_ hg (ax bl_); have Lt := zn; replace HB := aa.mk (ai bl_ hb); clear hb aG hg; obtain ⟨iA, iB, iC, iD, iE, iF, iG, iH, iI, iJ⟩ := bg eu.out))
  go_ret; exact ⟨re_, bl_⟩
 ·rw [if_neg c2] at H; obtain ⟨iZ, kR⟩ := bn_ c2; by_cases c5 : ah = 2
  ·rw [if_pos c5] at H; obtain ⟨gQ, qF⟩ := bq_ c5; clear c5; replace H := Option.bind_eq_some_iff.mp H; obtain ⟨nQ, A60, H⟩ := H; (try dsimp only at H)
   have A6 := aa.mk A60; clear A60; by_cases c7 : 4 + nQ.size ≤ 9223372036854775807
   ·rw [if_pos c7] at H; have jM := eq_true c7; have vo := decide_eq_true c7; try have c7b2 : (9223372036854775807 < 4 + nQ.size) = False := eq_false (Nat.not_lt.2 c7)
    by_cases c8 : ((⟨#[105, 110, 116, 91]⟩ : ByteArray) ++ nQ).size + 2 ≤ 9223372036854775807
    ·rw [if_pos c8] at H; have gH := eq_true c8; have jv := decide_eq_true c8; try have c8b2 : (9223372036854775807 < ((⟨#[105, 110, 116, 91]⟩ : ByteArray) ++ nQ).size + 2) = False := eq_false (Nat.not_lt.2 c8)
     have c8b9 : (9223372036854775807 < 4 + nQ.size + 2) = False := by have h := c8; simp only [ByteArray.size_append, iW, List.size_toArray, List.length_cons, List.length_nil] at h; exact eq_false (by omega)
     replace H := Option.bind_eq_some_iff.mp H; obtain ⟨xM, A90, H⟩ := H; (try dsimp only at H)
     have A9 := aa.mk A90; clear A90; by_cases c10 : (((⟨#[105, 110, 116, 91]⟩ : ByteArray) ++ nQ) ++ (⟨#[44, 32]⟩ : ByteArray)).size + xM.size ≤ 9223372036854775807
     ·rw [if_pos c10] at H; have ig := eq_true c10; have zl := decide_eq_true c10; try have c10b2 : (9223372036854775807 < (((⟨#[105, 110, 116, 91]⟩ : ByteArray) ++ nQ) ++ (⟨#[44, 32]⟩ : ByteArray)).size + xM.size) = False := eq_false (Nat.not_lt.2 c10)
      have c10b9 : (9223372036854775807 < 4 + nQ.size + 2 + xM.size) = False := by have h := c10; simp only [ByteArray.size_append, iW, List.size_toArray, List.length_cons, List.length_nil] at h; exact eq_false (by omega)
      by_cases c11 : ((((⟨#[105, 110, 116, 91]⟩ : ByteArray) ++ nQ) ++ (⟨#[44, 32]⟩ : ByteArray)) ++ xM).size + 1 ≤ 9223372036854775807
      ·rw [if_pos c11] at H; have IE := eq_true c11; have c11b1 := decide_eq_true c11; try have c11b2 : (9223372036854775807 < ((((⟨#[105, 110, 116, 91]⟩ : ByteArray) ++ nQ) ++ (⟨#[44, 32]⟩ : ByteArray)) ++ xM).size + 1) = False := eq_false (Nat.not_lt.2 c11)
       have c11b9 : (9223372036854775807 < 4 + nQ.size + 2 + xM.size + 1) = False := by have h := c11; simp only [ByteArray.size_append, iW, List.size_toArray, List.length_cons, List.length_nil] at h; exact eq_false (by omega)
       obtain rfl := Option.some.inj H; go_enter Tryd.func74, Tryd.ntmps74; try go_wp2_with (first | ((with_reducible refine aW (N := 1) rfl ?_); refine bf ?hg (N := 1) ?hd (cs := #[.int .i64 ah, .int .i64 au, .int .i64 aj, .int .i64 ak, .slice aM af.length aH]) (t := 24) ?hr ?_; (case hd => rfl); (case hg => rfl); (case hr => first | (go_simp; done) | (go_simp; rfl)); intro kS hg w12 aG hb; have eu := aa.mk (aG); have zn : aa (w.heap.size ≤ kS) := gw_ hg (ax bl_); have Lt := zn; replace HB := aa.mk (ai bl_ hb); clear hb aG hg; obtain ⟨nU, nV, nW, oZ, o5, nX, nY, nZ, o6, o7⟩ := bg eu.out))
       replace eu := aa.mk (dz eu.out); replace HB := aa.mk (bR HB.out); refine oG (n := 11) (S := fun w' => w'.cell? ⟨kS, 0, none⟩ = some (.int .i64 ah) ∧ w'.cell? ⟨kS, 1, none⟩ = some (.int .i64 au) ∧ w'.cell? ⟨kS, 2, none⟩ = some (.int .i64 aj) ∧ w'.cell? ⟨kS, 3, none⟩ = some (.int .i64 ak) ∧ w'.cell? ⟨kS, 4, none⟩ = some (.slice aM af.length aH)) (ds := []) #[false, false, false, false, false, false, false, false, false, false, false] (by kernel_rfl) rfl rfl ⟨(av eu.out 0).trans rfl, (av eu.out 1).trans rfl, (av eu.out 2).trans rfl, (av eu.out 3).trans rfl, (av eu.out 4).trans rfl⟩ (fun hHeld => ?_); refine iV bn.tab5 bn.bits5 (fun HT_ HW_ => ?_)
       generalize w12.drew = w14 at eu HB hHeld ⊢
       refine pu_ HT_ 0 11 (bm 11 1) ?_
       refine pu_ HT_ 5 16 (bm 11 33) ?_
       refine ta_ HT_ HW_ 1 12 (bm 11 35) hHeld ?_
       refine ta_ HT_ HW_ 6 17 (bm 11 99) hHeld ?_
       refine kQ (i := 2) (N := some 13) #[true, true, true, false, false, true, true, false, false, false, false] rfl rfl (gK HT_.out (by kernel_rfl)) (by decide) (fun K hK => ?_)
       refine iU Tryd.func92 (by kernel_rfl) rfl #[.int .i64 au] (by rfl) rfl rfl mp_ ?_
       with_reducible refine (dx.calls k au nQ _ A6.out).mono ?_
       rintro e w15 ⟨rfl, hb⟩
       refine ⟨_, rfl, ?_⟩
       replace eu := kb_ eu hb; replace HB := aa.mk (ai bl_ hb); (try clear hb)
       (try clear hb2)
       (try clear hk)
       (try clear hi)
       refine hK.out _ _ ⟨(av eu.out 0).trans rfl, (av eu.out 1).trans rfl, (av eu.out 2).trans rfl, (av eu.out 3).trans rfl, (av eu.out 4).trans rfl⟩ (fun hHeld => ?_)
       clear hK K; refine iT (a' := ?_) ?_ ?_
       rotate_left
       ·show Act.put _ (some 13) _ = _
        simp only [Act.put, List.setIfInBounds_toArray, List.set_cons_zero, List.set_cons_succ, dS, ek]; rfl
       refine pu_ HT_ 3 14 (bm 11 111) ?_
       refine pu_ HT_ 4 15 (bm 11 127) ?_
       refine kQ (i := 7) (N := some 18) #[true, true, true, true, true, true, true, true, false, false, false] rfl rfl (gK HT_.out (by kernel_rfl)) (by decide) (fun K hK => ?_)
       refine iU Tryd.func92 (by kernel_rfl) rfl #[.int .i64 aj] (by rfl) rfl rfl mp_ ?_
       with_reducible refine (dx.calls k aj xM _ A9.out).mono ?_
       rintro e w16 ⟨rfl, hb⟩
       refine ⟨_, rfl, ?_⟩
       replace eu := kb_ eu hb; replace HB := aa.mk (ai bl_ hb); (try clear hb)
       (try clear hb2)
       (try clear hk)
       (try clear hi)
       refine hK.out _ _ ⟨(av eu.out 0).trans rfl, (av eu.out 1).trans rfl, (av eu.out 2).trans rfl, (av eu.out 3).trans rfl, (av eu.out 4).trans rfl⟩ (fun hHeld => ?_)
       clear hK K; refine iT (a' := ?_) ?_ ?_
       rotate_left
       ·show Act.put _ (some 18) _ = _
        simp only [Act.put, List.setIfInBounds_toArray, List.set_cons_zero, List.set_cons_succ, dS, ek]; rfl
       refine pu_ HT_ 8 19 (bm 11 511) ?_
       refine pu_ HT_ 9 20 (bm 11 1023) ?_
       refine pu_ HT_ 10 2 #[true, true, true, true, true, true, true, true, true, true, true] ?_
       refine sS (lC HT_.out (by kernel_rfl)) ?_
       try go_wp2
       go_ret; exact ⟨re_, bl_⟩
      ·rw [if_neg c11] at H; exact absurd H (by simp)
     ·rw [if_neg c10] at H; exact absurd H (by simp)
    ·rw [if_neg c8] at H; exact absurd H (by simp)
   ·rw [if_neg c7] at H; exact absurd H (by simp)
  ·rw [if_neg c5] at H; obtain ⟨gQ, qF⟩ := bn_ c5; by_cases c17 : ah = 3
   ·rw [if_pos c17] at H; obtain ⟨l8, sV⟩ := bq_ c17; clear c17; obtain rfl := Option.some.inj H; go_enter Tryd.func74, Tryd.ntmps74; go_wp2_with (first | ((with_reducible refine aW (N := 1) rfl ?_); refine bf ?hg (N := 1) ?hd (cs := #[.int .i64 ah, .int .i64 au, .int .i64 aj, .int .i64 ak, .slice aM af.length aH]) (t := 24) ?hr ?_; (case hd => rfl); (case hg => rfl); (case hr => first | (go_simp; done) | (go_simp; rfl)); intro kS hg w18 aG hb; have eu := aa.mk (aG); have zn : aa (w.heap.size ≤ kS) := gw_ hg (ax bl_); have Lt := zn; replace HB := aa.mk (ai bl_ hb); clear hb aG hg; obtain ⟨yx, yz, yA, yB, yC, yD, yE, yF, yG, yH⟩ := bg eu.out))
    go_ret; exact ⟨re_, bl_⟩
   ·rw [if_neg c17] at H; obtain ⟨l8, sV⟩ := bn_ c17; by_cases c20 : ah = 4
    ·rw [if_pos c20] at H; obtain ⟨qJ, BO⟩ := bq_ c20; clear c20; obtain rfl := Option.some.inj H; go_enter Tryd.func74, Tryd.ntmps74; go_wp2_with (first | ((with_reducible refine aW (N := 1) rfl ?_); refine bf ?hg (N := 1) ?hd (cs := #[.int .i64 ah, .int .i64 au, .int .i64 aj, .int .i64 ak, .slice aM af.length aH]) (t := 24) ?hr ?_; (case hd => rfl); (case hg => rfl); (case hr => first | (go_simp; done) | (go_simp; rfl)); intro kS hg w21 aG hb; have eu := aa.mk (aG); have zn : aa (w.heap.size ≤ kS) := gw_ hg (ax bl_); have Lt := zn; replace HB := aa.mk (ai bl_ hb); clear hb aG hg; obtain ⟨lF, lG, lH, mP, mQ, lI, lJ, lK, mR, mU⟩ := bg eu.out))
     go_ret; exact ⟨re_, bl_⟩
    ·rw [if_neg c20] at H; obtain ⟨qJ, BO⟩ := bn_ c20; by_cases c23 : ah = 6
     ·rw [if_pos c23] at H; obtain ⟨vE, vF⟩ := bq_ c23; clear c23; replace H := Option.bind_eq_some_iff.mp H; obtain ⟨tq, A240, H⟩ := H; (try dsimp only at H)
      have A24 := aa.mk A240; clear A240; by_cases c25 : 5 + tq.size ≤ 9223372036854775807
      ·rw [if_pos c25] at H; have D8 := eq_true c25; have D9 := decide_eq_true c25; try have c25b2 : (9223372036854775807 < 5 + tq.size) = False := eq_false (Nat.not_lt.2 c25)
       by_cases c26 : ((⟨#[108, 105, 115, 116, 91]⟩ : ByteArray) ++ tq).size + 2 ≤ 9223372036854775807
       ·rw [if_pos c26] at H; have Kg := eq_true c26; have c26b1 := decide_eq_true c26; try have c26b2 : (9223372036854775807 < ((⟨#[108, 105, 115, 116, 91]⟩ : ByteArray) ++ tq).size + 2) = False := eq_false (Nat.not_lt.2 c26)
        have c26b9 : (9223372036854775807 < 5 + tq.size + 2) = False := by have h := c26; simp only [ByteArray.size_append, iW, List.size_toArray, List.length_cons, List.length_nil] at h; exact eq_false (by omega)
        by_cases c27 : 0 < (af.length : Int)
        ·rw [if_pos c27] at H; have Kh := decide_eq_true c27; have c27b1 : decide (0 < af.length) = true := decide_eq_true (by omega); clear c27; replace H := Option.bind_eq_some_iff.mp H; obtain ⟨t565, A280, H⟩ := H; (try dsimp only at H)
         have A28 := aa.mk A280; clear A280; by_cases c29 : (((⟨#[108, 105, 115, 116, 91]⟩ : ByteArray) ++ tq) ++ (⟨#[93, 32]⟩ : ByteArray)).size + t565.size ≤ 9223372036854775807
         ·rw [if_pos c29] at H; have BL := eq_true c29; have BM := decide_eq_true c29; try have c29b2 : (9223372036854775807 < (((⟨#[108, 105, 115, 116, 91]⟩ : ByteArray) ++ tq) ++ (⟨#[93, 32]⟩ : ByteArray)).size + t565.size) = False := eq_false (Nat.not_lt.2 c29)
          have c29b9 : (9223372036854775807 < 5 + tq.size + 2 + t565.size) = False := by have h := c29; simp only [ByteArray.size_append, iW, List.size_toArray, List.length_cons, List.length_nil] at h; exact eq_false (by omega)
          obtain rfl := Option.some.inj H; go_enter Tryd.func74, Tryd.ntmps74; try go_wp2_with (first | ((with_reducible refine aW (N := 1) rfl ?_); refine bf ?hg (N := 1) ?hd (cs := #[.int .i64 ah, .int .i64 au, .int .i64 aj, .int .i64 ak, .slice aM af.length aH]) (t := 24) ?hr ?_; (case hd => rfl); (case hg => rfl); (case hr => first | (go_simp; done) | (go_simp; rfl)); intro kS hg w30 aG hb; have eu := aa.mk (aG); have zn : aa (w.heap.size ≤ kS) := gw_ hg (ax bl_); have Lt := zn; replace HB := aa.mk (ai bl_ hb); clear hb aG hg; obtain ⟨xR, xS, xU, zw, zx, xV, xW, xX, zy, zz⟩ := bg eu.out))
          replace eu := aa.mk (dz eu.out); replace HB := aa.mk (bR HB.out); have p564 : 0 ≤ (0 : Int) := (by omega); have q564 : 0 < (af.length : Int) := dt_; obtain ⟨Bp, A564_4, c564_4, e564, CQ, CR, CS, CU, CV, Rm, Rn⟩ := dZ bu.out 0 p564 q564; have AJ := CV; (try simp only [z0_, Nat.zero_mul, Addr.add_zero'] at AJ)
          have AL := CU; (try simp only [z0_, Nat.zero_mul, Addr.add_zero'] at AL)
          have AO := CS; (try simp only [z0_, Nat.zero_mul, Addr.add_zero'] at AO)
          have AP := CR; (try simp only [z0_, Nat.zero_mul, Addr.add_zero'] at AP)
          have AQ := CQ; (try simp only [z0_, Nat.zero_mul, Addr.add_zero'] at AQ)
          cases e564; have qi564 : (0 < af.length) = True := eq_true (by omega); (try simp only [z0_, Nat.zero_mul, Addr.add_zero'] at CQ CR CS CU CV)
          replace CQ := hc_ HB CQ; replace CR := hc_ HB CR; replace CS := hc_ HB CS; replace CU := hc_ HB CU; replace CV := hc_ HB CV; have Ro := aa.mk Rn; have HC564_4 := aa.mk Rm; clear Rn Rm; replace p564 := eq_true p564; replace q564 := eq_true q564; refine oG (n := 12) (S := fun w' => w'.cell? ⟨kS, 0, none⟩ = some (.int .i64 ah) ∧ w'.cell? ⟨kS, 1, none⟩ = some (.int .i64 au) ∧ w'.cell? ⟨kS, 2, none⟩ = some (.int .i64 aj) ∧ w'.cell? ⟨kS, 3, none⟩ = some (.int .i64 ak) ∧ w'.cell? ⟨kS, 4, none⟩ = some (.slice (some Bp) af.length aH) ∧ w'.cell? Bp = some (.int .i64 ((ag af 0).f0)) ∧ w'.cell? ⟨Bp.block, Bp.off + 1, none⟩ = some (.int .i64 ((ag af 0).f1)) ∧ w'.cell? ⟨Bp.block, Bp.off + 2, none⟩ = some (.int .i64 ((ag af 0).f2)) ∧ w'.cell? ⟨Bp.block, Bp.off + 3, none⟩ = some (.int .i64 ((ag af 0).f3)) ∧ w'.cell? ⟨Bp.block, Bp.off + 4, none⟩ = some (.slice A564_4 ((ag af 0).f4).length c564_4)) (ds := []) #[false, false, false, false, false, false, false, false, false, false, false, false] (by kernel_rfl) rfl rfl ⟨(av eu.out 0).trans rfl, (av eu.out 1).trans rfl, (av eu.out 2).trans rfl, (av eu.out 3).trans rfl, (av eu.out 4).trans rfl, ((HB.out.cell (World.block_lt_of_cell? w _ AQ)).trans AQ), ((HB.out.cell (World.block_lt_of_cell? w _ AP)).trans AP), ((HB.out.cell (World.block_lt_of_cell? w _ AO)).trans AO), ((HB.out.cell (World.block_lt_of_cell? w _ AL)).trans AL), ((HB.out.cell (World.block_lt_of_cell? w _ AJ)).trans AJ)⟩ (fun hHeld => ?_); refine iV bn.JW bn.GG (fun HT_ HW_ => ?_)
          generalize w30.drew = w32 at eu HB Ro CQ CR CS CU CV hHeld ⊢
          refine pu_ HT_ 0 27 (bm 12 1) ?_
          refine pu_ HT_ 5 32 (bm 12 33) ?_
          refine ta_ HT_ HW_ 1 28 (bm 12 35) hHeld ?_
          refine ta_ HT_ HW_ 6 33 (bm 12 99) hHeld ?_
          refine pu_ HT_ 7 34 (bm 12 227) ?_
          refine ta_ HT_ HW_ 8 35 (bm 12 483) hHeld ?_
          refine kQ (i := 2) (N := some 29) #[true, true, true, false, false, true, true, true, true, false, false, false] rfl rfl (gK HT_.out (by kernel_rfl)) (by decide) (fun K hK => ?_)
          refine iU Tryd.func92 (by kernel_rfl) rfl #[.int .i64 ak] (by rfl) rfl rfl mp_ ?_
          with_reducible refine (dx.calls k ak tq _ A24.out).mono ?_
          rintro e w33 ⟨rfl, hb⟩
          refine ⟨_, rfl, ?_⟩
          replace eu := kb_ eu hb; replace HB := aa.mk (ai bl_ hb); (try clear hb)
          (try clear hb2)
          (try clear hk)
          (try clear hi)
          refine hK.out _ _ ⟨(av eu.out 0).trans rfl, (av eu.out 1).trans rfl, (av eu.out 2).trans rfl, (av eu.out 3).trans rfl, (av eu.out 4).trans rfl, ((HB.out.cell (World.block_lt_of_cell? w _ AQ)).trans AQ), ((HB.out.cell (World.block_lt_of_cell? w _ AP)).trans AP), ((HB.out.cell (World.block_lt_of_cell? w _ AO)).trans AO), ((HB.out.cell (World.block_lt_of_cell? w _ AL)).trans AL), ((HB.out.cell (World.block_lt_of_cell? w _ AJ)).trans AJ)⟩ (fun hHeld => ?_)
          clear hK K; refine iT (a' := ?_) ?_ ?_
          rotate_left
          ·show Act.put _ (some 29) _ = _
           simp only [Act.put, List.setIfInBounds_toArray, List.set_cons_zero, List.set_cons_succ, dS, ek]; rfl
          refine pu_ HT_ 3 30 (bm 12 495) ?_
          refine pu_ HT_ 4 31 (bm 12 511) ?_
          refine kQ (i := 9) (N := some 36) #[true, true, true, true, true, true, true, true, true, true, false, false] rfl rfl (gK HT_.out (by kernel_rfl)) (by decide) (fun K hK => ?_)
          refine iU Tryd.func74 (by kernel_rfl) rfl #[.agg #[.int .i64 ((ag af 0).f0), .int .i64 ((ag af 0).f1), .int .i64 ((ag af 0).f2), .int .i64 ((ag af 0).f3), .slice A564_4 ((ag af 0).f4).length c564_4]] (by rfl) rfl rfl mp_ ?_
          with_reducible refine (ih k (by omega) ((ag af 0).f0) ((ag af 0).f1) ((ag af 0).f2) ((ag af 0).f3) _ _ ((ag af 0).f4) t565 _ ?az ?aA A28.out).mono ?_
          (case az => exact cb_ (Kd.aK Ro.out HB.out))
          (case aA => exact HC564_4.out)
          rintro e w34 ⟨rfl, hb⟩
          refine ⟨_, rfl, ?_⟩
          replace eu := kb_ eu hb; replace HB := aa.mk (ai bl_ hb); (try clear hb)
          (try clear hb2)
          (try clear hk)
          (try clear hi)
          refine hK.out _ _ ⟨(av eu.out 0).trans rfl, (av eu.out 1).trans rfl, (av eu.out 2).trans rfl, (av eu.out 3).trans rfl, (av eu.out 4).trans rfl, ((HB.out.cell (World.block_lt_of_cell? w _ AQ)).trans AQ), ((HB.out.cell (World.block_lt_of_cell? w _ AP)).trans AP), ((HB.out.cell (World.block_lt_of_cell? w _ AO)).trans AO), ((HB.out.cell (World.block_lt_of_cell? w _ AL)).trans AL), ((HB.out.cell (World.block_lt_of_cell? w _ AJ)).trans AJ)⟩ (fun hHeld => ?_)
          clear hK K; refine iT (a' := ?_) ?_ ?_
          rotate_left
          ·show Act.put _ (some 36) _ = _
           simp only [Act.put, List.setIfInBounds_toArray, List.set_cons_zero, List.set_cons_succ, dS, ek]; rfl
          refine pu_ HT_ 10 37 (bm 12 2047) ?_
          refine pu_ HT_ 11 2 #[true, true, true, true, true, true, true, true, true, true, true, true] ?_
          refine sS (lC HT_.out (by kernel_rfl)) ?_
          try go_wp2
          go_ret; exact ⟨re_, bl_⟩
         ·rw [if_neg c29] at H; exact absurd H (by simp)
        ·rw [if_neg c27] at H; exact absurd H (by simp)
       ·rw [if_neg c26] at H; exact absurd H (by simp)
      ·rw [if_neg c25] at H; exact absurd H (by simp)
     ·rw [if_neg c23] at H; obtain ⟨vE, vF⟩ := bn_ c23; have H' := aa.mk H; clear H; go_enter Tryd.func74, Tryd.ntmps74; go_wp2_with (first | ((with_reducible refine aW (N := 1) rfl ?_); refine bf ?hg (N := 1) ?hd (cs := #[.int .i64 ah, .int .i64 au, .int .i64 aj, .int .i64 ak, .slice aM af.length aH]) (t := 24) ?hr ?_; (case hd => rfl); (case hg => rfl); (case hr => first | (go_simp; done) | (go_simp; rfl)); intro kS hg w35 aG hb; have eu := aa.mk (aG); have zn : aa (w.heap.size ≤ kS) := gw_ hg (ax bl_); have Lt := zn; replace HB := aa.mk (ai bl_ hb); clear hb aG hg; obtain ⟨E9, Fa, Fb, Fe, Ff, Fg, Fh, Fj, Fp, Fq⟩ := bg eu.out))
      go_loopg [3, 4] k (fun kq v3 v4 w' => ∃ (dL : ByteArray) (fu : Int), v3 = .string dL ∧ v4 = .int .i64 fu ∧ aa (bn.l0 kq dL fu ah au aj ak af = some r) ∧ aa (kq ≤ k) ∧ aa (w'.heap[kS]? = some (.cells #[.int .i64 ah, .int .i64 au, .int .i64 aj, .int .i64 ak, (.slice aM af.length aH)] 24 (0, 0))) ∧ aa (Below w.heap.size w w'))
      case atStart => exact ⟨((⟨#[40]⟩ : ByteArray)), (0), rs_, rs_, H', ⟨Nat.le_refl _⟩, ⟨bk_⟩, ⟨bl_⟩⟩
      case round =>
       clear H'; (try clear c1); (try clear c2); (try clear iZ); (try clear kR); (try clear p2); (try clear c5); (try clear gQ); (try clear qF); (try clear p5); (try clear q5); (try clear hx5); (try clear qi5); (try clear c7); (try clear jM); (try clear vo); (try clear c7b2); (try clear c8); (try clear gH); (try clear jv); (try clear c8b2); (try clear c9); (try clear c10); (try clear ig); (try clear zl); (try clear c10b2); (try clear c11); (try clear IE); (try clear c11b1); (try clear c11b2); (try clear c17); (try clear l8); (try clear sV); (try clear c20); (try clear qJ); (try clear BO); (try clear c23); (try clear vE); (try clear vF); (try clear c25); (try clear D8); (try clear D9); (try clear c25b2); (try clear c26); (try clear Kg); (try clear c26b1); (try clear c26b2); (try clear c27); (try clear Kh); (try clear c27b1); (try clear c29); (try clear BL); (try clear BM); (try clear c29b2); (try clear nU nV nW oZ o5 nX nY nZ o6 o7); (try clear yx yz yA yB yC yD yE yF yG yH); (try clear lF lG lH mP mQ lI lJ lK mR mU); (try clear xR xS xU zw zx xV xW xX zy zz); (try clear E9 Fa Fb Fe Ff Fg Fh Fj Fp Fq); (try clear iA iB iC iD iE iF iG iH iI iJ); (try clear CQ); (try clear CR); (try clear CS); (try clear CU); (try clear CV); (try clear p564); (try clear q564); obtain ⟨dL, fu, rfl, rfl, HA, HK1, eu, HB⟩ := hrel; cases gk with
       | zero => exact absurd HA.out (by simp [bn.l0])
       | succ k1 =>
        have H := HA.out; clear HA; simp only [bn.l0] at H; by_cases c37 : fu < (af.length : Int)
        ·rw [if_pos c37] at H; have Ki := decide_eq_true c37; clear c37; by_cases c38 : fu > 0
         ·rw [if_pos c38] at H; have JS : decide (0 < fu) = true := decide_eq_true c38; clear c38; by_cases c39 : dL.size + 2 ≤ 9223372036854775807
          ·rw [if_pos c39] at H; have zg := eq_true c39; have Ei := decide_eq_true c39; try have c39b2 : (9223372036854775807 < dL.size + 2) = False := eq_false (Nat.not_lt.2 c39)
           by_cases c40 : 0 ≤ fu
           ·rw [if_pos c40] at H; have c40b0 := decide_eq_true c40; clear c40; replace H := Option.bind_eq_some_iff.mp H; obtain ⟨t567, A410, H⟩ := H; (try dsimp only at H)
            have A41 := aa.mk A410; clear A410; by_cases c42 : (dL ++ (⟨#[44, 32]⟩ : ByteArray)).size + t567.size ≤ 9223372036854775807
            ·rw [if_pos c42] at H; have c42b0 := eq_true c42; have c42b1 := decide_eq_true c42; try have c42b2 : (9223372036854775807 < (dL ++ (⟨#[44, 32]⟩ : ByteArray)).size + t567.size) = False := eq_false (Nat.not_lt.2 c42)
             have c42b9 : (9223372036854775807 < dL.size + 2 + t567.size) = False := by have h := c42; simp only [ByteArray.size_append, iW, List.size_toArray, List.length_cons, List.length_nil] at h; exact eq_false (by omega)
             have H' := aa.mk H; clear H; obtain ⟨IM, IP, IQ, IU, IV, IW, IX, IY, IZ, I1⟩ := bg eu.out; have p566 : 0 ≤ (fu : Int) := dt_; have q566 : fu < (af.length : Int) := dt_; obtain ⟨ad566, A566_4, c566_4, e566, Rp, Rq, Rt, Ru, Rv, Rw, Rx⟩ := dZ bu.out fu p566 q566; cases e566; replace Rp := hc_ HB Rp; replace Rq := hc_ HB Rq; replace Rt := hc_ HB Rt; replace Ru := hc_ HB Ru; replace Rv := hc_ HB Rv; have HR566_4 := aa.mk Rx; have HC566_4 := aa.mk Rw; clear Rx Rw; replace p566 := eq_true p566; replace q566 := eq_true q566; go_wp2_with (first | ((with_reducible refine aD (f := 74) rfl ?_); refine aZ (some 55) rfl rfl Tryd.func74 (by kernel_rfl) rfl #[.agg #[.int .i64 ((ag af fu).f0), .int .i64 ((ag af fu).f1), .int .i64 ((ag af fu).f2), .int .i64 ((ag af fu).f3), .slice A566_4 ((ag af fu).f4).length c566_4]] rfl mp_ ?_; (with_reducible refine (ih k1 (by have := HK1.out; omega) ((ag af fu).f0) ((ag af fu).f1) ((ag af fu).f2) ((ag af fu).f3) _ _ ((ag af fu).f4) t567 _ ?az ?aA A41.out).mono ?_); (case az => exact cb_ (Kd.aK HR566_4.out HB.out)); (case aA => exact HC566_4.out); rintro e w44 ⟨rfl, hb⟩; refine ⟨_, rfl, ?_⟩; replace eu := kb_ eu hb; replace HB := aa.mk (ai bl_ hb); (try clear hb); (try clear hb2); (try clear hk); (try clear hi)))
             go_roundg k1
             case measure => have := HK1.out; omega
             case rel => exact ⟨((dL ++ (⟨#[44, 32]⟩ : ByteArray)) ++ t567), (wrap64 (fu + 1)), rs_, rs_, H', ⟨by have := HK1.out; omega⟩, ⟨bk_⟩, ⟨bl_⟩⟩
            ·rw [if_neg c42] at H; exact absurd H (by simp)
           ·rw [if_neg c40] at H; exact absurd H (by simp)
          ·rw [if_neg c39] at H; exact absurd H (by simp)
         ·rw [if_neg c38] at H; have JS : decide (0 < fu) = false := decide_eq_false c38; clear c38; by_cases c45 : 0 ≤ fu
          ·rw [if_pos c45] at H; have Ku := decide_eq_true c45; clear c45; replace H := Option.bind_eq_some_iff.mp H; obtain ⟨t569, A460, H⟩ := H; (try dsimp only at H)
           have A46 := aa.mk A460; clear A460; by_cases c47 : dL.size + t569.size ≤ 9223372036854775807
           ·rw [if_pos c47] at H; have c47b0 := eq_true c47; have c47b1 := decide_eq_true c47; try have c47b2 : (9223372036854775807 < dL.size + t569.size) = False := eq_false (Nat.not_lt.2 c47)
            have H' := aa.mk H; clear H; obtain ⟨G9, Ha, Hd, L9, Ma, He, Hf, Hg, Mc, Md⟩ := bg eu.out; have p568 : 0 ≤ (fu : Int) := dt_; have q568 : fu < (af.length : Int) := dt_; obtain ⟨ad568, A568_4, c568_4, e568, Ry, Rz, RA, RB, RD, RF, RG⟩ := dZ bu.out fu p568 q568; cases e568; replace Ry := hc_ HB Ry; replace Rz := hc_ HB Rz; replace RA := hc_ HB RA; replace RB := hc_ HB RB; replace RD := hc_ HB RD; have HR568_4 := aa.mk RG; have HC568_4 := aa.mk RF; clear RG RF; replace p568 := eq_true p568; replace q568 := eq_true q568; go_wp2_with (first | ((with_reducible refine aD (f := 74) rfl ?_); refine aZ (some 55) rfl rfl Tryd.func74 (by kernel_rfl) rfl #[.agg #[.int .i64 ((ag af fu).f0), .int .i64 ((ag af fu).f1), .int .i64 ((ag af fu).f2), .int .i64 ((ag af fu).f3), .slice A568_4 ((ag af fu).f4).length c568_4]] rfl mp_ ?_; (with_reducible refine (ih k1 (by have := HK1.out; omega) ((ag af fu).f0) ((ag af fu).f1) ((ag af fu).f2) ((ag af fu).f3) _ _ ((ag af fu).f4) t569 _ ?az ?aA A46.out).mono ?_); (case az => exact cb_ (Kd.aK HR568_4.out HB.out)); (case aA => exact HC568_4.out); rintro e w49 ⟨rfl, hb⟩; refine ⟨_, rfl, ?_⟩; replace eu := kb_ eu hb; replace HB := aa.mk (ai bl_ hb); (try clear hb); (try clear hb2); (try clear hk); (try clear hi)))
            go_roundg k1
            case measure => have := HK1.out; omega
            case rel => exact ⟨(dL ++ t569), (wrap64 (fu + 1)), rs_, rs_, H', ⟨by have := HK1.out; omega⟩, ⟨bk_⟩, ⟨bl_⟩⟩
           ·rw [if_neg c47] at H; exact absurd H (by simp)
          ·rw [if_neg c45] at H; exact absurd H (by simp)
        ·rw [if_neg c37] at H; have Ki := decide_eq_false c37; clear c37; by_cases c50 : dL.size + 1 ≤ 9223372036854775807
         ·rw [if_pos c50] at H; have c50b0 := eq_true c50; have c50b1 := decide_eq_true c50; try have c50b2 : (9223372036854775807 < dL.size + 1) = False := eq_false (Nat.not_lt.2 c50)
          obtain rfl := Option.some.inj H; obtain ⟨hcz51_0, hcz51_1, hcz51_2, hcz51_3, hcz51_4, hfz51_0, hfz51_1, hfz51_2, hfz51_3, hfz51_4⟩ := bg eu.out; go_wp2; go_ret; exact ⟨re_, bl_⟩
         ·rw [if_neg c50] at H; exact absurd H (by simp)

end Go.Proofs.YtggelekooacmnaaDoor.Q
namespace Go.Proofs.YtggelekooacmnaaDoor.Q
open Go.RowKit Go.Proofs.YtggelekooacmnaaDoorW.aU Go.Proofs.YtggelekooacmnaaDoorW.bD Go.Proofs.YtggelekooacmnaaDoorW.bH
attribute [local go_sem] dB dC dN dO cO cZ dD dE   -- for this text's walks alone
set_option linter.unusedVariables false
set_option linter.unusedSimpArgs false

/-! ### fJ: function 53 -/
def fJ.f (k : Nat) (ah : Int) (au : Int) (aj : Int) (ak : Int) (af : List (S24)) : Option (ByteArray × Int) := (bE.f k ah au aj ak af).bind fun xN => (if xN = 0 then ((bn.f k ah au aj ak af).bind fun t572 => (some (t572, 0))) else (some ((⟨#[]⟩ : ByteArray), xN)))
set_option maxHeartbeats 8000000 in
set_option maxRecDepth 100000 in
theorem fJ.calls (k : Nat) (ah : Int) (au : Int) (aj : Int) (ak : Int) (aM : Option Addr) (aH : Nat) (af : List (S24)) (r1 : ByteArray) (r2 : Int) (w : World) (di : Kd.C k24 w aM af.length af) (dm : af.length ≤ aH) (h : fJ.f k ah au aj ak af = some (r1, r2)) :
    Calls Tryd.prog 53 #[.agg #[.int .i64 ah, .int .i64 au, .int .i64 aj, .int .i64 ak, .slice aM af.length aH]] w fun e w' => e = .returned (.tuple #[.string r1, .int .i64 r2]) ∧ Below w.heap.size w w' := by
  have mg := Tryd.underlying24
  have bu := aa.mk di
  have bU := aa.mk dm
  clear di dm
  have HB := aa.mk (Below.refl w.heap.size w)
  have H : ((bE.f k ah au aj ak af).bind fun xN => (if xN = 0 then ((bn.f k ah au aj ak af).bind fun t572 => (some (t572, 0))) else (some ((⟨#[]⟩ : ByteArray), xN)))) = some (r1, r2) := h
  clear h
  replace H := Option.bind_eq_some_iff.mp H
  obtain ⟨xN, A20, H⟩ := H
  replace H : (if xN = 0 then ((bn.f k ah au aj ak af).bind fun t572 => (some (t572, 0))) else (some ((⟨#[]⟩ : ByteArray), xN))) = some (r1, r2) := H
  have A2 := aa.mk A20
  clear A20
  by_cases c3 : xN = 0
  · rw [if_pos c3] at H
    have gX : (xN == 0) = true := beq_iff_eq.mpr c3
    have jH : (xN != 0) = false := bne_eq_false_iff_eq.mpr c3
    clear c3
    replace H := Option.bind_eq_some_iff.mp H
    obtain ⟨t572, A40, H⟩ := H
    replace H : (some (t572, 0)) = some (r1, r2) := H
    have A4 := aa.mk A40
    clear A40
    simp only [Option.some.injEq, Prod.mk.injEq] at H
    obtain ⟨rfl, rfl⟩ := H
    go_enter Tryd.func53, Tryd.ntmps53
    go_wp2_with (first | ((with_reducible refine aW (N := 1) rfl ?_); refine bf ?hg (N := 1) ?hd (cs := #[.int .i64 ah, .int .i64 au, .int .i64 aj, .int .i64 ak, .slice aM af.length aH]) (t := 24) ?hr ?_; (case hd => rfl); (case hg => rfl); (case hr => first | (go_simp; done) | (go_simp; rfl)); intro kg hg w5 aG hb; have n0_ := aa.mk (ai (by repeat (first | (with_reducible first | exact HB.out | apply cK | apply bS | apply bR) | exact HB.out)) hb); have n1_ := aa.mk (aG); have n2_ := aa.mk ((by rw [hg]; exact (ax (by repeat (first | (with_reducible first | exact HB.out | apply cK | apply bS | apply bR) | exact HB.out))) : w.heap.size ≤ kg)); have n3_ := aa.mk ((by rw [hg]; exact (ax (by repeat (first | (with_reducible first | exact HB.out | apply cK | apply bS | apply bR) | exact HB.out))) : w.heap.size ≤ kg)); clear HB; have HB := n0_; have gu := n1_; have GW570 := n2_; have Jj := n3_; clear n0_ n1_ n2_ n3_; clear hb aG hg; have kV : w5.cell? ⟨kg, 0, none⟩ = some (.int .i64 ah) := (av gu.out 0).trans rfl; have kW : w5.cell? ⟨kg, 1, none⟩ = some (.int .i64 au) := (av gu.out 1).trans rfl; have kX : w5.cell? ⟨kg, 2, none⟩ = some (.int .i64 aj) := (av gu.out 2).trans rfl; have kY : w5.cell? ⟨kg, 3, none⟩ = some (.int .i64 ak) := (av gu.out 3).trans rfl; have kZ : w5.cell? ⟨kg, 4, none⟩ = some (.slice aM af.length aH) := (av gu.out 4).trans rfl; have lg := fo gu.out 0; have lh := fo gu.out 1; have ll := fo gu.out 2; have lq := fo gu.out 3; have lu := fo gu.out 4) | ((with_reducible refine aD (f := 22) rfl ?_); refine aZ (some 6) rfl rfl Tryd.func22 (by kernel_rfl) rfl #[.agg #[.int .i64 ah, .int .i64 au, .int .i64 aj, .int .i64 ak, .slice aM af.length aH]] rfl (by (try simp only [List.map_toArray, List.map_cons, List.map_nil]); first | done | rfl | (simp only [List.length_drop, List.length_take]; rfl)) ?_; (with_reducible refine (bE.calls k ah au aj ak _ _ af xN _ ?az ?aA A2.out).mono ?_); (case az => repeat (first | exact (Kd.aK bu.out HB.out) | (with_reducible refine Kd.qM ?_ _) | (with_reducible refine Kd.qN ?_ _) | (with_reducible refine Kd.uS ?_))); (case aA => exact bU.out); rintro e w7 ⟨rfl, hb⟩; refine ⟨_, rfl, ?_⟩; have n0_ := aa.mk (dR (g := kg) (o := .cells #[.int .i64 ah, .int .i64 au, .int .i64 aj, .int .i64 ak, .slice aM af.length aH] 24 (0, 0)) (by (with_reducible repeat (first | refine eD ?_ _ | refine dz ?_ | refine eB ?_ _)); exact gu.out) hb); have n1_ := aa.mk (ai (by repeat (first | (with_reducible first | exact HB.out | apply cK | apply bS | apply bR | refine jA ?_ Jj.out) | exact HB.out)) hb); clear gu; clear HB; have gu := n0_; have HB := n1_; clear n0_ n1_; (try clear hb); (try clear hb2); (try clear hk); (try clear hi); have rP : w7.cell? ⟨kg, 0, none⟩ = some (.int .i64 ah) := (av gu.out 0).trans rfl; have rQ : w7.cell? ⟨kg, 1, none⟩ = some (.int .i64 au) := (av gu.out 1).trans rfl; have rR : w7.cell? ⟨kg, 2, none⟩ = some (.int .i64 aj) := (av gu.out 2).trans rfl; have rT : w7.cell? ⟨kg, 3, none⟩ = some (.int .i64 ak) := (av gu.out 3).trans rfl; have rU : w7.cell? ⟨kg, 4, none⟩ = some (.slice aM af.length aH) := (av gu.out 4).trans rfl; have rV := fo gu.out 0; have rW := fo gu.out 1; have rX := fo gu.out 2; have rY := fo gu.out 3; have rZ := fo gu.out 4) | ((with_reducible refine aD (f := 74) rfl ?_); refine aZ (some 11) rfl rfl Tryd.func74 (by kernel_rfl) rfl #[.agg #[.int .i64 ah, .int .i64 au, .int .i64 aj, .int .i64 ak, .slice aM af.length aH]] rfl (by (try simp only [List.map_toArray, List.map_cons, List.map_nil]); first | done | rfl | (simp only [List.length_drop, List.length_take]; rfl)) ?_; (with_reducible refine (bn.calls k ah au aj ak _ _ af t572 _ ?az ?aA A4.out).mono ?_); (case az => repeat (first | exact (Kd.aK bu.out HB.out) | (with_reducible refine Kd.qM ?_ _) | (with_reducible refine Kd.qN ?_ _) | (with_reducible refine Kd.uS ?_))); (case aA => exact bU.out); rintro e w9 ⟨rfl, hb⟩; refine ⟨_, rfl, ?_⟩; have n0_ := aa.mk (dR (g := kg) (o := .cells #[.int .i64 ah, .int .i64 au, .int .i64 aj, .int .i64 ak, .slice aM af.length aH] 24 (0, 0)) (by (with_reducible repeat (first | refine eD ?_ _ | refine dz ?_ | refine eB ?_ _)); exact gu.out) hb); have n1_ := aa.mk (ai (by repeat (first | (with_reducible first | exact HB.out | apply cK | apply bS | apply bR | refine jA ?_ Jj.out) | exact HB.out)) hb); clear gu; clear HB; have gu := n0_; have HB := n1_; clear n0_ n1_; (try clear hb); (try clear hb2); (try clear hk); (try clear hi)))
    go_ret2
    exact ⟨by first | rfl | (simp [eT, eU] <;> rfl) | (simp [*, eT, eU] <;> rfl), by repeat (first | (with_reducible first | exact HB.out | apply cK | apply bS | apply bR | refine jA ?_ Jj.out) | exact HB.out)⟩
  · rw [if_neg c3] at H
    have gX : (xN == 0) = false := beq_eq_false_iff_ne.mpr c3
    have jH : (xN != 0) = true := bne_iff_ne.mpr c3
    simp only [Option.some.injEq, Prod.mk.injEq] at H
    obtain ⟨rfl, rfl⟩ := H
    go_enter Tryd.func53, Tryd.ntmps53
    go_wp2_with (first | ((with_reducible refine aW (N := 1) rfl ?_); refine bf ?hg (N := 1) ?hd (cs := #[.int .i64 ah, .int .i64 au, .int .i64 aj, .int .i64 ak, .slice aM af.length aH]) (t := 24) ?hr ?_; (case hd => rfl); (case hg => rfl); (case hr => first | (go_simp; done) | (go_simp; rfl)); intro kg hg w10 aG hb; have n0_ := aa.mk (ai (by repeat (first | (with_reducible first | exact HB.out | apply cK | apply bS | apply bR) | exact HB.out)) hb); have n1_ := aa.mk (aG); have n2_ := aa.mk ((by rw [hg]; exact (ax (by repeat (first | (with_reducible first | exact HB.out | apply cK | apply bS | apply bR) | exact HB.out))) : w.heap.size ≤ kg)); have n3_ := aa.mk ((by rw [hg]; exact (ax (by repeat (first | (with_reducible first | exact HB.out | apply cK | apply bS | apply bR) | exact HB.out))) : w.heap.size ≤ kg)); clear HB; have HB := n0_; have gu := n1_; have GW570 := n2_; have Jj := n3_; clear n0_ n1_ n2_ n3_; clear hb aG hg; have jO : w10.cell? ⟨kg, 0, none⟩ = some (.int .i64 ah) := (av gu.out 0).trans rfl; have jP : w10.cell? ⟨kg, 1, none⟩ = some (.int .i64 au) := (av gu.out 1).trans rfl; have jQ : w10.cell? ⟨kg, 2, none⟩ = some (.int .i64 aj) := (av gu.out 2).trans rfl; have ku : w10.cell? ⟨kg, 3, none⟩ = some (.int .i64 ak) := (av gu.out 3).trans rfl; have kv : w10.cell? ⟨kg, 4, none⟩ = some (.slice aM af.length aH) := (av gu.out 4).trans rfl; have jR := fo gu.out 0; have jS := fo gu.out 1; have jT := fo gu.out 2; have ky := fo gu.out 3; have kz := fo gu.out 4) | ((with_reducible refine aD (f := 22) rfl ?_); refine aZ (some 6) rfl rfl Tryd.func22 (by kernel_rfl) rfl #[.agg #[.int .i64 ah, .int .i64 au, .int .i64 aj, .int .i64 ak, .slice aM af.length aH]] rfl (by (try simp only [List.map_toArray, List.map_cons, List.map_nil]); first | done | rfl | (simp only [List.length_drop, List.length_take]; rfl)) ?_; (with_reducible refine (bE.calls k ah au aj ak _ _ af xN _ ?az ?aA A2.out).mono ?_); (case az => repeat (first | exact (Kd.aK bu.out HB.out) | (with_reducible refine Kd.qM ?_ _) | (with_reducible refine Kd.qN ?_ _) | (with_reducible refine Kd.uS ?_))); (case aA => exact bU.out); rintro e w12 ⟨rfl, hb⟩; refine ⟨_, rfl, ?_⟩; have n0_ := aa.mk (dR (g := kg) (o := .cells #[.int .i64 ah, .int .i64 au, .int .i64 aj, .int .i64 ak, .slice aM af.length aH] 24 (0, 0)) (by (with_reducible repeat (first | refine eD ?_ _ | refine dz ?_ | refine eB ?_ _)); exact gu.out) hb); have n1_ := aa.mk (ai (by repeat (first | (with_reducible first | exact HB.out | apply cK | apply bS | apply bR | refine jA ?_ Jj.out) | exact HB.out)) hb); clear gu; clear HB; have gu := n0_; have HB := n1_; clear n0_ n1_; (try clear hb); (try clear hb2); (try clear hk); (try clear hi)))
    go_ret2
    exact ⟨by first | rfl | (simp [eT, eU] <;> rfl) | (simp [*, eT, eU] <;> rfl), by repeat (first | (with_reducible first | exact HB.out | apply cK | apply bS | apply bR | refine jA ?_ Jj.out) | exact HB.out)⟩

end Go.Proofs.YtggelekooacmnaaDoor.Q
namespace Go.Proofs.YtggelekooacmnaaDoor.Q
open Go.RowKit Go.Proofs.YtggelekooacmnaaDoorW.aU Go.Proofs.YtggelekooacmnaaDoorW.bD Go.Proofs.YtggelekooacmnaaDoorW.bH
attribute [local go_sem] dB dC dN dO cO cZ dD dE   -- for this text's walks alone
set_option linter.unusedVariables false
set_option linter.unusedSimpArgs false

/-! ### aV: function 26 -/
mutual
def aV.j0 : Nat → Bool → Int → Int → Int → Int → List (S24) → Option (Bool)
 | 0, _, _, _, _, _, _ => none
 | k + 1, x36, qm, qo, qp, qw, qx => if x36 = true then (some false) else ((jY.f k qm qo qp qw qx).bind fun Lu => ((gq.f k qm qo qp qw qx).bind fun Lv => (if Lu.2 = Lv.2 then (aV.j1 k (Lu.1 != Lv.1) qm qo qp qw qx) else (aV.j1 k true qm qo qp qw qx))))
def aV.j1 : Nat → Bool → Int → Int → Int → Int → List (S24) → Option (Bool)
 | 0, _, _, _, _, _, _ => none
 | k + 1, x54, qm, qo, qp, qw, qx => if x54 = true then (some false) else ((dn.f k qm qo qp qw qx).bind fun Lx => ((dw.f k qm qo qp qw qx).bind fun LA => (if Lx.2 = LA.2 then (aV.j2 k (Lx.1 != LA.1) qm qo qp qw qx) else (aV.j2 k true qm qo qp qw qx))))
def aV.j2 : Nat → Bool → Int → Int → Int → Int → List (S24) → Option (Bool)
 | 0, _, _, _, _, _, _ => none
 | k + 1, x72, qm, qo, qp, qw, qx => if x72 = true then (some false) else ((eG.f k qm qo qp qw qx).bind fun LB => ((fJ.f k qm qo qp qw qx).bind fun LC => (if LB.2 = LC.2 then (some (LB.1.toList == LC.1.toList)) else (some false))))
end
def aV.f (k : Nat) (ah : Int) (au : Int) (aj : Int) (ak : Int) (af : List (S24)) : Option (Bool) := (jX.f k ah au aj ak af).bind fun LD => ((gp.f k ah au aj ak af).bind fun LF => (if LD.2 = LF.2 then ((dh.f k LD.1 LF.1).bind fun t582 => (if t582 = true then ((bO.f k ah au aj ak af).bind fun t583 => ((bE.f k ah au aj ak af).bind fun t584 => (aV.j0 k (t583 != t584) ah au aj ak af))) else (aV.j0 k true ah au aj ak af))) else (aV.j0 k true ah au aj ak af)))
def aV.T3 : Bool × List (List Nat × List Nat) := (true, [([], []), ([], []), ([0, 1], [0, 1]), ([2], [2]), ([3], [3]), ([3], [3]), ([4, 5, 3, 3], [3, 4, 5]), ([6, 3], [3, 6]), ([3, 7], [3, 7]), ([8, 6], [8]), ([9], [9]), ([10, 9, 9], [9, 10]), ([9], [9]), ([12, 11, 9], [9, 12]), ([11, 13, 9], [9, 11, 13]), ([9, 14], [9, 14])])
def aV.B3 : List Nat := [0, 0, 3, 7, 15, 15, 63, 127, 255, 511, 1023, 2047, 1023, 8191, 16383, 32767]
theorem aV.tab3 : jG .any (opsOf Tryd.f26 3) = aV.T3 := by kernel_rfl
theorem aV.Eo : mo aV.T3.2 aV.B3 = true := by kernel_rfl
set_option maxHeartbeats 8000000 in
set_option maxRecDepth 100000 in
theorem aV.calls (k : Nat) (ah : Int) (au : Int) (aj : Int) (ak : Int) (aM : Option Addr) (aH : Nat) (af : List (S24)) (r : Bool) (w : World) (di : Kd.C k24 w aM af.length af) (dm : af.length ≤ aH) (h : aV.f k ah au aj ak af = some r) (htab : qO w.heap.size w) :
  Calls Tryd.prog 26 #[.agg #[.int .i64 ah, .int .i64 au, .int .i64 aj, .int .i64 ak, .slice aM af.length aH]] w fun e w' => e = .returned (.bool r) ∧ Below w.heap.size w w' := by
 have oM := aa.mk htab; clear htab; have mg := Tryd.underlying24; have bu := aa.mk di; have bU := aa.mk dm; clear di dm; have HB := aa.mk (Below.refl w.heap.size w); have H : ((jX.f k ah au aj ak af).bind fun LD => ((gp.f k ah au aj ak af).bind fun LF => (if LD.2 = LF.2 then ((dh.f k LD.1 LF.1).bind fun t582 => (if t582 = true then ((bO.f k ah au aj ak af).bind fun t583 => ((bE.f k ah au aj ak af).bind fun t584 => (aV.j0 k (t583 != t584) ah au aj ak af))) else (aV.j0 k true ah au aj ak af))) else (aV.j0 k true ah au aj ak af)))) = some r := h; clear h; replace H := Option.bind_eq_some_iff.mp H; obtain ⟨⟨t574, t577⟩, A20, H⟩ := H; (try dsimp only at H)
 have A2 := aa.mk A20; clear A20; replace H := Option.bind_eq_some_iff.mp H; obtain ⟨⟨t578, t581⟩, A30, H⟩ := H; (try dsimp only at H)
 have A3 := aa.mk A30; clear A30; have HC4 := aa.mk H; clear H; go_enter Tryd.func26, Tryd.ntmps26; go_upto_region 3 with (first | ((with_reducible refine aW (N := 1) rfl ?_); refine bf ?hg (N := 1) ?hd (cs := #[.int .i64 ah, .int .i64 au, .int .i64 aj, .int .i64 ak, .slice aM af.length aH]) (t := 24) ?hr ?_; (case hd => rfl); (case hg => rfl); (case hr => first | (go_simp; done) | (go_simp; rfl)); intro BX hg w5 aG hb; have dW := aa.mk (aG); have GW573 : aa (w.heap.size ≤ BX) := gw_ hg (ax bl_); have GE573 := GW573; replace HB := aa.mk (ai bl_ hb); clear hb aG hg; obtain ⟨kV, kW, kX, kY, kZ, lg, lh, ll, lq, lu⟩ := bg dW.out) | ((with_reducible refine aD (f := 18) rfl ?_); refine aZ (some 13) rfl rfl Tryd.func18 (by kernel_rfl) rfl #[.agg #[.int .i64 ah, .int .i64 au, .int .i64 aj, .int .i64 ak, .slice aM af.length aH]] rfl mp_ ?_; (with_reducible refine (jX.calls k ah au aj ak _ _ af t574 t577 _ ?az ?aA A2.out).mono ?_); (case az => exact cb_ (Kd.aK bu.out HB.out)); (case aA => exact bU.out); rintro e w7 ⟨v575, rfl, ho0, hb⟩; refine ⟨_, rfl, ?_⟩; have kT := aa.mk (Kd.bC ho0 (ax bl_)); replace dW := kb_ dW hb; replace HB := aa.mk (ai bl_ hb); (try clear hb); (try clear hb2); (try clear hk); (try clear hi); (try clear ho0); obtain ⟨rP, rQ, rR, rT, rU, rV, rW, rX, rY, rZ⟩ := bg dW.out) | ((with_reducible refine aD (f := 49) rfl ?_); refine aZ (some 18) rfl rfl Tryd.func49 (by kernel_rfl) rfl #[.agg #[.int .i64 ah, .int .i64 au, .int .i64 aj, .int .i64 ak, .slice aM af.length aH]] rfl mp_ ?_; (with_reducible refine (gp.calls k ah au aj ak _ _ af t578 t581 _ ?az ?aA A3.out).mono ?_); (case az => exact cb_ (Kd.aK bu.out HB.out)); (case aA => exact bU.out); rintro e w9 ⟨v579, rfl, ho0, hb⟩; refine ⟨_, rfl, ?_⟩; have nR := aa.mk (Kd.bC (Kd.cz ho0 (Kd.dQ (pR_ kT.out))) (ax bl_)); replace kT := aa.mk (Kd.cB (pR_ kT.out) (Kd.cu ho0) hb); replace dW := kb_ dW hb; replace HB := aa.mk (ai bl_ hb); (try clear hb); (try clear hb2); (try clear hk); (try clear hi); (try clear ho0)))
 (try simp only [Act.put, List.setIfInBounds_toArray, List.set_cons_zero, List.set_cons_succ])
 go_cut [36] (fun v36 wc => ∃ (kq : Nat) (x36_3 : Bool), v36 = .bool x36_3 ∧ aa (aV.j0 kq x36_3 ah au aj ak af = some r) ∧ aa (kq ≤ k) ∧ aa (wc.heap[BX]? = some (.cells #[.int .i64 ah, .int .i64 au, .int .i64 aj, .int .i64 ak, (.slice aM af.length aH)] 24 (0, 0))) ∧ aa (Below w.heap.size w wc))
 case first =>
  have H := HC4.out; clear HC4; by_cases c10 : t577 = t581
  ·rw [if_pos c10] at H; obtain ⟨ig, zl⟩ := bq_ c10; clear c10; (first | rw [ig] | (simp only [dS, ek]; rw [ig]) | skip)
   replace H := Option.bind_eq_some_iff.mp H; obtain ⟨t582, A110, H⟩ := H; (try dsimp only at H)
   have A11 := aa.mk A110; clear A110; by_cases c12 : t582 = true
   ·subst c12; have H1 : ((bO.f k ah au aj ak af).bind fun t583 => ((bE.f k ah au aj ak af).bind fun t584 => (aV.j0 k (t583 != t584) ah au aj ak af))) = some r := by rw [if_pos rfl] at H; exact H
    clear H; have H := H1; clear H1; replace H := Option.bind_eq_some_iff.mp H; obtain ⟨t583, A130, H⟩ := H; (try dsimp only at H)
    have A13 := aa.mk A130; clear A130; replace H := Option.bind_eq_some_iff.mp H; obtain ⟨t584, A140, H⟩ := H; (try dsimp only at H)
    have A14 := aa.mk A140; clear A140; have H' := aa.mk H; clear H; try go_wp2
    replace kT := aa.mk (Kd.bQ kT.out); replace nR := aa.mk (Kd.bQ nR.out); replace dW := aa.mk (dz dW.out); replace HB := aa.mk (bR HB.out); obtain ⟨Ao16, co16, eo16⟩ := Kd.bK kT.out; (first | subst eo16 | (injection eo16 with f1_ f2_ f3_; have f4_ := f1_.symm; have f5_ := f3_.symm; clear f1_ f2_ f3_; subst f4_; subst f5_))
    obtain ⟨Ao17, co17, eo17⟩ := Kd.bK nR.out; (first | subst eo17 | (injection eo17 with f1_ f2_ f3_; have f4_ := f1_.symm; have f5_ := f3_.symm; clear f1_ f2_ f3_; subst f4_; subst f5_))
    refine oG (n := 16) (S := fun w' => w'.cell? ⟨BX, 0, none⟩ = some (.int .i64 ah) ∧ w'.cell? ⟨BX, 1, none⟩ = some (.int .i64 au) ∧ w'.cell? ⟨BX, 2, none⟩ = some (.int .i64 aj) ∧ w'.cell? ⟨BX, 3, none⟩ = some (.int .i64 ak) ∧ w'.cell? ⟨BX, 4, none⟩ = some (.slice aM af.length aH)) (ds := []) #[false, false, false, false, false, false, false, false, false, false, false, false, false, false, false, false] (by kernel_rfl) rfl rfl ⟨(av dW.out 0).trans rfl, (av dW.out 1).trans rfl, (av dW.out 2).trans rfl, (av dW.out 3).trans rfl, (av dW.out 4).trans rfl⟩ (fun hHeld => ?_); refine iV aV.tab3 aV.Eo (fun HT_ HW_ => ?_)
    generalize w9.drew = w15 at kT nR dW HB hHeld ⊢
    refine pu_ HT_ 0 21 (bm 16 1) ?_
    refine pu_ HT_ 1 22 (bm 16 3) ?_
    refine pu_ HT_ 2 23 (bm 16 7) ?_
    refine pu_ HT_ 3 24 (bm 16 15) ?_
    refine pu_ HT_ 4 25 (bm 16 31) ?_
    refine pu_ HT_ 5 26 (bm 16 63) ?_
    refine kQ (i := 6) (N := some 27) #[true, true, true, true, true, true, true, false, false, false, false, false, false, false, false, false] rfl rfl (gK HT_.out (by kernel_rfl)) (by decide) (fun K hK => ?_)
    refine iU Tryd.func19 (by kernel_rfl) rfl #[.slice Ao16 t574.length co16, .slice Ao17 t578.length co17] (by rfl) rfl rfl mp_ ?_
    with_reducible refine (dh.calls k _ _ t574 _ _ t578 true _ ?az ?aA ?eH ?eO A11.out).mono ?_
    (case az => exact cb_ ((Kd.aY kT.out).2.2))
    (case aA => exact (Kd.aY kT.out).2.1)
    (case eH => exact cb_ ((Kd.aY nR.out).2.2))
    (case eO => exact (Kd.aY nR.out).2.1)
    rintro e w' ⟨rfl, ⟨nd, rfl⟩⟩
    refine ⟨_, rfl, ?_⟩
    refine hK.out _ _ ⟨(av dW.out 0).trans rfl, (av dW.out 1).trans rfl, (av dW.out 2).trans rfl, (av dW.out 3).trans rfl, (av dW.out 4).trans rfl⟩ (fun hHeld => ?_)
    clear hK K; refine iT (a' := ?_) ?_ ?_
    rotate_left
    ·show Act.put _ (some 27) _ = _
     simp only [Act.put, List.setIfInBounds_toArray, List.set_cons_zero, List.set_cons_succ, dS, ek]; rfl
    refine pu_ HT_ 7 28 (bm 16 255) ?_
    refine pu_ HT_ 8 29 (bm 16 511) ?_
    refine pu_ HT_ 9 30 (bm 16 1023) ?_
    refine ta_ HT_ HW_ 10 31 (bm 16 2047) hHeld ?_
    refine ta_ HT_ HW_ 12 33 (bm 16 6143) hHeld ?_
    refine kQ (i := 11) (N := some 32) #[true, true, true, true, true, true, true, true, true, true, true, true, true, false, false, false] rfl rfl (gK HT_.out (by kernel_rfl)) (by decide) (fun K hK => ?_)
    refine iU Tryd.func12 (by kernel_rfl) rfl #[.agg #[.int .i64 ah, .int .i64 au, .int .i64 aj, .int .i64 ak, .slice aM af.length aH]] (by rfl) rfl rfl mp_ ?_
    with_reducible refine (bO.calls k ah au aj ak _ _ af t583 _ ?az ?aA A13.out).mono ?_
    (case az => exact cb_ (Kd.aK bu.out bl_))
    (case aA => exact bU.out)
    rintro e w18 ⟨rfl, hb⟩
    refine ⟨_, rfl, ?_⟩
    replace kT := aa.mk (Kd.dM (pR_ kT.out) hb); replace nR := aa.mk (Kd.dM (pR_ nR.out) hb); replace dW := kb_ dW hb; replace HB := aa.mk (ai bl_ hb); (try clear hb)
    (try clear hb2)
    (try clear hk)
    (try clear hi)
    refine hK.out _ _ ⟨(av dW.out 0).trans rfl, (av dW.out 1).trans rfl, (av dW.out 2).trans rfl, (av dW.out 3).trans rfl, (av dW.out 4).trans rfl⟩ (fun hHeld => ?_)
    clear hK K; refine iT (a' := ?_) ?_ ?_
    rotate_left
    ·show Act.put _ (some 32) _ = _
     simp only [Act.put, List.setIfInBounds_toArray, List.set_cons_zero, List.set_cons_succ, dS, ek]; rfl
    refine kQ (i := 13) (N := some 34) #[true, true, true, true, true, true, true, true, true, true, true, true, true, true, false, false] rfl rfl (gK HT_.out (by kernel_rfl)) (by decide) (fun K hK => ?_)
    refine iU Tryd.func22 (by kernel_rfl) rfl #[.agg #[.int .i64 ah, .int .i64 au, .int .i64 aj, .int .i64 ak, .slice aM af.length aH]] (by rfl) rfl rfl mp_ ?_
    with_reducible refine (bE.calls k ah au aj ak _ _ af t584 _ ?az ?aA A14.out).mono ?_
    (case az => exact cb_ (Kd.aK bu.out HB.out))
    (case aA => exact bU.out)
    rintro e w19 ⟨rfl, hb⟩
    refine ⟨_, rfl, ?_⟩
    replace kT := aa.mk (Kd.dM (pR_ kT.out) hb); replace nR := aa.mk (Kd.dM (pR_ nR.out) hb); replace dW := kb_ dW hb; replace HB := aa.mk (ai bl_ hb); (try clear hb)
    (try clear hb2)
    (try clear hk)
    (try clear hi)
    refine hK.out _ _ ⟨(av dW.out 0).trans rfl, (av dW.out 1).trans rfl, (av dW.out 2).trans rfl, (av dW.out 3).trans rfl, (av dW.out 4).trans rfl⟩ (fun hHeld => ?_)
    clear hK K; refine iT (a' := ?_) ?_ ?_
    rotate_left
    ·show Act.put _ (some 34) _ = _
     simp only [Act.put, List.setIfInBounds_toArray, List.set_cons_zero, List.set_cons_succ, dS, ek]; rfl
    refine pu_ HT_ 14 35 (bm 16 32767) ?_
    refine pu_ HT_ 15 36 #[true, true, true, true, true, true, true, true, true, true, true, true, true, true, true, true] ?_
    refine sS (lC HT_.out (by kernel_rfl)) ?_
    try go_wp2
    go_meet
    case rel => exact ⟨_, ((t583 != t584)), rs_, H', ⟨by first | omega | exact Nat.le_refl _⟩, ⟨bk_⟩, ⟨bl_⟩⟩
   ·replace c12 := Bool.eq_false_iff.mpr c12; subst c12; have H1 : (aV.j0 k true ah au aj ak af) = some r := by rw [if_neg (show ¬ (false = true) by decide)] at H; exact H
    clear H; have H := H1; clear H1; have H' := aa.mk H; clear H; try go_wp2
    replace kT := aa.mk (Kd.bQ kT.out); replace nR := aa.mk (Kd.bQ nR.out); replace dW := aa.mk (dz dW.out); replace HB := aa.mk (bR HB.out); obtain ⟨Ao21, co21, eo21⟩ := Kd.bK kT.out; (first | subst eo21 | (injection eo21 with f1_ f2_ f3_; have f4_ := f1_.symm; have f5_ := f3_.symm; clear f1_ f2_ f3_; subst f4_; subst f5_))
    obtain ⟨DR, DT, eo22⟩ := Kd.bK nR.out; (first | subst eo22 | (injection eo22 with f1_ f2_ f3_; have f4_ := f1_.symm; have f5_ := f3_.symm; clear f1_ f2_ f3_; subst f4_; subst f5_))
    refine oG (n := 16) (S := fun w' => True) (ds := []) #[false, false, false, false, false, false, false, false, false, false, false, false, false, false, false, false] (by kernel_rfl) rfl rfl trivial (fun hHeld => ?_); refine iV aV.tab3 aV.Eo (fun HT_ HW_ => ?_)
    generalize w9.drew = w20 at kT nR dW HB hHeld ⊢
    refine pu_ HT_ 0 21 (bm 16 1) ?_
    refine pu_ HT_ 1 22 (bm 16 3) ?_
    refine pu_ HT_ 2 23 (bm 16 7) ?_
    refine pu_ HT_ 3 24 (bm 16 15) ?_
    refine pu_ HT_ 4 25 (bm 16 31) ?_
    refine pu_ HT_ 5 26 (bm 16 63) ?_
    refine kQ (i := 6) (N := some 27) #[true, true, true, true, true, true, true, false, false, false, false, false, false, false, false, false] rfl rfl (gK HT_.out (by kernel_rfl)) (by decide) (fun K hK => ?_)
    refine iU Tryd.func19 (by kernel_rfl) rfl #[.slice Ao21 t574.length co21, .slice DR t578.length DT] (by rfl) rfl rfl mp_ ?_
    with_reducible refine (dh.calls k _ _ t574 _ _ t578 false _ ?az ?aA ?eH ?eO A11.out).mono ?_
    (case az => exact cb_ ((Kd.aY kT.out).2.2))
    (case aA => exact (Kd.aY kT.out).2.1)
    (case eH => exact cb_ ((Kd.aY nR.out).2.2))
    (case eO => exact (Kd.aY nR.out).2.1)
    rintro e w' ⟨rfl, ⟨nd, rfl⟩⟩
    refine ⟨_, rfl, ?_⟩
    refine hK.out _ _ trivial (fun hHeld => ?_)
    clear hK K; refine iT (a' := ?_) ?_ ?_
    rotate_left
    ·show Act.put _ (some 27) _ = _
     simp only [Act.put, List.setIfInBounds_toArray, List.set_cons_zero, List.set_cons_succ, dS, ek]; rfl
    refine pu_ HT_ 7 28 (bm 16 255) ?_
    refine pu_ HT_ 8 29 (bm 16 511) ?_
    refine pu_ HT_ 9 30 (bm 16 1023) ?_
    refine pf_ HT_ 10 31 (bm 16 2047) ?_
    refine pf_ HT_ 11 32 (bm 16 4095) ?_
    refine pf_ HT_ 12 33 (bm 16 8191) ?_
    refine pf_ HT_ 13 34 (bm 16 16383) ?_
    refine pf_ HT_ 14 35 (bm 16 32767) ?_
    refine pu_ HT_ 15 36 #[true, true, true, true, true, true, true, true, true, true, true, true, true, true, true, true] ?_
    refine sS (lC HT_.out (by kernel_rfl)) ?_
    try go_wp2
    go_meet
    case rel => exact ⟨_, (true), rs_, H', ⟨by first | omega | exact Nat.le_refl _⟩, ⟨bk_⟩, ⟨bl_⟩⟩
  ·rw [if_neg c10] at H; obtain ⟨ig, zl⟩ := bn_ c10; (first | rw [ig] | (simp only [dS, ek]; rw [ig]) | skip)
   have H' := aa.mk H; clear H; try go_wp2
   replace kT := aa.mk (Kd.bQ kT.out); replace nR := aa.mk (Kd.bQ nR.out); replace dW := aa.mk (dz dW.out); replace HB := aa.mk (bR HB.out); refine oG (n := 16) (S := fun w' => True) (ds := []) #[false, false, false, false, false, false, false, false, false, false, false, false, false, false, false, false] (by kernel_rfl) rfl rfl trivial (fun hHeld => ?_); refine iV aV.tab3 aV.Eo (fun HT_ HW_ => ?_)
   generalize w9.drew = w23 at kT nR dW HB hHeld ⊢
   refine pu_ HT_ 0 21 (bm 16 1) ?_
   refine pu_ HT_ 1 22 (bm 16 3) ?_
   refine pu_ HT_ 2 23 (bm 16 7) ?_
   refine pu_ HT_ 3 24 (bm 16 15) ?_
   refine pf_ HT_ 4 25 (bm 16 31) ?_
   refine pf_ HT_ 5 26 (bm 16 63) ?_
   refine pf_ HT_ 6 27 (bm 16 127) ?_
   refine pf_ HT_ 7 28 (bm 16 255) ?_
   refine pu_ HT_ 8 29 (bm 16 511) ?_
   refine pu_ HT_ 9 30 (bm 16 1023) ?_
   refine pf_ HT_ 10 31 (bm 16 2047) ?_
   refine pf_ HT_ 11 32 (bm 16 4095) ?_
   refine pf_ HT_ 12 33 (bm 16 8191) ?_
   refine pf_ HT_ 13 34 (bm 16 16383) ?_
   refine pf_ HT_ 14 35 (bm 16 32767) ?_
   refine pu_ HT_ 15 36 #[true, true, true, true, true, true, true, true, true, true, true, true, true, true, true, true] ?_
   refine sS (lC HT_.out (by kernel_rfl)) ?_
   try go_wp2
   go_meet
   case rel => exact ⟨_, (true), rs_, H', ⟨by first | omega | exact Nat.le_refl _⟩, ⟨bk_⟩, ⟨bl_⟩⟩
 case rest =>
  clear HC4; (try clear c1); (try clear c2); (try clear p2); (try clear c4); (try clear c10); (try clear ig); (try clear zl); (try clear c12); (try clear c18); (try clear c19); (try clear c22); (try clear kV kW kX kY kZ lg lh ll lq lu); (try clear rP rQ rR rT rU rV rW rX rY rZ); obtain ⟨kq, x36_3, rfl, HA, HJ3, dW, HB⟩ := hcut; cases kq with
  | zero => exact absurd HA.out (by simp [aV.j0])
  | succ kj3 =>
   have H := HA.out; clear HA; simp only [aV.j0] at H; by_cases c24 : x36_3 = true
   ·subst c24; have H1 : (some false) = some r := by rw [if_pos rfl] at H; exact H
    clear H; have H := H1; clear H1; obtain rfl := Option.some.inj H; go_wp2; go_ret; exact ⟨re_, bl_⟩
   ·replace c24 := Bool.eq_false_iff.mpr c24; subst c24; have H1 : ((jY.f kj3 ah au aj ak af).bind fun Lu => ((gq.f kj3 ah au aj ak af).bind fun Lv => (if Lu.2 = Lv.2 then (aV.j1 kj3 (Lu.1 != Lv.1) ah au aj ak af) else (aV.j1 kj3 true ah au aj ak af)))) = some r := by rw [if_neg (show ¬ (false = true) by decide)] at H; exact H
    clear H; have H := H1; clear H1; replace H := Option.bind_eq_some_iff.mp H; obtain ⟨⟨t585, t586⟩, A250, H⟩ := H; (try dsimp only at H)
    have A25 := aa.mk A250; clear A250; replace H := Option.bind_eq_some_iff.mp H; obtain ⟨⟨t587, t588⟩, A260, H⟩ := H; (try dsimp only at H)
    have A26 := aa.mk A260; clear A260; have HC27 := aa.mk H; clear H; obtain ⟨pQ, pR, pU, pV, pW, pX, pY, p8, p9, qa⟩ := bg dW.out; go_upto_region 7 with (first | ((with_reducible refine aD (f := 50) rfl ?_); refine aZ (some 39) rfl rfl Tryd.func50 (by kernel_rfl) rfl #[.agg #[.int .i64 ah, .int .i64 au, .int .i64 aj, .int .i64 ak, .slice aM af.length aH]] rfl mp_ ?_; (with_reducible refine (jY.calls kj3 ah au aj ak _ _ af t585 t586 _ ?az ?aA A25.out).mono ?_); (case az => exact cb_ (Kd.aK bu.out HB.out)); (case aA => exact bU.out); rintro e w29 ⟨rfl, hb⟩; refine ⟨_, rfl, ?_⟩; replace dW := kb_ dW hb; replace HB := aa.mk (ai bl_ hb); (try clear hb); (try clear hb2); (try clear hk); (try clear hi); obtain ⟨zF, zG, zH, zI, zJ, zK, zL, zM, zN, zO⟩ := bg dW.out) | ((with_reducible refine aD (f := 51) rfl ?_); refine aZ (some 44) rfl rfl Tryd.func51 (by kernel_rfl) rfl #[.agg #[.int .i64 ah, .int .i64 au, .int .i64 aj, .int .i64 ak, .slice aM af.length aH]] rfl mp_ ?_; (with_reducible refine (gq.calls kj3 ah au aj ak _ _ af t587 t588 _ ?az ?aA A26.out).mono ?_); (case az => exact cb_ (Kd.aK bu.out HB.out)); (case aA => exact bU.out); rintro e w31 ⟨rfl, hb⟩; refine ⟨_, rfl, ?_⟩; replace dW := kb_ dW hb; replace HB := aa.mk (ai bl_ hb); (try clear hb); (try clear hb2); (try clear hk); (try clear hi)))
    (try simp only [Act.put, List.setIfInBounds_toArray, List.set_cons_zero, List.set_cons_succ])
    go_cut [54] (fun v54 wc => ∃ (kq : Nat) (LG : Bool), v54 = .bool LG ∧ aa (aV.j1 kq LG ah au aj ak af = some r) ∧ aa (kq ≤ kj3) ∧ aa (wc.heap[BX]? = some (.cells #[.int .i64 ah, .int .i64 au, .int .i64 aj, .int .i64 ak, (.slice aM af.length aH)] 24 (0, 0))) ∧ aa (Below w.heap.size w wc))
    case first =>
     have H := HC27.out; clear HC27; by_cases c32 : t586 = t588
     ·rw [if_pos c32] at H; obtain ⟨xE, c32b1⟩ := bq_ c32; clear c32; (first | rw [xE] | (simp only [dS, ek]; rw [xE]) | skip)
      have H' := aa.mk H; clear H; go_wp2; go_meet
      case rel => exact ⟨_, ((t585 != t587)), rs_, H', ⟨by have := HJ3.out; first | omega | exact Nat.le_refl _⟩, ⟨bk_⟩, ⟨bl_⟩⟩
     ·rw [if_neg c32] at H; obtain ⟨xE, c32b1⟩ := bn_ c32; (first | rw [xE] | (simp only [dS, ek]; rw [xE]) | skip)
      have H' := aa.mk H; clear H; go_wp2; go_meet
      case rel => exact ⟨_, (true), rs_, H', ⟨by have := HJ3.out; first | omega | exact Nat.le_refl _⟩, ⟨bk_⟩, ⟨bl_⟩⟩
    case rest =>
     clear HC27; (try clear c1); (try clear c2); (try clear p2); (try clear c3); (try clear c4); (try clear c5); (try clear c10); (try clear ig); (try clear zl); (try clear c12); (try clear c18); (try clear c19); (try clear c22); (try clear c24); (try clear c32); (try clear xE); (try clear c32b1); (try clear pQ pR pU pV pW pX pY p8 p9 qa); (try clear zF zG zH zI zJ zK zL zM zN zO); (try clear kV kW kX kY kZ lg lh ll lq lu); (try clear rP rQ rR rT rU rV rW rX rY rZ); (try clear p2); obtain ⟨kq, LG, rfl, HA, HJ26, dW, HB⟩ := hcut; cases kq with
     | zero => exact absurd HA.out (by simp [aV.j1])
     | succ kj26 =>
      have H := HA.out; clear HA; simp only [aV.j1] at H; by_cases c33 : LG = true
      ·subst c33; have H1 : (some false) = some r := by rw [if_pos rfl] at H; exact H
       clear H; have H := H1; clear H1; obtain rfl := Option.some.inj H; go_wp2; go_ret; exact ⟨re_, bl_⟩
      ·replace c33 := Bool.eq_false_iff.mpr c33; subst c33; have H1 : ((dn.f kj26 ah au aj ak af).bind fun Lx => ((dw.f kj26 ah au aj ak af).bind fun LA => (if Lx.2 = LA.2 then (aV.j2 kj26 (Lx.1 != LA.1) ah au aj ak af) else (aV.j2 kj26 true ah au aj ak af)))) = some r := by rw [if_neg (show ¬ (false = true) by decide)] at H; exact H
       clear H; have H := H1; clear H1; replace H := Option.bind_eq_some_iff.mp H; obtain ⟨⟨t589, t590⟩, A340, H⟩ := H; (try dsimp only at H)
       have A34 := aa.mk A340; clear A340; replace H := Option.bind_eq_some_iff.mp H; obtain ⟨⟨t591, t592⟩, A350, H⟩ := H; (try dsimp only at H)
       have A35 := aa.mk A350; clear A350; have HC36 := aa.mk H; clear H; obtain ⟨qP, qQ, qR, uw, uy, qU, qV, qW, uz, uA⟩ := bg dW.out; go_upto_region 11 with (first | ((with_reducible refine aD (f := 16) rfl ?_); refine aZ (some 57) rfl rfl Tryd.func16 (by kernel_rfl) rfl #[.agg #[.int .i64 ah, .int .i64 au, .int .i64 aj, .int .i64 ak, .slice aM af.length aH]] rfl mp_ ?_; (with_reducible refine (dn.calls kj26 ah au aj ak _ _ af t589 t590 _ ?az ?aA A34.out).mono ?_); (case az => exact cb_ (Kd.aK bu.out HB.out)); (case aA => exact bU.out); rintro e w38 ⟨rfl, hb⟩; refine ⟨_, rfl, ?_⟩; replace dW := kb_ dW hb; replace HB := aa.mk (ai bl_ hb); (try clear hb); (try clear hb2); (try clear hk); (try clear hi); obtain ⟨hcz39_0, hcz39_1, hcz39_2, hcz39_3, hcz39_4, hfz39_0, hfz39_1, hfz39_2, hfz39_3, hfz39_4⟩ := bg dW.out) | ((with_reducible refine aD (f := 52) rfl ?_); refine aZ (some 62) rfl rfl Tryd.func52 (by kernel_rfl) rfl #[.agg #[.int .i64 ah, .int .i64 au, .int .i64 aj, .int .i64 ak, .slice aM af.length aH]] rfl mp_ ?_; (with_reducible refine (dw.calls kj26 ah au aj ak _ _ af t591 t592 _ ?az ?aA A35.out).mono ?_); (case az => exact cb_ (Kd.aK bu.out HB.out)); (case aA => exact bU.out); rintro e w40 ⟨rfl, hb⟩; refine ⟨_, rfl, ?_⟩; replace dW := kb_ dW hb; replace HB := aa.mk (ai bl_ hb); (try clear hb); (try clear hb2); (try clear hk); (try clear hi)))
       (try simp only [Act.put, List.setIfInBounds_toArray, List.set_cons_zero, List.set_cons_succ])
       go_cut [72] (fun v72 wc => ∃ (kq : Nat) (LH : Bool), v72 = .bool LH ∧ aa (aV.j2 kq LH ah au aj ak af = some r) ∧ aa (kq ≤ kj26) ∧ aa (wc.heap[BX]? = some (.cells #[.int .i64 ah, .int .i64 au, .int .i64 aj, .int .i64 ak, (.slice aM af.length aH)] 24 (0, 0))) ∧ aa (Below w.heap.size w wc))
       case first =>
        have H := HC36.out; clear HC36; by_cases c41 : t590 = t592
        ·rw [if_pos c41] at H; obtain ⟨oH, Gb⟩ := bq_ c41; clear c41; (first | rw [oH] | (simp only [dS, ek]; rw [oH]) | skip)
         have H' := aa.mk H; clear H; go_wp2; go_meet
         case rel => exact ⟨_, ((t589 != t591)), rs_, H', ⟨by have := HJ3.out; have := HJ26.out; first | omega | exact Nat.le_refl _⟩, ⟨bk_⟩, ⟨bl_⟩⟩
        ·rw [if_neg c41] at H; obtain ⟨oH, Gb⟩ := bn_ c41; (first | rw [oH] | (simp only [dS, ek]; rw [oH]) | skip)
         have H' := aa.mk H; clear H; go_wp2; go_meet
         case rel => exact ⟨_, (true), rs_, H', ⟨by have := HJ3.out; have := HJ26.out; first | omega | exact Nat.le_refl _⟩, ⟨bk_⟩, ⟨bl_⟩⟩
       case rest =>
        clear HC36; (try clear c1); (try clear c2); (try clear p2); (try clear c3); (try clear c4); (try clear c5); (try clear c10); (try clear ig); (try clear zl); (try clear c12); (try clear c16); (try clear c18); (try clear c19); (try clear c22); (try clear c24); (try clear c32); (try clear xE); (try clear c32b1); (try clear c33); (try clear c41); (try clear oH); (try clear Gb); (try clear pQ pR pU pV pW pX pY p8 p9 qa); (try clear zF zG zH zI zJ zK zL zM zN zO); (try clear qP qQ qR uw uy qU qV qW uz uA); (try clear hcz39_0 hcz39_1 hcz39_2 hcz39_3 hcz39_4 hfz39_0 hfz39_1 hfz39_2 hfz39_3 hfz39_4); (try clear kV kW kX kY kZ lg lh ll lq lu); (try clear rP rQ rR rT rU rV rW rX rY rZ); (try clear p2); obtain ⟨kq, LH, rfl, HA, HJ35, dW, HB⟩ := hcut; cases kq with
        | zero => exact absurd HA.out (by simp [aV.j2])
        | succ kj35 =>
         have H := HA.out; clear HA; simp only [aV.j2] at H; by_cases c42 : LH = true
         ·subst c42; have H1 : (some false) = some r := by rw [if_pos rfl] at H; exact H
          clear H; have H := H1; clear H1; obtain rfl := Option.some.inj H; go_wp2; go_ret; exact ⟨re_, bl_⟩
         ·replace c42 := Bool.eq_false_iff.mpr c42; subst c42; have H1 : ((eG.f kj35 ah au aj ak af).bind fun LB => ((fJ.f kj35 ah au aj ak af).bind fun LC => (if LB.2 = LC.2 then (some (LB.1.toList == LC.1.toList)) else (some false)))) = some r := by rw [if_neg (show ¬ (false = true) by decide)] at H; exact H
          clear H; have H := H1; clear H1; replace H := Option.bind_eq_some_iff.mp H; obtain ⟨⟨t593, t594⟩, A430, H⟩ := H; (try dsimp only at H)
          have A43 := aa.mk A430; clear A430; replace H := Option.bind_eq_some_iff.mp H; obtain ⟨⟨t595, t596⟩, A440, H⟩ := H; (try dsimp only at H)
          have A44 := aa.mk A440; clear A440; by_cases c45 : t594 = t596
          ·rw [if_pos c45] at H; obtain ⟨Ku, c45b1⟩ := bq_ c45; clear c45; obtain rfl := Option.some.inj H; obtain ⟨Ph, Pj, Pk, Pm, Pn, Po, Pp, Pq, Ps, Pt⟩ := bg dW.out; go_wp2_with (first | ((with_reducible refine aD (f := 21) rfl ?_); refine aZ (some 75) rfl rfl Tryd.func21 (by kernel_rfl) rfl #[.agg #[.int .i64 ah, .int .i64 au, .int .i64 aj, .int .i64 ak, .slice aM af.length aH]] rfl mp_ ?_; (with_reducible refine (eG.calls kj35 ah au aj ak _ _ af t593 t594 _ ?az ?aA A43.out ?tab).mono ?_); (case tab => exact uI oM.out bl_); (case az => exact cb_ (Kd.aK bu.out HB.out)); (case aA => exact bU.out); rintro e w47 ⟨rfl, hb⟩; refine ⟨_, rfl, ?_⟩; replace dW := kb_ dW hb; replace HB := aa.mk (ai bl_ hb); (try clear hb); (try clear hb2); (try clear hk); (try clear hi); obtain ⟨G9, Ha, Hd, L9, Ma, He, Hf, Hg, Mc, Md⟩ := bg dW.out) | ((with_reducible refine aD (f := 53) rfl ?_); refine aZ (some 80) rfl rfl Tryd.func53 (by kernel_rfl) rfl #[.agg #[.int .i64 ah, .int .i64 au, .int .i64 aj, .int .i64 ak, .slice aM af.length aH]] rfl mp_ ?_; (with_reducible refine (fJ.calls kj35 ah au aj ak _ _ af t595 t596 _ ?az ?aA A44.out).mono ?_); (case az => exact cb_ (Kd.aK bu.out HB.out)); (case aA => exact bU.out); rintro e w49 ⟨rfl, hb⟩; refine ⟨_, rfl, ?_⟩; replace dW := kb_ dW hb; replace HB := aa.mk (ai bl_ hb); (try clear hb); (try clear hb2); (try clear hk); (try clear hi)))
           go_ret; exact ⟨re_, bl_⟩
          ·rw [if_neg c45] at H; obtain ⟨Ku, c45b1⟩ := bn_ c45; obtain rfl := Option.some.inj H; obtain ⟨QC, QD, QE, QF, QG, QH, QI, QJ, QK, QL⟩ := bg dW.out; go_wp2_with (first | ((with_reducible refine aD (f := 21) rfl ?_); refine aZ (some 75) rfl rfl Tryd.func21 (by kernel_rfl) rfl #[.agg #[.int .i64 ah, .int .i64 au, .int .i64 aj, .int .i64 ak, .slice aM af.length aH]] rfl mp_ ?_; (with_reducible refine (eG.calls kj35 ah au aj ak _ _ af t593 t594 _ ?az ?aA A43.out ?tab).mono ?_); (case tab => exact uI oM.out bl_); (case az => exact cb_ (Kd.aK bu.out HB.out)); (case aA => exact bU.out); rintro e w51 ⟨rfl, hb⟩; refine ⟨_, rfl, ?_⟩; replace dW := kb_ dW hb; replace HB := aa.mk (ai bl_ hb); (try clear hb); (try clear hb2); (try clear hk); (try clear hi); obtain ⟨Ho, Hq, Hr, Ht, Hu, Hw, Hy, Hz, HV, HY⟩ := bg dW.out) | ((with_reducible refine aD (f := 53) rfl ?_); refine aZ (some 80) rfl rfl Tryd.func53 (by kernel_rfl) rfl #[.agg #[.int .i64 ah, .int .i64 au, .int .i64 aj, .int .i64 ak, .slice aM af.length aH]] rfl mp_ ?_; (with_reducible refine (fJ.calls kj35 ah au aj ak _ _ af t595 t596 _ ?az ?aA A44.out).mono ?_); (case az => exact cb_ (Kd.aK bu.out HB.out)); (case aA => exact bU.out); rintro e w53 ⟨rfl, hb⟩; refine ⟨_, rfl, ?_⟩; replace dW := kb_ dW hb; replace HB := aa.mk (ai bl_ hb); (try clear hb); (try clear hb2); (try clear hk); (try clear hi)))
           go_ret; exact ⟨re_, bl_⟩

end Go.Proofs.YtggelekooacmnaaDoor.Q
namespace Go.Proofs.YtggelekooacmnaaDoor.Q
open Go.RowKit Go.Proofs.YtggelekooacmnaaDoorW.aU Go.Proofs.YtggelekooacmnaaDoorW.bD Go.Proofs.YtggelekooacmnaaDoorW.bH
attribute [local go_sem] dB dC dN dO cO cZ dD dE   -- for this text's walks alone
set_option linter.unusedVariables false
set_option linter.unusedSimpArgs false

/-! ### bW: function 25 -/
mutual
def bW.l0 : Nat → Int → Int → Int → Int → Int → Int → List (S24) → Option (Int)
 | 0, _, _, _, _, _, _, _ => none
 | k + 1, x3, x4, x721000, x721001, x721002, x721003, AR => if x4 < (AR.length : Int) then (if x3 < 200 then (if 0 ≤ x4 then ((bW.f k ((ag AR x4).f0) ((ag AR x4).f1) ((ag AR x4).f2) ((ag AR x4).f3) ((ag AR x4).f4)).bind fun t722 => (bW.l0 k (wrap64 (x3 + t722)) (wrap64 (x4 + 1)) x721000 x721001 x721002 x721003 AR)) else (none)) else (some x3)) else (some x3)
def bW.f : Nat → Int → Int → Int → Int → List (S24) → Option (Int)
 | 0, _, _, _, _, _ => none
 | k + 1, ah, au, aj, ak, af => bW.l0 k 1 0 ah au aj ak af
end
set_option maxHeartbeats 8000000 in
set_option maxRecDepth 100000 in
theorem bW.calls (k : Nat) : ∀ (ah : Int) (au : Int) (aj : Int) (ak : Int) (aM : Option Addr) (aH : Nat) (af : List (S24)) (r : Int) (w : World) (di : Kd.C k24 w aM af.length af) (dm : af.length ≤ aH) (h : bW.f k ah au aj ak af = some r),
  Calls Tryd.prog 25 #[.agg #[.int .i64 ah, .int .i64 au, .int .i64 aj, .int .i64 ak, .slice aM af.length aH]] w fun e w' => e = .returned (.int .i64 r) ∧ Below w.heap.size w w' := by
 induction k using Nat.strongRecOn with
 | _ k ih =>
 intro ah au aj ak aM aH af r w di dm h; cases k with
 | zero => exact absurd h (by simp [bW.f])
 | succ k =>
 simp only [bW.f] at h; have mg := Tryd.underlying24; have bu := aa.mk di; have bU := aa.mk dm; clear di dm; have HB := aa.mk (Below.refl w.heap.size w); have H : (bW.l0 k 1 0 ah au aj ak af) = some r := h; clear h; have H' := aa.mk H; clear H; go_enter Tryd.func25, Tryd.ntmps25; go_wp2_with (first | ((with_reducible refine aW (N := 1) rfl ?_); refine bf ?hg (N := 1) ?hd (cs := #[.int .i64 ah, .int .i64 au, .int .i64 aj, .int .i64 ak, .slice aM af.length aH]) (t := 24) ?hr ?_; (case hd => rfl); (case hg => rfl); (case hr => first | (go_simp; done) | (go_simp; rfl)); intro gb720 hg w2 aG hb; have Jk := aa.mk (aG); have GW720 : aa (w.heap.size ≤ gb720) := gw_ hg (ax bl_); have GE720 := GW720; replace HB := aa.mk (ai bl_ hb); clear hb aG hg))
 go_loopg [3, 4] k (fun kq v3 v4 w' => ∃ (dL : Int) (fu : Int), v3 = .int .i64 dL ∧ v4 = .int .i64 fu ∧ aa (bW.l0 kq dL fu ah au aj ak af = some r) ∧ aa (kq ≤ k) ∧ aa (w'.heap[gb720]? = some (.cells #[.int .i64 ah, .int .i64 au, .int .i64 aj, .int .i64 ak, (.slice aM af.length aH)] 24 (0, 0))) ∧ aa (Below w.heap.size w w'))
 case atStart => exact ⟨(1), (0), rs_, rs_, H', ⟨Nat.le_refl _⟩, ⟨bk_⟩, ⟨bl_⟩⟩
 case round =>
  clear H'; (try clear c2); (try clear p2); obtain ⟨dL, fu, rfl, rfl, HA, HK1, Jk, HB⟩ := hrel; cases gk with
  | zero => exact absurd HA.out (by simp [bW.l0])
  | succ k1 =>
   have H := HA.out; clear HA; simp only [bW.l0] at H; by_cases c3 : fu < (af.length : Int)
   ·rw [if_pos c3] at H; have gX := decide_eq_true c3; clear c3; by_cases c4 : dL < 200
    ·rw [if_pos c4] at H; have nK := decide_eq_true c4; clear c4; by_cases c5 : 0 ≤ fu
     ·rw [if_pos c5] at H; have gQ := decide_eq_true c5; clear c5; replace H := Option.bind_eq_some_iff.mp H; obtain ⟨t722, A60, H⟩ := H; (try dsimp only at H)
      have A6 := aa.mk A60; clear A60; have H' := aa.mk H; clear H; obtain ⟨yV, yX, yY, JL, JM, yZ, za, zb, JN, JO⟩ := bg Jk.out; have p721 : 0 ≤ (fu : Int) := dt_; have q721 : fu < (af.length : Int) := dt_; obtain ⟨ad721, A721_4, c721_4, e721, RH, RI, RJ, RL, RN, RO, RP⟩ := dZ bu.out fu p721 q721; cases e721; replace RH := hc_ HB RH; replace RI := hc_ HB RI; replace RJ := hc_ HB RJ; replace RL := hc_ HB RL; replace RN := hc_ HB RN; have HR721_4 := aa.mk RP; have HC721_4 := aa.mk RO; clear RP RO; replace p721 := eq_true p721; replace q721 := eq_true q721; go_wp2_with (first | ((with_reducible refine aD (f := 25) rfl ?_); refine aZ (some 22) rfl rfl Tryd.func25 (by kernel_rfl) rfl #[.agg #[.int .i64 ((ag af fu).f0), .int .i64 ((ag af fu).f1), .int .i64 ((ag af fu).f2), .int .i64 ((ag af fu).f3), .slice A721_4 ((ag af fu).f4).length c721_4]] rfl mp_ ?_; (with_reducible refine (ih k1 (by have := HK1.out; omega) ((ag af fu).f0) ((ag af fu).f1) ((ag af fu).f2) ((ag af fu).f3) _ _ ((ag af fu).f4) t722 _ ?az ?aA A6.out).mono ?_); (case az => exact cb_ (Kd.aK HR721_4.out HB.out)); (case aA => exact HC721_4.out); rintro e w8 ⟨rfl, hb⟩; refine ⟨_, rfl, ?_⟩; replace Jk := kb_ Jk hb; replace HB := aa.mk (ai bl_ hb); (try clear hb); (try clear hb2); (try clear hk); (try clear hi)))
      go_roundg k1
      case measure => have := HK1.out; omega
      case rel => exact ⟨(wrap64 (dL + t722)), (wrap64 (fu + 1)), rs_, rs_, H', ⟨by have := HK1.out; omega⟩, ⟨bk_⟩, ⟨bl_⟩⟩
     ·rw [if_neg c5] at H; exact absurd H (by simp)
    ·rw [if_neg c4] at H; have nK := decide_eq_false c4; clear c4; obtain rfl := Option.some.inj H; obtain ⟨tC, tF, tH, uZ, u6, tJ, tK, tL, u7, vk⟩ := bg Jk.out; go_wp2; go_ret; exact ⟨re_, bl_⟩
   ·rw [if_neg c3] at H; have gX := decide_eq_false c3; clear c3; obtain rfl := Option.some.inj H; obtain ⟨uj, uk, um, vJ, vK, uo, uq, uu, vL, vM⟩ := bg Jk.out; go_wp2; go_ret; exact ⟨re_, bl_⟩

end Go.Proofs.YtggelekooacmnaaDoor.Q
-- types.Equal and slices.EqualFunc at types, walked by hand
namespace Go.Proofs.YtggelekooacmnaaDoor.Q
open Go.RowKit Go.Proofs.YtggelekooacmnaaDoorW.aU Go.Proofs.YtggelekooacmnaaDoorW.bD Go.Proofs.YtggelekooacmnaaDoorW.bH
set_option linter.unusedVariables false
set_option linter.unusedSimpArgs false
mutual
def eqT : S24 → S24 → Bool
  | ⟨a0, a1, a2, a3, l⟩, ⟨b0, b1, b2, b3, m⟩ => a0 == b0 && a1 == b1 && a2 == b2 && a3 == b3 && sK l m
def sK : List S24 → List S24 → Bool
  | [], [] => true
  | x :: l, y :: m => eqT x y && sK l m
  | [], _ :: _ => false
  | _ :: _, [] => false
end
mutual
theorem Jl : ∀ x y : S24, eqT x y = true ↔ x = y
  | ⟨a0, a1, a2, a3, l⟩, ⟨b0, b1, b2, b3, m⟩ => by
    unfold eqT
    simp only [Bool.and_eq_true, beq_iff_eq, DW l m, S24.mk.injEq]
    constructor <;> rintro h <;> simp_all
theorem DW : ∀ l m : List S24, sK l m = true ↔ l = m
  | [], [] => by simp [sK]
  | x :: l, y :: m => by unfold sK; simp only [Bool.and_eq_true, Jl x y, DW l m, List.cons.injEq]
  | [], _ :: _ => by simp [sK]
  | _ :: _, [] => by simp [sK]
end
theorem OA : ∀ {l m : List S24}, l.length ≠ m.length → sK l m = false := by
  intro l m h
  cases hq : sK l m with
  | false => rfl
  | true => exact absurd (by rw [(DW l m).1 hq]) h
theorem eqTs_at {l m : List S24} (hl : l.length = m.length) {k : Nat} (hk : k < l.length) (h : eqT (ag l (k : Int)) (ag m (k : Int)) = false) : sK l m = false := by
  cases hq : sK l m with
  | false => rfl
  | true =>
    rw [(DW l m).1 hq] at h
    rw [(Jl _ _).2 rfl] at h; cases h
theorem eqTs_all {l m : List S24} (hl : l.length = m.length) (h : ∀ k, k < l.length → eqT (ag l (k : Int)) (ag m (k : Int)) = true) : sK l m = true := by
  refine (DW l m).2 (List.ext_getElem hl fun k h1 h2 => ?_)
  have := (Jl _ _).1 (h k h1)
  unfold ag at this
  simpa [List.getD_eq_getElem?_getD, h1, h2] using this
def gz.f (a0 a1 a2 a3 : Int) (l : List S24) (b0 b1 b2 b3 : Int) (m : List S24) : Option Bool := some (eqT ⟨a0, a1, a2, a3, l⟩ ⟨b0, b1, b2, b3, m⟩)
/-- what Equal says of two types that stand in a row -/
def EqSays (x y : S24) : Prop := ∀ (A : Option Addr) (c : Nat) (B : Option Addr) (d : Nat) (w : World), Kd.C k24 w A x.f4.length x.f4 → x.f4.length ≤ c → Kd.C k24 w B y.f4.length y.f4 → y.f4.length ≤ d →
  Calls Tryd.prog 23 #[.agg #[.int .i64 x.f0, .int .i64 x.f1, .int .i64 x.f2, .int .i64 x.f3, .slice A x.f4.length c], .agg #[.int .i64 y.f0, .int .i64 y.f1, .int .i64 y.f2, .int .i64 y.f3, .slice B y.f4.length d]] w fun e w' => e = .returned (.bool (eqT x y)) ∧ Below w.heap.size w w'
set_option maxHeartbeats 8000000 in
set_option maxRecDepth 100000 in
theorem LJ (l m : List S24) (A B : Option Addr) (c d : Nat) (w : World) (hA : Kd.C k24 w A l.length l) (hc : l.length ≤ c) (hB : Kd.C k24 w B m.length m) (hd : m.length ≤ d)
    (hE : ∀ x ∈ l, ∀ y, EqSays x y) :
    Calls Tryd.prog 48 #[.slice A l.length c, .slice B m.length d, .func (.func 23) #[] #[]] w fun e w' => e = .returned (.bool (sK l m)) ∧ Below w.heap.size w w' := by
  have hn := hA.2.1
  have hn2 := hB.2.1
  have HA := Lib.hid hA
  have HB := Lib.hid hB
  have HE := Lib.hid hE
  clear hA hB hE
  by_cases hl : l.length = m.length
  · obtain ⟨N, hN⟩ : ∃ N, N = l.length := ⟨_, rfl⟩
    have HL := Lib.hid hl
    have HN := Lib.hid hN
    rw [← hl] at hd ⊢
    rw [← hN] at hc hd hn ⊢
    clear hl hN hn2
    go_enter Tryd.func48, Tryd.ntmps48
    go_wp2
    go_loopw [17] (fun i wr => ∃ k : Nat, i = .int .i64 k ∧ k ≤ N ∧ Below w.heap.size w wr ∧ aa (∀ j, j < k → eqT (ag l (j : Int)) (ag m (j : Int)) = true)) (fun i _ => N - (intOf i).toNat)
    case atStart => exact ⟨0, rfl, Nat.zero_le _, Below.refl _ _, ⟨fun j hj => by omega⟩⟩
    case round =>
      obtain ⟨k, rfl, hk, hbw, hal⟩ := hrel
      by_cases hlt : k < N
      · obtain ⟨ad, A4, c4, rfl, d0, d1, d2, d3, d4, l4, g4⟩ := dZ (Kd.aK HA.out hbw) (k : Int) (by omega) (by have := HN.out; omega)
        obtain ⟨ae, B4, e4, rfl, q0, q1, q2, q3, q4, m4, r4⟩ := dZ (Kd.aK HB.out hbw) (k : Int) (by omega) (by have := HN.out; have := HL.out; omega)
        rw [Int.toNat_natCast] at d0 d1 d2 d3 d4 q0 q1 q2 q3 q4
        have hx : ag l (k : Int) ∈ l := by
          have h := (HN.out ▸ hlt : k < l.length)
          unfold ag; rw [Int.toNat_natCast, List.getD_eq_getElem?_getD, List.getElem?_eq_getElem h]; exact List.getElem_mem h
        have hEE := HE.out _ hx (ag m (k : Int))
        have HX := Lib.hid hx
        obtain ⟨x, hxe⟩ : ∃ x, x = ag l (k : Int) := ⟨_, rfl⟩
        obtain ⟨y, hye⟩ : ∃ y, y = ag m (k : Int) := ⟨_, rfl⟩
        rw [← hxe] at d0 d1 d2 d3 d4 l4 g4 hEE
        rw [← hye] at q0 q1 q2 q3 q4 m4 r4 hEE
        have HXE := Lib.hid hxe
        have HYE := Lib.hid hye
        have HG4 := Lib.hid g4
        have HR4 := Lib.hid r4
        have HBW := Lib.hid hbw
        have HAL := Lib.hid hal.out
        have HEE := Lib.hid hEE
        have hki : (k : Int) < (N : Int) := by omega
        have u1 := World.block_lt_of_cell? _ _ d0
        have u2 := World.block_lt_of_cell? _ _ q0
        have hb2 : Below wr.heap.size wr ((wr.alloc (.cells #[.int .i64 x.f0, .int .i64 x.f1, .int .i64 x.f2, .int .i64 x.f3, .slice A4 x.f4.length c4] 24)).alloc (.cells #[.int .i64 y.f0, .int .i64 y.f1, .int .i64 y.f2, .int .i64 y.f3, .slice B4 y.f4.length e4] 24)) := ((Below.refl _ wr).alloc (Nat.le_refl _) _).alloc (by simp) _
        have hF := HEE.out A4 c4 B4 e4 _ (Kd.aK HG4.out hb2) l4 (Kd.aK HR4.out hb2) m4
        have HB2 := Lib.hid hb2
        clear hx hxe hye g4 r4 hbw hal hEE hb2
        cases hq : eqT x y with
        | false =>
          rw [hq] at hF
          go_wp2_with (go_at_call 23; refine hF.mono ?_; clear hF; rintro e w3 ⟨rfl, hb3⟩; have HB3 := Lib.hid hb3; clear hb3)
          go_ret
          exact ⟨by rw [eqTs_at HL.out (k := k) (by have := HN.out; omega) (by rw [← HXE.out, ← HYE.out]; exact hq)]; rfl, (HBW.out.trans (HB2.out.mono HBW.out.size)).trans (HB3.out.mono (HBW.out.trans (HB2.out.mono HBW.out.size)).size)⟩
        | true =>
          rw [hq] at hF
          go_wp2_with (go_at_call 23; refine hF.mono ?_; clear hF; rintro e w3 ⟨rfl, hb3⟩; have HB3 := Lib.hid hb3; clear hb3)
          go_roundw
          case rel =>
            refine ⟨k + 1, by go_num, hlt, (HBW.out.trans (HB2.out.mono HBW.out.size)).trans (HB3.out.mono (HBW.out.trans (HB2.out.mono HBW.out.size)).size), ⟨fun j hj => ?_⟩⟩
            by_cases hjk : j = k
            · rw [hjk, ← HXE.out, ← HYE.out]; exact hq
            · exact HAL.out j (by omega)
          case measure => simp [intOf]; omega
      · go_wp2
        go_ret
        refine ⟨?_, hbw⟩
        rw [eqTs_all HL.out (fun j hj => hal.out j (by have := HN.out; omega))]
        rfl
  · have hf := OA hl
    have hb0 : ((l.length : Int) != (m.length : Int)) = true := by simp; omega
    go_enter Tryd.func48, Tryd.ntmps48
    go_wp2
    go_ret
    exact ⟨by rw [hf]; rfl, Below.refl _ _⟩
set_option maxHeartbeats 8000000 in
set_option maxRecDepth 100000 in
theorem Sm : ∀ (n : Nat) (x y : S24), SizeOf.sizeOf x ≤ n → EqSays x y := by
  intro n
  induction n with
  | zero => intro x y h; cases x; simp at h
  | succ n ih =>
    intro x y hn A c B d w hA hc hB hd
    obtain ⟨x0, x1, x2, x3, l⟩ := x
    obtain ⟨y0, y1, y2, y3, m⟩ := y
    dsimp only at hA hc hB hd ⊢
    have hl := hA.2.1
    have hm := hB.2.1
    have hb2 : Below w.heap.size w ((w.alloc (.cells #[.int .i64 x0, .int .i64 x1, .int .i64 x2, .int .i64 x3, .slice A l.length c] 24)).alloc (.cells #[.int .i64 y0, .int .i64 y1, .int .i64 y2, .int .i64 y3, .slice B m.length d] 24)) := ((Below.refl _ w).alloc (Nat.le_refl _) _).alloc (by simp) _
    have hF := LJ l m A B c d _ (Kd.aK hA hb2) hc (Kd.aK hB hb2) hd (fun z hz v => ih z v (by have := List.sizeOf_lt_of_mem hz; simp at hn; omega))
    have hE : eqT ⟨x0, x1, x2, x3, l⟩ ⟨y0, y1, y2, y3, m⟩ = (x0 == y0 && x1 == y1 && x2 == y2 && x3 == y3 && sK l m) := by unfold eqT; rfl
    have HE := Lib.hid hE
    have HB2 := Lib.hid hb2
    clear hA hB hE hb2 ih hn
    rw [HE.out]
    by_cases h0 : x0 = y0
    · subst h0
      by_cases h1 : x1 = y1
      · subst h1
        by_cases h2 : x2 = y2
        · subst h2
          by_cases h3 : x3 = y3
          · subst h3
            go_enter Tryd.func23, Tryd.ntmps23
            go_wp2_with (go_at_call 48; refine hF.mono ?_; clear hF; rintro e w3 ⟨rfl, hb3⟩; have HB3 := Lib.hid hb3; clear hb3)
            go_ret
            exact ⟨by simp, HB2.out.trans (HB3.out.mono HB2.out.size)⟩
          · have q3 : (x3 == y3) = false := beq_false_of_ne h3
            clear hF
            go_enter Tryd.func23, Tryd.ntmps23
            go_wp2
            go_ret
            exact ⟨by simp [q3], HB2.out⟩
        · have q2 : (x2 == y2) = false := beq_false_of_ne h2
          clear hF
          go_enter Tryd.func23, Tryd.ntmps23
          go_wp2
          go_ret
          exact ⟨by simp [q2], HB2.out⟩
      · have q1 : (x1 == y1) = false := beq_false_of_ne h1
        clear hF
        go_enter Tryd.func23, Tryd.ntmps23
        go_wp2
        go_ret
        exact ⟨by simp [q1], HB2.out⟩
    · have q0 : (x0 == y0) = false := beq_false_of_ne h0
      clear hF
      go_enter Tryd.func23, Tryd.ntmps23
      go_wp2
      go_ret
      exact ⟨by simp [q0], HB2.out⟩
theorem gz.calls (a0 a1 a2 a3 : Int) (A : Option Addr) (c : Nat) (l : List S24) (b0 b1 b2 b3 : Int) (B : Option Addr) (d : Nat) (m : List S24) (r : Bool) (w : World) (hA : Kd.C k24 w A l.length l) (hc : l.length ≤ c) (hB : Kd.C k24 w B m.length m) (hd : m.length ≤ d) (h : gz.f a0 a1 a2 a3 l b0 b1 b2 b3 m = some r) :
    Calls Tryd.prog 23 #[.agg #[.int .i64 a0, .int .i64 a1, .int .i64 a2, .int .i64 a3, .slice A l.length c], .agg #[.int .i64 b0, .int .i64 b1, .int .i64 b2, .int .i64 b3, .slice B m.length d]] w fun e w' => e = .returned (.bool r) ∧ Below w.heap.size w w' := by
  obtain rfl := Option.some.inj h
  exact Sm _ ⟨a0, a1, a2, a3, l⟩ ⟨b0, b1, b2, b3, m⟩ (Nat.le_refl _) A c B d w hA hc hB hd
end Go.Proofs.YtggelekooacmnaaDoor.Q
