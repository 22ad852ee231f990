/- Lemmas for: FC that mh is true for every list of numbers: the order of values is total and transitive, and equal values have the same text. -/
import Derived.StillTailTactics
import Derived.Lib.QuietBelow
import Derived.Test.YtggelekooacmnaaDoorVo2
namespace Go.Proofs.YtggelekooacmnaaDoor.Q
open Go.RowKit Go.Proofs.YtggelekooacmnaaDoorW.bg Go.Proofs.YtggelekooacmnaaDoorW.bP Go.Proofs.YtggelekooacmnaaDoorW.bX
attribute [local go_sem] ek eu fw fA dH dI eB eD   -- for this text's walks alone
set_option linter.unusedVariables false
set_option linter.unusedSimpArgs false

/-! ### aW: function 39 -/
mutual
def aW.j0 : Nat → Bool → Int → Int → Int → Int → List (S24) → Option (Int)
 | 0, _, _, _, _, _, _ => none
 | k + 1, x15, u6, xw, xx, xy, j6 => if x15 = true then (some 14) else ((iJ.f u6 xw xx xy j6).bind fun t107 => (if t107 = true then (some 2) else (if u6 = 2 then (if xw < (-1000) then (some 1) else (if xw > xx then (some 1) else (if xx > 1000 then (some 1) else (some 0)))) else (if u6 = 5 then (if (j6.length : Int) < 2 then (aW.j1 k true u6 xw xx xy j6) else (aW.j1 k (decide ((j6.length : Int) > 4)) u6 xw xx xy j6)) else (if u6 = 6 then (if xy < 1 then (aW.j3 k true u6 xw xx xy j6) else (aW.j3 k (decide (xy > 4)) u6 xw xx xy j6)) else (some 0))))))
def aW.j1 : Nat → Bool → Int → Int → Int → Int → List (S24) → Option (Int)
 | 0, _, _, _, _, _, _ => none
 | k + 1, x48, u6, xw, xx, xy, j6 => if x48 = true then (some 1) else (aW.l0 k j6 (j6.length : Int) 0)
def aW.l0 : Nat → List (S24) → Int → Int → Option (Int)
 | 0, _, _, _ => none
 | k + 1, x50, x51, x52 => if x52 < x51 then (if 0 ≤ x52 then (if x52 < (x50.length : Int) then ((aW.f k ((ag x50 x52).f0) ((ag x50 x52).f1) ((ag x50 x52).f2) ((ag x50 x52).f3) ((ag x50 x52).f4)).bind fun t110 => (if t110 = 0 then (if ((ag x50 x52).f0) = 3 then (some 8) else (if ((ag x50 x52).f0) = 4 then (some 8) else (aW.l0 k x50 x51 (wrap64 (x52 + 1))))) else (some t110))) else (none)) else (none)) else (some 0)
def aW.j3 : Nat → Bool → Int → Int → Int → Int → List (S24) → Option (Int)
 | 0, _, _, _, _, _, _ => none
 | k + 1, x79, u6, xw, xx, xy, j6 => if x79 = true then (some 1) else (if (j6.length : Int) = 1 then (if 0 < (j6.length : Int) then ((aW.f k ((ag j6 0).f0) ((ag j6 0).f1) ((ag j6 0).f2) ((ag j6 0).f3) ((ag j6 0).f4)).bind fun t112 => (if t112 = 0 then (if ((ag j6 0).f0) = 1 then (some 0) else (if ((ag j6 0).f0) = 2 then (some 0) else (some 8))) else (some t112))) else (none)) else (some 2))
def aW.f : Nat → Int → Int → Int → Int → List (S24) → Option (Int)
 | 0, _, _, _, _, _ => none
 | k + 1, ai, az, aA, ay, af => if ai < 1 then (aW.j0 k true ai az aA ay af) else (aW.j0 k (decide (ai > 6)) ai az aA ay af)
end
theorem aW.fH : ∀ k, (∀ y0 y1 y2 y3 y4, LeO (aW.f k y0 y1 y2 y3 y4) (aW.f (k + 1) y0 y1 y2 y3 y4)) ∧ (∀ y0 y1 y2 y3 y4 y5, LeO (aW.j0 k y0 y1 y2 y3 y4 y5) (aW.j0 (k + 1) y0 y1 y2 y3 y4 y5)) ∧ (∀ y0 y1 y2 y3 y4 y5, LeO (aW.j1 k y0 y1 y2 y3 y4 y5) (aW.j1 (k + 1) y0 y1 y2 y3 y4 y5)) ∧ (∀ y0 y1 y2, LeO (aW.l0 k y0 y1 y2) (aW.l0 (k + 1) y0 y1 y2)) ∧ (∀ y0 y1 y2 y3 y4 y5, LeO (aW.j3 k y0 y1 y2 y3 y4 y5) (aW.j3 (k + 1) y0 y1 y2 y3 y4 y5))
 | 0 => ⟨fun _ _ _ _ _ r h => by simp [aW.f] at h, fun _ _ _ _ _ _ r h => by simp [aW.j0] at h, fun _ _ _ _ _ _ r h => by simp [aW.j1] at h, fun _ _ _ r h => by simp [aW.l0] at h, fun _ _ _ _ _ _ r h => by simp [aW.j3] at h⟩
 | k + 1 => by
  obtain ⟨ih0, ih1, ih2, ih3, ih4⟩ := aW.fH k; refine ⟨?_, ?_, ?_, ?_, ?_⟩
  ·intro y0 y1 y2 y3 y4; unfold aW.f; repeat' first
   | (with_reducible exact ih0 _ _ _ _ _)
   | (with_reducible exact ih1 _ _ _ _ _ _)
   | (with_reducible exact ih2 _ _ _ _ _ _)
   | (with_reducible exact ih3 _ _ _)
   | (with_reducible exact ih4 _ _ _ _ _ _)
   | (with_reducible exact LeO.refl _)
   | (with_reducible exact LeO.none _)
   | (with_reducible refine LeO.ite ?_ ?_)
   | (with_reducible refine LeO.bind ?_ (fun _ => ?_))
   | exact ih0 _ _ _ _ _
   | exact ih1 _ _ _ _ _ _
   | exact ih2 _ _ _ _ _ _
   | exact ih3 _ _ _
   | exact ih4 _ _ _ _ _ _
   | exact LeO.none _
   | refine LeO.ite ?_ ?_
   | refine LeO.bind ?_ (fun _ => ?_)
  ·intro y0 y1 y2 y3 y4 y5; unfold aW.j0; repeat' first
   | (with_reducible exact ih0 _ _ _ _ _)
   | (with_reducible exact ih1 _ _ _ _ _ _)
   | (with_reducible exact ih2 _ _ _ _ _ _)
   | (with_reducible exact ih3 _ _ _)
   | (with_reducible exact ih4 _ _ _ _ _ _)
   | (with_reducible exact LeO.refl _)
   | (with_reducible exact LeO.none _)
   | (with_reducible refine LeO.ite ?_ ?_)
   | (with_reducible refine LeO.bind ?_ (fun _ => ?_))
   | exact ih0 _ _ _ _ _
   | exact ih1 _ _ _ _ _ _
   | exact ih2 _ _ _ _ _ _
   | exact ih3 _ _ _
   | exact ih4 _ _ _ _ _ _
   | exact LeO.none _
   | refine LeO.ite ?_ ?_
   | refine LeO.bind ?_ (fun _ => ?_)
  ·intro y0 y1 y2 y3 y4 y5; unfold aW.j1; repeat' first
   | (with_reducible exact ih0 _ _ _ _ _)
   | (with_reducible exact ih1 _ _ _ _ _ _)
   | (with_reducible exact ih2 _ _ _ _ _ _)
   | (with_reducible exact ih3 _ _ _)
   | (with_reducible exact ih4 _ _ _ _ _ _)
   | (with_reducible exact LeO.refl _)
   | (with_reducible exact LeO.none _)
   | (with_reducible refine LeO.ite ?_ ?_)
   | (with_reducible refine LeO.bind ?_ (fun _ => ?_))
   | exact ih0 _ _ _ _ _
   | exact ih1 _ _ _ _ _ _
   | exact ih2 _ _ _ _ _ _
   | exact ih3 _ _ _
   | exact ih4 _ _ _ _ _ _
   | exact LeO.none _
   | refine LeO.ite ?_ ?_
   | refine LeO.bind ?_ (fun _ => ?_)
  ·intro y0 y1 y2; unfold aW.l0; repeat' first
   | (with_reducible exact ih0 _ _ _ _ _)
   | (with_reducible exact ih1 _ _ _ _ _ _)
   | (with_reducible exact ih2 _ _ _ _ _ _)
   | (with_reducible exact ih3 _ _ _)
   | (with_reducible exact ih4 _ _ _ _ _ _)
   | (with_reducible exact LeO.refl _)
   | (with_reducible exact LeO.none _)
   | (with_reducible refine LeO.ite ?_ ?_)
   | (with_reducible refine LeO.bind ?_ (fun _ => ?_))
   | exact ih0 _ _ _ _ _
   | exact ih1 _ _ _ _ _ _
   | exact ih2 _ _ _ _ _ _
   | exact ih3 _ _ _
   | exact ih4 _ _ _ _ _ _
   | exact LeO.none _
   | refine LeO.ite ?_ ?_
   | refine LeO.bind ?_ (fun _ => ?_)
  ·intro y0 y1 y2 y3 y4 y5; unfold aW.j3; repeat' first
   | (with_reducible exact ih0 _ _ _ _ _)
   | (with_reducible exact ih1 _ _ _ _ _ _)
   | (with_reducible exact ih2 _ _ _ _ _ _)
   | (with_reducible exact ih3 _ _ _)
   | (with_reducible exact ih4 _ _ _ _ _ _)
   | (with_reducible exact LeO.refl _)
   | (with_reducible exact LeO.none _)
   | (with_reducible refine LeO.ite ?_ ?_)
   | (with_reducible refine LeO.bind ?_ (fun _ => ?_))
   | exact ih0 _ _ _ _ _
   | exact ih1 _ _ _ _ _ _
   | exact ih2 _ _ _ _ _ _
   | exact ih3 _ _ _
   | exact ih4 _ _ _ _ _ _
   | exact LeO.none _
   | refine LeO.ite ?_ ?_
   | refine LeO.bind ?_ (fun _ => ?_)
theorem aW.mono : ∀ a0 a1 a2 a3 a4 k, LeO (aW.f k a0 a1 a2 a3 a4) (aW.f (k + 1) a0 a1 a2 a3 a4) := by
 intro a0 a1 a2 a3 a4 k; obtain ⟨ih0, ih1, ih2, ih3, ih4⟩ := aW.fH k; exact ih0 a0 a1 a2 a3 a4
set_option maxHeartbeats 8000000 in
set_option maxRecDepth 100000 in
theorem aW.calls (k : Nat) : ∀ (ai : Int) (az : Int) (aA : Int) (ay : Int) (bq : Option Addr) (bf : Nat) (af : List (S24)) (r : Int) (w : World) (dX : Kd.C k24 w bq af.length af) (dY : af.length ≤ bf) (h : aW.f k ai az aA ay af = some r),
  Calls Tryd.prog 39 #[.agg #[.int .i64 ai, .int .i64 az, .int .i64 aA, .int .i64 ay, .slice bq af.length bf]] w fun e w' => e = .returned (.int .i64 r) ∧ Below w.heap.size w w' := by
 induction k using Nat.strongRecOn with
 | _ k ih =>
 intro ai az aA ay bq bf af r w dX dY h; cases k with
 | zero => exact absurd h (by simp [aW.f])
 | succ k =>
 simp only [aW.f] at h; have ou := Tryd.underlying24; have bV := aa.mk dX; have dz := aa.mk dY; clear dX dY; have HB := aa.mk (Below.refl w.heap.size w); have H : (if ai < 1 then (aW.j0 k true ai az aA ay af) else (aW.j0 k (decide (ai > 6)) ai az aA ay af)) = some r := h; clear h; have HC2 := aa.mk H; clear H; go_enter Tryd.func39, Tryd.ntmps39; go_upto_region 1 with (first | ((with_reducible refine aY (N := 1) rfl ?_); (try (refine bY (by rfl) ?_; dsimp only)); refine aZ ?hg (N := 1) ?hd (cs := #[.int .i64 ai, .int .i64 az, .int .i64 aA, .int .i64 ay, .slice bq af.length bf]) (t := 24) ?hr ?_; (case hd => rfl); (case hg => rfl); (case hr => first | (go_simp; done) | (go_simp; rfl)); intro DY hg w3 aK hb; have dB := aa.mk (aK); have GW106 : aa (w.heap.size ≤ DY) := gw_ hg (aG bl_); have GE106 := GW106; replace HB := aa.mk (au bl_ hb); clear hb aK hg))
 (try simp only [Act.put, List.setIfInBounds_toArray, List.set_cons_zero, List.set_cons_succ])
 go_cut [15] (fun v15 wc => ∃ (kq : Nat) (x15_1 : Bool), v15 = .bool x15_1 ∧ aa (aW.j0 kq x15_1 ai az aA ay af = some r) ∧ aa (kq ≤ k) ∧ aa (wc.heap[DY]? = some (.cells #[.int .i64 ai, .int .i64 az, .int .i64 aA, .int .i64 ay, (.slice bq af.length bf)] 24 (0, 0))) ∧ aa (Below w.heap.size w wc))
 case first =>
  have H := HC2.out; clear HC2; by_cases c4 : ai < 1
  ·rw [if_pos c4] at H; have kM : decide (ai < 1) = true := decide_eq_true c4; clear c4; (first | rw [kM] | (simp only [eT, eY]; rw [kM]) | skip)
   have H' := aa.mk H; clear H; obtain ⟨FO, FP, FQ, FR, FT, FU, FV, FW, FX, FY⟩ := bF dB.out; go_wp2; go_meet
   case rel => exact ⟨_, (true), rs_, H', ⟨by first | omega | exact Nat.le_refl _⟩, ⟨bk_⟩, ⟨bl_⟩⟩
  ·rw [if_neg c4] at H; have kM : decide (ai < 1) = false := decide_eq_false c4; clear c4; (first | rw [kM] | (simp only [eT, eY]; rw [kM]) | skip)
   have H' := aa.mk H; clear H; obtain ⟨Hl, Hm, Ho, Hq, Hr, Ht, Hu, Hw, Hy, Hz⟩ := bF dB.out; go_wp2; go_meet
   case rel => exact ⟨_, (decide (ai > 6)), rs_, H', ⟨by first | omega | exact Nat.le_refl _⟩, ⟨bk_⟩, ⟨bl_⟩⟩
 case rest =>
  clear HC2; (try clear p2); (try clear c3); (try clear c4); (try clear kM); (try clear FO FP FQ FR FT FU FV FW FX FY); (try clear Hl Hm Ho Hq Hr Ht Hu Hw Hy Hz); obtain ⟨kq, x15_1, rfl, HA, HJ1, dB, HB⟩ := hcut; cases kq with
  | zero => exact absurd HA.out (by simp [aW.j0])
  | succ kj1 =>
   have H := HA.out; clear HA; simp only [aW.j0] at H; by_cases c7 : x15_1 = true
   ·subst c7; have H1 : (some 14) = some r := by rw [if_pos rfl] at H; exact H
    clear H; have H := H1; clear H1; obtain rfl := Option.some.inj H; go_wp2; go_ret; exact ⟨re_, bl_⟩
   ·replace c7 := Bool.eq_false_iff.mpr c7; subst c7; have H1 : ((iJ.f ai az aA ay af).bind fun t107 => (if t107 = true then (some 2) else (if ai = 2 then (if az < (-1000) then (some 1) else (if az > aA then (some 1) else (if aA > 1000 then (some 1) else (some 0)))) else (if ai = 5 then (if (af.length : Int) < 2 then (aW.j1 kj1 true ai az aA ay af) else (aW.j1 kj1 (decide ((af.length : Int) > 4)) ai az aA ay af)) else (if ai = 6 then (if ay < 1 then (aW.j3 kj1 true ai az aA ay af) else (aW.j3 kj1 (decide (ay > 4)) ai az aA ay af)) else (some 0)))))) = some r := by rw [if_neg (show ¬ (false = true) by decide)] at H; exact H
    clear H; have H := H1; clear H1; replace H := Option.bind_eq_some_iff.mp H; obtain ⟨t107, A80, H⟩ := H; replace H : (if t107 = true then (some 2) else (if ai = 2 then (if az < (-1000) then (some 1) else (if az > aA then (some 1) else (if aA > 1000 then (some 1) else (some 0)))) else (if ai = 5 then (if (af.length : Int) < 2 then (aW.j1 kj1 true ai az aA ay af) else (aW.j1 kj1 (decide ((af.length : Int) > 4)) ai az aA ay af)) else (if ai = 6 then (if ay < 1 then (aW.j3 kj1 true ai az aA ay af) else (aW.j3 kj1 (decide (ay > 4)) ai az aA ay af)) else (some 0))))) = some r := H; have A8 := aa.mk A80; clear A80; by_cases c9 : t107 = true
    ·subst c9; have H1 : (some 2) = some r := by rw [if_pos rfl] at H; exact H
     clear H; have H := H1; clear H1; obtain rfl := Option.some.inj H; obtain ⟨lM, lN, nu, ny, nz, lQ, lS, nA, nC, nD⟩ := bF dB.out; go_wp2_with (first | ((with_reducible refine aN (f := 69) rfl ?_); refine bJ (some 17) rfl rfl Tryd.func69 (by kernel_rfl) rfl #[.agg #[.int .i64 ai, .int .i64 az, .int .i64 aA, .int .i64 ay, .slice bq af.length bf]] rfl mp_ ?_; (with_reducible refine (iJ.calls ai az aA ay _ _ af true _ ?aQ ?aT A8.out).mono ?_); (case aQ => exact cb_ (Kd.bA bV.out HB.out)); (case aT => exact dz.out); rintro e w11 ⟨rfl, hb⟩; refine ⟨_, rfl, ?_⟩; replace dB := kb_ dB hb; replace HB := aa.mk (au bl_ hb); (try clear hb); (try clear hb2); (try clear hk); (try clear hi)))
     go_ret; exact ⟨re_, bl_⟩
    ·replace c9 := Bool.eq_false_iff.mpr c9; subst c9; have H1 : (if ai = 2 then (if az < (-1000) then (some 1) else (if az > aA then (some 1) else (if aA > 1000 then (some 1) else (some 0)))) else (if ai = 5 then (if (af.length : Int) < 2 then (aW.j1 kj1 true ai az aA ay af) else (aW.j1 kj1 (decide ((af.length : Int) > 4)) ai az aA ay af)) else (if ai = 6 then (if ay < 1 then (aW.j3 kj1 true ai az aA ay af) else (aW.j3 kj1 (decide (ay > 4)) ai az aA ay af)) else (some 0)))) = some r := by rw [if_neg (show ¬ (false = true) by decide)] at H; exact H
     clear H; have H := H1; clear H1; by_cases c12 : ai = 2
     ·rw [if_pos c12] at H; have oV : (ai == 2) = true := beq_iff_eq.mpr c12; have za : (ai != 2) = false := bne_eq_false_iff_eq.mpr c12; clear c12; by_cases c13 : az < (-1000)
      ·rw [if_pos c13] at H; have oW : decide (az < (-1000)) = true := decide_eq_true c13; clear c13; obtain rfl := Option.some.inj H; obtain ⟨kg, ko, kr, ku, kv, ky, kz, kC, kD, kE⟩ := bF dB.out; go_wp2_with (first | ((with_reducible refine aN (f := 69) rfl ?_); refine bJ (some 17) rfl rfl Tryd.func69 (by kernel_rfl) rfl #[.agg #[.int .i64 ai, .int .i64 az, .int .i64 aA, .int .i64 ay, .slice bq af.length bf]] rfl mp_ ?_; (with_reducible refine (iJ.calls ai az aA ay _ _ af false _ ?aQ ?aT A8.out).mono ?_); (case aQ => exact cb_ (Kd.bA bV.out HB.out)); (case aT => exact dz.out); rintro e w15 ⟨rfl, hb⟩; refine ⟨_, rfl, ?_⟩; replace dB := kb_ dB hb; replace HB := aa.mk (au bl_ hb); (try clear hb); (try clear hb2); (try clear hk); (try clear hi); obtain ⟨pO, pQ, qF, qG, qH, pR, pU, qI, qJ, qK⟩ := bF dB.out))
       go_ret; exact ⟨re_, bl_⟩
      ·rw [if_neg c13] at H; have oW : decide (az < (-1000)) = false := decide_eq_false c13; clear c13; by_cases c17 : az > aA
       ·rw [if_pos c17] at H; have CY : decide (aA < az) = true := decide_eq_true c17; clear c17; obtain rfl := Option.some.inj H; obtain ⟨lT, lU, qz, qA, qB, lV, lW, qC, qD, qE⟩ := bF dB.out; go_wp2_with (first | ((with_reducible refine aN (f := 69) rfl ?_); refine bJ (some 17) rfl rfl Tryd.func69 (by kernel_rfl) rfl #[.agg #[.int .i64 ai, .int .i64 az, .int .i64 aA, .int .i64 ay, .slice bq af.length bf]] rfl mp_ ?_; (with_reducible refine (iJ.calls ai az aA ay _ _ af false _ ?aQ ?aT A8.out).mono ?_); (case aQ => exact cb_ (Kd.bA bV.out HB.out)); (case aT => exact dz.out); rintro e w19 ⟨rfl, hb⟩; refine ⟨_, rfl, ?_⟩; replace dB := kb_ dB hb; replace HB := aa.mk (au bl_ hb); (try clear hb); (try clear hb2); (try clear hk); (try clear hi); obtain ⟨zC, zD, BK, BL, BM, zF, zG, BN, BO, BP⟩ := bF dB.out))
        go_ret; exact ⟨re_, bl_⟩
       ·rw [if_neg c17] at H; have CY : decide (aA < az) = false := decide_eq_false c17; clear c17; by_cases c21 : aA > 1000
        ·rw [if_pos c21] at H; have AL : decide (1000 < aA) = true := decide_eq_true c21; clear c21; obtain rfl := Option.some.inj H; obtain ⟨su, sw, uU, uV, uW, sD, sF, uX, uY, uZ⟩ := bF dB.out; go_wp2_with (first | ((with_reducible refine aN (f := 69) rfl ?_); refine bJ (some 17) rfl rfl Tryd.func69 (by kernel_rfl) rfl #[.agg #[.int .i64 ai, .int .i64 az, .int .i64 aA, .int .i64 ay, .slice bq af.length bf]] rfl mp_ ?_; (with_reducible refine (iJ.calls ai az aA ay _ _ af false _ ?aQ ?aT A8.out).mono ?_); (case aQ => exact cb_ (Kd.bA bV.out HB.out)); (case aT => exact dz.out); rintro e w23 ⟨rfl, hb⟩; refine ⟨_, rfl, ?_⟩; replace dB := kb_ dB hb; replace HB := aa.mk (au bl_ hb); (try clear hb); (try clear hb2); (try clear hk); (try clear hi); obtain ⟨zH, zI, Lu, Lv, Lx, zJ, zK, LA, LB, LC⟩ := bF dB.out))
         go_ret; exact ⟨re_, bl_⟩
        ·rw [if_neg c21] at H; have AL : decide (1000 < aA) = false := decide_eq_false c21; clear c21; obtain rfl := Option.some.inj H; obtain ⟨zL, zM, zN, zO, zP, zQ, zR, zS, zT, zU⟩ := bF dB.out; go_wp2_with (first | ((with_reducible refine aN (f := 69) rfl ?_); refine bJ (some 17) rfl rfl Tryd.func69 (by kernel_rfl) rfl #[.agg #[.int .i64 ai, .int .i64 az, .int .i64 aA, .int .i64 ay, .slice bq af.length bf]] rfl mp_ ?_; (with_reducible refine (iJ.calls ai az aA ay _ _ af false _ ?aQ ?aT A8.out).mono ?_); (case aQ => exact cb_ (Kd.bA bV.out HB.out)); (case aT => exact dz.out); rintro e w26 ⟨rfl, hb⟩; refine ⟨_, rfl, ?_⟩; replace dB := kb_ dB hb; replace HB := aa.mk (au bl_ hb); (try clear hb); (try clear hb2); (try clear hk); (try clear hi); obtain ⟨wZ, xc, xe, xg, xh, xk, xm, xn, xq, xu⟩ := bF dB.out))
         go_ret; exact ⟨re_, bl_⟩
     ·rw [if_neg c12] at H; have oV : (ai == 2) = false := beq_eq_false_iff_ne.mpr c12; have za : (ai != 2) = true := bne_iff_ne.mpr c12; by_cases c28 : ai = 5
      ·rw [if_pos c28] at H; have c28b0 : (ai == 5) = true := beq_iff_eq.mpr c28; have c28b1 : (ai != 5) = false := bne_eq_false_iff_eq.mpr c28; clear c28; have HC29 := aa.mk H; clear H; obtain ⟨xz, xA, HY, H5, H6, xB, xC, H7, H8, H9⟩ := bF dB.out; go_upto_region 10 with (first | ((with_reducible refine aN (f := 69) rfl ?_); refine bJ (some 17) rfl rfl Tryd.func69 (by kernel_rfl) rfl #[.agg #[.int .i64 ai, .int .i64 az, .int .i64 aA, .int .i64 ay, .slice bq af.length bf]] rfl mp_ ?_; (with_reducible refine (iJ.calls ai az aA ay _ _ af false _ ?aQ ?aT A8.out).mono ?_); (case aQ => exact cb_ (Kd.bA bV.out HB.out)); (case aT => exact dz.out); rintro e w31 ⟨rfl, hb⟩; refine ⟨_, rfl, ?_⟩; replace dB := kb_ dB hb; replace HB := aa.mk (au bl_ hb); (try clear hb); (try clear hb2); (try clear hk); (try clear hi); obtain ⟨sG, sH, BQ, BR, BS, sI, sJ, BU, BV, BX⟩ := bF dB.out))
       (try simp only [Act.put, List.setIfInBounds_toArray, List.set_cons_zero, List.set_cons_succ])
       go_cut [48] (fun v48 wc => ∃ (kq : Nat) (OY : Bool), v48 = .bool OY ∧ aa (aW.j1 kq OY ai az aA ay af = some r) ∧ aa (kq ≤ kj1) ∧ aa (wc.heap[DY]? = some (.cells #[.int .i64 ai, .int .i64 az, .int .i64 aA, .int .i64 ay, (.slice bq af.length bf)] 24 (0, 0))) ∧ aa (Below w.heap.size w wc))
       case first =>
        have H := HC29.out; clear HC29; by_cases c33 : (af.length : Int) < 2
        ·rw [if_pos c33] at H; have xD : decide ((af.length : Int) < 2) = true := decide_eq_true c33; have c33b1 : decide (af.length < 2) = true := decide_eq_true (by omega); clear c33; (first | rw [xD] | (simp only [eT, eY]; rw [xD]) | skip)
         have H' := aa.mk H; clear H; obtain ⟨Er, Es, Et, Eu, Ew, Ex, Ey, Ez, EA, EB⟩ := bF dB.out; go_wp2; go_meet
         case rel => exact ⟨_, (true), rs_, H', ⟨by have := HJ1.out; first | omega | exact Nat.le_refl _⟩, ⟨bk_⟩, ⟨bl_⟩⟩
        ·rw [if_neg c33] at H; have xD : decide ((af.length : Int) < 2) = false := decide_eq_false c33; have c33b1 : decide (af.length < 2) = false := decide_eq_false (by omega); clear c33; (first | rw [xD] | (simp only [eT, eY]; rw [xD]) | skip)
         have H' := aa.mk H; clear H; obtain ⟨uK, uL, uM, uN, uO, uP, uQ, uR, uS, uT⟩ := bF dB.out; go_wp2; go_meet
         case rel => exact ⟨_, (decide ((af.length : Int) > 4)), rs_, H', ⟨by have := HJ1.out; first | omega | exact Nat.le_refl _⟩, ⟨bk_⟩, ⟨bl_⟩⟩
       case rest =>
        clear HC29; (try clear c1); (try clear c2); (try clear p2); (try clear c3); (try clear c4); (try clear kM); (try clear c6); (try clear c7); (try clear c9); (try clear c12); (try clear oV); (try clear za); (try clear c13); (try clear oW); (try clear c17); (try clear CY); (try clear c21); (try clear AL); (try clear c28); (try clear c28b0); (try clear c28b1); (try clear c33); (try clear xD); (try clear c33b1); (try clear lM lN nu ny nz lQ lS nA nC nD); (try clear kg ko kr ku kv ky kz kC kD kE); (try clear pO pQ qF qG qH pR pU qI qJ qK); (try clear lT lU qz qA qB lV lW qC qD qE); (try clear zC zD BK BL BM zF zG BN BO BP); (try clear su sw uU uV uW sD sF uX uY uZ); (try clear zH zI Lu Lv Lx zJ zK LA LB LC); (try clear zL zM zN zO zP zQ zR zS zT zU); (try clear wZ xc xe xg xh xk xm xn xq xu); (try clear xz xA HY H5 H6 xB xC H7 H8 H9); (try clear sG sH BQ BR BS sI sJ BU BV BX); (try clear Er Es Et Eu Ew Ex Ey Ez EA EB); (try clear uK uL uM uN uO uP uQ uR uS uT); (try clear FO FP FQ FR FT FU FV FW FX FY); (try clear Hl Hm Ho Hq Hr Ht Hu Hw Hy Hz); (try clear p2); obtain ⟨kq, OY, rfl, HA, HJ28, dB, HB⟩ := hcut; cases kq with
        | zero => exact absurd HA.out (by simp [aW.j1])
        | succ kj28 =>
         have H := HA.out; clear HA; simp only [aW.j1] at H; by_cases c36 : OY = true
         ·subst c36; have H1 : (some 1) = some r := by rw [if_pos rfl] at H; exact H
          clear H; have H := H1; clear H1; obtain rfl := Option.some.inj H; go_wp2; go_ret; exact ⟨re_, bl_⟩
         ·replace c36 := Bool.eq_false_iff.mpr c36; subst c36; have H1 : (aW.l0 kj28 af (af.length : Int) 0) = some r := by rw [if_neg (show ¬ (false = true) by decide)] at H; exact H
          clear H; have H := H1; clear H1; have H' := aa.mk H; clear H; obtain ⟨xE, xG, xH, xI, xJ, xK, xL, xM, xN, xO⟩ := bF dB.out; go_wp2; go_loopg [52] kj28 (fun kq v52 w' => ∃ (bO : Int), v52 = .int .i64 bO ∧ aa (aW.l0 kq af (af.length : Int) bO = some r) ∧ aa (kq ≤ kj28) ∧ aa (w'.heap[DY]? = some (.cells #[.int .i64 ai, .int .i64 az, .int .i64 aA, .int .i64 ay, (.slice bq af.length bf)] 24 (0, 0))) ∧ aa (Below w.heap.size w w'))
          case atStart => exact ⟨(0), rs_, H', ⟨Nat.le_refl _⟩, ⟨bk_⟩, ⟨bl_⟩⟩
          case round =>
           clear H'; (try clear c1); (try clear c2); (try clear p2); (try clear c3); (try clear c4); (try clear kM); (try clear c6); (try clear c7); (try clear c9); (try clear c12); (try clear oV); (try clear za); (try clear c13); (try clear oW); (try clear c17); (try clear CY); (try clear c21); (try clear AL); (try clear c28); (try clear c28b0); (try clear c28b1); (try clear c33); (try clear xD); (try clear c33b1); (try clear c36); (try clear lM lN nu ny nz lQ lS nA nC nD); (try clear kg ko kr ku kv ky kz kC kD kE); (try clear pO pQ qF qG qH pR pU qI qJ qK); (try clear lT lU qz qA qB lV lW qC qD qE); (try clear zC zD BK BL BM zF zG BN BO BP); (try clear su sw uU uV uW sD sF uX uY uZ); (try clear zH zI Lu Lv Lx zJ zK LA LB LC); (try clear zL zM zN zO zP zQ zR zS zT zU); (try clear wZ xc xe xg xh xk xm xn xq xu); (try clear xz xA HY H5 H6 xB xC H7 H8 H9); (try clear sG sH BQ BR BS sI sJ BU BV BX); (try clear Er Es Et Eu Ew Ex Ey Ez EA EB); (try clear uK uL uM uN uO uP uQ uR uS uT); (try clear xE xG xH xI xJ xK xL xM xN xO); (try clear FO FP FQ FR FT FU FV FW FX FY); (try clear Hl Hm Ho Hq Hr Ht Hu Hw Hy Hz); (try clear p2); obtain ⟨bO, rfl, HA, HK3, dB, HB⟩ := hrel; cases gk with
           | zero => exact absurd HA.out (by simp [aW.l0])
           | succ k3 =>
            have H := HA.out; clear HA; simp only [aW.l0] at H; by_cases c38 : bO < (af.length : Int)
            ·rw [if_pos c38] at H; have KZ : decide (bO < (af.length : Int)) = true := decide_eq_true c38; clear c38; by_cases c39 : 0 ≤ bO
             ·rw [if_pos c39] at H; have DX : decide (0 ≤ bO) = true := decide_eq_true c39; clear c39; by_cases c40 : bO < (af.length : Int)
              ·rw [if_pos c40] at H; have c40b0 : decide (bO < (af.length : Int)) = true := decide_eq_true c40; clear c40; replace H := Option.bind_eq_some_iff.mp H; obtain ⟨t110, A410, H⟩ := H; replace H : (if t110 = 0 then (if ((ag af bO).f0) = 3 then (some 8) else (if ((ag af bO).f0) = 4 then (some 8) else (aW.l0 k3 af (af.length : Int) (wrap64 (bO + 1))))) else (some t110)) = some r := H; have A41 := aa.mk A410; clear A410; by_cases c42 : t110 = 0
               ·rw [if_pos c42] at H; have c42b0 : (t110 == 0) = true := beq_iff_eq.mpr c42; have c42b1 : (t110 != 0) = false := bne_eq_false_iff_eq.mpr c42; clear c42; by_cases c43 : ((ag af bO).f0) = 3
                ·rw [if_pos c43] at H; have c43b0 : (((ag af bO).f0) == 3) = true := beq_iff_eq.mpr c43; have c43b1 : (((ag af bO).f0) != 3) = false := bne_eq_false_iff_eq.mpr c43; clear c43; obtain rfl := Option.some.inj H; have yN : 0 ≤ (bO : Int) := dt_; have yO : bO < (af.length : Int) := dt_; obtain ⟨Jy, vR, vS, e108, qL, qM, qN, qO, qP, sK, sM⟩ := eX bV.out bO yN yO; cases e108; replace qL := hc_ HB qL; replace qM := hc_ HB qM; replace qN := hc_ HB qN; replace qO := hc_ HB qO; replace qP := hc_ HB qP; have BZ := aa.mk sM; have Ca := aa.mk sK; clear sM sK; replace yN := eq_true yN; replace yO := eq_true yO; go_wp2_with (first | ((with_reducible refine aY (N := 4) rfl ?_); (try (refine bY (by rfl) ?_; dsimp only)); refine aZ ?hg (N := 4) ?hd (cs := #[.int .i64 0, .int .i64 0, .int .i64 0, .int .i64 0, .slice none 0 0]) (t := 24) ?hr ?_; (case hd => rfl); (case hg => rfl); (case hr => first | (go_simp; done) | (go_simp; rfl)); intro AO hg w44 aK hb; have qc := aa.mk (aK); have Jz : aa (w.heap.size ≤ AO) := gw_ hg (aG bl_); have GE109 := Jz; have gB := nl_ dB hg; have vT := ng_ dB hg; replace dB := kb_ dB hb; replace HB := aa.mk (au bl_ hb); clear hb aK hg; have hnb45 := vT.out; have hnc45 := gB.out; obtain ⟨hcz46_0, hcz46_1, hcz46_2, hcz46_3, hcz46_4, hfz46_0, hfz46_1, hfz46_2, hfz46_3, hfz46_4⟩ := bF qc.out) | ((with_reducible refine aN (f := 39) rfl ?_); refine bJ (some 57) rfl rfl Tryd.func39 (by kernel_rfl) rfl #[.agg #[.int .i64 ((ag af bO).f0), .int .i64 ((ag af bO).f1), .int .i64 ((ag af bO).f2), .int .i64 ((ag af bO).f3), .slice vR ((ag af bO).f4).length vS]] rfl mp_ ?_; (with_reducible refine (ih k3 (by have := HJ1.out; have := HJ28.out; have := HK3.out; omega) ((ag af bO).f0) ((ag af bO).f1) ((ag af bO).f2) ((ag af bO).f3) _ _ ((ag af bO).f4) t110 _ ?aQ ?aT A41.out).mono ?_); (case aQ => exact Kd.bA BZ.out bl_); (case aT => exact Ca.out); rintro e w47 ⟨rfl, hb⟩; refine ⟨_, rfl, ?_⟩; replace dB := aa.mk (gy (g := DY) (o := .cells #[.int .i64 ai, .int .i64 az, .int .i64 aA, .int .i64 ay, .slice (some Jy) af.length bf] 24 (0, 0)) (by (with_reducible repeat (first | refine aj ?_ _ | refine ak ?_ | refine ah ?_ _)); refine bM ?_ gB.out _; (with_reducible repeat (first | refine aj ?_ _ | refine ak ?_ | refine ah ?_ _)); refine bM ?_ gB.out _; (with_reducible repeat (first | refine aj ?_ _ | refine ak ?_ | refine ah ?_ _)); refine bM ?_ gB.out _; (with_reducible repeat (first | refine aj ?_ _ | refine ak ?_ | refine ah ?_ _)); refine bM ?_ gB.out _; (with_reducible repeat (first | refine aj ?_ _ | refine ak ?_ | refine ah ?_ _)); refine bM ?_ gB.out _; (with_reducible repeat (first | refine aj ?_ _ | refine ak ?_ | refine ah ?_ _)); exact dB.out) hb); replace qc := aa.mk (gy (g := AO) (o := .cells #[.int .i64 ((ag af bO).f0), .int .i64 ((ag af bO).f1), .int .i64 ((ag af bO).f2), .int .i64 ((ag af bO).f3), .slice vR ((ag af bO).f4).length vS] 24 (0, 0)) (by (with_reducible repeat (first | refine aj ?_ _ | refine ak ?_ | refine ah ?_ _)); refine bn (cs := #[.int .i64 ((ag af bO).f0), .int .i64 ((ag af bO).f1), .int .i64 ((ag af bO).f2), .int .i64 ((ag af bO).f3), .slice none 0 0]) ?_ 4 _ rfl; (with_reducible repeat (first | refine aj ?_ _ | refine ak ?_ | refine ah ?_ _)); refine bn (cs := #[.int .i64 ((ag af bO).f0), .int .i64 ((ag af bO).f1), .int .i64 ((ag af bO).f2), .int .i64 0, .slice none 0 0]) ?_ 3 _ rfl; (with_reducible repeat (first | refine aj ?_ _ | refine ak ?_ | refine ah ?_ _)); refine bn (cs := #[.int .i64 ((ag af bO).f0), .int .i64 ((ag af bO).f1), .int .i64 0, .int .i64 0, .slice none 0 0]) ?_ 2 _ rfl; (with_reducible repeat (first | refine aj ?_ _ | refine ak ?_ | refine ah ?_ _)); refine bn (cs := #[.int .i64 ((ag af bO).f0), .int .i64 0, .int .i64 0, .int .i64 0, .slice none 0 0]) ?_ 1 _ rfl; (with_reducible repeat (first | refine aj ?_ _ | refine ak ?_ | refine ah ?_ _)); refine bn (cs := #[.int .i64 0, .int .i64 0, .int .i64 0, .int .i64 0, .slice none 0 0]) ?_ 0 _ rfl; (with_reducible repeat (first | refine aj ?_ _ | refine ak ?_ | refine ah ?_ _)); exact qc.out) hb); replace HB := aa.mk (au bl_ hb); (try clear hb); (try clear hb2); (try clear hk); (try clear hi); obtain ⟨Vi, Vj, Vk, Vl, Vm, Vn, Vo, Vp, Vq, Vr⟩ := bF qc.out))
                 go_ret; exact ⟨re_, bl_⟩
                ·rw [if_neg c43] at H; have c43b0 : (((ag af bO).f0) == 3) = false := beq_eq_false_iff_ne.mpr c43; have c43b1 : (((ag af bO).f0) != 3) = true := bne_iff_ne.mpr c43; by_cases c49 : ((ag af bO).f0) = 4
                 ·rw [if_pos c49] at H; have OZ : (((ag af bO).f0) == 4) = true := beq_iff_eq.mpr c49; have O0 : (((ag af bO).f0) != 4) = false := bne_eq_false_iff_eq.mpr c49; clear c49; obtain rfl := Option.some.inj H; have yN : 0 ≤ (bO : Int) := dt_; have yO : bO < (af.length : Int) := dt_; obtain ⟨Jy, vR, vS, e108, qL, qM, qN, qO, qP, sK, sM⟩ := eX bV.out bO yN yO; cases e108; replace qL := hc_ HB qL; replace qM := hc_ HB qM; replace qN := hc_ HB qN; replace qO := hc_ HB qO; replace qP := hc_ HB qP; have BZ := aa.mk sM; have Ca := aa.mk sK; clear sM sK; replace yN := eq_true yN; replace yO := eq_true yO; go_wp2_with (first | ((with_reducible refine aY (N := 4) rfl ?_); (try (refine bY (by rfl) ?_; dsimp only)); refine aZ ?hg (N := 4) ?hd (cs := #[.int .i64 0, .int .i64 0, .int .i64 0, .int .i64 0, .slice none 0 0]) (t := 24) ?hr ?_; (case hd => rfl); (case hg => rfl); (case hr => first | (go_simp; done) | (go_simp; rfl)); intro AO hg w50 aK hb; have qc := aa.mk (aK); have Jz : aa (w.heap.size ≤ AO) := gw_ hg (aG bl_); have GE109 := Jz; have gB := nl_ dB hg; have vT := ng_ dB hg; replace dB := kb_ dB hb; replace HB := aa.mk (au bl_ hb); clear hb aK hg; have hnb51 := vT.out; have hnc51 := gB.out; obtain ⟨LD, LF, Re, Rf, Rh, LG, LH, Ri, Rj, Rk⟩ := bF qc.out) | ((with_reducible refine aN (f := 39) rfl ?_); refine bJ (some 57) rfl rfl Tryd.func39 (by kernel_rfl) rfl #[.agg #[.int .i64 ((ag af bO).f0), .int .i64 ((ag af bO).f1), .int .i64 ((ag af bO).f2), .int .i64 ((ag af bO).f3), .slice vR ((ag af bO).f4).length vS]] rfl mp_ ?_; (with_reducible refine (ih k3 (by have := HJ1.out; have := HJ28.out; have := HK3.out; omega) ((ag af bO).f0) ((ag af bO).f1) ((ag af bO).f2) ((ag af bO).f3) _ _ ((ag af bO).f4) t110 _ ?aQ ?aT A41.out).mono ?_); (case aQ => exact Kd.bA BZ.out bl_); (case aT => exact Ca.out); rintro e w53 ⟨rfl, hb⟩; refine ⟨_, rfl, ?_⟩; replace dB := aa.mk (gy (g := DY) (o := .cells #[.int .i64 ai, .int .i64 az, .int .i64 aA, .int .i64 ay, .slice (some Jy) af.length bf] 24 (0, 0)) (by (with_reducible repeat (first | refine aj ?_ _ | refine ak ?_ | refine ah ?_ _)); refine bM ?_ gB.out _; (with_reducible repeat (first | refine aj ?_ _ | refine ak ?_ | refine ah ?_ _)); refine bM ?_ gB.out _; (with_reducible repeat (first | refine aj ?_ _ | refine ak ?_ | refine ah ?_ _)); refine bM ?_ gB.out _; (with_reducible repeat (first | refine aj ?_ _ | refine ak ?_ | refine ah ?_ _)); refine bM ?_ gB.out _; (with_reducible repeat (first | refine aj ?_ _ | refine ak ?_ | refine ah ?_ _)); refine bM ?_ gB.out _; (with_reducible repeat (first | refine aj ?_ _ | refine ak ?_ | refine ah ?_ _)); exact dB.out) hb); replace qc := aa.mk (gy (g := AO) (o := .cells #[.int .i64 ((ag af bO).f0), .int .i64 ((ag af bO).f1), .int .i64 ((ag af bO).f2), .int .i64 ((ag af bO).f3), .slice vR ((ag af bO).f4).length vS] 24 (0, 0)) (by (with_reducible repeat (first | refine aj ?_ _ | refine ak ?_ | refine ah ?_ _)); refine bn (cs := #[.int .i64 ((ag af bO).f0), .int .i64 ((ag af bO).f1), .int .i64 ((ag af bO).f2), .int .i64 ((ag af bO).f3), .slice none 0 0]) ?_ 4 _ rfl; (with_reducible repeat (first | refine aj ?_ _ | refine ak ?_ | refine ah ?_ _)); refine bn (cs := #[.int .i64 ((ag af bO).f0), .int .i64 ((ag af bO).f1), .int .i64 ((ag af bO).f2), .int .i64 0, .slice none 0 0]) ?_ 3 _ rfl; (with_reducible repeat (first | refine aj ?_ _ | refine ak ?_ | refine ah ?_ _)); refine bn (cs := #[.int .i64 ((ag af bO).f0), .int .i64 ((ag af bO).f1), .int .i64 0, .int .i64 0, .slice none 0 0]) ?_ 2 _ rfl; (with_reducible repeat (first | refine aj ?_ _ | refine ak ?_ | refine ah ?_ _)); refine bn (cs := #[.int .i64 ((ag af bO).f0), .int .i64 0, .int .i64 0, .int .i64 0, .slice none 0 0]) ?_ 1 _ rfl; (with_reducible repeat (first | refine aj ?_ _ | refine ak ?_ | refine ah ?_ _)); refine bn (cs := #[.int .i64 0, .int .i64 0, .int .i64 0, .int .i64 0, .slice none 0 0]) ?_ 0 _ rfl; (with_reducible repeat (first | refine aj ?_ _ | refine ak ?_ | refine ah ?_ _)); exact qc.out) hb); replace HB := aa.mk (au bl_ hb); (try clear hb); (try clear hb2); (try clear hk); (try clear hi); obtain ⟨LJ, LK, LM, LP, LQ, LU, LV, LW, LX, LY⟩ := bF qc.out))
                  go_ret; exact ⟨re_, bl_⟩
                 ·rw [if_neg c49] at H; have OZ : (((ag af bO).f0) == 4) = false := beq_eq_false_iff_ne.mpr c49; have O0 : (((ag af bO).f0) != 4) = true := bne_iff_ne.mpr c49; have H' := aa.mk H; clear H; have yN : 0 ≤ (bO : Int) := dt_; have yO : bO < (af.length : Int) := dt_; obtain ⟨Jy, vR, vS, e108, qL, qM, qN, qO, qP, sK, sM⟩ := eX bV.out bO yN yO; cases e108; replace qL := hc_ HB qL; replace qM := hc_ HB qM; replace qN := hc_ HB qN; replace qO := hc_ HB qO; replace qP := hc_ HB qP; have BZ := aa.mk sM; have Ca := aa.mk sK; clear sM sK; replace yN := eq_true yN; replace yO := eq_true yO; go_wp2_with (first | ((with_reducible refine aY (N := 4) rfl ?_); (try (refine bY (by rfl) ?_; dsimp only)); refine aZ ?hg (N := 4) ?hd (cs := #[.int .i64 0, .int .i64 0, .int .i64 0, .int .i64 0, .slice none 0 0]) (t := 24) ?hr ?_; (case hd => rfl); (case hg => rfl); (case hr => first | (go_simp; done) | (go_simp; rfl)); intro AO hg w55 aK hb; have qc := aa.mk (aK); have Jz : aa (w.heap.size ≤ AO) := gw_ hg (aG bl_); have GE109 := Jz; have gB := nl_ dB hg; have vT := ng_ dB hg; replace dB := kb_ dB hb; replace HB := aa.mk (au bl_ hb); clear hb aK hg; have hnb56 := vT.out; have hnc56 := gB.out; obtain ⟨LZ, L6, L8, L9, Ma, Mc, Md, Me, Mf, Mg⟩ := bF qc.out) | ((with_reducible refine aN (f := 39) rfl ?_); refine bJ (some 57) rfl rfl Tryd.func39 (by kernel_rfl) rfl #[.agg #[.int .i64 ((ag af bO).f0), .int .i64 ((ag af bO).f1), .int .i64 ((ag af bO).f2), .int .i64 ((ag af bO).f3), .slice vR ((ag af bO).f4).length vS]] rfl mp_ ?_; (with_reducible refine (ih k3 (by have := HJ1.out; have := HJ28.out; have := HK3.out; omega) ((ag af bO).f0) ((ag af bO).f1) ((ag af bO).f2) ((ag af bO).f3) _ _ ((ag af bO).f4) t110 _ ?aQ ?aT A41.out).mono ?_); (case aQ => exact Kd.bA BZ.out bl_); (case aT => exact Ca.out); rintro e w58 ⟨rfl, hb⟩; refine ⟨_, rfl, ?_⟩; replace dB := aa.mk (gy (g := DY) (o := .cells #[.int .i64 ai, .int .i64 az, .int .i64 aA, .int .i64 ay, .slice (some Jy) af.length bf] 24 (0, 0)) (by (with_reducible repeat (first | refine aj ?_ _ | refine ak ?_ | refine ah ?_ _)); refine bM ?_ gB.out _; (with_reducible repeat (first | refine aj ?_ _ | refine ak ?_ | refine ah ?_ _)); refine bM ?_ gB.out _; (with_reducible repeat (first | refine aj ?_ _ | refine ak ?_ | refine ah ?_ _)); refine bM ?_ gB.out _; (with_reducible repeat (first | refine aj ?_ _ | refine ak ?_ | refine ah ?_ _)); refine bM ?_ gB.out _; (with_reducible repeat (first | refine aj ?_ _ | refine ak ?_ | refine ah ?_ _)); refine bM ?_ gB.out _; (with_reducible repeat (first | refine aj ?_ _ | refine ak ?_ | refine ah ?_ _)); exact dB.out) hb); replace qc := aa.mk (gy (g := AO) (o := .cells #[.int .i64 ((ag af bO).f0), .int .i64 ((ag af bO).f1), .int .i64 ((ag af bO).f2), .int .i64 ((ag af bO).f3), .slice vR ((ag af bO).f4).length vS] 24 (0, 0)) (by (with_reducible repeat (first | refine aj ?_ _ | refine ak ?_ | refine ah ?_ _)); refine bn (cs := #[.int .i64 ((ag af bO).f0), .int .i64 ((ag af bO).f1), .int .i64 ((ag af bO).f2), .int .i64 ((ag af bO).f3), .slice none 0 0]) ?_ 4 _ rfl; (with_reducible repeat (first | refine aj ?_ _ | refine ak ?_ | refine ah ?_ _)); refine bn (cs := #[.int .i64 ((ag af bO).f0), .int .i64 ((ag af bO).f1), .int .i64 ((ag af bO).f2), .int .i64 0, .slice none 0 0]) ?_ 3 _ rfl; (with_reducible repeat (first | refine aj ?_ _ | refine ak ?_ | refine ah ?_ _)); refine bn (cs := #[.int .i64 ((ag af bO).f0), .int .i64 ((ag af bO).f1), .int .i64 0, .int .i64 0, .slice none 0 0]) ?_ 2 _ rfl; (with_reducible repeat (first | refine aj ?_ _ | refine ak ?_ | refine ah ?_ _)); refine bn (cs := #[.int .i64 ((ag af bO).f0), .int .i64 0, .int .i64 0, .int .i64 0, .slice none 0 0]) ?_ 1 _ rfl; (with_reducible repeat (first | refine aj ?_ _ | refine ak ?_ | refine ah ?_ _)); refine bn (cs := #[.int .i64 0, .int .i64 0, .int .i64 0, .int .i64 0, .slice none 0 0]) ?_ 0 _ rfl; (with_reducible repeat (first | refine aj ?_ _ | refine ak ?_ | refine ah ?_ _)); exact qc.out) hb); replace HB := aa.mk (au bl_ hb); (try clear hb); (try clear hb2); (try clear hk); (try clear hi); obtain ⟨Ia, Ib, Mh, Mi, Mj, Ic, Ie, Mk, Ml, Mm⟩ := bF qc.out))
                  go_roundg k3
                  case measure => have := HJ1.out; have := HJ28.out; have := HK3.out; omega
                  case rel => exact ⟨(wrap64 (bO + 1)), rs_, H', ⟨by have := HJ1.out; have := HJ28.out; have := HK3.out; omega⟩, ⟨bk_⟩, ⟨bl_⟩⟩
               ·rw [if_neg c42] at H; have c42b0 : (t110 == 0) = false := beq_eq_false_iff_ne.mpr c42; have c42b1 : (t110 != 0) = true := bne_iff_ne.mpr c42; obtain rfl := Option.some.inj H; have yN : 0 ≤ (bO : Int) := dt_; have yO : bO < (af.length : Int) := dt_; obtain ⟨Jy, vR, vS, e108, qL, qM, qN, qO, qP, sK, sM⟩ := eX bV.out bO yN yO; cases e108; replace qL := hc_ HB qL; replace qM := hc_ HB qM; replace qN := hc_ HB qN; replace qO := hc_ HB qO; replace qP := hc_ HB qP; have BZ := aa.mk sM; have Ca := aa.mk sK; clear sM sK; replace yN := eq_true yN; replace yO := eq_true yO; go_wp2_with (first | ((with_reducible refine aY (N := 4) rfl ?_); (try (refine bY (by rfl) ?_; dsimp only)); refine aZ ?hg (N := 4) ?hd (cs := #[.int .i64 0, .int .i64 0, .int .i64 0, .int .i64 0, .slice none 0 0]) (t := 24) ?hr ?_; (case hd => rfl); (case hg => rfl); (case hr => first | (go_simp; done) | (go_simp; rfl)); intro AO hg w60 aK hb; have qc := aa.mk (aK); have Jz : aa (w.heap.size ≤ AO) := gw_ hg (aG bl_); have GE109 := Jz; have gB := nl_ dB hg; have vT := ng_ dB hg; replace dB := kb_ dB hb; replace HB := aa.mk (au bl_ hb); clear hb aK hg; have hnb61 := vT.out; have hnc61 := gB.out; obtain ⟨BC, BD, Rl, Rm, Rn, BF, BG, Ro, Rp, Rq⟩ := bF qc.out) | ((with_reducible refine aN (f := 39) rfl ?_); refine bJ (some 57) rfl rfl Tryd.func39 (by kernel_rfl) rfl #[.agg #[.int .i64 ((ag af bO).f0), .int .i64 ((ag af bO).f1), .int .i64 ((ag af bO).f2), .int .i64 ((ag af bO).f3), .slice vR ((ag af bO).f4).length vS]] rfl mp_ ?_; (with_reducible refine (ih k3 (by have := HJ1.out; have := HJ28.out; have := HK3.out; omega) ((ag af bO).f0) ((ag af bO).f1) ((ag af bO).f2) ((ag af bO).f3) _ _ ((ag af bO).f4) t110 _ ?aQ ?aT A41.out).mono ?_); (case aQ => exact Kd.bA BZ.out bl_); (case aT => exact Ca.out); rintro e w63 ⟨rfl, hb⟩; refine ⟨_, rfl, ?_⟩; replace dB := aa.mk (gy (g := DY) (o := .cells #[.int .i64 ai, .int .i64 az, .int .i64 aA, .int .i64 ay, .slice (some Jy) af.length bf] 24 (0, 0)) (by (with_reducible repeat (first | refine aj ?_ _ | refine ak ?_ | refine ah ?_ _)); refine bM ?_ gB.out _; (with_reducible repeat (first | refine aj ?_ _ | refine ak ?_ | refine ah ?_ _)); refine bM ?_ gB.out _; (with_reducible repeat (first | refine aj ?_ _ | refine ak ?_ | refine ah ?_ _)); refine bM ?_ gB.out _; (with_reducible repeat (first | refine aj ?_ _ | refine ak ?_ | refine ah ?_ _)); refine bM ?_ gB.out _; (with_reducible repeat (first | refine aj ?_ _ | refine ak ?_ | refine ah ?_ _)); refine bM ?_ gB.out _; (with_reducible repeat (first | refine aj ?_ _ | refine ak ?_ | refine ah ?_ _)); exact dB.out) hb); replace qc := aa.mk (gy (g := AO) (o := .cells #[.int .i64 ((ag af bO).f0), .int .i64 ((ag af bO).f1), .int .i64 ((ag af bO).f2), .int .i64 ((ag af bO).f3), .slice vR ((ag af bO).f4).length vS] 24 (0, 0)) (by (with_reducible repeat (first | refine aj ?_ _ | refine ak ?_ | refine ah ?_ _)); refine bn (cs := #[.int .i64 ((ag af bO).f0), .int .i64 ((ag af bO).f1), .int .i64 ((ag af bO).f2), .int .i64 ((ag af bO).f3), .slice none 0 0]) ?_ 4 _ rfl; (with_reducible repeat (first | refine aj ?_ _ | refine ak ?_ | refine ah ?_ _)); refine bn (cs := #[.int .i64 ((ag af bO).f0), .int .i64 ((ag af bO).f1), .int .i64 ((ag af bO).f2), .int .i64 0, .slice none 0 0]) ?_ 3 _ rfl; (with_reducible repeat (first | refine aj ?_ _ | refine ak ?_ | refine ah ?_ _)); refine bn (cs := #[.int .i64 ((ag af bO).f0), .int .i64 ((ag af bO).f1), .int .i64 0, .int .i64 0, .slice none 0 0]) ?_ 2 _ rfl; (with_reducible repeat (first | refine aj ?_ _ | refine ak ?_ | refine ah ?_ _)); refine bn (cs := #[.int .i64 ((ag af bO).f0), .int .i64 0, .int .i64 0, .int .i64 0, .slice none 0 0]) ?_ 1 _ rfl; (with_reducible repeat (first | refine aj ?_ _ | refine ak ?_ | refine ah ?_ _)); refine bn (cs := #[.int .i64 0, .int .i64 0, .int .i64 0, .int .i64 0, .slice none 0 0]) ?_ 0 _ rfl; (with_reducible repeat (first | refine aj ?_ _ | refine ak ?_ | refine ah ?_ _)); exact qc.out) hb); replace HB := aa.mk (au bl_ hb); (try clear hb); (try clear hb2); (try clear hk); (try clear hi)))
                go_ret; exact ⟨re_, bl_⟩
              ·rw [if_neg c40] at H; exact absurd H (by simp)
             ·rw [if_neg c39] at H; exact absurd H (by simp)
            ·rw [if_neg c38] at H; have KZ : decide (bO < (af.length : Int)) = false := decide_eq_false c38; clear c38; obtain rfl := Option.some.inj H; go_wp2; go_ret; exact ⟨re_, bl_⟩
      ·rw [if_neg c28] at H; have c28b0 : (ai == 5) = false := beq_eq_false_iff_ne.mpr c28; have c28b1 : (ai != 5) = true := bne_iff_ne.mpr c28; by_cases c64 : ai = 6
       ·rw [if_pos c64] at H; have c64b0 : (ai == 6) = true := beq_iff_eq.mpr c64; have c64b1 : (ai != 6) = false := bne_eq_false_iff_eq.mpr c64; clear c64; have HC65 := aa.mk H; clear H; obtain ⟨Ig, Ih, Rt, Ru, Rv, Ii, Ij, Rw, Rx, Ry⟩ := bF dB.out; go_upto_region 22 with (first | ((with_reducible refine aN (f := 69) rfl ?_); refine bJ (some 17) rfl rfl Tryd.func69 (by kernel_rfl) rfl #[.agg #[.int .i64 ai, .int .i64 az, .int .i64 aA, .int .i64 ay, .slice bq af.length bf]] rfl mp_ ?_; (with_reducible refine (iJ.calls ai az aA ay _ _ af false _ ?aQ ?aT A8.out).mono ?_); (case aQ => exact cb_ (Kd.bA bV.out HB.out)); (case aT => exact dz.out); rintro e w67 ⟨rfl, hb⟩; refine ⟨_, rfl, ?_⟩; replace dB := kb_ dB hb; replace HB := aa.mk (au bl_ hb); (try clear hb); (try clear hb2); (try clear hk); (try clear hi); obtain ⟨hcz68_0, hcz68_1, hcz68_2, hcz68_3, hcz68_4, hfz68_0, hfz68_1, hfz68_2, hfz68_3, hfz68_4⟩ := bF dB.out))
        (try simp only [Act.put, List.setIfInBounds_toArray, List.set_cons_zero, List.set_cons_succ])
        go_cut [79] (fun v79 wc => ∃ (kq : Nat) (O1 : Bool), v79 = .bool O1 ∧ aa (aW.j3 kq O1 ai az aA ay af = some r) ∧ aa (kq ≤ kj1) ∧ aa (wc.heap[DY]? = some (.cells #[.int .i64 ai, .int .i64 az, .int .i64 aA, .int .i64 ay, (.slice bq af.length bf)] 24 (0, 0))) ∧ aa (Below w.heap.size w wc))
        case first =>
         have H := HC65.out; clear HC65; by_cases c69 : ay < 1
         ·rw [if_pos c69] at H; have Gz : decide (ay < 1) = true := decide_eq_true c69; clear c69; (first | rw [Gz] | (simp only [eT, eY]; rw [Gz]) | skip)
          have H' := aa.mk H; clear H; obtain ⟨hcz70_0, hcz70_1, hcz70_2, hcz70_3, hcz70_4, hfz70_0, hfz70_1, hfz70_2, hfz70_3, hfz70_4⟩ := bF dB.out; go_wp2; go_meet
          case rel => exact ⟨_, (true), rs_, H', ⟨by have := HJ1.out; first | omega | exact Nat.le_refl _⟩, ⟨bk_⟩, ⟨bl_⟩⟩
         ·rw [if_neg c69] at H; have Gz : decide (ay < 1) = false := decide_eq_false c69; clear c69; (first | rw [Gz] | (simp only [eT, eY]; rw [Gz]) | skip)
          have H' := aa.mk H; clear H; obtain ⟨hcz71_0, hcz71_1, hcz71_2, hcz71_3, hcz71_4, hfz71_0, hfz71_1, hfz71_2, hfz71_3, hfz71_4⟩ := bF dB.out; go_wp2; go_meet
          case rel => exact ⟨_, (decide (ay > 4)), rs_, H', ⟨by have := HJ1.out; first | omega | exact Nat.le_refl _⟩, ⟨bk_⟩, ⟨bl_⟩⟩
        case rest =>
         clear HC65; (try clear c1); (try clear p1); (try clear q1); (try clear hx1); (try clear c2); (try clear p2); (try clear c3); (try clear c4); (try clear kM); (try clear c5); (try clear c6); (try clear p6); (try clear c7); (try clear c9); (try clear c10); (try clear p10); (try clear q10); (try clear hx10); (try clear c12); (try clear oV); (try clear za); (try clear c13); (try clear oW); (try clear c17); (try clear CY); (try clear c21); (try clear AL); (try clear c28); (try clear c28b0); (try clear c28b1); (try clear c33); (try clear xD); (try clear c33b1); (try clear c36); (try clear c38); (try clear KZ); (try clear c39); (try clear DX); (try clear c40); (try clear c40b0); (try clear c42); (try clear c42b0); (try clear c42b1); (try clear c43); (try clear c43b0); (try clear c43b1); (try clear c45); (try clear c49); (try clear OZ); (try clear O0); (try clear c51); (try clear c56); (try clear c61); (try clear c64); (try clear c64b0); (try clear c64b1); (try clear p64); (try clear c69); (try clear Gz); (try clear lM lN nu ny nz lQ lS nA nC nD); (try clear kg ko kr ku kv ky kz kC kD kE); (try clear pO pQ qF qG qH pR pU qI qJ qK); (try clear lT lU qz qA qB lV lW qC qD qE); (try clear zC zD BK BL BM zF zG BN BO BP); (try clear su sw uU uV uW sD sF uX uY uZ); (try clear zH zI Lu Lv Lx zJ zK LA LB LC); (try clear zL zM zN zO zP zQ zR zS zT zU); (try clear wZ xc xe xg xh xk xm xn xq xu); (try clear xz xA HY H5 H6 xB xC H7 H8 H9); (try clear sG sH BQ BR BS sI sJ BU BV BX); (try clear Er Es Et Eu Ew Ex Ey Ez EA EB); (try clear uK uL uM uN uO uP uQ uR uS uT); (try clear xE xG xH xI xJ xK xL xM xN xO); (try clear hcz46_0 hcz46_1 hcz46_2 hcz46_3 hcz46_4 hfz46_0 hfz46_1 hfz46_2 hfz46_3 hfz46_4); (try clear Vi Vj Vk Vl Vm Vn Vo Vp Vq Vr); (try clear LD LF Re Rf Rh LG LH Ri Rj Rk); (try clear LJ LK LM LP LQ LU LV LW LX LY); (try clear LZ L6 L8 L9 Ma Mc Md Me Mf Mg); (try clear Ia Ib Mh Mi Mj Ic Ie Mk Ml Mm); (try clear FO FP FQ FR FT FU FV FW FX FY); (try clear BC BD Rl Rm Rn BF BG Ro Rp Rq)
         (try clear Ig Ih Rt Ru Rv Ii Ij Rw Rx Ry); (try clear hcz68_0 hcz68_1 hcz68_2 hcz68_3 hcz68_4 hfz68_0 hfz68_1 hfz68_2 hfz68_3 hfz68_4); (try clear Hl Hm Ho Hq Hr Ht Hu Hw Hy Hz); (try clear hcz70_0 hcz70_1 hcz70_2 hcz70_3 hcz70_4 hfz70_0 hfz70_1 hfz70_2 hfz70_3 hfz70_4); (try clear hcz71_0 hcz71_1 hcz71_2 hcz71_3 hcz71_4 hfz71_0 hfz71_1 hfz71_2 hfz71_3 hfz71_4); (try clear qL); (try clear qM); (try clear qN); (try clear qO); (try clear qP); (try clear yN); (try clear p2); (try clear yO); obtain ⟨kq, O1, rfl, HA, HJ64, dB, HB⟩ := hcut; cases kq with
         | zero => exact absurd HA.out (by simp [aW.j3])
         | succ kj64 =>
          have H := HA.out; clear HA; simp only [aW.j3] at H; by_cases c72 : O1 = true
          ·subst c72; have H1 : (some 1) = some r := by rw [if_pos rfl] at H; exact H
           clear H; have H := H1; clear H1; obtain rfl := Option.some.inj H; go_wp2; go_ret; exact ⟨re_, bl_⟩
          ·replace c72 := Bool.eq_false_iff.mpr c72; subst c72; have H1 : (if (af.length : Int) = 1 then (if 0 < (af.length : Int) then ((aW.f kj64 ((ag af 0).f0) ((ag af 0).f1) ((ag af 0).f2) ((ag af 0).f3) ((ag af 0).f4)).bind fun t112 => (if t112 = 0 then (if ((ag af 0).f0) = 1 then (some 0) else (if ((ag af 0).f0) = 2 then (some 0) else (some 8))) else (some t112))) else (none)) else (some 2)) = some r := by rw [if_neg (show ¬ (false = true) by decide)] at H; exact H
           clear H; have H := H1; clear H1; by_cases c73 : (af.length : Int) = 1
           ·rw [if_pos c73] at H; have c73b0 : ((af.length : Int) == 1) = true := beq_iff_eq.mpr c73; have c73b1 : ((af.length : Int) != 1) = false := bne_eq_false_iff_eq.mpr c73; clear c73; by_cases c74 : 0 < (af.length : Int)
            ·rw [if_pos c74] at H; have c74b0 : decide (0 < (af.length : Int)) = true := decide_eq_true c74; have c74b1 : decide (0 < af.length) = true := decide_eq_true (by omega); clear c74; replace H := Option.bind_eq_some_iff.mp H; obtain ⟨t112, A750, H⟩ := H; replace H : (if t112 = 0 then (if ((ag af 0).f0) = 1 then (some 0) else (if ((ag af 0).f0) = 2 then (some 0) else (some 8))) else (some t112)) = some r := H; have A75 := aa.mk A750; clear A750; by_cases c76 : t112 = 0
             ·rw [if_pos c76] at H; have c76b0 : (t112 == 0) = true := beq_iff_eq.mpr c76; have c76b1 : (t112 != 0) = false := bne_eq_false_iff_eq.mpr c76; clear c76; by_cases c77 : ((ag af 0).f0) = 1
              ·rw [if_pos c77] at H; have c77b0 : (((ag af 0).f0) == 1) = true := beq_iff_eq.mpr c77; have c77b1 : (((ag af 0).f0) != 1) = false := bne_eq_false_iff_eq.mpr c77; clear c77; obtain rfl := Option.some.inj H; obtain ⟨Vs, Vu, hcz78_2, hcz78_3, hcz78_4, Vw, Vx, hfz78_2, hfz78_3, hfz78_4⟩ := bF dB.out; have zk : 0 ≤ (0 : Int) := (by omega); have zl : 0 < (af.length : Int) := dt_; obtain ⟨Mo, F4, F5, e111, nJ, nK, nL, nM, nN, sN, sO⟩ := eX bV.out 0 zk zl; cases e111; have qi111 : (0 < af.length) = True := eq_true (by omega); (try simp only [z0_, Nat.zero_mul, Addr.add_zero'] at nJ nK nL nM nN)
               replace nJ := hc_ HB nJ; replace nK := hc_ HB nK; replace nL := hc_ HB nL; replace nM := hc_ HB nM; replace nN := hc_ HB nN; have Cb := aa.mk sO; have Cc := aa.mk sN; clear sO sN; replace zk := eq_true zk; replace zl := eq_true zl; go_wp2_with (first | ((with_reducible refine aN (f := 39) rfl ?_); refine bJ (some 88) rfl rfl Tryd.func39 (by kernel_rfl) rfl #[.agg #[.int .i64 ((ag af 0).f0), .int .i64 ((ag af 0).f1), .int .i64 ((ag af 0).f2), .int .i64 ((ag af 0).f3), .slice F4 ((ag af 0).f4).length F5]] rfl mp_ ?_; (with_reducible refine (ih kj64 (by have := HJ1.out; have := HJ64.out; omega) ((ag af 0).f0) ((ag af 0).f1) ((ag af 0).f2) ((ag af 0).f3) _ _ ((ag af 0).f4) t112 _ ?aQ ?aT A75.out).mono ?_); (case aQ => exact cb_ (Kd.bA Cb.out HB.out)); (case aT => exact Cc.out); rintro e w79 ⟨rfl, hb⟩; refine ⟨_, rfl, ?_⟩; replace dB := kb_ dB hb; replace HB := aa.mk (au bl_ hb); (try clear hb); (try clear hb2); (try clear hk); (try clear hi); obtain ⟨Vy, Vz, hcz80_2, hcz80_3, hcz80_4, VA, VB, hfz80_2, hfz80_3, hfz80_4⟩ := bF dB.out; have F6 : 0 ≤ (0 : Int) := (by omega); have F7 : 0 < (af.length : Int) := dt_; obtain ⟨O3, A113_4, c113_4, e113, sP, sQ, sS, sU, sV, zV, zW⟩ := eX bV.out 0 F6 F7; obtain rfl : Mo = O3 := (by injection e113); have qi113 : (0 < af.length) = True := eq_true (by omega); (try simp only [z0_, Nat.zero_mul, Addr.add_zero'] at sP); (try simp only [z0_, Nat.zero_mul, Addr.add_zero'] at sQ); (try simp only [z0_, Nat.zero_mul, Addr.add_zero'] at sS); (try simp only [z0_, Nat.zero_mul, Addr.add_zero'] at sU); (try simp only [z0_, Nat.zero_mul, Addr.add_zero'] at sV); replace sP := hc_ HB sP; replace sQ := hc_ HB sQ; replace sS := hc_ HB sS; replace sU := hc_ HB sU; replace sV := hc_ HB sV; have VC := aa.mk zW; have VD := aa.mk zV; clear zW zV; replace F6 := eq_true F6; replace F7 := eq_true F7))
               go_ret; exact ⟨re_, bl_⟩
              ·rw [if_neg c77] at H; have c77b0 : (((ag af 0).f0) == 1) = false := beq_eq_false_iff_ne.mpr c77; have c77b1 : (((ag af 0).f0) != 1) = true := bne_iff_ne.mpr c77; by_cases c81 : ((ag af 0).f0) = 2
               ·rw [if_pos c81] at H; have c81b0 : (((ag af 0).f0) == 2) = true := beq_iff_eq.mpr c81; have c81b1 : (((ag af 0).f0) != 2) = false := bne_eq_false_iff_eq.mpr c81; clear c81; obtain rfl := Option.some.inj H; obtain ⟨hcz82_0, hcz82_1, hcz82_2, hcz82_3, hcz82_4, hfz82_0, hfz82_1, hfz82_2, hfz82_3, hfz82_4⟩ := bF dB.out; have zk : 0 ≤ (0 : Int) := (by omega); have zl : 0 < (af.length : Int) := dt_; obtain ⟨Mo, F4, F5, e111, nJ, nK, nL, nM, nN, sN, sO⟩ := eX bV.out 0 zk zl; cases e111; have qi111 : (0 < af.length) = True := eq_true (by omega); (try simp only [z0_, Nat.zero_mul, Addr.add_zero'] at nJ nK nL nM nN)
                replace nJ := hc_ HB nJ; replace nK := hc_ HB nK; replace nL := hc_ HB nL; replace nM := hc_ HB nM; replace nN := hc_ HB nN; have Cb := aa.mk sO; have Cc := aa.mk sN; clear sO sN; replace zk := eq_true zk; replace zl := eq_true zl; go_wp2_with (first | ((with_reducible refine aN (f := 39) rfl ?_); refine bJ (some 88) rfl rfl Tryd.func39 (by kernel_rfl) rfl #[.agg #[.int .i64 ((ag af 0).f0), .int .i64 ((ag af 0).f1), .int .i64 ((ag af 0).f2), .int .i64 ((ag af 0).f3), .slice F4 ((ag af 0).f4).length F5]] rfl mp_ ?_; (with_reducible refine (ih kj64 (by have := HJ1.out; have := HJ64.out; omega) ((ag af 0).f0) ((ag af 0).f1) ((ag af 0).f2) ((ag af 0).f3) _ _ ((ag af 0).f4) t112 _ ?aQ ?aT A75.out).mono ?_); (case aQ => exact cb_ (Kd.bA Cb.out HB.out)); (case aT => exact Cc.out); rintro e w83 ⟨rfl, hb⟩; refine ⟨_, rfl, ?_⟩; replace dB := kb_ dB hb; replace HB := aa.mk (au bl_ hb); (try clear hb); (try clear hb2); (try clear hk); (try clear hi); obtain ⟨hcz84_0, hcz84_1, hcz84_2, hcz84_3, hcz84_4, hfz84_0, hfz84_1, hfz84_2, hfz84_3, hfz84_4⟩ := bF dB.out; have F6 : 0 ≤ (0 : Int) := (by omega); have F7 : 0 < (af.length : Int) := dt_; obtain ⟨O3, A113_4, c113_4, e113, sP, sQ, sS, sU, sV, zV, zW⟩ := eX bV.out 0 F6 F7; obtain rfl : Mo = O3 := (by injection e113); have qi113 : (0 < af.length) = True := eq_true (by omega); (try simp only [z0_, Nat.zero_mul, Addr.add_zero'] at sP); (try simp only [z0_, Nat.zero_mul, Addr.add_zero'] at sQ); (try simp only [z0_, Nat.zero_mul, Addr.add_zero'] at sS); (try simp only [z0_, Nat.zero_mul, Addr.add_zero'] at sU); (try simp only [z0_, Nat.zero_mul, Addr.add_zero'] at sV); replace sP := hc_ HB sP; replace sQ := hc_ HB sQ; replace sS := hc_ HB sS; replace sU := hc_ HB sU; replace sV := hc_ HB sV; have VC := aa.mk zW; have VD := aa.mk zV; clear zW zV; replace F6 := eq_true F6; replace F7 := eq_true F7))
                go_ret; exact ⟨re_, bl_⟩
               ·rw [if_neg c81] at H; have c81b0 : (((ag af 0).f0) == 2) = false := beq_eq_false_iff_ne.mpr c81; have c81b1 : (((ag af 0).f0) != 2) = true := bne_iff_ne.mpr c81; obtain rfl := Option.some.inj H; obtain ⟨hcz85_0, hcz85_1, hcz85_2, hcz85_3, hcz85_4, hfz85_0, hfz85_1, hfz85_2, hfz85_3, hfz85_4⟩ := bF dB.out; have zk : 0 ≤ (0 : Int) := (by omega); have zl : 0 < (af.length : Int) := dt_; obtain ⟨Mo, F4, F5, e111, nJ, nK, nL, nM, nN, sN, sO⟩ := eX bV.out 0 zk zl; cases e111; have qi111 : (0 < af.length) = True := eq_true (by omega); (try simp only [z0_, Nat.zero_mul, Addr.add_zero'] at nJ nK nL nM nN)
                replace nJ := hc_ HB nJ; replace nK := hc_ HB nK; replace nL := hc_ HB nL; replace nM := hc_ HB nM; replace nN := hc_ HB nN; have Cb := aa.mk sO; have Cc := aa.mk sN; clear sO sN; replace zk := eq_true zk; replace zl := eq_true zl; go_wp2_with (first | ((with_reducible refine aN (f := 39) rfl ?_); refine bJ (some 88) rfl rfl Tryd.func39 (by kernel_rfl) rfl #[.agg #[.int .i64 ((ag af 0).f0), .int .i64 ((ag af 0).f1), .int .i64 ((ag af 0).f2), .int .i64 ((ag af 0).f3), .slice F4 ((ag af 0).f4).length F5]] rfl mp_ ?_; (with_reducible refine (ih kj64 (by have := HJ1.out; have := HJ64.out; omega) ((ag af 0).f0) ((ag af 0).f1) ((ag af 0).f2) ((ag af 0).f3) _ _ ((ag af 0).f4) t112 _ ?aQ ?aT A75.out).mono ?_); (case aQ => exact cb_ (Kd.bA Cb.out HB.out)); (case aT => exact Cc.out); rintro e w86 ⟨rfl, hb⟩; refine ⟨_, rfl, ?_⟩; replace dB := kb_ dB hb; replace HB := aa.mk (au bl_ hb); (try clear hb); (try clear hb2); (try clear hk); (try clear hi); obtain ⟨hcz87_0, hcz87_1, hcz87_2, hcz87_3, hcz87_4, hfz87_0, hfz87_1, hfz87_2, hfz87_3, hfz87_4⟩ := bF dB.out; have F6 : 0 ≤ (0 : Int) := (by omega); have F7 : 0 < (af.length : Int) := dt_; obtain ⟨O3, A113_4, c113_4, e113, sP, sQ, sS, sU, sV, zV, zW⟩ := eX bV.out 0 F6 F7; obtain rfl : Mo = O3 := (by injection e113); have qi113 : (0 < af.length) = True := eq_true (by omega); (try simp only [z0_, Nat.zero_mul, Addr.add_zero'] at sP); (try simp only [z0_, Nat.zero_mul, Addr.add_zero'] at sQ); (try simp only [z0_, Nat.zero_mul, Addr.add_zero'] at sS); (try simp only [z0_, Nat.zero_mul, Addr.add_zero'] at sU); (try simp only [z0_, Nat.zero_mul, Addr.add_zero'] at sV); replace sP := hc_ HB sP; replace sQ := hc_ HB sQ; replace sS := hc_ HB sS; replace sU := hc_ HB sU; replace sV := hc_ HB sV; have VC := aa.mk zW; have VD := aa.mk zV; clear zW zV; replace F6 := eq_true F6; replace F7 := eq_true F7))
                go_ret; exact ⟨re_, bl_⟩
             ·rw [if_neg c76] at H; have c76b0 : (t112 == 0) = false := beq_eq_false_iff_ne.mpr c76; have c76b1 : (t112 != 0) = true := bne_iff_ne.mpr c76; obtain rfl := Option.some.inj H; obtain ⟨hcz88_0, hcz88_1, hcz88_2, hcz88_3, hcz88_4, hfz88_0, hfz88_1, hfz88_2, hfz88_3, hfz88_4⟩ := bF dB.out; have zk : 0 ≤ (0 : Int) := (by omega); have zl : 0 < (af.length : Int) := dt_; obtain ⟨Mo, F4, F5, e111, nJ, nK, nL, nM, nN, sN, sO⟩ := eX bV.out 0 zk zl; cases e111; have qi111 : (0 < af.length) = True := eq_true (by omega); (try simp only [z0_, Nat.zero_mul, Addr.add_zero'] at nJ nK nL nM nN)
              replace nJ := hc_ HB nJ; replace nK := hc_ HB nK; replace nL := hc_ HB nL; replace nM := hc_ HB nM; replace nN := hc_ HB nN; have Cb := aa.mk sO; have Cc := aa.mk sN; clear sO sN; replace zk := eq_true zk; replace zl := eq_true zl; go_wp2_with (first | ((with_reducible refine aN (f := 39) rfl ?_); refine bJ (some 88) rfl rfl Tryd.func39 (by kernel_rfl) rfl #[.agg #[.int .i64 ((ag af 0).f0), .int .i64 ((ag af 0).f1), .int .i64 ((ag af 0).f2), .int .i64 ((ag af 0).f3), .slice F4 ((ag af 0).f4).length F5]] rfl mp_ ?_; (with_reducible refine (ih kj64 (by have := HJ1.out; have := HJ64.out; omega) ((ag af 0).f0) ((ag af 0).f1) ((ag af 0).f2) ((ag af 0).f3) _ _ ((ag af 0).f4) t112 _ ?aQ ?aT A75.out).mono ?_); (case aQ => exact cb_ (Kd.bA Cb.out HB.out)); (case aT => exact Cc.out); rintro e w89 ⟨rfl, hb⟩; refine ⟨_, rfl, ?_⟩; replace dB := kb_ dB hb; replace HB := aa.mk (au bl_ hb); (try clear hb); (try clear hb2); (try clear hk); (try clear hi)))
              go_ret; exact ⟨re_, bl_⟩
            ·rw [if_neg c74] at H; exact absurd H (by simp)
           ·rw [if_neg c73] at H; have c73b0 : ((af.length : Int) == 1) = false := beq_eq_false_iff_ne.mpr c73; have c73b1 : ((af.length : Int) != 1) = true := bne_iff_ne.mpr c73; obtain rfl := Option.some.inj H; obtain ⟨hcz90_0, hcz90_1, hcz90_2, hcz90_3, hcz90_4, hfz90_0, hfz90_1, hfz90_2, hfz90_3, hfz90_4⟩ := bF dB.out; go_wp2; go_ret; exact ⟨re_, bl_⟩
       ·rw [if_neg c64] at H; have c64b0 : (ai == 6) = false := beq_eq_false_iff_ne.mpr c64; have c64b1 : (ai != 6) = true := bne_iff_ne.mpr c64; obtain rfl := Option.some.inj H; obtain ⟨hcz91_0, hcz91_1, hcz91_2, hcz91_3, hcz91_4, hfz91_0, hfz91_1, hfz91_2, hfz91_3, hfz91_4⟩ := bF dB.out; go_wp2_with (first | ((with_reducible refine aN (f := 69) rfl ?_); refine bJ (some 17) rfl rfl Tryd.func69 (by kernel_rfl) rfl #[.agg #[.int .i64 ai, .int .i64 az, .int .i64 aA, .int .i64 ay, .slice bq af.length bf]] rfl mp_ ?_; (with_reducible refine (iJ.calls ai az aA ay _ _ af false _ ?aQ ?aT A8.out).mono ?_); (case aQ => exact cb_ (Kd.bA bV.out HB.out)); (case aT => exact dz.out); rintro e w92 ⟨rfl, hb⟩; refine ⟨_, rfl, ?_⟩; replace dB := kb_ dB hb; replace HB := aa.mk (au bl_ hb); (try clear hb); (try clear hb2); (try clear hk); (try clear hi); obtain ⟨hcz93_0, hcz93_1, hcz93_2, hcz93_3, hcz93_4, hfz93_0, hfz93_1, hfz93_2, hfz93_3, hfz93_4⟩ := bF dB.out))
        go_ret; exact ⟨re_, bl_⟩

end Go.Proofs.YtggelekooacmnaaDoor.Q
namespace Go.Proofs.YtggelekooacmnaaDoor.Q
open Go.RowKit Go.Proofs.YtggelekooacmnaaDoorW.bg Go.Proofs.YtggelekooacmnaaDoorW.bP Go.Proofs.YtggelekooacmnaaDoorW.bX
attribute [local go_sem] ek eu fw fA dH dI eB eD   -- for this text's walks alone
set_option linter.unusedVariables false
set_option linter.unusedSimpArgs false

/-! ### bW: function 40 -/
mutual
def bW.l0 : Nat → Int → List (S24) → Int → Int → Option (Int)
 | 0, _, _, _, _ => none
 | k + 1, x3, x11, x12, x13 => if x13 < x12 then (if 0 ≤ x13 then (if x13 < (x11.length : Int) then ((bW.f k ((ag x11 x13).f0) ((ag x11 x13).f1) ((ag x11 x13).f2) ((ag x11 x13).f3) ((ag x11 x13).f4)).bind fun t117 => (bW.l0 k (wrap64 (x3 + t117)) x11 x12 (wrap64 (x13 + 1)))) else (none)) else (none)) else (some x3)
def bW.f : Nat → Int → Int → Int → Int → List (S24) → Option (Int)
 | 0, _, _, _, _, _ => none
 | k + 1, ai, az, aA, ay, af => if ai = 5 then (bW.l0 k 0 af (af.length : Int) 0) else (if ai = 6 then (if 0 < (af.length : Int) then ((bW.f k ((ag af 0).f0) ((ag af 0).f1) ((ag af 0).f2) ((ag af 0).f3) ((ag af 0).f4)).bind fun t119 => (some (wrap64 (1 + (wrap64 (ay * t119)))))) else (none)) else (some 1))
end
theorem bW.fH : ∀ k, (∀ y0 y1 y2 y3 y4, LeO (bW.f k y0 y1 y2 y3 y4) (bW.f (k + 1) y0 y1 y2 y3 y4)) ∧ (∀ y0 y1 y2 y3, LeO (bW.l0 k y0 y1 y2 y3) (bW.l0 (k + 1) y0 y1 y2 y3))
 | 0 => ⟨fun _ _ _ _ _ r h => by simp [bW.f] at h, fun _ _ _ _ r h => by simp [bW.l0] at h⟩
 | k + 1 => by
  obtain ⟨ih0, ih1⟩ := bW.fH k; refine ⟨?_, ?_⟩
  ·intro y0 y1 y2 y3 y4; unfold bW.f; repeat' first
   | (with_reducible exact ih0 _ _ _ _ _)
   | (with_reducible exact ih1 _ _ _ _)
   | (with_reducible exact LeO.refl _)
   | (with_reducible exact LeO.none _)
   | (with_reducible refine LeO.ite ?_ ?_)
   | (with_reducible refine LeO.bind ?_ (fun _ => ?_))
   | exact ih0 _ _ _ _ _
   | exact ih1 _ _ _ _
   | exact LeO.none _
   | refine LeO.ite ?_ ?_
   | refine LeO.bind ?_ (fun _ => ?_)
  ·intro y0 y1 y2 y3; unfold bW.l0; repeat' first
   | (with_reducible exact ih0 _ _ _ _ _)
   | (with_reducible exact ih1 _ _ _ _)
   | (with_reducible exact LeO.refl _)
   | (with_reducible exact LeO.none _)
   | (with_reducible refine LeO.ite ?_ ?_)
   | (with_reducible refine LeO.bind ?_ (fun _ => ?_))
   | exact ih0 _ _ _ _ _
   | exact ih1 _ _ _ _
   | exact LeO.none _
   | refine LeO.ite ?_ ?_
   | refine LeO.bind ?_ (fun _ => ?_)
theorem bW.mono : ∀ a0 a1 a2 a3 a4 k, LeO (bW.f k a0 a1 a2 a3 a4) (bW.f (k + 1) a0 a1 a2 a3 a4) := by
 intro a0 a1 a2 a3 a4 k; obtain ⟨ih0, ih1⟩ := bW.fH k; exact ih0 a0 a1 a2 a3 a4
def bW.T11 : Bool × List (List Nat × List Nat) := (true, [([], []), ([0], [0]), ([], []), ([2], [2]), ([3], [3]), ([4], [4]), ([5], [5]), ([1, 6], [1, 6]), ([7], [7]), ([8, 6, 0, 1, 2, 3, 4, 5, 6, 7, 8], [8])])
def bW.B11 : List Nat := [0, 1, 0, 4, 12, 28, 60, 127, 255, 511]
theorem bW.tab11 : kJ .any (opsOf Tryd.f40 11) = bW.T11 := by kernel_rfl
theorem bW.bits11 : lJ bW.T11.2 bW.B11 = true := by kernel_rfl
set_option maxHeartbeats 8000000 in
set_option maxRecDepth 100000 in
theorem bW.calls (k : Nat) : ∀ (ai : Int) (az : Int) (aA : Int) (ay : Int) (bq : Option Addr) (bf : Nat) (af : List (S24)) (r : Int) (w : World) (dX : Kd.C k24 w bq af.length af) (dY : af.length ≤ bf) (h : bW.f k ai az aA ay af = some r),
  Calls Tryd.prog 40 #[.agg #[.int .i64 ai, .int .i64 az, .int .i64 aA, .int .i64 ay, .slice bq af.length bf]] w fun e w' => e = .returned (.int .i64 r) ∧ Below w.heap.size w w' := by
 induction k using Nat.strongRecOn with
 | _ k ih =>
 intro ai az aA ay bq bf af r w dX dY h; cases k with
 | zero => exact absurd h (by simp [bW.f])
 | succ k =>
 simp only [bW.f] at h; have ou := Tryd.underlying24; have bV := aa.mk dX; have dz := aa.mk dY; clear dX dY; have HB := aa.mk (Below.refl w.heap.size w); have H : (if ai = 5 then (bW.l0 k 0 af (af.length : Int) 0) else (if ai = 6 then (if 0 < (af.length : Int) then ((bW.f k ((ag af 0).f0) ((ag af 0).f1) ((ag af 0).f2) ((ag af 0).f3) ((ag af 0).f4)).bind fun t119 => (some (wrap64 (1 + (wrap64 (ay * t119)))))) else (none)) else (some 1))) = some r := h; clear h; by_cases c2 : ai = 5
 ·rw [if_pos c2] at H; have yL : (ai == 5) = true := beq_iff_eq.mpr c2; have Ay : (ai != 5) = false := bne_eq_false_iff_eq.mpr c2; clear c2; have H' := aa.mk H; clear H; go_enter Tryd.func40, Tryd.ntmps40; go_wp2_with (first | ((with_reducible refine aY (N := 1) rfl ?_); refine aZ ?hg (N := 1) ?hd (cs := #[.int .i64 ai, .int .i64 az, .int .i64 aA, .int .i64 ay, .slice bq af.length bf]) (t := 24) ?hr ?_; (case hd => rfl); (case hg => rfl); (case hr => first | (go_simp; done) | (go_simp; rfl)); intro zb hg w3 aK hb; have kN := aa.mk (aK); have O4 : aa (w.heap.size ≤ zb) := gw_ hg (aG bl_); have GE114 := O4; replace HB := aa.mk (au bl_ hb); clear hb aK hg; obtain ⟨vU, vV, vW, vX, vY, vZ, wh, wm, wo, wu⟩ := bF kN.out))
  go_loopg [3, 13] k (fun kq v3 v13 w' => ∃ (BI : Int) (dE : Int), v3 = .int .i64 BI ∧ v13 = .int .i64 dE ∧ aa (bW.l0 kq BI af (af.length : Int) dE = some r) ∧ aa (kq ≤ k) ∧ aa (w'.heap[zb]? = some (.cells #[.int .i64 ai, .int .i64 az, .int .i64 aA, .int .i64 ay, (.slice bq af.length bf)] 24 (0, 0))) ∧ aa (Below w.heap.size w w'))
  case atStart => exact ⟨(0), (0), rs_, rs_, H', ⟨Nat.le_refl _⟩, ⟨bk_⟩, ⟨bl_⟩⟩
  case round =>
   clear H'; (try clear c2); (try clear yL); (try clear Ay); (try clear p2); (try clear c4); (try clear vU vV vW vX vY vZ wh wm wo wu); obtain ⟨BI, dE, rfl, rfl, HA, HK1, kN, HB⟩ := hrel; cases gk with
   | zero => exact absurd HA.out (by simp [bW.l0])
   | succ k1 =>
    have H := HA.out; clear HA; simp only [bW.l0] at H; by_cases c5 : dE < (af.length : Int)
    ·rw [if_pos c5] at H; have p8 : decide (dE < (af.length : Int)) = true := decide_eq_true c5; clear c5; by_cases c6 : 0 ≤ dE
     ·rw [if_pos c6] at H; have oN : decide (0 ≤ dE) = true := decide_eq_true c6; clear c6; by_cases c7 : dE < (af.length : Int)
      ·rw [if_pos c7] at H; have p9 : decide (dE < (af.length : Int)) = true := decide_eq_true c7; clear c7; replace H := Option.bind_eq_some_iff.mp H; obtain ⟨t117, A80, H⟩ := H; replace H : (bW.l0 k1 (wrap64 (BI + t117)) af (af.length : Int) (wrap64 (dE + 1))) = some r := H; have A8 := aa.mk A80; clear A80; have H' := aa.mk H; clear H; have p115 : 0 ≤ (dE : Int) := dt_; have q115 : dE < (af.length : Int) := dt_; obtain ⟨ad115, A115_4, c115_4, e115, VE, VF, VG, VH, VI, VJ, VK⟩ := eX bV.out dE p115 q115; cases e115; replace VE := hc_ HB VE; replace VF := hc_ HB VF; replace VG := hc_ HB VG; replace VH := hc_ HB VH; replace VI := hc_ HB VI; have HR115_4 := aa.mk VK; have HC115_4 := aa.mk VJ; clear VK VJ; replace p115 := eq_true p115; replace q115 := eq_true q115; go_wp2_with (first | ((with_reducible refine aY (N := 5) rfl ?_); refine aZ ?hg (N := 5) ?hd (cs := #[.int .i64 0, .int .i64 0, .int .i64 0, .int .i64 0, .slice none 0 0]) (t := 24) ?hr ?_; (case hd => rfl); (case hg => rfl); (case hr => first | (go_simp; done) | (go_simp; rfl)); intro gb116 hg w9 aK hb; have BK116 := aa.mk (aK); have GW116 : aa (w.heap.size ≤ gb116) := gw_ hg (aG bl_); have GE116 := GW116; have zX := nl_ kN hg; have X3 := ng_ kN hg; replace kN := kb_ kN hb; replace HB := aa.mk (au bl_ hb); clear hb aK hg; have hnb10 := X3.out; have hnc10 := zX.out; obtain ⟨qp, qw, wT, wU, wV, qx, qy, wW, wX, wY⟩ := bF BK116.out) | ((with_reducible refine aN (f := 40) rfl ?_); refine bJ (some 19) rfl rfl Tryd.func40 (by kernel_rfl) rfl #[.agg #[.int .i64 ((ag af dE).f0), .int .i64 ((ag af dE).f1), .int .i64 ((ag af dE).f2), .int .i64 ((ag af dE).f3), .slice A115_4 ((ag af dE).f4).length c115_4]] rfl mp_ ?_; (with_reducible refine (ih k1 (by have := HK1.out; omega) ((ag af dE).f0) ((ag af dE).f1) ((ag af dE).f2) ((ag af dE).f3) _ _ ((ag af dE).f4) t117 _ ?aQ ?aT A8.out).mono ?_); (case aQ => exact Kd.bA HR115_4.out bl_); (case aT => exact HC115_4.out); rintro e w12 ⟨rfl, hb⟩; refine ⟨_, rfl, ?_⟩; replace kN := aa.mk (gy (g := zb) (o := .cells #[.int .i64 ai, .int .i64 az, .int .i64 aA, .int .i64 ay, .slice (some ad115) af.length bf] 24 (0, 0)) (by (with_reducible repeat (first | refine aj ?_ _ | refine ak ?_ | refine ah ?_ _)); refine bM ?_ zX.out _; (with_reducible repeat (first | refine aj ?_ _ | refine ak ?_ | refine ah ?_ _)); refine bM ?_ zX.out _; (with_reducible repeat (first | refine aj ?_ _ | refine ak ?_ | refine ah ?_ _)); refine bM ?_ zX.out _; (with_reducible repeat (first | refine aj ?_ _ | refine ak ?_ | refine ah ?_ _)); refine bM ?_ zX.out _; (with_reducible repeat (first | refine aj ?_ _ | refine ak ?_ | refine ah ?_ _)); refine bM ?_ zX.out _; (with_reducible repeat (first | refine aj ?_ _ | refine ak ?_ | refine ah ?_ _)); exact kN.out) hb); replace BK116 := aa.mk (gy (g := gb116) (o := .cells #[.int .i64 ((ag af dE).f0), .int .i64 ((ag af dE).f1), .int .i64 ((ag af dE).f2), .int .i64 ((ag af dE).f3), .slice A115_4 ((ag af dE).f4).length c115_4] 24 (0, 0)) (by (with_reducible repeat (first | refine aj ?_ _ | refine ak ?_ | refine ah ?_ _)); refine bn (cs := #[.int .i64 ((ag af dE).f0), .int .i64 ((ag af dE).f1), .int .i64 ((ag af dE).f2), .int .i64 ((ag af dE).f3), .slice none 0 0]) ?_ 4 _ rfl; (with_reducible repeat (first | refine aj ?_ _ | refine ak ?_ | refine ah ?_ _)); refine bn (cs := #[.int .i64 ((ag af dE).f0), .int .i64 ((ag af dE).f1), .int .i64 ((ag af dE).f2), .int .i64 0, .slice none 0 0]) ?_ 3 _ rfl; (with_reducible repeat (first | refine aj ?_ _ | refine ak ?_ | refine ah ?_ _)); refine bn (cs := #[.int .i64 ((ag af dE).f0), .int .i64 ((ag af dE).f1), .int .i64 0, .int .i64 0, .slice none 0 0]) ?_ 2 _ rfl; (with_reducible repeat (first | refine aj ?_ _ | refine ak ?_ | refine ah ?_ _)); refine bn (cs := #[.int .i64 ((ag af dE).f0), .int .i64 0, .int .i64 0, .int .i64 0, .slice none 0 0]) ?_ 1 _ rfl; (with_reducible repeat (first | refine aj ?_ _ | refine ak ?_ | refine ah ?_ _)); refine bn (cs := #[.int .i64 0, .int .i64 0, .int .i64 0, .int .i64 0, .slice none 0 0]) ?_ 0 _ rfl; (with_reducible repeat (first | refine aj ?_ _ | refine ak ?_ | refine ah ?_ _)); exact BK116.out) hb); replace HB := aa.mk (au bl_ hb); (try clear hb); (try clear hb2); (try clear hk); (try clear hi)))
       go_roundg k1
       case measure => have := HK1.out; omega
       case rel => exact ⟨(wrap64 (BI + t117)), (wrap64 (dE + 1)), rs_, rs_, H', ⟨by have := HK1.out; omega⟩, ⟨bk_⟩, ⟨bl_⟩⟩
      ·rw [if_neg c7] at H; exact absurd H (by simp)
     ·rw [if_neg c6] at H; exact absurd H (by simp)
    ·rw [if_neg c5] at H; have p8 : decide (dE < (af.length : Int)) = false := decide_eq_false c5; clear c5; obtain rfl := Option.some.inj H; go_wp2; go_ret; exact ⟨re_, bl_⟩
 ·rw [if_neg c2] at H; have yL : (ai == 5) = false := beq_eq_false_iff_ne.mpr c2; have Ay : (ai != 5) = true := bne_iff_ne.mpr c2; by_cases c13 : ai = 6
  ·rw [if_pos c13] at H; have oW : (ai == 6) = true := beq_iff_eq.mpr c13; have O5 : (ai != 6) = false := bne_eq_false_iff_eq.mpr c13; clear c13; by_cases c14 : 0 < (af.length : Int)
   ·rw [if_pos c14] at H; have rW : decide (0 < (af.length : Int)) = true := decide_eq_true c14; have CW : decide (0 < af.length) = true := decide_eq_true (by omega); clear c14; replace H := Option.bind_eq_some_iff.mp H; obtain ⟨t119, A150, H⟩ := H; replace H : (some (wrap64 (1 + (wrap64 (ay * t119))))) = some r := H; have A15 := aa.mk A150; clear A150; obtain rfl := Option.some.inj H; go_enter Tryd.func40, Tryd.ntmps40; try go_wp2_with (first | ((with_reducible refine aY (N := 1) rfl ?_); refine aZ ?hg (N := 1) ?hd (cs := #[.int .i64 ai, .int .i64 az, .int .i64 aA, .int .i64 ay, .slice bq af.length bf]) (t := 24) ?hr ?_; (case hd => rfl); (case hg => rfl); (case hr => first | (go_simp; done) | (go_simp; rfl)); intro zb hg w16 aK hb; have kN := aa.mk (aK); have O4 : aa (w.heap.size ≤ zb) := gw_ hg (aG bl_); have GE114 := O4; replace HB := aa.mk (au bl_ hb); clear hb aK hg; obtain ⟨Ik, Il, Im, Io, Ip, Iq, Ir, Iu, Iw, Iy⟩ := bF kN.out))
    replace kN := aa.mk (ak kN.out); replace HB := aa.mk (bU HB.out); have p118 : 0 ≤ (0 : Int) := (by omega); have q118 : 0 < (af.length : Int) := dt_; obtain ⟨CZ, A118_4, c118_4, e118, Iz, IA, IB, IC, IE, VL, VM⟩ := eX bV.out 0 p118 q118; have IG := IE; (try simp only [z0_, Nat.zero_mul, Addr.add_zero'] at IG)
    have II := IC; (try simp only [z0_, Nat.zero_mul, Addr.add_zero'] at II)
    have IJ := IB; (try simp only [z0_, Nat.zero_mul, Addr.add_zero'] at IJ)
    have IK := IA; (try simp only [z0_, Nat.zero_mul, Addr.add_zero'] at IK)
    have IL := Iz; (try simp only [z0_, Nat.zero_mul, Addr.add_zero'] at IL)
    cases e118; have qi118 : (0 < af.length) = True := eq_true (by omega); (try simp only [z0_, Nat.zero_mul, Addr.add_zero'] at Iz IA IB IC IE)
    replace Iz := hc_ HB Iz; replace IA := hc_ HB IA; replace IB := hc_ HB IB; replace IC := hc_ HB IC; replace IE := hc_ HB IE; have VN := aa.mk VM; have HC118_4 := aa.mk VL; clear VM VL; replace p118 := eq_true p118; replace q118 := eq_true q118; refine r9 (n := 10) (S := fun w' => w'.cell? ⟨zb, 0, none⟩ = some (.int .i64 ai) ∧ w'.cell? ⟨zb, 1, none⟩ = some (.int .i64 az) ∧ w'.cell? ⟨zb, 2, none⟩ = some (.int .i64 aA) ∧ w'.cell? ⟨zb, 3, none⟩ = some (.int .i64 ay) ∧ w'.cell? ⟨zb, 4, none⟩ = some (.slice (some CZ) af.length bf) ∧ w'.cell? CZ = some (.int .i64 ((ag af 0).f0)) ∧ w'.cell? ⟨CZ.block, CZ.off + 1, none⟩ = some (.int .i64 ((ag af 0).f1)) ∧ w'.cell? ⟨CZ.block, CZ.off + 2, none⟩ = some (.int .i64 ((ag af 0).f2)) ∧ w'.cell? ⟨CZ.block, CZ.off + 3, none⟩ = some (.int .i64 ((ag af 0).f3)) ∧ w'.cell? ⟨CZ.block, CZ.off + 4, none⟩ = some (.slice A118_4 ((ag af 0).f4).length c118_4)) (ds := []) #[false, false, false, false, false, false, false, false, false, false] (by kernel_rfl) rfl rfl ⟨(aC kN.out 0).trans rfl, (aC kN.out 1).trans rfl, (aC kN.out 2).trans rfl, (aC kN.out 3).trans rfl, (aC kN.out 4).trans rfl, ((HB.out.cell (World.block_lt_of_cell? w _ IL)).trans IL), ((HB.out.cell (World.block_lt_of_cell? w _ IK)).trans IK), ((HB.out.cell (World.block_lt_of_cell? w _ IJ)).trans IJ), ((HB.out.cell (World.block_lt_of_cell? w _ II)).trans II), ((HB.out.cell (World.block_lt_of_cell? w _ IG)).trans IG)⟩ (fun hHeld => ?_); refine lK bW.tab11 bW.bits11 (fun HT_ HW_ => ?_)
    generalize w16.drew = w18 at kN HB VN Iz IA IB IC IE hHeld ⊢
    refine pu_ HT_ 0 25 (bm 10 1) ?_
    refine pu_ HT_ 2 27 (bm 10 5) ?_
    refine ta_ HT_ HW_ 1 26 (bm 10 7) hHeld ?_
    refine ta_ HT_ HW_ 3 28 (bm 10 15) hHeld ?_
    refine pu_ HT_ 4 29 (bm 10 31) ?_
    refine ta_ HT_ HW_ 5 30 (bm 10 63) hHeld ?_
    refine oL (i := 6) (N := some 31) #[true, true, true, true, true, true, true, false, false, false] rfl rfl (iy HT_.out (by kernel_rfl)) (by decide) (fun K hK => ?_)
    refine tQ Tryd.func40 (by kernel_rfl) rfl #[.agg #[.int .i64 ((ag af 0).f0), .int .i64 ((ag af 0).f1), .int .i64 ((ag af 0).f2), .int .i64 ((ag af 0).f3), .slice A118_4 ((ag af 0).f4).length c118_4]] (by rfl) rfl rfl mp_ ?_
    with_reducible refine (ih k (by omega) ((ag af 0).f0) ((ag af 0).f1) ((ag af 0).f2) ((ag af 0).f3) _ _ ((ag af 0).f4) t119 _ ?aQ ?aT A15.out).mono ?_
    (case aQ => exact cb_ (Kd.bA VN.out HB.out))
    (case aT => exact HC118_4.out)
    rintro e w19 ⟨rfl, hb⟩
    refine ⟨_, rfl, ?_⟩
    replace kN := kb_ kN hb; replace HB := aa.mk (au bl_ hb); (try clear hb)
    (try clear hb2)
    (try clear hk)
    (try clear hi)
    refine hK.out _ _ ⟨(aC kN.out 0).trans rfl, (aC kN.out 1).trans rfl, (aC kN.out 2).trans rfl, (aC kN.out 3).trans rfl, (aC kN.out 4).trans rfl, ((HB.out.cell (World.block_lt_of_cell? w _ IL)).trans IL), ((HB.out.cell (World.block_lt_of_cell? w _ IK)).trans IK), ((HB.out.cell (World.block_lt_of_cell? w _ IJ)).trans IJ), ((HB.out.cell (World.block_lt_of_cell? w _ II)).trans II), ((HB.out.cell (World.block_lt_of_cell? w _ IG)).trans IG)⟩ (fun hHeld => ?_)
    clear hK K; refine kS (a' := ?_) ?_ ?_
    rotate_left
    ·show Act.put _ (some 31) _ = _
     simp only [Act.put, List.setIfInBounds_toArray, List.set_cons_zero, List.set_cons_succ, eT, eY]; rfl
    refine pu_ HT_ 7 32 (bm 10 255) ?_
    refine pu_ HT_ 8 33 (bm 10 511) ?_
    refine pu_ HT_ 9 2 #[true, true, true, true, true, true, true, true, true, true] ?_
    refine wP (pF HT_.out (by kernel_rfl)) ?_
    try go_wp2
    go_ret; exact ⟨re_, bl_⟩
   ·rw [if_neg c14] at H; exact absurd H (by simp)
  ·rw [if_neg c13] at H; have oW : (ai == 6) = false := beq_eq_false_iff_ne.mpr c13; have O5 : (ai != 6) = true := bne_iff_ne.mpr c13; obtain rfl := Option.some.inj H; go_enter Tryd.func40, Tryd.ntmps40; go_wp2_with (first | ((with_reducible refine aY (N := 1) rfl ?_); refine aZ ?hg (N := 1) ?hd (cs := #[.int .i64 ai, .int .i64 az, .int .i64 aA, .int .i64 ay, .slice bq af.length bf]) (t := 24) ?hr ?_; (case hd => rfl); (case hg => rfl); (case hr => first | (go_simp; done) | (go_simp; rfl)); intro zb hg w20 aK hb; have kN := aa.mk (aK); have O4 : aa (w.heap.size ≤ zb) := gw_ hg (aG bl_); have GE114 := O4; replace HB := aa.mk (au bl_ hb); clear hb aK hg; obtain ⟨qQ, qR, qU, qV, qW, qX, qY, qZ, q9, rf⟩ := bF kN.out))
   go_ret; exact ⟨re_, bl_⟩

end Go.Proofs.YtggelekooacmnaaDoor.Q
namespace Go.Proofs.YtggelekooacmnaaDoor.Q
open Go.RowKit Go.Proofs.YtggelekooacmnaaDoorW.bg Go.Proofs.YtggelekooacmnaaDoorW.bP Go.Proofs.YtggelekooacmnaaDoorW.bX
attribute [local go_sem] ek eu fw fA dH dI eB eD   -- for this text's walks alone
set_option linter.unusedVariables false
set_option linter.unusedSimpArgs false

/-! ### fB: function 12 -/
def fB.f (k : Nat) (ai : Int) (az : Int) (aA : Int) (ay : Int) (af : List (S24)) : Option (Int) := (cZ.f k ai az aA ay af).bind fun t121 => (if t121 > 10 then (some 9) else ((aW.f k ai az aA ay af).bind fun t122 => (if t122 = 0 then ((bW.f k ai az aA ay af).bind fun t123 => (if t123 > 24 then (some 9) else (some 0))) else (some t122))))
theorem fB.mono : ∀ a0 a1 a2 a3 a4 k, LeO (fB.f k a0 a1 a2 a3 a4) (fB.f (k + 1) a0 a1 a2 a3 a4) := by
 intro a0 a1 a2 a3 a4 k; unfold fB.f
 repeat' first
   | (with_reducible exact cZ.mono _ _ _ _ _ _)
   | (with_reducible exact aW.mono _ _ _ _ _ _)
   | (with_reducible exact bW.mono _ _ _ _ _ _)
   | (with_reducible exact LeO.refl _)
   | (with_reducible exact LeO.none _)
   | (with_reducible refine LeO.ite ?_ ?_)
   | (with_reducible refine LeO.bind ?_ (fun _ => ?_))
   | exact cZ.mono _ _ _ _ _ _
   | exact aW.mono _ _ _ _ _ _
   | exact bW.mono _ _ _ _ _ _
   | exact LeO.none _
   | refine LeO.ite ?_ ?_
   | refine LeO.bind ?_ (fun _ => ?_)
set_option maxHeartbeats 8000000 in
set_option maxRecDepth 100000 in
theorem fB.calls (k : Nat) (ai : Int) (az : Int) (aA : Int) (ay : Int) (bq : Option Addr) (bf : Nat) (af : List (S24)) (r : Int) (w : World) (dX : Kd.C k24 w bq af.length af) (dY : af.length ≤ bf) (h : fB.f k ai az aA ay af = some r) :
  Calls Tryd.prog 12 #[.agg #[.int .i64 ai, .int .i64 az, .int .i64 aA, .int .i64 ay, .slice bq af.length bf]] w fun e w' => e = .returned (.int .i64 r) ∧ Below w.heap.size w w' := by
 have ou := Tryd.underlying24; have bV := aa.mk dX; have dz := aa.mk dY; clear dX dY; have HB := aa.mk (Below.refl w.heap.size w); have H : ((cZ.f k ai az aA ay af).bind fun t121 => (if t121 > 10 then (some 9) else ((aW.f k ai az aA ay af).bind fun t122 => (if t122 = 0 then ((bW.f k ai az aA ay af).bind fun t123 => (if t123 > 24 then (some 9) else (some 0))) else (some t122))))) = some r := h; clear h; replace H := Option.bind_eq_some_iff.mp H; obtain ⟨t121, A20, H⟩ := H; replace H : (if t121 > 10 then (some 9) else ((aW.f k ai az aA ay af).bind fun t122 => (if t122 = 0 then ((bW.f k ai az aA ay af).bind fun t123 => (if t123 > 24 then (some 9) else (some 0))) else (some t122)))) = some r := H; have A2 := aa.mk A20; clear A20; by_cases c3 : t121 > 10
 ·rw [if_pos c3] at H; have j5 : decide (10 < t121) = true := decide_eq_true c3; clear c3; obtain rfl := Option.some.inj H; go_enter Tryd.func12, Tryd.ntmps12; go_wp2_with (first | ((with_reducible refine aY (N := 1) rfl ?_); refine aZ ?hg (N := 1) ?hd (cs := #[.int .i64 ai, .int .i64 az, .int .i64 aA, .int .i64 ay, .slice bq af.length bf]) (t := 24) ?hr ?_; (case hd => rfl); (case hg => rfl); (case hr => first | (go_simp; done) | (go_simp; rfl)); intro JA hg w4 aK hb; have jL := aa.mk (aK); have JB : aa (w.heap.size ≤ JA) := gw_ hg (aG bl_); have GE120 := JB; replace HB := aa.mk (au bl_ hb); clear hb aK hg; obtain ⟨FO, FP, FQ, FR, FT, FU, FV, FW, FX, FY⟩ := bF jL.out) | ((with_reducible refine aN (f := 38) rfl ?_); refine bJ (some 5) rfl rfl Tryd.func38 (by kernel_rfl) rfl #[.agg #[.int .i64 ai, .int .i64 az, .int .i64 aA, .int .i64 ay, .slice bq af.length bf]] rfl mp_ ?_; (with_reducible refine (cZ.calls k ai az aA ay _ _ af t121 _ ?aQ ?aT A2.out).mono ?_); (case aQ => exact cb_ (Kd.bA bV.out HB.out)); (case aT => exact dz.out); rintro e w6 ⟨rfl, hb⟩; refine ⟨_, rfl, ?_⟩; replace jL := kb_ jL hb; replace HB := aa.mk (au bl_ hb); (try clear hb); (try clear hb2); (try clear hk); (try clear hi)))
  go_ret; exact ⟨re_, bl_⟩
 ·rw [if_neg c3] at H; have j5 : decide (10 < t121) = false := decide_eq_false c3; clear c3; replace H := Option.bind_eq_some_iff.mp H; obtain ⟨t122, A70, H⟩ := H; replace H : (if t122 = 0 then ((bW.f k ai az aA ay af).bind fun t123 => (if t123 > 24 then (some 9) else (some 0))) else (some t122)) = some r := H; have A7 := aa.mk A70; clear A70; by_cases c8 : t122 = 0
  ·rw [if_pos c8] at H; have tV : (t122 == 0) = true := beq_iff_eq.mpr c8; have BJ : (t122 != 0) = false := bne_eq_false_iff_eq.mpr c8; clear c8; replace H := Option.bind_eq_some_iff.mp H; obtain ⟨t123, A90, H⟩ := H; replace H : (if t123 > 24 then (some 9) else (some 0)) = some r := H; have A9 := aa.mk A90; clear A90; by_cases c10 : t123 > 24
   ·rw [if_pos c10] at H; have oI : decide (24 < t123) = true := decide_eq_true c10; clear c10; obtain rfl := Option.some.inj H; go_enter Tryd.func12, Tryd.ntmps12; go_wp2_with (first | ((with_reducible refine aY (N := 1) rfl ?_); refine aZ ?hg (N := 1) ?hd (cs := #[.int .i64 ai, .int .i64 az, .int .i64 aA, .int .i64 ay, .slice bq af.length bf]) (t := 24) ?hr ?_; (case hd => rfl); (case hg => rfl); (case hr => first | (go_simp; done) | (go_simp; rfl)); intro JA hg w11 aK hb; have jL := aa.mk (aK); have JB : aa (w.heap.size ≤ JA) := gw_ hg (aG bl_); have GE120 := JB; replace HB := aa.mk (au bl_ hb); clear hb aK hg; obtain ⟨lX, lY, u7, vk, vo, lZ, l5, vv, vw, vz⟩ := bF jL.out) | ((with_reducible refine aN (f := 38) rfl ?_); refine bJ (some 5) rfl rfl Tryd.func38 (by kernel_rfl) rfl #[.agg #[.int .i64 ai, .int .i64 az, .int .i64 aA, .int .i64 ay, .slice bq af.length bf]] rfl mp_ ?_; (with_reducible refine (cZ.calls k ai az aA ay _ _ af t121 _ ?aQ ?aT A2.out).mono ?_); (case aQ => exact cb_ (Kd.bA bV.out HB.out)); (case aT => exact dz.out); rintro e w13 ⟨rfl, hb⟩; refine ⟨_, rfl, ?_⟩; replace jL := kb_ jL hb; replace HB := aa.mk (au bl_ hb); (try clear hb); (try clear hb2); (try clear hk); (try clear hi); obtain ⟨kg, ko, kr, ku, kv, ky, kz, kC, kD, kE⟩ := bF jL.out) | ((with_reducible refine aN (f := 39) rfl ?_); refine bJ (some 8) rfl rfl Tryd.func39 (by kernel_rfl) rfl #[.agg #[.int .i64 ai, .int .i64 az, .int .i64 aA, .int .i64 ay, .slice bq af.length bf]] rfl mp_ ?_; (with_reducible refine (aW.calls k ai az aA ay _ _ af t122 _ ?aQ ?aT A7.out).mono ?_); (case aQ => exact cb_ (Kd.bA bV.out HB.out)); (case aT => exact dz.out); rintro e w15 ⟨rfl, hb⟩; refine ⟨_, rfl, ?_⟩; replace jL := kb_ jL hb; replace HB := aa.mk (au bl_ hb); (try clear hb); (try clear hb2); (try clear hk); (try clear hi); obtain ⟨pO, pQ, qF, qG, qH, pR, pU, qI, qJ, qK⟩ := bF jL.out) | ((with_reducible refine aN (f := 40) rfl ?_); refine bJ (some 13) rfl rfl Tryd.func40 (by kernel_rfl) rfl #[.agg #[.int .i64 ai, .int .i64 az, .int .i64 aA, .int .i64 ay, .slice bq af.length bf]] rfl mp_ ?_; (with_reducible refine (bW.calls k ai az aA ay _ _ af t123 _ ?aQ ?aT A9.out).mono ?_); (case aQ => exact cb_ (Kd.bA bV.out HB.out)); (case aT => exact dz.out); rintro e w17 ⟨rfl, hb⟩; refine ⟨_, rfl, ?_⟩; replace jL := kb_ jL hb; replace HB := aa.mk (au bl_ hb); (try clear hb); (try clear hb2); (try clear hk); (try clear hi)))
    go_ret; exact ⟨re_, bl_⟩
   ·rw [if_neg c10] at H; have oI : decide (24 < t123) = false := decide_eq_false c10; clear c10; obtain rfl := Option.some.inj H; go_enter Tryd.func12, Tryd.ntmps12; go_wp2_with (first | ((with_reducible refine aY (N := 1) rfl ?_); refine aZ ?hg (N := 1) ?hd (cs := #[.int .i64 ai, .int .i64 az, .int .i64 aA, .int .i64 ay, .slice bq af.length bf]) (t := 24) ?hr ?_; (case hd => rfl); (case hg => rfl); (case hr => first | (go_simp; done) | (go_simp; rfl)); intro JA hg w18 aK hb; have jL := aa.mk (aK); have JB : aa (w.heap.size ≤ JA) := gw_ hg (aG bl_); have GE120 := JB; replace HB := aa.mk (au bl_ hb); clear hb aK hg; obtain ⟨Ef, Eg, QQ, QR, QS, Eh, Ei, QT, QU, QV⟩ := bF jL.out) | ((with_reducible refine aN (f := 38) rfl ?_); refine bJ (some 5) rfl rfl Tryd.func38 (by kernel_rfl) rfl #[.agg #[.int .i64 ai, .int .i64 az, .int .i64 aA, .int .i64 ay, .slice bq af.length bf]] rfl mp_ ?_; (with_reducible refine (cZ.calls k ai az aA ay _ _ af t121 _ ?aQ ?aT A2.out).mono ?_); (case aQ => exact cb_ (Kd.bA bV.out HB.out)); (case aT => exact dz.out); rintro e w20 ⟨rfl, hb⟩; refine ⟨_, rfl, ?_⟩; replace jL := kb_ jL hb; replace HB := aa.mk (au bl_ hb); (try clear hb); (try clear hb2); (try clear hk); (try clear hi); obtain ⟨qQ, qR, qU, qV, qW, qX, qY, qZ, q9, rf⟩ := bF jL.out) | ((with_reducible refine aN (f := 39) rfl ?_); refine bJ (some 8) rfl rfl Tryd.func39 (by kernel_rfl) rfl #[.agg #[.int .i64 ai, .int .i64 az, .int .i64 aA, .int .i64 ay, .slice bq af.length bf]] rfl mp_ ?_; (with_reducible refine (aW.calls k ai az aA ay _ _ af t122 _ ?aQ ?aT A7.out).mono ?_); (case aQ => exact cb_ (Kd.bA bV.out HB.out)); (case aT => exact dz.out); rintro e w22 ⟨rfl, hb⟩; refine ⟨_, rfl, ?_⟩; replace jL := kb_ jL hb; replace HB := aa.mk (au bl_ hb); (try clear hb); (try clear hb2); (try clear hk); (try clear hi); obtain ⟨hcz23_0, hcz23_1, hcz23_2, hcz23_3, hcz23_4, hfz23_0, hfz23_1, hfz23_2, hfz23_3, hfz23_4⟩ := bF jL.out) | ((with_reducible refine aN (f := 40) rfl ?_); refine bJ (some 13) rfl rfl Tryd.func40 (by kernel_rfl) rfl #[.agg #[.int .i64 ai, .int .i64 az, .int .i64 aA, .int .i64 ay, .slice bq af.length bf]] rfl mp_ ?_; (with_reducible refine (bW.calls k ai az aA ay _ _ af t123 _ ?aQ ?aT A9.out).mono ?_); (case aQ => exact cb_ (Kd.bA bV.out HB.out)); (case aT => exact dz.out); rintro e w24 ⟨rfl, hb⟩; refine ⟨_, rfl, ?_⟩; replace jL := kb_ jL hb; replace HB := aa.mk (au bl_ hb); (try clear hb); (try clear hb2); (try clear hk); (try clear hi)))
    go_ret; exact ⟨re_, bl_⟩
  ·rw [if_neg c8] at H; have tV : (t122 == 0) = false := beq_eq_false_iff_ne.mpr c8; have BJ : (t122 != 0) = true := bne_iff_ne.mpr c8; obtain rfl := Option.some.inj H; go_enter Tryd.func12, Tryd.ntmps12; go_wp2_with (first | ((with_reducible refine aY (N := 1) rfl ?_); refine aZ ?hg (N := 1) ?hd (cs := #[.int .i64 ai, .int .i64 az, .int .i64 aA, .int .i64 ay, .slice bq af.length bf]) (t := 24) ?hr ?_; (case hd => rfl); (case hg => rfl); (case hr => first | (go_simp; done) | (go_simp; rfl)); intro JA hg w25 aK hb; have jL := aa.mk (aK); have JB : aa (w.heap.size ≤ JA) := gw_ hg (aG bl_); have GE120 := JB; replace HB := aa.mk (au bl_ hb); clear hb aK hg; obtain ⟨EC, ED, EE, EF, EG, EH, EI, EJ, EK, EL⟩ := bF jL.out) | ((with_reducible refine aN (f := 38) rfl ?_); refine bJ (some 5) rfl rfl Tryd.func38 (by kernel_rfl) rfl #[.agg #[.int .i64 ai, .int .i64 az, .int .i64 aA, .int .i64 ay, .slice bq af.length bf]] rfl mp_ ?_; (with_reducible refine (cZ.calls k ai az aA ay _ _ af t121 _ ?aQ ?aT A2.out).mono ?_); (case aQ => exact cb_ (Kd.bA bV.out HB.out)); (case aT => exact dz.out); rintro e w27 ⟨rfl, hb⟩; refine ⟨_, rfl, ?_⟩; replace jL := kb_ jL hb; replace HB := aa.mk (au bl_ hb); (try clear hb); (try clear hb2); (try clear hk); (try clear hi); obtain ⟨l6, l7, mJ, mK, mM, l8, l9, mO, mP, mQ⟩ := bF jL.out) | ((with_reducible refine aN (f := 39) rfl ?_); refine bJ (some 8) rfl rfl Tryd.func39 (by kernel_rfl) rfl #[.agg #[.int .i64 ai, .int .i64 az, .int .i64 aA, .int .i64 ay, .slice bq af.length bf]] rfl mp_ ?_; (with_reducible refine (aW.calls k ai az aA ay _ _ af t122 _ ?aQ ?aT A7.out).mono ?_); (case aQ => exact cb_ (Kd.bA bV.out HB.out)); (case aT => exact dz.out); rintro e w29 ⟨rfl, hb⟩; refine ⟨_, rfl, ?_⟩; replace jL := kb_ jL hb; replace HB := aa.mk (au bl_ hb); (try clear hb); (try clear hb2); (try clear hk); (try clear hi)))
   go_ret; exact ⟨re_, bl_⟩

end Go.Proofs.YtggelekooacmnaaDoor.Q
namespace Go.Proofs.YtggelekooacmnaaDoor.Q
open Go.RowKit Go.Proofs.YtggelekooacmnaaDoorW.bg Go.Proofs.YtggelekooacmnaaDoorW.bP Go.Proofs.YtggelekooacmnaaDoorW.bX
attribute [local go_sem] ek eu fw fA dH dI eB eD   -- for this text's walks alone
set_option linter.unusedVariables false
set_option linter.unusedSimpArgs false

/-! ### bE: function 45 -/
mutual
def bE.l0 : Nat → Int → Int → Int → Int → Int → Int → Int → List (S24) → Option (Int)
 | 0, _, _, _, _, _, _, _, _ => none
 | k + 1, x1, x5, x6, x267000, x267001, x267002, x267003, Ce => if x6 < (Ce.length : Int) then (if 0 ≤ x6 then ((bE.f k ((ag Ce x6).f0) ((ag Ce x6).f1) ((ag Ce x6).f2) ((ag Ce x6).f3) ((ag Ce x6).f4) (wrap64 (x1 - 1))).bind fun t268 => (bE.l0 k x1 (mx x5 t268) (wrap64 (x6 + 1)) x267000 x267001 x267002 x267003 Ce)) else (none)) else (some (mn (wrap64 (x5 + 1)) x1))
def bE.f : Nat → Int → Int → Int → Int → List (S24) → Int → Option (Int)
 | 0, _, _, _, _, _, _ => none
 | k + 1, ai, az, aA, ay, af, a1 => if a1 > 1 then (bE.l0 k a1 0 0 ai az aA ay af) else (if (af.length : Int) > 0 then (some a1) else (some (mn (0 + 1) a1)))
end
theorem bE.fH : ∀ k, (∀ y0 y1 y2 y3 y4 y5, LeO (bE.f k y0 y1 y2 y3 y4 y5) (bE.f (k + 1) y0 y1 y2 y3 y4 y5)) ∧ (∀ y0 y1 y2 y3 y4 y5 y6 y7, LeO (bE.l0 k y0 y1 y2 y3 y4 y5 y6 y7) (bE.l0 (k + 1) y0 y1 y2 y3 y4 y5 y6 y7))
 | 0 => ⟨fun _ _ _ _ _ _ r h => by simp [bE.f] at h, fun _ _ _ _ _ _ _ _ r h => by simp [bE.l0] at h⟩
 | k + 1 => by
  obtain ⟨ih0, ih1⟩ := bE.fH k; refine ⟨?_, ?_⟩
  ·intro y0 y1 y2 y3 y4 y5; unfold bE.f; repeat' first
   | (with_reducible exact ih0 _ _ _ _ _ _)
   | (with_reducible exact ih1 _ _ _ _ _ _ _ _)
   | (with_reducible exact LeO.refl _)
   | (with_reducible exact LeO.none _)
   | (with_reducible refine LeO.ite ?_ ?_)
   | (with_reducible refine LeO.bind ?_ (fun _ => ?_))
   | exact ih0 _ _ _ _ _ _
   | exact ih1 _ _ _ _ _ _ _ _
   | exact LeO.none _
   | refine LeO.ite ?_ ?_
   | refine LeO.bind ?_ (fun _ => ?_)
  ·intro y0 y1 y2 y3 y4 y5 y6 y7; unfold bE.l0; repeat' first
   | (with_reducible exact ih0 _ _ _ _ _ _)
   | (with_reducible exact ih1 _ _ _ _ _ _ _ _)
   | (with_reducible exact LeO.refl _)
   | (with_reducible exact LeO.none _)
   | (with_reducible refine LeO.ite ?_ ?_)
   | (with_reducible refine LeO.bind ?_ (fun _ => ?_))
   | exact ih0 _ _ _ _ _ _
   | exact ih1 _ _ _ _ _ _ _ _
   | exact LeO.none _
   | refine LeO.ite ?_ ?_
   | refine LeO.bind ?_ (fun _ => ?_)
theorem bE.mono : ∀ a0 a1 a2 a3 a4 a5 k, LeO (bE.f k a0 a1 a2 a3 a4 a5) (bE.f (k + 1) a0 a1 a2 a3 a4 a5) := by
 intro a0 a1 a2 a3 a4 a5 k; obtain ⟨ih0, ih1⟩ := bE.fH k; exact ih0 a0 a1 a2 a3 a4 a5
set_option maxHeartbeats 8000000 in
set_option maxRecDepth 100000 in
theorem bE.calls (k : Nat) : ∀ (ai : Int) (az : Int) (aA : Int) (ay : Int) (bq : Option Addr) (bf : Nat) (af : List (S24)) (a1 : Int) (r : Int) (w : World) (dX : Kd.C k24 w bq af.length af) (dY : af.length ≤ bf) (h : bE.f k ai az aA ay af a1 = some r),
  Calls Tryd.prog 45 #[.agg #[.int .i64 ai, .int .i64 az, .int .i64 aA, .int .i64 ay, .slice bq af.length bf], .int .i64 a1] w fun e w' => e = .returned (.int .i64 r) ∧ Below w.heap.size w w' := by
 induction k using Nat.strongRecOn with
 | _ k ih =>
 intro ai az aA ay bq bf af a1 r w dX dY h; cases k with
 | zero => exact absurd h (by simp [bE.f])
 | succ k =>
 simp only [bE.f] at h; have ou := Tryd.underlying24; have bV := aa.mk dX; have dz := aa.mk dY; clear dX dY; have HB := aa.mk (Below.refl w.heap.size w); have H : (if a1 > 1 then (bE.l0 k a1 0 0 ai az aA ay af) else (if (af.length : Int) > 0 then (some a1) else (some (mn (0 + 1) a1)))) = some r := h; clear h; by_cases c3 : a1 > 1
 ·rw [if_pos c3] at H; have j5 : decide (1 < a1) = true := decide_eq_true c3; clear c3; have H' := aa.mk H; clear H; go_enter Tryd.func45, Tryd.ntmps45; go_wp2_with (first | ((with_reducible refine aY (N := 2) rfl ?_); refine aZ ?hg (N := 2) ?hd (cs := #[.int .i64 ai, .int .i64 az, .int .i64 aA, .int .i64 ay, .slice bq af.length bf]) (t := 24) ?hr ?_; (case hd => rfl); (case hg => rfl); (case hr => first | (go_simp; done) | (go_simp; rfl)); intro Mq hg w4 aK hb; have DZ := aa.mk (aK); have O6 : aa (w.heap.size ≤ Mq) := gw_ hg (aG bl_); have GE266 := O6; replace HB := aa.mk (au bl_ hb); clear hb aK hg))
  go_loopg [5, 6] k (fun kq v5 v6 w' => ∃ (gY : Int) (fC : Int), v5 = .int .i64 gY ∧ v6 = .int .i64 fC ∧ aa (bE.l0 kq a1 gY fC ai az aA ay af = some r) ∧ aa (kq ≤ k) ∧ aa (w'.heap[Mq]? = some (.cells #[.int .i64 ai, .int .i64 az, .int .i64 aA, .int .i64 ay, (.slice bq af.length bf)] 24 (0, 0))) ∧ aa (Below w.heap.size w w'))
  case atStart => exact ⟨(0), (0), rs_, rs_, H', ⟨Nat.le_refl _⟩, ⟨bk_⟩, ⟨bl_⟩⟩
  case round =>
   clear H'; (try clear p2); (try clear c3); (try clear j5); (try clear c4); obtain ⟨gY, fC, rfl, rfl, HA, HK1, DZ, HB⟩ := hrel; cases gk with
   | zero => exact absurd HA.out (by simp [bE.l0])
   | succ k1 =>
    have H := HA.out; clear HA; simp only [bE.l0] at H; by_cases c5 : fC < (af.length : Int)
    ·rw [if_pos c5] at H; have p8 : decide (fC < (af.length : Int)) = true := decide_eq_true c5; clear c5; by_cases c6 : 0 ≤ fC
     ·rw [if_pos c6] at H; have oN : decide (0 ≤ fC) = true := decide_eq_true c6; clear c6; replace H := Option.bind_eq_some_iff.mp H; obtain ⟨t268, A70, H⟩ := H; replace H : (bE.l0 k1 a1 (mx gY t268) (wrap64 (fC + 1)) ai az aA ay af) = some r := H; have A7 := aa.mk A70; clear A70; obtain ⟨ji8, FN⟩ : ∃ j_ : Int, (mx gY t268) = j_ := ⟨_, rfl⟩; replace H : (bE.l0 k1 a1 ji8 (wrap64 (fC + 1)) ai az aA ay af) = some r := by first | (rw [FN] at H; exact H) | (simp only [FN] at H ⊢; exact H)
      (try rw [FN] at A7)
      have hji8_ : (if gY < t268 then t268 else gY) = ji8 := FN; have H' := aa.mk H; clear H; obtain ⟨uj, uk, AP, AQ, AR, um, uo, AU, AV, AX⟩ := bF DZ.out; have p267 : 0 ≤ (fC : Int) := dt_; have q267 : fC < (af.length : Int) := dt_; obtain ⟨ad267, A267_4, c267_4, e267, VO, VP, VQ, VR, VS, VT, VU⟩ := eX bV.out fC p267 q267; cases e267; replace VO := hc_ HB VO; replace VP := hc_ HB VP; replace VQ := hc_ HB VQ; replace VR := hc_ HB VR; replace VS := hc_ HB VS; have HR267_4 := aa.mk VU; have HC267_4 := aa.mk VT; clear VU VT; replace p267 := eq_true p267; replace q267 := eq_true q267; go_wp2_with (first | ((with_reducible refine aN (f := 45) rfl ?_); refine bJ (some 24) rfl rfl Tryd.func45 (by kernel_rfl) rfl #[.agg #[.int .i64 ((ag af fC).f0), .int .i64 ((ag af fC).f1), .int .i64 ((ag af fC).f2), .int .i64 ((ag af fC).f3), .slice A267_4 ((ag af fC).f4).length c267_4], .int .i64 (wrap64 (a1 - 1))] rfl mp_ ?_; (with_reducible refine (ih k1 (by have := HK1.out; omega) ((ag af fC).f0) ((ag af fC).f1) ((ag af fC).f2) ((ag af fC).f3) _ _ ((ag af fC).f4) (wrap64 (a1 - 1)) t268 _ ?aQ ?aT A7.out).mono ?_); (case aQ => exact cb_ (Kd.bA HR267_4.out HB.out)); (case aT => exact HC267_4.out); rintro e w10 ⟨rfl, hb⟩; refine ⟨_, rfl, ?_⟩; replace DZ := kb_ DZ hb; replace HB := aa.mk (au bl_ hb); (try clear hb); (try clear hb2); (try clear hk); (try clear hi)))
      go_roundg k1
      case measure => have := HK1.out; omega
      case rel => exact ⟨(ji8), (wrap64 (fC + 1)), (by first | rfl | (simp; done) | (simp only [← FN] <;> (first | rfl | simp)) | (simp [*]; done)), rs_, H', ⟨by have := HK1.out; omega⟩, ⟨bk_⟩, ⟨bl_⟩⟩
     ·rw [if_neg c6] at H; exact absurd H (by simp)
    ·rw [if_neg c5] at H; have p8 : decide (fC < (af.length : Int)) = false := decide_eq_false c5; clear c5; obtain ⟨ji11, GA⟩ : ∃ j_ : Int, (mn (wrap64 (gY + 1)) a1) = j_ := ⟨_, rfl⟩; replace H : (some ji11) = some r := by first | (rw [GA] at H; exact H) | (simp only [GA] at H ⊢; exact H)
     have hji11_ : (if a1 < (wrap64 (gY + 1)) then a1 else (wrap64 (gY + 1))) = ji11 := GA; obtain rfl := Option.some.inj H; obtain ⟨lX, lY, u7, vk, vo, lZ, l5, vv, vw, vz⟩ := bF DZ.out; go_wp2; all_goals go_ret
     all_goals exact ⟨by first | rfl | (simp [fT, fU] <;> rfl) | (simp only [← GA]; first | rfl | (simp [fT, fU] <;> rfl)) | (simp; rw [← GA]; (first | unfold mn | unfold mx); split <;> omega) | (simp; (first | unfold mn at GA | unfold mx at GA); split at GA <;> omega) | (simp [*, fT, fU] <;> rfl), bl_⟩
 ·rw [if_neg c3] at H; have j5 : decide (1 < a1) = false := decide_eq_false c3; clear c3; by_cases c13 : (af.length : Int) > 0
  ·rw [if_pos c13] at H; have oW : decide (0 < (af.length : Int)) = true := decide_eq_true c13; have O5 : decide (0 < af.length) = true := decide_eq_true (by omega); clear c13; obtain rfl := Option.some.inj H; go_enter Tryd.func45, Tryd.ntmps45; go_wp2_with (first | ((with_reducible refine aY (N := 2) rfl ?_); refine aZ ?hg (N := 2) ?hd (cs := #[.int .i64 ai, .int .i64 az, .int .i64 aA, .int .i64 ay, .slice bq af.length bf]) (t := 24) ?hr ?_; (case hd => rfl); (case hg => rfl); (case hr => first | (go_simp; done) | (go_simp; rfl)); intro Mq hg w14 aK hb; have DZ := aa.mk (aK); have O6 : aa (w.heap.size ≤ Mq) := gw_ hg (aG bl_); have GE266 := O6; replace HB := aa.mk (au bl_ hb); clear hb aK hg; obtain ⟨xP, xQ, Cf, Cg, Ch, xR, xS, Ci, Cj, Ck⟩ := bF DZ.out))
   go_ret; exact ⟨re_, bl_⟩
  ·rw [if_neg c13] at H; have oW : decide (0 < (af.length : Int)) = false := decide_eq_false c13; have O5 : decide (0 < af.length) = false := decide_eq_false (by omega); clear c13; obtain ⟨ji16, D5⟩ : ∃ j_ : Int, (mn (0 + 1) a1) = j_ := ⟨_, rfl⟩; replace H : (some ji16) = some r := by first | (rw [D5] at H; exact H) | (simp only [D5] at H ⊢; exact H)
   (try (have hji16h : ji16 ≤ 1 := by (rw [← D5]; unfold mn; (repeat' split) <;> omega)))
   (try (have hji16g : ji16 ≤ 64 := by omega))
   have hji16_ : (if a1 < (0 + 1) then a1 else (0 + 1)) = ji16 := D5; obtain rfl := Option.some.inj H; go_enter Tryd.func45, Tryd.ntmps45; go_wp2_with (first | ((with_reducible refine aY (N := 2) rfl ?_); refine aZ ?hg (N := 2) ?hd (cs := #[.int .i64 ai, .int .i64 az, .int .i64 aA, .int .i64 ay, .slice bq af.length bf]) (t := 24) ?hr ?_; (case hd => rfl); (case hg => rfl); (case hr => first | (go_simp; done) | (go_simp; rfl)); intro Mq hg w17 aK hb; have DZ := aa.mk (aK); have O6 : aa (w.heap.size ≤ Mq) := gw_ hg (aG bl_); have GE266 := O6; replace HB := aa.mk (au bl_ hb); clear hb aK hg; obtain ⟨lT, lU, qz, qA, qB, lV, lW, qC, qD, qE⟩ := bF DZ.out))
   all_goals go_ret
   all_goals exact ⟨by first | rfl | (simp [fT, fU] <;> rfl) | (simp only [← D5]; first | rfl | (simp [fT, fU] <;> rfl)) | (simp; rw [← D5]; (first | unfold mn | unfold mx); split <;> omega) | (simp; (first | unfold mn at D5 | unfold mx at D5); split at D5 <;> omega) | (simp [*, fT, fU] <;> rfl), bl_⟩

end Go.Proofs.YtggelekooacmnaaDoor.Q
namespace Go.Proofs.YtggelekooacmnaaDoor.Q
open Go.RowKit Go.Proofs.YtggelekooacmnaaDoorW.bg Go.Proofs.YtggelekooacmnaaDoorW.bP Go.Proofs.YtggelekooacmnaaDoorW.bX
attribute [local go_sem] ek eu fw fA dH dI eB eD   -- for this text's walks alone
set_option linter.unusedVariables false
set_option linter.unusedSimpArgs false

/-! ### av: function 46 -/
mutual
def av.j0 : Nat → Int → Bool → Int → Int → Int → Int → List (S24) → Option (Int)
 | 0, _, _, _, _, _, _, _ => none
 | k + 1, x3, x14, jA, iU, iV, iO, eP => if x14 = true then (some 14) else (if x3 = 2 then (if x3 = 6 then (if x3 < 5 then (av.j1 k x3 (decide ((eP.length : Int) > 0)) jA iU iV iO eP) else (av.j1 k x3 false jA iU iV iO eP)) else (if iO = 0 then (if x3 < 5 then (av.j1 k x3 (decide ((eP.length : Int) > 0)) jA iU iV iO eP) else (av.j1 k x3 false jA iU iV iO eP)) else (av.j1 k x3 true jA iU iV iO eP))) else (if iU = 0 then (if iV = 0 then (if x3 = 6 then (if x3 < 5 then (av.j1 k x3 (decide ((eP.length : Int) > 0)) jA iU iV iO eP) else (av.j1 k x3 false jA iU iV iO eP)) else (if iO = 0 then (if x3 < 5 then (av.j1 k x3 (decide ((eP.length : Int) > 0)) jA iU iV iO eP) else (av.j1 k x3 false jA iU iV iO eP)) else (av.j1 k x3 true jA iU iV iO eP))) else (av.j1 k x3 true jA iU iV iO eP)) else (av.j1 k x3 true jA iU iV iO eP)))
def av.j1 : Nat → Int → Bool → Int → Int → Int → Int → List (S24) → Option (Int)
 | 0, _, _, _, _, _, _, _ => none
 | k + 1, x3, x45, jA, iU, iV, iO, eP => if x45 = true then (some 2) else (if x3 = 2 then (if iU < (-1000) then (some 1) else (if iU > iV then (some 1) else (if iV > 1000 then (some 1) else (some 0)))) else (if x3 = 5 then (if (eP.length : Int) < 2 then (av.j2 k true jA iU iV iO eP) else (av.j2 k (decide ((eP.length : Int) > 4)) jA iU iV iO eP)) else (if x3 = 6 then (if iO < 1 then (av.j4 k true jA iU iV iO eP) else (av.j4 k (decide (iO > 4)) jA iU iV iO eP)) else (some 0))))
def av.j2 : Nat → Bool → Int → Int → Int → Int → List (S24) → Option (Int)
 | 0, _, _, _, _, _, _ => none
 | k + 1, x75, jA, iU, iV, iO, eP => if x75 = true then (some 1) else (av.l0 k 0 jA iU iV iO eP)
def av.l0 : Nat → Int → Int → Int → Int → Int → List (S24) → Option (Int)
 | 0, _, _, _, _, _, _ => none
 | k + 1, x4, jA, iU, iV, iO, eP => if x4 < (eP.length : Int) then (if 0 ≤ x4 then ((av.f k ((ag eP x4).f0) ((ag eP x4).f1) ((ag eP x4).f2) ((ag eP x4).f3) ((ag eP x4).f4)).bind fun AY => (if AY = 0 then (if ((ag eP x4).f0) = 3 then (some 8) else (if ((ag eP x4).f0) = 4 then (some 8) else (av.l0 k (wrap64 (x4 + 1)) jA iU iV iO eP))) else (some AY))) else (none)) else (some 0)
def av.j4 : Nat → Bool → Int → Int → Int → Int → List (S24) → Option (Int)
 | 0, _, _, _, _, _, _ => none
 | k + 1, x117, jA, iU, iV, iO, eP => if x117 = true then (some 1) else (if (eP.length : Int) = 1 then (if 0 < (eP.length : Int) then ((av.f k ((ag eP 0).f0) ((ag eP 0).f1) ((ag eP 0).f2) ((ag eP 0).f3) ((ag eP 0).f4)).bind fun wy => (if wy = 0 then (if ((ag eP 0).f0) = 1 then (some 0) else (if ((ag eP 0).f0) = 2 then (some 0) else (some 8))) else (some wy))) else (none)) else (some 2))
def av.f : Nat → Int → Int → Int → Int → List (S24) → Option (Int)
 | 0, _, _, _, _, _ => none
 | k + 1, ai, az, aA, ay, af => if ai < 1 then (av.j0 k ai true ai az aA ay af) else (av.j0 k ai (decide (ai > 6)) ai az aA ay af)
end
theorem av.fH : ∀ k, (∀ y0 y1 y2 y3 y4, LeO (av.f k y0 y1 y2 y3 y4) (av.f (k + 1) y0 y1 y2 y3 y4)) ∧ (∀ y0 y1 y2 y3 y4 y5 y6, LeO (av.j0 k y0 y1 y2 y3 y4 y5 y6) (av.j0 (k + 1) y0 y1 y2 y3 y4 y5 y6)) ∧ (∀ y0 y1 y2 y3 y4 y5 y6, LeO (av.j1 k y0 y1 y2 y3 y4 y5 y6) (av.j1 (k + 1) y0 y1 y2 y3 y4 y5 y6)) ∧ (∀ y0 y1 y2 y3 y4 y5, LeO (av.j2 k y0 y1 y2 y3 y4 y5) (av.j2 (k + 1) y0 y1 y2 y3 y4 y5)) ∧ (∀ y0 y1 y2 y3 y4 y5, LeO (av.l0 k y0 y1 y2 y3 y4 y5) (av.l0 (k + 1) y0 y1 y2 y3 y4 y5)) ∧ (∀ y0 y1 y2 y3 y4 y5, LeO (av.j4 k y0 y1 y2 y3 y4 y5) (av.j4 (k + 1) y0 y1 y2 y3 y4 y5))
 | 0 => ⟨fun _ _ _ _ _ r h => by simp [av.f] at h, fun _ _ _ _ _ _ _ r h => by simp [av.j0] at h, fun _ _ _ _ _ _ _ r h => by simp [av.j1] at h, fun _ _ _ _ _ _ r h => by simp [av.j2] at h, fun _ _ _ _ _ _ r h => by simp [av.l0] at h, fun _ _ _ _ _ _ r h => by simp [av.j4] at h⟩
 | k + 1 => by
  obtain ⟨ih0, ih1, ih2, ih3, ih4, ih5⟩ := av.fH k; refine ⟨?_, ?_, ?_, ?_, ?_, ?_⟩
  ·intro y0 y1 y2 y3 y4; unfold av.f; repeat' first
   | (with_reducible exact ih0 _ _ _ _ _)
   | (with_reducible exact ih1 _ _ _ _ _ _ _)
   | (with_reducible exact ih2 _ _ _ _ _ _ _)
   | (with_reducible exact ih3 _ _ _ _ _ _)
   | (with_reducible exact ih4 _ _ _ _ _ _)
   | (with_reducible exact ih5 _ _ _ _ _ _)
   | (with_reducible exact LeO.refl _)
   | (with_reducible exact LeO.none _)
   | (with_reducible refine LeO.ite ?_ ?_)
   | (with_reducible refine LeO.bind ?_ (fun _ => ?_))
   | exact ih0 _ _ _ _ _
   | exact ih1 _ _ _ _ _ _ _
   | exact ih2 _ _ _ _ _ _ _
   | exact ih3 _ _ _ _ _ _
   | exact ih4 _ _ _ _ _ _
   | exact ih5 _ _ _ _ _ _
   | exact LeO.none _
   | refine LeO.ite ?_ ?_
   | refine LeO.bind ?_ (fun _ => ?_)
  ·intro y0 y1 y2 y3 y4 y5 y6; unfold av.j0; repeat' first
   | (with_reducible exact ih0 _ _ _ _ _)
   | (with_reducible exact ih1 _ _ _ _ _ _ _)
   | (with_reducible exact ih2 _ _ _ _ _ _ _)
   | (with_reducible exact ih3 _ _ _ _ _ _)
   | (with_reducible exact ih4 _ _ _ _ _ _)
   | (with_reducible exact ih5 _ _ _ _ _ _)
   | (with_reducible exact LeO.refl _)
   | (with_reducible exact LeO.none _)
   | (with_reducible refine LeO.ite ?_ ?_)
   | (with_reducible refine LeO.bind ?_ (fun _ => ?_))
   | exact ih0 _ _ _ _ _
   | exact ih1 _ _ _ _ _ _ _
   | exact ih2 _ _ _ _ _ _ _
   | exact ih3 _ _ _ _ _ _
   | exact ih4 _ _ _ _ _ _
   | exact ih5 _ _ _ _ _ _
   | exact LeO.none _
   | refine LeO.ite ?_ ?_
   | refine LeO.bind ?_ (fun _ => ?_)
  ·intro y0 y1 y2 y3 y4 y5 y6; unfold av.j1; repeat' first
   | (with_reducible exact ih0 _ _ _ _ _)
   | (with_reducible exact ih1 _ _ _ _ _ _ _)
   | (with_reducible exact ih2 _ _ _ _ _ _ _)
   | (with_reducible exact ih3 _ _ _ _ _ _)
   | (with_reducible exact ih4 _ _ _ _ _ _)
   | (with_reducible exact ih5 _ _ _ _ _ _)
   | (with_reducible exact LeO.refl _)
   | (with_reducible exact LeO.none _)
   | (with_reducible refine LeO.ite ?_ ?_)
   | (with_reducible refine LeO.bind ?_ (fun _ => ?_))
   | exact ih0 _ _ _ _ _
   | exact ih1 _ _ _ _ _ _ _
   | exact ih2 _ _ _ _ _ _ _
   | exact ih3 _ _ _ _ _ _
   | exact ih4 _ _ _ _ _ _
   | exact ih5 _ _ _ _ _ _
   | exact LeO.none _
   | refine LeO.ite ?_ ?_
   | refine LeO.bind ?_ (fun _ => ?_)
  ·intro y0 y1 y2 y3 y4 y5; unfold av.j2; repeat' first
   | (with_reducible exact ih0 _ _ _ _ _)
   | (with_reducible exact ih1 _ _ _ _ _ _ _)
   | (with_reducible exact ih2 _ _ _ _ _ _ _)
   | (with_reducible exact ih3 _ _ _ _ _ _)
   | (with_reducible exact ih4 _ _ _ _ _ _)
   | (with_reducible exact ih5 _ _ _ _ _ _)
   | (with_reducible exact LeO.refl _)
   | (with_reducible exact LeO.none _)
   | (with_reducible refine LeO.ite ?_ ?_)
   | (with_reducible refine LeO.bind ?_ (fun _ => ?_))
   | exact ih0 _ _ _ _ _
   | exact ih1 _ _ _ _ _ _ _
   | exact ih2 _ _ _ _ _ _ _
   | exact ih3 _ _ _ _ _ _
   | exact ih4 _ _ _ _ _ _
   | exact ih5 _ _ _ _ _ _
   | exact LeO.none _
   | refine LeO.ite ?_ ?_
   | refine LeO.bind ?_ (fun _ => ?_)
  ·intro y0 y1 y2 y3 y4 y5; unfold av.l0; repeat' first
   | (with_reducible exact ih0 _ _ _ _ _)
   | (with_reducible exact ih1 _ _ _ _ _ _ _)
   | (with_reducible exact ih2 _ _ _ _ _ _ _)
   | (with_reducible exact ih3 _ _ _ _ _ _)
   | (with_reducible exact ih4 _ _ _ _ _ _)
   | (with_reducible exact ih5 _ _ _ _ _ _)
   | (with_reducible exact LeO.refl _)
   | (with_reducible exact LeO.none _)
   | (with_reducible refine LeO.ite ?_ ?_)
   | (with_reducible refine LeO.bind ?_ (fun _ => ?_))
   | exact ih0 _ _ _ _ _
   | exact ih1 _ _ _ _ _ _ _
   | exact ih2 _ _ _ _ _ _ _
   | exact ih3 _ _ _ _ _ _
   | exact ih4 _ _ _ _ _ _
   | exact ih5 _ _ _ _ _ _
   | exact LeO.none _
   | refine LeO.ite ?_ ?_
   | refine LeO.bind ?_ (fun _ => ?_)
  ·intro y0 y1 y2 y3 y4 y5; unfold av.j4; repeat' first
   | (with_reducible exact ih0 _ _ _ _ _)
   | (with_reducible exact ih1 _ _ _ _ _ _ _)
   | (with_reducible exact ih2 _ _ _ _ _ _ _)
   | (with_reducible exact ih3 _ _ _ _ _ _)
   | (with_reducible exact ih4 _ _ _ _ _ _)
   | (with_reducible exact ih5 _ _ _ _ _ _)
   | (with_reducible exact LeO.refl _)
   | (with_reducible exact LeO.none _)
   | (with_reducible refine LeO.ite ?_ ?_)
   | (with_reducible refine LeO.bind ?_ (fun _ => ?_))
   | exact ih0 _ _ _ _ _
   | exact ih1 _ _ _ _ _ _ _
   | exact ih2 _ _ _ _ _ _ _
   | exact ih3 _ _ _ _ _ _
   | exact ih4 _ _ _ _ _ _
   | exact ih5 _ _ _ _ _ _
   | exact LeO.none _
   | refine LeO.ite ?_ ?_
   | refine LeO.bind ?_ (fun _ => ?_)
theorem av.mono : ∀ a0 a1 a2 a3 a4 k, LeO (av.f k a0 a1 a2 a3 a4) (av.f (k + 1) a0 a1 a2 a3 a4) := by
 intro a0 a1 a2 a3 a4 k; obtain ⟨ih0, ih1, ih2, ih3, ih4, ih5⟩ := av.fH k; exact ih0 a0 a1 a2 a3 a4
set_option maxHeartbeats 8000000 in
set_option maxRecDepth 100000 in
theorem av.calls (k : Nat) : ∀ (ai : Int) (az : Int) (aA : Int) (ay : Int) (bq : Option Addr) (bf : Nat) (af : List (S24)) (r : Int) (w : World) (dX : Kd.C k24 w bq af.length af) (dY : af.length ≤ bf) (h : av.f k ai az aA ay af = some r),
  Calls Tryd.prog 46 #[.agg #[.int .i64 ai, .int .i64 az, .int .i64 aA, .int .i64 ay, .slice bq af.length bf]] w fun e w' => e = .returned (.int .i64 r) ∧ Below w.heap.size w w' := by
 induction k using Nat.strongRecOn with
 | _ k ih =>
 intro ai az aA ay bq bf af r w dX dY h; cases k with
 | zero => exact absurd h (by simp [av.f])
 | succ k =>
 simp only [av.f] at h; have ou := Tryd.underlying24; have bV := aa.mk dX; have dz := aa.mk dY; clear dX dY; have HB := aa.mk (Below.refl w.heap.size w); have H : (if ai < 1 then (av.j0 k ai true ai az aA ay af) else (av.j0 k ai (decide (ai > 6)) ai az aA ay af)) = some r := h; clear h; have HC2 := aa.mk H; clear H; go_enter Tryd.func46, Tryd.ntmps46; go_upto_region 2 with (first | ((with_reducible refine aY (N := 1) rfl ?_); (try (refine bY (by rfl) ?_; dsimp only)); refine aZ ?hg (N := 1) ?hd (cs := #[.int .i64 ai, .int .i64 az, .int .i64 aA, .int .i64 ay, .slice bq af.length bf]) (t := 24) ?hr ?_; (case hd => rfl); (case hg => rfl); (case hr => first | (go_simp; done) | (go_simp; rfl)); intro Mr hg w3 aK hb; have fE := aa.mk (aK); have GW269 : aa (w.heap.size ≤ Mr) := gw_ hg (aG bl_); have GE269 := GW269; replace HB := aa.mk (au bl_ hb); clear hb aK hg; obtain ⟨vU, vV, vW, vX, vY, vZ, wh, wm, wo, wu⟩ := bF fE.out))
 (try simp only [Act.put, List.setIfInBounds_toArray, List.set_cons_zero, List.set_cons_succ])
 go_cut [14] (fun v14 wc => ∃ (kq : Nat) (x14_1 : Bool), v14 = .bool x14_1 ∧ aa (av.j0 kq ai x14_1 ai az aA ay af = some r) ∧ aa (kq ≤ k) ∧ aa (wc.heap[Mr]? = some (.cells #[.int .i64 ai, .int .i64 az, .int .i64 aA, .int .i64 ay, (.slice bq af.length bf)] 24 (0, 0))) ∧ aa (Below w.heap.size w wc))
 case first =>
  have H := HC2.out; clear HC2; by_cases c5 : ai < 1
  ·rw [if_pos c5] at H; have p8 : decide (ai < 1) = true := decide_eq_true c5; clear c5; (first | rw [p8] | (simp only [eT, eY]; rw [p8]) | skip)
   have H' := aa.mk H; clear H; go_wp2; go_meet
   case rel => exact ⟨_, (true), rs_, H', ⟨by first | omega | exact Nat.le_refl _⟩, ⟨bk_⟩, ⟨bl_⟩⟩
  ·rw [if_neg c5] at H; have p8 : decide (ai < 1) = false := decide_eq_false c5; clear c5; (first | rw [p8] | (simp only [eT, eY]; rw [p8]) | skip)
   have H' := aa.mk H; clear H; go_wp2; go_meet
   case rel => exact ⟨_, (decide (ai > 6)), rs_, H', ⟨by first | omega | exact Nat.le_refl _⟩, ⟨bk_⟩, ⟨bl_⟩⟩
 case rest =>
  clear HC2; (try clear p2); (try clear c4); (try clear c5); (try clear p8); (try clear vU vV vW vX vY vZ wh wm wo wu); obtain ⟨kq, x14_1, rfl, HA, HJ1, fE, HB⟩ := hcut; cases kq with
  | zero => exact absurd HA.out (by simp [av.j0])
  | succ kj1 =>
   have H := HA.out; clear HA; simp only [av.j0] at H; by_cases c6 : x14_1 = true
   ·subst c6; have H1 : (some 14) = some r := by rw [if_pos rfl] at H; exact H
    clear H; have H := H1; clear H1; obtain rfl := Option.some.inj H; go_wp2; go_ret; exact ⟨re_, bl_⟩
   ·replace c6 := Bool.eq_false_iff.mpr c6; subst c6; have H1 : (if ai = 2 then (if ai = 6 then (if ai < 5 then (av.j1 kj1 ai (decide ((af.length : Int) > 0)) ai az aA ay af) else (av.j1 kj1 ai false ai az aA ay af)) else (if ay = 0 then (if ai < 5 then (av.j1 kj1 ai (decide ((af.length : Int) > 0)) ai az aA ay af) else (av.j1 kj1 ai false ai az aA ay af)) else (av.j1 kj1 ai true ai az aA ay af))) else (if az = 0 then (if aA = 0 then (if ai = 6 then (if ai < 5 then (av.j1 kj1 ai (decide ((af.length : Int) > 0)) ai az aA ay af) else (av.j1 kj1 ai false ai az aA ay af)) else (if ay = 0 then (if ai < 5 then (av.j1 kj1 ai (decide ((af.length : Int) > 0)) ai az aA ay af) else (av.j1 kj1 ai false ai az aA ay af)) else (av.j1 kj1 ai true ai az aA ay af))) else (av.j1 kj1 ai true ai az aA ay af)) else (av.j1 kj1 ai true ai az aA ay af))) = some r := by rw [if_neg (show ¬ (false = true) by decide)] at H; exact H
    clear H; have H := H1; clear H1; have HC7 := aa.mk H; clear H; go_upto_region 4 with (fail)
    go_cut [45] (fun v45 wc => ∃ (kq : Nat) (x45_6 : Bool), v45 = .bool x45_6 ∧ aa (av.j1 kq ai x45_6 ai az aA ay af = some r) ∧ aa (kq ≤ kj1) ∧ aa (wc.heap[Mr]? = some (.cells #[.int .i64 ai, .int .i64 az, .int .i64 aA, .int .i64 ay, (.slice bq af.length bf)] 24 (0, 0))) ∧ aa (Below w.heap.size w wc))
    case first =>
     have H := HC7.out; clear HC7; by_cases c8 : ai = 2
     ·rw [if_pos c8] at H; have tV : (ai == 2) = true := beq_iff_eq.mpr c8; have BJ : (ai != 2) = false := bne_eq_false_iff_eq.mpr c8; clear c8; (first | rw [tV] | (simp only [eT, eY]; rw [tV]) | skip)
      by_cases c9 : ai = 6
      ·rw [if_pos c9] at H; have vQ : (ai == 6) = true := beq_iff_eq.mpr c9; have F3 : (ai != 6) = false := bne_eq_false_iff_eq.mpr c9; clear c9; by_cases c10 : ai < 5
       ·rw [if_pos c10] at H; have oI : decide (ai < 5) = true := decide_eq_true c10; clear c10; have H' := aa.mk H; clear H; obtain ⟨qp, qw, wT, wU, wV, qx, qy, wW, wX, wY⟩ := bF fE.out; go_wp2; go_meet
        case rel => exact ⟨_, (decide ((af.length : Int) > 0)), rs_, H', ⟨by have := HJ1.out; first | omega | exact Nat.le_refl _⟩, ⟨bk_⟩, ⟨bl_⟩⟩
       ·rw [if_neg c10] at H; have oI : decide (ai < 5) = false := decide_eq_false c10; clear c10; have H' := aa.mk H; clear H; go_wp2; go_meet
        case rel => exact ⟨_, (false), rs_, H', ⟨by have := HJ1.out; first | omega | exact Nat.le_refl _⟩, ⟨bk_⟩, ⟨bl_⟩⟩
      ·rw [if_neg c9] at H; have vQ : (ai == 6) = false := beq_eq_false_iff_ne.mpr c9; have F3 : (ai != 6) = true := bne_iff_ne.mpr c9; by_cases c12 : ay = 0
       ·rw [if_pos c12] at H; have oV : (ay == 0) = true := beq_iff_eq.mpr c12; have za : (ay != 0) = false := bne_eq_false_iff_eq.mpr c12; clear c12; by_cases c13 : ai < 5
        ·rw [if_pos c13] at H; have oW : decide (ai < 5) = true := decide_eq_true c13; clear c13; have H' := aa.mk H; clear H; obtain ⟨kg, ko, kr, ku, kv, ky, kz, kC, kD, kE⟩ := bF fE.out; go_wp2; go_meet
         case rel => exact ⟨_, (decide ((af.length : Int) > 0)), rs_, H', ⟨by have := HJ1.out; first | omega | exact Nat.le_refl _⟩, ⟨bk_⟩, ⟨bl_⟩⟩
        ·rw [if_neg c13] at H; have oW : decide (ai < 5) = false := decide_eq_false c13; clear c13; have H' := aa.mk H; clear H; obtain ⟨xP, xQ, Cf, Cg, Ch, xR, xS, Ci, Cj, Ck⟩ := bF fE.out; go_wp2; go_meet
         case rel => exact ⟨_, (false), rs_, H', ⟨by have := HJ1.out; first | omega | exact Nat.le_refl _⟩, ⟨bk_⟩, ⟨bl_⟩⟩
       ·rw [if_neg c12] at H; have oV : (ay == 0) = false := beq_eq_false_iff_ne.mpr c12; have za : (ay != 0) = true := bne_iff_ne.mpr c12; have H' := aa.mk H; clear H; obtain ⟨pO, pQ, qF, qG, qH, pR, pU, qI, qJ, qK⟩ := bF fE.out; go_wp2; go_meet
        case rel => exact ⟨_, (true), rs_, H', ⟨by have := HJ1.out; first | omega | exact Nat.le_refl _⟩, ⟨bk_⟩, ⟨bl_⟩⟩
     ·rw [if_neg c8] at H; have tV : (ai == 2) = false := beq_eq_false_iff_ne.mpr c8; have BJ : (ai != 2) = true := bne_iff_ne.mpr c8; (first | rw [tV] | (simp only [eT, eY]; rw [tV]) | skip)
      by_cases c17 : az = 0
      ·rw [if_pos c17] at H; have CY : (az == 0) = true := beq_iff_eq.mpr c17; have O7 : (az != 0) = false := bne_eq_false_iff_eq.mpr c17; clear c17; by_cases c18 : aA = 0
       ·rw [if_pos c18] at H; have O8 : (aA == 0) = true := beq_iff_eq.mpr c18; have O9 : (aA != 0) = false := bne_eq_false_iff_eq.mpr c18; clear c18; by_cases c19 : ai = 6
        ·rw [if_pos c19] at H; have AZ : (ai == 6) = true := beq_iff_eq.mpr c19; have D6 : (ai != 6) = false := bne_eq_false_iff_eq.mpr c19; clear c19; by_cases c20 : ai < 5
         ·rw [if_pos c20] at H; have xU : decide (ai < 5) = true := decide_eq_true c20; clear c20; have H' := aa.mk H; clear H; obtain ⟨qQ, qR, qU, qV, qW, qX, qY, qZ, q9, rf⟩ := bF fE.out; go_wp2; go_meet
          case rel => exact ⟨_, (decide ((af.length : Int) > 0)), rs_, H', ⟨by have := HJ1.out; first | omega | exact Nat.le_refl _⟩, ⟨bk_⟩, ⟨bl_⟩⟩
         ·rw [if_neg c20] at H; have xU : decide (ai < 5) = false := decide_eq_false c20; clear c20; have H' := aa.mk H; clear H; obtain ⟨su, sw, uU, uV, uW, sD, sF, uX, uY, uZ⟩ := bF fE.out; go_wp2; go_meet
          case rel => exact ⟨_, (false), rs_, H', ⟨by have := HJ1.out; first | omega | exact Nat.le_refl _⟩, ⟨bk_⟩, ⟨bl_⟩⟩
        ·rw [if_neg c19] at H; have AZ : (ai == 6) = false := beq_eq_false_iff_ne.mpr c19; have D6 : (ai != 6) = true := bne_iff_ne.mpr c19; by_cases c23 : ay = 0
         ·rw [if_pos c23] at H; have rX : (ay == 0) = true := beq_iff_eq.mpr c23; have AJ : (ay != 0) = false := bne_eq_false_iff_eq.mpr c23; clear c23; by_cases c24 : ai < 5
          ·rw [if_pos c24] at H; have tX : decide (ai < 5) = true := decide_eq_true c24; clear c24; have H' := aa.mk H; clear H; obtain ⟨zL, zM, zN, zO, zP, zQ, zR, zS, zT, zU⟩ := bF fE.out; go_wp2; go_meet
           case rel => exact ⟨_, (decide ((af.length : Int) > 0)), rs_, H', ⟨by have := HJ1.out; first | omega | exact Nat.le_refl _⟩, ⟨bk_⟩, ⟨bl_⟩⟩
          ·rw [if_neg c24] at H; have tX : decide (ai < 5) = false := decide_eq_false c24; clear c24; have H' := aa.mk H; clear H; obtain ⟨EC, ED, EE, EF, EG, EH, EI, EJ, EK, EL⟩ := bF fE.out; go_wp2; go_meet
           case rel => exact ⟨_, (false), rs_, H', ⟨by have := HJ1.out; first | omega | exact Nat.le_refl _⟩, ⟨bk_⟩, ⟨bl_⟩⟩
         ·rw [if_neg c23] at H; have rX : (ay == 0) = false := beq_eq_false_iff_ne.mpr c23; have AJ : (ay != 0) = true := bne_iff_ne.mpr c23; have H' := aa.mk H; clear H; obtain ⟨wZ, xc, xe, xg, xh, xk, xm, xn, xq, xu⟩ := bF fE.out; go_wp2; go_meet
          case rel => exact ⟨_, (true), rs_, H', ⟨by have := HJ1.out; first | omega | exact Nat.le_refl _⟩, ⟨bk_⟩, ⟨bl_⟩⟩
       ·rw [if_neg c18] at H; have O8 : (aA == 0) = false := beq_eq_false_iff_ne.mpr c18; have O9 : (aA != 0) = true := bne_iff_ne.mpr c18; have H' := aa.mk H; clear H; obtain ⟨l6, l7, mJ, mK, mM, l8, l9, mO, mP, mQ⟩ := bF fE.out; go_wp2; go_meet
        case rel => exact ⟨_, (true), rs_, H', ⟨by have := HJ1.out; first | omega | exact Nat.le_refl _⟩, ⟨bk_⟩, ⟨bl_⟩⟩
      ·rw [if_neg c17] at H; have CY : (az == 0) = false := beq_eq_false_iff_ne.mpr c17; have O7 : (az != 0) = true := bne_iff_ne.mpr c17; have H' := aa.mk H; clear H; obtain ⟨nE, nG, uE, uF, uG, nH, nI, uH, uI, uJ⟩ := bF fE.out; go_wp2; go_meet
       case rel => exact ⟨_, (true), rs_, H', ⟨by have := HJ1.out; first | omega | exact Nat.le_refl _⟩, ⟨bk_⟩, ⟨bl_⟩⟩
    case rest =>
     clear HC7; (try clear c1); (try clear c2); (try clear p2); (try clear c4); (try clear c5); (try clear p8); (try clear c6); (try clear c8); (try clear tV); (try clear BJ); (try clear c9); (try clear vQ); (try clear F3); (try clear c10); (try clear oI); (try clear c12); (try clear oV); (try clear za); (try clear c13); (try clear oW); (try clear c17); (try clear CY); (try clear O7); (try clear c18); (try clear O8); (try clear O9); (try clear c19); (try clear AZ); (try clear D6); (try clear c20); (try clear xU); (try clear c23); (try clear rX); (try clear AJ); (try clear c24); (try clear tX); (try clear qp qw wT wU wV qx qy wW wX wY); (try clear kg ko kr ku kv ky kz kC kD kE); (try clear xP xQ Cf Cg Ch xR xS Ci Cj Ck); (try clear pO pQ qF qG qH pR pU qI qJ qK); (try clear qQ qR qU qV qW qX qY qZ q9 rf); (try clear su sw uU uV uW sD sF uX uY uZ); (try clear zL zM zN zO zP zQ zR zS zT zU); (try clear EC ED EE EF EG EH EI EJ EK EL); (try clear wZ xc xe xg xh xk xm xn xq xu); (try clear l6 l7 mJ mK mM l8 l9 mO mP mQ); (try clear nE nG uE uF uG nH nI uH uI uJ); (try clear vU vV vW vX vY vZ wh wm wo wu); (try clear p2); obtain ⟨kq, x45_6, rfl, HA, HJ6, fE, HB⟩ := hcut; cases kq with
     | zero => exact absurd HA.out (by simp [av.j1])
     | succ kj6 =>
      have H := HA.out; clear HA; simp only [av.j1] at H; by_cases c30 : x45_6 = true
      ·subst c30; have H1 : (some 2) = some r := by rw [if_pos rfl] at H; exact H
       clear H; have H := H1; clear H1; obtain rfl := Option.some.inj H; go_wp2; go_ret; exact ⟨re_, bl_⟩
      ·replace c30 := Bool.eq_false_iff.mpr c30; subst c30; have H1 : (if ai = 2 then (if az < (-1000) then (some 1) else (if az > aA then (some 1) else (if aA > 1000 then (some 1) else (some 0)))) else (if ai = 5 then (if (af.length : Int) < 2 then (av.j2 kj6 true ai az aA ay af) else (av.j2 kj6 (decide ((af.length : Int) > 4)) ai az aA ay af)) else (if ai = 6 then (if ay < 1 then (av.j4 kj6 true ai az aA ay af) else (av.j4 kj6 (decide (ay > 4)) ai az aA ay af)) else (some 0)))) = some r := by rw [if_neg (show ¬ (false = true) by decide)] at H; exact H
       clear H; have H := H1; clear H1; by_cases c31 : ai = 2
       ·rw [if_pos c31] at H; have D7 : (ai == 2) = true := beq_iff_eq.mpr c31; have JC : (ai != 2) = false := bne_eq_false_iff_eq.mpr c31; clear c31; by_cases c32 : az < (-1000)
        ·rw [if_pos c32] at H; have c32b0 : decide (az < (-1000)) = true := decide_eq_true c32; clear c32; obtain rfl := Option.some.inj H; obtain ⟨Em, En, Ll, Lm, Lp, Eo, Ep, Lr, Ls, Lt⟩ := bF fE.out; go_wp2; go_ret; exact ⟨re_, bl_⟩
        ·rw [if_neg c32] at H; have c32b0 : decide (az < (-1000)) = false := decide_eq_false c32; clear c32; by_cases c34 : az > aA
         ·rw [if_pos c34] at H; have JD : decide (aA < az) = true := decide_eq_true c34; clear c34; obtain rfl := Option.some.inj H; obtain ⟨uK, uL, uM, uN, uO, uP, uQ, uR, uS, uT⟩ := bF fE.out; go_wp2; go_ret; exact ⟨re_, bl_⟩
         ·rw [if_neg c34] at H; have JD : decide (aA < az) = false := decide_eq_false c34; clear c34; by_cases c36 : aA > 1000
          ·rw [if_pos c36] at H; have Ba : decide (1000 < aA) = true := decide_eq_true c36; clear c36; obtain rfl := Option.some.inj H; obtain ⟨xE, xG, xH, xI, xJ, xK, xL, xM, xN, xO⟩ := bF fE.out; go_wp2; go_ret; exact ⟨re_, bl_⟩
          ·rw [if_neg c36] at H; have Ba : decide (1000 < aA) = false := decide_eq_false c36; clear c36; obtain rfl := Option.some.inj H; obtain ⟨Rz, RA, RB, RD, RF, RG, RH, RI, RJ, RL⟩ := bF fE.out; go_wp2; go_ret; exact ⟨re_, bl_⟩
       ·rw [if_neg c31] at H; have D7 : (ai == 2) = false := beq_eq_false_iff_ne.mpr c31; have JC : (ai != 2) = true := bne_iff_ne.mpr c31; by_cases c39 : ai = 5
        ·rw [if_pos c39] at H; have DX : (ai == 5) = true := beq_iff_eq.mpr c39; have Ju : (ai != 5) = false := bne_eq_false_iff_eq.mpr c39; clear c39; have HC40 := aa.mk H; clear H; go_upto_region 11 with (fail)
         go_cut [75] (fun v75 wc => ∃ (kq : Nat) (Pb : Bool), v75 = .bool Pb ∧ aa (av.j2 kq Pb ai az aA ay af = some r) ∧ aa (kq ≤ kj6) ∧ aa (wc.heap[Mr]? = some (.cells #[.int .i64 ai, .int .i64 az, .int .i64 aA, .int .i64 ay, (.slice bq af.length bf)] 24 (0, 0))) ∧ aa (Below w.heap.size w wc))
         case first =>
          have H := HC40.out; clear HC40; by_cases c41 : (af.length : Int) < 2
          ·rw [if_pos c41] at H; have GD : decide ((af.length : Int) < 2) = true := decide_eq_true c41; have c41b1 : decide (af.length < 2) = true := decide_eq_true (by omega); clear c41; (first | rw [GD] | (simp only [eT, eY]; rw [GD]) | skip)
           have H' := aa.mk H; clear H; obtain ⟨zY, zZ, Ms, Mt, Mv, z8, Aa, Mw, Mx, MB⟩ := bF fE.out; go_wp2; go_meet
           case rel => exact ⟨_, (true), rs_, H', ⟨by have := HJ1.out; have := HJ6.out; first | omega | exact Nat.le_refl _⟩, ⟨bk_⟩, ⟨bl_⟩⟩
          ·rw [if_neg c41] at H; have GD : decide ((af.length : Int) < 2) = false := decide_eq_false c41; have c41b1 : decide (af.length < 2) = false := decide_eq_false (by omega); clear c41; (first | rw [GD] | (simp only [eT, eY]; rw [GD]) | skip)
           have H' := aa.mk H; clear H; obtain ⟨RN, RO, RP, RQ, RS, RU, RV, RX, RY, RZ⟩ := bF fE.out; go_wp2; go_meet
           case rel => exact ⟨_, (decide ((af.length : Int) > 4)), rs_, H', ⟨by have := HJ1.out; have := HJ6.out; first | omega | exact Nat.le_refl _⟩, ⟨bk_⟩, ⟨bl_⟩⟩
         case rest =>
          clear HC40; (try clear c1); (try clear c2); (try clear p2); (try clear c3); (try clear c4); (try clear c5); (try clear p8); (try clear c6); (try clear c8); (try clear tV); (try clear BJ); (try clear c9); (try clear vQ); (try clear F3); (try clear c10); (try clear oI); (try clear c12); (try clear oV); (try clear za); (try clear c13); (try clear oW); (try clear c17); (try clear CY); (try clear O7); (try clear c18); (try clear O8); (try clear O9); (try clear c19); (try clear AZ); (try clear D6); (try clear c20); (try clear xU); (try clear c23); (try clear rX); (try clear AJ); (try clear c24); (try clear tX); (try clear c30); (try clear c31); (try clear D7); (try clear JC); (try clear c32); (try clear c32b0); (try clear c34); (try clear JD); (try clear c36); (try clear Ba); (try clear c39); (try clear DX); (try clear Ju); (try clear c41); (try clear GD); (try clear c41b1); (try clear qp qw wT wU wV qx qy wW wX wY); (try clear kg ko kr ku kv ky kz kC kD kE); (try clear xP xQ Cf Cg Ch xR xS Ci Cj Ck); (try clear pO pQ qF qG qH pR pU qI qJ qK); (try clear qQ qR qU qV qW qX qY qZ q9 rf); (try clear su sw uU uV uW sD sF uX uY uZ); (try clear zL zM zN zO zP zQ zR zS zT zU); (try clear EC ED EE EF EG EH EI EJ EK EL); (try clear wZ xc xe xg xh xk xm xn xq xu); (try clear l6 l7 mJ mK mM l8 l9 mO mP mQ); (try clear nE nG uE uF uG nH nI uH uI uJ); (try clear Em En Ll Lm Lp Eo Ep Lr Ls Lt); (try clear uK uL uM uN uO uP uQ uR uS uT); (try clear xE xG xH xI xJ xK xL xM xN xO); (try clear Rz RA RB RD RF RG RH RI RJ RL); (try clear zY zZ Ms Mt Mv z8 Aa Mw Mx MB); (try clear RN RO RP RQ RS RU RV RX RY RZ); (try clear vU vV vW vX vY vZ wh wm wo wu); (try clear p2); obtain ⟨kq, Pb, rfl, HA, HJ39, fE, HB⟩ := hcut; cases kq with
          | zero => exact absurd HA.out (by simp [av.j2])
          | succ kj39 =>
           have H := HA.out; clear HA; simp only [av.j2] at H; by_cases c44 : Pb = true
           ·subst c44; have H1 : (some 1) = some r := by rw [if_pos rfl] at H; exact H
            clear H; have H := H1; clear H1; obtain rfl := Option.some.inj H; go_wp2; go_ret; exact ⟨re_, bl_⟩
           ·replace c44 := Bool.eq_false_iff.mpr c44; subst c44; have H1 : (av.l0 kj39 0 ai az aA ay af) = some r := by rw [if_neg (show ¬ (false = true) by decide)] at H; exact H
            clear H; have H := H1; clear H1; have H' := aa.mk H; clear H; go_wp2; go_loopg [4] kj39 (fun kq v4 w' => ∃ (dQ : Int), v4 = .int .i64 dQ ∧ aa (av.l0 kq dQ ai az aA ay af = some r) ∧ aa (kq ≤ kj39) ∧ aa (w'.heap[Mr]? = some (.cells #[.int .i64 ai, .int .i64 az, .int .i64 aA, .int .i64 ay, (.slice bq af.length bf)] 24 (0, 0))) ∧ aa (Below w.heap.size w w'))
            case atStart => exact ⟨(0), rs_, H', ⟨Nat.le_refl _⟩, ⟨bk_⟩, ⟨bl_⟩⟩
            case round =>
             clear H'; (try clear c1); (try clear c2); (try clear p2); (try clear c3); (try clear c4); (try clear c5); (try clear p8); (try clear c6); (try clear c8); (try clear tV); (try clear BJ); (try clear c9); (try clear vQ); (try clear F3); (try clear c10); (try clear oI); (try clear c12); (try clear oV); (try clear za); (try clear c13); (try clear oW); (try clear c17); (try clear CY); (try clear O7); (try clear c18); (try clear O8); (try clear O9); (try clear c19); (try clear AZ); (try clear D6); (try clear c20); (try clear xU); (try clear c23); (try clear rX); (try clear AJ); (try clear c24); (try clear tX); (try clear c30); (try clear c31); (try clear D7); (try clear JC); (try clear c32); (try clear c32b0); (try clear c34); (try clear JD); (try clear c36); (try clear Ba); (try clear c39); (try clear DX); (try clear Ju); (try clear c41); (try clear GD); (try clear c41b1); (try clear c44); (try clear qp qw wT wU wV qx qy wW wX wY); (try clear kg ko kr ku kv ky kz kC kD kE); (try clear xP xQ Cf Cg Ch xR xS Ci Cj Ck); (try clear pO pQ qF qG qH pR pU qI qJ qK); (try clear qQ qR qU qV qW qX qY qZ q9 rf); (try clear su sw uU uV uW sD sF uX uY uZ); (try clear zL zM zN zO zP zQ zR zS zT zU); (try clear EC ED EE EF EG EH EI EJ EK EL); (try clear wZ xc xe xg xh xk xm xn xq xu); (try clear l6 l7 mJ mK mM l8 l9 mO mP mQ); (try clear nE nG uE uF uG nH nI uH uI uJ); (try clear Em En Ll Lm Lp Eo Ep Lr Ls Lt); (try clear uK uL uM uN uO uP uQ uR uS uT); (try clear xE xG xH xI xJ xK xL xM xN xO); (try clear Rz RA RB RD RF RG RH RI RJ RL); (try clear zY zZ Ms Mt Mv z8 Aa Mw Mx MB); (try clear RN RO RP RQ RS RU RV RX RY RZ); (try clear vU vV vW vX vY vZ wh wm wo wu); (try clear p2); obtain ⟨dQ, rfl, HA, HK4, fE, HB⟩ := hrel; cases gk with
             | zero => exact absurd HA.out (by simp [av.l0])
             | succ k4 =>
              have H := HA.out; clear HA; simp only [av.l0] at H; by_cases c45 : dQ < (af.length : Int)
              ·rw [if_pos c45] at H; have c45b0 : decide (dQ < (af.length : Int)) = true := decide_eq_true c45; clear c45; by_cases c46 : 0 ≤ dQ
               ·rw [if_pos c46] at H; have c46b0 : decide (0 ≤ dQ) = true := decide_eq_true c46; clear c46; replace H := Option.bind_eq_some_iff.mp H; obtain ⟨AY, A470, H⟩ := H; replace H : (if AY = 0 then (if ((ag af dQ).f0) = 3 then (some 8) else (if ((ag af dQ).f0) = 4 then (some 8) else (av.l0 k4 (wrap64 (dQ + 1)) ai az aA ay af))) else (some AY)) = some r := H; have A47 := aa.mk A470; clear A470; by_cases c48 : AY = 0
                ·rw [if_pos c48] at H; have c48b0 : (AY == 0) = true := beq_iff_eq.mpr c48; have c48b1 : (AY != 0) = false := bne_eq_false_iff_eq.mpr c48; clear c48; by_cases c49 : ((ag af dQ).f0) = 3
                 ·rw [if_pos c49] at H; have OZ : (((ag af dQ).f0) == 3) = true := beq_iff_eq.mpr c49; have O0 : (((ag af dQ).f0) != 3) = false := bne_eq_false_iff_eq.mpr c49; clear c49; obtain rfl := Option.some.inj H; obtain ⟨IM, IP, VV, VW, VX, IQ, IU, VY, VZ, V3⟩ := bF fE.out; have yP : 0 ≤ (dQ : Int) := dt_; have yQ : dQ < (af.length : Int) := dt_; obtain ⟨GG, F8, F9, e270, rq, ru, ry, rz, rA, sW, sZ⟩ := eX bV.out dQ yP yQ; cases e270; replace rq := hc_ HB rq; replace ru := hc_ HB ru; replace ry := hc_ HB ry; replace rz := hc_ HB rz; replace rA := hc_ HB rA; have Cm := aa.mk sZ; have Cn := aa.mk sW; clear sZ sW; replace yP := eq_true yP; replace yQ := eq_true yQ; go_wp2_with (first | ((with_reducible refine aN (f := 46) rfl ?_); refine bJ (some 88) rfl rfl Tryd.func46 (by kernel_rfl) rfl #[.agg #[.int .i64 ((ag af dQ).f0), .int .i64 ((ag af dQ).f1), .int .i64 ((ag af dQ).f2), .int .i64 ((ag af dQ).f3), .slice F8 ((ag af dQ).f4).length F9]] rfl mp_ ?_; (with_reducible refine (ih k4 (by have := HJ1.out; have := HJ6.out; have := HJ39.out; have := HK4.out; omega) ((ag af dQ).f0) ((ag af dQ).f1) ((ag af dQ).f2) ((ag af dQ).f3) _ _ ((ag af dQ).f4) AY _ ?aQ ?aT A47.out).mono ?_); (case aQ => exact cb_ (Kd.bA Cm.out HB.out)); (case aT => exact Cn.out); rintro e w51 ⟨rfl, hb⟩; refine ⟨_, rfl, ?_⟩; replace fE := kb_ fE hb; replace HB := aa.mk (au bl_ hb); (try clear hb); (try clear hb2); (try clear hk); (try clear hi); obtain ⟨LD, LF, Re, Rf, Rh, LG, LH, Ri, Rj, Rk⟩ := bF fE.out; have DK : 0 ≤ (dQ : Int) := dt_; have DL : dQ < (af.length : Int) := dt_; obtain ⟨Pd, A272_4, c272_4, e272, xV, xW, xX, xY, tq, Ab, Ac⟩ := eX bV.out dQ DK DL; obtain rfl : GG = Pd := (by injection e272); replace xV := hc_ HB xV; replace xW := hc_ HB xW; replace xX := hc_ HB xX; replace xY := hc_ HB xY; replace tq := hc_ HB tq; have V4 := aa.mk Ac; have V5 := aa.mk Ab; clear Ac Ab; replace DK := eq_true DK; replace DL := eq_true DL))
                  go_ret; exact ⟨re_, bl_⟩
                 ·rw [if_neg c49] at H; have OZ : (((ag af dQ).f0) == 3) = false := beq_eq_false_iff_ne.mpr c49; have O0 : (((ag af dQ).f0) != 3) = true := bne_iff_ne.mpr c49; by_cases c53 : ((ag af dQ).f0) = 4
                  ·rw [if_pos c53] at H; have c53b0 : (((ag af dQ).f0) == 4) = true := beq_iff_eq.mpr c53; have c53b1 : (((ag af dQ).f0) != 4) = false := bne_eq_false_iff_eq.mpr c53; clear c53; obtain rfl := Option.some.inj H; obtain ⟨LJ, LK, LM, LP, LQ, LU, LV, LW, LX, LY⟩ := bF fE.out; have yP : 0 ≤ (dQ : Int) := dt_; have yQ : dQ < (af.length : Int) := dt_; obtain ⟨GG, F8, F9, e270, rq, ru, ry, rz, rA, sW, sZ⟩ := eX bV.out dQ yP yQ; cases e270; replace rq := hc_ HB rq; replace ru := hc_ HB ru; replace ry := hc_ HB ry; replace rz := hc_ HB rz; replace rA := hc_ HB rA; have Cm := aa.mk sZ; have Cn := aa.mk sW; clear sZ sW; replace yP := eq_true yP; replace yQ := eq_true yQ; go_wp2_with (first | ((with_reducible refine aN (f := 46) rfl ?_); refine bJ (some 88) rfl rfl Tryd.func46 (by kernel_rfl) rfl #[.agg #[.int .i64 ((ag af dQ).f0), .int .i64 ((ag af dQ).f1), .int .i64 ((ag af dQ).f2), .int .i64 ((ag af dQ).f3), .slice F8 ((ag af dQ).f4).length F9]] rfl mp_ ?_; (with_reducible refine (ih k4 (by have := HJ1.out; have := HJ6.out; have := HJ39.out; have := HK4.out; omega) ((ag af dQ).f0) ((ag af dQ).f1) ((ag af dQ).f2) ((ag af dQ).f3) _ _ ((ag af dQ).f4) AY _ ?aQ ?aT A47.out).mono ?_); (case aQ => exact cb_ (Kd.bA Cm.out HB.out)); (case aT => exact Cn.out); rintro e w55 ⟨rfl, hb⟩; refine ⟨_, rfl, ?_⟩; replace fE := kb_ fE hb; replace HB := aa.mk (au bl_ hb); (try clear hb); (try clear hb2); (try clear hk); (try clear hi); obtain ⟨hcz56_0, hcz56_1, hcz56_2, hcz56_3, hcz56_4, hfz56_0, hfz56_1, hfz56_2, hfz56_3, hfz56_4⟩ := bF fE.out; have DK : 0 ≤ (dQ : Int) := dt_; have DL : dQ < (af.length : Int) := dt_; obtain ⟨Pd, A272_4, c272_4, e272, xV, xW, xX, xY, tq, Ab, Ac⟩ := eX bV.out dQ DK DL; obtain rfl : GG = Pd := (by injection e272); replace xV := hc_ HB xV; replace xW := hc_ HB xW; replace xX := hc_ HB xX; replace xY := hc_ HB xY; replace tq := hc_ HB tq; have V4 := aa.mk Ac; have V5 := aa.mk Ab; clear Ac Ab; replace DK := eq_true DK; replace DL := eq_true DL; have p273 : 0 ≤ (dQ : Int) := dt_; have q273 : dQ < (af.length : Int) := dt_; obtain ⟨ad273, A273_4, c273_4, e273, EM, EN, EO, EP, Ad, IV, IW⟩ := eX bV.out dQ p273 q273; obtain rfl : GG = ad273 := (by injection e273); replace EM := hc_ HB EM; replace EN := hc_ HB EN; replace EO := hc_ HB EO; replace EP := hc_ HB EP; replace Ad := hc_ HB Ad; have HR273_4 := aa.mk IW; have HC273_4 := aa.mk IV; clear IW IV; replace p273 := eq_true p273; replace q273 := eq_true q273; have ea_ := Option.some.inj (tq.symm.trans Ad); injection ea_ with ea_ en_ ec_; subst ea_; subst ec_; clear en_))
                   go_ret; exact ⟨re_, bl_⟩
                  ·rw [if_neg c53] at H; have c53b0 : (((ag af dQ).f0) == 4) = false := beq_eq_false_iff_ne.mpr c53; have c53b1 : (((ag af dQ).f0) != 4) = true := bne_iff_ne.mpr c53; have H' := aa.mk H; clear H; obtain ⟨LZ, L6, L8, L9, Ma, Mc, Md, Me, Mf, Mg⟩ := bF fE.out; have yP : 0 ≤ (dQ : Int) := dt_; have yQ : dQ < (af.length : Int) := dt_; obtain ⟨GG, F8, F9, e270, rq, ru, ry, rz, rA, sW, sZ⟩ := eX bV.out dQ yP yQ; cases e270; replace rq := hc_ HB rq; replace ru := hc_ HB ru; replace ry := hc_ HB ry; replace rz := hc_ HB rz; replace rA := hc_ HB rA; have Cm := aa.mk sZ; have Cn := aa.mk sW; clear sZ sW; replace yP := eq_true yP; replace yQ := eq_true yQ; go_wp2_with (first | ((with_reducible refine aN (f := 46) rfl ?_); refine bJ (some 88) rfl rfl Tryd.func46 (by kernel_rfl) rfl #[.agg #[.int .i64 ((ag af dQ).f0), .int .i64 ((ag af dQ).f1), .int .i64 ((ag af dQ).f2), .int .i64 ((ag af dQ).f3), .slice F8 ((ag af dQ).f4).length F9]] rfl mp_ ?_; (with_reducible refine (ih k4 (by have := HJ1.out; have := HJ6.out; have := HJ39.out; have := HK4.out; omega) ((ag af dQ).f0) ((ag af dQ).f1) ((ag af dQ).f2) ((ag af dQ).f3) _ _ ((ag af dQ).f4) AY _ ?aQ ?aT A47.out).mono ?_); (case aQ => exact cb_ (Kd.bA Cm.out HB.out)); (case aT => exact Cn.out); rintro e w58 ⟨rfl, hb⟩; refine ⟨_, rfl, ?_⟩; replace fE := kb_ fE hb; replace HB := aa.mk (au bl_ hb); (try clear hb); (try clear hb2); (try clear hk); (try clear hi); obtain ⟨Ia, Ib, Mh, Mi, Mj, Ic, Ie, Mk, Ml, Mm⟩ := bF fE.out; have DK : 0 ≤ (dQ : Int) := dt_; have DL : dQ < (af.length : Int) := dt_; obtain ⟨Pd, A272_4, c272_4, e272, xV, xW, xX, xY, tq, Ab, Ac⟩ := eX bV.out dQ DK DL; obtain rfl : GG = Pd := (by injection e272); replace xV := hc_ HB xV; replace xW := hc_ HB xW; replace xX := hc_ HB xX; replace xY := hc_ HB xY; replace tq := hc_ HB tq; have V4 := aa.mk Ac; have V5 := aa.mk Ab; clear Ac Ab; replace DK := eq_true DK; replace DL := eq_true DL; have p273 : 0 ≤ (dQ : Int) := dt_; have q273 : dQ < (af.length : Int) := dt_; obtain ⟨ad273, A273_4, c273_4, e273, EM, EN, EO, EP, Ad, IV, IW⟩ := eX bV.out dQ p273 q273; obtain rfl : GG = ad273 := (by injection e273); replace EM := hc_ HB EM; replace EN := hc_ HB EN; replace EO := hc_ HB EO; replace EP := hc_ HB EP; replace Ad := hc_ HB Ad; have HR273_4 := aa.mk IW; have HC273_4 := aa.mk IV; clear IW IV; replace p273 := eq_true p273; replace q273 := eq_true q273; have ea_ := Option.some.inj (tq.symm.trans Ad); injection ea_ with ea_ en_ ec_; subst ea_; subst ec_; clear en_))
                   go_roundg k4
                   case measure => have := HJ1.out; have := HJ6.out; have := HJ39.out; have := HK4.out; omega
                   case rel => exact ⟨(wrap64 (dQ + 1)), rs_, H', ⟨by have := HJ1.out; have := HJ6.out; have := HJ39.out; have := HK4.out; omega⟩, ⟨bk_⟩, ⟨bl_⟩⟩
                ·rw [if_neg c48] at H; have c48b0 : (AY == 0) = false := beq_eq_false_iff_ne.mpr c48; have c48b1 : (AY != 0) = true := bne_iff_ne.mpr c48; obtain rfl := Option.some.inj H; obtain ⟨hcz60_0, hcz60_1, hcz60_2, hcz60_3, hcz60_4, hfz60_0, hfz60_1, hfz60_2, hfz60_3, hfz60_4⟩ := bF fE.out; have yP : 0 ≤ (dQ : Int) := dt_; have yQ : dQ < (af.length : Int) := dt_; obtain ⟨GG, F8, F9, e270, rq, ru, ry, rz, rA, sW, sZ⟩ := eX bV.out dQ yP yQ; cases e270; replace rq := hc_ HB rq; replace ru := hc_ HB ru; replace ry := hc_ HB ry; replace rz := hc_ HB rz; replace rA := hc_ HB rA; have Cm := aa.mk sZ; have Cn := aa.mk sW; clear sZ sW; replace yP := eq_true yP; replace yQ := eq_true yQ; go_wp2_with (first | ((with_reducible refine aN (f := 46) rfl ?_); refine bJ (some 88) rfl rfl Tryd.func46 (by kernel_rfl) rfl #[.agg #[.int .i64 ((ag af dQ).f0), .int .i64 ((ag af dQ).f1), .int .i64 ((ag af dQ).f2), .int .i64 ((ag af dQ).f3), .slice F8 ((ag af dQ).f4).length F9]] rfl mp_ ?_; (with_reducible refine (ih k4 (by have := HJ1.out; have := HJ6.out; have := HJ39.out; have := HK4.out; omega) ((ag af dQ).f0) ((ag af dQ).f1) ((ag af dQ).f2) ((ag af dQ).f3) _ _ ((ag af dQ).f4) AY _ ?aQ ?aT A47.out).mono ?_); (case aQ => exact cb_ (Kd.bA Cm.out HB.out)); (case aT => exact Cn.out); rintro e w61 ⟨rfl, hb⟩; refine ⟨_, rfl, ?_⟩; replace fE := kb_ fE hb; replace HB := aa.mk (au bl_ hb); (try clear hb); (try clear hb2); (try clear hk); (try clear hi)))
                 go_ret; exact ⟨re_, bl_⟩
               ·rw [if_neg c46] at H; exact absurd H (by simp)
              ·rw [if_neg c45] at H; have c45b0 : decide (dQ < (af.length : Int)) = false := decide_eq_false c45; clear c45; obtain rfl := Option.some.inj H; obtain ⟨BC, BD, Rl, Rm, Rn, BF, BG, Ro, Rp, Rq⟩ := bF fE.out; go_wp2; go_ret; exact ⟨re_, bl_⟩
        ·rw [if_neg c39] at H; have DX : (ai == 5) = false := beq_eq_false_iff_ne.mpr c39; have Ju : (ai != 5) = true := bne_iff_ne.mpr c39; by_cases c63 : ai = 6
         ·rw [if_pos c63] at H; have OI : (ai == 6) = true := beq_iff_eq.mpr c63; have OJ : (ai != 6) = false := bne_eq_false_iff_eq.mpr c63; clear c63; have HC64 := aa.mk H; clear H; go_upto_region 22 with (fail)
          go_cut [117] (fun v117 wc => ∃ (kq : Nat) (MC : Bool), v117 = .bool MC ∧ aa (av.j4 kq MC ai az aA ay af = some r) ∧ aa (kq ≤ kj6) ∧ aa (wc.heap[Mr]? = some (.cells #[.int .i64 ai, .int .i64 az, .int .i64 aA, .int .i64 ay, (.slice bq af.length bf)] 24 (0, 0))) ∧ aa (Below w.heap.size w wc))
          case first =>
           have H := HC64.out; clear HC64; by_cases c65 : ay < 1
           ·rw [if_pos c65] at H; have ME : decide (ay < 1) = true := decide_eq_true c65; clear c65; (first | rw [ME] | (simp only [eT, eY]; rw [ME]) | skip)
            have H' := aa.mk H; clear H; obtain ⟨Ig, Ih, Rt, Ru, Rv, Ii, Ij, Rw, Rx, Ry⟩ := bF fE.out; go_wp2; go_meet
            case rel => exact ⟨_, (true), rs_, H', ⟨by have := HJ1.out; have := HJ6.out; first | omega | exact Nat.le_refl _⟩, ⟨bk_⟩, ⟨bl_⟩⟩
           ·rw [if_neg c65] at H; have ME : decide (ay < 1) = false := decide_eq_false c65; clear c65; (first | rw [ME] | (simp only [eT, eY]; rw [ME]) | skip)
            have H' := aa.mk H; clear H; obtain ⟨V6, V7, V8, V9, Wd, We, Wh, Wi, Wj, Wl⟩ := bF fE.out; go_wp2; go_meet
            case rel => exact ⟨_, (decide (ay > 4)), rs_, H', ⟨by have := HJ1.out; have := HJ6.out; first | omega | exact Nat.le_refl _⟩, ⟨bk_⟩, ⟨bl_⟩⟩
          case rest =>
           clear HC64; (try clear c1); (try clear c2); (try clear p2); (try clear q2); (try clear hx2); (try clear c3); (try clear c4); (try clear c5); (try clear p8); (try clear c6); (try clear p6); (try clear c8); (try clear tV); (try clear BJ); (try clear c9); (try clear vQ); (try clear F3); (try clear c10); (try clear oI); (try clear c12); (try clear oV); (try clear za); (try clear c13); (try clear oW); (try clear c17); (try clear CY); (try clear O7); (try clear c18); (try clear O8); (try clear O9); (try clear c19); (try clear AZ); (try clear D6); (try clear c20); (try clear xU); (try clear c23); (try clear rX); (try clear AJ); (try clear c24); (try clear tX); (try clear c27); (try clear p27); (try clear q27); (try clear hx27); (try clear c30); (try clear c31); (try clear D7); (try clear JC); (try clear c32); (try clear c32b0); (try clear c34); (try clear JD); (try clear c36); (try clear Ba); (try clear c39); (try clear DX); (try clear Ju); (try clear c41); (try clear GD); (try clear c41b1); (try clear c44); (try clear c45); (try clear c45b0); (try clear c46); (try clear c46b0); (try clear c48); (try clear c48b0); (try clear c48b1); (try clear c49); (try clear OZ); (try clear O0); (try clear c53); (try clear c53b0); (try clear c53b1); (try clear c63); (try clear OI); (try clear OJ); (try clear p64); (try clear c65); (try clear ME); (try clear qp qw wT wU wV qx qy wW wX wY); (try clear kg ko kr ku kv ky kz kC kD kE); (try clear xP xQ Cf Cg Ch xR xS Ci Cj Ck); (try clear pO pQ qF qG qH pR pU qI qJ qK); (try clear qQ qR qU qV qW qX qY qZ q9 rf); (try clear su sw uU uV uW sD sF uX uY uZ); (try clear zL zM zN zO zP zQ zR zS zT zU); (try clear EC ED EE EF EG EH EI EJ EK EL); (try clear wZ xc xe xg xh xk xm xn xq xu); (try clear l6 l7 mJ mK mM l8 l9 mO mP mQ); (try clear nE nG uE uF uG nH nI uH uI uJ); (try clear Em En Ll Lm Lp Eo Ep Lr Ls Lt); (try clear uK uL uM uN uO uP uQ uR uS uT); (try clear xE xG xH xI xJ xK xL xM xN xO); (try clear Rz RA RB RD RF RG RH RI RJ RL); (try clear zY zZ Ms Mt Mv z8 Aa Mw Mx MB); (try clear RN RO RP RQ RS RU RV RX RY RZ)
           (try clear vU vV vW vX vY vZ wh wm wo wu); (try clear IM IP VV VW VX IQ IU VY VZ V3); (try clear LD LF Re Rf Rh LG LH Ri Rj Rk); (try clear LJ LK LM LP LQ LU LV LW LX LY); (try clear hcz56_0 hcz56_1 hcz56_2 hcz56_3 hcz56_4 hfz56_0 hfz56_1 hfz56_2 hfz56_3 hfz56_4); (try clear LZ L6 L8 L9 Ma Mc Md Me Mf Mg); (try clear Ia Ib Mh Mi Mj Ic Ie Mk Ml Mm); (try clear hcz60_0 hcz60_1 hcz60_2 hcz60_3 hcz60_4 hfz60_0 hfz60_1 hfz60_2 hfz60_3 hfz60_4); (try clear BC BD Rl Rm Rn BF BG Ro Rp Rq); (try clear Ig Ih Rt Ru Rv Ii Ij Rw Rx Ry); (try clear V6 V7 V8 V9 Wd We Wh Wi Wj Wl); (try clear rq); (try clear ru); (try clear ry); (try clear rz); (try clear rA); (try clear xV); (try clear xW); (try clear xX); (try clear xY); (try clear tq); (try clear EM); (try clear EN); (try clear EO); (try clear EP); (try clear Ad); (try clear p2); (try clear yP); (try clear DK); (try clear p273); (try clear yQ); (try clear DL); (try clear q273); obtain ⟨kq, MC, rfl, HA, HJ63, fE, HB⟩ := hcut; cases kq with
           | zero => exact absurd HA.out (by simp [av.j4])
           | succ kj63 =>
            have H := HA.out; clear HA; simp only [av.j4] at H; by_cases c68 : MC = true
            ·subst c68; have H1 : (some 1) = some r := by rw [if_pos rfl] at H; exact H
             clear H; have H := H1; clear H1; obtain rfl := Option.some.inj H; go_wp2; go_ret; exact ⟨re_, bl_⟩
            ·replace c68 := Bool.eq_false_iff.mpr c68; subst c68; have H1 : (if (af.length : Int) = 1 then (if 0 < (af.length : Int) then ((av.f kj63 ((ag af 0).f0) ((ag af 0).f1) ((ag af 0).f2) ((ag af 0).f3) ((ag af 0).f4)).bind fun wy => (if wy = 0 then (if ((ag af 0).f0) = 1 then (some 0) else (if ((ag af 0).f0) = 2 then (some 0) else (some 8))) else (some wy))) else (none)) else (some 2)) = some r := by rw [if_neg (show ¬ (false = true) by decide)] at H; exact H
             clear H; have H := H1; clear H1; by_cases c69 : (af.length : Int) = 1
             ·rw [if_pos c69] at H; have Gz : ((af.length : Int) == 1) = true := beq_iff_eq.mpr c69; have c69b1 : ((af.length : Int) != 1) = false := bne_eq_false_iff_eq.mpr c69; clear c69; by_cases c70 : 0 < (af.length : Int)
              ·rw [if_pos c70] at H; have c70b0 : decide (0 < (af.length : Int)) = true := decide_eq_true c70; have c70b1 : decide (0 < af.length) = true := decide_eq_true (by omega); clear c70; replace H := Option.bind_eq_some_iff.mp H; obtain ⟨wy, A710, H⟩ := H; replace H : (if wy = 0 then (if ((ag af 0).f0) = 1 then (some 0) else (if ((ag af 0).f0) = 2 then (some 0) else (some 8))) else (some wy)) = some r := H; have A71 := aa.mk A710; clear A710; by_cases c72 : wy = 0
               ·rw [if_pos c72] at H; have c72b0 : (wy == 0) = true := beq_iff_eq.mpr c72; have c72b1 : (wy != 0) = false := bne_eq_false_iff_eq.mpr c72; clear c72; by_cases c73 : ((ag af 0).f0) = 1
                ·rw [if_pos c73] at H; have c73b0 : (((ag af 0).f0) == 1) = true := beq_iff_eq.mpr c73; have c73b1 : (((ag af 0).f0) != 1) = false := bne_eq_false_iff_eq.mpr c73; clear c73; obtain rfl := Option.some.inj H; obtain ⟨hcz74_0, hcz74_1, hcz74_2, hcz74_3, hcz74_4, hfz74_0, hfz74_1, hfz74_2, hfz74_3, hfz74_4⟩ := bF fE.out; have zm : 0 ≤ (0 : Int) := (by omega); have zn : 0 < (af.length : Int) := dt_; obtain ⟨GH, Ga, Gb, e274, nO, nP, nQ, nR, nS, tu, tC⟩ := eX bV.out 0 zm zn; cases e274; have qi274 : (0 < af.length) = True := eq_true (by omega); (try simp only [z0_, Nat.zero_mul, Addr.add_zero'] at nO nP nQ nR nS)
                 replace nO := hc_ HB nO; replace nP := hc_ HB nP; replace nQ := hc_ HB nQ; replace nR := hc_ HB nR; replace nS := hc_ HB nS; have Co := aa.mk tC; have Cq := aa.mk tu; clear tC tu; replace zm := eq_true zm; replace zn := eq_true zn; go_wp2_with (first | ((with_reducible refine aN (f := 46) rfl ?_); refine bJ (some 126) rfl rfl Tryd.func46 (by kernel_rfl) rfl #[.agg #[.int .i64 ((ag af 0).f0), .int .i64 ((ag af 0).f1), .int .i64 ((ag af 0).f2), .int .i64 ((ag af 0).f3), .slice Ga ((ag af 0).f4).length Gb]] rfl mp_ ?_; (with_reducible refine (ih kj63 (by have := HJ1.out; have := HJ6.out; have := HJ63.out; omega) ((ag af 0).f0) ((ag af 0).f1) ((ag af 0).f2) ((ag af 0).f3) _ _ ((ag af 0).f4) wy _ ?aQ ?aT A71.out).mono ?_); (case aQ => exact cb_ (Kd.bA Co.out HB.out)); (case aT => exact Cq.out); rintro e w75 ⟨rfl, hb⟩; refine ⟨_, rfl, ?_⟩; replace fE := kb_ fE hb; replace HB := aa.mk (au bl_ hb); (try clear hb); (try clear hb2); (try clear hk); (try clear hi); obtain ⟨hcz76_0, hcz76_1, hcz76_2, hcz76_3, hcz76_4, hfz76_0, hfz76_1, hfz76_2, hfz76_3, hfz76_4⟩ := bF fE.out; have Gc : 0 ≤ (0 : Int) := (by omega); have Gd : 0 < (af.length : Int) := dt_; obtain ⟨Pe, A276_4, c276_4, e276, tF, tH, tJ, tK, pV, Ae, Af⟩ := eX bV.out 0 Gc Gd; obtain rfl : GH = Pe := (by injection e276); have qi276 : (0 < af.length) = True := eq_true (by omega); (try simp only [z0_, Nat.zero_mul, Addr.add_zero'] at tF); (try simp only [z0_, Nat.zero_mul, Addr.add_zero'] at tH); (try simp only [z0_, Nat.zero_mul, Addr.add_zero'] at tJ); (try simp only [z0_, Nat.zero_mul, Addr.add_zero'] at tK); (try simp only [z0_, Nat.zero_mul, Addr.add_zero'] at pV); replace tF := hc_ HB tF; replace tH := hc_ HB tH; replace tJ := hc_ HB tJ; replace tK := hc_ HB tK; replace pV := hc_ HB pV; have Wm := aa.mk Af; have Wn := aa.mk Ae; clear Af Ae; replace Gc := eq_true Gc; replace Gd := eq_true Gd))
                 go_ret; exact ⟨re_, bl_⟩
                ·rw [if_neg c73] at H; have c73b0 : (((ag af 0).f0) == 1) = false := beq_eq_false_iff_ne.mpr c73; have c73b1 : (((ag af 0).f0) != 1) = true := bne_iff_ne.mpr c73; by_cases c77 : ((ag af 0).f0) = 2
                 ·rw [if_pos c77] at H; have c77b0 : (((ag af 0).f0) == 2) = true := beq_iff_eq.mpr c77; have c77b1 : (((ag af 0).f0) != 2) = false := bne_eq_false_iff_eq.mpr c77; clear c77; obtain rfl := Option.some.inj H; obtain ⟨Vs, Vu, hcz78_2, hcz78_3, hcz78_4, Vw, Vx, hfz78_2, hfz78_3, hfz78_4⟩ := bF fE.out; have zm : 0 ≤ (0 : Int) := (by omega); have zn : 0 < (af.length : Int) := dt_; obtain ⟨GH, Ga, Gb, e274, nO, nP, nQ, nR, nS, tu, tC⟩ := eX bV.out 0 zm zn; cases e274; have qi274 : (0 < af.length) = True := eq_true (by omega); (try simp only [z0_, Nat.zero_mul, Addr.add_zero'] at nO nP nQ nR nS)
                  replace nO := hc_ HB nO; replace nP := hc_ HB nP; replace nQ := hc_ HB nQ; replace nR := hc_ HB nR; replace nS := hc_ HB nS; have Co := aa.mk tC; have Cq := aa.mk tu; clear tC tu; replace zm := eq_true zm; replace zn := eq_true zn; go_wp2_with (first | ((with_reducible refine aN (f := 46) rfl ?_); refine bJ (some 126) rfl rfl Tryd.func46 (by kernel_rfl) rfl #[.agg #[.int .i64 ((ag af 0).f0), .int .i64 ((ag af 0).f1), .int .i64 ((ag af 0).f2), .int .i64 ((ag af 0).f3), .slice Ga ((ag af 0).f4).length Gb]] rfl mp_ ?_; (with_reducible refine (ih kj63 (by have := HJ1.out; have := HJ6.out; have := HJ63.out; omega) ((ag af 0).f0) ((ag af 0).f1) ((ag af 0).f2) ((ag af 0).f3) _ _ ((ag af 0).f4) wy _ ?aQ ?aT A71.out).mono ?_); (case aQ => exact cb_ (Kd.bA Co.out HB.out)); (case aT => exact Cq.out); rintro e w79 ⟨rfl, hb⟩; refine ⟨_, rfl, ?_⟩; replace fE := kb_ fE hb; replace HB := aa.mk (au bl_ hb); (try clear hb); (try clear hb2); (try clear hk); (try clear hi); obtain ⟨Vy, Vz, hcz80_2, hcz80_3, hcz80_4, VA, VB, hfz80_2, hfz80_3, hfz80_4⟩ := bF fE.out; have Gc : 0 ≤ (0 : Int) := (by omega); have Gd : 0 < (af.length : Int) := dt_; obtain ⟨Pe, A276_4, c276_4, e276, tF, tH, tJ, tK, pV, Ae, Af⟩ := eX bV.out 0 Gc Gd; obtain rfl : GH = Pe := (by injection e276); have qi276 : (0 < af.length) = True := eq_true (by omega); (try simp only [z0_, Nat.zero_mul, Addr.add_zero'] at tF); (try simp only [z0_, Nat.zero_mul, Addr.add_zero'] at tH); (try simp only [z0_, Nat.zero_mul, Addr.add_zero'] at tJ); (try simp only [z0_, Nat.zero_mul, Addr.add_zero'] at tK); (try simp only [z0_, Nat.zero_mul, Addr.add_zero'] at pV); replace tF := hc_ HB tF; replace tH := hc_ HB tH; replace tJ := hc_ HB tJ; replace tK := hc_ HB tK; replace pV := hc_ HB pV; have Wm := aa.mk Af; have Wn := aa.mk Ae; clear Af Ae; replace Gc := eq_true Gc; replace Gd := eq_true Gd; have p277 : 0 ≤ (0 : Int) := (by omega); have q277 : 0 < (af.length : Int) := dt_; obtain ⟨ad277, A277_4, c277_4, e277, Cr, Cs, Ct, Cu, xZ, IX, IY⟩ := eX bV.out 0 p277 q277; obtain rfl : GH = ad277 := (by injection e277); have qi277 : (0 < af.length) = True := eq_true (by omega); (try simp only [z0_, Nat.zero_mul, Addr.add_zero'] at Cr); (try simp only [z0_, Nat.zero_mul, Addr.add_zero'] at Cs); (try simp only [z0_, Nat.zero_mul, Addr.add_zero'] at Ct); (try simp only [z0_, Nat.zero_mul, Addr.add_zero'] at Cu); (try simp only [z0_, Nat.zero_mul, Addr.add_zero'] at xZ); replace Cr := hc_ HB Cr; replace Cs := hc_ HB Cs; replace Ct := hc_ HB Ct; replace Cu := hc_ HB Cu; replace xZ := hc_ HB xZ; have HR277_4 := aa.mk IY; have HC277_4 := aa.mk IX; clear IY IX; replace p277 := eq_true p277; replace q277 := eq_true q277; have ea_ := Option.some.inj (pV.symm.trans xZ); injection ea_ with ea_ en_ ec_; subst ea_; subst ec_; clear en_))
                  go_ret; exact ⟨re_, bl_⟩
                 ·rw [if_neg c77] at H; have c77b0 : (((ag af 0).f0) == 2) = false := beq_eq_false_iff_ne.mpr c77; have c77b1 : (((ag af 0).f0) != 2) = true := bne_iff_ne.mpr c77; obtain rfl := Option.some.inj H; obtain ⟨hcz81_0, hcz81_1, hcz81_2, hcz81_3, hcz81_4, hfz81_0, hfz81_1, hfz81_2, hfz81_3, hfz81_4⟩ := bF fE.out; have zm : 0 ≤ (0 : Int) := (by omega); have zn : 0 < (af.length : Int) := dt_; obtain ⟨GH, Ga, Gb, e274, nO, nP, nQ, nR, nS, tu, tC⟩ := eX bV.out 0 zm zn; cases e274; have qi274 : (0 < af.length) = True := eq_true (by omega); (try simp only [z0_, Nat.zero_mul, Addr.add_zero'] at nO nP nQ nR nS)
                  replace nO := hc_ HB nO; replace nP := hc_ HB nP; replace nQ := hc_ HB nQ; replace nR := hc_ HB nR; replace nS := hc_ HB nS; have Co := aa.mk tC; have Cq := aa.mk tu; clear tC tu; replace zm := eq_true zm; replace zn := eq_true zn; go_wp2_with (first | ((with_reducible refine aN (f := 46) rfl ?_); refine bJ (some 126) rfl rfl Tryd.func46 (by kernel_rfl) rfl #[.agg #[.int .i64 ((ag af 0).f0), .int .i64 ((ag af 0).f1), .int .i64 ((ag af 0).f2), .int .i64 ((ag af 0).f3), .slice Ga ((ag af 0).f4).length Gb]] rfl mp_ ?_; (with_reducible refine (ih kj63 (by have := HJ1.out; have := HJ6.out; have := HJ63.out; omega) ((ag af 0).f0) ((ag af 0).f1) ((ag af 0).f2) ((ag af 0).f3) _ _ ((ag af 0).f4) wy _ ?aQ ?aT A71.out).mono ?_); (case aQ => exact cb_ (Kd.bA Co.out HB.out)); (case aT => exact Cq.out); rintro e w82 ⟨rfl, hb⟩; refine ⟨_, rfl, ?_⟩; replace fE := kb_ fE hb; replace HB := aa.mk (au bl_ hb); (try clear hb); (try clear hb2); (try clear hk); (try clear hi); obtain ⟨hcz83_0, hcz83_1, hcz83_2, hcz83_3, hcz83_4, hfz83_0, hfz83_1, hfz83_2, hfz83_3, hfz83_4⟩ := bF fE.out; have Gc : 0 ≤ (0 : Int) := (by omega); have Gd : 0 < (af.length : Int) := dt_; obtain ⟨Pe, A276_4, c276_4, e276, tF, tH, tJ, tK, pV, Ae, Af⟩ := eX bV.out 0 Gc Gd; obtain rfl : GH = Pe := (by injection e276); have qi276 : (0 < af.length) = True := eq_true (by omega); (try simp only [z0_, Nat.zero_mul, Addr.add_zero'] at tF); (try simp only [z0_, Nat.zero_mul, Addr.add_zero'] at tH); (try simp only [z0_, Nat.zero_mul, Addr.add_zero'] at tJ); (try simp only [z0_, Nat.zero_mul, Addr.add_zero'] at tK); (try simp only [z0_, Nat.zero_mul, Addr.add_zero'] at pV); replace tF := hc_ HB tF; replace tH := hc_ HB tH; replace tJ := hc_ HB tJ; replace tK := hc_ HB tK; replace pV := hc_ HB pV; have Wm := aa.mk Af; have Wn := aa.mk Ae; clear Af Ae; replace Gc := eq_true Gc; replace Gd := eq_true Gd; have p277 : 0 ≤ (0 : Int) := (by omega); have q277 : 0 < (af.length : Int) := dt_; obtain ⟨ad277, A277_4, c277_4, e277, Cr, Cs, Ct, Cu, xZ, IX, IY⟩ := eX bV.out 0 p277 q277; obtain rfl : GH = ad277 := (by injection e277); have qi277 : (0 < af.length) = True := eq_true (by omega); (try simp only [z0_, Nat.zero_mul, Addr.add_zero'] at Cr); (try simp only [z0_, Nat.zero_mul, Addr.add_zero'] at Cs); (try simp only [z0_, Nat.zero_mul, Addr.add_zero'] at Ct); (try simp only [z0_, Nat.zero_mul, Addr.add_zero'] at Cu); (try simp only [z0_, Nat.zero_mul, Addr.add_zero'] at xZ); replace Cr := hc_ HB Cr; replace Cs := hc_ HB Cs; replace Ct := hc_ HB Ct; replace Cu := hc_ HB Cu; replace xZ := hc_ HB xZ; have HR277_4 := aa.mk IY; have HC277_4 := aa.mk IX; clear IY IX; replace p277 := eq_true p277; replace q277 := eq_true q277; have ea_ := Option.some.inj (pV.symm.trans xZ); injection ea_ with ea_ en_ ec_; subst ea_; subst ec_; clear en_))
                  go_ret; exact ⟨re_, bl_⟩
               ·rw [if_neg c72] at H; have c72b0 : (wy == 0) = false := beq_eq_false_iff_ne.mpr c72; have c72b1 : (wy != 0) = true := bne_iff_ne.mpr c72; obtain rfl := Option.some.inj H; obtain ⟨hcz84_0, hcz84_1, hcz84_2, hcz84_3, hcz84_4, hfz84_0, hfz84_1, hfz84_2, hfz84_3, hfz84_4⟩ := bF fE.out; have zm : 0 ≤ (0 : Int) := (by omega); have zn : 0 < (af.length : Int) := dt_; obtain ⟨GH, Ga, Gb, e274, nO, nP, nQ, nR, nS, tu, tC⟩ := eX bV.out 0 zm zn; cases e274; have qi274 : (0 < af.length) = True := eq_true (by omega); (try simp only [z0_, Nat.zero_mul, Addr.add_zero'] at nO nP nQ nR nS)
                replace nO := hc_ HB nO; replace nP := hc_ HB nP; replace nQ := hc_ HB nQ; replace nR := hc_ HB nR; replace nS := hc_ HB nS; have Co := aa.mk tC; have Cq := aa.mk tu; clear tC tu; replace zm := eq_true zm; replace zn := eq_true zn; go_wp2_with (first | ((with_reducible refine aN (f := 46) rfl ?_); refine bJ (some 126) rfl rfl Tryd.func46 (by kernel_rfl) rfl #[.agg #[.int .i64 ((ag af 0).f0), .int .i64 ((ag af 0).f1), .int .i64 ((ag af 0).f2), .int .i64 ((ag af 0).f3), .slice Ga ((ag af 0).f4).length Gb]] rfl mp_ ?_; (with_reducible refine (ih kj63 (by have := HJ1.out; have := HJ6.out; have := HJ63.out; omega) ((ag af 0).f0) ((ag af 0).f1) ((ag af 0).f2) ((ag af 0).f3) _ _ ((ag af 0).f4) wy _ ?aQ ?aT A71.out).mono ?_); (case aQ => exact cb_ (Kd.bA Co.out HB.out)); (case aT => exact Cq.out); rintro e w85 ⟨rfl, hb⟩; refine ⟨_, rfl, ?_⟩; replace fE := kb_ fE hb; replace HB := aa.mk (au bl_ hb); (try clear hb); (try clear hb2); (try clear hk); (try clear hi)))
                go_ret; exact ⟨re_, bl_⟩
              ·rw [if_neg c70] at H; exact absurd H (by simp)
             ·rw [if_neg c69] at H; have Gz : ((af.length : Int) == 1) = false := beq_eq_false_iff_ne.mpr c69; have c69b1 : ((af.length : Int) != 1) = true := bne_iff_ne.mpr c69; obtain rfl := Option.some.inj H; obtain ⟨hcz86_0, hcz86_1, hcz86_2, hcz86_3, hcz86_4, hfz86_0, hfz86_1, hfz86_2, hfz86_3, hfz86_4⟩ := bF fE.out; go_wp2; go_ret; exact ⟨re_, bl_⟩
         ·rw [if_neg c63] at H; have OI : (ai == 6) = false := beq_eq_false_iff_ne.mpr c63; have OJ : (ai != 6) = true := bne_iff_ne.mpr c63; obtain rfl := Option.some.inj H; go_wp2; go_ret; exact ⟨re_, bl_⟩

end Go.Proofs.YtggelekooacmnaaDoor.Q
namespace Go.Proofs.YtggelekooacmnaaDoor.Q
open Go.RowKit Go.Proofs.YtggelekooacmnaaDoorW.bg Go.Proofs.YtggelekooacmnaaDoorW.bP Go.Proofs.YtggelekooacmnaaDoorW.bX
attribute [local go_sem] ek eu fw fA dH dI eB eD   -- for this text's walks alone
set_option linter.unusedVariables false
set_option linter.unusedSimpArgs false

/-! ### aJ: function 47 -/
mutual
def aJ.j0 : Nat → Int → Bool → Int → Int → Int → Int → List (S24) → Option ((List (S41)))
 | 0, _, _, _, _, _, _, _ => none
 | k + 1, x8, x21, Cv, ER, ES, Ag, lh => if x21 = true then (some (([(⟨Cv, 0, 0⟩ : S41)] : List (S41)))) else (if x8 = 6 then (aJ.l0 k (([(⟨2, 0, Ag⟩ : S41)] : List (S41))) 0 Cv ER ES Ag lh) else (aJ.l1 k ([] : List (S41)) 0 Cv ER ES Ag lh))
def aJ.l0 : Nat → List (S41) → Int → Int → Int → Int → Int → List (S24) → Option ((List (S41)))
 | 0, _, _, _, _, _, _, _ => none
 | k + 1, x3, x4, Cv, ER, ES, Ag, lh => if x4 < Ag then (if 0 < (lh.length : Int) then ((aJ.f k ((ag lh 0).f0) ((ag lh 0).f1) ((ag lh 0).f2) ((ag lh 0).f3) ((ag lh 0).f4)).bind fun t292 => (if x3.length + t292.length < 5864062014805 then (aJ.l0 k (x3 ++ t292) (wrap64 (x4 + 1)) Cv ER ES Ag lh) else (none))) else (none)) else (some x3)
def aJ.l1 : Nat → List (S41) → Int → Int → Int → Int → Int → List (S24) → Option ((List (S41)))
 | 0, _, _, _, _, _, _, _ => none
 | k + 1, x5, x6, Cv, ER, ES, Ag, lh => if x6 < (lh.length : Int) then (if 0 ≤ x6 then ((aJ.f k ((ag lh x6).f0) ((ag lh x6).f1) ((ag lh x6).f2) ((ag lh x6).f3) ((ag lh x6).f4)).bind fun t299 => (if x5.length + t299.length < 5864062014805 then (aJ.l1 k (x5 ++ t299) (wrap64 (x6 + 1)) Cv ER ES Ag lh) else (none))) else (none)) else (some x5)
def aJ.f : Nat → Int → Int → Int → Int → List (S24) → Option ((List (S41)))
 | 0, _, _, _, _, _ => none
 | k + 1, ai, az, aA, ay, af => if ai = 1 then (some (([(⟨1, 0, 1⟩ : S41)] : List (S41)))) else (if ai = 2 then (some (([(⟨2, az, aA⟩ : S41)] : List (S41)))) else (if ai = 3 then (aJ.j0 k ai (ai == 3) ai az aA ay af) else (aJ.j0 k ai (ai == 4) ai az aA ay af)))
end
theorem aJ.fH : ∀ k, (∀ y0 y1 y2 y3 y4, LeO (aJ.f k y0 y1 y2 y3 y4) (aJ.f (k + 1) y0 y1 y2 y3 y4)) ∧ (∀ y0 y1 y2 y3 y4 y5 y6, LeO (aJ.j0 k y0 y1 y2 y3 y4 y5 y6) (aJ.j0 (k + 1) y0 y1 y2 y3 y4 y5 y6)) ∧ (∀ y0 y1 y2 y3 y4 y5 y6, LeO (aJ.l0 k y0 y1 y2 y3 y4 y5 y6) (aJ.l0 (k + 1) y0 y1 y2 y3 y4 y5 y6)) ∧ (∀ y0 y1 y2 y3 y4 y5 y6, LeO (aJ.l1 k y0 y1 y2 y3 y4 y5 y6) (aJ.l1 (k + 1) y0 y1 y2 y3 y4 y5 y6))
 | 0 => ⟨fun _ _ _ _ _ r h => by simp [aJ.f] at h, fun _ _ _ _ _ _ _ r h => by simp [aJ.j0] at h, fun _ _ _ _ _ _ _ r h => by simp [aJ.l0] at h, fun _ _ _ _ _ _ _ r h => by simp [aJ.l1] at h⟩
 | k + 1 => by
  obtain ⟨ih0, ih1, ih2, ih3⟩ := aJ.fH k; refine ⟨?_, ?_, ?_, ?_⟩
  ·intro y0 y1 y2 y3 y4; unfold aJ.f; repeat' first
   | (with_reducible exact ih0 _ _ _ _ _)
   | (with_reducible exact ih1 _ _ _ _ _ _ _)
   | (with_reducible exact ih2 _ _ _ _ _ _ _)
   | (with_reducible exact ih3 _ _ _ _ _ _ _)
   | (with_reducible exact LeO.refl _)
   | (with_reducible exact LeO.none _)
   | (with_reducible refine LeO.ite ?_ ?_)
   | (with_reducible refine LeO.bind ?_ (fun _ => ?_))
   | exact ih0 _ _ _ _ _
   | exact ih1 _ _ _ _ _ _ _
   | exact ih2 _ _ _ _ _ _ _
   | exact ih3 _ _ _ _ _ _ _
   | exact LeO.none _
   | refine LeO.ite ?_ ?_
   | refine LeO.bind ?_ (fun _ => ?_)
  ·intro y0 y1 y2 y3 y4 y5 y6; unfold aJ.j0; repeat' first
   | (with_reducible exact ih0 _ _ _ _ _)
   | (with_reducible exact ih1 _ _ _ _ _ _ _)
   | (with_reducible exact ih2 _ _ _ _ _ _ _)
   | (with_reducible exact ih3 _ _ _ _ _ _ _)
   | (with_reducible exact LeO.refl _)
   | (with_reducible exact LeO.none _)
   | (with_reducible refine LeO.ite ?_ ?_)
   | (with_reducible refine LeO.bind ?_ (fun _ => ?_))
   | exact ih0 _ _ _ _ _
   | exact ih1 _ _ _ _ _ _ _
   | exact ih2 _ _ _ _ _ _ _
   | exact ih3 _ _ _ _ _ _ _
   | exact LeO.none _
   | refine LeO.ite ?_ ?_
   | refine LeO.bind ?_ (fun _ => ?_)
  ·intro y0 y1 y2 y3 y4 y5 y6; unfold aJ.l0; repeat' first
   | (with_reducible exact ih0 _ _ _ _ _)
   | (with_reducible exact ih1 _ _ _ _ _ _ _)
   | (with_reducible exact ih2 _ _ _ _ _ _ _)
   | (with_reducible exact ih3 _ _ _ _ _ _ _)
   | (with_reducible exact LeO.refl _)
   | (with_reducible exact LeO.none _)
   | (with_reducible refine LeO.ite ?_ ?_)
   | (with_reducible refine LeO.bind ?_ (fun _ => ?_))
   | exact ih0 _ _ _ _ _
   | exact ih1 _ _ _ _ _ _ _
   | exact ih2 _ _ _ _ _ _ _
   | exact ih3 _ _ _ _ _ _ _
   | exact LeO.none _
   | refine LeO.ite ?_ ?_
   | refine LeO.bind ?_ (fun _ => ?_)
  ·intro y0 y1 y2 y3 y4 y5 y6; unfold aJ.l1; repeat' first
   | (with_reducible exact ih0 _ _ _ _ _)
   | (with_reducible exact ih1 _ _ _ _ _ _ _)
   | (with_reducible exact ih2 _ _ _ _ _ _ _)
   | (with_reducible exact ih3 _ _ _ _ _ _ _)
   | (with_reducible exact LeO.refl _)
   | (with_reducible exact LeO.none _)
   | (with_reducible refine LeO.ite ?_ ?_)
   | (with_reducible refine LeO.bind ?_ (fun _ => ?_))
   | exact ih0 _ _ _ _ _
   | exact ih1 _ _ _ _ _ _ _
   | exact ih2 _ _ _ _ _ _ _
   | exact ih3 _ _ _ _ _ _ _
   | exact LeO.none _
   | refine LeO.ite ?_ ?_
   | refine LeO.bind ?_ (fun _ => ?_)
theorem aJ.mono : ∀ a0 a1 a2 a3 a4 k, LeO (aJ.f k a0 a1 a2 a3 a4) (aJ.f (k + 1) a0 a1 a2 a3 a4) := by
 intro a0 a1 a2 a3 a4 k; obtain ⟨ih0, ih1, ih2, ih3⟩ := aJ.fH k; exact ih0 a0 a1 a2 a3 a4
set_option maxHeartbeats 8000000 in
set_option maxRecDepth 100000 in
theorem aJ.calls (k : Nat) : ∀ (ai : Int) (az : Int) (aA : Int) (ay : Int) (bq : Option Addr) (bf : Nat) (af : List (S24)) (r : List (S41)) (w : World) (dX : Kd.C k24 w bq af.length af) (dY : af.length ≤ bf) (h : aJ.f k ai az aA ay af = some r),
  Calls Tryd.prog 47 #[.agg #[.int .i64 ai, .int .i64 az, .int .i64 aA, .int .i64 ay, .slice bq af.length bf]] w fun e w' => ∃ v0_ : Value, e = .returned (v0_) ∧ Kd.R k41 41 w' w.heap.size (fun _ => True) v0_ r ∧ Below w.heap.size w w' := by
 induction k using Nat.strongRecOn with
 | _ k ih =>
 intro ai az aA ay bq bf af r w dX dY h; cases k with
 | zero => exact absurd h (by simp [aJ.f])
 | succ k =>
 simp only [aJ.f] at h; have ou := Tryd.underlying24; have hu41 := Tryd.underlying41; have bV := aa.mk dX; have dz := aa.mk dY; clear dX dY; have HB := aa.mk (Below.refl w.heap.size w); have H : (if ai = 1 then (some (([(⟨1, 0, 1⟩ : S41)] : List (S41)))) else (if ai = 2 then (some (([(⟨2, az, aA⟩ : S41)] : List (S41)))) else (if ai = 3 then (aJ.j0 k ai (ai == 3) ai az aA ay af) else (aJ.j0 k ai (ai == 4) ai az aA ay af)))) = some r := h; clear h; by_cases c2 : ai = 1
 ·rw [if_pos c2] at H; have yL : (ai == 1) = true := beq_iff_eq.mpr c2; have Ay : (ai != 1) = false := bne_eq_false_iff_eq.mpr c2; clear c2; obtain ⟨y279, Pf⟩ : ∃ y_ : List (S41), y_ = (([(⟨1, 0, 1⟩ : S41)] : List (S41))) := ⟨_, rfl⟩; replace H : (some y279) = some r := by first | (rw [Pf]; with_reducible exact H) | (have H2_ := (Option.bind_some _ _).symm.trans H; rw [Pf]; with_reducible exact H2_) | (have H2_ := (Option.bind_some _ _).symm.trans H; with_reducible exact H2_) | with_reducible exact H | (rw [Pf]; exact H) | exact H
  have Ny279 := aa.mk Pf; clear Pf; obtain rfl := Option.some.inj H; go_enter Tryd.func47, Tryd.ntmps47; go_wp2_with (first | ((with_reducible refine aY (N := 1) rfl ?_); refine aZ ?hg (N := 1) ?hd (cs := #[.int .i64 ai, .int .i64 az, .int .i64 aA, .int .i64 ay, .slice bq af.length bf]) (t := 24) ?hr ?_; (case hd => rfl); (case hg => rfl); (case hr => first | (go_simp; done) | (go_simp; rfl)); intro C8 hg w3 aK hb; have jM := aa.mk (aK); have Pg : aa (w.heap.size ≤ C8) := gw_ hg (aG bl_); have GE278 := Pg; replace HB := aa.mk (au bl_ hb); clear hb aK hg; obtain ⟨vU, vV, vW, vX, vY, vZ, wh, wm, wo, wu⟩ := bF jM.out) | ((with_reducible refine aY (N := 12) rfl ?_); refine Kd.qb k41 _ 41 ?hg (N := 12) ?hd (xs := ([(⟨1, 0, 1⟩ : S41)] : List (S41))) (inner := [.int .i64 1, .int .i64 0, .int .i64 1]) (ok := fun _ => True) (okp := fun _ => True) ?hr ?hp (fun _ hk => hk) trivial (Below.refl _ _) (Nat.le_refl _) (by simp) ?_; (case hd => rfl); (case hg => rfl); (case hr => first | (go_simp; done) | (go_simp; rfl)); (case hp => exact (dm.c3 (show Kd.M k41 _ _ _ (⟨1, 0, 1⟩ : S41) [.int .i64 1, .int .i64 0, .int .i64 1] from (KV _ _ _ (⟨1, 0, 1⟩ : S41) )) (dm.none _ _))); intro v280 w5 ho6 hb hg_ iL; clear hg_ iL; (first | rw [← Ny279.out] at ho6 | (simp only [Int.reduceToNat] at ho6; rw [← Ny279.out] at ho6)); have HO281 := aa.mk (Kd.dJ ho6 (aG bl_)); replace jM := kb_ jM hb; replace HB := aa.mk (au bl_ hb); clear hb ho6))
  go_ret; exact ⟨_, re_, pR_ HO281.out, bl_⟩
 ·rw [if_neg c2] at H; have yL : (ai == 1) = false := beq_eq_false_iff_ne.mpr c2; have Ay : (ai != 1) = true := bne_iff_ne.mpr c2; by_cases c7 : ai = 2
  ·rw [if_pos c7] at H; have p9 : (ai == 2) = true := beq_iff_eq.mpr c7; have c7b1 : (ai != 2) = false := bne_eq_false_iff_eq.mpr c7; clear c7; obtain ⟨y282, Ph⟩ : ∃ y_ : List (S41), y_ = (([(⟨2, az, aA⟩ : S41)] : List (S41))) := ⟨_, rfl⟩; replace H : (some y282) = some r := by first | (rw [Ph]; with_reducible exact H) | (have H2_ := (Option.bind_some _ _).symm.trans H; rw [Ph]; with_reducible exact H2_) | (have H2_ := (Option.bind_some _ _).symm.trans H; with_reducible exact H2_) | with_reducible exact H | (rw [Ph]; exact H) | exact H
   have Ny282 := aa.mk Ph; clear Ph; obtain rfl := Option.some.inj H; go_enter Tryd.func47, Tryd.ntmps47; go_wp2_with (first | ((with_reducible refine aY (N := 1) rfl ?_); refine aZ ?hg (N := 1) ?hd (cs := #[.int .i64 ai, .int .i64 az, .int .i64 aA, .int .i64 ay, .slice bq af.length bf]) (t := 24) ?hr ?_; (case hd => rfl); (case hg => rfl); (case hr => first | (go_simp; done) | (go_simp; rfl)); intro C8 hg w8 aK hb; have jM := aa.mk (aK); have Pg : aa (w.heap.size ≤ C8) := gw_ hg (aG bl_); have GE278 := Pg; replace HB := aa.mk (au bl_ hb); clear hb aK hg; obtain ⟨uj, uk, AP, AQ, AR, um, uo, AU, AV, AX⟩ := bF jM.out) | ((with_reducible refine aY (N := 20) rfl ?_); refine Kd.qb k41 _ 41 ?hg (N := 20) ?hd (xs := ([(⟨2, az, aA⟩ : S41)] : List (S41))) (inner := [.int .i64 2, .int .i64 az, .int .i64 aA]) (ok := fun _ => True) (okp := fun _ => True) ?hr ?hp (fun _ hk => hk) trivial (Below.refl _ _) (Nat.le_refl _) (by simp) ?_; (case hd => rfl); (case hg => rfl); (case hr => first | (go_simp; done) | (go_simp; rfl)); (case hp => exact (dm.c3 (show Kd.M k41 _ _ _ (⟨2, az, aA⟩ : S41) [.int .i64 2, .int .i64 az, .int .i64 aA] from (KV _ _ _ (⟨2, az, aA⟩ : S41) )) (dm.none _ _))); intro v283 w10 ho11 hb hg_ iL; clear hg_ iL; (first | rw [← Ny282.out] at ho11 | (simp only [Int.reduceToNat] at ho11; rw [← Ny282.out] at ho11)); have HO284 := aa.mk (Kd.dJ ho11 (aG bl_)); replace jM := kb_ jM hb; replace HB := aa.mk (au bl_ hb); clear hb ho11))
   go_ret; exact ⟨_, re_, pR_ HO284.out, bl_⟩
  ·rw [if_neg c7] at H; have p9 : (ai == 2) = false := beq_eq_false_iff_ne.mpr c7; have c7b1 : (ai != 2) = true := bne_iff_ne.mpr c7; have HC12 := aa.mk H; clear H; go_enter Tryd.func47, Tryd.ntmps47; go_upto_if 21 with (first | ((with_reducible refine aY (N := 1) rfl ?_); refine aZ ?hg (N := 1) ?hd (cs := #[.int .i64 ai, .int .i64 az, .int .i64 aA, .int .i64 ay, .slice bq af.length bf]) (t := 24) ?hr ?_; (case hd => rfl); (case hg => rfl); (case hr => first | (go_simp; done) | (go_simp; rfl)); intro C8 hg w13 aK hb; have jM := aa.mk (aK); have Pg : aa (w.heap.size ≤ C8) := gw_ hg (aG bl_); have GE278 := Pg; replace HB := aa.mk (au bl_ hb); clear hb aK hg; obtain ⟨kg, ko, kr, ku, kv, ky, kz, kC, kD, kE⟩ := bF jM.out))
   (try simp only [Act.put, List.setIfInBounds_toArray, List.set_cons_zero, List.set_cons_succ])
   go_cut [21] (fun v21 wc => ∃ (kq : Nat) (Pj : Bool), v21 = .bool Pj ∧ aa (aJ.j0 kq ai Pj ai az aA ay af = some r) ∧ aa (kq ≤ k) ∧ aa (wc.heap[C8]? = some (.cells #[.int .i64 ai, .int .i64 az, .int .i64 aA, .int .i64 ay, (.slice bq af.length bf)] 24 (0, 0))) ∧ aa (Below w.heap.size w wc))
   case first =>
    have H := HC12.out; clear HC12; by_cases c15 : ai = 3
    ·rw [if_pos c15] at H; have oZ : (ai == 3) = true := beq_iff_eq.mpr c15; have CX : (ai != 3) = false := bne_eq_false_iff_eq.mpr c15; clear c15; (first | rw [oZ] | (simp only [eT, eY]; rw [oZ]) | skip)
     have H' := aa.mk H; clear H; go_wp2; go_meet
     case rel => exact ⟨_, ((ai == 3)), rs_, H', ⟨by first | omega | exact Nat.le_refl _⟩, ⟨bk_⟩, ⟨bl_⟩⟩
    ·rw [if_neg c15] at H; have oZ : (ai == 3) = false := beq_eq_false_iff_ne.mpr c15; have CX : (ai != 3) = true := bne_iff_ne.mpr c15; (first | rw [oZ] | (simp only [eT, eY]; rw [oZ]) | skip)
     have H' := aa.mk H; clear H; go_wp2; go_meet
     case rel => exact ⟨_, ((ai == 4)), rs_, H', ⟨by first | omega | exact Nat.le_refl _⟩, ⟨bk_⟩, ⟨bl_⟩⟩
   case rest =>
    clear HC12; (try clear c1); (try clear c2); (try clear yL); (try clear Ay); (try clear p2); (try clear c3); (try clear c4); (try clear c7); (try clear p9); (try clear c7b1); (try clear c15); (try clear oZ); (try clear CX); (try clear kg ko kr ku kv ky kz kC kD kE); (try clear vU vV vW vX vY vZ wh wm wo wu); (try clear uj uk AP AQ AR um uo AU AV AX); obtain ⟨kq, Pj, rfl, HA, HJ11, jM, HB⟩ := hcut; cases kq with
    | zero => exact absurd HA.out (by simp [aJ.j0])
    | succ kj11 =>
     have H := HA.out; clear HA; simp only [aJ.j0] at H; by_cases c16 : Pj = true
     ·subst c16; have H1 : (some (([(⟨ai, 0, 0⟩ : S41)] : List (S41)))) = some r := by rw [if_pos rfl] at H; exact H
      clear H; have H := H1; clear H1; obtain ⟨y285, Pk⟩ : ∃ y_ : List (S41), y_ = (([(⟨ai, 0, 0⟩ : S41)] : List (S41))) := ⟨_, rfl⟩; replace H : (some y285) = some r := by first | (rw [Pk]; with_reducible exact H) | (have H2_ := (Option.bind_some _ _).symm.trans H; rw [Pk]; with_reducible exact H2_) | (have H2_ := (Option.bind_some _ _).symm.trans H; with_reducible exact H2_) | with_reducible exact H | (rw [Pk]; exact H) | exact H
      have Ny285 := aa.mk Pk; clear Pk; obtain rfl := Option.some.inj H; obtain ⟨Ik, Il, Im, Io, Ip, Iq, Ir, Iu, Iw, Iy⟩ := bF jM.out; go_wp2_with (first | ((with_reducible refine aY (N := 27) rfl ?_); refine Kd.qb k41 _ 41 ?hg (N := 27) ?hd (xs := ([(⟨ai, 0, 0⟩ : S41)] : List (S41))) (inner := [.int .i64 ai, .int .i64 0, .int .i64 0]) (ok := fun _ => True) (okp := fun _ => True) ?hr ?hp (fun _ hk => hk) trivial (Below.refl _ _) (Nat.le_refl _) (by simp) ?_; (case hd => rfl); (case hg => rfl); (case hr => first | (go_simp; done) | (go_simp; rfl)); (case hp => exact (dm.c3 (show Kd.M k41 _ _ _ (⟨ai, 0, 0⟩ : S41) [.int .i64 ai, .int .i64 0, .int .i64 0] from (KV _ _ _ (⟨ai, 0, 0⟩ : S41) )) (dm.none _ _))); intro v286 w18 ho19 hb hg_ iL; clear hg_ iL; (first | rw [← Ny285.out] at ho19 | (simp only [Int.reduceToNat] at ho19; rw [← Ny285.out] at ho19)); have HO287 := aa.mk (Kd.dJ ho19 (aG bl_)); replace jM := kb_ jM hb; replace HB := aa.mk (au bl_ hb); clear hb ho19))
      go_ret; exact ⟨_, re_, pR_ HO287.out, bl_⟩
     ·replace c16 := Bool.eq_false_iff.mpr c16; subst c16; have H1 : (if ai = 6 then (aJ.l0 kj11 (([(⟨2, 0, ay⟩ : S41)] : List (S41))) 0 ai az aA ay af) else (aJ.l1 kj11 ([] : List (S41)) 0 ai az aA ay af)) = some r := by rw [if_neg (show ¬ (false = true) by decide)] at H; exact H
      clear H; have H := H1; clear H1; by_cases c20 : ai = 6
      ·rw [if_pos c20] at H; have xU : (ai == 6) = true := beq_iff_eq.mpr c20; have MF : (ai != 6) = false := bne_eq_false_iff_eq.mpr c20; clear c20; obtain ⟨y288, Pm⟩ : ∃ y_ : List (S41), y_ = (([(⟨2, 0, ay⟩ : S41)] : List (S41))) := ⟨_, rfl⟩; replace H : (aJ.l0 kj11 y288 0 ai az aA ay af) = some r := by first | (rw [Pm]; with_reducible exact H) | (have H2_ := (Option.bind_some _ _).symm.trans H; rw [Pm]; with_reducible exact H2_) | (have H2_ := (Option.bind_some _ _).symm.trans H; with_reducible exact H2_) | with_reducible exact H | (rw [Pm]; exact H) | exact H
       have Ny288 := aa.mk Pm; clear Pm; have H' := aa.mk H; clear H; obtain ⟨qQ, qR, qU, qV, qW, qX, qY, qZ, q9, rf⟩ := bF jM.out; go_wp2_with (first | ((with_reducible refine aY (N := 33) rfl ?_); refine Kd.qb k41 _ 41 ?hg (N := 33) ?hd (xs := ([(⟨2, 0, ay⟩ : S41)] : List (S41))) (inner := [.int .i64 2, .int .i64 0, .int .i64 ay]) (ok := fun _ => True) (okp := fun _ => True) ?hr ?hp (fun _ hk => hk) trivial (Below.refl _ _) (Nat.le_refl _) (by simp) ?_; (case hd => rfl); (case hg => rfl); (case hr => first | (go_simp; done) | (go_simp; rfl)); (case hp => exact (dm.c3 (show Kd.M k41 _ _ _ (⟨2, 0, ay⟩ : S41) [.int .i64 2, .int .i64 0, .int .i64 ay] from (KV _ _ _ (⟨2, 0, ay⟩ : S41) )) (dm.none _ _))); intro v289 w22 ho23 hb hg_ iL; clear hg_ iL; (first | rw [← Ny288.out] at ho23 | (simp only [Int.reduceToNat] at ho23; rw [← Ny288.out] at ho23)); have HO290 := aa.mk (Kd.dJ ho23 (aG bl_)); replace jM := kb_ jM hb; replace HB := aa.mk (au bl_ hb); clear hb ho23))
       go_loopg [3, 4] kj11 (fun kq v3 v4 w' => ∃ (x3_2 : List (S41)) (x4_2 : Int), v4 = .int .i64 x4_2 ∧ aa (aJ.l0 kq x3_2 x4_2 ai az aA ay af = some r) ∧ aa (kq ≤ kj11) ∧ aa (Kd.R k41 41 w' w.heap.size (fun _ => True) v3 x3_2) ∧ aa (w'.heap[C8]? = some (.cells #[.int .i64 ai, .int .i64 az, .int .i64 aA, .int .i64 ay, (.slice bq af.length bf)] 24 (0, 0))) ∧ aa (Below w.heap.size w w'))
       case atStart => exact ⟨(y288), (0), rs_, H', ⟨Nat.le_refl _⟩, ⟨pR_ HO290.out⟩, ⟨bk_⟩, ⟨bl_⟩⟩
       case round =>
        clear H'; (try clear c1); (try clear c2); (try clear yL); (try clear Ay); (try clear p2); (try clear c3); (try clear c4); (try clear c7); (try clear p9); (try clear c7b1); (try clear c15); (try clear oZ); (try clear CX); (try clear c16); (try clear c20); (try clear xU); (try clear MF); (try clear kg ko kr ku kv ky kz kC kD kE); (try clear Ik Il Im Io Ip Iq Ir Iu Iw Iy); (try clear qQ qR qU qV qW qX qY qZ q9 rf); (try clear vU vV vW vX vY vZ wh wm wo wu); (try clear uj uk AP AQ AR um uo AU AV AX); (try clear p2); obtain ⟨x3_2, x4_2, rfl, HA, HK2, HO_3, jM, HB⟩ := hrel; cases gk with
        | zero => exact absurd HA.out (by simp [aJ.l0])
        | succ k2 =>
         have H := HA.out; clear HA; simp only [aJ.l0] at H; by_cases c24 : x4_2 < ay
         ·rw [if_pos c24] at H; have tX : decide (x4_2 < ay) = true := decide_eq_true c24; clear c24; by_cases c25 : 0 < (af.length : Int)
          ·rw [if_pos c25] at H; have Jw : decide (0 < (af.length : Int)) = true := decide_eq_true c25; have c25b1 : decide (0 < af.length) = true := decide_eq_true (by omega); clear c25; replace H := Option.bind_eq_some_iff.mp H; obtain ⟨t292, A260, H⟩ := H; replace H : (if x3_2.length + t292.length < 5864062014805 then (aJ.l0 k2 (x3_2 ++ t292) (wrap64 (x4_2 + 1)) ai az aA ay af) else (none)) = some r := H; have A26 := aa.mk A260; clear A260; by_cases c27 : x3_2.length + t292.length < 5864062014805
           ·rw [if_pos c27] at H; have LMc27 := aa.mk c27; clear c27; obtain ⟨y295, Pn⟩ : ∃ y_ : List (S41), y_ = (x3_2 ++ t292) := ⟨_, rfl⟩; replace H : (aJ.l0 k2 y295 (wrap64 (x4_2 + 1)) ai az aA ay af) = some r := by first | (rw [Pn]; with_reducible exact H) | (have H2_ := (Option.bind_some _ _).symm.trans H; rw [Pn]; with_reducible exact H2_) | (have H2_ := (Option.bind_some _ _).symm.trans H; with_reducible exact H2_) | with_reducible exact H | (rw [Pn]; exact H) | exact H
            have Ny295 := aa.mk Pn; clear Pn; have H' := aa.mk H; clear H; obtain ⟨l6, l7, mJ, mK, mM, l8, l9, mO, mP, mQ⟩ := bF jM.out; have p291 : 0 ≤ (0 : Int) := (by omega); have q291 : 0 < (af.length : Int) := dt_; obtain ⟨ad291, A291_4, c291_4, e291, MG, MH, MI, MJ, MK, Wo, Wp⟩ := eX bV.out 0 p291 q291; cases e291; have qi291 : (0 < af.length) = True := eq_true (by omega); (try simp only [z0_, Nat.zero_mul, Addr.add_zero'] at MG MH MI MJ MK)
            replace MG := hc_ HB MG; replace MH := hc_ HB MH; replace MI := hc_ HB MI; replace MJ := hc_ HB MJ; replace MK := hc_ HB MK; have HR291_4 := aa.mk Wp; have HC291_4 := aa.mk Wo; clear Wp Wo; replace p291 := eq_true p291; replace q291 := eq_true q291; go_wp2_with (first | ((with_reducible refine aN (f := 47) rfl ?_); refine bJ (some 45) rfl rfl Tryd.func47 (by kernel_rfl) rfl #[.agg #[.int .i64 ((ag af 0).f0), .int .i64 ((ag af 0).f1), .int .i64 ((ag af 0).f2), .int .i64 ((ag af 0).f3), .slice A291_4 ((ag af 0).f4).length c291_4]] rfl mp_ ?_; (with_reducible refine (ih k2 (by have := HJ11.out; have := HK2.out; omega) ((ag af 0).f0) ((ag af 0).f1) ((ag af 0).f2) ((ag af 0).f3) _ _ ((ag af 0).f4) t292 _ ?aQ ?aT A26.out).mono ?_); (case aQ => exact cb_ (Kd.bA HR291_4.out HB.out)); (case aT => exact HC291_4.out); rintro e w29 ⟨v293, rfl, ho0, hb⟩; refine ⟨_, rfl, ?_⟩; have Po := aa.mk (Kd.dJ (Kd.lG ho0 (Kd.lC (pR_ HO_3.out))) (aG bl_)); replace HO_3 := aa.mk (Kd.jU (pR_ HO_3.out) (Kd.iI ho0) hb); replace jM := kb_ jM hb; replace HB := aa.mk (au bl_ hb); (try clear hb); (try clear hb2); (try clear hk); (try clear hi); (try clear ho0); obtain ⟨Ao31, co31, eo31⟩ := Kd.dG Po.out; subst eo31) | ((with_reducible refine vL (b := .append) (xs := #[.tmp 40, .tmp 45]) rfl ?_); at_builtin; refine Kd.Dz k41 (w0 := w) w.heap.size rfl (.tmp 40) (.tmp 45) 37 41 (.agg #[(.int .i64 0), (.int .i64 0), (.int .i64 0)]) 24 rfl Tryd.underlying37 info41 rfl (by decide) (by omega) u3 x3_2 t292 _ _ _ (fun k_ => some k_ ≠ (.slice Ao31 t292.length co31 : Value).ownBlock) (fun _ => False) rfl rfl ?aO ?aR (fun _ _ h => h) (fun _ h => h.elim) ?aF ?aB ?aS ?aL ?_; (case aR => exact cb_ ((Kd.cK Po.out).2.2)); (case aB => exact bl_); (case aF => exact (fun k_ hk => Kd.fresh' (Kd.lC (pR_ Po.out)) k_ hk)); (case aO => exact (by (with_reducible repeat (first | apply Kd.dN | apply Kd.dO | apply Kd.dP)); exact Kd.bQ HO_3.out (fun _ hk => hk.2))); (case aS => exact (aG bl_)); (case aL => have := LMc27.out; omega); intro v296 w30 ho hb hg hat; rw [← Ny295.out] at ho; have HO297 := aa.mk (ho); replace jM := aa.mk (fG (g := C8) (o := .cells #[.int .i64 ai, .int .i64 az, .int .i64 aA, .int .i64 ay, .slice (some ad291) af.length bf] 24 (0, 0)) bk_ hg (Kd.rZ HO_3.out jM.out (by decide))); replace Po := aa.mk (Kd.GR (ok := (fun _ => True)) (pR_ Po.out) hg hat); replace HB := aa.mk (hb); clear HO_3; clear ho hb hg hat))
            go_roundg k2
            case measure => have := HJ11.out; have := HK2.out; omega
            case rel => exact ⟨(y295), (wrap64 (x4_2 + 1)), rs_, H', ⟨by have := HJ11.out; have := HK2.out; omega⟩, ⟨by (with_reducible repeat (first | apply Kd.dN | apply Kd.dO | apply Kd.dP)); exact Kd.bQ HO297.out (fun _ hk => trivial)⟩, ⟨bk_⟩, ⟨bl_⟩⟩
           ·rw [if_neg c27] at H; exact absurd H (by simp)
          ·rw [if_neg c25] at H; exact absurd H (by simp)
         ·rw [if_neg c24] at H; have tX : decide (x4_2 < ay) = false := decide_eq_false c24; clear c24; obtain rfl := Option.some.inj H; obtain ⟨sG, sH, BQ, BR, BS, sI, sJ, BU, BV, BX⟩ := bF jM.out; go_wp2; go_ret; exact ⟨_, re_, pR_ HO_3.out, bl_⟩
      ·rw [if_neg c20] at H; have xU : (ai == 6) = false := beq_eq_false_iff_ne.mpr c20; have MF : (ai != 6) = true := bne_iff_ne.mpr c20; have H' := aa.mk H; clear H; go_wp2; go_loopg [5, 6] kj11 (fun kq v5 v6 w' => ∃ (dV : List (S41)) (o5 : Int), v6 = .int .i64 o5 ∧ aa (aJ.l1 kq dV o5 ai az aA ay af = some r) ∧ aa (kq ≤ kj11) ∧ aa (Kd.R k41 41 w' w.heap.size (fun _ => True) v5 dV) ∧ aa (w'.heap[C8]? = some (.cells #[.int .i64 ai, .int .i64 az, .int .i64 aA, .int .i64 ay, (.slice bq af.length bf)] 24 (0, 0))) ∧ aa (Below w.heap.size w w'))
       case atStart => exact ⟨(([] : List (S41))), (0), rs_, H', ⟨Nat.le_refl _⟩, ⟨by first | exact Kd.gZ _ _ _ _ _ | exact Kd.jD _ _ _ _ _ | exact Kd.iR _ _ _ _ _ | exact Kd.jB _ _ _ _ _ | exact Kd.jC _ _ _ _ _⟩, ⟨bk_⟩, ⟨bl_⟩⟩
       case round =>
        clear H'; (try clear c1); (try clear c2); (try clear yL); (try clear Ay); (try clear p2); (try clear q2); (try clear hx2); (try clear qi2); (try clear c3); (try clear c4); (try clear p6); (try clear c7); (try clear p9); (try clear c7b1); (try clear c15); (try clear oZ); (try clear CX); (try clear c16); (try clear c20); (try clear xU); (try clear MF); (try clear c24); (try clear tX); (try clear c25); (try clear Jw); (try clear c25b1); (try clear c27); (try clear c29); (try clear p29); (try clear q29); (try clear hx29); (try clear qi29); (try clear kg ko kr ku kv ky kz kC kD kE); (try clear Ik Il Im Io Ip Iq Ir Iu Iw Iy); (try clear qQ qR qU qV qW qX qY qZ q9 rf); (try clear l6 l7 mJ mK mM l8 l9 mO mP mQ); (try clear sG sH BQ BR BS sI sJ BU BV BX); (try clear vU vV vW vX vY vZ wh wm wo wu); (try clear uj uk AP AQ AR um uo AU AV AX); (try clear MG); (try clear MH); (try clear MI); (try clear MJ); (try clear MK); (try clear p2); (try clear p291); (try clear q291); obtain ⟨dV, o5, rfl, HA, HK2, gW, jM, HB⟩ := hrel; cases gk with
        | zero => exact absurd HA.out (by simp [aJ.l1])
        | succ k2 =>
         have H := HA.out; clear HA; simp only [aJ.l1] at H; by_cases c33 : o5 < (af.length : Int)
         ·rw [if_pos c33] at H; have xD : decide (o5 < (af.length : Int)) = true := decide_eq_true c33; clear c33; by_cases c34 : 0 ≤ o5
          ·rw [if_pos c34] at H; have JD : decide (0 ≤ o5) = true := decide_eq_true c34; clear c34; replace H := Option.bind_eq_some_iff.mp H; obtain ⟨t299, A350, H⟩ := H; replace H : (if dV.length + t299.length < 5864062014805 then (aJ.l1 k2 (dV ++ t299) (wrap64 (o5 + 1)) ai az aA ay af) else (none)) = some r := H; have A35 := aa.mk A350; clear A350; by_cases c36 : dV.length + t299.length < 5864062014805
           ·rw [if_pos c36] at H; have LMc36 := aa.mk c36; clear c36; obtain ⟨y302, Pp⟩ : ∃ y_ : List (S41), y_ = (dV ++ t299) := ⟨_, rfl⟩; replace H : (aJ.l1 k2 y302 (wrap64 (o5 + 1)) ai az aA ay af) = some r := by first | (rw [Pp]; with_reducible exact H) | (have H2_ := (Option.bind_some _ _).symm.trans H; rw [Pp]; with_reducible exact H2_) | (have H2_ := (Option.bind_some _ _).symm.trans H; with_reducible exact H2_) | with_reducible exact H | (rw [Pp]; exact H) | exact H
            have Ny302 := aa.mk Pp; clear Pp; have H' := aa.mk H; clear H; obtain ⟨xE, xG, xH, xI, xJ, xK, xL, xM, xN, xO⟩ := bF jM.out; have p298 : 0 ≤ (o5 : Int) := dt_; have q298 : o5 < (af.length : Int) := dt_; obtain ⟨ad298, A298_4, c298_4, e298, Wq, Ws, Wt, Wu, Wv, Ww, Wx⟩ := eX bV.out o5 p298 q298; cases e298; replace Wq := hc_ HB Wq; replace Ws := hc_ HB Ws; replace Wt := hc_ HB Wt; replace Wu := hc_ HB Wu; replace Wv := hc_ HB Wv; have HR298_4 := aa.mk Wx; have HC298_4 := aa.mk Ww; clear Wx Ww; replace p298 := eq_true p298; replace q298 := eq_true q298; go_wp2_with (first | ((with_reducible refine aN (f := 47) rfl ?_); refine bJ (some 61) rfl rfl Tryd.func47 (by kernel_rfl) rfl #[.agg #[.int .i64 ((ag af o5).f0), .int .i64 ((ag af o5).f1), .int .i64 ((ag af o5).f2), .int .i64 ((ag af o5).f3), .slice A298_4 ((ag af o5).f4).length c298_4]] rfl mp_ ?_; (with_reducible refine (ih k2 (by have := HJ11.out; have := HK2.out; omega) ((ag af o5).f0) ((ag af o5).f1) ((ag af o5).f2) ((ag af o5).f3) _ _ ((ag af o5).f4) t299 _ ?aQ ?aT A35.out).mono ?_); (case aQ => exact cb_ (Kd.bA HR298_4.out HB.out)); (case aT => exact HC298_4.out); rintro e w38 ⟨v300, rfl, ho0, hb⟩; refine ⟨_, rfl, ?_⟩; have Pq := aa.mk (Kd.dJ (Kd.lG ho0 (Kd.lC (pR_ gW.out))) (aG bl_)); replace gW := aa.mk (Kd.jU (pR_ gW.out) (Kd.iI ho0) hb); replace jM := kb_ jM hb; replace HB := aa.mk (au bl_ hb); (try clear hb); (try clear hb2); (try clear hk); (try clear hi); (try clear ho0); obtain ⟨Ao40, co40, eo40⟩ := Kd.dG Pq.out; subst eo40) | ((with_reducible refine vL (b := .append) (xs := #[.tmp 55, .tmp 61]) rfl ?_); at_builtin; refine Kd.Dz k41 (w0 := w) w.heap.size rfl (.tmp 55) (.tmp 61) 37 41 (.agg #[(.int .i64 0), (.int .i64 0), (.int .i64 0)]) 24 rfl Tryd.underlying37 info41 rfl (by decide) (by omega) u5 dV t299 _ _ _ (fun k_ => some k_ ≠ (.slice Ao40 t299.length co40 : Value).ownBlock) (fun _ => False) rfl rfl ?aO ?aR (fun _ _ h => h) (fun _ h => h.elim) ?aF ?aB ?aS ?aL ?_; (case aR => exact cb_ ((Kd.cK Pq.out).2.2)); (case aB => exact bl_); (case aF => exact (fun k_ hk => Kd.fresh' (Kd.lC (pR_ Pq.out)) k_ hk)); (case aO => exact (by (with_reducible repeat (first | apply Kd.dN | apply Kd.dO | apply Kd.dP)); exact Kd.bQ gW.out (fun _ hk => hk.2))); (case aS => exact (aG bl_)); (case aL => have := LMc36.out; omega); intro v303 w39 ho hb hg hat; rw [← Ny302.out] at ho; have HO304 := aa.mk (ho); replace jM := aa.mk (fG (g := C8) (o := .cells #[.int .i64 ai, .int .i64 az, .int .i64 aA, .int .i64 ay, .slice (some ad298) af.length bf] 24 (0, 0)) bk_ hg (Kd.rZ gW.out jM.out (by decide))); replace Pq := aa.mk (Kd.GR (ok := (fun _ => True)) (pR_ Pq.out) hg hat); replace HB := aa.mk (hb); clear gW; clear ho hb hg hat))
            go_roundg k2
            case measure => have := HJ11.out; have := HK2.out; omega
            case rel => exact ⟨(y302), (wrap64 (o5 + 1)), rs_, H', ⟨by have := HJ11.out; have := HK2.out; omega⟩, ⟨by (with_reducible repeat (first | apply Kd.dN | apply Kd.dO | apply Kd.dP)); exact Kd.bQ HO304.out (fun _ hk => trivial)⟩, ⟨bk_⟩, ⟨bl_⟩⟩
           ·rw [if_neg c36] at H; exact absurd H (by simp)
          ·rw [if_neg c34] at H; exact absurd H (by simp)
         ·rw [if_neg c33] at H; have xD : decide (o5 < (af.length : Int)) = false := decide_eq_false c33; clear c33; obtain rfl := Option.some.inj H; obtain ⟨hcz41_0, hcz41_1, hcz41_2, hcz41_3, hcz41_4, hfz41_0, hfz41_1, hfz41_2, hfz41_3, hfz41_4⟩ := bF jM.out; go_wp2; go_ret; exact ⟨_, re_, pR_ gW.out, bl_⟩

end Go.Proofs.YtggelekooacmnaaDoor.Q
namespace Go.Proofs.YtggelekooacmnaaDoor.Q
open Go.RowKit Go.Proofs.YtggelekooacmnaaDoorW.bg Go.Proofs.YtggelekooacmnaaDoorW.bP Go.Proofs.YtggelekooacmnaaDoorW.bX
attribute [local go_sem] ek eu fw fA dH dI eB eD   -- for this text's walks alone
set_option linter.unusedVariables false
set_option linter.unusedSimpArgs false

/-! ### dn: function 22 -/
def dn.f (k : Nat) (ai : Int) (az : Int) (aA : Int) (ay : Int) (af : List (S24)) : Option (Int) := (bE.f k ai az aA ay af 11).bind fun DN => (if DN > 10 then (some 9) else ((av.f k ai az aA ay af).bind fun tY => (if tY = 0 then ((aJ.f k ai az aA ay af).bind fun yR => (if (yR.length : Int) > 24 then (some 9) else (some 0))) else (some tY))))
theorem dn.mono : ∀ a0 a1 a2 a3 a4 k, LeO (dn.f k a0 a1 a2 a3 a4) (dn.f (k + 1) a0 a1 a2 a3 a4) := by
 intro a0 a1 a2 a3 a4 k; unfold dn.f
 repeat' first
   | (with_reducible exact bE.mono _ _ _ _ _ _ _)
   | (with_reducible exact aJ.mono _ _ _ _ _ _)
   | (with_reducible exact av.mono _ _ _ _ _ _)
   | (with_reducible exact LeO.refl _)
   | (with_reducible exact LeO.none _)
   | (with_reducible refine LeO.ite ?_ ?_)
   | (with_reducible refine LeO.bind ?_ (fun _ => ?_))
   | exact bE.mono _ _ _ _ _ _ _
   | exact aJ.mono _ _ _ _ _ _
   | exact av.mono _ _ _ _ _ _
   | exact LeO.none _
   | refine LeO.ite ?_ ?_
   | refine LeO.bind ?_ (fun _ => ?_)
set_option maxHeartbeats 8000000 in
set_option maxRecDepth 100000 in
theorem dn.calls (k : Nat) (ai : Int) (az : Int) (aA : Int) (ay : Int) (bq : Option Addr) (bf : Nat) (af : List (S24)) (r : Int) (w : World) (dX : Kd.C k24 w bq af.length af) (dY : af.length ≤ bf) (h : dn.f k ai az aA ay af = some r) :
  Calls Tryd.prog 22 #[.agg #[.int .i64 ai, .int .i64 az, .int .i64 aA, .int .i64 ay, .slice bq af.length bf]] w fun e w' => e = .returned (.int .i64 r) ∧ Below w.heap.size w w' := by
 have ou := Tryd.underlying24; have bV := aa.mk dX; have dz := aa.mk dY; clear dX dY; have HB := aa.mk (Below.refl w.heap.size w); have H : ((bE.f k ai az aA ay af 11).bind fun DN => (if DN > 10 then (some 9) else ((av.f k ai az aA ay af).bind fun tY => (if tY = 0 then ((aJ.f k ai az aA ay af).bind fun yR => (if (yR.length : Int) > 24 then (some 9) else (some 0))) else (some tY))))) = some r := h; clear h; replace H := Option.bind_eq_some_iff.mp H; obtain ⟨DN, A20, H⟩ := H; replace H : (if DN > 10 then (some 9) else ((av.f k ai az aA ay af).bind fun tY => (if tY = 0 then ((aJ.f k ai az aA ay af).bind fun yR => (if (yR.length : Int) > 24 then (some 9) else (some 0))) else (some tY)))) = some r := H; have A2 := aa.mk A20; clear A20; by_cases c3 : DN > 10
 ·rw [if_pos c3] at H; have j5 : decide (10 < DN) = true := decide_eq_true c3; clear c3; obtain rfl := Option.some.inj H; go_enter Tryd.func22, Tryd.ntmps22; go_wp2_with (first | ((with_reducible refine aY (N := 1) rfl ?_); refine aZ ?hg (N := 1) ?hd (cs := #[.int .i64 ai, .int .i64 az, .int .i64 aA, .int .i64 ay, .slice bq af.length bf]) (t := 24) ?hr ?_; (case hd => rfl); (case hg => rfl); (case hr => first | (go_simp; done) | (go_simp; rfl)); intro JE hg w4 aK hb; have jN := aa.mk (aK); have JF : aa (w.heap.size ≤ JE) := gw_ hg (aG bl_); have GE305 := JF; replace HB := aa.mk (au bl_ hb); clear hb aK hg; obtain ⟨FO, FP, FQ, FR, FT, FU, FV, FW, FX, FY⟩ := bF jN.out) | ((with_reducible refine aN (f := 45) rfl ?_); refine bJ (some 5) rfl rfl Tryd.func45 (by kernel_rfl) rfl #[.agg #[.int .i64 ai, .int .i64 az, .int .i64 aA, .int .i64 ay, .slice bq af.length bf], .int .i64 11] rfl mp_ ?_; (with_reducible refine (bE.calls k ai az aA ay _ _ af 11 DN _ ?aQ ?aT A2.out).mono ?_); (case aQ => exact cb_ (Kd.bA bV.out HB.out)); (case aT => exact dz.out); rintro e w6 ⟨rfl, hb⟩; refine ⟨_, rfl, ?_⟩; replace jN := kb_ jN hb; replace HB := aa.mk (au bl_ hb); (try clear hb); (try clear hb2); (try clear hk); (try clear hi)))
  go_ret; exact ⟨re_, bl_⟩
 ·rw [if_neg c3] at H; have j5 : decide (10 < DN) = false := decide_eq_false c3; clear c3; replace H := Option.bind_eq_some_iff.mp H; obtain ⟨tY, A70, H⟩ := H; replace H : (if tY = 0 then ((aJ.f k ai az aA ay af).bind fun yR => (if (yR.length : Int) > 24 then (some 9) else (some 0))) else (some tY)) = some r := H; have A7 := aa.mk A70; clear A70; by_cases c8 : tY = 0
  ·rw [if_pos c8] at H; have tV : (tY == 0) = true := beq_iff_eq.mpr c8; have BJ : (tY != 0) = false := bne_eq_false_iff_eq.mpr c8; clear c8; replace H := Option.bind_eq_some_iff.mp H; obtain ⟨yR, A90, H⟩ := H; replace H : (if (yR.length : Int) > 24 then (some 9) else (some 0)) = some r := H; have A9 := aa.mk A90; clear A90; by_cases c10 : (yR.length : Int) > 24
   ·rw [if_pos c10] at H; have oI : decide (24 < (yR.length : Int)) = true := decide_eq_true c10; have GI : decide (24 < yR.length) = true := decide_eq_true (by omega); clear c10; obtain rfl := Option.some.inj H; go_enter Tryd.func22, Tryd.ntmps22; go_wp2_with (first | ((with_reducible refine aY (N := 1) rfl ?_); refine aZ ?hg (N := 1) ?hd (cs := #[.int .i64 ai, .int .i64 az, .int .i64 aA, .int .i64 ay, .slice bq af.length bf]) (t := 24) ?hr ?_; (case hd => rfl); (case hg => rfl); (case hr => first | (go_simp; done) | (go_simp; rfl)); intro JE hg w11 aK hb; have jN := aa.mk (aK); have JF : aa (w.heap.size ≤ JE) := gw_ hg (aG bl_); have GE305 := JF; replace HB := aa.mk (au bl_ hb); clear hb aK hg; obtain ⟨lX, lY, u7, vk, vo, lZ, l5, vv, vw, vz⟩ := bF jN.out) | ((with_reducible refine aN (f := 45) rfl ?_); refine bJ (some 5) rfl rfl Tryd.func45 (by kernel_rfl) rfl #[.agg #[.int .i64 ai, .int .i64 az, .int .i64 aA, .int .i64 ay, .slice bq af.length bf], .int .i64 11] rfl mp_ ?_; (with_reducible refine (bE.calls k ai az aA ay _ _ af 11 DN _ ?aQ ?aT A2.out).mono ?_); (case aQ => exact cb_ (Kd.bA bV.out HB.out)); (case aT => exact dz.out); rintro e w13 ⟨rfl, hb⟩; refine ⟨_, rfl, ?_⟩; replace jN := kb_ jN hb; replace HB := aa.mk (au bl_ hb); (try clear hb); (try clear hb2); (try clear hk); (try clear hi); obtain ⟨kg, ko, kr, ku, kv, ky, kz, kC, kD, kE⟩ := bF jN.out) | ((with_reducible refine aN (f := 46) rfl ?_); refine bJ (some 8) rfl rfl Tryd.func46 (by kernel_rfl) rfl #[.agg #[.int .i64 ai, .int .i64 az, .int .i64 aA, .int .i64 ay, .slice bq af.length bf]] rfl mp_ ?_; (with_reducible refine (av.calls k ai az aA ay _ _ af tY _ ?aQ ?aT A7.out).mono ?_); (case aQ => exact cb_ (Kd.bA bV.out HB.out)); (case aT => exact dz.out); rintro e w15 ⟨rfl, hb⟩; refine ⟨_, rfl, ?_⟩; replace jN := kb_ jN hb; replace HB := aa.mk (au bl_ hb); (try clear hb); (try clear hb2); (try clear hk); (try clear hi); obtain ⟨pO, pQ, qF, qG, qH, pR, pU, qI, qJ, qK⟩ := bF jN.out) | ((with_reducible refine aN (f := 47) rfl ?_); refine bJ (some 13) rfl rfl Tryd.func47 (by kernel_rfl) rfl #[.agg #[.int .i64 ai, .int .i64 az, .int .i64 aA, .int .i64 ay, .slice bq af.length bf]] rfl mp_ ?_; (with_reducible refine (aJ.calls k ai az aA ay _ _ af yR _ ?aQ ?aT A9.out).mono ?_); (case aQ => exact cb_ (Kd.bA bV.out HB.out)); (case aT => exact dz.out); rintro e w17 ⟨v309, rfl, ho0, hb⟩; refine ⟨_, rfl, ?_⟩; have HO310 := aa.mk (Kd.dJ ho0 (aG bl_)); replace jN := kb_ jN hb; replace HB := aa.mk (au bl_ hb); (try clear hb); (try clear hb2); (try clear hk); (try clear hi); (try clear ho0); obtain ⟨Ao18, co18, eo18⟩ := Kd.dG HO310.out; subst eo18))
    go_ret; exact ⟨re_, bl_⟩
   ·rw [if_neg c10] at H; have oI : decide (24 < (yR.length : Int)) = false := decide_eq_false c10; have GI : decide (24 < yR.length) = false := decide_eq_false (by omega); clear c10; obtain rfl := Option.some.inj H; go_enter Tryd.func22, Tryd.ntmps22; go_wp2_with (first | ((with_reducible refine aY (N := 1) rfl ?_); refine aZ ?hg (N := 1) ?hd (cs := #[.int .i64 ai, .int .i64 az, .int .i64 aA, .int .i64 ay, .slice bq af.length bf]) (t := 24) ?hr ?_; (case hd => rfl); (case hg => rfl); (case hr => first | (go_simp; done) | (go_simp; rfl)); intro JE hg w19 aK hb; have jN := aa.mk (aK); have JF : aa (w.heap.size ≤ JE) := gw_ hg (aG bl_); have GE305 := JF; replace HB := aa.mk (au bl_ hb); clear hb aK hg; obtain ⟨zC, zD, BK, BL, BM, zF, zG, BN, BO, BP⟩ := bF jN.out) | ((with_reducible refine aN (f := 45) rfl ?_); refine bJ (some 5) rfl rfl Tryd.func45 (by kernel_rfl) rfl #[.agg #[.int .i64 ai, .int .i64 az, .int .i64 aA, .int .i64 ay, .slice bq af.length bf], .int .i64 11] rfl mp_ ?_; (with_reducible refine (bE.calls k ai az aA ay _ _ af 11 DN _ ?aQ ?aT A2.out).mono ?_); (case aQ => exact cb_ (Kd.bA bV.out HB.out)); (case aT => exact dz.out); rintro e w21 ⟨rfl, hb⟩; refine ⟨_, rfl, ?_⟩; replace jN := kb_ jN hb; replace HB := aa.mk (au bl_ hb); (try clear hb); (try clear hb2); (try clear hk); (try clear hi); obtain ⟨su, sw, uU, uV, uW, sD, sF, uX, uY, uZ⟩ := bF jN.out) | ((with_reducible refine aN (f := 46) rfl ?_); refine bJ (some 8) rfl rfl Tryd.func46 (by kernel_rfl) rfl #[.agg #[.int .i64 ai, .int .i64 az, .int .i64 aA, .int .i64 ay, .slice bq af.length bf]] rfl mp_ ?_; (with_reducible refine (av.calls k ai az aA ay _ _ af tY _ ?aQ ?aT A7.out).mono ?_); (case aQ => exact cb_ (Kd.bA bV.out HB.out)); (case aT => exact dz.out); rintro e w23 ⟨rfl, hb⟩; refine ⟨_, rfl, ?_⟩; replace jN := kb_ jN hb; replace HB := aa.mk (au bl_ hb); (try clear hb); (try clear hb2); (try clear hk); (try clear hi); obtain ⟨zH, zI, Lu, Lv, Lx, zJ, zK, LA, LB, LC⟩ := bF jN.out) | ((with_reducible refine aN (f := 47) rfl ?_); refine bJ (some 13) rfl rfl Tryd.func47 (by kernel_rfl) rfl #[.agg #[.int .i64 ai, .int .i64 az, .int .i64 aA, .int .i64 ay, .slice bq af.length bf]] rfl mp_ ?_; (with_reducible refine (aJ.calls k ai az aA ay _ _ af yR _ ?aQ ?aT A9.out).mono ?_); (case aQ => exact cb_ (Kd.bA bV.out HB.out)); (case aT => exact dz.out); rintro e w25 ⟨v309, rfl, ho0, hb⟩; refine ⟨_, rfl, ?_⟩; have HO310 := aa.mk (Kd.dJ ho0 (aG bl_)); replace jN := kb_ jN hb; replace HB := aa.mk (au bl_ hb); (try clear hb); (try clear hb2); (try clear hk); (try clear hi); (try clear ho0); obtain ⟨Ao26, co26, eo26⟩ := Kd.dG HO310.out; subst eo26))
    go_ret; exact ⟨re_, bl_⟩
  ·rw [if_neg c8] at H; have tV : (tY == 0) = false := beq_eq_false_iff_ne.mpr c8; have BJ : (tY != 0) = true := bne_iff_ne.mpr c8; obtain rfl := Option.some.inj H; go_enter Tryd.func22, Tryd.ntmps22; go_wp2_with (first | ((with_reducible refine aY (N := 1) rfl ?_); refine aZ ?hg (N := 1) ?hd (cs := #[.int .i64 ai, .int .i64 az, .int .i64 aA, .int .i64 ay, .slice bq af.length bf]) (t := 24) ?hr ?_; (case hd => rfl); (case hg => rfl); (case hr => first | (go_simp; done) | (go_simp; rfl)); intro JE hg w27 aK hb; have jN := aa.mk (aK); have JF : aa (w.heap.size ≤ JE) := gw_ hg (aG bl_); have GE305 := JF; replace HB := aa.mk (au bl_ hb); clear hb aK hg; obtain ⟨l6, l7, mJ, mK, mM, l8, l9, mO, mP, mQ⟩ := bF jN.out) | ((with_reducible refine aN (f := 45) rfl ?_); refine bJ (some 5) rfl rfl Tryd.func45 (by kernel_rfl) rfl #[.agg #[.int .i64 ai, .int .i64 az, .int .i64 aA, .int .i64 ay, .slice bq af.length bf], .int .i64 11] rfl mp_ ?_; (with_reducible refine (bE.calls k ai az aA ay _ _ af 11 DN _ ?aQ ?aT A2.out).mono ?_); (case aQ => exact cb_ (Kd.bA bV.out HB.out)); (case aT => exact dz.out); rintro e w29 ⟨rfl, hb⟩; refine ⟨_, rfl, ?_⟩; replace jN := kb_ jN hb; replace HB := aa.mk (au bl_ hb); (try clear hb); (try clear hb2); (try clear hk); (try clear hi); obtain ⟨xz, xA, HY, H5, H6, xB, xC, H7, H8, H9⟩ := bF jN.out) | ((with_reducible refine aN (f := 46) rfl ?_); refine bJ (some 8) rfl rfl Tryd.func46 (by kernel_rfl) rfl #[.agg #[.int .i64 ai, .int .i64 az, .int .i64 aA, .int .i64 ay, .slice bq af.length bf]] rfl mp_ ?_; (with_reducible refine (av.calls k ai az aA ay _ _ af tY _ ?aQ ?aT A7.out).mono ?_); (case aQ => exact cb_ (Kd.bA bV.out HB.out)); (case aT => exact dz.out); rintro e w31 ⟨rfl, hb⟩; refine ⟨_, rfl, ?_⟩; replace jN := kb_ jN hb; replace HB := aa.mk (au bl_ hb); (try clear hb); (try clear hb2); (try clear hk); (try clear hi)))
   go_ret; exact ⟨re_, bl_⟩

end Go.Proofs.YtggelekooacmnaaDoor.Q
set_option linter.unusedVariables false
set_option linter.unusedSimpArgs false
namespace Go.Proofs.YtggelekooacmnaaDoor.Pure
open Go.RowKit Go.Proofs.YtggelekooacmnaaDoor.Q Go.Proofs.YtggelekooacmnaaDoorW.bg Go.Proofs.YtggelekooacmnaaDoorW.bP Go.Proofs.YtggelekooacmnaaDoorW.bX
-- plain laws on types: what the printed functions of the types come to
theorem Wy {n : Int} (h1 : -9223372036854775808 ≤ n) (h2 : n ≤ 9223372036854775807) : wrap64 n = n := by unfold wrap64; omega
theorem jE {n : Nat} (h2 : n ≤ 1000000000) : wrap64 ((n : Int) + 1) = ((n + 1 : Nat) : Int) := by unfold wrap64; omega
theorem rdT {l : List S24} {i : Nat} (h : i < l.length) : ag l (i : Int) = l[i] := by
  unfold ag; simp [List.getD, h]
theorem rdT0 {l : List S24} (h : 0 < l.length) : ag l 0 = l[0] := by
  unfold ag; simp [List.getD, h]
/-- bounded: n levels at most, each list of at most a thousand -/
def Bd : Nat → S24 → Prop
  | 0, _ => False
  | n + 1, t => t.f4.length ≤ 1000 ∧ ∀ x ∈ t.f4, Bd n x
theorem Bd.mono {n : Nat} : ∀ {t : S24}, Bd n t → Bd (n + 1) t := by
  induction n with
  | zero => intro t h; exact h.elim
  | succ n ih => intro t h; exact ⟨h.1, fun x hx => ih (h.2 x hx)⟩
/-- an evaluation of a function of types at a type -/
def at_ {α : Type} (g : Nat → Int → Int → Int → Int → List S24 → Option α) (t : S24) : Nat → Option α := fun k => g k t.f0 t.f1 t.f2 t.f3 t.f4
def mxl (f : S24 → Int) : List S24 → Int → Int
  | [], m => m
  | x :: l, m => mxl f l (mx m (f x))
def dep : Nat → S24 → Int
  | 0, _ => 0
  | n + 1, t => mxl (dep n) t.f4 0 + 1
theorem mx_le {a b c : Int} (h1 : a ≤ c) (h2 : b ≤ c) : mx a b ≤ c := by unfold mx; split <;> omega
theorem mx_ge {a b : Int} : a ≤ mx a b ∧ b ≤ mx a b := by unfold mx; split <;> omega
theorem J8 (f : S24 → Int) : ∀ (l : List S24) (m : Int), m ≤ mxl f l m
  | [], m => Int.le_refl _
  | x :: l, m => Int.le_trans mx_ge.1 (J8 f l _)
theorem TN {f : S24 → Int} {c : Int} : ∀ {l : List S24} {m : Int}, (∀ x ∈ l, f x ≤ c) → m ≤ c → mxl f l m ≤ c
  | [], m, _, h => h
  | x :: l, m, h, hm => TN (l := l) (fun y hy => h y (List.mem_cons_of_mem x hy)) (mx_le hm (h x List.mem_cons_self))
theorem Ps : ∀ (n : Nat) (t : S24), 0 ≤ dep n t ∧ dep n t ≤ n
  | 0, t => by simp [dep]
  | n + 1, t => by
    have h1 := J8 (dep n) t.f4 0
    have h2 := TN (f := dep n) (c := n) (l := t.f4) (m := 0) (fun x _ => (Ps n x).2) (by omega)
    simp only [dep]; omega
theorem depth_l0 (n : Nat) (hn : n ≤ 1000) (l : List S24) (hl : l.length ≤ 1000) (ih : ∀ t ∈ l, Ev (at_ cZ.f t) (dep n t)) :
    ∀ (d i : Nat) (m : Int), 0 ≤ m → m ≤ 1000 → i + d = l.length → Ev (fun k => cZ.l0 k m l l.length i) (mxl (dep n) (l.drop i) m + 1) := by
  intro d
  induction d with
  | zero =>
    intro i m h0 h1 hi
    refine ⟨1, fun k hk => ?_⟩
    obtain ⟨k, rfl⟩ : ∃ j, k = j + 1 := ⟨k - 1, by omega⟩
    simp only [cZ.l0]
    rw [if_neg (by omega), List.drop_eq_nil_of_le (by omega), Wy (by omega) (by omega)]; rfl
  | succ d IH =>
    intro i m h0 h1 hi
    have hlt : i < l.length := by omega
    obtain ⟨K1, e1⟩ := ih l[i] (List.getElem_mem hlt)
    have hb := Ps n l[i]
    obtain ⟨K2, e2⟩ := IH (i + 1) (mx m (dep n l[i])) (Int.le_trans h0 mx_ge.1) (mx_le h1 (by omega)) (by omega)
    refine ⟨max K1 K2 + 1, fun k hk => ?_⟩
    obtain ⟨k, rfl⟩ : ∃ j, k = j + 1 := ⟨k - 1, by omega⟩
    have e1' := e1 k (by omega)
    have e2' := e2 k (by omega)
    unfold at_ at e1'
    dsimp only at e1' e2'
    simp only [cZ.l0]
    rw [if_pos (by omega), if_pos (by omega), if_pos (by omega), rdT hlt, e1', Option.bind_some, jE (by omega), e2', List.drop_eq_getElem_cons hlt]; rfl
theorem TP (n : Nat) : ∀ (t : S24), n ≤ 1000 → Bd n t → Ev (at_ cZ.f t) (dep n t) := by
  induction n with
  | zero => intro t _ h; exact h.elim
  | succ n ih =>
    intro t hn hb
    have h := depth_l0 n (by omega) t.f4 hb.1 (fun x hx => ih x (by omega) (hb.2 x hx)) t.f4.length 0 0 (by omega) (by omega) (by omega)
    exact h.step (fun k => by simp only [at_, cZ.f]; rfl)
/-- the Uz depth -/
theorem mn_eq (a b : Int) : mn a b = min a b := by unfold mn; split <;> omega
theorem mx_eq (a b : Int) : mx a b = max a b := by unfold mx; split <;> omega
theorem mxl_eq (f : S24 → Int) : ∀ (l : List S24) (m c : Int), mxl (fun x => min (f x) c) l (min m c) = min (mxl f l m) c
  | [], m, c => rfl
  | x :: l, m, c => by
    simp only [mxl]
    rw [show mx (min m c) (min (f x) c) = min (mx m (f x)) c from by simp only [mx_eq]; omega]
    exact mxl_eq f l _ c
theorem Depth_l0 (n : Nat) (hn : n ≤ 1000) (l : List S24) (hl : l.length ≤ 1000) (c a b m' : Int) (hc : 1 ≤ c) (hc' : c ≤ 1000) (ih : ∀ t ∈ l, Ev (fun k => bE.f k t.f0 t.f1 t.f2 t.f3 t.f4 c) (min (dep n t) c)) (k0 : Int) :
    ∀ (d i : Nat) (m : Int), 0 ≤ m → m ≤ c → i + d = l.length → Ev (fun k => bE.l0 k (c + 1) m i k0 a b m' l) (min (mxl (fun x => min (dep n x) c) (l.drop i) m + 1) (c + 1)) := by
  intro d
  induction d with
  | zero =>
    intro i m h0 h1 hi
    refine ⟨1, fun k hk => ?_⟩
    obtain ⟨k, rfl⟩ : ∃ j, k = j + 1 := ⟨k - 1, by omega⟩
    simp only [bE.l0]
    rw [if_neg (by omega), List.drop_eq_nil_of_le (by omega), Wy (by omega) (by omega), mn_eq]; rfl
  | succ d IH =>
    intro i m h0 h1 hi
    have hlt : i < l.length := by omega
    obtain ⟨K1, e1⟩ := ih l[i] (List.getElem_mem hlt)
    have hb := Ps n l[i]
    obtain ⟨K2, e2⟩ := IH (i + 1) (mx m (min (dep n l[i]) c)) (Int.le_trans h0 mx_ge.1) (mx_le h1 (by omega)) (by omega)
    refine ⟨max K1 K2 + 1, fun k hk => ?_⟩
    obtain ⟨k, rfl⟩ : ∃ j, k = j + 1 := ⟨k - 1, by omega⟩
    have e1' := e1 k (by omega)
    have e2' := e2 k (by omega)
    dsimp only at e1' e2'
    have ew : wrap64 (c + 1 - 1) = c := by unfold wrap64; omega
    simp only [bE.l0]
    rw [if_pos (by omega), if_pos (by omega), rdT hlt, ew, e1', Option.bind_some, jE (by omega), e2', List.drop_eq_getElem_cons hlt]; rfl
theorem TQ (n : Nat) : ∀ (t : S24) (c : Int), n ≤ 1000 → 1 ≤ c → c ≤ 1000 → Bd n t → Ev (fun k => bE.f k t.f0 t.f1 t.f2 t.f3 t.f4 c) (min (dep n t) c) := by
  induction n with
  | zero => intro t c _ _ _ h; exact h.elim
  | succ n ih =>
    intro t c hn h1 h2 hb
    by_cases hc : c = 1
    · subst hc
      have hd := Ps n
      have hd1 : 1 ≤ dep (n + 1) t := by have := J8 (dep n) t.f4 0; simp only [dep]; omega
      refine ⟨1, fun k hk => ?_⟩
      obtain ⟨k, rfl⟩ : ∃ j, k = j + 1 := ⟨k - 1, by omega⟩
      simp only [bE.f]
      rw [if_neg (by omega)]
      have : min (dep (n + 1) t) 1 = 1 := by omega
      rw [this]
      split
      · rfl
      · rw [mn_eq]; rfl
    · obtain ⟨c, rfl⟩ : ∃ e, c = e + 1 := ⟨c - 1, by omega⟩
      have h := Depth_l0 n (by omega) t.f4 hb.1 c t.f1 t.f2 t.f3 (by omega) (by omega) (fun x hx => ih x c (by omega) (by omega) (by omega) (hb.2 x hx)) t.f0 t.f4.length 0 0 (by omega) (by omega) (by omega)
      have e : min (mxl (fun x => min (dep n x) c) (t.f4.drop 0) 0 + 1) (c + 1) = min (dep (n + 1) t) (c + 1) := by
        have := mxl_eq (dep n) t.f4 0 c
        rw [show min (0 : Int) c = 0 from by omega] at this
        simp only [dep, List.drop_zero, this]; omega
      rw [← e]
      exact h.step (fun k => by simp only [bE.f]; rw [if_pos (by omega)]; rfl)

end Go.Proofs.YtggelekooacmnaaDoor.Pure
set_option linter.unusedVariables false
set_option linter.unusedSimpArgs false
namespace Go.Proofs.YtggelekooacmnaaDoor.Pure
open Go.RowKit Go.Proofs.YtggelekooacmnaaDoor.Q Go.Proofs.YtggelekooacmnaaDoorW.bg Go.Proofs.YtggelekooacmnaaDoorW.bP Go.Proofs.YtggelekooacmnaaDoorW.bX
-- faults
def fl1 (f : S24 → Int) : List S24 → Int
  | [] => 0
  | x :: l => if f x = 0 then (if x.f0 = 3 then 8 else if x.f0 = 4 then 8 else fl1 f l) else f x
abbrev unus (a0 a1 a2 a3 : Int) (l : List S24) : Prop := (a0 ≠ 2 ∧ (a1 ≠ 0 ∨ a2 ≠ 0)) ∨ (a0 ≠ 6 ∧ a3 ≠ 0) ∨ (a0 < 5 ∧ l.length ≠ 0)
def lst1 (f : S24 → Int) : List S24 → Int
  | [x] => if f x = 0 then (if x.f0 = 1 then 0 else if x.f0 = 2 then 0 else 8) else f x
  | _ => 2
def flt : Nat → S24 → Int
  | 0, _ => 0
  | n + 1, t => if t.f0 < 1 ∨ 6 < t.f0 then 14 else if unus t.f0 t.f1 t.f2 t.f3 t.f4 then 2
    else if t.f0 = 2 then (if t.f1 < -1000 ∨ t.f1 > t.f2 ∨ t.f2 > 1000 then 1 else 0)
    else if t.f0 = 5 then (if t.f4.length < 2 ∨ t.f4.length > 4 then 1 else fl1 (flt n) t.f4)
    else if t.f0 = 6 then (if t.f3 < 1 ∨ t.f3 > 4 then 1 else lst1 (flt n) t.f4)
    else 0
theorem Ob {a : Int} (h : ¬ (a < 1 ∨ 6 < a)) : a = 1 ∨ a = 2 ∨ a = 3 ∨ a = 4 ∨ a = 5 ∨ a = 6 := by omega
theorem SG {a0 a1 a2 a3 : Int} {l : List S24} (h : ¬ (a0 < 1 ∨ 6 < a0)) : iJ.f a0 a1 a2 a3 l = some (decide (unus a0 a1 a2 a3 l)) := by
  unfold iJ.f unus
  rcases Ob h with rfl | rfl | rfl | rfl | rfl | rfl <;> by_cases h1 : a1 = 0 <;> by_cases h2 : a2 = 0 <;> by_cases h3 : a3 = 0 <;> by_cases h4 : l = [] <;> simp [h1, h2, h3, h4]
theorem fault_l0 (n : Nat) (l : List S24) (hl : l.length ≤ 1000) (ih : ∀ t ∈ l, Ev (at_ aW.f t) (flt n t)) :
    ∀ (d i : Nat), i + d = l.length → Ev (fun k => aW.l0 k l l.length i) (fl1 (flt n) (l.drop i)) := by
  intro d
  induction d with
  | zero =>
    intro i hi
    refine ⟨1, fun k hk => ?_⟩
    obtain ⟨k, rfl⟩ : ∃ j, k = j + 1 := ⟨k - 1, by omega⟩
    simp only [aW.l0]
    rw [if_neg (by omega), List.drop_eq_nil_of_le (by omega)]; rfl
  | succ d IH =>
    intro i hi
    have hlt : i < l.length := by omega
    obtain ⟨K1, e1⟩ := ih l[i] (List.getElem_mem hlt)
    obtain ⟨K2, e2⟩ := IH (i + 1) (by omega)
    refine ⟨max K1 K2 + 1, fun k hk => ?_⟩
    obtain ⟨k, rfl⟩ : ∃ j, k = j + 1 := ⟨k - 1, by omega⟩
    have e1' := e1 k (by omega)
    have e2' := e2 k (by omega)
    unfold at_ at e1'
    dsimp only at e1' e2'
    simp only [aW.l0]
    rw [if_pos (by omega), if_pos (by omega), if_pos (by omega), rdT hlt, e1', Option.bind_some, jE (by omega), e2', List.drop_eq_getElem_cons hlt]
    simp only [fl1]
    repeat' split
    all_goals rfl
theorem TR (n : Nat) : ∀ (t : S24), n ≤ 1000 → Bd n t → Ev (at_ aW.f t) (flt n t) := by
  induction n with
  | zero => intro t _ h; exact h.elim
  | succ n ih =>
    intro t hn hb
    obtain ⟨a0, a1, a2, a3, l⟩ := t
    have hl : l.length ≤ 1000 := hb.1
    by_cases hk : a0 < 1 ∨ 6 < a0
    · refine ⟨2, fun k hk2 => ?_⟩
      obtain ⟨k, rfl⟩ : ∃ j, k = j + 2 := ⟨k - 2, by omega⟩
      simp only [at_, aW.f, flt]
      rw [if_pos hk]
      split
      · simp only [aW.j0, if_true]
      · rw [show decide (a0 > 6) = true from by simp; omega]; simp only [aW.j0, if_true]
    · have hj : ∀ k, at_ aW.f ⟨a0, a1, a2, a3, l⟩ (k + 2) = aW.j0 (k + 1) false a0 a1 a2 a3 l := by
        intro k
        simp only [at_, aW.f]
        rw [if_neg (by omega), show decide (a0 > 6) = false from by simp; omega]
      by_cases hu : unus a0 a1 a2 a3 l
      · refine ⟨2, fun k hk2 => ?_⟩
        obtain ⟨k, rfl⟩ : ∃ j, k = j + 2 := ⟨k - 2, by omega⟩
        rw [hj]
        simp only [aW.j0]
        rw [SG hk, decide_eq_true hu]
        simp only [flt, if_neg hk, if_pos hu]; rfl
      · have hj0 : ∀ k, at_ aW.f ⟨a0, a1, a2, a3, l⟩ (k + 2) = (if a0 = 2 then (if a1 < (-1000) then (some 1) else (if a1 > a2 then (some 1) else (if a2 > 1000 then (some 1) else (some 0)))) else (if a0 = 5 then (if (l.length : Int) < 2 then (aW.j1 k true a0 a1 a2 a3 l) else (aW.j1 k (decide ((l.length : Int) > 4)) a0 a1 a2 a3 l)) else (if a0 = 6 then (if a3 < 1 then (aW.j3 k true a0 a1 a2 a3 l) else (aW.j3 k (decide (a3 > 4)) a0 a1 a2 a3 l)) else (some 0)))) := by
          intro k
          rw [hj]
          simp only [aW.j0]
          rw [SG hk, decide_eq_false hu]; rfl
        have hs : flt (n + 1) ⟨a0, a1, a2, a3, l⟩ = (if a0 = 2 then (if a1 < -1000 ∨ a1 > a2 ∨ a2 > 1000 then 1 else 0) else if a0 = 5 then (if l.length < 2 ∨ l.length > 4 then 1 else fl1 (flt n) l) else if a0 = 6 then (if a3 < 1 ∨ a3 > 4 then 1 else lst1 (flt n) l) else 0) := by
          simp only [flt, if_neg hk, if_neg hu]
        rw [hs]
        by_cases k2 : a0 = 2
        · refine ⟨2, fun k hk2 => ?_⟩
          obtain ⟨k, rfl⟩ : ∃ j, k = j + 2 := ⟨k - 2, by omega⟩
          rw [hj0, if_pos k2, if_pos k2]
          by_cases c1 : a1 < -1000
          · rw [if_pos c1, if_pos (by omega)]
          · by_cases c2 : a1 > a2
            · rw [if_neg c1, if_pos c2, if_pos (by omega)]
            · by_cases c3 : a2 > 1000
              · rw [if_neg c1, if_neg c2, if_pos c3, if_pos (by omega)]
              · rw [if_neg c1, if_neg c2, if_neg c3, if_neg (by omega)]
        · by_cases k5 : a0 = 5
          · by_cases c : l.length < 2 ∨ l.length > 4
            · refine ⟨3, fun k hk2 => ?_⟩
              obtain ⟨k, rfl⟩ : ∃ j, k = j + 3 := ⟨k - 3, by omega⟩
              rw [hj0, if_neg k2, if_neg k2, if_pos k5, if_pos k5, if_pos c]
              split
              · simp only [aW.j1, if_true]
              · rw [show decide ((l.length : Int) > 4) = true from by simp; omega]; simp only [aW.j1, if_true]
            · obtain ⟨K, e⟩ := fault_l0 n l hl (fun x hx => ih x (by omega) (hb.2 x hx)) l.length 0 (by omega)
              refine ⟨K + 3, fun k hk2 => ?_⟩
              obtain ⟨k, rfl⟩ : ∃ j, k = j + 3 := ⟨k - 3, by omega⟩
              rw [hj0, if_neg k2, if_neg k2, if_pos k5, if_pos k5, if_neg c, if_neg (by omega), show decide ((l.length : Int) > 4) = false from by simp; omega]
              have e' := e k (by omega)
              dsimp only at e'
              simp only [aW.j1]
              rw [if_neg (by decide)]
              exact e'
          · by_cases k6 : a0 = 6
            · by_cases c : a3 < 1 ∨ a3 > 4
              · refine ⟨3, fun k hk2 => ?_⟩
                obtain ⟨k, rfl⟩ : ∃ j, k = j + 3 := ⟨k - 3, by omega⟩
                rw [hj0, if_neg k2, if_neg k2, if_neg k5, if_neg k5, if_pos k6, if_pos k6, if_pos c]
                split
                · simp only [aW.j3, if_true]
                · rw [show decide (a3 > 4) = true from by simp; omega]; simp only [aW.j3, if_true]
              · have hj3 : ∀ k, at_ aW.f ⟨a0, a1, a2, a3, l⟩ (k + 3) = aW.j3 (k + 1) false a0 a1 a2 a3 l := by
                  intro k
                  rw [hj0, if_neg k2, if_neg k5, if_pos k6, if_neg (by omega), show decide (a3 > 4) = false from by simp; omega]
                rw [if_neg k2, if_neg k5, if_pos k6, if_neg c]
                match l, hl, hb, hj3 with
                | [x], hl, hb, hj3 =>
                  obtain ⟨K, e⟩ := ih x (by omega) (hb.2 x List.mem_cons_self)
                  refine ⟨K + 3, fun k hk2 => ?_⟩
                  obtain ⟨k, rfl⟩ : ∃ j, k = j + 3 := ⟨k - 3, by omega⟩
                  have e' := e k (by omega)
                  unfold at_ at e'
                  rw [hj3]
                  simp only [aW.j3]
                  rw [if_neg (by decide), if_pos (by simp), if_pos (by simp), rdT0 (by simp), List.getElem_cons_zero, e', Option.bind_some]
                  simp only [lst1]
                  repeat' split
                  all_goals rfl
                | [], hl, hb, hj3 =>
                  refine ⟨3, fun k hk2 => ?_⟩
                  obtain ⟨k, rfl⟩ : ∃ j, k = j + 3 := ⟨k - 3, by omega⟩
                  rw [hj3]; simp only [aW.j3]; rfl
                | x :: y :: l, hl, hb, hj3 =>
                  refine ⟨3, fun k hk2 => ?_⟩
                  obtain ⟨k, rfl⟩ : ∃ j, k = j + 3 := ⟨k - 3, by omega⟩
                  rw [hj3]; simp only [aW.j3]
                  rw [if_neg (by decide), if_neg (by simp; omega)]; rfl
            · refine ⟨2, fun k hk2 => ?_⟩
              obtain ⟨k, rfl⟩ : ∃ j, k = j + 2 := ⟨k - 2, by omega⟩
              rw [hj0]
              simp only [if_neg k2, if_neg k5, if_neg k6]
theorem wrong_j0 {a0 a1 a2 a3 : Int} {l : List S24} (k : Nat) (h : ¬ (a0 < 1 ∨ 6 < a0)) : av.j0 (k + 1) a0 false a0 a1 a2 a3 l = av.j1 k a0 (decide (unus a0 a1 a2 a3 l)) a0 a1 a2 a3 l := by
  unfold unus
  simp only [av.j0]
  rcases Ob h with rfl | rfl | rfl | rfl | rfl | rfl <;> by_cases h1 : a1 = 0 <;> by_cases h2 : a2 = 0 <;> by_cases h3 : a3 = 0 <;> by_cases h4 : l = [] <;> simp [h1, h2, h3, h4] <;> (congr 1; cases l <;> simp_all <;> omega)
theorem wrong_l0 (n : Nat) (l : List S24) (hl : l.length ≤ 1000) (a0 a1 a2 a3 : Int) (ih : ∀ t ∈ l, Ev (at_ av.f t) (flt n t)) :
    ∀ (d i : Nat), i + d = l.length → Ev (fun k => av.l0 k i a0 a1 a2 a3 l) (fl1 (flt n) (l.drop i)) := by
  intro d
  induction d with
  | zero =>
    intro i hi
    refine ⟨1, fun k hk => ?_⟩
    obtain ⟨k, rfl⟩ : ∃ j, k = j + 1 := ⟨k - 1, by omega⟩
    simp only [av.l0]
    rw [if_neg (by omega), List.drop_eq_nil_of_le (by omega)]; rfl
  | succ d IH =>
    intro i hi
    have hlt : i < l.length := by omega
    obtain ⟨K1, e1⟩ := ih l[i] (List.getElem_mem hlt)
    obtain ⟨K2, e2⟩ := IH (i + 1) (by omega)
    refine ⟨max K1 K2 + 1, fun k hk => ?_⟩
    obtain ⟨k, rfl⟩ : ∃ j, k = j + 1 := ⟨k - 1, by omega⟩
    have e1' := e1 k (by omega)
    have e2' := e2 k (by omega)
    unfold at_ at e1'
    dsimp only at e1' e2'
    simp only [av.l0]
    rw [if_pos (by omega), if_pos (by omega), rdT hlt, e1', Option.bind_some, jE (by omega), e2', List.drop_eq_getElem_cons hlt]
    simp only [fl1]
    repeat' split
    all_goals rfl
theorem TS (n : Nat) : ∀ (t : S24), n ≤ 1000 → Bd n t → Ev (at_ av.f t) (flt n t) := by
  induction n with
  | zero => intro t _ h; exact h.elim
  | succ n ih =>
    intro t hn hb
    obtain ⟨a0, a1, a2, a3, l⟩ := t
    have hl : l.length ≤ 1000 := hb.1
    by_cases hk : a0 < 1 ∨ 6 < a0
    · refine ⟨2, fun k hk2 => ?_⟩
      obtain ⟨k, rfl⟩ : ∃ j, k = j + 2 := ⟨k - 2, by omega⟩
      simp only [at_, av.f, flt]
      rw [if_pos hk]
      split
      · simp only [av.j0, if_true]
      · rw [show decide (a0 > 6) = true from by simp; omega]; simp only [av.j0, if_true]
    · have hj : ∀ k, at_ av.f ⟨a0, a1, a2, a3, l⟩ (k + 2) = av.j1 k a0 (decide (unus a0 a1 a2 a3 l)) a0 a1 a2 a3 l := by
        intro k
        simp only [at_, av.f]
        rw [if_neg (by omega), show decide (a0 > 6) = false from by simp; omega, wrong_j0 k hk]
      by_cases hu : unus a0 a1 a2 a3 l
      · refine ⟨3, fun k hk2 => ?_⟩
        obtain ⟨k, rfl⟩ : ∃ j, k = j + 3 := ⟨k - 3, by omega⟩
        rw [hj, decide_eq_true hu]
        simp only [av.j1, flt, if_neg hk, if_pos hu, if_true]
      · have hj0 : ∀ k, at_ av.f ⟨a0, a1, a2, a3, l⟩ (k + 3) = (if a0 = 2 then (if a1 < (-1000) then (some 1) else (if a1 > a2 then (some 1) else (if a2 > 1000 then (some 1) else (some 0)))) else (if a0 = 5 then (if (l.length : Int) < 2 then (av.j2 k true a0 a1 a2 a3 l) else (av.j2 k (decide ((l.length : Int) > 4)) a0 a1 a2 a3 l)) else (if a0 = 6 then (if a3 < 1 then (av.j4 k true a0 a1 a2 a3 l) else (av.j4 k (decide (a3 > 4)) a0 a1 a2 a3 l)) else (some 0)))) := by
          intro k
          rw [hj, decide_eq_false hu]
          simp only [av.j1]
          rw [if_neg (by decide)]
        have hs : flt (n + 1) ⟨a0, a1, a2, a3, l⟩ = (if a0 = 2 then (if a1 < -1000 ∨ a1 > a2 ∨ a2 > 1000 then 1 else 0) else if a0 = 5 then (if l.length < 2 ∨ l.length > 4 then 1 else fl1 (flt n) l) else if a0 = 6 then (if a3 < 1 ∨ a3 > 4 then 1 else lst1 (flt n) l) else 0) := by
          simp only [flt, if_neg hk, if_neg hu]
        rw [hs]
        by_cases k2 : a0 = 2
        · refine ⟨3, fun k hk2 => ?_⟩
          obtain ⟨k, rfl⟩ : ∃ j, k = j + 3 := ⟨k - 3, by omega⟩
          rw [hj0, if_pos k2, if_pos k2]
          by_cases c1 : a1 < -1000
          · rw [if_pos c1, if_pos (by omega)]
          · by_cases c2 : a1 > a2
            · rw [if_neg c1, if_pos c2, if_pos (by omega)]
            · by_cases c3 : a2 > 1000
              · rw [if_neg c1, if_neg c2, if_pos c3, if_pos (by omega)]
              · rw [if_neg c1, if_neg c2, if_neg c3, if_neg (by omega)]
        · by_cases k5 : a0 = 5
          · by_cases c : l.length < 2 ∨ l.length > 4
            · refine ⟨4, fun k hk2 => ?_⟩
              obtain ⟨k, rfl⟩ : ∃ j, k = j + 4 := ⟨k - 4, by omega⟩
              rw [hj0, if_neg k2, if_neg k2, if_pos k5, if_pos k5, if_pos c]
              split
              · simp only [av.j2, if_true]
              · rw [show decide ((l.length : Int) > 4) = true from by simp; omega]; simp only [av.j2, if_true]
            · obtain ⟨K, e⟩ := wrong_l0 n l hl a0 a1 a2 a3 (fun x hx => ih x (by omega) (hb.2 x hx)) l.length 0 (by omega)
              refine ⟨K + 4, fun k hk2 => ?_⟩
              obtain ⟨k, rfl⟩ : ∃ j, k = j + 4 := ⟨k - 4, by omega⟩
              rw [hj0, if_neg k2, if_neg k2, if_pos k5, if_pos k5, if_neg c, if_neg (by omega), show decide ((l.length : Int) > 4) = false from by simp; omega]
              have e' := e k (by omega)
              dsimp only at e'
              simp only [av.j2]
              rw [if_neg (by decide)]
              exact e'
          · by_cases k6 : a0 = 6
            · by_cases c : a3 < 1 ∨ a3 > 4
              · refine ⟨4, fun k hk2 => ?_⟩
                obtain ⟨k, rfl⟩ : ∃ j, k = j + 4 := ⟨k - 4, by omega⟩
                rw [hj0, if_neg k2, if_neg k2, if_neg k5, if_neg k5, if_pos k6, if_pos k6, if_pos c]
                split
                · simp only [av.j4, if_true]
                · rw [show decide (a3 > 4) = true from by simp; omega]; simp only [av.j4, if_true]
              · have hj3 : ∀ k, at_ av.f ⟨a0, a1, a2, a3, l⟩ (k + 4) = av.j4 (k + 1) false a0 a1 a2 a3 l := by
                  intro k
                  rw [hj0, if_neg k2, if_neg k5, if_pos k6, if_neg (by omega), show decide (a3 > 4) = false from by simp; omega]
                rw [if_neg k2, if_neg k5, if_pos k6, if_neg c]
                match l, hl, hb, hj3 with
                | [x], hl, hb, hj3 =>
                  obtain ⟨K, e⟩ := ih x (by omega) (hb.2 x List.mem_cons_self)
                  refine ⟨K + 4, fun k hk2 => ?_⟩
                  obtain ⟨k, rfl⟩ : ∃ j, k = j + 4 := ⟨k - 4, by omega⟩
                  have e' := e k (by omega)
                  unfold at_ at e'
                  rw [hj3]
                  simp only [av.j4]
                  rw [if_neg (by decide), if_pos (by simp), if_pos (by simp), rdT0 (by simp), List.getElem_cons_zero, e', Option.bind_some]
                  simp only [lst1]
                  repeat' split
                  all_goals rfl
                | [], hl, hb, hj3 =>
                  refine ⟨4, fun k hk2 => ?_⟩
                  obtain ⟨k, rfl⟩ : ∃ j, k = j + 4 := ⟨k - 4, by omega⟩
                  rw [hj3]; simp only [av.j4]; rfl
                | x :: y :: l, hl, hb, hj3 =>
                  refine ⟨4, fun k hk2 => ?_⟩
                  obtain ⟨k, rfl⟩ : ∃ j, k = j + 4 := ⟨k - 4, by omega⟩
                  rw [hj3]; simp only [av.j4]
                  rw [if_neg (by decide), if_neg (by simp; omega)]; rfl
            · refine ⟨3, fun k hk2 => ?_⟩
              obtain ⟨k, rfl⟩ : ∃ j, k = j + 3 := ⟨k - 3, by omega⟩
              rw [hj0]
              simp only [if_neg k2, if_neg k5, if_neg k6]

end Go.Proofs.YtggelekooacmnaaDoor.Pure
set_option linter.unusedVariables false
set_option linter.unusedSimpArgs false
namespace Go.Proofs.YtggelekooacmnaaDoor.Pure
open Go.RowKit Go.Proofs.YtggelekooacmnaaDoor.Q Go.Proofs.YtggelekooacmnaaDoorW.bg Go.Proofs.YtggelekooacmnaaDoorW.bP Go.Proofs.YtggelekooacmnaaDoorW.bX
-- valid types, their parts, Validate
inductive Vt : Nat → S24 → Prop
  | bool (n : Nat) : Vt (n + 1) ⟨1, 0, 0, 0, []⟩
  | int (n : Nat) (lo hi : Int) (h1 : -1000 ≤ lo) (h2 : lo ≤ hi) (h3 : hi ≤ 1000) : Vt (n + 1) ⟨2, lo, hi, 0, []⟩
  | nat (n : Nat) : Vt (n + 1) ⟨3, 0, 0, 0, []⟩
  | real (n : Nat) : Vt (n + 1) ⟨4, 0, 0, 0, []⟩
  | tup (n : Nat) (l : List S24) (h1 : 2 ≤ l.length) (h2 : l.length ≤ 4) (h3 : ∀ x ∈ l, Vt n x) (h4 : ∀ x ∈ l, x.f0 ≠ 3 ∧ x.f0 ≠ 4) : Vt (n + 1) ⟨5, 0, 0, 0, l⟩
  | lst (n : Nat) (m : Int) (x : S24) (h1 : 1 ≤ m) (h2 : m ≤ 4) (h3 : Vt n x) (h4 : x.f0 = 1 ∨ x.f0 = 2) : Vt (n + 1) ⟨6, 0, 0, m, [x]⟩
theorem Vt.up {n : Nat} : ∀ {t : S24}, Vt n t → Vt (n + 1) t := by
  induction n with
  | zero => intro t h; cases h
  | succ n ih =>
    intro t h
    cases h with
    | bool => exact .bool _
    | int _ lo hi h1 h2 h3 => exact .int _ _ _ h1 h2 h3
    | nat => exact .nat _
    | real => exact .real _
    | tup _ l h1 h2 h3 h4 => exact .tup _ _ h1 h2 (fun x hx => ih (h3 x hx)) h4
    | lst _ m x h1 h2 h3 h4 => exact .lst _ _ _ h1 h2 (ih h3) h4
theorem Vt.mono {n m : Nat} (h : n ≤ m) {t : S24} (ht : Vt n t) : Vt m t := by
  induction h with
  | refl => exact ht
  | step _ ih => exact ih.up
theorem Vt.bd {n : Nat} : ∀ {t : S24}, Vt n t → Bd n t := by
  induction n with
  | zero => intro t h; cases h
  | succ n ih =>
    intro t h
    cases h with
    | bool => exact ⟨by simp, by simp⟩
    | int _ lo hi h1 h2 h3 => exact ⟨by simp, by simp⟩
    | nat => exact ⟨by simp, by simp⟩
    | real => exact ⟨by simp, by simp⟩
    | tup _ l h1 h2 h3 h4 => exact ⟨by show l.length ≤ 1000; omega, fun x hx => ih (h3 x hx)⟩
    | lst _ m x h1 h2 h3 h4 => exact ⟨by simp, fun y hy => by simp at hy; subst hy; exact ih h3⟩
theorem Oc {f : S24 → Int} : ∀ {l : List S24}, fl1 f l = 0 ↔ ∀ x ∈ l, f x = 0 ∧ x.f0 ≠ 3 ∧ x.f0 ≠ 4
  | [] => by simp [fl1]
  | x :: l => by
    simp only [fl1, List.forall_mem_cons]
    by_cases h : f x = 0
    · by_cases h3 : x.f0 = 3
      · simp [h, h3]
      · by_cases h4 : x.f0 = 4
        · simp [h, h4]
        · simp only [h, h3, h4, if_true, if_false, true_and, not_false_eq_true, ne_eq, Oc]
    · simp [h]
theorem flt_vt (n : Nat) : ∀ {t : S24}, Bd n t → flt n t = 0 → Vt n t := by
  induction n with
  | zero => intro t h; exact h.elim
  | succ n ih =>
    intro t hb h
    obtain ⟨a0, a1, a2, a3, l⟩ := t
    simp only [flt] at h
    by_cases hk : a0 < 1 ∨ 6 < a0
    · rw [if_pos hk] at h; omega
    · rw [if_neg hk] at h
      by_cases hu : unus a0 a1 a2 a3 l
      · rw [if_pos hu] at h; omega
      · rw [if_neg hu] at h
        unfold unus at hu
        have hnil : a0 < 5 → l = [] := fun h5 => List.eq_nil_of_length_eq_zero (by omega)
        rcases Ob hk with rfl | rfl | rfl | rfl | rfl | rfl
        · obtain rfl := hnil (by omega)
          obtain rfl : a1 = 0 := by omega
          obtain rfl : a2 = 0 := by omega
          obtain rfl : a3 = 0 := by omega
          exact .bool _
        · obtain rfl := hnil (by omega)
          obtain rfl : a3 = 0 := by omega
          simp at h
          exact .int _ _ _ (by omega) (by omega) (by omega)
        · obtain rfl := hnil (by omega)
          obtain rfl : a1 = 0 := by omega
          obtain rfl : a2 = 0 := by omega
          obtain rfl : a3 = 0 := by omega
          exact .nat _
        · obtain rfl := hnil (by omega)
          obtain rfl : a1 = 0 := by omega
          obtain rfl : a2 = 0 := by omega
          obtain rfl : a3 = 0 := by omega
          exact .real _
        · obtain rfl : a1 = 0 := by omega
          obtain rfl : a2 = 0 := by omega
          obtain rfl : a3 = 0 := by omega
          rw [if_neg (by omega), if_pos rfl] at h
          by_cases hc : l.length < 2 ∨ l.length > 4
          · rw [if_pos hc] at h; omega
          · rw [if_neg hc, Oc] at h
            exact .tup _ _ (by omega) (by omega) (fun x hx => ih (hb.2 x hx) (h x hx).1) (fun x hx => (h x hx).2)
        · obtain rfl : a1 = 0 := by omega
          obtain rfl : a2 = 0 := by omega
          rw [if_neg (by omega), if_neg (by omega), if_pos rfl] at h
          by_cases hc : a3 < 1 ∨ a3 > 4
          · rw [if_pos hc] at h; omega
          · rw [if_neg hc] at h
            match l, hb, h with
            | [x], hb, h =>
              simp only [lst1] at h
              by_cases hx : flt n x = 0
              · rw [if_pos hx] at h
                refine .lst _ _ _ (by omega) (by omega) (ih (hb.2 x List.mem_cons_self) hx) ?_
                by_cases h1 : x.f0 = 1
                · exact .inl h1
                · by_cases h2 : x.f0 = 2
                  · exact .inr h2
                  · simp [h1, h2] at h
              · rw [if_neg hx] at h; exact absurd h hx
            | [], _, h => simp [lst1] at h
            | _ :: _ :: _, _, h => simp [lst1] at h
theorem vt_flt (n : Nat) : ∀ {t : S24}, Vt n t → flt n t = 0 := by
  induction n with
  | zero => intro t h; cases h
  | succ n ih =>
    intro t h
    cases h with
    | bool => simp [flt]
    | int _ lo hi h1 h2 h3 =>
      simp only [flt]
      rw [if_neg (by omega), if_neg (by simp), if_pos trivial, if_neg (by omega)]
    | nat => simp [flt]
    | real => simp [flt]
    | tup _ l h1 h2 h3 h4 =>
      simp only [flt]
      rw [if_neg (by omega), if_neg (by simp), if_neg (by omega), if_pos trivial, if_neg (by omega), Oc]
      exact fun x hx => ⟨ih (h3 x hx), h4 x hx⟩
    | lst _ m x h1 h2 h3 h4 =>
      simp only [flt]
      rw [if_neg (by omega), if_neg (by simp), if_neg (by omega), if_neg (by omega), if_pos trivial, if_neg (by omega)]
      simp only [lst1]
      rw [if_pos (ih h3)]
      rcases h4 with h4 | h4 <;> simp [h4]
theorem vt_dep (n : Nat) : ∀ {t : S24}, Vt n t → ∀ m, dep m t ≤ n := by
  induction n with
  | zero => intro t h; cases h
  | succ n ih =>
    intro t h m
    cases m with
    | zero => simp [dep]; omega
    | succ m =>
      simp only [dep]
      have : mxl (dep m) t.f4 0 ≤ n := by
        refine TN (fun x hx => ?_) (by omega)
        cases h with
        | bool => simp at hx
        | int _ lo hi h1 h2 h3 => simp at hx
        | nat => simp at hx
        | real => simp at hx
        | tup _ l h1 h2 h3 h4 => exact ih (h3 x hx) m
        | lst _ m' y h1 h2 h3 h4 => simp at hx; subst hx; exact ih h3 m
      omega
theorem R3 {f : S24 → Int} : ∀ {l : List S24} {m : Int} {x : S24}, x ∈ l → f x ≤ mxl f l m
  | y :: l, m, x, h => by
    simp only [mxl]
    rcases List.mem_cons.1 h with rfl | h
    · exact Int.le_trans mx_ge.2 (J8 f l _)
    · exact R3 h
theorem vt_low (n : Nat) : ∀ {t : S24} (d : Nat), Vt n t → dep n t ≤ d → Vt d t := by
  induction n with
  | zero => intro t d h; cases h
  | succ n ih =>
    intro t d h hd
    simp only [dep] at hd
    have h0 := J8 (dep n) t.f4 0
    obtain ⟨d, rfl⟩ : ∃ e, d = e + 1 := ⟨d - 1, by omega⟩
    cases h with
    | bool => exact .bool _
    | int _ lo hi h1 h2 h3 => exact .int _ _ _ h1 h2 h3
    | nat => exact .nat _
    | real => exact .real _
    | tup _ l h1 h2 h3 h4 => exact .tup _ _ h1 h2 (fun x hx => ih d (h3 x hx) (by have := R3 (f := dep n) (m := 0) hx; simp only at hd; omega)) h4
    | lst _ m x h1 h2 h3 h4 => exact .lst _ _ _ h1 h2 (ih d h3 (by have := R3 (f := dep n) (m := 0) (x := x) (l := [x]) List.mem_cons_self; simp only at hd; omega)) h4
def prt : Nat → S24 → List S41
  | 0, _ => []
  | n + 1, t => if t.f0 = 1 then [⟨1, 0, 1⟩] else if t.f0 = 2 then [⟨2, t.f1, t.f2⟩] else if t.f0 = 3 ∨ t.f0 = 4 then [⟨t.f0, 0, 0⟩]
    else if t.f0 = 6 then ⟨2, 0, t.f3⟩ :: (List.replicate t.f3.toNat (prt n (ag t.f4 0))).flatten else (t.f4.map (prt n)).flatten
theorem TT {l : List S24} {f : S24 → List S41} {c : Nat} (h : ∀ x ∈ l, (f x).length ≤ c) : (l.map f).flatten.length ≤ l.length * c := by
  induction l with
  | nil => simp
  | cons x l ih =>
    have h1 := h x List.mem_cons_self
    have h2 := ih (fun y hy => h y (List.mem_cons_of_mem x hy))
    simp only [List.map_cons, List.flatten_cons, List.length_append, List.length_cons, Nat.add_mul]
    omega
theorem ML {α : Type} (m : Nat) (l : List α) : (List.replicate m l).flatten.length = m * l.length := by simp
theorem rd1 (x : S24) : ag [x] 0 = x := by simp [ag]
theorem ET (n : Nat) : ∀ {t : S24}, Vt n t → (prt n t).length ≤ 5 ^ n ∧ 1 ≤ (prt n t).length := by
  induction n with
  | zero => intro t h; cases h
  | succ n ih =>
    intro t h
    have hp : 1 ≤ 5 ^ n := Nat.pos_of_ne_zero (by simp)
    have h5 : 5 ^ (n + 1) = 5 ^ n * 5 := Nat.pow_succ ..
    cases h with
    | bool => simp [prt]; omega
    | int _ lo hi h1 h2 h3 => simp [prt]; omega
    | nat => simp [prt]; omega
    | real => simp [prt]; omega
    | tup _ l h1 h2 h3 h4 =>
      have e : prt (n + 1) ⟨5, 0, 0, 0, l⟩ = (l.map (prt n)).flatten := by simp [prt]
      rw [e]
      have hl := TT (fun x hx => (ih (h3 x hx)).1)
      have : l.length * 5 ^ n ≤ 4 * 5 ^ n := Nat.mul_le_mul_right _ h2
      refine ⟨by omega, ?_⟩
      match l, h1, h3 with
      | x :: l, _, h3 =>
        have := (ih (h3 x List.mem_cons_self)).2
        simp only [List.map_cons, List.flatten_cons, List.length_append]; omega
    | lst _ m x h1 h2 h3 h4 =>
      have e : prt (n + 1) ⟨6, 0, 0, m, [x]⟩ = ⟨2, 0, m⟩ :: (List.replicate m.toNat (prt n x)).flatten := by simp [prt, rd1]
      have e1 : (prt n x).length = 1 := by
        cases h3 with
        | bool => simp [prt]
        | int _ lo hi h1 h2 h3 => simp [prt]
        | nat => simp at h4
        | real => simp at h4
        | tup _ l _ _ _ _ => simp at h4
        | lst _ m x _ _ _ _ => simp at h4
      rw [e, List.length_cons, ML, e1]
      omega

end Go.Proofs.YtggelekooacmnaaDoor.Pure
set_option linter.unusedVariables false
set_option linter.unusedSimpArgs false
namespace Go.Proofs.YtggelekooacmnaaDoor.Pure
open Go.RowKit Go.Proofs.YtggelekooacmnaaDoor.Q Go.Proofs.YtggelekooacmnaaDoorW.bg Go.Proofs.YtggelekooacmnaaDoorW.bP Go.Proofs.YtggelekooacmnaaDoorW.bX
-- width, Parts, Validate
theorem wid_l0 (n : Nat) (l : List S24) (hl : l.length ≤ 4) (B : Nat) (hB : B ≤ 10000000) (ih : ∀ t ∈ l, Ev (at_ bW.f t) ((prt n t).length : Int) ∧ (prt n t).length ≤ B) :
    ∀ (d i m : Nat), m ≤ i * B → i + d = l.length → Ev (fun k => bW.l0 k m l l.length i) ((m + ((l.drop i).map (prt n)).flatten.length : Nat) : Int) := by
  intro d
  induction d with
  | zero =>
    intro i m h0 hi
    refine ⟨1, fun k hk => ?_⟩
    obtain ⟨k, rfl⟩ : ∃ j, k = j + 1 := ⟨k - 1, by omega⟩
    simp only [bW.l0]
    rw [if_neg (by omega), List.drop_eq_nil_of_le (by omega)]; rfl
  | succ d IH =>
    intro i m h0 hi
    have hlt : i < l.length := by omega
    obtain ⟨⟨K1, e1⟩, hb⟩ := ih l[i] (List.getElem_mem hlt)
    have hm : m + (prt n l[i]).length ≤ (i + 1) * B := by rw [Nat.add_mul]; omega
    have hm2 : (i + 1) * B ≤ 4 * B := Nat.mul_le_mul_right _ (by omega)
    obtain ⟨K2, e2⟩ := IH (i + 1) (m + (prt n l[i]).length) hm (by omega)
    refine ⟨max K1 K2 + 1, fun k hk => ?_⟩
    obtain ⟨k, rfl⟩ : ∃ j, k = j + 1 := ⟨k - 1, by omega⟩
    have e1' := e1 k (by omega)
    have e2' := e2 k (by omega)
    unfold at_ at e1'
    dsimp only at e1' e2'
    simp only [bW.l0]
    have ew : wrap64 ((m : Int) + ((prt n l[i]).length : Int)) = ((m + (prt n l[i]).length : Nat) : Int) := by unfold wrap64; omega
    rw [if_pos (by omega), if_pos (by omega), if_pos (by omega), rdT hlt, e1', Option.bind_some, jE (by omega), ew, e2', List.drop_eq_getElem_cons hlt]
    simp only [List.map_cons, List.flatten_cons, List.length_append, Nat.add_assoc]
theorem Pt {n : Nat} {x : S24} (h3 : Vt n x) (h4 : x.f0 = 1 ∨ x.f0 = 2) : (prt n x).length = 1 := by
  cases h3 with
  | bool => simp [prt]
  | int _ lo hi h1 h2 h3 => simp [prt]
  | nat => simp at h4
  | real => simp at h4
  | tup _ l _ _ _ _ => simp at h4
  | lst _ m x _ _ _ _ => simp at h4
theorem prt5 (n : Nat) (a1 a2 a3 : Int) (l : List S24) : prt (n + 1) ⟨5, a1, a2, a3, l⟩ = (l.map (prt n)).flatten := by simp [prt]
theorem prt6 (n : Nat) (a1 a2 m : Int) (x : S24) : prt (n + 1) ⟨6, a1, a2, m, [x]⟩ = ⟨2, 0, m⟩ :: (List.replicate m.toNat (prt n x)).flatten := by simp [prt, rd1]
theorem pow5 {n : Nat} (h : n ≤ 9) : 5 ^ n ≤ 5 ^ 9 := Nat.pow_le_pow_right (by omega) h
theorem TU (n : Nat) : ∀ {t : S24}, n ≤ 10 → Vt n t → Ev (at_ bW.f t) ((prt n t).length : Int) := by
  induction n with
  | zero => intro t _ h; cases h
  | succ n ih =>
    intro t hn h
    have one : ∀ a0 a1 a2 a3 : Int, ∀ l, a0 ≠ 5 → a0 ≠ 6 → Ev (at_ bW.f ⟨a0, a1, a2, a3, l⟩) (1 : Int) := by
      intro a0 a1 a2 a3 l h5 h6
      refine ⟨1, fun k hk => ?_⟩
      obtain ⟨k, rfl⟩ : ∃ j, k = j + 1 := ⟨k - 1, by omega⟩
      simp only [at_, bW.f, if_neg h5, if_neg h6]
    cases h with
    | bool => exact one _ _ _ _ _ (by decide) (by decide)
    | int _ lo hi h1 h2 h3 => exact one _ _ _ _ _ (by decide) (by decide)
    | nat => exact one _ _ _ _ _ (by decide) (by decide)
    | real => exact one _ _ _ _ _ (by decide) (by decide)
    | tup _ l h1 h2 h3 h4 =>
      have hp := pow5 (show n ≤ 9 by omega)
      obtain ⟨K, e⟩ := wid_l0 n l h2 (5 ^ n) (by omega) (fun x hx => ⟨ih (by omega) (h3 x hx), (ET n (h3 x hx)).1⟩) l.length 0 0 (by omega) (by omega)
      rw [prt5]
      refine ⟨K + 1, fun k hk => ?_⟩
      obtain ⟨k, rfl⟩ : ∃ j, k = j + 1 := ⟨k - 1, by omega⟩
      have e' := e k (by omega)
      simp only [at_, bW.f, if_pos]
      simpa using e'
    | lst _ m x h1 h2 h3 h4 =>
      obtain ⟨K, e⟩ := ih (by omega) h3
      have e1 := Pt h3 h4
      rw [prt6, List.length_cons, ML, e1]
      refine ⟨K + 1, fun k hk => ?_⟩
      obtain ⟨k, rfl⟩ : ∃ j, k = j + 1 := ⟨k - 1, by omega⟩
      have e' := e k (by omega)
      unfold at_ at e'
      simp only [at_, bW.f]
      rw [if_neg (by decide), if_pos trivial, if_pos (by simp), rd1, e', Option.bind_some, e1]
      have : wrap64 (1 + wrap64 (m * ((1 : Nat) : Int))) = ((m.toNat * 1 + 1 : Nat) : Int) := by unfold wrap64; omega
      rw [this]
theorem Parts_l0 (n : Nat) (x : S24) (a0 a1 a2 m : Int) (hm : m ≤ 4) (ih : Ev (at_ aJ.f x) (prt n x)) (hx : (prt n x).length = 1) :
    ∀ (d i : Nat) (o : List S41), o.length ≤ i + 1 → (i : Int) + d = m → Ev (fun k => aJ.l0 k o i a0 a1 a2 m [x]) (o ++ (List.replicate d (prt n x)).flatten) := by
  intro d
  induction d with
  | zero =>
    intro i o ho hi
    refine ⟨1, fun k hk => ?_⟩
    obtain ⟨k, rfl⟩ : ∃ j, k = j + 1 := ⟨k - 1, by omega⟩
    simp only [aJ.l0]
    rw [if_neg (by omega)]; simp
  | succ d IH =>
    intro i o ho hi
    obtain ⟨K1, e1⟩ := ih
    obtain ⟨K2, e2⟩ := IH (i + 1) (o ++ prt n x) (by rw [List.length_append]; omega) (by omega)
    refine ⟨max K1 K2 + 1, fun k hk => ?_⟩
    obtain ⟨k, rfl⟩ : ∃ j, k = j + 1 := ⟨k - 1, by omega⟩
    have e1' := e1 k (by omega)
    have e2' := e2 k (by omega)
    unfold at_ at e1'
    dsimp only at e1' e2'
    simp only [aJ.l0]
    rw [if_pos (by omega), if_pos (by simp), rd1, e1', Option.bind_some, if_pos (by omega), jE (by omega), e2', List.append_assoc]
    simp only [List.replicate_succ, List.flatten_cons]
theorem Parts_l1 (n : Nat) (l : List S24) (hl : l.length ≤ 4) (a0 a1 a2 a3 : Int) (B : Nat) (hB : B ≤ 10000000) (ih : ∀ t ∈ l, Ev (at_ aJ.f t) (prt n t) ∧ (prt n t).length ≤ B) :
    ∀ (d i : Nat) (o : List S41), o.length ≤ i * B → i + d = l.length → Ev (fun k => aJ.l1 k o i a0 a1 a2 a3 l) (o ++ ((l.drop i).map (prt n)).flatten) := by
  intro d
  induction d with
  | zero =>
    intro i o ho hi
    refine ⟨1, fun k hk => ?_⟩
    obtain ⟨k, rfl⟩ : ∃ j, k = j + 1 := ⟨k - 1, by omega⟩
    simp only [aJ.l1]
    rw [if_neg (by omega), List.drop_eq_nil_of_le (by omega)]; simp
  | succ d IH =>
    intro i o ho hi
    have hlt : i < l.length := by omega
    obtain ⟨⟨K1, e1⟩, hb⟩ := ih l[i] (List.getElem_mem hlt)
    have hm : (o ++ prt n l[i]).length ≤ (i + 1) * B := by rw [List.length_append, Nat.add_mul]; omega
    have hm2 : (i + 1) * B ≤ 4 * B := Nat.mul_le_mul_right _ (by omega)
    obtain ⟨K2, e2⟩ := IH (i + 1) (o ++ prt n l[i]) hm (by omega)
    refine ⟨max K1 K2 + 1, fun k hk => ?_⟩
    obtain ⟨k, rfl⟩ : ∃ j, k = j + 1 := ⟨k - 1, by omega⟩
    have e1' := e1 k (by omega)
    have e2' := e2 k (by omega)
    unfold at_ at e1'
    dsimp only at e1' e2'
    simp only [aJ.l1]
    rw [List.length_append] at hm
    rw [if_pos (by omega), if_pos (by omega), rdT hlt, e1', Option.bind_some, if_pos (by omega), jE (by omega), e2', List.append_assoc, List.drop_eq_getElem_cons hlt]
    simp only [List.map_cons, List.flatten_cons]
theorem TV (n : Nat) : ∀ {t : S24}, n ≤ 10 → Vt n t → Ev (at_ aJ.f t) (prt n t) := by
  induction n with
  | zero => intro t _ h; cases h
  | succ n ih =>
    intro t hn h
    cases h with
    | bool =>
      refine ⟨2, fun k hk => ?_⟩
      obtain ⟨k, rfl⟩ : ∃ j, k = j + 2 := ⟨k - 2, by omega⟩
      simp [at_, aJ.f, prt]
    | int _ lo hi h1 h2 h3 =>
      refine ⟨2, fun k hk => ?_⟩
      obtain ⟨k, rfl⟩ : ∃ j, k = j + 2 := ⟨k - 2, by omega⟩
      simp [at_, aJ.f, prt]
    | nat =>
      refine ⟨2, fun k hk => ?_⟩
      obtain ⟨k, rfl⟩ : ∃ j, k = j + 2 := ⟨k - 2, by omega⟩
      simp [at_, aJ.f, aJ.j0, prt]
    | real =>
      refine ⟨2, fun k hk => ?_⟩
      obtain ⟨k, rfl⟩ : ∃ j, k = j + 2 := ⟨k - 2, by omega⟩
      simp [at_, aJ.f, aJ.j0, prt]
    | tup _ l h1 h2 h3 h4 =>
      have hp := pow5 (show n ≤ 9 by omega)
      obtain ⟨K, e⟩ := Parts_l1 n l h2 5 0 0 0 (5 ^ n) (by omega) (fun x hx => ⟨ih (by omega) (h3 x hx), (ET n (h3 x hx)).1⟩) l.length 0 [] (by simp) (by omega)
      rw [prt5]
      refine ⟨K + 2, fun k hk => ?_⟩
      obtain ⟨k, rfl⟩ : ∃ j, k = j + 2 := ⟨k - 2, by omega⟩
      have e' := e k (by omega)
      simp [at_, aJ.f, aJ.j0]
      simpa using e'
    | lst _ m x h1 h2 h3 h4 =>
      have e1 := Pt h3 h4
      obtain ⟨K, e⟩ := Parts_l0 n x 6 0 0 m h2 (ih (by omega) h3) e1 m.toNat 0 [⟨2, 0, m⟩] (by simp) (by omega)
      rw [prt6]
      refine ⟨K + 2, fun k hk => ?_⟩
      obtain ⟨k, rfl⟩ : ∃ j, k = j + 2 := ⟨k - 2, by omega⟩
      have e' := e k (by omega)
      simp [at_, aJ.f, aJ.j0]
      simpa using e'
/-- Validate, of whatever type within the bounds: program and reference agree; and what is valid. -/
theorem validate_ev {n : Nat} {t : S24} (hn : n ≤ 1000) (hb : Bd n t) : ∃ e, Ev (at_ fB.f t) e ∧ Ev (at_ dn.f t) e ∧ (e = 0 → Vt 10 t ∧ (prt 10 t).length ≤ 24) := by
  obtain ⟨K1, e1⟩ := TP n t hn hb
  obtain ⟨K2, e2⟩ := TR n t hn hb
  obtain ⟨K3, e3⟩ := TQ n t 11 hn (by omega) (by omega) hb
  obtain ⟨K4, e4⟩ := TS n t hn hb
  unfold at_ at e1 e2 e4
  dsimp only at e3
  by_cases hd : dep n t > 10
  · refine ⟨9, ⟨K1, fun k hk => ?_⟩, ⟨K3, fun k hk => ?_⟩, fun h => absurd h (by decide)⟩
    · simp only [at_, fB.f]
      rw [e1 k hk, Option.bind_some, if_pos hd]
    · simp only [at_, dn.f]
      rw [e3 k hk, Option.bind_some, if_pos (by omega)]
  · by_cases hf : flt n t = 0
    · have hv := vt_low n 10 (flt_vt n hb hf) (by omega)
      obtain ⟨K5, e5⟩ := TU 10 (by omega) hv
      obtain ⟨K6, e6⟩ := TV 10 (by omega) hv
      unfold at_ at e5 e6
      refine ⟨if (prt 10 t).length > 24 then 9 else 0, ⟨K1 + K2 + K5, fun k hk => ?_⟩, ⟨K3 + K4 + K6, fun k hk => ?_⟩, fun h => ⟨hv, ?_⟩⟩
      · simp only [at_, fB.f]
        rw [e1 k (by omega), Option.bind_some, if_neg hd, e2 k (by omega), Option.bind_some, if_pos hf, e5 k (by omega), Option.bind_some]
        split <;> split <;> first | rfl | omega
      · simp only [at_, dn.f]
        rw [e3 k (by omega), Option.bind_some, if_neg (by omega), e4 k (by omega), Option.bind_some, if_pos hf, e6 k (by omega), Option.bind_some]
        split <;> split <;> first | rfl | omega
      · split at h <;> omega
    · refine ⟨flt n t, ⟨K1 + K2, fun k hk => ?_⟩, ⟨K3 + K4, fun k hk => ?_⟩, fun h => absurd h hf⟩
      · simp only [at_, fB.f]
        rw [e1 k (by omega), Option.bind_some, if_neg hd, e2 k (by omega), Option.bind_some, if_neg hf]
      · simp only [at_, dn.f]
        rw [e3 k (by omega), Option.bind_some, if_neg (by omega), e4 k (by omega), Option.bind_some, if_neg hf]
theorem UA {t : S24} (hv : Vt 10 t) (hl : (prt 10 t).length ≤ 24) : Ev (at_ fB.f t) 0 ∧ Ev (at_ dn.f t) 0 := by
  obtain ⟨K1, e1⟩ := TP 10 t (by omega) hv.bd
  obtain ⟨K2, e2⟩ := TR 10 t (by omega) hv.bd
  obtain ⟨K3, e3⟩ := TQ 10 t 11 (by omega) (by omega) (by omega) hv.bd
  obtain ⟨K4, e4⟩ := TS 10 t (by omega) hv.bd
  obtain ⟨K5, e5⟩ := TU 10 (by omega) hv
  obtain ⟨K6, e6⟩ := TV 10 (by omega) hv
  unfold at_ at e1 e2 e4 e5 e6
  dsimp only at e3
  have hd := vt_dep 10 hv 10
  have hf := vt_flt 10 hv
  refine ⟨⟨K1 + K2 + K5, fun k hk => ?_⟩, ⟨K3 + K4 + K6, fun k hk => ?_⟩⟩
  · simp only [at_, fB.f]
    rw [e1 k (by omega), Option.bind_some, if_neg (by omega), e2 k (by omega), Option.bind_some, if_pos hf, e5 k (by omega), Option.bind_some, if_neg (by omega)]
  · simp only [at_, dn.f]
    rw [e3 k (by omega), Option.bind_some, if_neg (by omega), e4 k (by omega), Option.bind_some, if_pos hf, e6 k (by omega), Option.bind_some, if_neg (by omega)]

end Go.Proofs.YtggelekooacmnaaDoor.Pure
set_option linter.unusedVariables false
set_option linter.unusedSimpArgs false
namespace Go.Proofs.YtggelekooacmnaaDoor.Pure
open Go.RowKit Go.Proofs.YtggelekooacmnaaDoor.Q Go.Proofs.YtggelekooacmnaaDoorW.bg Go.Proofs.YtggelekooacmnaaDoorW.bP Go.Proofs.YtggelekooacmnaaDoorW.bX
theorem eta_s (x : S24) : (⟨x.f0, x.f1, x.f2, x.f3, x.f4⟩ : S24) = x := by cases x; rfl

-- values: check, zero, flatten, read
def Bv : Nat → S51 → Prop
  | 0, _ => False
  | n + 1, v => v.f1.length ≤ 1000 ∧ ∀ x ∈ v.f1, Bv n x
theorem rdV {l : List S51} {i : Nat} (h : i < l.length) : bB l (i : Int) = l[i] := by
  unfold bB; simp [List.getD, h]
theorem rdV0 {l : List S51} (h : 0 < l.length) : bB l 0 = l[0] := by
  unfold bB; simp [List.getD, h]
/-- two lists, element by element: the first error -/
def ck1 (f : S24 → S51 → Int) : List S24 → List S51 → Int
  | t :: ts, v :: vs => if f t v = 0 then ck1 f ts vs else f t v
  | _, _ => 0
def ck2 (f : S51 → Int) : List S51 → Int
  | v :: vs => if f v = 0 then ck2 f vs else f v
  | [] => 0
/-- the error of a value of a valid type -/
def chk : Nat → S24 → S51 → Int
  | 0, _, _ => 0
  | n + 1, t, v =>
    if t.f0 = 5 then (if v.f0 ≠ 0 ∨ v.f1.length ≠ t.f4.length then 2 else ck1 (chk n) t.f4 v.f1)
    else if t.f0 = 6 then (if v.f0 ≠ 0 ∨ (v.f1.length : Int) > t.f3 then 2 else ck2 (chk n (ag t.f4 0)) v.f1)
    else if v.f1.length ≠ 0 then 2
    else if t.f0 = 1 then (if v.f0 < 0 ∨ v.f0 > 1 then 1 else 0)
    else if t.f0 = 3 then (if v.f0 < 0 then 1 else 0)
    else (if v.f0 < t.f1 ∨ v.f0 > t.f2 then 1 else 0)

end Go.Proofs.YtggelekooacmnaaDoor.Pure
-- value.element and value.check, walked by hand: what they say of a valid type
namespace Go.Proofs.YtggelekooacmnaaDoor.Q
open Go.RowKit Go.Proofs.YtggelekooacmnaaDoorW.bg Go.Proofs.YtggelekooacmnaaDoorW.bP Go.Proofs.YtggelekooacmnaaDoorW.bX
open Go.Proofs.YtggelekooacmnaaDoor.Pure
set_option linter.unusedVariables false
set_option linter.unusedSimpArgs false
/-- a type's cells as a call hands them on -/
abbrev tyV (x : S24) (A : Option Addr) (c : Nat) : Value := .agg #[.int .i64 x.f0, .int .i64 x.f1, .int .i64 x.f2, .int .i64 x.f3, .slice A x.f4.length c]
abbrev vaV (v : S51) (A : Option Addr) (c : Nat) : Value := .agg #[.int .i64 v.f0, .slice A v.f1.length c]
set_option maxHeartbeats 4000000 in
set_option maxRecDepth 100000 in
/-- element: in every world behind this one it has one answer -/
theorem Pv (t : S24) (A : Option Addr) (c : Nat) (i : Nat) (w0 : World) (hA : Kd.C k24 w0 A t.f4.length t.f4) (hc : t.f4.length ≤ c) (j : Nat) (hj : (if t.f0 = 6 then 0 else i) = j) (hi : j < t.f4.length) :
    ∃ A4 c4, Kd.C k24 w0 A4 (ag t.f4 j).f4.length (ag t.f4 j).f4 ∧ (ag t.f4 j).f4.length ≤ c4 ∧ ∀ w, Below w0.heap.size w0 w → Calls Tryd.prog 81 #[tyV t A c, .int .i64 i] w fun e w' => e = .returned (tyV (ag t.f4 j) A4 c4) ∧ Below w.heap.size w w' := by
  have hn := hA.2.1
  obtain ⟨a0, a1, a2, a3, l⟩ := t
  dsimp only [tyV] at hA hc hj hi hn ⊢
  obtain ⟨ad, A4, c4, rfl, d0, d1, d2, d3, d4, l4, g4⟩ := eX hA (j : Int) (by omega) (by omega)
  refine ⟨A4, c4, g4, l4, fun w hw => ?_⟩
  rw [Int.toNat_natCast] at d0 d1 d2 d3 d4
  replace d0 := iT hw d0
  replace d1 := iT hw d1
  replace d2 := iT hw d2
  replace d3 := iT hw d3
  replace d4 := iT hw d4
  obtain ⟨x, hx⟩ : ∃ x, x = ag l (j : Int) := ⟨_, rfl⟩
  rw [← hx] at d0 d1 d2 d3 d4 l4 ⊢
  have u1 := World.block_lt_of_cell? _ _ d0
  clear g4 hx hA hw
  by_cases h6 : a0 = 6
  · subst h6
    obtain rfl : 0 = j := by simpa using hj
    have e0 : ad.add (0 * 5) = ad := by simp [Addr.add]
    rw [e0] at d0 d1 d2 d3 d4 u1
    go_enter Tryd.func81, Tryd.ntmps81
    go_wp2
    have hb2 : Below w.heap.size w ((w.alloc (.cells #[.int .i64 6, .int .i64 a1, .int .i64 a2, .int .i64 a3, .slice (some ad) l.length c] 24)).alloc (.cells #[.int .i64 x.f0, .int .i64 x.f1, .int .i64 x.f2, .int .i64 x.f3, .slice A4 x.f4.length c4] 24)) := ((Below.refl _ w).alloc (Nat.le_refl _) _).alloc (by simp) _
    refine bodyPost_ret (results_cell_row rfl _ _ (w.heap.size + 1) 24 #[.int .i64 x.f0, .int .i64 x.f1, .int .i64 x.f2, .int .i64 x.f3, .slice A4 x.f4.length c4] (0, 0) _ rfl ?_ Tryd.underlying24 rfl (by kernel_rfl)) rfl ⟨rfl, hb2⟩
    have := heap_alloc_new (w.alloc (.cells #[.int .i64 6, .int .i64 a1, .int .i64 a2, .int .i64 a3, .slice (some ad) l.length c] 24)) (.cells #[.int .i64 x.f0, .int .i64 x.f1, .int .i64 x.f2, .int .i64 x.f3, .slice A4 x.f4.length c4] 24)
    simpa using this
  · have q6 : (a0 == 6) = false := beq_false_of_ne h6
    obtain rfl : i = j := by simpa [h6] using hj
    go_enter Tryd.func81, Tryd.ntmps81
    go_wp2
    have hb2 : Below w.heap.size w ((w.alloc (.cells #[.int .i64 a0, .int .i64 a1, .int .i64 a2, .int .i64 a3, .slice (some ad) l.length c] 24)).alloc (.cells #[.int .i64 x.f0, .int .i64 x.f1, .int .i64 x.f2, .int .i64 x.f3, .slice A4 x.f4.length c4] 24)) := ((Below.refl _ w).alloc (Nat.le_refl _) _).alloc (by simp) _
    refine bodyPost_ret (results_cell_row rfl _ _ (w.heap.size + 1) 24 #[.int .i64 x.f0, .int .i64 x.f1, .int .i64 x.f2, .int .i64 x.f3, .slice A4 x.f4.length c4] (0, 0) _ rfl ?_ Tryd.underlying24 rfl (by kernel_rfl)) rfl ⟨rfl, hb2⟩
    have := heap_alloc_new (w.alloc (.cells #[.int .i64 a0, .int .i64 a1, .int .i64 a2, .int .i64 a3, .slice (some ad) l.length c] 24)) (.cells #[.int .i64 x.f0, .int .i64 x.f1, .int .i64 x.f2, .int .i64 x.f3, .slice A4 x.f4.length c4] 24)
    simpa using this
theorem SH (n : Nat) (v : S51) : chk (n + 1) ⟨1, 0, 0, 0, []⟩ v = if v.f1.length ≠ 0 then 2 else if v.f0 < 0 ∨ v.f0 > 1 then 1 else 0 := by simp [chk]
theorem SI (n : Nat) (lo hi : Int) (v : S51) : chk (n + 1) ⟨2, lo, hi, 0, []⟩ v = if v.f1.length ≠ 0 then 2 else if v.f0 < lo ∨ v.f0 > hi then 1 else 0 := by simp [chk]
theorem SK (n : Nat) (v : S51) : chk (n + 1) ⟨3, 0, 0, 0, []⟩ v = if v.f1.length ≠ 0 then 2 else if v.f0 < 0 then 1 else 0 := by simp [chk]
/-- what check says of a leaf: kind q of low and high bounds -/
def Gf (t : S24) (v : S51) (r : Int) : Prop := ∀ (A : Option Addr) (c : Nat) (B : Option Addr) (d : Nat) (w : World), Kd.C k24 w A t.f4.length t.f4 → t.f4.length ≤ c → Kd.C k51 w B v.f1.length v.f1 → v.f1.length ≤ d →
  Calls Tryd.prog 78 #[tyV t A c, vaV v B d] w fun e w' => e = .returned (.int .i64 r) ∧ Below w.heap.size w w'
set_option maxHeartbeats 4000000 in
set_option maxRecDepth 100000 in
theorem JG (q lo hi : Int) (v : S51) (hq : q = 1 ∨ q = 2 ∨ q = 3) : Gf ⟨q, lo, hi, 0, []⟩ v (if v.f1.length ≠ 0 then 2 else if v.f0 < lo ∨ v.f0 > (if q = 1 then 1 else if q = 3 then v.f0 else hi) then 1 else 0) := by
  intro A c B d w hA hc hB hd
  have hn := hB.2.1
  obtain ⟨v0, vs⟩ := v
  dsimp only [tyV, vaV, List.length_nil] at hd hn ⊢
  obtain ⟨L, hL⟩ : ∃ L, L = vs.length := ⟨_, rfl⟩
  rw [← hL] at hd hn ⊢
  have hb2 : Below w.heap.size w ((w.alloc (.cells #[.int .i64 q, .int .i64 lo, .int .i64 hi, .int .i64 0, .slice A 0 c] 24)).alloc (.cells #[.int .i64 v0, .slice B L d] 51)) := ((Below.refl _ w).alloc (Nat.le_refl _) _).alloc (by simp) _
  have HB2 := Lib.hid hb2
  clear hA hB hL hb2
  have q5 : (q == 5) = false := beq_false_of_ne (by omega)
  have q6 : (q == 6) = false := beq_false_of_ne (by omega)
  by_cases h0 : L = 0
  · subst h0
    rw [if_neg (by simp)]
    rcases hq with rfl | rfl | rfl
    · have eH : (if (1 : Int) = 1 then (1 : Int) else if (1 : Int) = 3 then v0 else hi) = 1 := by simp
      rw [eH]
      by_cases c1 : v0 < lo
      · rw [if_pos (.inl c1)]
        go_enter Tryd.func78, Tryd.ntmps78
        go_wp2
        go_quiet (fail)
        go_wp2
        go_ret
        exact ⟨rfl, (by first | exact bN HB2.out _ | exact bU HB2.out)⟩
      · by_cases c2 : v0 > 1
        · rw [if_pos (.inr c2)]
          go_enter Tryd.func78, Tryd.ntmps78
          go_wp2
          go_quiet (fail)
          go_wp2
          go_ret
          exact ⟨rfl, (by first | exact bN HB2.out _ | exact bU HB2.out)⟩
        · rw [if_neg (by omega)]
          go_enter Tryd.func78, Tryd.ntmps78
          go_wp2
          go_quiet (fail)
          go_wp2
          go_ret
          exact ⟨rfl, (by first | exact bN HB2.out _ | exact bU HB2.out)⟩
    · have eH : (if (2 : Int) = 1 then (1 : Int) else if (2 : Int) = 3 then v0 else hi) = hi := by simp
      rw [eH]
      by_cases c1 : v0 < lo
      · rw [if_pos (.inl c1)]
        go_enter Tryd.func78, Tryd.ntmps78
        go_wp2
        go_quiet (fail)
        go_wp2
        go_ret
        exact ⟨rfl, (by first | exact bN HB2.out _ | exact bU HB2.out)⟩
      · by_cases c2 : v0 > hi
        · rw [if_pos (.inr c2)]
          go_enter Tryd.func78, Tryd.ntmps78
          go_wp2
          go_quiet (fail)
          go_wp2
          go_ret
          exact ⟨rfl, (by first | exact bN HB2.out _ | exact bU HB2.out)⟩
        · rw [if_neg (by omega)]
          go_enter Tryd.func78, Tryd.ntmps78
          go_wp2
          go_quiet (fail)
          go_wp2
          go_ret
          exact ⟨rfl, (by first | exact bN HB2.out _ | exact bU HB2.out)⟩
    · have eH : (if (3 : Int) = 1 then (1 : Int) else if (3 : Int) = 3 then v0 else hi) = v0 := by simp
      rw [eH]
      have c2 : ¬ v0 < v0 := by omega
      by_cases c1 : v0 < lo
      · rw [if_pos (.inl c1)]
        go_enter Tryd.func78, Tryd.ntmps78
        go_wp2
        go_quiet (fail)
        go_wp2
        go_ret
        exact ⟨rfl, (by first | exact bN HB2.out _ | exact bU HB2.out)⟩
      · rw [if_neg (by omega)]
        go_enter Tryd.func78, Tryd.ntmps78
        go_wp2
        go_quiet (fail)
        go_wp2
        go_ret
        exact ⟨rfl, (by first | exact bN HB2.out _ | exact bU HB2.out)⟩
  · rw [if_pos h0]
    have hz : ((L : Int) != 0) = true := by simp; omega
    go_enter Tryd.func78, Tryd.ntmps78
    go_wp2
    go_ret
    exact ⟨rfl, HB2.out⟩
set_option maxHeartbeats 8000000 in
set_option maxRecDepth 100000 in
theorem UB (m : Int) (l : List S24) (v : S51) (g : Nat → Int) (r : Int) (hv0 : v.f0 = 0) (hL : v.f1.length = l.length)
    (hE : ∀ j, j < v.f1.length → Gf (ag l (j : Int)) (bB v.f1 (j : Int)) (g j))
    (h1 : ∀ k, k < v.f1.length → (∀ j, j < k → g j = 0) → g k ≠ 0 → r = g k) (h2 : (∀ j, j < v.f1.length → g j = 0) → r = 0) : Gf ⟨5, 0, 0, m, l⟩ v r := by
  intro A c B d w hA hc hB hd
  have hn := hB.2.1
  obtain ⟨v0, vs⟩ := v
  dsimp only [tyV, vaV] at hA hc hB hd hn hv0 hL hE h1 h2 ⊢
  subst hv0
  have HA := Lib.hid hA
  have HV := Lib.hid hB
  have HE := Lib.hid hE
  have H1 := Lib.hid h1
  have H2 := Lib.hid h2
  obtain ⟨L, hLe⟩ : ∃ L, L = vs.length := ⟨_, rfl⟩
  have HL := Lib.hid hLe
  have HLL := Lib.hid hL
  rw [← hL] at hc ⊢
  rw [← hLe] at hd hn hc ⊢
  have hb2 : Below w.heap.size w ((w.alloc (.cells #[.int .i64 5, .int .i64 0, .int .i64 0, .int .i64 m, .slice A L c] 24)).alloc (.cells #[.int .i64 0, .slice B L d] 51)) := ((Below.refl _ w).alloc (Nat.le_refl _) _).alloc (by simp) _
  have hbt : ((w.alloc (.cells #[.int .i64 5, .int .i64 0, .int .i64 0, .int .i64 m, .slice A L c] 24)).alloc (.cells #[.int .i64 0, .slice B L d] 51)).heap[w.heap.size]? = some (.cells #[.int .i64 5, .int .i64 0, .int .i64 0, .int .i64 m, .slice A L c] 24 (0, 0)) := (Below.heap_alloc _ _ _ (by simp)).trans (heap_alloc_new w _)
  have hs2 : w.heap.size < ((w.alloc (.cells #[.int .i64 5, .int .i64 0, .int .i64 0, .int .i64 m, .slice A L c] 24)).alloc (.cells #[.int .i64 0, .slice B L d] 51)).heap.size := by simp; omega
  have HB2 := Lib.hid hb2
  have HBT := Lib.hid hbt
  have HS2 := Lib.hid hs2
  clear hA hB hE h1 h2 hLe hL hb2 hbt hs2
  go_enter Tryd.func78, Tryd.ntmps78
  go_wp2
  generalize (w.alloc (.cells #[.int .i64 5, .int .i64 0, .int .i64 0, .int .i64 m, .slice A L c] 24)).alloc (.cells #[.int .i64 0, .slice B L d] 51) = W2 at HB2 HBT HS2 ⊢
  go_loopw [51] (fun i wr => ∃ k : Nat, i = .int .i64 k ∧ k ≤ L ∧ Below W2.heap.size W2 wr ∧ aa (∀ j, j < k → g j = 0)) (fun i _ => L - (intOf i).toNat)
  case atStart => exact ⟨0, rfl, Nat.zero_le _, Below.refl _ _, ⟨fun j hj => by omega⟩⟩
  case round =>
    obtain ⟨k, rfl, hk, hbw, hal⟩ := hrel
    have hbW : Below w.heap.size w wr := HB2.out.trans (hbw.mono HB2.out.size)
    by_cases hlt : k < L
    · obtain ⟨ae, B4, e4, rfl, q0, q1, m4, r4⟩ := vN (Kd.bA HV.out hbW) (k : Int) (by omega) (by have := HL.out; omega)
      rw [Int.toNat_natCast] at q0 q1
      have hEE := HE.out k (by have := HL.out; omega)
      obtain ⟨A4, c4, g4, l4, hel⟩ := Pv ⟨5, 0, 0, m, l⟩ A c k wr (Kd.bA HA.out hbW) (by have := HL.out; have := HLL.out; dsimp only; omega) k (by simp) (by have := HL.out; have := HLL.out; dsimp only; omega)
      dsimp only [tyV] at g4 l4 hel
      obtain ⟨x, hx⟩ : ∃ x, x = ag l (k : Int) := ⟨_, rfl⟩
      obtain ⟨y, hy⟩ : ∃ y, y = bB vs (k : Int) := ⟨_, rfl⟩
      rw [← hx] at g4 l4 hel hEE
      rw [← hy] at q0 q1 m4 r4 hEE
      have hlen : l.length = L := by have := HL.out; have := HLL.out; omega
      rw [hlen] at hel
      have HEE := Lib.hid hEE
      have HG4 := Lib.hid g4
      have HR4 := Lib.hid r4
      have HBW := Lib.hid hbW
      have Gg := Lib.hid hbw
      have HAL := Lib.hid hal.out
      have HEL := Lib.hid hel
      have u2 := World.block_lt_of_cell? _ _ q0
      have hbt := (hbw.block _ HS2.out).trans HBT.out
      have HBTr := Lib.hid hbt
      clear hEE g4 r4 hbW hbw hal hel hx hy hlen hbt
      go_wp2
      have hB3 : Below wr.heap.size wr (wr.alloc (.cells #[.int .i64 y.f0, .slice B4 y.f1.length e4] 51)) := (Below.refl _ wr).alloc (Nat.le_refl _) _
      have hb3 := (hB3.block _ (iX HBTr.out)).trans HBTr.out
      have hy3 := heap_alloc_new wr (.cells #[.int .i64 y.f0, .slice B4 y.f1.length e4] 51)
      generalize wr.alloc (.cells #[.int .i64 y.f0, .slice B4 y.f1.length e4] 51) = W3 at hB3 hb3 hy3 ⊢
      have k0 := cell_regrown ((aC hb3 0).trans rfl)
      have k1 := cell_regrown ((aC hb3 1).trans rfl)
      have k2 := cell_regrown ((aC hb3 2).trans rfl)
      have k3 := cell_regrown ((aC hb3 3).trans rfl)
      have k4 := cell_regrown ((aC hb3 4).trans rfl)
      have k5 := cell_regrown ((aC hy3 0).trans rfl)
      have k6 := cell_regrown ((aC hy3 1).trans rfl)
      have hBr : ∀ d os, Below wr.heap.size wr (Go.Sort.grow (redrawn W3 d) os) := fun d os => hB3.trans ((below_regrown W3 d os).mono hB3.size)
      have cE : ∀ d os, Calls Tryd.prog 81 _ (Go.Sort.grow (redrawn W3 d) os) _ := fun d os => Calls.regrown_of (HEL.out _ (hBr d os))
      have cC : ∀ d os, Calls Tryd.prog 78 _ (Go.Sort.grow (redrawn W3 d) os) _ := fun d os => Calls.regrown_of (HEE.out A4 c4 B4 e4 _ (Kd.bA HG4.out (hBr d os)) l4 (Kd.bA HR4.out (hBr d os)) m4)
      have HBR := Lib.hid hBr
      clear hBr hB3 hb3 hy3
      dsimp only [tyV, vaV] at cE cC
      refine wp_region_quiet_below (by kernel_rfl) (by kernel_rfl) ?_
      repeat (quiet_step (first | exact cE _ _ | exact cC _ _))
      refine wpQuiet_nil ?_
      intro _ hw'
      obtain ⟨⟨dq, osq⟩, hw''⟩ := hw'
      subst hw''
      dsimp only
      by_cases hg : g k = 0
      · have hgz : (g k != 0) = false := by simp [hg]
        go_wp2
        go_roundw
        case rel =>
          refine ⟨k + 1, by go_num, hlt, Gg.out.trans ((HBR.out dq osq).mono Gg.out.size), ⟨fun j hj => ?_⟩⟩
          by_cases hjk : j = k
          · rw [hjk]; exact hg
          · exact HAL.out j (by omega)
        case measure => simp [intOf]; omega
      · have hgz : (g k != 0) = true := by simp [hg]
        go_wp2
        go_ret
        exact ⟨by rw [H1.out k (by have := HL.out; omega) HAL.out hg]; rfl, HBW.out.trans ((HBR.out dq osq).mono HBW.out.size)⟩
    · go_wp2
      go_ret
      exact ⟨by rw [H2.out (fun j hj => hal.out j (by have := HL.out; omega))]; rfl, hbW⟩
set_option maxHeartbeats 8000000 in
set_option maxRecDepth 100000 in
theorem UC (m : Int) (l : List S24) (v : S51) (g : Nat → Int) (r : Int) (hv0 : v.f0 = 0) (hL : (v.f1.length : Int) ≤ m) (h1l : l.length = 1)
    (hE : ∀ j, j < v.f1.length → Gf (ag l ((0 : Nat) : Int)) (bB v.f1 (j : Int)) (g j))
    (h1 : ∀ k, k < v.f1.length → (∀ j, j < k → g j = 0) → g k ≠ 0 → r = g k) (h2 : (∀ j, j < v.f1.length → g j = 0) → r = 0) : Gf ⟨6, 0, 0, m, l⟩ v r := by
  intro A c B d w hA hc hB hd
  have hn := hB.2.1
  obtain ⟨v0, vs⟩ := v
  dsimp only [tyV, vaV] at hA hc hB hd hn hv0 hL h1l hE h1 h2 ⊢
  subst hv0
  have HA := Lib.hid hA
  have HV := Lib.hid hB
  have HE := Lib.hid hE
  have H1 := Lib.hid h1
  have H2 := Lib.hid h2
  obtain ⟨L, hLe⟩ : ∃ L, L = vs.length := ⟨_, rfl⟩
  have HL := Lib.hid hLe
  have HLL := Lib.hid h1l
  rw [h1l] at hc ⊢
  rw [← hLe] at hd hn hL ⊢
  have hb2 : Below w.heap.size w ((w.alloc (.cells #[.int .i64 6, .int .i64 0, .int .i64 0, .int .i64 m, .slice A 1 c] 24)).alloc (.cells #[.int .i64 0, .slice B L d] 51)) := ((Below.refl _ w).alloc (Nat.le_refl _) _).alloc (by simp) _
  have hbt : ((w.alloc (.cells #[.int .i64 6, .int .i64 0, .int .i64 0, .int .i64 m, .slice A 1 c] 24)).alloc (.cells #[.int .i64 0, .slice B L d] 51)).heap[w.heap.size]? = some (.cells #[.int .i64 6, .int .i64 0, .int .i64 0, .int .i64 m, .slice A 1 c] 24 (0, 0)) := (Below.heap_alloc _ _ _ (by simp)).trans (heap_alloc_new w _)
  have hs2 : w.heap.size < ((w.alloc (.cells #[.int .i64 6, .int .i64 0, .int .i64 0, .int .i64 m, .slice A 1 c] 24)).alloc (.cells #[.int .i64 0, .slice B L d] 51)).heap.size := by simp; omega
  have HB2 := Lib.hid hb2
  have HBT := Lib.hid hbt
  have HS2 := Lib.hid hs2
  clear hA hB hE h1 h2 hLe h1l hb2 hbt hs2
  go_enter Tryd.func78, Tryd.ntmps78
  go_wp2
  generalize (w.alloc (.cells #[.int .i64 6, .int .i64 0, .int .i64 0, .int .i64 m, .slice A 1 c] 24)).alloc (.cells #[.int .i64 0, .slice B L d] 51) = W2 at HB2 HBT HS2 ⊢
  go_loopw [51] (fun i wr => ∃ k : Nat, i = .int .i64 k ∧ k ≤ L ∧ Below W2.heap.size W2 wr ∧ aa (∀ j, j < k → g j = 0)) (fun i _ => L - (intOf i).toNat)
  case atStart => exact ⟨0, rfl, Nat.zero_le _, Below.refl _ _, ⟨fun j hj => by omega⟩⟩
  case round =>
    obtain ⟨k, rfl, hk, hbw, hal⟩ := hrel
    have hbW : Below w.heap.size w wr := HB2.out.trans (hbw.mono HB2.out.size)
    by_cases hlt : k < L
    · obtain ⟨ae, B4, e4, rfl, q0, q1, m4, r4⟩ := vN (Kd.bA HV.out hbW) (k : Int) (by omega) (by have := HL.out; omega)
      rw [Int.toNat_natCast] at q0 q1
      have hEE := HE.out k (by have := HL.out; omega)
      obtain ⟨A4, c4, g4, l4, hel⟩ := Pv ⟨6, 0, 0, m, l⟩ A c k wr (Kd.bA HA.out hbW) (by have := HLL.out; dsimp only; omega) 0 (by simp) (by have := HLL.out; dsimp only; omega)
      dsimp only [tyV] at g4 l4 hel
      obtain ⟨x, hx⟩ : ∃ x, x = ag l ((0 : Nat) : Int) := ⟨_, rfl⟩
      obtain ⟨y, hy⟩ : ∃ y, y = bB vs (k : Int) := ⟨_, rfl⟩
      rw [← hx] at g4 l4 hel hEE
      rw [← hy] at q0 q1 m4 r4 hEE
      have hlen : l.length = 1 := HLL.out
      rw [hlen] at hel
      have HEE := Lib.hid hEE
      have HG4 := Lib.hid g4
      have HR4 := Lib.hid r4
      have HBW := Lib.hid hbW
      have Gg := Lib.hid hbw
      have HAL := Lib.hid hal.out
      have HEL := Lib.hid hel
      have u2 := World.block_lt_of_cell? _ _ q0
      have hbt := (hbw.block _ HS2.out).trans HBT.out
      have HBTr := Lib.hid hbt
      clear hEE g4 r4 hbW hbw hal hel hx hy hlen hbt
      go_wp2
      have hB3 : Below wr.heap.size wr (wr.alloc (.cells #[.int .i64 y.f0, .slice B4 y.f1.length e4] 51)) := (Below.refl _ wr).alloc (Nat.le_refl _) _
      have hb3 := (hB3.block _ (iX HBTr.out)).trans HBTr.out
      have hy3 := heap_alloc_new wr (.cells #[.int .i64 y.f0, .slice B4 y.f1.length e4] 51)
      generalize wr.alloc (.cells #[.int .i64 y.f0, .slice B4 y.f1.length e4] 51) = W3 at hB3 hb3 hy3 ⊢
      have k0 := cell_regrown ((aC hb3 0).trans rfl)
      have k1 := cell_regrown ((aC hb3 1).trans rfl)
      have k2 := cell_regrown ((aC hb3 2).trans rfl)
      have k3 := cell_regrown ((aC hb3 3).trans rfl)
      have k4 := cell_regrown ((aC hb3 4).trans rfl)
      have k5 := cell_regrown ((aC hy3 0).trans rfl)
      have k6 := cell_regrown ((aC hy3 1).trans rfl)
      have hBr : ∀ d os, Below wr.heap.size wr (Go.Sort.grow (redrawn W3 d) os) := fun d os => hB3.trans ((below_regrown W3 d os).mono hB3.size)
      have cE : ∀ d os, Calls Tryd.prog 81 _ (Go.Sort.grow (redrawn W3 d) os) _ := fun d os => Calls.regrown_of (HEL.out _ (hBr d os))
      have cC : ∀ d os, Calls Tryd.prog 78 _ (Go.Sort.grow (redrawn W3 d) os) _ := fun d os => Calls.regrown_of (HEE.out A4 c4 B4 e4 _ (Kd.bA HG4.out (hBr d os)) l4 (Kd.bA HR4.out (hBr d os)) m4)
      have HBR := Lib.hid hBr
      clear hBr hB3 hb3 hy3
      dsimp only [tyV, vaV] at cE cC
      refine wp_region_quiet_below (by kernel_rfl) (by kernel_rfl) ?_
      repeat (quiet_step (first | exact cE _ _ | exact cC _ _))
      refine wpQuiet_nil ?_
      intro _ hw'
      obtain ⟨⟨dq, osq⟩, hw''⟩ := hw'
      subst hw''
      dsimp only
      by_cases hg : g k = 0
      · have hgz : (g k != 0) = false := by simp [hg]
        go_wp2
        go_roundw
        case rel =>
          refine ⟨k + 1, by go_num, hlt, Gg.out.trans ((HBR.out dq osq).mono Gg.out.size), ⟨fun j hj => ?_⟩⟩
          by_cases hjk : j = k
          · rw [hjk]; exact hg
          · exact HAL.out j (by omega)
        case measure => simp [intOf]; omega
      · have hgz : (g k != 0) = true := by simp [hg]
        go_wp2
        go_ret
        exact ⟨by rw [H1.out k (by have := HL.out; omega) HAL.out hg]; rfl, HBW.out.trans ((HBR.out dq osq).mono HBW.out.size)⟩
    · go_wp2
      go_ret
      exact ⟨by rw [H2.out (fun j hj => hal.out j (by have := HL.out; omega))]; rfl, hbW⟩
set_option maxHeartbeats 4000000 in
set_option maxRecDepth 100000 in
theorem SL (a0 m : Int) (l : List S24) (v : S51) (h : (a0 = 5 ∧ (v.f0 ≠ 0 ∨ v.f1.length ≠ l.length)) ∨ (a0 = 6 ∧ (v.f0 ≠ 0 ∨ (v.f1.length : Int) > m))) : Gf ⟨a0, 0, 0, m, l⟩ v 2 := by
  intro A c B d w hA hc hB hd
  have hn := hB.2.1
  have hm := hA.2.1
  obtain ⟨v0, vs⟩ := v
  dsimp only [tyV, vaV] at hc hd hn hm h ⊢
  obtain ⟨L, hL⟩ : ∃ L, L = vs.length := ⟨_, rfl⟩
  obtain ⟨N, hN⟩ : ∃ N, N = l.length := ⟨_, rfl⟩
  rw [← hL] at hd hn h ⊢
  rw [← hN] at hc hm h ⊢
  have hb2 : Below w.heap.size w ((w.alloc (.cells #[.int .i64 a0, .int .i64 0, .int .i64 0, .int .i64 m, .slice A N c] 24)).alloc (.cells #[.int .i64 v0, .slice B L d] 51)) := ((Below.refl _ w).alloc (Nat.le_refl _) _).alloc (by simp) _
  have HB2 := Lib.hid hb2
  clear hA hB hL hN hb2
  rcases h with ⟨rfl, h⟩ | ⟨rfl, h⟩
  · by_cases h0 : v0 = 0
    · subst h0
      have hz : ((L : Int) != (N : Int)) = true := by simp; omega
      clear h
      go_enter Tryd.func78, Tryd.ntmps78
      go_wp2
      go_ret
      exact ⟨rfl, HB2.out⟩
    · have hz : (v0 != 0) = true := by simp [h0]
      clear h
      go_enter Tryd.func78, Tryd.ntmps78
      go_wp2
      go_ret
      exact ⟨rfl, HB2.out⟩
  · by_cases h0 : v0 = 0
    · subst h0
      have hz : (L : Int) > m := by omega
      clear h
      go_enter Tryd.func78, Tryd.ntmps78
      go_wp2
      go_ret
      exact ⟨rfl, HB2.out⟩
    · have hz : (v0 != 0) = true := by simp [h0]
      clear h
      go_enter Tryd.func78, Tryd.ntmps78
      go_wp2
      go_ret
      exact ⟨rfl, HB2.out⟩
theorem J9 {f : S24 → S51 → Int} : ∀ (l : List S24) (vs : List S51), l.length = vs.length → (∀ k, k < vs.length → (∀ j, j < k → f (ag l (j : Int)) (bB vs (j : Int)) = 0) → f (ag l (k : Int)) (bB vs (k : Int)) ≠ 0 → ck1 f l vs = f (ag l (k : Int)) (bB vs (k : Int))) ∧ ((∀ j, j < vs.length → f (ag l (j : Int)) (bB vs (j : Int)) = 0) → ck1 f l vs = 0)
  | [], [], _ => ⟨fun k hk => by simp at hk, fun _ => by simp [ck1]⟩
  | [], _ :: _, h => by simp at h
  | _ :: _, [], h => by simp at h
  | t :: l, v :: vs, h => by
    obtain ⟨i1, i2⟩ := J9 (f := f) l vs (by simpa using h)
    have s1 : ∀ j : Nat, ag (t :: l) ((j + 1 : Nat) : Int) = ag l (j : Int) := fun j => by unfold ag; rw [Int.toNat_natCast, Int.toNat_natCast, List.getD_cons_succ]
    have s2 : ∀ j : Nat, bB (v :: vs) ((j + 1 : Nat) : Int) = bB vs (j : Int) := fun j => by unfold bB; rw [Int.toNat_natCast, Int.toNat_natCast, List.getD_cons_succ]
    have z1 : ag (t :: l) ((0 : Nat) : Int) = t := by unfold ag; rfl
    have z2 : bB (v :: vs) ((0 : Nat) : Int) = v := by unfold bB; rfl
    refine ⟨fun k hk hj hne => ?_, fun hj => ?_⟩
    · cases k with
      | zero => rw [z1, z2] at hne ⊢; unfold ck1; rw [if_neg hne]
      | succ k =>
        have h0 := hj 0 (by omega)
        rw [z1, z2] at h0
        rw [s1, s2] at hne ⊢
        unfold ck1
        rw [if_pos h0]
        exact i1 k (by simpa using hk) (fun j hjk => by have := hj (j + 1) (by omega); rwa [s1, s2] at this) hne
    · have h0 := hj 0 (by simp)
      rw [z1, z2] at h0
      unfold ck1
      rw [if_pos h0]
      exact i2 (fun j hjl => by have := hj (j + 1) (by simpa using hjl); rwa [s1, s2] at this)
theorem Ke {f : S51 → Int} : ∀ (vs : List S51), (∀ k, k < vs.length → (∀ j, j < k → f (bB vs (j : Int)) = 0) → f (bB vs (k : Int)) ≠ 0 → ck2 f vs = f (bB vs (k : Int))) ∧ ((∀ j, j < vs.length → f (bB vs (j : Int)) = 0) → ck2 f vs = 0)
  | [] => ⟨fun k hk => by simp at hk, fun _ => by simp [ck2]⟩
  | v :: vs => by
    obtain ⟨i1, i2⟩ := Ke (f := f) vs
    have s2 : ∀ j : Nat, bB (v :: vs) ((j + 1 : Nat) : Int) = bB vs (j : Int) := fun j => by unfold bB; rw [Int.toNat_natCast, Int.toNat_natCast, List.getD_cons_succ]
    have z2 : bB (v :: vs) ((0 : Nat) : Int) = v := by unfold bB; rfl
    refine ⟨fun k hk hj hne => ?_, fun hj => ?_⟩
    · cases k with
      | zero => rw [z2] at hne ⊢; unfold ck2; rw [if_neg hne]
      | succ k =>
        have h0 := hj 0 (by omega)
        rw [z2] at h0
        rw [s2] at hne ⊢
        unfold ck2
        rw [if_pos h0]
        exact i1 k (by simpa using hk) (fun j hjk => by have := hj (j + 1) (by omega); rwa [s2] at this) hne
    · have h0 := hj 0 (by simp)
      rw [z2] at h0
      unfold ck2
      rw [if_pos h0]
      exact i2 (fun j hjl => by have := hj (j + 1) (by simpa using hjl); rwa [s2] at this)
theorem XF (n : Nat) : ∀ (t : S24) (v : S51), Vt n t → t.f0 ≠ 4 → Gf t v (chk n t v) := by
  induction n with
  | zero => intro t v h; cases h
  | succ n ih =>
    intro t v h h4
    cases h with
    | bool => rw [SH]; simpa using JG 1 0 0 v (.inl rfl)
    | int _ lo hi h1 h2 h3 => rw [SI]; simpa using JG 2 lo hi v (.inr (.inl rfl))
    | nat => rw [SK]; simpa using JG 3 0 0 v (.inr (.inr rfl))
    | real => exact absurd rfl h4
    | tup _ l h1 h2 h3 h5 =>
      have e : chk (n + 1) ⟨5, 0, 0, 0, l⟩ v = if v.f0 ≠ 0 ∨ v.f1.length ≠ l.length then 2 else ck1 (chk n) l v.f1 := by simp [chk]
      rw [e]
      by_cases hb : v.f0 ≠ 0 ∨ v.f1.length ≠ l.length
      · rw [if_pos hb]; exact SL 5 0 l v (.inl ⟨rfl, hb⟩)
      · rw [if_neg hb]
        have hl : v.f1.length = l.length := by omega
        obtain ⟨i1, i2⟩ := J9 (f := chk n) l v.f1 hl.symm
        refine UB 0 l v (fun j => chk n (ag l (j : Int)) (bB v.f1 (j : Int))) _ (by omega) hl (fun j hj => ?_) i1 i2
        have hm : ag l (j : Int) ∈ l := by rw [rdT (by omega)]; exact List.getElem_mem _
        exact ih _ _ (h3 _ hm) (h5 _ hm).2
    | lst _ m x h1 h2 h3 h5 =>
      have e : chk (n + 1) ⟨6, 0, 0, m, [x]⟩ v = if v.f0 ≠ 0 ∨ (v.f1.length : Int) > m then 2 else ck2 (chk n (ag [x] ((0 : Nat) : Int))) v.f1 := by simp [chk]
      rw [e]
      by_cases hb : v.f0 ≠ 0 ∨ (v.f1.length : Int) > m
      · rw [if_pos hb]; exact SL 6 m [x] v (.inr ⟨rfl, hb⟩)
      · rw [if_neg hb]
        obtain ⟨i1, i2⟩ := Ke (f := chk n (ag [x] ((0 : Nat) : Int))) v.f1
        refine UC m [x] v (fun j => chk n (ag [x] ((0 : Nat) : Int)) (bB v.f1 (j : Int))) _ (by omega) (by omega) rfl (fun j hj => ?_) i1 i2
        have hm : ag [x] ((0 : Nat) : Int) = x := rd1 x
        rw [hm]
        exact ih _ _ h3 (by omega)
end Go.Proofs.YtggelekooacmnaaDoor.Q
