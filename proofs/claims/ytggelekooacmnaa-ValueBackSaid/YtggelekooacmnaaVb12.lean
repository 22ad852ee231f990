import Derived.Test.YtggelekooacmnaaVb0
import Derived.Test.YtggelekooacmnaaVb11
namespace Go.Proofs.Ytggelekooacmnaa.Q
open Go.RowKit Go.Proofs.YtggelekooacmnaaW.bS Go.Proofs.YtggelekooacmnaaW.eQ Go.Proofs.YtggelekooacmnaaW.jY
attribute [local go_sem] lN lQ nz nA kE kF lS lT   -- for this text's walks alone
set_option linter.unusedVariables false
set_option linter.unusedSimpArgs false
mutual
def bC.j0 : Nat → Bool → Int → Int → Int → Int → List (S27) → Int → List (S31) → Option (Int)
 | 0, _, _, _, _, _, _, _, _ => none
 | k + 1, x17, qK, sZ, wG, uC, wH, rA, uD => if x17 = true then (if rA = 0 then (if qK = 5 then (if (uD.length : Int) = (wH.length : Int) then (if qK = 6 then (bC.j1 k (decide ((uD.length : Int) > uC)) qK sZ wG uC wH rA uD) else (bC.j1 k false qK sZ wG uC wH rA uD)) else (bC.j1 k true qK sZ wG uC wH rA uD)) else (if qK = 6 then (bC.j1 k (decide ((uD.length : Int) > uC)) qK sZ wG uC wH rA uD) else (bC.j1 k false qK sZ wG uC wH rA uD))) else (bC.j1 k true qK sZ wG uC wH rA uD)) else (if (uD.length : Int) = 0 then (if qK = 1 then (if rA < sZ then (some 1) else (if rA > 1 then (some 1) else (some 0))) else (if qK = 3 then (if rA < sZ then (some 1) else (if rA > rA then (some 1) else (some 0))) else (if rA < sZ then (some 1) else (if rA > wG then (some 1) else (some 0))))) else (some 2))
def bC.j1 : Nat → Bool → Int → Int → Int → Int → List (S27) → Int → List (S31) → Option (Int)
 | 0, _, _, _, _, _, _, _, _ => none
 | k + 1, x47, qK, sZ, wG, uC, wH, rA, uD => if x47 = true then (some 2) else (bC.l0 k uD (uD.length : Int) 0 qK sZ wG uC wH)
def bC.l0 : Nat → List (S31) → Int → Int → Int → Int → Int → Int → List (S27) → Option (Int)
 | 0, _, _, _, _, _, _, _, _ => none
 | k + 1, x49, x50, x51, qK, sZ, wG, uC, wH => if x51 < x50 then (if 0 ≤ x51 then (if x51 < (x49.length : Int) then ((lh.f qK sZ wG uC wH x51).bind fun Ri => ((bC.f k Ri.1 Ri.2.1 Ri.2.2.1 Ri.2.2.2.1 Ri.2.2.2.2 ((bG x49 x51).f0) ((bG x49 x51).f1)).bind fun Dz => (if Dz = 0 then (bC.l0 k x49 x50 (wrap64 (x51 + 1)) qK sZ wG uC wH) else (some Dz)))) else (none)) else (none)) else (some 0)
def bC.f : Nat → Int → Int → Int → Int → List (S27) → Int → List (S31) → Option (Int)
 | 0, _, _, _, _, _, _, _ => none
 | k + 1, ah, ak, av, au, ae, aX, aI => if ah = 5 then (bC.j0 k true ah ak av au ae aX aI) else (bC.j0 k (ah == 6) ah ak av au ae aX aI)
end
theorem bC.lF : ∀ k, (∀ y0 y1 y2 y3 y4 y5 y6, LeO (bC.f k y0 y1 y2 y3 y4 y5 y6) (bC.f (k + 1) y0 y1 y2 y3 y4 y5 y6)) ∧ (∀ y0 y1 y2 y3 y4 y5 y6 y7, LeO (bC.j0 k y0 y1 y2 y3 y4 y5 y6 y7) (bC.j0 (k + 1) y0 y1 y2 y3 y4 y5 y6 y7)) ∧ (∀ y0 y1 y2 y3 y4 y5 y6 y7, LeO (bC.j1 k y0 y1 y2 y3 y4 y5 y6 y7) (bC.j1 (k + 1) y0 y1 y2 y3 y4 y5 y6 y7)) ∧ (∀ y0 y1 y2 y3 y4 y5 y6 y7, LeO (bC.l0 k y0 y1 y2 y3 y4 y5 y6 y7) (bC.l0 (k + 1) y0 y1 y2 y3 y4 y5 y6 y7))
 | 0 => ⟨fun _ _ _ _ _ _ _ r h => by simp [bC.f] at h, fun _ _ _ _ _ _ _ _ r h => by simp [bC.j0] at h, fun _ _ _ _ _ _ _ _ r h => by simp [bC.j1] at h, fun _ _ _ _ _ _ _ _ r h => by simp [bC.l0] at h⟩
 | k + 1 => by
  obtain ⟨ih0, ih1, ih2, ih3⟩ := bC.lF k; refine ⟨?_, ?_, ?_, ?_⟩
  ·intro y0 y1 y2 y3 y4 y5 y6; unfold bC.f; repeat' first
   | (with_reducible exact ih0 _ _ _ _ _ _ _)
   | (with_reducible exact ih1 _ _ _ _ _ _ _ _)
   | (with_reducible exact ih2 _ _ _ _ _ _ _ _)
   | (with_reducible exact ih3 _ _ _ _ _ _ _ _)
   | (with_reducible exact LeO.refl _)
   | (with_reducible exact LeO.none _)
   | (with_reducible refine LeO.ite ?_ ?_)
   | (with_reducible refine LeO.bind ?_ (fun _ => ?_))
   | exact ih0 _ _ _ _ _ _ _
   | exact ih1 _ _ _ _ _ _ _ _
   | exact ih2 _ _ _ _ _ _ _ _
   | exact ih3 _ _ _ _ _ _ _ _
   | exact LeO.none _
   | refine LeO.ite ?_ ?_
   | refine LeO.bind ?_ (fun _ => ?_)
  ·intro y0 y1 y2 y3 y4 y5 y6 y7; unfold bC.j0; repeat' first
   | (with_reducible exact ih0 _ _ _ _ _ _ _)
   | (with_reducible exact ih1 _ _ _ _ _ _ _ _)
   | (with_reducible exact ih2 _ _ _ _ _ _ _ _)
   | (with_reducible exact ih3 _ _ _ _ _ _ _ _)
   | (with_reducible exact LeO.refl _)
   | (with_reducible exact LeO.none _)
   | (with_reducible refine LeO.ite ?_ ?_)
   | (with_reducible refine LeO.bind ?_ (fun _ => ?_))
   | exact ih0 _ _ _ _ _ _ _
   | exact ih1 _ _ _ _ _ _ _ _
   | exact ih2 _ _ _ _ _ _ _ _
   | exact ih3 _ _ _ _ _ _ _ _
   | exact LeO.none _
   | refine LeO.ite ?_ ?_
   | refine LeO.bind ?_ (fun _ => ?_)
  ·intro y0 y1 y2 y3 y4 y5 y6 y7; unfold bC.j1; repeat' first
   | (with_reducible exact ih0 _ _ _ _ _ _ _)
   | (with_reducible exact ih1 _ _ _ _ _ _ _ _)
   | (with_reducible exact ih2 _ _ _ _ _ _ _ _)
   | (with_reducible exact ih3 _ _ _ _ _ _ _ _)
   | (with_reducible exact LeO.refl _)
   | (with_reducible exact LeO.none _)
   | (with_reducible refine LeO.ite ?_ ?_)
   | (with_reducible refine LeO.bind ?_ (fun _ => ?_))
   | exact ih0 _ _ _ _ _ _ _
   | exact ih1 _ _ _ _ _ _ _ _
   | exact ih2 _ _ _ _ _ _ _ _
   | exact ih3 _ _ _ _ _ _ _ _
   | exact LeO.none _
   | refine LeO.ite ?_ ?_
   | refine LeO.bind ?_ (fun _ => ?_)
  ·intro y0 y1 y2 y3 y4 y5 y6 y7; unfold bC.l0; repeat' first
   | (with_reducible exact ih0 _ _ _ _ _ _ _)
   | (with_reducible exact ih1 _ _ _ _ _ _ _ _)
   | (with_reducible exact ih2 _ _ _ _ _ _ _ _)
   | (with_reducible exact ih3 _ _ _ _ _ _ _ _)
   | (with_reducible exact LeO.refl _)
   | (with_reducible exact LeO.none _)
   | (with_reducible refine LeO.ite ?_ ?_)
   | (with_reducible refine LeO.bind ?_ (fun _ => ?_))
   | exact ih0 _ _ _ _ _ _ _
   | exact ih1 _ _ _ _ _ _ _ _
   | exact ih2 _ _ _ _ _ _ _ _
   | exact ih3 _ _ _ _ _ _ _ _
   | exact LeO.none _
   | refine LeO.ite ?_ ?_
   | refine LeO.bind ?_ (fun _ => ?_)
theorem bC.mono : ∀ a0 a1 a2 a3 a4 a5 a6 k, LeO (bC.f k a0 a1 a2 a3 a4 a5 a6) (bC.f (k + 1) a0 a1 a2 a3 a4 a5 a6) := by
 intro a0 a1 a2 a3 a4 a5 a6 k; obtain ⟨ih0, ih1, ih2, ih3⟩ := bC.lF k; exact ih0 a0 a1 a2 a3 a4 a5 a6
set_option maxHeartbeats 8000000 in
set_option maxRecDepth 100000 in
theorem bC.calls (k : Nat) : ∀ (ah : Int) (ak : Int) (av : Int) (au : Int) (aJ : Option Addr) (aA : Nat) (ae : List (S27)) (aX : Int) (fG : Option Addr) (dD : Nat) (aI : List (S31)) (r : Int) (w : World) (fH : Kd.C k27 w aJ ae.length ae) (fI : ae.length ≤ aA) (pE : Kd.C k31 w fG aI.length aI) (pF : aI.length ≤ dD) (h : bC.f k ah ak av au ae aX aI = some r),
  Calls Try.prog 29 #[.agg #[.int .i64 ah, .int .i64 ak, .int .i64 av, .int .i64 au, .slice aJ ae.length aA], .agg #[.int .i64 aX, .slice fG aI.length dD]] w fun e w' => e = .returned (.int .i64 r) ∧ Below w.heap.size w w' := by
 induction k using Nat.strongRecOn with
 | _ k ih =>
 intro ah ak av au aJ aA ae aX fG dD aI r w fH fI pE pF h; cases k with
 | zero => exact absurd h (by simp [bC.f])
 | succ k =>
 simp only [bC.f] at h; have tV := Try.underlying27; have IB := Try.underlying31; have cK := aa.mk fH; have dX := aa.mk fI; clear fH fI; have rO := aa.mk pE; have Fj := aa.mk pF; clear pE pF; have HB := aa.mk (Below.refl w.heap.size w); have H : (if ah = 5 then (bC.j0 k true ah ak av au ae aX aI) else (bC.j0 k (ah == 6) ah ak av au ae aX aI)) = some r := h; clear h; have HC3 := aa.mk H; clear H; go_enter Try.func29, Try.ntmps29; go_upto_region 1 with (first | ((with_reducible refine bz (N := 2) rfl ?_); (try (refine bQ (by rfl) ?_; dsimp only)); refine bB ?hg (N := 2) ?hd (cs := #[.int .i64 ah, .int .i64 ak, .int .i64 av, .int .i64 au, .slice aJ ae.length aA]) (t := 27) ?hr ?_; (case hd => rfl); (case hg => rfl); (case hr => first | (go_simp; done) | (go_simp; rfl)); intro dU hg w4 aQ hb; have bY := aa.mk (aQ); have GW298 : aa (w.heap.size ≤ dU) := gw_ hg (aC bl_); have GE298 := GW298; replace HB := aa.mk (az bl_ hb); clear hb aQ hg) | ((with_reducible refine bz (N := 3) rfl ?_); (try (refine bQ (by rfl) ?_; dsimp only)); refine bB ?hg (N := 3) ?hd (cs := #[.int .i64 aX, .slice fG aI.length dD]) (t := 31) ?hr ?_; (case hd => rfl); (case hg => rfl); (case hr => first | (go_simp; done) | (go_simp; rfl)); intro nU hg w5 aQ hb; have fu := aa.mk (aQ); have GW299 : aa (w.heap.size ≤ nU) := gw_ hg (aC bl_); have GE299 := GW299; have kW := aa.mk ((by rw [hg]; exact Nat.ne_of_lt (bE (g := dU) (o := .cells #[.int .i64 ah, .int .i64 ak, .int .i64 av, .int .i64 au, .slice aJ ae.length aA] 27 (0, 0)) bk_) : dU ≠ nU)); have kX := aa.mk ((by rw [hg]; exact Nat.ne_of_gt (bE (g := dU) (o := .cells #[.int .i64 ah, .int .i64 ak, .int .i64 av, .int .i64 au, .slice aJ ae.length aA] 27 (0, 0)) bk_) : nU ≠ dU)); replace bY := aa.mk (ay (g := dU) (o := .cells #[.int .i64 ah, .int .i64 ak, .int .i64 av, .int .i64 au, .slice aJ ae.length aA] 27 (0, 0)) bk_ hb); replace HB := aa.mk (az bl_ hb); clear hb aQ hg))
 (try simp only [Act.put, List.setIfInBounds_toArray, List.set_cons_zero, List.set_cons_succ])
 go_cut [17] (fun v17 wc => ∃ (kq : Nat) (x17_2 : Bool), v17 = .bool x17_2 ∧ aa (bC.j0 kq x17_2 ah ak av au ae aX aI = some r) ∧ aa (kq ≤ k) ∧ aa (wc.heap[dU]? = some (.cells #[.int .i64 ah, .int .i64 ak, .int .i64 av, .int .i64 au, (.slice aJ ae.length aA)] 27 (0, 0))) ∧ aa (wc.heap[nU]? = some (.cells #[.int .i64 aX, (.slice fG aI.length dD)] 31 (0, 0))) ∧ aa (Below w.heap.size w wc))
 case first =>
  have H := HC3.out; clear HC3; by_cases c6 : ah = 5
  ·rw [if_pos c6] at H; have qW : (ah == 5) = true := beq_iff_eq.mpr c6; have IC : (ah != 5) = false := bne_eq_false_iff_eq.mpr c6; clear c6; (first | rw [qW] | (simp only [bg, bn]; rw [qW]) | skip)
   have H' := aa.mk H; clear H; have hnb7 := kW.out; have hnc7 := kX.out; obtain ⟨xZ, yc, LV, LW, LX, yf, yg, LY, LZ, L6⟩ := bF bY.out; go_wp2; go_meet
   case rel => exact ⟨_, (true), rs_, H', ⟨by first | omega | exact Nat.le_refl _⟩, ⟨bk_⟩, ⟨bk_⟩, ⟨bl_⟩⟩
  ·rw [if_neg c6] at H; have qW : (ah == 5) = false := beq_eq_false_iff_ne.mpr c6; have IC : (ah != 5) = true := bne_iff_ne.mpr c6; (first | rw [qW] | (simp only [bg, bn]; rw [qW]) | skip)
   have H' := aa.mk H; clear H; have hnb9 := kW.out; have hnc9 := kX.out; obtain ⟨oO, oP, qc, qd, qf, oQ, oU, qg, qh, qi⟩ := bF bY.out; go_wp2; go_meet
   case rel => exact ⟨_, ((ah == 6)), rs_, H', ⟨by first | omega | exact Nat.le_refl _⟩, ⟨bk_⟩, ⟨bk_⟩, ⟨bl_⟩⟩
 case rest =>
  clear HC3; (try clear c1); (try clear c2); (try clear p2); (try clear c6); (try clear qW); (try clear IC); (try clear c7); (try clear c9); (try clear oO oP qc qd qf oQ oU qg qh qi); (try clear xZ yc LV LW LX yf yg LY LZ L6); obtain ⟨kq, x17_2, rfl, HA, HJ2, bY, fu, HB⟩ := hcut; cases kq with
  | zero => exact absurd HA.out (by simp [bC.j0])
  | succ kj2 =>
   have H := HA.out; clear HA; simp only [bC.j0] at H; by_cases c11 : x17_2 = true
   ·subst c11; have H1 : (if aX = 0 then (if ah = 5 then (if (aI.length : Int) = (ae.length : Int) then (if ah = 6 then (bC.j1 kj2 (decide ((aI.length : Int) > au)) ah ak av au ae aX aI) else (bC.j1 kj2 false ah ak av au ae aX aI)) else (bC.j1 kj2 true ah ak av au ae aX aI)) else (if ah = 6 then (bC.j1 kj2 (decide ((aI.length : Int) > au)) ah ak av au ae aX aI) else (bC.j1 kj2 false ah ak av au ae aX aI))) else (bC.j1 kj2 true ah ak av au ae aX aI)) = some r := by rw [if_pos rfl] at H; exact H
    clear H; have H := H1; clear H1; have HC12 := aa.mk H; clear H; go_upto_region 2 with (fail)
    go_cut [47] (fun v47 wc => ∃ (kq : Nat) (Rj : Bool), v47 = .bool Rj ∧ aa (bC.j1 kq Rj ah ak av au ae aX aI = some r) ∧ aa (kq ≤ kj2) ∧ aa (wc.heap[dU]? = some (.cells #[.int .i64 ah, .int .i64 ak, .int .i64 av, .int .i64 au, (.slice aJ ae.length aA)] 27 (0, 0))) ∧ aa (wc.heap[nU]? = some (.cells #[.int .i64 aX, (.slice fG aI.length dD)] 31 (0, 0))) ∧ aa (Below w.heap.size w wc))
    case first =>
     have H := HC12.out; clear HC12; by_cases c13 : aX = 0
     ·rw [if_pos c13] at H; have mi : (aX == 0) = true := beq_iff_eq.mpr c13; have Fe : (aX != 0) = false := bne_eq_false_iff_eq.mpr c13; clear c13; (first | rw [mi] | (simp only [bg, bn]; rw [mi]) | skip)
      by_cases c14 : ah = 5
      ·rw [if_pos c14] at H; have pz : (ah == 5) = true := beq_iff_eq.mpr c14; have uZ : (ah != 5) = false := bne_eq_false_iff_eq.mpr c14; clear c14; by_cases c15 : (aI.length : Int) = (ae.length : Int)
       ·rw [if_pos c15] at H; have pU : ((aI.length : Int) == (ae.length : Int)) = true := beq_iff_eq.mpr c15; have AJ : ((aI.length : Int) != (ae.length : Int)) = false := bne_eq_false_iff_eq.mpr c15; have c15b2 : (aI.length == ae.length) = true := by first | simpa using c15 | (simp at c15 ⊢; omega)
        clear c15; by_cases c16 : ah = 6
        ·rw [if_pos c16] at H; have O7 : (ah == 6) = true := beq_iff_eq.mpr c16; have Rk : (ah != 6) = false := bne_eq_false_iff_eq.mpr c16; clear c16; have H' := aa.mk H; clear H; have hnb17 := kX.out; have hnc17 := kW.out; obtain ⟨qj, ql, qm, qo⟩ := dm fu.out; obtain ⟨zX, zY, Js, Jt, Ju, zZ, z8, Jv, Jw, Jy⟩ := bF bY.out; go_wp2; go_meet
         case rel => exact ⟨_, (decide ((aI.length : Int) > au)), rs_, H', ⟨by have := HJ2.out; first | omega | exact Nat.le_refl _⟩, ⟨bk_⟩, ⟨bk_⟩, ⟨bl_⟩⟩
        ·rw [if_neg c16] at H; have O7 : (ah == 6) = false := beq_eq_false_iff_ne.mpr c16; have Rk : (ah != 6) = true := bne_iff_ne.mpr c16; have H' := aa.mk H; clear H; have hnb20 := kX.out; have hnc20 := kW.out; obtain ⟨om, oo, oq, ou⟩ := dm fu.out; obtain ⟨oV, oW, uk, um, uo, oZ, o5, uq, uu, uw⟩ := bF bY.out; go_wp2; go_meet
         case rel => exact ⟨_, (false), rs_, H', ⟨by have := HJ2.out; first | omega | exact Nat.le_refl _⟩, ⟨bk_⟩, ⟨bk_⟩, ⟨bl_⟩⟩
       ·rw [if_neg c15] at H; have pU : ((aI.length : Int) == (ae.length : Int)) = false := beq_eq_false_iff_ne.mpr c15; have AJ : ((aI.length : Int) != (ae.length : Int)) = true := bne_iff_ne.mpr c15; have c15b2 : (aI.length == ae.length) = false := by first | simpa using c15 | (simp at c15 ⊢; omega)
        have H' := aa.mk H; clear H; have hnb23 := kX.out; have hnc23 := kW.out; obtain ⟨xK, xL, xM, xN⟩ := dm fu.out; obtain ⟨sD, sF, sG, sH, sI, sJ, sK, sM, sN, sO⟩ := bF bY.out; go_wp2; go_meet
        case rel => exact ⟨_, (true), rs_, H', ⟨by have := HJ2.out; first | omega | exact Nat.le_refl _⟩, ⟨bk_⟩, ⟨bk_⟩, ⟨bl_⟩⟩
      ·rw [if_neg c14] at H; have pz : (ah == 5) = false := beq_eq_false_iff_ne.mpr c14; have uZ : (ah != 5) = true := bne_iff_ne.mpr c14; by_cases c26 : ah = 6
       ·rw [if_pos c26] at H; have c26b0 : (ah == 6) = true := beq_iff_eq.mpr c26; have c26b1 : (ah != 6) = false := bne_eq_false_iff_eq.mpr c26; clear c26; have H' := aa.mk H; clear H; have O8 := kX.out; have O9 := kW.out; obtain ⟨lH, lI, lJ, lK⟩ := dm fu.out; obtain ⟨mJ, mK, uE, uF, uG, mM, mO, uH, uI, uJ⟩ := bF bY.out; go_wp2; go_meet
        case rel => exact ⟨_, (decide ((aI.length : Int) > au)), rs_, H', ⟨by have := HJ2.out; first | omega | exact Nat.le_refl _⟩, ⟨bk_⟩, ⟨bk_⟩, ⟨bl_⟩⟩
       ·rw [if_neg c26] at H; have c26b0 : (ah == 6) = false := beq_eq_false_iff_ne.mpr c26; have c26b1 : (ah != 6) = true := bne_iff_ne.mpr c26; have H' := aa.mk H; clear H; have hnb30 := kX.out; have hnc30 := kW.out; obtain ⟨UE, UF, UG, UH⟩ := dm fu.out; obtain ⟨qp, qw, BS, BU, BV, qx, qy, BX, BZ, Ca⟩ := bF bY.out; go_wp2; go_meet
        case rel => exact ⟨_, (false), rs_, H', ⟨by have := HJ2.out; first | omega | exact Nat.le_refl _⟩, ⟨bk_⟩, ⟨bk_⟩, ⟨bl_⟩⟩
     ·rw [if_neg c13] at H; have mi : (aX == 0) = false := beq_eq_false_iff_ne.mpr c13; have Fe : (aX != 0) = true := bne_iff_ne.mpr c13; (first | rw [mi] | (simp only [bg, bn]; rw [mi]) | skip)
      have H' := aa.mk H; clear H; have hnb33 := kX.out; have hnc33 := kW.out; obtain ⟨Cc, Ce, Cf, Cg⟩ := dm fu.out; go_wp2; go_meet
      case rel => exact ⟨_, (true), rs_, H', ⟨by have := HJ2.out; first | omega | exact Nat.le_refl _⟩, ⟨bk_⟩, ⟨bk_⟩, ⟨bl_⟩⟩
    case rest =>
     clear HC12; (try clear c1); (try clear c2); (try clear p2); (try clear c3); (try clear c6); (try clear qW); (try clear IC); (try clear c7); (try clear c9); (try clear c11); (try clear c13); (try clear mi); (try clear Fe); (try clear c14); (try clear pz); (try clear uZ); (try clear c15); (try clear pU); (try clear AJ); (try clear c15b2); (try clear c16); (try clear O7); (try clear Rk); (try clear c17); (try clear c20); (try clear c23); (try clear c26); (try clear c26b0); (try clear c26b1); (try clear c27); (try clear c29); (try clear c30); (try clear c33); (try clear oO oP qc qd qf oQ oU qg qh qi); (try clear qj ql qm qo); (try clear zX zY Js Jt Ju zZ z8 Jv Jw Jy); (try clear om oo oq ou); (try clear oV oW uk um uo oZ o5 uq uu uw); (try clear xK xL xM xN); (try clear sD sF sG sH sI sJ sK sM sN sO); (try clear lH lI lJ lK); (try clear mJ mK uE uF uG mM mO uH uI uJ); (try clear UE UF UG UH); (try clear qp qw BS BU BV qx qy BX BZ Ca); (try clear Cc Ce Cf Cg); (try clear xZ yc LV LW LX yf yg LY LZ L6); (try clear p2); obtain ⟨kq, Rj, rfl, HA, Ku, bY, fu, HB⟩ := hcut; cases kq with
     | zero => exact absurd HA.out (by simp [bC.j1])
     | succ Kv =>
      have H := HA.out; clear HA; simp only [bC.j1] at H; by_cases c35 : Rj = true
      ·subst c35; have H1 : (some 2) = some r := by rw [if_pos rfl] at H; exact H
       clear H; have H := H1; clear H1; obtain rfl := Option.some.inj H; go_wp2; go_ret; exact ⟨re_, bl_⟩
      ·replace c35 := Bool.eq_false_iff.mpr c35; subst c35; have H1 : (bC.l0 Kv aI (aI.length : Int) 0 ah ak av au ae) = some r := by rw [if_neg (show ¬ (false = true) by decide)] at H; exact H
       clear H; have H := H1; clear H1; have H' := aa.mk H; clear H; have hnb36 := kX.out; have hnc36 := kW.out; obtain ⟨sP, sQ, sS, sU⟩ := dm fu.out; go_wp2; go_loopg [51] Kv (fun kq v51 w' => ∃ (ek : Int), v51 = .int .i64 ek ∧ aa (bC.l0 kq aI (aI.length : Int) ek ah ak av au ae = some r) ∧ aa (kq ≤ Kv) ∧ aa (w'.heap[dU]? = some (.cells #[.int .i64 ah, .int .i64 ak, .int .i64 av, .int .i64 au, (.slice aJ ae.length aA)] 27 (0, 0))) ∧ aa (w'.heap[nU]? = some (.cells #[.int .i64 aX, (.slice fG aI.length dD)] 31 (0, 0))) ∧ aa (Below w.heap.size w w'))
       case atStart => exact ⟨(0), rs_, H', ⟨Nat.le_refl _⟩, ⟨bk_⟩, ⟨bk_⟩, ⟨bl_⟩⟩
       case round =>
        clear H'; (try clear c1); (try clear c2); (try clear p2); (try clear c3); (try clear c6); (try clear qW); (try clear IC); (try clear c7); (try clear c9); (try clear c11); (try clear c13); (try clear mi); (try clear Fe); (try clear c14); (try clear pz); (try clear uZ); (try clear c15); (try clear pU); (try clear AJ); (try clear c15b2); (try clear c16); (try clear O7); (try clear Rk); (try clear c17); (try clear c20); (try clear c23); (try clear c26); (try clear c26b0); (try clear c26b1); (try clear c27); (try clear c29); (try clear c30); (try clear c33); (try clear c35); (try clear c36); (try clear oO oP qc qd qf oQ oU qg qh qi); (try clear qj ql qm qo); (try clear zX zY Js Jt Ju zZ z8 Jv Jw Jy); (try clear om oo oq ou); (try clear oV oW uk um uo oZ o5 uq uu uw); (try clear xK xL xM xN); (try clear sD sF sG sH sI sJ sK sM sN sO); (try clear lH lI lJ lK); (try clear mJ mK uE uF uG mM mO uH uI uJ); (try clear UE UF UG UH); (try clear qp qw BS BU BV qx qy BX BZ Ca); (try clear Cc Ce Cf Cg); (try clear sP sQ sS sU); (try clear xZ yc LV LW LX yf yg LY LZ L6); (try clear p2); obtain ⟨ek, rfl, HA, HK3, bY, fu, HB⟩ := hrel; cases gk with
        | zero => exact absurd HA.out (by simp [bC.l0])
        | succ k3 =>
         have H := HA.out; clear HA; simp only [bC.l0] at H; by_cases c38 : ek < (aI.length : Int)
         ·rw [if_pos c38] at H; have KT : decide (ek < (aI.length : Int)) = true := decide_eq_true c38; clear c38; by_cases c39 : 0 ≤ ek
          ·rw [if_pos c39] at H; have wS : decide (0 ≤ ek) = true := decide_eq_true c39; clear c39; by_cases c40 : ek < (aI.length : Int)
           ·rw [if_pos c40] at H; have KU : decide (ek < (aI.length : Int)) = true := decide_eq_true c40; clear c40; replace H := Option.bind_eq_some_iff.mp H; obtain ⟨⟨t302, t303, t304, t305, t306⟩, A410, H⟩ := H; replace H : ((bC.f k3 t302 t303 t304 t305 t306 ((bG aI ek).f0) ((bG aI ek).f1)).bind fun Dz => (if Dz = 0 then (bC.l0 k3 aI (aI.length : Int) (wrap64 (ek + 1)) ah ak av au ae) else (some Dz))) = some r := H; have A41 := aa.mk A410; clear A410; replace H := Option.bind_eq_some_iff.mp H; obtain ⟨Dz, A420, H⟩ := H; replace H : (if Dz = 0 then (bC.l0 k3 aI (aI.length : Int) (wrap64 (ek + 1)) ah ak av au ae) else (some Dz)) = some r := H; have A42 := aa.mk A420; clear A420; by_cases c43 : Dz = 0
            ·rw [if_pos c43] at H; have c43b0 : (Dz == 0) = true := beq_iff_eq.mpr c43; have c43b1 : (Dz != 0) = false := bne_eq_false_iff_eq.mpr c43; clear c43; have H' := aa.mk H; clear H; have p300 : 0 ≤ (ek : Int) := dt_; have q300 : ek < (aI.length : Int) := dt_; obtain ⟨zf, ni, nk, e300, Gf, Gg, L8, L9⟩ := zt rO.out ek p300 q300; cases e300; replace Gf := (HB.out.cell (World.block_lt_of_cell? w _ Gf)).trans Gf; replace Gg := (HB.out.cell (World.block_lt_of_cell? w _ Gg)).trans Gg; have UI := aa.mk L9; have UJ := aa.mk L8; clear L9 L8; replace p300 := eq_true p300; replace q300 := eq_true q300; try go_wp2_with (first | ((with_reducible refine bz (N := 6) rfl ?_); (try (refine bQ (by rfl) ?_; dsimp only)); refine bB ?hg (N := 6) ?hd (cs := #[.int .i64 0, .slice none 0 0]) (t := 31) ?hr ?_; (case hd => rfl); (case hg => rfl); (case hr => first | (go_simp; done) | (go_simp; rfl)); intro iQ hg w44 aQ hb; have lV := aa.mk (aQ); have Rl : aa (w.heap.size ≤ iQ) := gw_ hg (aC bl_); have GE301 := Rl; have Bo := aa.mk ((by rw [hg]; exact Nat.ne_of_lt (bE (g := dU) (o := .cells #[.int .i64 ah, .int .i64 ak, .int .i64 av, .int .i64 au, .slice aJ ae.length aA] 27 (0, 0)) bk_) : dU ≠ iQ)); have NA := aa.mk ((by rw [hg]; exact Nat.ne_of_gt (bE (g := dU) (o := .cells #[.int .i64 ah, .int .i64 ak, .int .i64 av, .int .i64 au, .slice aJ ae.length aA] 27 (0, 0)) bk_) : iQ ≠ dU)); have Bp := aa.mk ((by rw [hg]; exact Nat.ne_of_lt (bE (g := nU) (o := .cells #[.int .i64 aX, .slice (some zf) aI.length dD] 31 (0, 0)) bk_) : nU ≠ iQ)); have NB := aa.mk ((by rw [hg]; exact Nat.ne_of_gt (bE (g := nU) (o := .cells #[.int .i64 aX, .slice (some zf) aI.length dD] 31 (0, 0)) bk_) : iQ ≠ nU)); replace bY := aa.mk (ay (g := dU) (o := .cells #[.int .i64 ah, .int .i64 ak, .int .i64 av, .int .i64 au, .slice aJ ae.length aA] 27 (0, 0)) bk_ hb); replace fu := aa.mk (ay (g := nU) (o := .cells #[.int .i64 aX, .slice (some zf) aI.length dD] 31 (0, 0)) bk_ hb); replace HB := aa.mk (az bl_ hb); clear hb aQ hg; have hnb45 := NA.out; have hnc45 := Bo.out; have hnb46 := NB.out; have hnc46 := Bp.out; obtain ⟨Yf, Yg, Yh, Yi⟩ := dm lV.out))
             have n0_ : aa (((w44.setCell ⟨iQ, 0, none⟩ (.int .i64 ((bG aI ek).f0))).setCell ⟨iQ, 1, none⟩ (.slice ni ((bG aI ek).f1).length nk)).heap[dU]? = some (.cells #[.int .i64 ah, .int .i64 ak, .int .i64 av, .int .i64 au, .slice aJ ae.length aA] 27 (0, 0))) := ⟨by (with_reducible repeat (first | refine ai ?_ _ | refine aj ?_ | refine ag ?_ _)); refine bq ?_ Bo.out _; (with_reducible repeat (first | refine ai ?_ _ | refine aj ?_ | refine ag ?_ _)); refine bq ?_ Bo.out _; (with_reducible repeat (first | refine ai ?_ _ | refine aj ?_ | refine ag ?_ _)); exact bY.out⟩; have n1_ : aa (((w44.setCell ⟨iQ, 0, none⟩ (.int .i64 ((bG aI ek).f0))).setCell ⟨iQ, 1, none⟩ (.slice ni ((bG aI ek).f1).length nk)).heap[nU]? = some (.cells #[.int .i64 aX, .slice (some zf) aI.length dD] 31 (0, 0))) := ⟨by (with_reducible repeat (first | refine ai ?_ _ | refine aj ?_ | refine ag ?_ _)); refine bq ?_ Bp.out _; (with_reducible repeat (first | refine ai ?_ _ | refine aj ?_ | refine ag ?_ _)); refine bq ?_ Bp.out _; (with_reducible repeat (first | refine ai ?_ _ | refine aj ?_ | refine ag ?_ _)); exact fu.out⟩; have n2_ : aa (((w44.setCell ⟨iQ, 0, none⟩ (.int .i64 ((bG aI ek).f0))).setCell ⟨iQ, 1, none⟩ (.slice ni ((bG aI ek).f1).length nk)).heap[iQ]? = some (.cells #[.int .i64 ((bG aI ek).f0), .slice ni ((bG aI ek).f1).length nk] 31 (0, 0))) := ⟨by (with_reducible repeat (first | refine ai ?_ _ | refine aj ?_ | refine ag ?_ _)); refine aV (cs := #[.int .i64 ((bG aI ek).f0), .slice none 0 0]) ?_ 1 _ rfl; (with_reducible repeat (first | refine ai ?_ _ | refine aj ?_ | refine ag ?_ _)); refine aV (cs := #[.int .i64 0, .slice none 0 0]) ?_ 0 _ rfl; (with_reducible repeat (first | refine ai ?_ _ | refine aj ?_ | refine ag ?_ _)); exact lV.out⟩; have n3_ : aa (Below w.heap.size w ((w44.setCell ⟨iQ, 0, none⟩ (.int .i64 ((bG aI ek).f0))).setCell ⟨iQ, 1, none⟩ (.slice ni ((bG aI ek).f1).length nk))) := ⟨bl_⟩; (try clear bY)
             (try clear fu)
             (try clear lV)
             (try clear HB)
             generalize ((w44.setCell ⟨iQ, 0, none⟩ (.int .i64 ((bG aI ek).f0))).setCell ⟨iQ, 1, none⟩ (.slice ni ((bG aI ek).f1).length nk)) = w48 at n0_ n1_ n2_ n3_ ⊢
             have bY := n0_; have fu := n1_; have lV := n2_; have HB := n3_; clear n0_ n1_ n2_ n3_; replace bY := aa.mk (aj bY.out); replace fu := aa.mk (aj fu.out); replace lV := aa.mk (aj lV.out); replace HB := aa.mk (bU HB.out); refine lG (n := 6) (S := fun w' => w'.cell? ⟨dU, 0, none⟩ = some (.int .i64 ah) ∧ w'.cell? ⟨dU, 1, none⟩ = some (.int .i64 ak) ∧ w'.cell? ⟨dU, 2, none⟩ = some (.int .i64 av) ∧ w'.cell? ⟨dU, 3, none⟩ = some (.int .i64 au) ∧ w'.cell? ⟨dU, 4, none⟩ = some (.slice aJ ae.length aA) ∧ w'.cell? ⟨iQ, 0, none⟩ = some (.int .i64 ((bG aI ek).f0)) ∧ w'.cell? ⟨iQ, 1, none⟩ = some (.slice ni ((bG aI ek).f1).length nk)) (ds := []) #[false, false, false, false, false, false] (by kernel_rfl) rfl rfl ⟨(ax bY.out 0).trans rfl, (ax bY.out 1).trans rfl, (ax bY.out 2).trans rfl, (ax bY.out 3).trans rfl, (ax bY.out 4).trans rfl, (ax lV.out 0).trans rfl, (ax lV.out 1).trans rfl⟩ (fun hHeld => ?_)
             generalize w48.drew = w49 at bY fu lV HB hHeld ⊢
             refine di (i := 1) (N := some 57) (v := ?_) (a' := ?_) #[false, true, false, false, false, false] rfl rfl (by kernel_rfl) (fun _ _ _ h => h) (Or.inl ⟨by rfl, ?_⟩) ?_ ?_
             rotate_left
             ·intro w'; go_simp; with_reducible rfl
             rotate_left
             ·simp only [Act.put, List.setIfInBounds_toArray, List.set_cons_zero, List.set_cons_succ, bg, bn]; rfl
             refine fJ (i := 0) (N := some 56) (v := ?_) (a' := ?_) #[true, true, false, false, false, false] rfl rfl (by kernel_rfl) (fun _ _ _ h => h) (Or.inl ⟨by rfl, ?_⟩) hHeld ?_ ?_
             rotate_left
             ·rintro w' ⟨s0, s1, s2, s3, s4, s5, s6⟩
              go_simp; with_reducible rfl
             rotate_left
             ·simp only [Act.put, List.setIfInBounds_toArray, List.set_cons_zero, List.set_cons_succ, bg, bn]; rfl
             refine fJ (i := 3) (N := some 59) (v := ?_) (a' := ?_) #[true, true, false, true, false, false] rfl rfl (by kernel_rfl) (fun _ _ _ h => h) (Or.inl ⟨by rfl, ?_⟩) hHeld ?_ ?_
             rotate_left
             ·rintro w' ⟨s0, s1, s2, s3, s4, s5, s6⟩
              go_simp; with_reducible rfl
             rotate_left
             ·simp only [Act.put, List.setIfInBounds_toArray, List.set_cons_zero, List.set_cons_succ, bg, bn]; rfl
             refine oM (i := 2) (N := some 58) #[true, true, true, true, false, false] rfl rfl (by kernel_rfl) (by decide) (fun K hK => ?_)
             refine sV Try.func45 (by kernel_rfl) rfl #[.agg #[.int .i64 ah, .int .i64 ak, .int .i64 av, .int .i64 au, .slice aJ ae.length aA], .int .i64 ek] (by rfl) rfl rfl (by (try simp only [List.map_toArray, List.map_cons, List.map_nil]); first | done | rfl | (simp only [List.length_drop, List.length_take]; rfl)) ?_
             with_reducible refine (lh.calls ah ak av au (fun k_ => k_ < w.heap.size) _ _ ae ek t302 t303 t304 t305 t306 _ ?aW A41.out).mono ?_
             (case aW => exact Kd.Bh dX.out (Kd.rC (Kd.C_F Dw cK.out) bl_))
             rintro e w50 ⟨v307, rfl, ho0, hb⟩
             refine ⟨_, rfl, ?_⟩
             have Fp := aa.mk (Kd.yh (Kd.eU (ok' := fun k_ => k_ ≠ dU ∧ k_ ≠ nU ∧ k_ ≠ iQ) ho0 (fun k_ hk_ => ⟨Or.elim hk_ (fun hs_ => fun e_ => Nat.not_le.2 hs_ (by rw [e_]; exact GW298.out)) (fun hn_ => (Kd.fT (g := dU) (o := .cells #[.int .i64 ah, .int .i64 ak, .int .i64 av, .int .i64 au, .slice aJ ae.length aA] 27 (0, 0)) bk_ k_ hn_)), Or.elim hk_ (fun hs_ => fun e_ => Nat.not_le.2 hs_ (by rw [e_]; exact GW299.out)) (fun hn_ => (Kd.fT (g := nU) (o := .cells #[.int .i64 aX, .slice (some zf) aI.length dD] 31 (0, 0)) bk_ k_ hn_)), Or.elim hk_ (fun hs_ => fun e_ => Nat.not_le.2 hs_ (by rw [e_]; exact Rl.out)) (fun hn_ => (Kd.fT (g := iQ) (o := .cells #[.int .i64 ((bG aI ek).f0), .slice ni ((bG aI ek).f1).length nk] 31 (0, 0)) bk_ k_ hn_))⟩)) (aC bl_)); replace bY := aa.mk (ay (g := dU) (o := .cells #[.int .i64 ah, .int .i64 ak, .int .i64 av, .int .i64 au, .slice aJ ae.length aA] 27 (0, 0)) bk_ hb); replace fu := aa.mk (ay (g := nU) (o := .cells #[.int .i64 aX, .slice (some zf) aI.length dD] 31 (0, 0)) bk_ hb); replace lV := aa.mk (ay (g := iQ) (o := .cells #[.int .i64 ((bG aI ek).f0), .slice ni ((bG aI ek).f1).length nk] 31 (0, 0)) bk_ hb); replace HB := aa.mk (az bl_ hb); (try clear hb)
             (try clear hb2)
             (try clear hk)
             (try clear hi)
             (try clear ho0)
             obtain ⟨Ao51, co51, eo51⟩ := Kd.wI Fp.out; (first | subst eo51 | (injection eo51 with f1_ f2_ f3_; have f4_ := f1_.symm; have f5_ := f3_.symm; clear f1_ f2_ f3_; subst f4_; subst f5_))
             refine hK.out _ _ ⟨(ax bY.out 0).trans rfl, (ax bY.out 1).trans rfl, (ax bY.out 2).trans rfl, (ax bY.out 3).trans rfl, (ax bY.out 4).trans rfl, (ax lV.out 0).trans rfl, (ax lV.out 1).trans rfl⟩ (fun hHeld => ?_)
             clear hK K; refine lq (a' := ?_) ?_ ?_
             rotate_left
             ·show Act.put _ (some 58) _ = _
              simp only [Act.put, List.setIfInBounds_toArray, List.set_cons_zero, List.set_cons_succ, bg, bn]; rfl
             refine oM (i := 4) (N := some 60) #[true, true, true, true, true, false] rfl rfl (by kernel_rfl) (by decide) (fun K hK => ?_)
             refine sV Try.func29 (by kernel_rfl) rfl #[.agg #[.int .i64 t302, .int .i64 t303, .int .i64 t304, .int .i64 t305, .slice Ao51 t306.length co51], .agg #[.int .i64 ((bG aI ek).f0), .slice ni ((bG aI ek).f1).length nk]] (by rfl) rfl rfl (by (try simp only [List.map_toArray, List.map_cons, List.map_nil]); first | done | rfl | (simp only [List.length_drop, List.length_take]; rfl)) ?_
             with_reducible refine (ih k3 (by have := HJ2.out; have := Ku.out; have := HK3.out; omega) t302 t303 t304 t305 _ _ t306 ((bG aI ek).f0) _ _ ((bG aI ek).f1) Dz _ ?aW ?aY ?dH ?dO A42.out).mono ?_
             (case aW => repeat (first | exact (Kd.nR Fp.out).2.2 | (with_reducible refine Kd.bK ?_ _) | (with_reducible refine Kd.bL ?_ _) | (with_reducible refine Kd.bO ?_)))
             (case aY => exact (Kd.nR Fp.out).2.1)
             (case dH => repeat (first | exact (Kd.bT UI.out HB.out) | (with_reducible refine Kd.bK ?_ _) | (with_reducible refine Kd.bL ?_ _) | (with_reducible refine Kd.bO ?_)))
             (case dO => exact UJ.out)
             rintro e w52 ⟨rfl, hb⟩
             refine ⟨_, rfl, ?_⟩
             replace Fp := aa.mk (Kd.iA (pV_ Fp.out) hb); replace bY := aa.mk (ay (g := dU) (o := .cells #[.int .i64 ah, .int .i64 ak, .int .i64 av, .int .i64 au, .slice aJ ae.length aA] 27 (0, 0)) bk_ hb); replace fu := aa.mk (ay (g := nU) (o := .cells #[.int .i64 aX, .slice (some zf) aI.length dD] 31 (0, 0)) bk_ hb); replace lV := aa.mk (ay (g := iQ) (o := .cells #[.int .i64 ((bG aI ek).f0), .slice ni ((bG aI ek).f1).length nk] 31 (0, 0)) bk_ hb); replace HB := aa.mk (az bl_ hb); (try clear hb)
             (try clear hb2)
             (try clear hk)
             (try clear hi)
             refine hK.out _ _ ⟨(ax bY.out 0).trans rfl, (ax bY.out 1).trans rfl, (ax bY.out 2).trans rfl, (ax bY.out 3).trans rfl, (ax bY.out 4).trans rfl, (ax lV.out 0).trans rfl, (ax lV.out 1).trans rfl⟩ (fun hHeld => ?_)
             clear hK K; refine lq (a' := ?_) ?_ ?_
             rotate_left
             ·show Act.put _ (some 60) _ = _
              simp only [Act.put, List.setIfInBounds_toArray, List.set_cons_zero, List.set_cons_succ, bg, bn]; rfl
             refine di (i := 5) (N := some 7) (v := ?_) (a' := ?_) #[true, true, true, true, true, true] rfl rfl (by kernel_rfl) (fun _ _ _ h => h) (Or.inl ⟨by rfl, ?_⟩) ?_ ?_
             rotate_left
             ·intro w'; go_simp; with_reducible rfl
             rotate_left
             ·simp only [Act.put, List.setIfInBounds_toArray, List.set_cons_zero, List.set_cons_succ, bg, bn]; rfl
             refine nT (by kernel_rfl) ?_
             try go_wp2
             go_roundg k3
             case measure => have := HJ2.out; have := Ku.out; have := HK3.out; omega
             case rel => exact ⟨(wrap64 (ek + 1)), rs_, H', ⟨by have := HJ2.out; have := Ku.out; have := HK3.out; omega⟩, ⟨bk_⟩, ⟨bk_⟩, ⟨bl_⟩⟩
            ·rw [if_neg c43] at H; have c43b0 : (Dz == 0) = false := beq_eq_false_iff_ne.mpr c43; have c43b1 : (Dz != 0) = true := bne_iff_ne.mpr c43; obtain rfl := Option.some.inj H; have p300 : 0 ≤ (ek : Int) := dt_; have q300 : ek < (aI.length : Int) := dt_; obtain ⟨zf, ni, nk, e300, Gf, Gg, L8, L9⟩ := zt rO.out ek p300 q300; cases e300; replace Gf := (HB.out.cell (World.block_lt_of_cell? w _ Gf)).trans Gf; replace Gg := (HB.out.cell (World.block_lt_of_cell? w _ Gg)).trans Gg; have UI := aa.mk L9; have UJ := aa.mk L8; clear L9 L8; replace p300 := eq_true p300; replace q300 := eq_true q300; try go_wp2_with (first | ((with_reducible refine bz (N := 6) rfl ?_); (try (refine bQ (by rfl) ?_; dsimp only)); refine bB ?hg (N := 6) ?hd (cs := #[.int .i64 0, .slice none 0 0]) (t := 31) ?hr ?_; (case hd => rfl); (case hg => rfl); (case hr => first | (go_simp; done) | (go_simp; rfl)); intro iQ hg w53 aQ hb; have lV := aa.mk (aQ); have Rl : aa (w.heap.size ≤ iQ) := gw_ hg (aC bl_); have GE301 := Rl; have Bo := aa.mk ((by rw [hg]; exact Nat.ne_of_lt (bE (g := dU) (o := .cells #[.int .i64 ah, .int .i64 ak, .int .i64 av, .int .i64 au, .slice aJ ae.length aA] 27 (0, 0)) bk_) : dU ≠ iQ)); have NA := aa.mk ((by rw [hg]; exact Nat.ne_of_gt (bE (g := dU) (o := .cells #[.int .i64 ah, .int .i64 ak, .int .i64 av, .int .i64 au, .slice aJ ae.length aA] 27 (0, 0)) bk_) : iQ ≠ dU)); have Bp := aa.mk ((by rw [hg]; exact Nat.ne_of_lt (bE (g := nU) (o := .cells #[.int .i64 aX, .slice (some zf) aI.length dD] 31 (0, 0)) bk_) : nU ≠ iQ)); have NB := aa.mk ((by rw [hg]; exact Nat.ne_of_gt (bE (g := nU) (o := .cells #[.int .i64 aX, .slice (some zf) aI.length dD] 31 (0, 0)) bk_) : iQ ≠ nU)); replace bY := aa.mk (ay (g := dU) (o := .cells #[.int .i64 ah, .int .i64 ak, .int .i64 av, .int .i64 au, .slice aJ ae.length aA] 27 (0, 0)) bk_ hb); replace fu := aa.mk (ay (g := nU) (o := .cells #[.int .i64 aX, .slice (some zf) aI.length dD] 31 (0, 0)) bk_ hb); replace HB := aa.mk (az bl_ hb); clear hb aQ hg; have hnb54 := NA.out; have hnc54 := Bo.out; have hnb55 := NB.out; have hnc55 := Bp.out; obtain ⟨Yj, Yk, Yl, Ym⟩ := dm lV.out))
             have n0_ : aa (((w53.setCell ⟨iQ, 0, none⟩ (.int .i64 ((bG aI ek).f0))).setCell ⟨iQ, 1, none⟩ (.slice ni ((bG aI ek).f1).length nk)).heap[dU]? = some (.cells #[.int .i64 ah, .int .i64 ak, .int .i64 av, .int .i64 au, .slice aJ ae.length aA] 27 (0, 0))) := ⟨by (with_reducible repeat (first | refine ai ?_ _ | refine aj ?_ | refine ag ?_ _)); refine bq ?_ Bo.out _; (with_reducible repeat (first | refine ai ?_ _ | refine aj ?_ | refine ag ?_ _)); refine bq ?_ Bo.out _; (with_reducible repeat (first | refine ai ?_ _ | refine aj ?_ | refine ag ?_ _)); exact bY.out⟩; have n1_ : aa (((w53.setCell ⟨iQ, 0, none⟩ (.int .i64 ((bG aI ek).f0))).setCell ⟨iQ, 1, none⟩ (.slice ni ((bG aI ek).f1).length nk)).heap[nU]? = some (.cells #[.int .i64 aX, .slice (some zf) aI.length dD] 31 (0, 0))) := ⟨by (with_reducible repeat (first | refine ai ?_ _ | refine aj ?_ | refine ag ?_ _)); refine bq ?_ Bp.out _; (with_reducible repeat (first | refine ai ?_ _ | refine aj ?_ | refine ag ?_ _)); refine bq ?_ Bp.out _; (with_reducible repeat (first | refine ai ?_ _ | refine aj ?_ | refine ag ?_ _)); exact fu.out⟩; have n2_ : aa (((w53.setCell ⟨iQ, 0, none⟩ (.int .i64 ((bG aI ek).f0))).setCell ⟨iQ, 1, none⟩ (.slice ni ((bG aI ek).f1).length nk)).heap[iQ]? = some (.cells #[.int .i64 ((bG aI ek).f0), .slice ni ((bG aI ek).f1).length nk] 31 (0, 0))) := ⟨by (with_reducible repeat (first | refine ai ?_ _ | refine aj ?_ | refine ag ?_ _)); refine aV (cs := #[.int .i64 ((bG aI ek).f0), .slice none 0 0]) ?_ 1 _ rfl; (with_reducible repeat (first | refine ai ?_ _ | refine aj ?_ | refine ag ?_ _)); refine aV (cs := #[.int .i64 0, .slice none 0 0]) ?_ 0 _ rfl; (with_reducible repeat (first | refine ai ?_ _ | refine aj ?_ | refine ag ?_ _)); exact lV.out⟩; have n3_ : aa (Below w.heap.size w ((w53.setCell ⟨iQ, 0, none⟩ (.int .i64 ((bG aI ek).f0))).setCell ⟨iQ, 1, none⟩ (.slice ni ((bG aI ek).f1).length nk))) := ⟨bl_⟩; (try clear bY)
             (try clear fu)
             (try clear lV)
             (try clear HB)
             generalize ((w53.setCell ⟨iQ, 0, none⟩ (.int .i64 ((bG aI ek).f0))).setCell ⟨iQ, 1, none⟩ (.slice ni ((bG aI ek).f1).length nk)) = w57 at n0_ n1_ n2_ n3_ ⊢
             have bY := n0_; have fu := n1_; have lV := n2_; have HB := n3_; clear n0_ n1_ n2_ n3_; replace bY := aa.mk (aj bY.out); replace fu := aa.mk (aj fu.out); replace lV := aa.mk (aj lV.out); replace HB := aa.mk (bU HB.out); refine lG (n := 6) (S := fun w' => w'.cell? ⟨dU, 0, none⟩ = some (.int .i64 ah) ∧ w'.cell? ⟨dU, 1, none⟩ = some (.int .i64 ak) ∧ w'.cell? ⟨dU, 2, none⟩ = some (.int .i64 av) ∧ w'.cell? ⟨dU, 3, none⟩ = some (.int .i64 au) ∧ w'.cell? ⟨dU, 4, none⟩ = some (.slice aJ ae.length aA) ∧ w'.cell? ⟨iQ, 0, none⟩ = some (.int .i64 ((bG aI ek).f0)) ∧ w'.cell? ⟨iQ, 1, none⟩ = some (.slice ni ((bG aI ek).f1).length nk)) (ds := []) #[false, false, false, false, false, false] (by kernel_rfl) rfl rfl ⟨(ax bY.out 0).trans rfl, (ax bY.out 1).trans rfl, (ax bY.out 2).trans rfl, (ax bY.out 3).trans rfl, (ax bY.out 4).trans rfl, (ax lV.out 0).trans rfl, (ax lV.out 1).trans rfl⟩ (fun hHeld => ?_)
             generalize w57.drew = w58 at bY fu lV HB hHeld ⊢
             refine di (i := 1) (N := some 57) (v := ?_) (a' := ?_) #[false, true, false, false, false, false] rfl rfl (by kernel_rfl) (fun _ _ _ h => h) (Or.inl ⟨by rfl, ?_⟩) ?_ ?_
             rotate_left
             ·intro w'; go_simp; with_reducible rfl
             rotate_left
             ·simp only [Act.put, List.setIfInBounds_toArray, List.set_cons_zero, List.set_cons_succ, bg, bn]; rfl
             refine fJ (i := 0) (N := some 56) (v := ?_) (a' := ?_) #[true, true, false, false, false, false] rfl rfl (by kernel_rfl) (fun _ _ _ h => h) (Or.inl ⟨by rfl, ?_⟩) hHeld ?_ ?_
             rotate_left
             ·rintro w' ⟨s0, s1, s2, s3, s4, s5, s6⟩
              go_simp; with_reducible rfl
             rotate_left
             ·simp only [Act.put, List.setIfInBounds_toArray, List.set_cons_zero, List.set_cons_succ, bg, bn]; rfl
             refine fJ (i := 3) (N := some 59) (v := ?_) (a' := ?_) #[true, true, false, true, false, false] rfl rfl (by kernel_rfl) (fun _ _ _ h => h) (Or.inl ⟨by rfl, ?_⟩) hHeld ?_ ?_
             rotate_left
             ·rintro w' ⟨s0, s1, s2, s3, s4, s5, s6⟩
              go_simp; with_reducible rfl
             rotate_left
             ·simp only [Act.put, List.setIfInBounds_toArray, List.set_cons_zero, List.set_cons_succ, bg, bn]; rfl
             refine oM (i := 2) (N := some 58) #[true, true, true, true, false, false] rfl rfl (by kernel_rfl) (by decide) (fun K hK => ?_)
             refine sV Try.func45 (by kernel_rfl) rfl #[.agg #[.int .i64 ah, .int .i64 ak, .int .i64 av, .int .i64 au, .slice aJ ae.length aA], .int .i64 ek] (by rfl) rfl rfl (by (try simp only [List.map_toArray, List.map_cons, List.map_nil]); first | done | rfl | (simp only [List.length_drop, List.length_take]; rfl)) ?_
             with_reducible refine (lh.calls ah ak av au (fun k_ => k_ < w.heap.size) _ _ ae ek t302 t303 t304 t305 t306 _ ?aW A41.out).mono ?_
             (case aW => exact Kd.Bh dX.out (Kd.rC (Kd.C_F Dw cK.out) bl_))
             rintro e w59 ⟨v307, rfl, ho0, hb⟩
             refine ⟨_, rfl, ?_⟩
             have Fp := aa.mk (Kd.yh (Kd.eU (ok' := fun k_ => k_ ≠ dU ∧ k_ ≠ nU ∧ k_ ≠ iQ) ho0 (fun k_ hk_ => ⟨Or.elim hk_ (fun hs_ => fun e_ => Nat.not_le.2 hs_ (by rw [e_]; exact GW298.out)) (fun hn_ => (Kd.fT (g := dU) (o := .cells #[.int .i64 ah, .int .i64 ak, .int .i64 av, .int .i64 au, .slice aJ ae.length aA] 27 (0, 0)) bk_ k_ hn_)), Or.elim hk_ (fun hs_ => fun e_ => Nat.not_le.2 hs_ (by rw [e_]; exact GW299.out)) (fun hn_ => (Kd.fT (g := nU) (o := .cells #[.int .i64 aX, .slice (some zf) aI.length dD] 31 (0, 0)) bk_ k_ hn_)), Or.elim hk_ (fun hs_ => fun e_ => Nat.not_le.2 hs_ (by rw [e_]; exact Rl.out)) (fun hn_ => (Kd.fT (g := iQ) (o := .cells #[.int .i64 ((bG aI ek).f0), .slice ni ((bG aI ek).f1).length nk] 31 (0, 0)) bk_ k_ hn_))⟩)) (aC bl_)); replace bY := aa.mk (ay (g := dU) (o := .cells #[.int .i64 ah, .int .i64 ak, .int .i64 av, .int .i64 au, .slice aJ ae.length aA] 27 (0, 0)) bk_ hb); replace fu := aa.mk (ay (g := nU) (o := .cells #[.int .i64 aX, .slice (some zf) aI.length dD] 31 (0, 0)) bk_ hb); replace lV := aa.mk (ay (g := iQ) (o := .cells #[.int .i64 ((bG aI ek).f0), .slice ni ((bG aI ek).f1).length nk] 31 (0, 0)) bk_ hb); replace HB := aa.mk (az bl_ hb); (try clear hb)
             (try clear hb2)
             (try clear hk)
             (try clear hi)
             (try clear ho0)
             obtain ⟨Ao60, co60, eo60⟩ := Kd.wI Fp.out; (first | subst eo60 | (injection eo60 with f1_ f2_ f3_; have f4_ := f1_.symm; have f5_ := f3_.symm; clear f1_ f2_ f3_; subst f4_; subst f5_))
             refine hK.out _ _ ⟨(ax bY.out 0).trans rfl, (ax bY.out 1).trans rfl, (ax bY.out 2).trans rfl, (ax bY.out 3).trans rfl, (ax bY.out 4).trans rfl, (ax lV.out 0).trans rfl, (ax lV.out 1).trans rfl⟩ (fun hHeld => ?_)
             clear hK K; refine lq (a' := ?_) ?_ ?_
             rotate_left
             ·show Act.put _ (some 58) _ = _
              simp only [Act.put, List.setIfInBounds_toArray, List.set_cons_zero, List.set_cons_succ, bg, bn]; rfl
             refine oM (i := 4) (N := some 60) #[true, true, true, true, true, false] rfl rfl (by kernel_rfl) (by decide) (fun K hK => ?_)
             refine sV Try.func29 (by kernel_rfl) rfl #[.agg #[.int .i64 t302, .int .i64 t303, .int .i64 t304, .int .i64 t305, .slice Ao60 t306.length co60], .agg #[.int .i64 ((bG aI ek).f0), .slice ni ((bG aI ek).f1).length nk]] (by rfl) rfl rfl (by (try simp only [List.map_toArray, List.map_cons, List.map_nil]); first | done | rfl | (simp only [List.length_drop, List.length_take]; rfl)) ?_
             with_reducible refine (ih k3 (by have := HJ2.out; have := Ku.out; have := HK3.out; omega) t302 t303 t304 t305 _ _ t306 ((bG aI ek).f0) _ _ ((bG aI ek).f1) Dz _ ?aW ?aY ?dH ?dO A42.out).mono ?_
             (case aW => repeat (first | exact (Kd.nR Fp.out).2.2 | (with_reducible refine Kd.bK ?_ _) | (with_reducible refine Kd.bL ?_ _) | (with_reducible refine Kd.bO ?_)))
             (case aY => exact (Kd.nR Fp.out).2.1)
             (case dH => repeat (first | exact (Kd.bT UI.out HB.out) | (with_reducible refine Kd.bK ?_ _) | (with_reducible refine Kd.bL ?_ _) | (with_reducible refine Kd.bO ?_)))
             (case dO => exact UJ.out)
             rintro e w61 ⟨rfl, hb⟩
             refine ⟨_, rfl, ?_⟩
             replace Fp := aa.mk (Kd.iA (pV_ Fp.out) hb); replace bY := aa.mk (ay (g := dU) (o := .cells #[.int .i64 ah, .int .i64 ak, .int .i64 av, .int .i64 au, .slice aJ ae.length aA] 27 (0, 0)) bk_ hb); replace fu := aa.mk (ay (g := nU) (o := .cells #[.int .i64 aX, .slice (some zf) aI.length dD] 31 (0, 0)) bk_ hb); replace lV := aa.mk (ay (g := iQ) (o := .cells #[.int .i64 ((bG aI ek).f0), .slice ni ((bG aI ek).f1).length nk] 31 (0, 0)) bk_ hb); replace HB := aa.mk (az bl_ hb); (try clear hb)
             (try clear hb2)
             (try clear hk)
             (try clear hi)
             refine hK.out _ _ ⟨(ax bY.out 0).trans rfl, (ax bY.out 1).trans rfl, (ax bY.out 2).trans rfl, (ax bY.out 3).trans rfl, (ax bY.out 4).trans rfl, (ax lV.out 0).trans rfl, (ax lV.out 1).trans rfl⟩ (fun hHeld => ?_)
             clear hK K; refine lq (a' := ?_) ?_ ?_
             rotate_left
             ·show Act.put _ (some 60) _ = _
              simp only [Act.put, List.setIfInBounds_toArray, List.set_cons_zero, List.set_cons_succ, bg, bn]; rfl
             refine di (i := 5) (N := some 7) (v := ?_) (a' := ?_) #[true, true, true, true, true, true] rfl rfl (by kernel_rfl) (fun _ _ _ h => h) (Or.inl ⟨by rfl, ?_⟩) ?_ ?_
             rotate_left
             ·intro w'; go_simp; with_reducible rfl
             rotate_left
             ·simp only [Act.put, List.setIfInBounds_toArray, List.set_cons_zero, List.set_cons_succ, bg, bn]; rfl
             refine nT (by kernel_rfl) ?_
             try go_wp2
             go_ret; exact ⟨re_, bl_⟩
           ·rw [if_neg c40] at H; exact absurd H (by simp)
          ·rw [if_neg c39] at H; exact absurd H (by simp)
         ·rw [if_neg c38] at H; have KT : decide (ek < (aI.length : Int)) = false := decide_eq_false c38; clear c38; obtain rfl := Option.some.inj H; go_wp2; go_ret; exact ⟨re_, bl_⟩
   ·replace c11 := Bool.eq_false_iff.mpr c11; subst c11; have H1 : (if (aI.length : Int) = 0 then (if ah = 1 then (if aX < ak then (some 1) else (if aX > 1 then (some 1) else (some 0))) else (if ah = 3 then (if aX < ak then (some 1) else (if aX > aX then (some 1) else (some 0))) else (if aX < ak then (some 1) else (if aX > av then (some 1) else (some 0))))) else (some 2)) = some r := by rw [if_neg (show ¬ (false = true) by decide)] at H; exact H
    clear H; have H := H1; clear H1; by_cases c62 : (aI.length : Int) = 0
    ·rw [if_pos c62] at H; have c62b0 : ((aI.length : Int) == 0) = true := beq_iff_eq.mpr c62; have c62b1 : ((aI.length : Int) != 0) = false := bne_eq_false_iff_eq.mpr c62; clear c62; by_cases c63 : ah = 1
     ·rw [if_pos c63] at H; have IY : (ah == 1) = true := beq_iff_eq.mpr c63; have M4 : (ah != 1) = false := bne_eq_false_iff_eq.mpr c63; clear c63; by_cases c64 : aX < ak
      ·rw [if_pos c64] at H; have O3 : decide (aX < ak) = true := decide_eq_true c64; clear c64; obtain rfl := Option.some.inj H; have hnb65 := kX.out; have hnc65 := kW.out; obtain ⟨Jo, Jp, Jq, Jr⟩ := dm fu.out; try go_wp2
       replace bY := aa.mk (aj bY.out); replace fu := aa.mk (aj fu.out); replace HB := aa.mk (bU HB.out); refine lG (n := 6) (S := fun w' => w'.cell? ⟨dU, 0, none⟩ = some (.int .i64 ah) ∧ w'.cell? ⟨dU, 1, none⟩ = some (.int .i64 ak) ∧ w'.cell? ⟨dU, 2, none⟩ = some (.int .i64 av) ∧ w'.cell? ⟨dU, 3, none⟩ = some (.int .i64 au) ∧ w'.cell? ⟨dU, 4, none⟩ = some (.slice aJ ae.length aA)) (ds := []) #[false, false, false, false, false, false] (by kernel_rfl) rfl rfl ⟨(ax bY.out 0).trans rfl, (ax bY.out 1).trans rfl, (ax bY.out 2).trans rfl, (ax bY.out 3).trans rfl, (ax bY.out 4).trans rfl⟩ (fun hHeld => ?_)
       generalize wc.drew = w67 at bY fu HB hHeld ⊢
       refine di (i := 0) (N := some 69) (v := ?_) (a' := ?_) #[true, false, false, false, false, false] rfl rfl (by kernel_rfl) (fun _ _ _ h => h) (Or.inl ⟨by rfl, ?_⟩) ?_ ?_
       rotate_left
       ·intro w'; go_simp; with_reducible rfl
       rotate_left
       ·simp only [Act.put, List.setIfInBounds_toArray, List.set_cons_zero, List.set_cons_succ, bg, bn]; rfl
       refine di (i := 2) (N := some 71) (v := ?_) (a' := ?_) #[true, false, true, false, false, false] rfl rfl (by kernel_rfl) (fun _ _ _ h => h) (Or.inl ⟨by rfl, ?_⟩) ?_ ?_
       rotate_left
       ·intro w'; go_simp; with_reducible rfl
       rotate_left
       ·simp only [Act.put, List.setIfInBounds_toArray, List.set_cons_zero, List.set_cons_succ, bg, bn]; rfl
       refine fJ (i := 1) (N := some 70) (v := ?_) (a' := ?_) #[true, true, true, false, false, false] rfl rfl (by kernel_rfl) (fun _ _ _ h => h) (Or.inl ⟨by rfl, ?_⟩) hHeld ?_ ?_
       rotate_left
       ·rintro w' ⟨s0, s1, s2, s3, s4⟩
        go_simp; with_reducible rfl
       rotate_left
       ·simp only [Act.put, List.setIfInBounds_toArray, List.set_cons_zero, List.set_cons_succ, bg, bn]; rfl
       refine di (i := 4) (N := some 8) (v := ?_) (a' := ?_) #[true, true, true, false, true, false] rfl rfl (by kernel_rfl) (fun _ _ _ h => h) (Or.inl ⟨by rfl, ?_⟩) ?_ ?_
       rotate_left
       ·intro w'; go_simp; with_reducible rfl
       rotate_left
       ·simp only [Act.put, List.setIfInBounds_toArray, List.set_cons_zero, List.set_cons_succ, bg, bn]; rfl
       refine fJ (i := 3) (N := some 72) (v := ?_) (a' := ?_) #[true, true, true, true, true, false] rfl rfl (by kernel_rfl) (fun _ _ _ h => h) (Or.inl ⟨by rfl, ?_⟩) hHeld ?_ ?_
       rotate_left
       ·rintro w' ⟨s0, s1, s2, s3, s4⟩
        go_simp; with_reducible rfl
       rotate_left
       ·simp only [Act.put, List.setIfInBounds_toArray, List.set_cons_zero, List.set_cons_succ, bg, bn]; rfl
       refine di (i := 5) (N := some 9) (v := ?_) (a' := ?_) #[true, true, true, true, true, true] rfl rfl (by kernel_rfl) (fun _ _ _ h => h) (Or.inl ⟨by rfl, ?_⟩) ?_ ?_
       rotate_left
       ·intro w'; go_simp; with_reducible rfl
       rotate_left
       ·simp only [Act.put, List.setIfInBounds_toArray, List.set_cons_zero, List.set_cons_succ, bg, bn]; rfl
       refine nT (by kernel_rfl) ?_
       obtain ⟨TP, TQ, TR, TS, TT, TU, TV, TW, TY, TZ⟩ := bF bY.out; obtain ⟨Pb, Pd, Pe, Pf⟩ := dm fu.out; try go_wp2
       go_ret; exact ⟨re_, bl_⟩
      ·rw [if_neg c64] at H; have O3 : decide (aX < ak) = false := decide_eq_false c64; clear c64; by_cases c70 : aX > 1
       ·rw [if_pos c70] at H; have c70b0 : decide (1 < aX) = true := decide_eq_true c70; clear c70; obtain rfl := Option.some.inj H; have hnb71 := kX.out; have hnc71 := kW.out; obtain ⟨hcz72_0, hcz72_1, hfz72_0, hfz72_1⟩ := dm fu.out; try go_wp2
        replace bY := aa.mk (aj bY.out); replace fu := aa.mk (aj fu.out); replace HB := aa.mk (bU HB.out); refine lG (n := 6) (S := fun w' => w'.cell? ⟨dU, 0, none⟩ = some (.int .i64 ah) ∧ w'.cell? ⟨dU, 1, none⟩ = some (.int .i64 ak) ∧ w'.cell? ⟨dU, 2, none⟩ = some (.int .i64 av) ∧ w'.cell? ⟨dU, 3, none⟩ = some (.int .i64 au) ∧ w'.cell? ⟨dU, 4, none⟩ = some (.slice aJ ae.length aA)) (ds := []) #[false, false, false, false, false, false] (by kernel_rfl) rfl rfl ⟨(ax bY.out 0).trans rfl, (ax bY.out 1).trans rfl, (ax bY.out 2).trans rfl, (ax bY.out 3).trans rfl, (ax bY.out 4).trans rfl⟩ (fun hHeld => ?_)
        generalize wc.drew = w73 at bY fu HB hHeld ⊢
        refine di (i := 0) (N := some 69) (v := ?_) (a' := ?_) #[true, false, false, false, false, false] rfl rfl (by kernel_rfl) (fun _ _ _ h => h) (Or.inl ⟨by rfl, ?_⟩) ?_ ?_
        rotate_left
        ·intro w'; go_simp; with_reducible rfl
        rotate_left
        ·simp only [Act.put, List.setIfInBounds_toArray, List.set_cons_zero, List.set_cons_succ, bg, bn]; rfl
        refine di (i := 2) (N := some 71) (v := ?_) (a' := ?_) #[true, false, true, false, false, false] rfl rfl (by kernel_rfl) (fun _ _ _ h => h) (Or.inl ⟨by rfl, ?_⟩) ?_ ?_
        rotate_left
        ·intro w'; go_simp; with_reducible rfl
        rotate_left
        ·simp only [Act.put, List.setIfInBounds_toArray, List.set_cons_zero, List.set_cons_succ, bg, bn]; rfl
        refine fJ (i := 1) (N := some 70) (v := ?_) (a' := ?_) #[true, true, true, false, false, false] rfl rfl (by kernel_rfl) (fun _ _ _ h => h) (Or.inl ⟨by rfl, ?_⟩) hHeld ?_ ?_
        rotate_left
        ·rintro w' ⟨s0, s1, s2, s3, s4⟩
         go_simp; with_reducible rfl
        rotate_left
        ·simp only [Act.put, List.setIfInBounds_toArray, List.set_cons_zero, List.set_cons_succ, bg, bn]; rfl
        refine di (i := 4) (N := some 8) (v := ?_) (a' := ?_) #[true, true, true, false, true, false] rfl rfl (by kernel_rfl) (fun _ _ _ h => h) (Or.inl ⟨by rfl, ?_⟩) ?_ ?_
        rotate_left
        ·intro w'; go_simp; with_reducible rfl
        rotate_left
        ·simp only [Act.put, List.setIfInBounds_toArray, List.set_cons_zero, List.set_cons_succ, bg, bn]; rfl
        refine fJ (i := 3) (N := some 72) (v := ?_) (a' := ?_) #[true, true, true, true, true, false] rfl rfl (by kernel_rfl) (fun _ _ _ h => h) (Or.inl ⟨by rfl, ?_⟩) hHeld ?_ ?_
        rotate_left
        ·rintro w' ⟨s0, s1, s2, s3, s4⟩
         go_simp; with_reducible rfl
        rotate_left
        ·simp only [Act.put, List.setIfInBounds_toArray, List.set_cons_zero, List.set_cons_succ, bg, bn]; rfl
        refine di (i := 5) (N := some 9) (v := ?_) (a' := ?_) #[true, true, true, true, true, true] rfl rfl (by kernel_rfl) (fun _ _ _ h => h) (Or.inl ⟨by rfl, ?_⟩) ?_ ?_
        rotate_left
        ·intro w'; go_simp; with_reducible rfl
        rotate_left
        ·simp only [Act.put, List.setIfInBounds_toArray, List.set_cons_zero, List.set_cons_succ, bg, bn]; rfl
        refine nT (by kernel_rfl) ?_
        obtain ⟨hcz74_0, hcz74_1, hcz74_2, hcz74_3, hcz74_4, hfz74_0, hfz74_1, hfz74_2, hfz74_3, hfz74_4⟩ := bF bY.out; obtain ⟨hcz75_0, hcz75_1, hfz75_0, hfz75_1⟩ := dm fu.out; try go_wp2
        go_ret; exact ⟨re_, bl_⟩
       ·rw [if_neg c70] at H; have c70b0 : decide (1 < aX) = false := decide_eq_false c70; clear c70; obtain rfl := Option.some.inj H; have hnb76 := kX.out; have hnc76 := kW.out; obtain ⟨hcz77_0, hcz77_1, hfz77_0, hfz77_1⟩ := dm fu.out; try go_wp2
        replace bY := aa.mk (aj bY.out); replace fu := aa.mk (aj fu.out); replace HB := aa.mk (bU HB.out); refine lG (n := 6) (S := fun w' => w'.cell? ⟨dU, 0, none⟩ = some (.int .i64 ah) ∧ w'.cell? ⟨dU, 1, none⟩ = some (.int .i64 ak) ∧ w'.cell? ⟨dU, 2, none⟩ = some (.int .i64 av) ∧ w'.cell? ⟨dU, 3, none⟩ = some (.int .i64 au) ∧ w'.cell? ⟨dU, 4, none⟩ = some (.slice aJ ae.length aA)) (ds := []) #[false, false, false, false, false, false] (by kernel_rfl) rfl rfl ⟨(ax bY.out 0).trans rfl, (ax bY.out 1).trans rfl, (ax bY.out 2).trans rfl, (ax bY.out 3).trans rfl, (ax bY.out 4).trans rfl⟩ (fun hHeld => ?_)
        generalize wc.drew = w78 at bY fu HB hHeld ⊢
        refine di (i := 0) (N := some 69) (v := ?_) (a' := ?_) #[true, false, false, false, false, false] rfl rfl (by kernel_rfl) (fun _ _ _ h => h) (Or.inl ⟨by rfl, ?_⟩) ?_ ?_
        rotate_left
        ·intro w'; go_simp; with_reducible rfl
        rotate_left
        ·simp only [Act.put, List.setIfInBounds_toArray, List.set_cons_zero, List.set_cons_succ, bg, bn]; rfl
        refine di (i := 2) (N := some 71) (v := ?_) (a' := ?_) #[true, false, true, false, false, false] rfl rfl (by kernel_rfl) (fun _ _ _ h => h) (Or.inl ⟨by rfl, ?_⟩) ?_ ?_
        rotate_left
        ·intro w'; go_simp; with_reducible rfl
        rotate_left
        ·simp only [Act.put, List.setIfInBounds_toArray, List.set_cons_zero, List.set_cons_succ, bg, bn]; rfl
        refine fJ (i := 1) (N := some 70) (v := ?_) (a' := ?_) #[true, true, true, false, false, false] rfl rfl (by kernel_rfl) (fun _ _ _ h => h) (Or.inl ⟨by rfl, ?_⟩) hHeld ?_ ?_
        rotate_left
        ·rintro w' ⟨s0, s1, s2, s3, s4⟩
         go_simp; with_reducible rfl
        rotate_left
        ·simp only [Act.put, List.setIfInBounds_toArray, List.set_cons_zero, List.set_cons_succ, bg, bn]; rfl
        refine di (i := 4) (N := some 8) (v := ?_) (a' := ?_) #[true, true, true, false, true, false] rfl rfl (by kernel_rfl) (fun _ _ _ h => h) (Or.inl ⟨by rfl, ?_⟩) ?_ ?_
        rotate_left
        ·intro w'; go_simp; with_reducible rfl
        rotate_left
        ·simp only [Act.put, List.setIfInBounds_toArray, List.set_cons_zero, List.set_cons_succ, bg, bn]; rfl
        refine fJ (i := 3) (N := some 72) (v := ?_) (a' := ?_) #[true, true, true, true, true, false] rfl rfl (by kernel_rfl) (fun _ _ _ h => h) (Or.inl ⟨by rfl, ?_⟩) hHeld ?_ ?_
        rotate_left
        ·rintro w' ⟨s0, s1, s2, s3, s4⟩
         go_simp; with_reducible rfl
        rotate_left
        ·simp only [Act.put, List.setIfInBounds_toArray, List.set_cons_zero, List.set_cons_succ, bg, bn]; rfl
        refine di (i := 5) (N := some 9) (v := ?_) (a' := ?_) #[true, true, true, true, true, true] rfl rfl (by kernel_rfl) (fun _ _ _ h => h) (Or.inl ⟨by rfl, ?_⟩) ?_ ?_
        rotate_left
        ·intro w'; go_simp; with_reducible rfl
        rotate_left
        ·simp only [Act.put, List.setIfInBounds_toArray, List.set_cons_zero, List.set_cons_succ, bg, bn]; rfl
        refine nT (by kernel_rfl) ?_
        obtain ⟨UK, UL, hcz79_2, hcz79_3, hcz79_4, UM, UN, hfz79_2, hfz79_3, hfz79_4⟩ := bF bY.out; obtain ⟨Ue, Uf, Ug, Uh⟩ := dm fu.out; try go_wp2
        go_ret; exact ⟨re_, bl_⟩
     ·rw [if_neg c63] at H; have IY : (ah == 1) = false := beq_eq_false_iff_ne.mpr c63; have M4 : (ah != 1) = true := bne_iff_ne.mpr c63; by_cases c81 : ah = 3
      ·rw [if_pos c81] at H; have Ra : (ah == 3) = true := beq_iff_eq.mpr c81; have Rb : (ah != 3) = false := bne_eq_false_iff_eq.mpr c81; clear c81; by_cases c82 : aX < ak
       ·rw [if_pos c82] at H; have c82b0 : decide (aX < ak) = true := decide_eq_true c82; clear c82; obtain rfl := Option.some.inj H; have hnb83 := kX.out; have hnc83 := kW.out; obtain ⟨Ui, Uj, Uk, Ul⟩ := dm fu.out; try go_wp2
        replace bY := aa.mk (aj bY.out); replace fu := aa.mk (aj fu.out); replace HB := aa.mk (bU HB.out); refine lG (n := 6) (S := fun w' => w'.cell? ⟨dU, 0, none⟩ = some (.int .i64 ah) ∧ w'.cell? ⟨dU, 1, none⟩ = some (.int .i64 ak) ∧ w'.cell? ⟨dU, 2, none⟩ = some (.int .i64 av) ∧ w'.cell? ⟨dU, 3, none⟩ = some (.int .i64 au) ∧ w'.cell? ⟨dU, 4, none⟩ = some (.slice aJ ae.length aA)) (ds := []) #[false, false, false, false, false, false] (by kernel_rfl) rfl rfl ⟨(ax bY.out 0).trans rfl, (ax bY.out 1).trans rfl, (ax bY.out 2).trans rfl, (ax bY.out 3).trans rfl, (ax bY.out 4).trans rfl⟩ (fun hHeld => ?_)
        generalize wc.drew = w85 at bY fu HB hHeld ⊢
        refine di (i := 0) (N := some 69) (v := ?_) (a' := ?_) #[true, false, false, false, false, false] rfl rfl (by kernel_rfl) (fun _ _ _ h => h) (Or.inl ⟨by rfl, ?_⟩) ?_ ?_
        rotate_left
        ·intro w'; go_simp; with_reducible rfl
        rotate_left
        ·simp only [Act.put, List.setIfInBounds_toArray, List.set_cons_zero, List.set_cons_succ, bg, bn]; rfl
        refine di (i := 2) (N := some 71) (v := ?_) (a' := ?_) #[true, false, true, false, false, false] rfl rfl (by kernel_rfl) (fun _ _ _ h => h) (Or.inl ⟨by rfl, ?_⟩) ?_ ?_
        rotate_left
        ·intro w'; go_simp; with_reducible rfl
        rotate_left
        ·simp only [Act.put, List.setIfInBounds_toArray, List.set_cons_zero, List.set_cons_succ, bg, bn]; rfl
        refine fJ (i := 1) (N := some 70) (v := ?_) (a' := ?_) #[true, true, true, false, false, false] rfl rfl (by kernel_rfl) (fun _ _ _ h => h) (Or.inl ⟨by rfl, ?_⟩) hHeld ?_ ?_
        rotate_left
        ·rintro w' ⟨s0, s1, s2, s3, s4⟩
         go_simp; with_reducible rfl
        rotate_left
        ·simp only [Act.put, List.setIfInBounds_toArray, List.set_cons_zero, List.set_cons_succ, bg, bn]; rfl
        refine di (i := 4) (N := some 8) (v := ?_) (a' := ?_) #[true, true, true, false, true, false] rfl rfl (by kernel_rfl) (fun _ _ _ h => h) (Or.inl ⟨by rfl, ?_⟩) ?_ ?_
        rotate_left
        ·intro w'; go_simp; with_reducible rfl
        rotate_left
        ·simp only [Act.put, List.setIfInBounds_toArray, List.set_cons_zero, List.set_cons_succ, bg, bn]; rfl
        refine fJ (i := 3) (N := some 72) (v := ?_) (a' := ?_) #[true, true, true, true, true, false] rfl rfl (by kernel_rfl) (fun _ _ _ h => h) (Or.inl ⟨by rfl, ?_⟩) hHeld ?_ ?_
        rotate_left
        ·rintro w' ⟨s0, s1, s2, s3, s4⟩
         go_simp; with_reducible rfl
        rotate_left
        ·simp only [Act.put, List.setIfInBounds_toArray, List.set_cons_zero, List.set_cons_succ, bg, bn]; rfl
        refine di (i := 5) (N := some 9) (v := ?_) (a' := ?_) #[true, true, true, true, true, true] rfl rfl (by kernel_rfl) (fun _ _ _ h => h) (Or.inl ⟨by rfl, ?_⟩) ?_ ?_
        rotate_left
        ·intro w'; go_simp; with_reducible rfl
        rotate_left
        ·simp only [Act.put, List.setIfInBounds_toArray, List.set_cons_zero, List.set_cons_succ, bg, bn]; rfl
        refine nT (by kernel_rfl) ?_
        obtain ⟨Yn, Yo, Yp, Yq, Yr, Yt, Yu, Yv, Yw, Yx⟩ := bF bY.out; obtain ⟨Um, Un, Uo, Uq⟩ := dm fu.out; try go_wp2
        go_ret; exact ⟨re_, bl_⟩
       ·rw [if_neg c82] at H; have c82b0 : decide (aX < ak) = false := decide_eq_false c82; clear c82; by_cases c88 : aX > aX
        ·exact absurd c88 (by omega)
        ·rw [if_neg c88] at H; have c88b0 : decide (aX < aX) = false := decide_eq_false c88; clear c88; obtain rfl := Option.some.inj H; have hnb94 := kX.out; have hnc94 := kW.out; obtain ⟨Yy, Yz, YA, YB⟩ := dm fu.out; try go_wp2
         replace bY := aa.mk (aj bY.out); replace fu := aa.mk (aj fu.out); replace HB := aa.mk (bU HB.out); refine lG (n := 6) (S := fun w' => w'.cell? ⟨dU, 0, none⟩ = some (.int .i64 ah) ∧ w'.cell? ⟨dU, 1, none⟩ = some (.int .i64 ak) ∧ w'.cell? ⟨dU, 2, none⟩ = some (.int .i64 av) ∧ w'.cell? ⟨dU, 3, none⟩ = some (.int .i64 au) ∧ w'.cell? ⟨dU, 4, none⟩ = some (.slice aJ ae.length aA)) (ds := []) #[false, false, false, false, false, false] (by kernel_rfl) rfl rfl ⟨(ax bY.out 0).trans rfl, (ax bY.out 1).trans rfl, (ax bY.out 2).trans rfl, (ax bY.out 3).trans rfl, (ax bY.out 4).trans rfl⟩ (fun hHeld => ?_)
         generalize wc.drew = w96 at bY fu HB hHeld ⊢
         refine di (i := 0) (N := some 69) (v := ?_) (a' := ?_) #[true, false, false, false, false, false] rfl rfl (by kernel_rfl) (fun _ _ _ h => h) (Or.inl ⟨by rfl, ?_⟩) ?_ ?_
         rotate_left
         ·intro w'; go_simp; with_reducible rfl
         rotate_left
         ·simp only [Act.put, List.setIfInBounds_toArray, List.set_cons_zero, List.set_cons_succ, bg, bn]; rfl
         refine di (i := 2) (N := some 71) (v := ?_) (a' := ?_) #[true, false, true, false, false, false] rfl rfl (by kernel_rfl) (fun _ _ _ h => h) (Or.inl ⟨by rfl, ?_⟩) ?_ ?_
         rotate_left
         ·intro w'; go_simp; with_reducible rfl
         rotate_left
         ·simp only [Act.put, List.setIfInBounds_toArray, List.set_cons_zero, List.set_cons_succ, bg, bn]; rfl
         refine fJ (i := 1) (N := some 70) (v := ?_) (a' := ?_) #[true, true, true, false, false, false] rfl rfl (by kernel_rfl) (fun _ _ _ h => h) (Or.inl ⟨by rfl, ?_⟩) hHeld ?_ ?_
         rotate_left
         ·rintro w' ⟨s0, s1, s2, s3, s4⟩
          go_simp; with_reducible rfl
         rotate_left
         ·simp only [Act.put, List.setIfInBounds_toArray, List.set_cons_zero, List.set_cons_succ, bg, bn]; rfl
         refine di (i := 4) (N := some 8) (v := ?_) (a' := ?_) #[true, true, true, false, true, false] rfl rfl (by kernel_rfl) (fun _ _ _ h => h) (Or.inl ⟨by rfl, ?_⟩) ?_ ?_
         rotate_left
         ·intro w'; go_simp; with_reducible rfl
         rotate_left
         ·simp only [Act.put, List.setIfInBounds_toArray, List.set_cons_zero, List.set_cons_succ, bg, bn]; rfl
         refine fJ (i := 3) (N := some 72) (v := ?_) (a' := ?_) #[true, true, true, true, true, false] rfl rfl (by kernel_rfl) (fun _ _ _ h => h) (Or.inl ⟨by rfl, ?_⟩) hHeld ?_ ?_
         rotate_left
         ·rintro w' ⟨s0, s1, s2, s3, s4⟩
          go_simp; with_reducible rfl
         rotate_left
         ·simp only [Act.put, List.setIfInBounds_toArray, List.set_cons_zero, List.set_cons_succ, bg, bn]; rfl
         refine di (i := 5) (N := some 9) (v := ?_) (a' := ?_) #[true, true, true, true, true, true] rfl rfl (by kernel_rfl) (fun _ _ _ h => h) (Or.inl ⟨by rfl, ?_⟩) ?_ ?_
         rotate_left
         ·intro w'; go_simp; with_reducible rfl
         rotate_left
         ·simp only [Act.put, List.setIfInBounds_toArray, List.set_cons_zero, List.set_cons_succ, bg, bn]; rfl
         refine nT (by kernel_rfl) ?_
         obtain ⟨hcz97_0, hcz97_1, hcz97_2, hcz97_3, hcz97_4, hfz97_0, hfz97_1, hfz97_2, hfz97_3, hfz97_4⟩ := bF bY.out; obtain ⟨hcz98_0, hcz98_1, hfz98_0, hfz98_1⟩ := dm fu.out; try go_wp2
         go_ret; exact ⟨re_, bl_⟩
      ·rw [if_neg c81] at H; have Ra : (ah == 3) = false := beq_eq_false_iff_ne.mpr c81; have Rb : (ah != 3) = true := bne_iff_ne.mpr c81; by_cases c99 : aX < ak
       ·rw [if_pos c99] at H; have c99b0 : decide (aX < ak) = true := decide_eq_true c99; clear c99; obtain rfl := Option.some.inj H; have hnb100 := kX.out; have hnc100 := kW.out; obtain ⟨hcz101_0, hcz101_1, hfz101_0, hfz101_1⟩ := dm fu.out; try go_wp2
        replace bY := aa.mk (aj bY.out); replace fu := aa.mk (aj fu.out); replace HB := aa.mk (bU HB.out); refine lG (n := 6) (S := fun w' => w'.cell? ⟨dU, 0, none⟩ = some (.int .i64 ah) ∧ w'.cell? ⟨dU, 1, none⟩ = some (.int .i64 ak) ∧ w'.cell? ⟨dU, 2, none⟩ = some (.int .i64 av) ∧ w'.cell? ⟨dU, 3, none⟩ = some (.int .i64 au) ∧ w'.cell? ⟨dU, 4, none⟩ = some (.slice aJ ae.length aA)) (ds := []) #[false, false, false, false, false, false] (by kernel_rfl) rfl rfl ⟨(ax bY.out 0).trans rfl, (ax bY.out 1).trans rfl, (ax bY.out 2).trans rfl, (ax bY.out 3).trans rfl, (ax bY.out 4).trans rfl⟩ (fun hHeld => ?_)
        generalize wc.drew = w102 at bY fu HB hHeld ⊢
        refine di (i := 0) (N := some 69) (v := ?_) (a' := ?_) #[true, false, false, false, false, false] rfl rfl (by kernel_rfl) (fun _ _ _ h => h) (Or.inl ⟨by rfl, ?_⟩) ?_ ?_
        rotate_left
        ·intro w'; go_simp; with_reducible rfl
        rotate_left
        ·simp only [Act.put, List.setIfInBounds_toArray, List.set_cons_zero, List.set_cons_succ, bg, bn]; rfl
        refine di (i := 2) (N := some 71) (v := ?_) (a' := ?_) #[true, false, true, false, false, false] rfl rfl (by kernel_rfl) (fun _ _ _ h => h) (Or.inl ⟨by rfl, ?_⟩) ?_ ?_
        rotate_left
        ·intro w'; go_simp; with_reducible rfl
        rotate_left
        ·simp only [Act.put, List.setIfInBounds_toArray, List.set_cons_zero, List.set_cons_succ, bg, bn]; rfl
        refine fJ (i := 1) (N := some 70) (v := ?_) (a' := ?_) #[true, true, true, false, false, false] rfl rfl (by kernel_rfl) (fun _ _ _ h => h) (Or.inl ⟨by rfl, ?_⟩) hHeld ?_ ?_
        rotate_left
        ·rintro w' ⟨s0, s1, s2, s3, s4⟩
         go_simp; with_reducible rfl
        rotate_left
        ·simp only [Act.put, List.setIfInBounds_toArray, List.set_cons_zero, List.set_cons_succ, bg, bn]; rfl
        refine di (i := 4) (N := some 8) (v := ?_) (a' := ?_) #[true, true, true, false, true, false] rfl rfl (by kernel_rfl) (fun _ _ _ h => h) (Or.inl ⟨by rfl, ?_⟩) ?_ ?_
        rotate_left
        ·intro w'; go_simp; with_reducible rfl
        rotate_left
        ·simp only [Act.put, List.setIfInBounds_toArray, List.set_cons_zero, List.set_cons_succ, bg, bn]; rfl
        refine fJ (i := 3) (N := some 72) (v := ?_) (a' := ?_) #[true, true, true, true, true, false] rfl rfl (by kernel_rfl) (fun _ _ _ h => h) (Or.inl ⟨by rfl, ?_⟩) hHeld ?_ ?_
        rotate_left
        ·rintro w' ⟨s0, s1, s2, s3, s4⟩
         go_simp; with_reducible rfl
        rotate_left
        ·simp only [Act.put, List.setIfInBounds_toArray, List.set_cons_zero, List.set_cons_succ, bg, bn]; rfl
        refine di (i := 5) (N := some 9) (v := ?_) (a' := ?_) #[true, true, true, true, true, true] rfl rfl (by kernel_rfl) (fun _ _ _ h => h) (Or.inl ⟨by rfl, ?_⟩) ?_ ?_
        rotate_left
        ·intro w'; go_simp; with_reducible rfl
        rotate_left
        ·simp only [Act.put, List.setIfInBounds_toArray, List.set_cons_zero, List.set_cons_succ, bg, bn]; rfl
        refine nT (by kernel_rfl) ?_
        obtain ⟨WO, WQ, WR, WS, WT, WU, WV, WW, WX, WY⟩ := bF bY.out; obtain ⟨hcz104_0, hcz104_1, hfz104_0, hfz104_1⟩ := dm fu.out; try go_wp2
        go_ret; exact ⟨re_, bl_⟩
       ·rw [if_neg c99] at H; have c99b0 : decide (aX < ak) = false := decide_eq_false c99; clear c99; by_cases c105 : aX > av
        ·rw [if_pos c105] at H; have WZ : decide (av < aX) = true := decide_eq_true c105; clear c105; obtain rfl := Option.some.inj H; have hnb106 := kX.out; have hnc106 := kW.out; obtain ⟨QK, QL, QM, QN⟩ := dm fu.out; try go_wp2
         replace bY := aa.mk (aj bY.out); replace fu := aa.mk (aj fu.out); replace HB := aa.mk (bU HB.out); refine lG (n := 6) (S := fun w' => w'.cell? ⟨dU, 0, none⟩ = some (.int .i64 ah) ∧ w'.cell? ⟨dU, 1, none⟩ = some (.int .i64 ak) ∧ w'.cell? ⟨dU, 2, none⟩ = some (.int .i64 av) ∧ w'.cell? ⟨dU, 3, none⟩ = some (.int .i64 au) ∧ w'.cell? ⟨dU, 4, none⟩ = some (.slice aJ ae.length aA)) (ds := []) #[false, false, false, false, false, false] (by kernel_rfl) rfl rfl ⟨(ax bY.out 0).trans rfl, (ax bY.out 1).trans rfl, (ax bY.out 2).trans rfl, (ax bY.out 3).trans rfl, (ax bY.out 4).trans rfl⟩ (fun hHeld => ?_)
         generalize wc.drew = w108 at bY fu HB hHeld ⊢
         refine di (i := 0) (N := some 69) (v := ?_) (a' := ?_) #[true, false, false, false, false, false] rfl rfl (by kernel_rfl) (fun _ _ _ h => h) (Or.inl ⟨by rfl, ?_⟩) ?_ ?_
         rotate_left
         ·intro w'; go_simp; with_reducible rfl
         rotate_left
         ·simp only [Act.put, List.setIfInBounds_toArray, List.set_cons_zero, List.set_cons_succ, bg, bn]; rfl
         refine di (i := 2) (N := some 71) (v := ?_) (a' := ?_) #[true, false, true, false, false, false] rfl rfl (by kernel_rfl) (fun _ _ _ h => h) (Or.inl ⟨by rfl, ?_⟩) ?_ ?_
         rotate_left
         ·intro w'; go_simp; with_reducible rfl
         rotate_left
         ·simp only [Act.put, List.setIfInBounds_toArray, List.set_cons_zero, List.set_cons_succ, bg, bn]; rfl
         refine fJ (i := 1) (N := some 70) (v := ?_) (a' := ?_) #[true, true, true, false, false, false] rfl rfl (by kernel_rfl) (fun _ _ _ h => h) (Or.inl ⟨by rfl, ?_⟩) hHeld ?_ ?_
         rotate_left
         ·rintro w' ⟨s0, s1, s2, s3, s4⟩
          go_simp; with_reducible rfl
         rotate_left
         ·simp only [Act.put, List.setIfInBounds_toArray, List.set_cons_zero, List.set_cons_succ, bg, bn]; rfl
         refine di (i := 4) (N := some 8) (v := ?_) (a' := ?_) #[true, true, true, false, true, false] rfl rfl (by kernel_rfl) (fun _ _ _ h => h) (Or.inl ⟨by rfl, ?_⟩) ?_ ?_
         rotate_left
         ·intro w'; go_simp; with_reducible rfl
         rotate_left
         ·simp only [Act.put, List.setIfInBounds_toArray, List.set_cons_zero, List.set_cons_succ, bg, bn]; rfl
         refine fJ (i := 3) (N := some 72) (v := ?_) (a' := ?_) #[true, true, true, true, true, false] rfl rfl (by kernel_rfl) (fun _ _ _ h => h) (Or.inl ⟨by rfl, ?_⟩) hHeld ?_ ?_
         rotate_left
         ·rintro w' ⟨s0, s1, s2, s3, s4⟩
          go_simp; with_reducible rfl
         rotate_left
         ·simp only [Act.put, List.setIfInBounds_toArray, List.set_cons_zero, List.set_cons_succ, bg, bn]; rfl
         refine di (i := 5) (N := some 9) (v := ?_) (a' := ?_) #[true, true, true, true, true, true] rfl rfl (by kernel_rfl) (fun _ _ _ h => h) (Or.inl ⟨by rfl, ?_⟩) ?_ ?_
         rotate_left
         ·intro w'; go_simp; with_reducible rfl
         rotate_left
         ·simp only [Act.put, List.setIfInBounds_toArray, List.set_cons_zero, List.set_cons_succ, bg, bn]; rfl
         refine nT (by kernel_rfl) ?_
         obtain ⟨hcz109_0, hcz109_1, hcz109_2, hcz109_3, hcz109_4, hfz109_0, hfz109_1, hfz109_2, hfz109_3, hfz109_4⟩ := bF bY.out; obtain ⟨hcz110_0, hcz110_1, hfz110_0, hfz110_1⟩ := dm fu.out; try go_wp2
         go_ret; exact ⟨re_, bl_⟩
        ·rw [if_neg c105] at H; have WZ : decide (av < aX) = false := decide_eq_false c105; clear c105; obtain rfl := Option.some.inj H; have hnb111 := kX.out; have hnc111 := kW.out; obtain ⟨hcz112_0, hcz112_1, hfz112_0, hfz112_1⟩ := dm fu.out; try go_wp2
         replace bY := aa.mk (aj bY.out); replace fu := aa.mk (aj fu.out); replace HB := aa.mk (bU HB.out); refine lG (n := 6) (S := fun w' => w'.cell? ⟨dU, 0, none⟩ = some (.int .i64 ah) ∧ w'.cell? ⟨dU, 1, none⟩ = some (.int .i64 ak) ∧ w'.cell? ⟨dU, 2, none⟩ = some (.int .i64 av) ∧ w'.cell? ⟨dU, 3, none⟩ = some (.int .i64 au) ∧ w'.cell? ⟨dU, 4, none⟩ = some (.slice aJ ae.length aA)) (ds := []) #[false, false, false, false, false, false] (by kernel_rfl) rfl rfl ⟨(ax bY.out 0).trans rfl, (ax bY.out 1).trans rfl, (ax bY.out 2).trans rfl, (ax bY.out 3).trans rfl, (ax bY.out 4).trans rfl⟩ (fun hHeld => ?_)
         generalize wc.drew = w113 at bY fu HB hHeld ⊢
         refine di (i := 0) (N := some 69) (v := ?_) (a' := ?_) #[true, false, false, false, false, false] rfl rfl (by kernel_rfl) (fun _ _ _ h => h) (Or.inl ⟨by rfl, ?_⟩) ?_ ?_
         rotate_left
         ·intro w'; go_simp; with_reducible rfl
         rotate_left
         ·simp only [Act.put, List.setIfInBounds_toArray, List.set_cons_zero, List.set_cons_succ, bg, bn]; rfl
         refine di (i := 2) (N := some 71) (v := ?_) (a' := ?_) #[true, false, true, false, false, false] rfl rfl (by kernel_rfl) (fun _ _ _ h => h) (Or.inl ⟨by rfl, ?_⟩) ?_ ?_
         rotate_left
         ·intro w'; go_simp; with_reducible rfl
         rotate_left
         ·simp only [Act.put, List.setIfInBounds_toArray, List.set_cons_zero, List.set_cons_succ, bg, bn]; rfl
         refine fJ (i := 1) (N := some 70) (v := ?_) (a' := ?_) #[true, true, true, false, false, false] rfl rfl (by kernel_rfl) (fun _ _ _ h => h) (Or.inl ⟨by rfl, ?_⟩) hHeld ?_ ?_
         rotate_left
         ·rintro w' ⟨s0, s1, s2, s3, s4⟩
          go_simp; with_reducible rfl
         rotate_left
         ·simp only [Act.put, List.setIfInBounds_toArray, List.set_cons_zero, List.set_cons_succ, bg, bn]; rfl
         refine di (i := 4) (N := some 8) (v := ?_) (a' := ?_) #[true, true, true, false, true, false] rfl rfl (by kernel_rfl) (fun _ _ _ h => h) (Or.inl ⟨by rfl, ?_⟩) ?_ ?_
         rotate_left
         ·intro w'; go_simp; with_reducible rfl
         rotate_left
         ·simp only [Act.put, List.setIfInBounds_toArray, List.set_cons_zero, List.set_cons_succ, bg, bn]; rfl
         refine fJ (i := 3) (N := some 72) (v := ?_) (a' := ?_) #[true, true, true, true, true, false] rfl rfl (by kernel_rfl) (fun _ _ _ h => h) (Or.inl ⟨by rfl, ?_⟩) hHeld ?_ ?_
         rotate_left
         ·rintro w' ⟨s0, s1, s2, s3, s4⟩
          go_simp; with_reducible rfl
         rotate_left
         ·simp only [Act.put, List.setIfInBounds_toArray, List.set_cons_zero, List.set_cons_succ, bg, bn]; rfl
         refine di (i := 5) (N := some 9) (v := ?_) (a' := ?_) #[true, true, true, true, true, true] rfl rfl (by kernel_rfl) (fun _ _ _ h => h) (Or.inl ⟨by rfl, ?_⟩) ?_ ?_
         rotate_left
         ·intro w'; go_simp; with_reducible rfl
         rotate_left
         ·simp only [Act.put, List.setIfInBounds_toArray, List.set_cons_zero, List.set_cons_succ, bg, bn]; rfl
         refine nT (by kernel_rfl) ?_
         obtain ⟨hcz114_0, hcz114_1, hcz114_2, hcz114_3, hcz114_4, hfz114_0, hfz114_1, hfz114_2, hfz114_3, hfz114_4⟩ := bF bY.out; obtain ⟨hcz115_0, hcz115_1, hfz115_0, hfz115_1⟩ := dm fu.out; try go_wp2
         go_ret; exact ⟨re_, bl_⟩
    ·rw [if_neg c62] at H; have c62b0 : ((aI.length : Int) == 0) = false := beq_eq_false_iff_ne.mpr c62; have c62b1 : ((aI.length : Int) != 0) = true := bne_iff_ne.mpr c62; have c62b2 : ¬ (aI = []) := fun h_ => c62 (by rw [h_]; rfl)
     obtain rfl := Option.some.inj H; have hnb116 := kX.out; have hnc116 := kW.out; obtain ⟨hcz117_0, hcz117_1, hfz117_0, hfz117_1⟩ := dm fu.out; go_wp2; go_ret; exact ⟨re_, bl_⟩
end Go.Proofs.Ytggelekooacmnaa.Q
