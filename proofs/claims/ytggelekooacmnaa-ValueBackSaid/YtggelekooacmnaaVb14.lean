import Derived.Test.YtggelekooacmnaaVb0
import Derived.Test.YtggelekooacmnaaVb13
namespace Go.Proofs.Ytggelekooacmnaa.Q
open Go.RowKit Go.Proofs.YtggelekooacmnaaW.bS Go.Proofs.YtggelekooacmnaaW.eQ Go.Proofs.YtggelekooacmnaaW.jY
attribute [local go_sem] lN lQ nz nA kE kF lS lT   -- for this text's walks alone
set_option linter.unusedVariables false
set_option linter.unusedSimpArgs false
mutual
def aT.l0 : Nat → List Int → List (S31) → Int → Int → Int → Int → Int → Int → List (S27) → Option (List Int)
 | 0, _, _, _, _, _, _, _, _, _ => none
 | k + 1, x5, x16, x17, x18, JL, JM, JN, Gn, jh => if x18 < x17 then (if 0 ≤ x18 then (if x18 < (x16.length : Int) then (if x18 < (jh.length : Int) then ((aT.f k ((af jh x18).f0) ((af jh x18).f1) ((af jh x18).f2) ((af jh x18).f3) ((af jh x18).f4) ((bG x16 x18).f0) ((bG x16 x18).f1)).bind fun t331 => (if x5.length + t331.length < 17592186044416 then (aT.l0 k (x5 ++ t331) x16 x17 (wrap64 (x18 + 1)) JL JM JN Gn jh) else (none))) else (none)) else (none)) else (none)) else (some x5)
def aT.l1 : Nat → List Int → List (S31) → Int → Int → Int → Int → Int → Int → List (S27) → Int → List (S31) → Option (List Int)
 | 0, _, _, _, _, _, _, _, _, _, _, _ => none
 | k + 1, x8, x41, x42, x43, JL, JM, JN, Gn, jh, x328000, YF => if x43 < x42 then (if 0 ≤ x43 then (if x43 < (x41.length : Int) then (if 0 < (jh.length : Int) then ((aT.f k ((af jh 0).f0) ((af jh 0).f1) ((af jh 0).f2) ((af jh 0).f3) ((af jh 0).f4) ((bG x41 x43).f0) ((bG x41 x43).f1)).bind fun t343 => (if x8.length + t343.length < 17592186044416 then (aT.l1 k (x8 ++ t343) x41 x42 (wrap64 (x43 + 1)) JL JM JN Gn jh x328000 YF) else (none))) else (none)) else (none)) else (none)) else (aT.l2 k x8 (wrap64 (Gn - (YF.length : Int))) 0 JL JM JN Gn jh)
def aT.l2 : Nat → List Int → Int → Int → Int → Int → Int → Int → List (S27) → Option (List Int)
 | 0, _, _, _, _, _, _, _, _ => none
 | k + 1, x8, x61, x62, JL, JM, JN, Gn, jh => if x62 < x61 then (if 0 < (jh.length : Int) then ((dn.f k ((af jh 0).f0) ((af jh 0).f1) ((af jh 0).f2) ((af jh 0).f3) ((af jh 0).f4)).bind fun bt351 => ((aT.f k ((af jh 0).f0) ((af jh 0).f1) ((af jh 0).f2) ((af jh 0).f3) ((af jh 0).f4) bt351.1 bt351.2).bind fun Gp => (if x8.length + Gp.length < 17592186044416 then (aT.l2 k (x8 ++ Gp) x61 (wrap64 (x62 + 1)) JL JM JN Gn jh) else (none)))) else (none)) else (some x8)
def aT.f : Nat → Int → Int → Int → Int → List (S27) → Int → List (S31) → Option (List Int)
 | 0, _, _, _, _, _, _, _ => none
 | k + 1, ah, ak, av, au, ae, aX, aI => if ah = 5 then (aT.l0 k ([] : List Int) aI (aI.length : Int) 0 ah ak av au ae) else (if ah = 6 then (aT.l1 k (([(aI.length : Int)] : List Int)) aI (aI.length : Int) 0 ah ak av au ae aX aI) else (some (([aX] : List Int))))
end
theorem aT.lF : ∀ k, (∀ y0 y1 y2 y3 y4 y5 y6, LeO (aT.f k y0 y1 y2 y3 y4 y5 y6) (aT.f (k + 1) y0 y1 y2 y3 y4 y5 y6)) ∧ (∀ y0 y1 y2 y3 y4 y5 y6 y7 y8, LeO (aT.l0 k y0 y1 y2 y3 y4 y5 y6 y7 y8) (aT.l0 (k + 1) y0 y1 y2 y3 y4 y5 y6 y7 y8)) ∧ (∀ y0 y1 y2 y3 y4 y5 y6 y7 y8 y9 y10, LeO (aT.l1 k y0 y1 y2 y3 y4 y5 y6 y7 y8 y9 y10) (aT.l1 (k + 1) y0 y1 y2 y3 y4 y5 y6 y7 y8 y9 y10)) ∧ (∀ y0 y1 y2 y3 y4 y5 y6 y7, LeO (aT.l2 k y0 y1 y2 y3 y4 y5 y6 y7) (aT.l2 (k + 1) y0 y1 y2 y3 y4 y5 y6 y7))
 | 0 => ⟨fun _ _ _ _ _ _ _ r h => by simp [aT.f] at h, fun _ _ _ _ _ _ _ _ _ r h => by simp [aT.l0] at h, fun _ _ _ _ _ _ _ _ _ _ _ r h => by simp [aT.l1] at h, fun _ _ _ _ _ _ _ _ r h => by simp [aT.l2] at h⟩
 | k + 1 => by
  obtain ⟨ih0, ih1, ih2, ih3⟩ := aT.lF k; refine ⟨?_, ?_, ?_, ?_⟩
  ·intro y0 y1 y2 y3 y4 y5 y6; unfold aT.f; repeat' first
   | (with_reducible exact ih0 _ _ _ _ _ _ _)
   | (with_reducible exact ih1 _ _ _ _ _ _ _ _ _)
   | (with_reducible exact ih2 _ _ _ _ _ _ _ _ _ _ _)
   | (with_reducible exact ih3 _ _ _ _ _ _ _ _)
   | (with_reducible exact dn.mono _ _ _ _ _ _)
   | (with_reducible exact LeO.refl _)
   | (with_reducible exact LeO.none _)
   | (with_reducible refine LeO.ite ?_ ?_)
   | (with_reducible refine LeO.bind ?_ (fun _ => ?_))
   | exact ih0 _ _ _ _ _ _ _
   | exact ih1 _ _ _ _ _ _ _ _ _
   | exact ih2 _ _ _ _ _ _ _ _ _ _ _
   | exact ih3 _ _ _ _ _ _ _ _
   | exact dn.mono _ _ _ _ _ _
   | exact LeO.none _
   | refine LeO.ite ?_ ?_
   | refine LeO.bind ?_ (fun _ => ?_)
  ·intro y0 y1 y2 y3 y4 y5 y6 y7 y8; unfold aT.l0; repeat' first
   | (with_reducible exact ih0 _ _ _ _ _ _ _)
   | (with_reducible exact ih1 _ _ _ _ _ _ _ _ _)
   | (with_reducible exact ih2 _ _ _ _ _ _ _ _ _ _ _)
   | (with_reducible exact ih3 _ _ _ _ _ _ _ _)
   | (with_reducible exact dn.mono _ _ _ _ _ _)
   | (with_reducible exact LeO.refl _)
   | (with_reducible exact LeO.none _)
   | (with_reducible refine LeO.ite ?_ ?_)
   | (with_reducible refine LeO.bind ?_ (fun _ => ?_))
   | exact ih0 _ _ _ _ _ _ _
   | exact ih1 _ _ _ _ _ _ _ _ _
   | exact ih2 _ _ _ _ _ _ _ _ _ _ _
   | exact ih3 _ _ _ _ _ _ _ _
   | exact dn.mono _ _ _ _ _ _
   | exact LeO.none _
   | refine LeO.ite ?_ ?_
   | refine LeO.bind ?_ (fun _ => ?_)
  ·intro y0 y1 y2 y3 y4 y5 y6 y7 y8 y9 y10; unfold aT.l1; repeat' first
   | (with_reducible exact ih0 _ _ _ _ _ _ _)
   | (with_reducible exact ih1 _ _ _ _ _ _ _ _ _)
   | (with_reducible exact ih2 _ _ _ _ _ _ _ _ _ _ _)
   | (with_reducible exact ih3 _ _ _ _ _ _ _ _)
   | (with_reducible exact dn.mono _ _ _ _ _ _)
   | (with_reducible exact LeO.refl _)
   | (with_reducible exact LeO.none _)
   | (with_reducible refine LeO.ite ?_ ?_)
   | (with_reducible refine LeO.bind ?_ (fun _ => ?_))
   | exact ih0 _ _ _ _ _ _ _
   | exact ih1 _ _ _ _ _ _ _ _ _
   | exact ih2 _ _ _ _ _ _ _ _ _ _ _
   | exact ih3 _ _ _ _ _ _ _ _
   | exact dn.mono _ _ _ _ _ _
   | exact LeO.none _
   | refine LeO.ite ?_ ?_
   | refine LeO.bind ?_ (fun _ => ?_)
  ·intro y0 y1 y2 y3 y4 y5 y6 y7; unfold aT.l2; repeat' first
   | (with_reducible exact ih0 _ _ _ _ _ _ _)
   | (with_reducible exact ih1 _ _ _ _ _ _ _ _ _)
   | (with_reducible exact ih2 _ _ _ _ _ _ _ _ _ _ _)
   | (with_reducible exact ih3 _ _ _ _ _ _ _ _)
   | (with_reducible exact dn.mono _ _ _ _ _ _)
   | (with_reducible exact LeO.refl _)
   | (with_reducible exact LeO.none _)
   | (with_reducible refine LeO.ite ?_ ?_)
   | (with_reducible refine LeO.bind ?_ (fun _ => ?_))
   | exact ih0 _ _ _ _ _ _ _
   | exact ih1 _ _ _ _ _ _ _ _ _
   | exact ih2 _ _ _ _ _ _ _ _ _ _ _
   | exact ih3 _ _ _ _ _ _ _ _
   | exact dn.mono _ _ _ _ _ _
   | exact LeO.none _
   | refine LeO.ite ?_ ?_
   | refine LeO.bind ?_ (fun _ => ?_)
theorem aT.mono : ∀ a0 a1 a2 a3 a4 a5 a6 k, LeO (aT.f k a0 a1 a2 a3 a4 a5 a6) (aT.f (k + 1) a0 a1 a2 a3 a4 a5 a6) := by
 intro a0 a1 a2 a3 a4 a5 a6 k; obtain ⟨ih0, ih1, ih2, ih3⟩ := aT.lF k; exact ih0 a0 a1 a2 a3 a4 a5 a6
def aT.T7 : Bool × List (List Nat × List Nat) := (true, [([], []), ([], []), ([1], [1]), ([], []), ([2, 3], [2, 3]), ([4], [4]), ([], []), ([5, 6], [5, 6]), ([0, 7, 7], [0, 7]), ([8, 8, 0, 1, 2, 3, 4, 5, 6, 7, 8], [0, 8])])
def aT.B7 : List Nat := [0, 0, 2, 0, 14, 30, 0, 126, 255, 511]
theorem aT.tab7 : oI .any (opsOf Try.f31 7) = aT.T7 := by kernel_rfl
theorem aT.bits7 : qE aT.T7.2 aT.B7 = true := by kernel_rfl
def aT.T15 : Bool × List (List Nat × List Nat) := (true, [([], []), ([], []), ([1], [1]), ([2], [2]), ([3], [3]), ([], []), ([4, 5], [4, 5]), ([0, 6, 6], [0, 6]), ([7, 7, 0, 1, 2, 3, 4, 5, 6, 7], [0, 7])])
def aT.B15 : List Nat := [0, 0, 2, 6, 14, 0, 62, 127, 255]
theorem aT.tab15 : oI .any (opsOf Try.f31 15) = aT.T15 := by kernel_rfl
theorem aT.bits15 : qE aT.T15.2 aT.B15 = true := by kernel_rfl
def aT.T19 : Bool × List (List Nat × List Nat) := (true, [([], []), ([], []), ([1], [1]), ([2], [2]), ([3], [3]), ([], []), ([5], [5]), ([6], [6]), ([7], [7]), ([8], [8]), ([4, 9, 9], [4, 9]), ([0, 10, 10], [0, 10]), ([11, 11, 0, 1, 2, 3, 4, 5, 6, 7, 8, 9, 10, 11], [0, 11])])
def aT.B19 : List Nat := [0, 0, 2, 6, 14, 0, 32, 96, 224, 480, 1022, 2047, 4095]
theorem aT.tab19 : oI .any (opsOf Try.f31 19) = aT.T19 := by kernel_rfl
theorem aT.bits19 : qE aT.T19.2 aT.B19 = true := by kernel_rfl
set_option maxHeartbeats 8000000 in
set_option maxRecDepth 100000 in
theorem aT.calls (k : Nat) : ∀ (ah : Int) (ak : Int) (av : Int) (au : Int) (aJ : Option Addr) (aA : Nat) (ae : List (S27)) (aX : Int) (fG : Option Addr) (dD : Nat) (aI : List (S31)) (r : List Int) (w : World) (fH : Kd.C k27 w aJ ae.length ae) (fI : ae.length ≤ aA) (pE : Kd.C k31 w fG aI.length aI) (pF : aI.length ≤ dD) (h : aT.f k ah ak av au ae aX aI = some r),
  Calls Try.prog 31 #[.agg #[.int .i64 ah, .int .i64 ak, .int .i64 av, .int .i64 au, .slice aJ ae.length aA], .agg #[.int .i64 aX, .slice fG aI.length dD]] w fun e w' => ∃ v0_ : Value, e = .returned (v0_) ∧ Kd.R (Kd.int .i64) 3 w' w.heap.size (fun _ => True) v0_ r ∧ Below w.heap.size w w' := by
 induction k using Nat.strongRecOn with
 | _ k ih =>
 intro ah ak av au aJ aA ae aX fG dD aI r w fH fI pE pF h; cases k with
 | zero => exact absurd h (by simp [aT.f])
 | succ k =>
 simp only [aT.f] at h; have tV := Try.underlying27; have IB := Try.underlying31; have cK := aa.mk fH; have dX := aa.mk fI; clear fH fI; have rO := aa.mk pE; have Fj := aa.mk pF; clear pE pF; have HB := aa.mk (Below.refl w.heap.size w); have H : (if ah = 5 then (aT.l0 k ([] : List Int) aI (aI.length : Int) 0 ah ak av au ae) else (if ah = 6 then (aT.l1 k (([(aI.length : Int)] : List Int)) aI (aI.length : Int) 0 ah ak av au ae aX aI) else (some (([aX] : List Int))))) = some r := h; clear h; by_cases c3 : ah = 5
 ·rw [if_pos c3] at H; have nN : (ah == 5) = true := beq_iff_eq.mpr c3; have tK : (ah != 5) = false := bne_eq_false_iff_eq.mpr c3; clear c3; have H' := aa.mk H; clear H; go_enter Try.func31, Try.ntmps31; go_wp2_with (first | ((with_reducible refine bz (N := 2) rfl ?_); refine bB ?hg (N := 2) ?hd (cs := #[.int .i64 ah, .int .i64 ak, .int .i64 av, .int .i64 au, .slice aJ ae.length aA]) (t := 27) ?hr ?_; (case hd => rfl); (case hg => rfl); (case hr => first | (go_simp; done) | (go_simp; rfl)); intro gG hg w4 aQ hb; have dN := aa.mk (aQ); have Ru : aa (w.heap.size ≤ gG) := gw_ hg (aC bl_); have GE326 := Ru; replace HB := aa.mk (az bl_ hb); clear hb aQ hg) | ((with_reducible refine bz (N := 3) rfl ?_); refine bB ?hg (N := 3) ?hd (cs := #[.int .i64 aX, .slice fG aI.length dD]) (t := 31) ?hr ?_; (case hd => rfl); (case hg => rfl); (case hr => first | (go_simp; done) | (go_simp; rfl)); intro kv hg w5 aQ hb; have jm := aa.mk (aQ); have Rv : aa (w.heap.size ≤ kv) := gw_ hg (aC bl_); have GE327 := Rv; have EB := aa.mk ((by rw [hg]; exact Nat.ne_of_lt (bE (g := gG) (o := .cells #[.int .i64 ah, .int .i64 ak, .int .i64 av, .int .i64 au, .slice aJ ae.length aA] 27 (0, 0)) bk_) : gG ≠ kv)); have EC := aa.mk ((by rw [hg]; exact Nat.ne_of_gt (bE (g := gG) (o := .cells #[.int .i64 ah, .int .i64 ak, .int .i64 av, .int .i64 au, .slice aJ ae.length aA] 27 (0, 0)) bk_) : kv ≠ gG)); replace dN := aa.mk (ay (g := gG) (o := .cells #[.int .i64 ah, .int .i64 ak, .int .i64 av, .int .i64 au, .slice aJ ae.length aA] 27 (0, 0)) bk_ hb); replace HB := aa.mk (az bl_ hb); clear hb aQ hg; have hnb6 := EB.out; have hnc6 := EC.out; obtain ⟨zu, zw, Fq, Ig, Ih, Bw, zx, Fs, Ii, Ij⟩ := bF dN.out; obtain ⟨xZ, yc, yf, yg⟩ := dm jm.out))
  go_loopg [5, 18] k (fun kq v5 v18 w' => ∃ (iZ : List Int) (eO : Int), v18 = .int .i64 eO ∧ aa (aT.l0 kq iZ aI (aI.length : Int) eO ah ak av au ae = some r) ∧ aa (kq ≤ k) ∧ aa (Kd.R (Kd.int .i64) 3 w' w.heap.size (fun _ => True) v5 iZ) ∧ aa (w'.heap[gG]? = some (.cells #[.int .i64 ah, .int .i64 ak, .int .i64 av, .int .i64 au, (.slice aJ ae.length aA)] 27 (0, 0))) ∧ aa (w'.heap[kv]? = some (.cells #[.int .i64 aX, (.slice fG aI.length dD)] 31 (0, 0))) ∧ aa (Below w.heap.size w w'))
  case atStart => exact ⟨(([] : List Int)), (0), rs_, H', ⟨Nat.le_refl _⟩, ⟨by first | exact Kd.ji _ _ _ _ _ | exact Kd.lW _ _ _ _ _ | exact Kd.ku _ _ _ _ _ | exact Kd.l7 _ _ _ _ _ | exact Kd.l8 _ _ _ _ _⟩, ⟨bk_⟩, ⟨bk_⟩, ⟨bl_⟩⟩
  case round =>
   clear H'; (try clear c1); (try clear p2); (try clear c3); (try clear nN); (try clear tK); (try clear c6); (try clear zu zw Fq Ig Ih Bw zx Fs Ii Ij); (try clear xZ yc yf yg); obtain ⟨iZ, eO, rfl, HA, HK1, tL, dN, jm, HB⟩ := hrel; cases gk with
   | zero => exact absurd HA.out (by simp [aT.l0])
   | succ k1 =>
    have H := HA.out; clear HA; simp only [aT.l0] at H; by_cases c9 : eO < (aI.length : Int)
    ·rw [if_pos c9] at H; have Gq : decide (eO < (aI.length : Int)) = true := decide_eq_true c9; clear c9; by_cases c10 : 0 ≤ eO
     ·rw [if_pos c10] at H; have u6 : decide (0 ≤ eO) = true := decide_eq_true c10; clear c10; by_cases c11 : eO < (aI.length : Int)
      ·rw [if_pos c11] at H; have sW : decide (eO < (aI.length : Int)) = true := decide_eq_true c11; clear c11; by_cases c12 : eO < (ae.length : Int)
       ·rw [if_pos c12] at H; have rJ : decide (eO < (ae.length : Int)) = true := decide_eq_true c12; clear c12; replace H := Option.bind_eq_some_iff.mp H; obtain ⟨t331, A130, H⟩ := H; replace H : (if iZ.length + t331.length < 17592186044416 then (aT.l0 k1 (iZ ++ t331) aI (aI.length : Int) (wrap64 (eO + 1)) ah ak av au ae) else (none)) = some r := H; have A13 := aa.mk A130; clear A130; by_cases c14 : iZ.length + t331.length < 17592186044416
        ·rw [if_pos c14] at H; have LMc14 := aa.mk c14; clear c14; obtain ⟨y334, Rw⟩ : ∃ y_ : List Int, y_ = (iZ ++ t331) := ⟨_, rfl⟩; replace H : (aT.l0 k1 y334 aI (aI.length : Int) (wrap64 (eO + 1)) ah ak av au ae) = some r := by first | (rw [Rw]; with_reducible exact H) | (have H2_ := (Option.bind_some _ _).symm.trans H; rw [Rw]; with_reducible exact H2_) | (have H2_ := (Option.bind_some _ _).symm.trans H; with_reducible exact H2_) | with_reducible exact H | (rw [Rw]; exact H) | exact H
         have Ny334 := aa.mk Rw; clear Rw; have H' := aa.mk H; clear H; have p328 : 0 ≤ (eO : Int) := dt_; have q328 : eO < (aI.length : Int) := dt_; obtain ⟨Pq, zy, zz, e328, Ma, Mc, YG, YH⟩ := zt rO.out eO p328 q328; cases e328; replace Ma := (HB.out.cell (World.block_lt_of_cell? w _ Ma)).trans Ma; replace Mc := (HB.out.cell (World.block_lt_of_cell? w _ Mc)).trans Mc; have HR328_1 := aa.mk YH; have HC328_1 := aa.mk YG; clear YH YG; replace p328 := eq_true p328; replace q328 := eq_true q328; try go_wp2_with (first | ((with_reducible refine bz (N := 7) rfl ?_); refine bB ?hg (N := 7) ?hd (cs := #[.int .i64 0, .slice none 0 0]) (t := 31) ?hr ?_; (case hd => rfl); (case hg => rfl); (case hr => first | (go_simp; done) | (go_simp; rfl)); intro pG hg w15 aQ hb; have wT := aa.mk (aQ); have GW329 : aa (w.heap.size ≤ pG) := gw_ hg (aC bl_); have GE329 := GW329; have NF := aa.mk ((by rw [hg]; exact Nat.ne_of_lt (bE (g := gG) (o := .cells #[.int .i64 ah, .int .i64 ak, .int .i64 av, .int .i64 au, .slice aJ ae.length aA] 27 (0, 0)) bk_) : gG ≠ pG)); have aah := aa.mk ((by rw [hg]; exact Nat.ne_of_gt (bE (g := gG) (o := .cells #[.int .i64 ah, .int .i64 ak, .int .i64 av, .int .i64 au, .slice aJ ae.length aA] 27 (0, 0)) bk_) : pG ≠ gG)); have NG := aa.mk ((by rw [hg]; exact Nat.ne_of_lt (bE (g := kv) (o := .cells #[.int .i64 aX, .slice (some Pq) aI.length dD] 31 (0, 0)) bk_) : kv ≠ pG)); have aai := aa.mk ((by rw [hg]; exact Nat.ne_of_gt (bE (g := kv) (o := .cells #[.int .i64 aX, .slice (some Pq) aI.length dD] 31 (0, 0)) bk_) : pG ≠ kv)); replace tL := aa.mk (Kd.dw (pR_ tL.out) hb); replace dN := aa.mk (ay (g := gG) (o := .cells #[.int .i64 ah, .int .i64 ak, .int .i64 av, .int .i64 au, .slice aJ ae.length aA] 27 (0, 0)) bk_ hb); replace jm := aa.mk (ay (g := kv) (o := .cells #[.int .i64 aX, .slice (some Pq) aI.length dD] 31 (0, 0)) bk_ hb); replace HB := aa.mk (az bl_ hb); clear hb aQ hg; have hnb16 := aah.out; have hnc16 := NF.out; have hnb17 := aai.out; have hnc17 := NG.out; obtain ⟨qj, ql, qm, qo⟩ := dm wT.out))
         have n0_ : aa (Kd.R (Kd.int .i64) 3 ((w15.setCell ⟨pG, 0, none⟩ (.int .i64 ((bG aI eO).f0))).setCell ⟨pG, 1, none⟩ (.slice zy ((bG aI eO).f1).length zz)) w.heap.size (fun _ => True) u5 iZ) := ⟨by (with_reducible repeat (first | apply Kd.fq | apply Kd.eY | apply Kd.fw)); exact Kd.cu (Kd.ed (p := ⟨pG, 1, none⟩) (Kd.ed (p := ⟨pG, 0, none⟩) (Kd.Al tL.out wT.out (by decide)) (fun _ hk => hk.2) (.int .i64 ((bG aI eO).f0))) (fun _ hk => hk.2) (.slice zy ((bG aI eO).f1).length zz)) (fun _ hk => trivial)⟩; have n1_ : aa (((w15.setCell ⟨pG, 0, none⟩ (.int .i64 ((bG aI eO).f0))).setCell ⟨pG, 1, none⟩ (.slice zy ((bG aI eO).f1).length zz)).heap[gG]? = some (.cells #[.int .i64 ah, .int .i64 ak, .int .i64 av, .int .i64 au, .slice aJ ae.length aA] 27 (0, 0))) := ⟨by (with_reducible repeat (first | refine ai ?_ _ | refine aj ?_ | refine ag ?_ _)); refine bq ?_ NF.out _; (with_reducible repeat (first | refine ai ?_ _ | refine aj ?_ | refine ag ?_ _)); refine bq ?_ NF.out _; (with_reducible repeat (first | refine ai ?_ _ | refine aj ?_ | refine ag ?_ _)); exact dN.out⟩; have n2_ : aa (((w15.setCell ⟨pG, 0, none⟩ (.int .i64 ((bG aI eO).f0))).setCell ⟨pG, 1, none⟩ (.slice zy ((bG aI eO).f1).length zz)).heap[kv]? = some (.cells #[.int .i64 aX, .slice (some Pq) aI.length dD] 31 (0, 0))) := ⟨by (with_reducible repeat (first | refine ai ?_ _ | refine aj ?_ | refine ag ?_ _)); refine bq ?_ NG.out _; (with_reducible repeat (first | refine ai ?_ _ | refine aj ?_ | refine ag ?_ _)); refine bq ?_ NG.out _; (with_reducible repeat (first | refine ai ?_ _ | refine aj ?_ | refine ag ?_ _)); exact jm.out⟩; have n3_ : aa (((w15.setCell ⟨pG, 0, none⟩ (.int .i64 ((bG aI eO).f0))).setCell ⟨pG, 1, none⟩ (.slice zy ((bG aI eO).f1).length zz)).heap[pG]? = some (.cells #[.int .i64 ((bG aI eO).f0), .slice zy ((bG aI eO).f1).length zz] 31 (0, 0))) := ⟨by (with_reducible repeat (first | refine ai ?_ _ | refine aj ?_ | refine ag ?_ _)); refine aV (cs := #[.int .i64 ((bG aI eO).f0), .slice none 0 0]) ?_ 1 _ rfl; (with_reducible repeat (first | refine ai ?_ _ | refine aj ?_ | refine ag ?_ _)); refine aV (cs := #[.int .i64 0, .slice none 0 0]) ?_ 0 _ rfl; (with_reducible repeat (first | refine ai ?_ _ | refine aj ?_ | refine ag ?_ _)); exact wT.out⟩; have n4_ : aa (Below w.heap.size w ((w15.setCell ⟨pG, 0, none⟩ (.int .i64 ((bG aI eO).f0))).setCell ⟨pG, 1, none⟩ (.slice zy ((bG aI eO).f1).length zz))) := ⟨bl_⟩; (try clear tL)
         (try clear dN)
         (try clear jm)
         (try clear wT)
         (try clear HB)
         generalize ((w15.setCell ⟨pG, 0, none⟩ (.int .i64 ((bG aI eO).f0))).setCell ⟨pG, 1, none⟩ (.slice zy ((bG aI eO).f1).length zz)) = w19 at n0_ n1_ n2_ n3_ n4_ ⊢
         have tL := n0_; have dN := n1_; have jm := n2_; have wT := n3_; have HB := n4_; clear n0_ n1_ n2_ n3_ n4_; replace tL := aa.mk (Kd.fw tL.out); replace dN := aa.mk (aj dN.out); replace jm := aa.mk (aj jm.out); replace wT := aa.mk (aj wT.out); replace HB := aa.mk (bU HB.out); have p330 : 0 ≤ (eO : Int) := dt_; have q330 : eO < (ae.length : Int) := dt_; obtain ⟨Dp, A330_4, c330_4, e330, Gr, Gs, Gu, Gv, Gw, YI, YJ⟩ := gp cK.out eO p330 q330; have JO := Gw; have JP := Gv; have JQ := Gu; have JR := Gs; have JS := Gr; cases e330; replace Gr := (HB.out.cell (World.block_lt_of_cell? w _ Gr)).trans Gr; replace Gs := (HB.out.cell (World.block_lt_of_cell? w _ Gs)).trans Gs; replace Gu := (HB.out.cell (World.block_lt_of_cell? w _ Gu)).trans Gu; replace Gv := (HB.out.cell (World.block_lt_of_cell? w _ Gv)).trans Gv; replace Gw := (HB.out.cell (World.block_lt_of_cell? w _ Gw)).trans Gw; have YK := aa.mk YJ; have HC330_4 := aa.mk YI; clear YJ YI; replace p330 := eq_true p330; replace q330 := eq_true q330; refine lG (n := 10) (S := fun w' => w'.cell? ⟨gG, 0, none⟩ = some (.int .i64 ah) ∧ w'.cell? ⟨gG, 1, none⟩ = some (.int .i64 ak) ∧ w'.cell? ⟨gG, 2, none⟩ = some (.int .i64 av) ∧ w'.cell? ⟨gG, 3, none⟩ = some (.int .i64 au) ∧ w'.cell? ⟨gG, 4, none⟩ = some (.slice (some Dp) ae.length aA) ∧ w'.cell? ⟨pG, 0, none⟩ = some (.int .i64 ((bG aI eO).f0)) ∧ w'.cell? ⟨pG, 1, none⟩ = some (.slice zy ((bG aI eO).f1).length zz) ∧ w'.cell? (Dp.add ((eO).toNat * 5)) = some (.int .i64 ((af ae eO).f0)) ∧ w'.cell? ⟨(Dp.add ((eO).toNat * 5)).block, (Dp.add ((eO).toNat * 5)).off + 1, none⟩ = some (.int .i64 ((af ae eO).f1)) ∧ w'.cell? ⟨(Dp.add ((eO).toNat * 5)).block, (Dp.add ((eO).toNat * 5)).off + 2, none⟩ = some (.int .i64 ((af ae eO).f2)) ∧ w'.cell? ⟨(Dp.add ((eO).toNat * 5)).block, (Dp.add ((eO).toNat * 5)).off + 3, none⟩ = some (.int .i64 ((af ae eO).f3)) ∧ w'.cell? ⟨(Dp.add ((eO).toNat * 5)).block, (Dp.add ((eO).toNat * 5)).off + 4, none⟩ = some (.slice A330_4 ((af ae eO).f4).length c330_4)) (ds := []) #[false, false, false, false, false, false, false, false, false, false] (by kernel_rfl) rfl rfl ⟨(ax dN.out 0).trans rfl, (ax dN.out 1).trans rfl, (ax dN.out 2).trans rfl, (ax dN.out 3).trans rfl, (ax dN.out 4).trans rfl, (ax wT.out 0).trans rfl, (ax wT.out 1).trans rfl, ((HB.out.cell (World.block_lt_of_cell? w _ JS)).trans JS), ((HB.out.cell (World.block_lt_of_cell? w _ JR)).trans JR), ((HB.out.cell (World.block_lt_of_cell? w _ JQ)).trans JQ), ((HB.out.cell (World.block_lt_of_cell? w _ JP)).trans JP), ((HB.out.cell (World.block_lt_of_cell? w _ JO)).trans JO)⟩ (fun hHeld => ?_); refine ma aT.tab7 aT.bits7 (fun HT_ HW_ => ?_)
         generalize w19.drew = w20 at tL dN jm wT HB YK Gr Gs Gu Gv Gw hHeld ⊢
         refine di (i := 0) (N := some 23) (v := ?_) (a' := ?_) #[true, false, false, false, false, false, false, false, false, false] rfl rfl (dE HT_.out (by kernel_rfl)) (fun _ _ _ h => h) (Or.inl ⟨by rfl, ?_⟩) ?_ ?_
         rotate_left
         ·intro w'; go_simp; with_reducible rfl
         rotate_left
         ·simp only [Act.put, List.setIfInBounds_toArray, List.set_cons_zero, List.set_cons_succ, bg, bn]; rfl
         refine di (i := 1) (N := some 24) (v := ?_) (a' := ?_) #[true, true, false, false, false, false, false, false, false, false] rfl rfl (dE HT_.out (by kernel_rfl)) (fun _ _ _ h => h) (Or.inl ⟨by rfl, ?_⟩) ?_ ?_
         rotate_left
         ·intro w'; go_simp; with_reducible rfl
         rotate_left
         ·simp only [Act.put, List.setIfInBounds_toArray, List.set_cons_zero, List.set_cons_succ, bg, bn]; rfl
         refine di (i := 3) (N := some 26) (v := ?_) (a' := ?_) #[true, true, false, true, false, false, false, false, false, false] rfl rfl (dE HT_.out (by kernel_rfl)) (fun _ _ _ h => h) (Or.inl ⟨by rfl, ?_⟩) ?_ ?_
         rotate_left
         ·intro w'; go_simp; with_reducible rfl
         rotate_left
         ·simp only [Act.put, List.setIfInBounds_toArray, List.set_cons_zero, List.set_cons_succ, bg, bn]; rfl
         refine fJ (i := 2) (N := some 25) (v := ?_) (a' := ?_) #[true, true, true, true, false, false, false, false, false, false] rfl rfl (eT HT_.out HW_.out (by kernel_rfl)) (fun _ _ _ h => h) (Or.inl ⟨by rfl, ?_⟩) hHeld ?_ ?_
         rotate_left
         ·rintro w' ⟨s0, s1, s2, s3, s4, s5, s6, s7, s8, s9, s10, s11⟩
          go_simp; with_reducible rfl
         rotate_left
         ·simp only [Act.put, List.setIfInBounds_toArray, List.set_cons_zero, List.set_cons_succ, bg, bn]; rfl
         refine di (i := 4) (N := some 27) (v := ?_) (a' := ?_) #[true, true, true, true, true, false, false, false, false, false] rfl rfl (dE HT_.out (by kernel_rfl)) (fun _ _ _ h => h) (Or.inl ⟨by rfl, ?_⟩) ?_ ?_
         rotate_left
         ·intro w'; go_simp; with_reducible rfl
         rotate_left
         ·simp only [Act.put, List.setIfInBounds_toArray, List.set_cons_zero, List.set_cons_succ, bg, bn]; rfl
         refine fJ (i := 5) (N := some 28) (v := ?_) (a' := ?_) #[true, true, true, true, true, true, false, false, false, false] rfl rfl (eT HT_.out HW_.out (by kernel_rfl)) (fun _ _ _ h => h) (Or.inl ⟨by rfl, ?_⟩) hHeld ?_ ?_
         rotate_left
         ·rintro w' ⟨s0, s1, s2, s3, s4, s5, s6, s7, s8, s9, s10, s11⟩
          go_simp; with_reducible rfl
         rotate_left
         ·simp only [Act.put, List.setIfInBounds_toArray, List.set_cons_zero, List.set_cons_succ, bg, bn]; rfl
         refine fJ (i := 6) (N := some 29) (v := ?_) (a' := ?_) #[true, true, true, true, true, true, true, false, false, false] rfl rfl (eT HT_.out HW_.out (by kernel_rfl)) (fun _ _ _ h => h) (Or.inl ⟨by rfl, ?_⟩) hHeld ?_ ?_
         rotate_left
         ·rintro w' ⟨s0, s1, s2, s3, s4, s5, s6, s7, s8, s9, s10, s11⟩
          go_simp; with_reducible rfl
         rotate_left
         ·simp only [Act.put, List.setIfInBounds_toArray, List.set_cons_zero, List.set_cons_succ, bg, bn]; rfl
         refine oM (i := 7) (N := some 30) #[true, true, true, true, true, true, true, true, false, false] rfl rfl (jg HT_.out (by kernel_rfl)) (by decide) (fun K hK => ?_)
         refine sV Try.func31 (by kernel_rfl) rfl #[.agg #[.int .i64 ((af ae eO).f0), .int .i64 ((af ae eO).f1), .int .i64 ((af ae eO).f2), .int .i64 ((af ae eO).f3), .slice A330_4 ((af ae eO).f4).length c330_4], .agg #[.int .i64 ((bG aI eO).f0), .slice zy ((bG aI eO).f1).length zz]] (by rfl) rfl rfl (by (try simp only [List.map_toArray, List.map_cons, List.map_nil]); first | done | rfl | (simp only [List.length_drop, List.length_take]; rfl)) ?_
         with_reducible refine (ih k1 (by have := HK1.out; omega) ((af ae eO).f0) ((af ae eO).f1) ((af ae eO).f2) ((af ae eO).f3) _ _ ((af ae eO).f4) ((bG aI eO).f0) _ _ ((bG aI eO).f1) t331 _ ?aW ?aY ?dH ?dO A13.out).mono ?_
         (case aW => repeat (first | exact (Kd.bT YK.out HB.out) | (with_reducible refine Kd.bK ?_ _) | (with_reducible refine Kd.bL ?_ _) | (with_reducible refine Kd.bO ?_)))
         (case aY => exact HC330_4.out)
         (case dH => repeat (first | exact (Kd.bT HR328_1.out HB.out) | (with_reducible refine Kd.bK ?_ _) | (with_reducible refine Kd.bL ?_ _) | (with_reducible refine Kd.bO ?_)))
         (case dO => exact HC328_1.out)
         rintro e w21 ⟨v332, rfl, ho0, hb⟩
         refine ⟨_, rfl, ?_⟩
         have Rx := aa.mk (Kd.fB (Kd.rf ho0 (Kd.pW (pR_ tL.out))) (aC bl_)); replace tL := aa.mk (Kd.nS (pR_ tL.out) (Kd.iR ho0) hb); replace dN := aa.mk (ay (g := gG) (o := .cells #[.int .i64 ah, .int .i64 ak, .int .i64 av, .int .i64 au, .slice (some Dp) ae.length aA] 27 (0, 0)) bk_ hb); replace jm := aa.mk (ay (g := kv) (o := .cells #[.int .i64 aX, .slice (some Pq) aI.length dD] 31 (0, 0)) bk_ hb); replace wT := aa.mk (ay (g := pG) (o := .cells #[.int .i64 ((bG aI eO).f0), .slice zy ((bG aI eO).f1).length zz] 31 (0, 0)) bk_ hb); replace HB := aa.mk (az bl_ hb); (try clear hb)
         (try clear hb2)
         (try clear hk)
         (try clear hi)
         (try clear ho0)
         obtain ⟨IE, IG, eo23⟩ := Kd.eH Rx.out; (first | subst eo23 | (injection eo23 with f1_ f2_ f3_; have f4_ := f1_.symm; have f5_ := f3_.symm; clear f1_ f2_ f3_; subst f4_; subst f5_))
         refine hK.out _ _ ⟨(ax dN.out 0).trans rfl, (ax dN.out 1).trans rfl, (ax dN.out 2).trans rfl, (ax dN.out 3).trans rfl, (ax dN.out 4).trans rfl, (ax wT.out 0).trans rfl, (ax wT.out 1).trans rfl, ((HB.out.cell (World.block_lt_of_cell? w _ JS)).trans JS), ((HB.out.cell (World.block_lt_of_cell? w _ JR)).trans JR), ((HB.out.cell (World.block_lt_of_cell? w _ JQ)).trans JQ), ((HB.out.cell (World.block_lt_of_cell? w _ JP)).trans JP), ((HB.out.cell (World.block_lt_of_cell? w _ JO)).trans JO)⟩ (fun hHeld => ?_)
         clear hK K; refine lq (a' := ?_) ?_ ?_
         rotate_left
         ·show Act.put _ (some 30) _ = _
          simp only [Act.put, List.setIfInBounds_toArray, List.set_cons_zero, List.set_cons_succ, bg, bn]; rfl
         refine oM (i := 8) (N := some 31) #[true, true, true, true, true, true, true, true, true, false] rfl rfl (jg HT_.out (by kernel_rfl)) (by decide) (fun K hK => ?_)
         refine Kd.Bz (Kd.int .i64) (w0 := w) w.heap.size (by rfl) (.tmp 23) (.tmp 30) 22 3 (.int .i64 0) 8 rfl Try.underlying22 info3 rfl (by decide) (by omega) u5 iZ t331 _ _ _ (fun k_ => some k_ ≠ (.slice IE t331.length IG : Value).ownBlock) (fun _ => False) rfl rfl ?aO ?aR (fun _ _ h => h) (fun _ h => h.elim) ?aF ?aB ?aS ?aL ?_
         (case aR => repeat (first | exact (Kd.dz Rx.out).2.2 | (with_reducible refine Kd.bK ?_ _) | (with_reducible refine Kd.bL ?_ _) | (with_reducible refine Kd.bO ?_)))
         (case aB => exact bl_)
         (case aF => exact (fun k_ hk => Kd.fresh' (Kd.pW (pR_ Rx.out)) k_ hk))
         (case aO => exact (by (with_reducible repeat (first | apply Kd.fq | apply Kd.eY | apply Kd.fw)); exact Kd.cu tL.out (fun _ hk => hk.2)))
         (case aS => exact (aC bl_))
         (case aL => have := LMc14.out; omega)
         intro v335 w22 ho hb hg hat; rw [← Ny334.out] at ho; have HO336 := aa.mk (ho); replace dN := aa.mk (gN (g := gG) (o := .cells #[.int .i64 ah, .int .i64 ak, .int .i64 av, .int .i64 au, .slice (some Dp) ae.length aA] 27 (0, 0)) bk_ hg (Kd.Bt tL.out dN.out (by decide))); replace jm := aa.mk (gN (g := kv) (o := .cells #[.int .i64 aX, .slice (some Pq) aI.length dD] 31 (0, 0)) bk_ hg (Kd.Bt tL.out jm.out (by decide))); replace wT := aa.mk (gN (g := pG) (o := .cells #[.int .i64 ((bG aI eO).f0), .slice zy ((bG aI eO).f1).length zz] 31 (0, 0)) bk_ hg (Kd.Bt tL.out wT.out (by decide))); replace Rx := aa.mk (Kd.Md (ok := (fun _ => True)) (pR_ Rx.out) hg hat); replace HB := aa.mk (hb); clear tL; clear ho hb hg hat; refine hK.out _ _ ⟨(ax dN.out 0).trans rfl, (ax dN.out 1).trans rfl, (ax dN.out 2).trans rfl, (ax dN.out 3).trans rfl, (ax dN.out 4).trans rfl, (ax wT.out 0).trans rfl, (ax wT.out 1).trans rfl, ((HB.out.cell (World.block_lt_of_cell? w _ JS)).trans JS), ((HB.out.cell (World.block_lt_of_cell? w _ JR)).trans JR), ((HB.out.cell (World.block_lt_of_cell? w _ JQ)).trans JQ), ((HB.out.cell (World.block_lt_of_cell? w _ JP)).trans JP), ((HB.out.cell (World.block_lt_of_cell? w _ JO)).trans JO)⟩ (fun hHeld => ?_)
         clear hK K; refine lq (a' := ?_) ?_ ?_
         rotate_left
         ·show Act.put _ (some 31) _ = _
          simp only [Act.put, List.setIfInBounds_toArray, List.set_cons_zero, List.set_cons_succ, bg, bn]; rfl
         refine di (i := 9) (N := some 5) (v := ?_) (a' := ?_) #[true, true, true, true, true, true, true, true, true, true] rfl rfl (dE HT_.out (by kernel_rfl)) (fun _ _ _ h => h) (Or.inl ⟨by rfl, ?_⟩) ?_ ?_
         rotate_left
         ·intro w'; go_simp; with_reducible rfl
         rotate_left
         ·simp only [Act.put, List.setIfInBounds_toArray, List.set_cons_zero, List.set_cons_succ, bg, bn]; rfl
         refine nT (qF HT_.out (by kernel_rfl)) ?_
         try go_wp2
         go_roundg k1
         case measure => have := HK1.out; omega
         case rel => exact ⟨(y334), (wrap64 (eO + 1)), rs_, H', ⟨by have := HK1.out; omega⟩, ⟨by (with_reducible repeat (first | apply Kd.fq | apply Kd.eY | apply Kd.fw)); exact Kd.cu HO336.out (fun _ hk => trivial)⟩, ⟨bk_⟩, ⟨bk_⟩, ⟨bl_⟩⟩
        ·rw [if_neg c14] at H; exact absurd H (by simp)
       ·rw [if_neg c12] at H; exact absurd H (by simp)
      ·rw [if_neg c11] at H; exact absurd H (by simp)
     ·rw [if_neg c10] at H; exact absurd H (by simp)
    ·rw [if_neg c9] at H; have Gq : decide (eO < (aI.length : Int)) = false := decide_eq_false c9; clear c9; obtain rfl := Option.some.inj H; go_wp2; go_ret; exact ⟨_, re_, pR_ tL.out, bl_⟩
 ·rw [if_neg c3] at H; have nN : (ah == 5) = false := beq_eq_false_iff_ne.mpr c3; have tK : (ah != 5) = true := bne_iff_ne.mpr c3; by_cases c24 : ah = 6
  ·rw [if_pos c24] at H; have u7 : (ah == 6) = true := beq_iff_eq.mpr c24; have I1 : (ah != 6) = false := bne_eq_false_iff_eq.mpr c24; clear c24; obtain ⟨y337, Ry⟩ : ∃ y_ : List Int, y_ = (([(aI.length : Int)] : List Int)) := ⟨_, rfl⟩; replace H : (aT.l1 k y337 aI (aI.length : Int) 0 ah ak av au ae aX aI) = some r := by first | (rw [Ry]; with_reducible exact H) | (have H2_ := (Option.bind_some _ _).symm.trans H; rw [Ry]; with_reducible exact H2_) | (have H2_ := (Option.bind_some _ _).symm.trans H; with_reducible exact H2_) | with_reducible exact H | (rw [Ry]; exact H) | exact H
   have Ny337 := aa.mk Ry; clear Ry; have H' := aa.mk H; clear H; go_enter Try.func31, Try.ntmps31; go_wp2_with (first | ((with_reducible refine bz (N := 2) rfl ?_); refine bB ?hg (N := 2) ?hd (cs := #[.int .i64 ah, .int .i64 ak, .int .i64 av, .int .i64 au, .slice aJ ae.length aA]) (t := 27) ?hr ?_; (case hd => rfl); (case hg => rfl); (case hr => first | (go_simp; done) | (go_simp; rfl)); intro gG hg w25 aQ hb; have dN := aa.mk (aQ); have Ru : aa (w.heap.size ≤ gG) := gw_ hg (aC bl_); have GE326 := Ru; replace HB := aa.mk (az bl_ hb); clear hb aQ hg) | ((with_reducible refine bz (N := 3) rfl ?_); refine bB ?hg (N := 3) ?hd (cs := #[.int .i64 aX, .slice fG aI.length dD]) (t := 31) ?hr ?_; (case hd => rfl); (case hg => rfl); (case hr => first | (go_simp; done) | (go_simp; rfl)); intro kv hg w26 aQ hb; have jm := aa.mk (aQ); have Rv : aa (w.heap.size ≤ kv) := gw_ hg (aC bl_); have GE327 := Rv; have EB := aa.mk ((by rw [hg]; exact Nat.ne_of_lt (bE (g := gG) (o := .cells #[.int .i64 ah, .int .i64 ak, .int .i64 av, .int .i64 au, .slice aJ ae.length aA] 27 (0, 0)) bk_) : gG ≠ kv)); have EC := aa.mk ((by rw [hg]; exact Nat.ne_of_gt (bE (g := gG) (o := .cells #[.int .i64 ah, .int .i64 ak, .int .i64 av, .int .i64 au, .slice aJ ae.length aA] 27 (0, 0)) bk_) : kv ≠ gG)); replace dN := aa.mk (ay (g := gG) (o := .cells #[.int .i64 ah, .int .i64 ak, .int .i64 av, .int .i64 au, .slice aJ ae.length aA] 27 (0, 0)) bk_ hb); replace HB := aa.mk (az bl_ hb); clear hb aQ hg; have O8 := EB.out; have O9 := EC.out; obtain ⟨lH, lI, ow, oz, oC, lJ, lK, oD, oF, oG⟩ := bF dN.out; obtain ⟨mJ, mK, mM, mO⟩ := dm jm.out) | ((with_reducible refine bz (N := 39) rfl ?_); refine Kd.wU (Kd.int .i64) _ 3 ?hg (N := 39) ?hd (xs := ([(aI.length : Int)] : List Int)) (inner := [.int .i64 (aI.length : Int)]) (ok := fun _ => True) (okp := fun _ => True) ?hr ?hp (fun _ hk => hk) trivial (Below.refl _ _) (Nat.le_refl _) (by simp) ?_; (case hd => rfl); (case hg => rfl); (case hr => first | (go_simp; done) | (go_simp; rfl)); (case hp => exact (dL.one (show Kd.M (Kd.int .i64) _ _ _ (aI.length : Int) [.int .i64 (aI.length : Int)] from rfl) (dL.none _ _))); intro v338 w30 ho31 hb hg_ kJ; clear hg_ kJ; (first | rw [← Ny337.out] at ho31 | (simp only [Int.reduceToNat] at ho31; rw [← Ny337.out] at ho31)); have HO339 := aa.mk (Kd.fB ho31 (aC bl_)); replace dN := aa.mk (ay (g := gG) (o := .cells #[.int .i64 ah, .int .i64 ak, .int .i64 av, .int .i64 au, .slice aJ ae.length aA] 27 (0, 0)) bk_ hb); replace jm := aa.mk (ay (g := kv) (o := .cells #[.int .i64 aX, .slice fG aI.length dD] 31 (0, 0)) bk_ hb); replace HB := aa.mk (az bl_ hb); clear hb ho31; obtain ⟨qp, qw, qx, qy⟩ := dm jm.out))
   go_loopg [8, 43] k (fun kq v8 v43 w' => ∃ (x8_1 : List Int) (ja : Int), v43 = .int .i64 ja ∧ aa (aT.l1 kq x8_1 aI (aI.length : Int) ja ah ak av au ae aX aI = some r) ∧ aa (kq ≤ k) ∧ aa (Kd.R (Kd.int .i64) 3 w' w.heap.size (fun _ => True) v8 x8_1) ∧ aa (w'.heap[gG]? = some (.cells #[.int .i64 ah, .int .i64 ak, .int .i64 av, .int .i64 au, (.slice aJ ae.length aA)] 27 (0, 0))) ∧ aa (w'.heap[kv]? = some (.cells #[.int .i64 aX, (.slice fG aI.length dD)] 31 (0, 0))) ∧ aa (Below w.heap.size w w'))
   case atStart => exact ⟨(y337), (0), rs_, H', ⟨Nat.le_refl _⟩, ⟨pR_ HO339.out⟩, ⟨bk_⟩, ⟨bk_⟩, ⟨bl_⟩⟩
   case round =>
    clear H'; (try clear c1); (try clear c2); (try clear p2); (try clear c3); (try clear nN); (try clear tK); (try clear p3); (try clear q3); (try clear hx3); (try clear c6); (try clear p6); (try clear c9); (try clear Gq); (try clear c10); (try clear u6); (try clear c11); (try clear sW); (try clear c12); (try clear rJ); (try clear c14); (try clear c16); (try clear c17); (try clear c24); (try clear u7); (try clear I1); (try clear c27); (try clear c31); (try clear c32); (try clear p32); (try clear q32); (try clear hx32); (try clear qj ql qm qo); (try clear lH lI ow oz oC lJ lK oD oF oG); (try clear mJ mK mM mO); (try clear qp qw qx qy); (try clear zu zw Fq Ig Ih Bw zx Fs Ii Ij); (try clear xZ yc yf yg); (try clear Ma); (try clear Mc); (try clear Gr); (try clear Gs); (try clear Gu); (try clear Gv); (try clear Gw); (try clear p2); (try clear p328); (try clear p330); (try clear q328); (try clear q330); obtain ⟨x8_1, ja, rfl, HA, HK1, oJ, dN, jm, HB⟩ := hrel; cases gk with
    | zero => exact absurd HA.out (by simp [aT.l1])
    | succ k1 =>
     have H := HA.out; clear HA; simp only [aT.l1] at H; by_cases c33 : ja < (aI.length : Int)
     ·rw [if_pos c33] at H; have Cb : decide (ja < (aI.length : Int)) = true := decide_eq_true c33; clear c33; by_cases c34 : 0 ≤ ja
      ·rw [if_pos c34] at H; have I4 : decide (0 ≤ ja) = true := decide_eq_true c34; clear c34; by_cases c35 : ja < (aI.length : Int)
       ·rw [if_pos c35] at H; have c35b0 : decide (ja < (aI.length : Int)) = true := decide_eq_true c35; clear c35; by_cases c36 : 0 < (ae.length : Int)
        ·rw [if_pos c36] at H; have Fu : decide (0 < (ae.length : Int)) = true := decide_eq_true c36; have Ps : decide (0 < ae.length) = true := decide_eq_true (by omega); clear c36; replace H := Option.bind_eq_some_iff.mp H; obtain ⟨t343, A370, H⟩ := H; replace H : (if x8_1.length + t343.length < 17592186044416 then (aT.l1 k1 (x8_1 ++ t343) aI (aI.length : Int) (wrap64 (ja + 1)) ah ak av au ae aX aI) else (none)) = some r := H; have A37 := aa.mk A370; clear A370; by_cases c38 : x8_1.length + t343.length < 17592186044416
         ·rw [if_pos c38] at H; have LMc38 := aa.mk c38; clear c38; obtain ⟨y346, Rz⟩ : ∃ y_ : List Int, y_ = (x8_1 ++ t343) := ⟨_, rfl⟩; replace H : (aT.l1 k1 y346 aI (aI.length : Int) (wrap64 (ja + 1)) ah ak av au ae aX aI) = some r := by first | (rw [Rz]; with_reducible exact H) | (have H2_ := (Option.bind_some _ _).symm.trans H; rw [Rz]; with_reducible exact H2_) | (have H2_ := (Option.bind_some _ _).symm.trans H; with_reducible exact H2_) | with_reducible exact H | (rw [Rz]; exact H) | exact H
          have Ny346 := aa.mk Rz; clear Rz; have H' := aa.mk H; clear H; have p340 : 0 ≤ (ja : Int) := dt_; have q340 : ja < (aI.length : Int) := dt_; obtain ⟨Pt, zA, zB, e340, Pv, Pw, YL, YM⟩ := zt rO.out ja p340 q340; cases e340; replace Pv := (HB.out.cell (World.block_lt_of_cell? w _ Pv)).trans Pv; replace Pw := (HB.out.cell (World.block_lt_of_cell? w _ Pw)).trans Pw; have HR340_1 := aa.mk YM; have HC340_1 := aa.mk YL; clear YM YL; replace p340 := eq_true p340; replace q340 := eq_true q340; try go_wp2_with (first | ((with_reducible refine bz (N := 10) rfl ?_); refine bB ?hg (N := 10) ?hd (cs := #[.int .i64 0, .slice none 0 0]) (t := 31) ?hr ?_; (case hd => rfl); (case hg => rfl); (case hr => first | (go_simp; done) | (go_simp; rfl)); intro pI hg w39 aQ hb; have wV := aa.mk (aQ); have GW341 : aa (w.heap.size ≤ pI) := gw_ hg (aC bl_); have GE341 := GW341; have NH := aa.mk ((by rw [hg]; exact Nat.ne_of_lt (bE (g := gG) (o := .cells #[.int .i64 ah, .int .i64 ak, .int .i64 av, .int .i64 au, .slice aJ ae.length aA] 27 (0, 0)) bk_) : gG ≠ pI)); have aaj := aa.mk ((by rw [hg]; exact Nat.ne_of_gt (bE (g := gG) (o := .cells #[.int .i64 ah, .int .i64 ak, .int .i64 av, .int .i64 au, .slice aJ ae.length aA] 27 (0, 0)) bk_) : pI ≠ gG)); have NI := aa.mk ((by rw [hg]; exact Nat.ne_of_lt (bE (g := kv) (o := .cells #[.int .i64 aX, .slice (some Pt) aI.length dD] 31 (0, 0)) bk_) : kv ≠ pI)); have aak := aa.mk ((by rw [hg]; exact Nat.ne_of_gt (bE (g := kv) (o := .cells #[.int .i64 aX, .slice (some Pt) aI.length dD] 31 (0, 0)) bk_) : pI ≠ kv)); replace oJ := aa.mk (Kd.dw (pR_ oJ.out) hb); replace dN := aa.mk (ay (g := gG) (o := .cells #[.int .i64 ah, .int .i64 ak, .int .i64 av, .int .i64 au, .slice aJ ae.length aA] 27 (0, 0)) bk_ hb); replace jm := aa.mk (ay (g := kv) (o := .cells #[.int .i64 aX, .slice (some Pt) aI.length dD] 31 (0, 0)) bk_ hb); replace HB := aa.mk (az bl_ hb); clear hb aQ hg; have hnb40 := aaj.out; have hnc40 := NH.out; have hnb41 := aak.out; have hnc41 := NI.out; obtain ⟨Ex, Ey, Ez, EA⟩ := dm wV.out))
          have n0_ : aa (Kd.R (Kd.int .i64) 3 ((w39.setCell ⟨pI, 0, none⟩ (.int .i64 ((bG aI ja).f0))).setCell ⟨pI, 1, none⟩ (.slice zA ((bG aI ja).f1).length zB)) w.heap.size (fun _ => True) u8 x8_1) := ⟨by (with_reducible repeat (first | apply Kd.fq | apply Kd.eY | apply Kd.fw)); exact Kd.cu (Kd.ed (p := ⟨pI, 1, none⟩) (Kd.ed (p := ⟨pI, 0, none⟩) (Kd.Al oJ.out wV.out (by decide)) (fun _ hk => hk.2) (.int .i64 ((bG aI ja).f0))) (fun _ hk => hk.2) (.slice zA ((bG aI ja).f1).length zB)) (fun _ hk => trivial)⟩; have n1_ : aa (((w39.setCell ⟨pI, 0, none⟩ (.int .i64 ((bG aI ja).f0))).setCell ⟨pI, 1, none⟩ (.slice zA ((bG aI ja).f1).length zB)).heap[gG]? = some (.cells #[.int .i64 ah, .int .i64 ak, .int .i64 av, .int .i64 au, .slice aJ ae.length aA] 27 (0, 0))) := ⟨by (with_reducible repeat (first | refine ai ?_ _ | refine aj ?_ | refine ag ?_ _)); refine bq ?_ NH.out _; (with_reducible repeat (first | refine ai ?_ _ | refine aj ?_ | refine ag ?_ _)); refine bq ?_ NH.out _; (with_reducible repeat (first | refine ai ?_ _ | refine aj ?_ | refine ag ?_ _)); exact dN.out⟩; have n2_ : aa (((w39.setCell ⟨pI, 0, none⟩ (.int .i64 ((bG aI ja).f0))).setCell ⟨pI, 1, none⟩ (.slice zA ((bG aI ja).f1).length zB)).heap[kv]? = some (.cells #[.int .i64 aX, .slice (some Pt) aI.length dD] 31 (0, 0))) := ⟨by (with_reducible repeat (first | refine ai ?_ _ | refine aj ?_ | refine ag ?_ _)); refine bq ?_ NI.out _; (with_reducible repeat (first | refine ai ?_ _ | refine aj ?_ | refine ag ?_ _)); refine bq ?_ NI.out _; (with_reducible repeat (first | refine ai ?_ _ | refine aj ?_ | refine ag ?_ _)); exact jm.out⟩; have n3_ : aa (((w39.setCell ⟨pI, 0, none⟩ (.int .i64 ((bG aI ja).f0))).setCell ⟨pI, 1, none⟩ (.slice zA ((bG aI ja).f1).length zB)).heap[pI]? = some (.cells #[.int .i64 ((bG aI ja).f0), .slice zA ((bG aI ja).f1).length zB] 31 (0, 0))) := ⟨by (with_reducible repeat (first | refine ai ?_ _ | refine aj ?_ | refine ag ?_ _)); refine aV (cs := #[.int .i64 ((bG aI ja).f0), .slice none 0 0]) ?_ 1 _ rfl; (with_reducible repeat (first | refine ai ?_ _ | refine aj ?_ | refine ag ?_ _)); refine aV (cs := #[.int .i64 0, .slice none 0 0]) ?_ 0 _ rfl; (with_reducible repeat (first | refine ai ?_ _ | refine aj ?_ | refine ag ?_ _)); exact wV.out⟩; have n4_ : aa (Below w.heap.size w ((w39.setCell ⟨pI, 0, none⟩ (.int .i64 ((bG aI ja).f0))).setCell ⟨pI, 1, none⟩ (.slice zA ((bG aI ja).f1).length zB))) := ⟨bl_⟩; (try clear oJ)
          (try clear dN)
          (try clear jm)
          (try clear wV)
          (try clear HB)
          generalize ((w39.setCell ⟨pI, 0, none⟩ (.int .i64 ((bG aI ja).f0))).setCell ⟨pI, 1, none⟩ (.slice zA ((bG aI ja).f1).length zB)) = w43 at n0_ n1_ n2_ n3_ n4_ ⊢
          have oJ := n0_; have dN := n1_; have jm := n2_; have wV := n3_; have HB := n4_; clear n0_ n1_ n2_ n3_ n4_; replace oJ := aa.mk (Kd.fw oJ.out); replace dN := aa.mk (aj dN.out); replace jm := aa.mk (aj jm.out); replace wV := aa.mk (aj wV.out); replace HB := aa.mk (bU HB.out); have p342 : 0 ≤ (0 : Int) := (by omega); have q342 : 0 < (ae.length : Int) := dt_; obtain ⟨Dq, A342_4, c342_4, e342, Cv, Cw, Cx, Cy, Cz, YN, YO⟩ := gp cK.out 0 p342 q342; have CB := Cz; (try rw [show ((0 : Int)).toNat = 0 from rfl] at CB)
          (try rw [show 0 * 5 = 0 from rfl] at CB)
          (try rw [Addr.add_zero'] at CB)
          have CE := Cy; (try rw [show ((0 : Int)).toNat = 0 from rfl] at CE)
          (try rw [show 0 * 5 = 0 from rfl] at CE)
          (try rw [Addr.add_zero'] at CE)
          have CF := Cx; (try rw [show ((0 : Int)).toNat = 0 from rfl] at CF)
          (try rw [show 0 * 5 = 0 from rfl] at CF)
          (try rw [Addr.add_zero'] at CF)
          have CG := Cw; (try rw [show ((0 : Int)).toNat = 0 from rfl] at CG)
          (try rw [show 0 * 5 = 0 from rfl] at CG)
          (try rw [Addr.add_zero'] at CG)
          have CJ := Cv; (try rw [show ((0 : Int)).toNat = 0 from rfl] at CJ)
          (try rw [show 0 * 5 = 0 from rfl] at CJ)
          (try rw [Addr.add_zero'] at CJ)
          cases e342; have qi342 : (0 < ae.length) = True := eq_true (by omega); (try rw [show ((0 : Int)).toNat = 0 from rfl] at Cv)
          (try rw [show 0 * 5 = 0 from rfl] at Cv)
          (try rw [Addr.add_zero'] at Cv)
          (try rw [show ((0 : Int)).toNat = 0 from rfl] at Cw)
          (try rw [show 0 * 5 = 0 from rfl] at Cw)
          (try rw [Addr.add_zero'] at Cw)
          (try rw [show ((0 : Int)).toNat = 0 from rfl] at Cx)
          (try rw [show 0 * 5 = 0 from rfl] at Cx)
          (try rw [Addr.add_zero'] at Cx)
          (try rw [show ((0 : Int)).toNat = 0 from rfl] at Cy)
          (try rw [show 0 * 5 = 0 from rfl] at Cy)
          (try rw [Addr.add_zero'] at Cy)
          (try rw [show ((0 : Int)).toNat = 0 from rfl] at Cz)
          (try rw [show 0 * 5 = 0 from rfl] at Cz)
          (try rw [Addr.add_zero'] at Cz)
          replace Cv := (HB.out.cell (World.block_lt_of_cell? w _ Cv)).trans Cv; replace Cw := (HB.out.cell (World.block_lt_of_cell? w _ Cw)).trans Cw; replace Cx := (HB.out.cell (World.block_lt_of_cell? w _ Cx)).trans Cx; replace Cy := (HB.out.cell (World.block_lt_of_cell? w _ Cy)).trans Cy; replace Cz := (HB.out.cell (World.block_lt_of_cell? w _ Cz)).trans Cz; have YP := aa.mk YO; have HC342_4 := aa.mk YN; clear YO YN; replace p342 := eq_true p342; replace q342 := eq_true q342; refine lG (n := 9) (S := fun w' => w'.cell? ⟨gG, 0, none⟩ = some (.int .i64 ah) ∧ w'.cell? ⟨gG, 1, none⟩ = some (.int .i64 ak) ∧ w'.cell? ⟨gG, 2, none⟩ = some (.int .i64 av) ∧ w'.cell? ⟨gG, 3, none⟩ = some (.int .i64 au) ∧ w'.cell? ⟨gG, 4, none⟩ = some (.slice (some Dq) ae.length aA) ∧ w'.cell? ⟨pI, 0, none⟩ = some (.int .i64 ((bG aI ja).f0)) ∧ w'.cell? ⟨pI, 1, none⟩ = some (.slice zA ((bG aI ja).f1).length zB) ∧ w'.cell? Dq = some (.int .i64 ((af ae 0).f0)) ∧ w'.cell? ⟨Dq.block, Dq.off + 1, none⟩ = some (.int .i64 ((af ae 0).f1)) ∧ w'.cell? ⟨Dq.block, Dq.off + 2, none⟩ = some (.int .i64 ((af ae 0).f2)) ∧ w'.cell? ⟨Dq.block, Dq.off + 3, none⟩ = some (.int .i64 ((af ae 0).f3)) ∧ w'.cell? ⟨Dq.block, Dq.off + 4, none⟩ = some (.slice A342_4 ((af ae 0).f4).length c342_4)) (ds := []) #[false, false, false, false, false, false, false, false, false] (by kernel_rfl) rfl rfl ⟨(ax dN.out 0).trans rfl, (ax dN.out 1).trans rfl, (ax dN.out 2).trans rfl, (ax dN.out 3).trans rfl, (ax dN.out 4).trans rfl, (ax wV.out 0).trans rfl, (ax wV.out 1).trans rfl, ((HB.out.cell (World.block_lt_of_cell? w _ CJ)).trans CJ), ((HB.out.cell (World.block_lt_of_cell? w _ CG)).trans CG), ((HB.out.cell (World.block_lt_of_cell? w _ CF)).trans CF), ((HB.out.cell (World.block_lt_of_cell? w _ CE)).trans CE), ((HB.out.cell (World.block_lt_of_cell? w _ CB)).trans CB)⟩ (fun hHeld => ?_); refine ma aT.tab15 aT.bits15 (fun HT_ HW_ => ?_)
          generalize w43.drew = w44 at oJ dN jm wV HB YP Cv Cw Cx Cy Cz hHeld ⊢
          refine di (i := 0) (N := some 47) (v := ?_) (a' := ?_) #[true, false, false, false, false, false, false, false, false] rfl rfl (dE HT_.out (by kernel_rfl)) (fun _ _ _ h => h) (Or.inl ⟨by rfl, ?_⟩) ?_ ?_
          rotate_left
          ·intro w'; go_simp; with_reducible rfl
          rotate_left
          ·simp only [Act.put, List.setIfInBounds_toArray, List.set_cons_zero, List.set_cons_succ, bg, bn]; rfl
          refine di (i := 1) (N := some 48) (v := ?_) (a' := ?_) #[true, true, false, false, false, false, false, false, false] rfl rfl (dE HT_.out (by kernel_rfl)) (fun _ _ _ h => h) (Or.inl ⟨by rfl, ?_⟩) ?_ ?_
          rotate_left
          ·intro w'; go_simp; with_reducible rfl
          rotate_left
          ·simp only [Act.put, List.setIfInBounds_toArray, List.set_cons_zero, List.set_cons_succ, bg, bn]; rfl
          refine fJ (i := 2) (N := some 49) (v := ?_) (a' := ?_) #[true, true, true, false, false, false, false, false, false] rfl rfl (eT HT_.out HW_.out (by kernel_rfl)) (fun _ _ _ h => h) (Or.inl ⟨by rfl, ?_⟩) hHeld ?_ ?_
          rotate_left
          ·rintro w' ⟨s0, s1, s2, s3, s4, s5, s6, s7, s8, s9, s10, s11⟩
           go_simp; with_reducible rfl
          rotate_left
          ·simp only [Act.put, List.setIfInBounds_toArray, List.set_cons_zero, List.set_cons_succ, bg, bn]; rfl
          refine di (i := 3) (N := some 50) (v := ?_) (a' := ?_) #[true, true, true, true, false, false, false, false, false] rfl rfl (dE HT_.out (by kernel_rfl)) (fun _ _ _ h => h) (Or.inl ⟨by rfl, ?_⟩) ?_ ?_
          rotate_left
          ·intro w'; go_simp; with_reducible rfl
          rotate_left
          ·simp only [Act.put, List.setIfInBounds_toArray, List.set_cons_zero, List.set_cons_succ, bg, bn]; rfl
          refine fJ (i := 4) (N := some 51) (v := ?_) (a' := ?_) #[true, true, true, true, true, false, false, false, false] rfl rfl (eT HT_.out HW_.out (by kernel_rfl)) (fun _ _ _ h => h) (Or.inl ⟨by rfl, ?_⟩) hHeld ?_ ?_
          rotate_left
          ·rintro w' ⟨s0, s1, s2, s3, s4, s5, s6, s7, s8, s9, s10, s11⟩
           go_simp; with_reducible rfl
          rotate_left
          ·simp only [Act.put, List.setIfInBounds_toArray, List.set_cons_zero, List.set_cons_succ, bg, bn]; rfl
          refine fJ (i := 5) (N := some 52) (v := ?_) (a' := ?_) #[true, true, true, true, true, true, false, false, false] rfl rfl (eT HT_.out HW_.out (by kernel_rfl)) (fun _ _ _ h => h) (Or.inl ⟨by rfl, ?_⟩) hHeld ?_ ?_
          rotate_left
          ·rintro w' ⟨s0, s1, s2, s3, s4, s5, s6, s7, s8, s9, s10, s11⟩
           go_simp; with_reducible rfl
          rotate_left
          ·simp only [Act.put, List.setIfInBounds_toArray, List.set_cons_zero, List.set_cons_succ, bg, bn]; rfl
          refine oM (i := 6) (N := some 53) #[true, true, true, true, true, true, true, false, false] rfl rfl (jg HT_.out (by kernel_rfl)) (by decide) (fun K hK => ?_)
          refine sV Try.func31 (by kernel_rfl) rfl #[.agg #[.int .i64 ((af ae 0).f0), .int .i64 ((af ae 0).f1), .int .i64 ((af ae 0).f2), .int .i64 ((af ae 0).f3), .slice A342_4 ((af ae 0).f4).length c342_4], .agg #[.int .i64 ((bG aI ja).f0), .slice zA ((bG aI ja).f1).length zB]] (by rfl) rfl rfl (by (try simp only [List.map_toArray, List.map_cons, List.map_nil]); first | done | rfl | (simp only [List.length_drop, List.length_take]; rfl)) ?_
          with_reducible refine (ih k1 (by have := HK1.out; omega) ((af ae 0).f0) ((af ae 0).f1) ((af ae 0).f2) ((af ae 0).f3) _ _ ((af ae 0).f4) ((bG aI ja).f0) _ _ ((bG aI ja).f1) t343 _ ?aW ?aY ?dH ?dO A37.out).mono ?_
          (case aW => repeat (first | exact (Kd.bT YP.out HB.out) | (with_reducible refine Kd.bK ?_ _) | (with_reducible refine Kd.bL ?_ _) | (with_reducible refine Kd.bO ?_)))
          (case aY => exact HC342_4.out)
          (case dH => repeat (first | exact (Kd.bT HR340_1.out HB.out) | (with_reducible refine Kd.bK ?_ _) | (with_reducible refine Kd.bL ?_ _) | (with_reducible refine Kd.bO ?_)))
          (case dO => exact HC340_1.out)
          rintro e w45 ⟨v344, rfl, ho0, hb⟩
          refine ⟨_, rfl, ?_⟩
          have RA := aa.mk (Kd.fB (Kd.rf ho0 (Kd.pW (pR_ oJ.out))) (aC bl_)); replace oJ := aa.mk (Kd.nS (pR_ oJ.out) (Kd.iR ho0) hb); replace dN := aa.mk (ay (g := gG) (o := .cells #[.int .i64 ah, .int .i64 ak, .int .i64 av, .int .i64 au, .slice (some Dq) ae.length aA] 27 (0, 0)) bk_ hb); replace jm := aa.mk (ay (g := kv) (o := .cells #[.int .i64 aX, .slice (some Pt) aI.length dD] 31 (0, 0)) bk_ hb); replace wV := aa.mk (ay (g := pI) (o := .cells #[.int .i64 ((bG aI ja).f0), .slice zA ((bG aI ja).f1).length zB] 31 (0, 0)) bk_ hb); replace HB := aa.mk (az bl_ hb); (try clear hb)
          (try clear hb2)
          (try clear hk)
          (try clear hi)
          (try clear ho0)
          obtain ⟨Ao47, co47, eo47⟩ := Kd.eH RA.out; (first | subst eo47 | (injection eo47 with f1_ f2_ f3_; have f4_ := f1_.symm; have f5_ := f3_.symm; clear f1_ f2_ f3_; subst f4_; subst f5_))
          refine hK.out _ _ ⟨(ax dN.out 0).trans rfl, (ax dN.out 1).trans rfl, (ax dN.out 2).trans rfl, (ax dN.out 3).trans rfl, (ax dN.out 4).trans rfl, (ax wV.out 0).trans rfl, (ax wV.out 1).trans rfl, ((HB.out.cell (World.block_lt_of_cell? w _ CJ)).trans CJ), ((HB.out.cell (World.block_lt_of_cell? w _ CG)).trans CG), ((HB.out.cell (World.block_lt_of_cell? w _ CF)).trans CF), ((HB.out.cell (World.block_lt_of_cell? w _ CE)).trans CE), ((HB.out.cell (World.block_lt_of_cell? w _ CB)).trans CB)⟩ (fun hHeld => ?_)
          clear hK K; refine lq (a' := ?_) ?_ ?_
          rotate_left
          ·show Act.put _ (some 53) _ = _
           simp only [Act.put, List.setIfInBounds_toArray, List.set_cons_zero, List.set_cons_succ, bg, bn]; rfl
          refine oM (i := 7) (N := some 54) #[true, true, true, true, true, true, true, true, false] rfl rfl (jg HT_.out (by kernel_rfl)) (by decide) (fun K hK => ?_)
          refine Kd.Bz (Kd.int .i64) (w0 := w) w.heap.size (by rfl) (.tmp 47) (.tmp 53) 22 3 (.int .i64 0) 8 rfl Try.underlying22 info3 rfl (by decide) (by omega) u8 x8_1 t343 _ _ _ (fun k_ => some k_ ≠ (.slice Ao47 t343.length co47 : Value).ownBlock) (fun _ => False) rfl rfl ?aO ?aR (fun _ _ h => h) (fun _ h => h.elim) ?aF ?aB ?aS ?aL ?_
          (case aR => repeat (first | exact (Kd.dz RA.out).2.2 | (with_reducible refine Kd.bK ?_ _) | (with_reducible refine Kd.bL ?_ _) | (with_reducible refine Kd.bO ?_)))
          (case aB => exact bl_)
          (case aF => exact (fun k_ hk => Kd.fresh' (Kd.pW (pR_ RA.out)) k_ hk))
          (case aO => exact (by (with_reducible repeat (first | apply Kd.fq | apply Kd.eY | apply Kd.fw)); exact Kd.cu oJ.out (fun _ hk => hk.2)))
          (case aS => exact (aC bl_))
          (case aL => have := LMc38.out; omega)
          intro v347 w46 ho hb hg hat; rw [← Ny346.out] at ho; have HO348 := aa.mk (ho); replace dN := aa.mk (gN (g := gG) (o := .cells #[.int .i64 ah, .int .i64 ak, .int .i64 av, .int .i64 au, .slice (some Dq) ae.length aA] 27 (0, 0)) bk_ hg (Kd.Bt oJ.out dN.out (by decide))); replace jm := aa.mk (gN (g := kv) (o := .cells #[.int .i64 aX, .slice (some Pt) aI.length dD] 31 (0, 0)) bk_ hg (Kd.Bt oJ.out jm.out (by decide))); replace wV := aa.mk (gN (g := pI) (o := .cells #[.int .i64 ((bG aI ja).f0), .slice zA ((bG aI ja).f1).length zB] 31 (0, 0)) bk_ hg (Kd.Bt oJ.out wV.out (by decide))); replace RA := aa.mk (Kd.Md (ok := (fun _ => True)) (pR_ RA.out) hg hat); replace HB := aa.mk (hb); clear oJ; clear ho hb hg hat; refine hK.out _ _ ⟨(ax dN.out 0).trans rfl, (ax dN.out 1).trans rfl, (ax dN.out 2).trans rfl, (ax dN.out 3).trans rfl, (ax dN.out 4).trans rfl, (ax wV.out 0).trans rfl, (ax wV.out 1).trans rfl, ((HB.out.cell (World.block_lt_of_cell? w _ CJ)).trans CJ), ((HB.out.cell (World.block_lt_of_cell? w _ CG)).trans CG), ((HB.out.cell (World.block_lt_of_cell? w _ CF)).trans CF), ((HB.out.cell (World.block_lt_of_cell? w _ CE)).trans CE), ((HB.out.cell (World.block_lt_of_cell? w _ CB)).trans CB)⟩ (fun hHeld => ?_)
          clear hK K; refine lq (a' := ?_) ?_ ?_
          rotate_left
          ·show Act.put _ (some 54) _ = _
           simp only [Act.put, List.setIfInBounds_toArray, List.set_cons_zero, List.set_cons_succ, bg, bn]; rfl
          refine di (i := 8) (N := some 8) (v := ?_) (a' := ?_) #[true, true, true, true, true, true, true, true, true] rfl rfl (dE HT_.out (by kernel_rfl)) (fun _ _ _ h => h) (Or.inl ⟨by rfl, ?_⟩) ?_ ?_
          rotate_left
          ·intro w'; go_simp; with_reducible rfl
          rotate_left
          ·simp only [Act.put, List.setIfInBounds_toArray, List.set_cons_zero, List.set_cons_succ, bg, bn]; rfl
          refine nT (qF HT_.out (by kernel_rfl)) ?_
          try go_wp2
          go_roundg k1
          case measure => have := HK1.out; omega
          case rel => exact ⟨(y346), (wrap64 (ja + 1)), rs_, H', ⟨by have := HK1.out; omega⟩, ⟨by (with_reducible repeat (first | apply Kd.fq | apply Kd.eY | apply Kd.fw)); exact Kd.cu HO348.out (fun _ hk => trivial)⟩, ⟨bk_⟩, ⟨bk_⟩, ⟨bl_⟩⟩
         ·rw [if_neg c38] at H; exact absurd H (by simp)
        ·rw [if_neg c36] at H; exact absurd H (by simp)
       ·rw [if_neg c35] at H; exact absurd H (by simp)
      ·rw [if_neg c34] at H; exact absurd H (by simp)
     ·rw [if_neg c33] at H; have Cb : decide (ja < (aI.length : Int)) = false := decide_eq_false c33; clear c33; have H' := aa.mk H; clear H; have hnb48 := EB.out; have hnc48 := EC.out; obtain ⟨Gi, Gj, Pj, Pk, Pm, Gl, Gm, Pn, Po, Pp⟩ := bF dN.out; obtain ⟨Me, Mf, Mg, Mh⟩ := dm jm.out; go_wp2; go_loopg [8, 62] k1 (fun kq v8 v62 w' => ∃ (x8_2 : List Int) (Hm : Int), v62 = .int .i64 Hm ∧ aa (aT.l2 kq x8_2 (wrap64 (au - (aI.length : Int))) Hm ah ak av au ae = some r) ∧ aa (kq ≤ k1) ∧ aa (Kd.R (Kd.int .i64) 3 w' w.heap.size (fun _ => True) v8 x8_2) ∧ aa (w'.heap[gG]? = some (.cells #[.int .i64 ah, .int .i64 ak, .int .i64 av, .int .i64 au, (.slice aJ ae.length aA)] 27 (0, 0))) ∧ aa (w'.heap[kv]? = some (.cells #[.int .i64 aX, (.slice fG aI.length dD)] 31 (0, 0))) ∧ aa (Below w.heap.size w w'))
      case atStart => exact ⟨(x8_1), (0), rs_, H', ⟨Nat.le_refl _⟩, ⟨pR_ oJ.out⟩, ⟨bk_⟩, ⟨bk_⟩, ⟨bl_⟩⟩
      case round =>
       clear H'; (try clear c1); (try clear c2); (try clear p2); (try clear c3); (try clear nN); (try clear tK); (try clear p3); (try clear q3); (try clear hx3); (try clear qi3); (try clear c4); (try clear c6); (try clear p6); (try clear c9); (try clear Gq); (try clear c10); (try clear u6); (try clear c11); (try clear sW); (try clear c12); (try clear rJ); (try clear c14); (try clear c16); (try clear c17); (try clear c24); (try clear u7); (try clear I1); (try clear c27); (try clear c31); (try clear c32); (try clear p32); (try clear q32); (try clear hx32); (try clear c33); (try clear Cb); (try clear p33); (try clear q33); (try clear hx33); (try clear c34); (try clear I4); (try clear p34); (try clear q34); (try clear hx34); (try clear qi34); (try clear c35); (try clear c35b0); (try clear c36); (try clear Fu); (try clear Ps); (try clear c38); (try clear c40); (try clear c41); (try clear c48); (try clear qj ql qm qo); (try clear lH lI ow oz oC lJ lK oD oF oG); (try clear mJ mK mM mO); (try clear qp qw qx qy); (try clear Ex Ey Ez EA); (try clear Gi Gj Pj Pk Pm Gl Gm Pn Po Pp); (try clear Me Mf Mg Mh); (try clear zu zw Fq Ig Ih Bw zx Fs Ii Ij); (try clear xZ yc yf yg); (try clear Ma); (try clear Mc); (try clear Gr); (try clear Gs); (try clear Gu); (try clear Gv); (try clear Gw); (try clear Pv); (try clear Pw); (try clear Cv); (try clear Cw); (try clear Cx); (try clear Cy); (try clear Cz); (try clear p2); (try clear p3); (try clear p32); (try clear p328); (try clear p330); (try clear p340); (try clear p342); (try clear p6); (try clear q3); (try clear q32); (try clear q328); (try clear q330); (try clear q340); (try clear q342); obtain ⟨x8_2, Hm, rfl, HA, HK2, oJ, dN, jm, HB⟩ := hrel; cases gk with
       | zero => exact absurd HA.out (by simp [aT.l2])
       | succ k2 =>
        have H := HA.out; clear HA; simp only [aT.l2] at H; by_cases c51 : Hm < (wrap64 (au - (aI.length : Int)))
        ·rw [if_pos c51] at H; have c51b0 : decide (Hm < (wrap64 (au - (aI.length : Int)))) = true := decide_eq_true c51; clear c51; by_cases c52 : 0 < (ae.length : Int)
         ·rw [if_pos c52] at H; have c52b0 : decide (0 < (ae.length : Int)) = true := decide_eq_true c52; have c52b1 : decide (0 < ae.length) = true := decide_eq_true (by omega); clear c52; replace H := Option.bind_eq_some_iff.mp H; obtain ⟨⟨t351, t352⟩, A530, H⟩ := H; replace H : ((aT.f k2 ((af ae 0).f0) ((af ae 0).f1) ((af ae 0).f2) ((af ae 0).f3) ((af ae 0).f4) t351 t352).bind fun Gp => (if x8_2.length + Gp.length < 17592186044416 then (aT.l2 k2 (x8_2 ++ Gp) (wrap64 (au - (aI.length : Int))) (wrap64 (Hm + 1)) ah ak av au ae) else (none))) = some r := H; have A53 := aa.mk A530; clear A530; replace H := Option.bind_eq_some_iff.mp H; obtain ⟨Gp, A540, H⟩ := H; replace H : (if x8_2.length + Gp.length < 17592186044416 then (aT.l2 k2 (x8_2 ++ Gp) (wrap64 (au - (aI.length : Int))) (wrap64 (Hm + 1)) ah ak av au ae) else (none)) = some r := H; have A54 := aa.mk A540; clear A540; by_cases c55 : x8_2.length + Gp.length < 17592186044416
          ·rw [if_pos c55] at H; have LMc55 := aa.mk c55; clear c55; obtain ⟨y358, RB⟩ : ∃ y_ : List Int, y_ = (x8_2 ++ Gp) := ⟨_, rfl⟩; replace H : (aT.l2 k2 y358 (wrap64 (au - (aI.length : Int))) (wrap64 (Hm + 1)) ah ak av au ae) = some r := by first | (rw [RB]; with_reducible exact H) | (have H2_ := (Option.bind_some _ _).symm.trans H; rw [RB]; with_reducible exact H2_) | (have H2_ := (Option.bind_some _ _).symm.trans H; with_reducible exact H2_) | with_reducible exact H | (rw [RB]; exact H) | exact H
           have Ny358 := aa.mk RB; clear RB; have H' := aa.mk H; clear H; try go_wp2
           replace oJ := aa.mk (Kd.fw oJ.out); replace dN := aa.mk (aj dN.out); replace jm := aa.mk (aj jm.out); replace HB := aa.mk (bU HB.out); have p349 : 0 ≤ (0 : Int) := (by omega); have q349 : 0 < (ae.length : Int) := dt_; obtain ⟨pX, RD, RF, e349, ED, EE, EF, EG, CK, YQ, YR⟩ := gp cK.out 0 p349 q349; have ym := CK; (try rw [show ((0 : Int)).toNat = 0 from rfl] at ym)
           (try rw [show 0 * 5 = 0 from rfl] at ym)
           (try rw [Addr.add_zero'] at ym)
           have yn := EG; (try rw [show ((0 : Int)).toNat = 0 from rfl] at yn)
           (try rw [show 0 * 5 = 0 from rfl] at yn)
           (try rw [Addr.add_zero'] at yn)
           have yo := EF; (try rw [show ((0 : Int)).toNat = 0 from rfl] at yo)
           (try rw [show 0 * 5 = 0 from rfl] at yo)
           (try rw [Addr.add_zero'] at yo)
           have yt := EE; (try rw [show ((0 : Int)).toNat = 0 from rfl] at yt)
           (try rw [show 0 * 5 = 0 from rfl] at yt)
           (try rw [Addr.add_zero'] at yt)
           have yu := ED; (try rw [show ((0 : Int)).toNat = 0 from rfl] at yu)
           (try rw [show 0 * 5 = 0 from rfl] at yu)
           (try rw [Addr.add_zero'] at yu)
           cases e349; have qi349 : (0 < ae.length) = True := eq_true (by omega); (try rw [show ((0 : Int)).toNat = 0 from rfl] at ED)
           (try rw [show 0 * 5 = 0 from rfl] at ED)
           (try rw [Addr.add_zero'] at ED)
           (try rw [show ((0 : Int)).toNat = 0 from rfl] at EE)
           (try rw [show 0 * 5 = 0 from rfl] at EE)
           (try rw [Addr.add_zero'] at EE)
           (try rw [show ((0 : Int)).toNat = 0 from rfl] at EF)
           (try rw [show 0 * 5 = 0 from rfl] at EF)
           (try rw [Addr.add_zero'] at EF)
           (try rw [show ((0 : Int)).toNat = 0 from rfl] at EG)
           (try rw [show 0 * 5 = 0 from rfl] at EG)
           (try rw [Addr.add_zero'] at EG)
           (try rw [show ((0 : Int)).toNat = 0 from rfl] at CK)
           (try rw [show 0 * 5 = 0 from rfl] at CK)
           (try rw [Addr.add_zero'] at CK)
           replace ED := (HB.out.cell (World.block_lt_of_cell? w _ ED)).trans ED; replace EE := (HB.out.cell (World.block_lt_of_cell? w _ EE)).trans EE; replace EF := (HB.out.cell (World.block_lt_of_cell? w _ EF)).trans EF; replace EG := (HB.out.cell (World.block_lt_of_cell? w _ EG)).trans EG; replace CK := (HB.out.cell (World.block_lt_of_cell? w _ CK)).trans CK; have YS := aa.mk YR; have HC349_4 := aa.mk YQ; clear YR YQ; replace p349 := eq_true p349; replace q349 := eq_true q349; have p350 : 0 ≤ (0 : Int) := (by omega); have q350 : 0 < (ae.length : Int) := dt_; obtain ⟨ad350, A350_4, c350_4, e350, EH, EI, EJ, EK, CL, YT, YU⟩ := gp cK.out 0 p350 q350; have yw := CL; (try rw [show ((0 : Int)).toNat = 0 from rfl] at yw)
           (try rw [show 0 * 5 = 0 from rfl] at yw)
           (try rw [Addr.add_zero'] at yw)
           have yx := EK; (try rw [show ((0 : Int)).toNat = 0 from rfl] at yx)
           (try rw [show 0 * 5 = 0 from rfl] at yx)
           (try rw [Addr.add_zero'] at yx)
           have yz := EJ; (try rw [show ((0 : Int)).toNat = 0 from rfl] at yz)
           (try rw [show 0 * 5 = 0 from rfl] at yz)
           (try rw [Addr.add_zero'] at yz)
           have yA := EI; (try rw [show ((0 : Int)).toNat = 0 from rfl] at yA)
           (try rw [show 0 * 5 = 0 from rfl] at yA)
           (try rw [Addr.add_zero'] at yA)
           have yB := EH; (try rw [show ((0 : Int)).toNat = 0 from rfl] at yB)
           (try rw [show 0 * 5 = 0 from rfl] at yB)
           (try rw [Addr.add_zero'] at yB)
           obtain rfl : pX = ad350 := (by injection e350); have qi350 : (0 < ae.length) = True := eq_true (by omega); (try rw [show ((0 : Int)).toNat = 0 from rfl] at EH)
           (try rw [show 0 * 5 = 0 from rfl] at EH)
           (try rw [Addr.add_zero'] at EH)
           (try rw [show ((0 : Int)).toNat = 0 from rfl] at EI)
           (try rw [show 0 * 5 = 0 from rfl] at EI)
           (try rw [Addr.add_zero'] at EI)
           (try rw [show ((0 : Int)).toNat = 0 from rfl] at EJ)
           (try rw [show 0 * 5 = 0 from rfl] at EJ)
           (try rw [Addr.add_zero'] at EJ)
           (try rw [show ((0 : Int)).toNat = 0 from rfl] at EK)
           (try rw [show 0 * 5 = 0 from rfl] at EK)
           (try rw [Addr.add_zero'] at EK)
           (try rw [show ((0 : Int)).toNat = 0 from rfl] at CL)
           (try rw [show 0 * 5 = 0 from rfl] at CL)
           (try rw [Addr.add_zero'] at CL)
           replace EH := (HB.out.cell (World.block_lt_of_cell? w _ EH)).trans EH; replace EI := (HB.out.cell (World.block_lt_of_cell? w _ EI)).trans EI; replace EJ := (HB.out.cell (World.block_lt_of_cell? w _ EJ)).trans EJ; replace EK := (HB.out.cell (World.block_lt_of_cell? w _ EK)).trans EK; replace CL := (HB.out.cell (World.block_lt_of_cell? w _ CL)).trans CL; have YV := aa.mk YU; have HC350_4 := aa.mk YT; clear YU YT; replace p350 := eq_true p350; replace q350 := eq_true q350; have ea_ := Option.some.inj (CK.symm.trans CL); injection ea_ with ea_ en_ ec_
           subst ea_; subst ec_; clear en_; refine lG (n := 13) (S := fun w' => w'.cell? ⟨gG, 0, none⟩ = some (.int .i64 ah) ∧ w'.cell? ⟨gG, 1, none⟩ = some (.int .i64 ak) ∧ w'.cell? ⟨gG, 2, none⟩ = some (.int .i64 av) ∧ w'.cell? ⟨gG, 3, none⟩ = some (.int .i64 au) ∧ w'.cell? ⟨gG, 4, none⟩ = some (.slice (some pX) ae.length aA) ∧ w'.cell? pX = some (.int .i64 ((af ae 0).f0)) ∧ w'.cell? ⟨pX.block, pX.off + 1, none⟩ = some (.int .i64 ((af ae 0).f1)) ∧ w'.cell? ⟨pX.block, pX.off + 2, none⟩ = some (.int .i64 ((af ae 0).f2)) ∧ w'.cell? ⟨pX.block, pX.off + 3, none⟩ = some (.int .i64 ((af ae 0).f3)) ∧ w'.cell? ⟨pX.block, pX.off + 4, none⟩ = some (.slice RD ((af ae 0).f4).length RF) ∧ w'.cell? pX = some (.int .i64 ((af ae 0).f0)) ∧ w'.cell? ⟨pX.block, pX.off + 1, none⟩ = some (.int .i64 ((af ae 0).f1)) ∧ w'.cell? ⟨pX.block, pX.off + 2, none⟩ = some (.int .i64 ((af ae 0).f2)) ∧ w'.cell? ⟨pX.block, pX.off + 3, none⟩ = some (.int .i64 ((af ae 0).f3)) ∧ w'.cell? ⟨pX.block, pX.off + 4, none⟩ = some (.slice RD ((af ae 0).f4).length RF)) (ds := []) #[false, false, false, false, false, false, false, false, false, false, false, false, false] (by kernel_rfl) rfl rfl ⟨(ax dN.out 0).trans rfl, (ax dN.out 1).trans rfl, (ax dN.out 2).trans rfl, (ax dN.out 3).trans rfl, (ax dN.out 4).trans rfl, ((HB.out.cell (World.block_lt_of_cell? w _ yu)).trans yu), ((HB.out.cell (World.block_lt_of_cell? w _ yt)).trans yt), ((HB.out.cell (World.block_lt_of_cell? w _ yo)).trans yo), ((HB.out.cell (World.block_lt_of_cell? w _ yn)).trans yn), ((HB.out.cell (World.block_lt_of_cell? w _ ym)).trans ym), ((HB.out.cell (World.block_lt_of_cell? w _ yB)).trans yB), ((HB.out.cell (World.block_lt_of_cell? w _ yA)).trans yA), ((HB.out.cell (World.block_lt_of_cell? w _ yz)).trans yz), ((HB.out.cell (World.block_lt_of_cell? w _ yx)).trans yx), ((HB.out.cell (World.block_lt_of_cell? w _ yw)).trans yw)⟩ (fun hHeld => ?_); refine ma aT.tab19 aT.bits19 (fun HT_ HW_ => ?_)
           generalize wr.drew = w56 at oJ dN jm HB YS YV ED EE EF EG CK EH EI EJ EK CL hHeld ⊢
           refine di (i := 0) (N := some 64) (v := ?_) (a' := ?_) #[true, false, false, false, false, false, false, false, false, false, false, false, false] rfl rfl (dE HT_.out (by kernel_rfl)) (fun _ _ _ h => h) (Or.inl ⟨by rfl, ?_⟩) ?_ ?_
           rotate_left
           ·intro w'; go_simp; with_reducible rfl
           rotate_left
           ·simp only [Act.put, List.setIfInBounds_toArray, List.set_cons_zero, List.set_cons_succ, bg, bn]; rfl
           refine di (i := 1) (N := some 65) (v := ?_) (a' := ?_) #[true, true, false, false, false, false, false, false, false, false, false, false, false] rfl rfl (dE HT_.out (by kernel_rfl)) (fun _ _ _ h => h) (Or.inl ⟨by rfl, ?_⟩) ?_ ?_
           rotate_left
           ·intro w'; go_simp; with_reducible rfl
           rotate_left
           ·simp only [Act.put, List.setIfInBounds_toArray, List.set_cons_zero, List.set_cons_succ, bg, bn]; rfl
           refine di (i := 5) (N := some 69) (v := ?_) (a' := ?_) #[true, true, false, false, false, true, false, false, false, false, false, false, false] rfl rfl (dE HT_.out (by kernel_rfl)) (fun _ _ _ h => h) (Or.inl ⟨by rfl, ?_⟩) ?_ ?_
           rotate_left
           ·intro w'; go_simp; with_reducible rfl
           rotate_left
           ·simp only [Act.put, List.setIfInBounds_toArray, List.set_cons_zero, List.set_cons_succ, bg, bn]; rfl
           refine fJ (i := 2) (N := some 66) (v := ?_) (a' := ?_) #[true, true, true, false, false, true, false, false, false, false, false, false, false] rfl rfl (eT HT_.out HW_.out (by kernel_rfl)) (fun _ _ _ h => h) (Or.inl ⟨by rfl, ?_⟩) hHeld ?_ ?_
           rotate_left
           ·rintro w' ⟨s0, s1, s2, s3, s4, s5, s6, s7, s8, s9, s10, s11, s12, s13, s14⟩
            go_simp; with_reducible rfl
           rotate_left
           ·simp only [Act.put, List.setIfInBounds_toArray, List.set_cons_zero, List.set_cons_succ, bg, bn]; rfl
           refine di (i := 3) (N := some 67) (v := ?_) (a' := ?_) #[true, true, true, true, false, true, false, false, false, false, false, false, false] rfl rfl (dE HT_.out (by kernel_rfl)) (fun _ _ _ h => h) (Or.inl ⟨by rfl, ?_⟩) ?_ ?_
           rotate_left
           ·intro w'; go_simp; with_reducible rfl
           rotate_left
           ·simp only [Act.put, List.setIfInBounds_toArray, List.set_cons_zero, List.set_cons_succ, bg, bn]; rfl
           refine fJ (i := 4) (N := some 68) (v := ?_) (a' := ?_) #[true, true, true, true, true, true, false, false, false, false, false, false, false] rfl rfl (eT HT_.out HW_.out (by kernel_rfl)) (fun _ _ _ h => h) (Or.inl ⟨by rfl, ?_⟩) hHeld ?_ ?_
           rotate_left
           ·rintro w' ⟨s0, s1, s2, s3, s4, s5, s6, s7, s8, s9, s10, s11, s12, s13, s14⟩
            go_simp; with_reducible rfl
           rotate_left
           ·simp only [Act.put, List.setIfInBounds_toArray, List.set_cons_zero, List.set_cons_succ, bg, bn]; rfl
           refine fJ (i := 6) (N := some 70) (v := ?_) (a' := ?_) #[true, true, true, true, true, true, true, false, false, false, false, false, false] rfl rfl (eT HT_.out HW_.out (by kernel_rfl)) (fun _ _ _ h => h) (Or.inl ⟨by rfl, ?_⟩) hHeld ?_ ?_
           rotate_left
           ·rintro w' ⟨s0, s1, s2, s3, s4, s5, s6, s7, s8, s9, s10, s11, s12, s13, s14⟩
            go_simp; with_reducible rfl
           rotate_left
           ·simp only [Act.put, List.setIfInBounds_toArray, List.set_cons_zero, List.set_cons_succ, bg, bn]; rfl
           refine di (i := 7) (N := some 71) (v := ?_) (a' := ?_) #[true, true, true, true, true, true, true, true, false, false, false, false, false] rfl rfl (dE HT_.out (by kernel_rfl)) (fun _ _ _ h => h) (Or.inl ⟨by rfl, ?_⟩) ?_ ?_
           rotate_left
           ·intro w'; go_simp; with_reducible rfl
           rotate_left
           ·simp only [Act.put, List.setIfInBounds_toArray, List.set_cons_zero, List.set_cons_succ, bg, bn]; rfl
           refine fJ (i := 8) (N := some 72) (v := ?_) (a' := ?_) #[true, true, true, true, true, true, true, true, true, false, false, false, false] rfl rfl (eT HT_.out HW_.out (by kernel_rfl)) (fun _ _ _ h => h) (Or.inl ⟨by rfl, ?_⟩) hHeld ?_ ?_
           rotate_left
           ·rintro w' ⟨s0, s1, s2, s3, s4, s5, s6, s7, s8, s9, s10, s11, s12, s13, s14⟩
            go_simp; with_reducible rfl
           rotate_left
           ·simp only [Act.put, List.setIfInBounds_toArray, List.set_cons_zero, List.set_cons_succ, bg, bn]; rfl
           refine oM (i := 9) (N := some 73) #[true, true, true, true, true, true, true, true, true, true, false, false, false] rfl rfl (jg HT_.out (by kernel_rfl)) (by decide) (fun K hK => ?_)
           refine sV Try.func34 (by kernel_rfl) rfl #[.agg #[.int .i64 ((af ae 0).f0), .int .i64 ((af ae 0).f1), .int .i64 ((af ae 0).f2), .int .i64 ((af ae 0).f3), .slice RD ((af ae 0).f4).length RF]] (by rfl) rfl rfl (by (try simp only [List.map_toArray, List.map_cons, List.map_nil]); first | done | rfl | (simp only [List.length_drop, List.length_take]; rfl)) ?_
           with_reducible refine (dn.calls k2 ((af ae 0).f0) ((af ae 0).f1) ((af ae 0).f2) ((af ae 0).f3) _ _ ((af ae 0).f4) t351 t352 _ ?aW ?aY A53.out).mono ?_
           (case aW => repeat (first | exact (Kd.bT YV.out HB.out) | (with_reducible refine Kd.bK ?_ _) | (with_reducible refine Kd.bL ?_ _) | (with_reducible refine Kd.bO ?_)))
           (case aY => exact HC350_4.out)
           rintro e w57 ⟨v353, rfl, ho0, hb⟩
           refine ⟨_, rfl, ?_⟩
           have M6 := aa.mk (Kd.fB (Kd.tQ ho0 (g := kv) (o := .cells #[.int .i64 aX, .slice fG aI.length dD] 31 (0, 0)) bk_) (aC bl_)); replace oJ := aa.mk (Kd.dw (pR_ oJ.out) hb); replace dN := aa.mk (ay (g := gG) (o := .cells #[.int .i64 ah, .int .i64 ak, .int .i64 av, .int .i64 au, .slice (some pX) ae.length aA] 27 (0, 0)) bk_ hb); replace jm := aa.mk (ay (g := kv) (o := .cells #[.int .i64 aX, .slice fG aI.length dD] 31 (0, 0)) bk_ hb); replace HB := aa.mk (az bl_ hb); (try clear hb)
           (try clear hb2)
           (try clear hk)
           (try clear hi)
           (try clear ho0)
           obtain ⟨Ao58, co58, eo58⟩ := Kd.eH M6.out; (first | subst eo58 | (injection eo58 with f1_ f2_ f3_; have f4_ := f1_.symm; have f5_ := f3_.symm; clear f1_ f2_ f3_; subst f4_; subst f5_))
           refine hK.out _ _ ⟨(ax dN.out 0).trans rfl, (ax dN.out 1).trans rfl, (ax dN.out 2).trans rfl, (ax dN.out 3).trans rfl, (ax dN.out 4).trans rfl, ((HB.out.cell (World.block_lt_of_cell? w _ yu)).trans yu), ((HB.out.cell (World.block_lt_of_cell? w _ yt)).trans yt), ((HB.out.cell (World.block_lt_of_cell? w _ yo)).trans yo), ((HB.out.cell (World.block_lt_of_cell? w _ yn)).trans yn), ((HB.out.cell (World.block_lt_of_cell? w _ ym)).trans ym), ((HB.out.cell (World.block_lt_of_cell? w _ yB)).trans yB), ((HB.out.cell (World.block_lt_of_cell? w _ yA)).trans yA), ((HB.out.cell (World.block_lt_of_cell? w _ yz)).trans yz), ((HB.out.cell (World.block_lt_of_cell? w _ yx)).trans yx), ((HB.out.cell (World.block_lt_of_cell? w _ yw)).trans yw)⟩ (fun hHeld => ?_)
           clear hK K; refine lq (a' := ?_) ?_ ?_
           rotate_left
           ·show Act.put _ (some 73) _ = _
            simp only [Act.put, List.setIfInBounds_toArray, List.set_cons_zero, List.set_cons_succ, bg, bn]; rfl
           refine oM (i := 10) (N := some 74) #[true, true, true, true, true, true, true, true, true, true, true, false, false] rfl rfl (jg HT_.out (by kernel_rfl)) (by decide) (fun K hK => ?_)
           refine sV Try.func31 (by kernel_rfl) rfl #[.agg #[.int .i64 ((af ae 0).f0), .int .i64 ((af ae 0).f1), .int .i64 ((af ae 0).f2), .int .i64 ((af ae 0).f3), .slice RD ((af ae 0).f4).length RF], .agg #[.int .i64 t351, .slice Ao58 t352.length co58]] (by rfl) rfl rfl (by (try simp only [List.map_toArray, List.map_cons, List.map_nil]); first | done | rfl | (simp only [List.length_drop, List.length_take]; rfl)) ?_
           with_reducible refine (ih k2 (by have := HK1.out; have := HK2.out; omega) ((af ae 0).f0) ((af ae 0).f1) ((af ae 0).f2) ((af ae 0).f3) _ _ ((af ae 0).f4) t351 _ _ t352 Gp _ ?aW ?aY ?dH ?dO A54.out).mono ?_
           (case aW => repeat (first | exact (Kd.bT YS.out HB.out) | (with_reducible refine Kd.bK ?_ _) | (with_reducible refine Kd.bL ?_ _) | (with_reducible refine Kd.bO ?_)))
           (case aY => exact HC349_4.out)
           (case dH => repeat (first | exact (Kd.dz M6.out).2.2 | (with_reducible refine Kd.bK ?_ _) | (with_reducible refine Kd.bL ?_ _) | (with_reducible refine Kd.bO ?_)))
           (case dO => exact (Kd.dz M6.out).2.1)
           rintro e w59 ⟨v356, rfl, ho0, hb⟩
           refine ⟨_, rfl, ?_⟩
           have RG := aa.mk (Kd.fB (Kd.rf ho0 (Kd.pW (pR_ oJ.out))) (aC bl_)); replace oJ := aa.mk (Kd.nS (pR_ oJ.out) (Kd.iR ho0) hb); replace M6 := aa.mk (Kd.dw (pR_ M6.out) hb); replace dN := aa.mk (ay (g := gG) (o := .cells #[.int .i64 ah, .int .i64 ak, .int .i64 av, .int .i64 au, .slice (some pX) ae.length aA] 27 (0, 0)) bk_ hb); replace jm := aa.mk (ay (g := kv) (o := .cells #[.int .i64 aX, .slice fG aI.length dD] 31 (0, 0)) bk_ hb); replace HB := aa.mk (az bl_ hb); (try clear hb)
           (try clear hb2)
           (try clear hk)
           (try clear hi)
           (try clear ho0)
           obtain ⟨Ao61, co61, eo61⟩ := Kd.eH RG.out; (first | subst eo61 | (injection eo61 with f1_ f2_ f3_; have f4_ := f1_.symm; have f5_ := f3_.symm; clear f1_ f2_ f3_; subst f4_; subst f5_))
           refine hK.out _ _ ⟨(ax dN.out 0).trans rfl, (ax dN.out 1).trans rfl, (ax dN.out 2).trans rfl, (ax dN.out 3).trans rfl, (ax dN.out 4).trans rfl, ((HB.out.cell (World.block_lt_of_cell? w _ yu)).trans yu), ((HB.out.cell (World.block_lt_of_cell? w _ yt)).trans yt), ((HB.out.cell (World.block_lt_of_cell? w _ yo)).trans yo), ((HB.out.cell (World.block_lt_of_cell? w _ yn)).trans yn), ((HB.out.cell (World.block_lt_of_cell? w _ ym)).trans ym), ((HB.out.cell (World.block_lt_of_cell? w _ yB)).trans yB), ((HB.out.cell (World.block_lt_of_cell? w _ yA)).trans yA), ((HB.out.cell (World.block_lt_of_cell? w _ yz)).trans yz), ((HB.out.cell (World.block_lt_of_cell? w _ yx)).trans yx), ((HB.out.cell (World.block_lt_of_cell? w _ yw)).trans yw)⟩ (fun hHeld => ?_)
           clear hK K; refine lq (a' := ?_) ?_ ?_
           rotate_left
           ·show Act.put _ (some 74) _ = _
            simp only [Act.put, List.setIfInBounds_toArray, List.set_cons_zero, List.set_cons_succ, bg, bn]; rfl
           refine oM (i := 11) (N := some 75) #[true, true, true, true, true, true, true, true, true, true, true, true, false] rfl rfl (jg HT_.out (by kernel_rfl)) (by decide) (fun K hK => ?_)
           refine Kd.Bz (Kd.int .i64) (w0 := w) w.heap.size (by rfl) (.tmp 64) (.tmp 74) 22 3 (.int .i64 0) 8 rfl Try.underlying22 info3 rfl (by decide) (by omega) u8 x8_2 Gp _ _ _ (fun k_ => some k_ ≠ (.slice Ao61 Gp.length co61 : Value).ownBlock) (fun _ => False) rfl rfl ?aO ?aR (fun _ _ h => h) (fun _ h => h.elim) ?aF ?aB ?aS ?aL ?_
           (case aR => repeat (first | exact (Kd.dz RG.out).2.2 | (with_reducible refine Kd.bK ?_ _) | (with_reducible refine Kd.bL ?_ _) | (with_reducible refine Kd.bO ?_)))
           (case aB => exact bl_)
           (case aF => exact (fun k_ hk => Kd.fresh' (Kd.pW (pR_ RG.out)) k_ hk))
           (case aO => exact (by (with_reducible repeat (first | apply Kd.fq | apply Kd.eY | apply Kd.fw)); exact Kd.cu oJ.out (fun _ hk => hk.2)))
           (case aS => exact (aC bl_))
           (case aL => have := LMc55.out; omega)
           intro v359 w60 ho hb hg hat; rw [← Ny358.out] at ho; have HO360 := aa.mk (ho); replace dN := aa.mk (gN (g := gG) (o := .cells #[.int .i64 ah, .int .i64 ak, .int .i64 av, .int .i64 au, .slice (some pX) ae.length aA] 27 (0, 0)) bk_ hg (Kd.Bt oJ.out dN.out (by decide))); replace jm := aa.mk (gN (g := kv) (o := .cells #[.int .i64 aX, .slice fG aI.length dD] 31 (0, 0)) bk_ hg (Kd.Bt oJ.out jm.out (by decide))); replace M6 := aa.mk (Kd.R_over' (pR_ M6.out) (Kd.R_typed (pR_ oJ.out)) (by decide) hg); replace RG := aa.mk (Kd.Md (ok := (fun _ => True)) (pR_ RG.out) hg hat); replace HB := aa.mk (hb); clear oJ; clear ho hb hg hat; refine hK.out _ _ ⟨(ax dN.out 0).trans rfl, (ax dN.out 1).trans rfl, (ax dN.out 2).trans rfl, (ax dN.out 3).trans rfl, (ax dN.out 4).trans rfl, ((HB.out.cell (World.block_lt_of_cell? w _ yu)).trans yu), ((HB.out.cell (World.block_lt_of_cell? w _ yt)).trans yt), ((HB.out.cell (World.block_lt_of_cell? w _ yo)).trans yo), ((HB.out.cell (World.block_lt_of_cell? w _ yn)).trans yn), ((HB.out.cell (World.block_lt_of_cell? w _ ym)).trans ym), ((HB.out.cell (World.block_lt_of_cell? w _ yB)).trans yB), ((HB.out.cell (World.block_lt_of_cell? w _ yA)).trans yA), ((HB.out.cell (World.block_lt_of_cell? w _ yz)).trans yz), ((HB.out.cell (World.block_lt_of_cell? w _ yx)).trans yx), ((HB.out.cell (World.block_lt_of_cell? w _ yw)).trans yw)⟩ (fun hHeld => ?_)
           clear hK K; refine lq (a' := ?_) ?_ ?_
           rotate_left
           ·show Act.put _ (some 75) _ = _
            simp only [Act.put, List.setIfInBounds_toArray, List.set_cons_zero, List.set_cons_succ, bg, bn]; rfl
           refine di (i := 12) (N := some 8) (v := ?_) (a' := ?_) #[true, true, true, true, true, true, true, true, true, true, true, true, true] rfl rfl (dE HT_.out (by kernel_rfl)) (fun _ _ _ h => h) (Or.inl ⟨by rfl, ?_⟩) ?_ ?_
           rotate_left
           ·intro w'; go_simp; with_reducible rfl
           rotate_left
           ·simp only [Act.put, List.setIfInBounds_toArray, List.set_cons_zero, List.set_cons_succ, bg, bn]; rfl
           refine nT (qF HT_.out (by kernel_rfl)) ?_
           try go_wp2
           go_roundg k2
           case measure => have := HK1.out; have := HK2.out; omega
           case rel => exact ⟨(y358), (wrap64 (Hm + 1)), rs_, H', ⟨by have := HK1.out; have := HK2.out; omega⟩, ⟨by (with_reducible repeat (first | apply Kd.fq | apply Kd.eY | apply Kd.fw)); exact Kd.cu HO360.out (fun _ hk => trivial)⟩, ⟨bk_⟩, ⟨bk_⟩, ⟨bl_⟩⟩
          ·rw [if_neg c55] at H; exact absurd H (by simp)
         ·rw [if_neg c52] at H; exact absurd H (by simp)
        ·rw [if_neg c51] at H; have c51b0 : decide (Hm < (wrap64 (au - (aI.length : Int)))) = false := decide_eq_false c51; clear c51; obtain rfl := Option.some.inj H; go_wp2; go_ret; exact ⟨_, re_, pR_ oJ.out, bl_⟩
  ·rw [if_neg c24] at H; have u7 : (ah == 6) = false := beq_eq_false_iff_ne.mpr c24; have I1 : (ah != 6) = true := bne_iff_ne.mpr c24; obtain ⟨y361, RH⟩ : ∃ y_ : List Int, y_ = (([aX] : List Int)) := ⟨_, rfl⟩; replace H : (some y361) = some r := by first | (rw [RH]; with_reducible exact H) | (have H2_ := (Option.bind_some _ _).symm.trans H; rw [RH]; with_reducible exact H2_) | (have H2_ := (Option.bind_some _ _).symm.trans H; with_reducible exact H2_) | with_reducible exact H | (rw [RH]; exact H) | exact H
   have Ny361 := aa.mk RH; clear RH; obtain rfl := Option.some.inj H; go_enter Try.func31, Try.ntmps31; go_wp2_with (first | ((with_reducible refine bz (N := 2) rfl ?_); refine bB ?hg (N := 2) ?hd (cs := #[.int .i64 ah, .int .i64 ak, .int .i64 av, .int .i64 au, .slice aJ ae.length aA]) (t := 27) ?hr ?_; (case hd => rfl); (case hg => rfl); (case hr => first | (go_simp; done) | (go_simp; rfl)); intro gG hg w62 aQ hb; have dN := aa.mk (aQ); have Ru : aa (w.heap.size ≤ gG) := gw_ hg (aC bl_); have GE326 := Ru; replace HB := aa.mk (az bl_ hb); clear hb aQ hg) | ((with_reducible refine bz (N := 3) rfl ?_); refine bB ?hg (N := 3) ?hd (cs := #[.int .i64 aX, .slice fG aI.length dD]) (t := 31) ?hr ?_; (case hd => rfl); (case hg => rfl); (case hr => first | (go_simp; done) | (go_simp; rfl)); intro kv hg w63 aQ hb; have jm := aa.mk (aQ); have Rv : aa (w.heap.size ≤ kv) := gw_ hg (aC bl_); have GE327 := Rv; have EB := aa.mk ((by rw [hg]; exact Nat.ne_of_lt (bE (g := gG) (o := .cells #[.int .i64 ah, .int .i64 ak, .int .i64 av, .int .i64 au, .slice aJ ae.length aA] 27 (0, 0)) bk_) : gG ≠ kv)); have EC := aa.mk ((by rw [hg]; exact Nat.ne_of_gt (bE (g := gG) (o := .cells #[.int .i64 ah, .int .i64 ak, .int .i64 av, .int .i64 au, .slice aJ ae.length aA] 27 (0, 0)) bk_) : kv ≠ gG)); replace dN := aa.mk (ay (g := gG) (o := .cells #[.int .i64 ah, .int .i64 ak, .int .i64 av, .int .i64 au, .slice aJ ae.length aA] 27 (0, 0)) bk_ hb); replace HB := aa.mk (az bl_ hb); clear hb aQ hg; have hnb64 := EB.out; have hnc64 := EC.out; obtain ⟨hcz65_0, hcz65_1, hcz65_2, hcz65_3, hcz65_4, hfz65_0, hfz65_1, hfz65_2, hfz65_3, hfz65_4⟩ := bF dN.out; obtain ⟨Jo, Jp, Jq, Jr⟩ := dm jm.out) | ((with_reducible refine bz (N := 80) rfl ?_); refine Kd.wU (Kd.int .i64) _ 3 ?hg (N := 80) ?hd (xs := ([aX] : List Int)) (inner := [.int .i64 aX]) (ok := fun _ => True) (okp := fun _ => True) ?hr ?hp (fun _ hk => hk) trivial (Below.refl _ _) (Nat.le_refl _) (by simp) ?_; (case hd => rfl); (case hg => rfl); (case hr => first | (go_simp; done) | (go_simp; rfl)); (case hp => exact (dL.one (show Kd.M (Kd.int .i64) _ _ _ aX [.int .i64 aX] from rfl) (dL.none _ _))); intro v362 w67 ho68 hb hg_ kJ; clear hg_ kJ; (first | rw [← Ny361.out] at ho68 | (simp only [Int.reduceToNat] at ho68; rw [← Ny361.out] at ho68)); have HO363 := aa.mk (Kd.fB ho68 (aC bl_)); replace dN := aa.mk (ay (g := gG) (o := .cells #[.int .i64 ah, .int .i64 ak, .int .i64 av, .int .i64 au, .slice aJ ae.length aA] 27 (0, 0)) bk_ hb); replace jm := aa.mk (ay (g := kv) (o := .cells #[.int .i64 aX, .slice fG aI.length dD] 31 (0, 0)) bk_ hb); replace HB := aa.mk (az bl_ hb); clear hb ho68))
   go_ret; exact ⟨_, re_, pR_ HO363.out, bl_⟩
end Go.Proofs.Ytggelekooacmnaa.Q
