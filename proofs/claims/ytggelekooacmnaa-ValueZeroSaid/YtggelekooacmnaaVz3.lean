/- Lemmas for: EC that ru is true for every list of numbers: the zero of a type is a value of it, and the cells of a list behind its length are the zero of its element. -/
import Derived.StillTailTactics
import Derived.Lib.QuietBelow
import Derived.Lib.Hide
import Derived.Test.YtggelekooacmnaaVz2
namespace Go.Proofs.Ytggelekooacmnaa.Z
open Go.RowKit Go.Proofs.YtggelekooacmnaaW.bM Go.Proofs.YtggelekooacmnaaW.dR Go.Proofs.YtggelekooacmnaaW.eO
attribute [local go_sem] iM iN jk jl gW gX iO iP   -- for this text's walks alone
set_option linter.unusedVariables false
set_option linter.unusedSimpArgs false

/-! ### az: function 36 -/
mutual
def az.j0 : Nat → Int → Bool → Int → Int → Int → Int → List (S27) → Option (Int)
 | 0, _, _, _, _, _, _, _ => none
 | k + 1, x3, x14, lh, kD, kE, kv, gH => if x14 = true then (some 14) else (if x3 = 2 then (if x3 = 6 then (if x3 < 5 then (az.j1 k x3 (decide ((gH.length : Int) > 0)) lh kD kE kv gH) else (az.j1 k x3 false lh kD kE kv gH)) else (if kv = 0 then (if x3 < 5 then (az.j1 k x3 (decide ((gH.length : Int) > 0)) lh kD kE kv gH) else (az.j1 k x3 false lh kD kE kv gH)) else (az.j1 k x3 true lh kD kE kv gH))) else (if kD = 0 then (if kE = 0 then (if x3 = 6 then (if x3 < 5 then (az.j1 k x3 (decide ((gH.length : Int) > 0)) lh kD kE kv gH) else (az.j1 k x3 false lh kD kE kv gH)) else (if kv = 0 then (if x3 < 5 then (az.j1 k x3 (decide ((gH.length : Int) > 0)) lh kD kE kv gH) else (az.j1 k x3 false lh kD kE kv gH)) else (az.j1 k x3 true lh kD kE kv gH))) else (az.j1 k x3 true lh kD kE kv gH)) else (az.j1 k x3 true lh kD kE kv gH)))
def az.j1 : Nat → Int → Bool → Int → Int → Int → Int → List (S27) → Option (Int)
 | 0, _, _, _, _, _, _, _ => none
 | k + 1, x3, x45, lh, kD, kE, kv, gH => if x45 = true then (some 2) else (if x3 = 2 then (if kD < (-1000) then (some 1) else (if kD > kE then (some 1) else (if kE > 1000 then (some 1) else (some 0)))) else (if x3 = 5 then (if (gH.length : Int) < 2 then (az.j2 k true lh kD kE kv gH) else (az.j2 k (decide ((gH.length : Int) > 4)) lh kD kE kv gH)) else (if x3 = 6 then (if kv < 1 then (az.j4 k true lh kD kE kv gH) else (az.j4 k (decide (kv > 4)) lh kD kE kv gH)) else (some 0))))
def az.j2 : Nat → Bool → Int → Int → Int → Int → List (S27) → Option (Int)
 | 0, _, _, _, _, _, _ => none
 | k + 1, x75, lh, kD, kE, kv, gH => if x75 = true then (some 1) else (az.l0 k 0 lh kD kE kv gH)
def az.l0 : Nat → Int → Int → Int → Int → Int → List (S27) → Option (Int)
 | 0, _, _, _, _, _, _ => none
 | k + 1, x4, lh, kD, kE, kv, gH => if x4 < (gH.length : Int) then (if 0 ≤ x4 then ((az.f k ((aj gH x4).f0) ((aj gH x4).f1) ((aj gH x4).f2) ((aj gH x4).f3) ((aj gH x4).f4)).bind fun Cy => (if Cy = 0 then (if ((aj gH x4).f0) = 3 then (some 8) else (if ((aj gH x4).f0) = 4 then (some 8) else (az.l0 k (wrap64 (x4 + 1)) lh kD kE kv gH))) else (some Cy))) else (none)) else (some 0)
def az.j4 : Nat → Bool → Int → Int → Int → Int → List (S27) → Option (Int)
 | 0, _, _, _, _, _, _ => none
 | k + 1, x117, lh, kD, kE, kv, gH => if x117 = true then (some 1) else (if (gH.length : Int) = 1 then (if 0 < (gH.length : Int) then ((az.f k ((aj gH 0).f0) ((aj gH 0).f1) ((aj gH 0).f2) ((aj gH 0).f3) ((aj gH 0).f4)).bind fun yl => (if yl = 0 then (if ((aj gH 0).f0) = 1 then (some 0) else (if ((aj gH 0).f0) = 2 then (some 0) else (some 8))) else (some yl))) else (none)) else (some 2))
def az.f : Nat → Int → Int → Int → Int → List (S27) → Option (Int)
 | 0, _, _, _, _, _ => none
 | k + 1, ak, aG, aH, aD, ag => if ak < 1 then (az.j0 k ak true ak aG aH aD ag) else (az.j0 k ak (decide (ak > 6)) ak aG aH aD ag)
end
theorem az.iU : ∀ k, (∀ y0 y1 y2 y3 y4, LeO (az.f k y0 y1 y2 y3 y4) (az.f (k + 1) y0 y1 y2 y3 y4)) ∧ (∀ y0 y1 y2 y3 y4 y5 y6, LeO (az.j0 k y0 y1 y2 y3 y4 y5 y6) (az.j0 (k + 1) y0 y1 y2 y3 y4 y5 y6)) ∧ (∀ y0 y1 y2 y3 y4 y5 y6, LeO (az.j1 k y0 y1 y2 y3 y4 y5 y6) (az.j1 (k + 1) y0 y1 y2 y3 y4 y5 y6)) ∧ (∀ y0 y1 y2 y3 y4 y5, LeO (az.j2 k y0 y1 y2 y3 y4 y5) (az.j2 (k + 1) y0 y1 y2 y3 y4 y5)) ∧ (∀ y0 y1 y2 y3 y4 y5, LeO (az.l0 k y0 y1 y2 y3 y4 y5) (az.l0 (k + 1) y0 y1 y2 y3 y4 y5)) ∧ (∀ y0 y1 y2 y3 y4 y5, LeO (az.j4 k y0 y1 y2 y3 y4 y5) (az.j4 (k + 1) y0 y1 y2 y3 y4 y5))
 | 0 => ⟨fun _ _ _ _ _ r h => by simp [az.f] at h, fun _ _ _ _ _ _ _ r h => by simp [az.j0] at h, fun _ _ _ _ _ _ _ r h => by simp [az.j1] at h, fun _ _ _ _ _ _ r h => by simp [az.j2] at h, fun _ _ _ _ _ _ r h => by simp [az.l0] at h, fun _ _ _ _ _ _ r h => by simp [az.j4] at h⟩
 | k + 1 => by
  obtain ⟨ih0, ih1, ih2, ih3, ih4, ih5⟩ := az.iU k; refine ⟨?_, ?_, ?_, ?_, ?_, ?_⟩
  ·intro y0 y1 y2 y3 y4; unfold az.f; repeat' first
   | (with_reducible exact ih0 _ _ _ _ _)
   | (with_reducible exact ih1 _ _ _ _ _ _ _)
   | (with_reducible exact ih2 _ _ _ _ _ _ _)
   | (with_reducible exact ih3 _ _ _ _ _ _)
   | (with_reducible exact ih4 _ _ _ _ _ _)
   | (with_reducible exact ih5 _ _ _ _ _ _)
   | (with_reducible exact LeO.refl _)
   | (with_reducible exact LeO.none _)
   | (with_reducible refine LeO.ite ?_ ?_)
   | (with_reducible refine LeO.bind ?_ (fun _ => ?_))
   | exact ih0 _ _ _ _ _
   | exact ih1 _ _ _ _ _ _ _
   | exact ih2 _ _ _ _ _ _ _
   | exact ih3 _ _ _ _ _ _
   | exact ih4 _ _ _ _ _ _
   | exact ih5 _ _ _ _ _ _
   | exact LeO.none _
   | refine LeO.ite ?_ ?_
   | refine LeO.bind ?_ (fun _ => ?_)
  ·intro y0 y1 y2 y3 y4 y5 y6; unfold az.j0; repeat' first
   | (with_reducible exact ih0 _ _ _ _ _)
   | (with_reducible exact ih1 _ _ _ _ _ _ _)
   | (with_reducible exact ih2 _ _ _ _ _ _ _)
   | (with_reducible exact ih3 _ _ _ _ _ _)
   | (with_reducible exact ih4 _ _ _ _ _ _)
   | (with_reducible exact ih5 _ _ _ _ _ _)
   | (with_reducible exact LeO.refl _)
   | (with_reducible exact LeO.none _)
   | (with_reducible refine LeO.ite ?_ ?_)
   | (with_reducible refine LeO.bind ?_ (fun _ => ?_))
   | exact ih0 _ _ _ _ _
   | exact ih1 _ _ _ _ _ _ _
   | exact ih2 _ _ _ _ _ _ _
   | exact ih3 _ _ _ _ _ _
   | exact ih4 _ _ _ _ _ _
   | exact ih5 _ _ _ _ _ _
   | exact LeO.none _
   | refine LeO.ite ?_ ?_
   | refine LeO.bind ?_ (fun _ => ?_)
  ·intro y0 y1 y2 y3 y4 y5 y6; unfold az.j1; repeat' first
   | (with_reducible exact ih0 _ _ _ _ _)
   | (with_reducible exact ih1 _ _ _ _ _ _ _)
   | (with_reducible exact ih2 _ _ _ _ _ _ _)
   | (with_reducible exact ih3 _ _ _ _ _ _)
   | (with_reducible exact ih4 _ _ _ _ _ _)
   | (with_reducible exact ih5 _ _ _ _ _ _)
   | (with_reducible exact LeO.refl _)
   | (with_reducible exact LeO.none _)
   | (with_reducible refine LeO.ite ?_ ?_)
   | (with_reducible refine LeO.bind ?_ (fun _ => ?_))
   | exact ih0 _ _ _ _ _
   | exact ih1 _ _ _ _ _ _ _
   | exact ih2 _ _ _ _ _ _ _
   | exact ih3 _ _ _ _ _ _
   | exact ih4 _ _ _ _ _ _
   | exact ih5 _ _ _ _ _ _
   | exact LeO.none _
   | refine LeO.ite ?_ ?_
   | refine LeO.bind ?_ (fun _ => ?_)
  ·intro y0 y1 y2 y3 y4 y5; unfold az.j2; repeat' first
   | (with_reducible exact ih0 _ _ _ _ _)
   | (with_reducible exact ih1 _ _ _ _ _ _ _)
   | (with_reducible exact ih2 _ _ _ _ _ _ _)
   | (with_reducible exact ih3 _ _ _ _ _ _)
   | (with_reducible exact ih4 _ _ _ _ _ _)
   | (with_reducible exact ih5 _ _ _ _ _ _)
   | (with_reducible exact LeO.refl _)
   | (with_reducible exact LeO.none _)
   | (with_reducible refine LeO.ite ?_ ?_)
   | (with_reducible refine LeO.bind ?_ (fun _ => ?_))
   | exact ih0 _ _ _ _ _
   | exact ih1 _ _ _ _ _ _ _
   | exact ih2 _ _ _ _ _ _ _
   | exact ih3 _ _ _ _ _ _
   | exact ih4 _ _ _ _ _ _
   | exact ih5 _ _ _ _ _ _
   | exact LeO.none _
   | refine LeO.ite ?_ ?_
   | refine LeO.bind ?_ (fun _ => ?_)
  ·intro y0 y1 y2 y3 y4 y5; unfold az.l0; repeat' first
   | (with_reducible exact ih0 _ _ _ _ _)
   | (with_reducible exact ih1 _ _ _ _ _ _ _)
   | (with_reducible exact ih2 _ _ _ _ _ _ _)
   | (with_reducible exact ih3 _ _ _ _ _ _)
   | (with_reducible exact ih4 _ _ _ _ _ _)
   | (with_reducible exact ih5 _ _ _ _ _ _)
   | (with_reducible exact LeO.refl _)
   | (with_reducible exact LeO.none _)
   | (with_reducible refine LeO.ite ?_ ?_)
   | (with_reducible refine LeO.bind ?_ (fun _ => ?_))
   | exact ih0 _ _ _ _ _
   | exact ih1 _ _ _ _ _ _ _
   | exact ih2 _ _ _ _ _ _ _
   | exact ih3 _ _ _ _ _ _
   | exact ih4 _ _ _ _ _ _
   | exact ih5 _ _ _ _ _ _
   | exact LeO.none _
   | refine LeO.ite ?_ ?_
   | refine LeO.bind ?_ (fun _ => ?_)
  ·intro y0 y1 y2 y3 y4 y5; unfold az.j4; repeat' first
   | (with_reducible exact ih0 _ _ _ _ _)
   | (with_reducible exact ih1 _ _ _ _ _ _ _)
   | (with_reducible exact ih2 _ _ _ _ _ _ _)
   | (with_reducible exact ih3 _ _ _ _ _ _)
   | (with_reducible exact ih4 _ _ _ _ _ _)
   | (with_reducible exact ih5 _ _ _ _ _ _)
   | (with_reducible exact LeO.refl _)
   | (with_reducible exact LeO.none _)
   | (with_reducible refine LeO.ite ?_ ?_)
   | (with_reducible refine LeO.bind ?_ (fun _ => ?_))
   | exact ih0 _ _ _ _ _
   | exact ih1 _ _ _ _ _ _ _
   | exact ih2 _ _ _ _ _ _ _
   | exact ih3 _ _ _ _ _ _
   | exact ih4 _ _ _ _ _ _
   | exact ih5 _ _ _ _ _ _
   | exact LeO.none _
   | refine LeO.ite ?_ ?_
   | refine LeO.bind ?_ (fun _ => ?_)
theorem az.mono : ∀ a0 a1 a2 a3 a4 k, LeO (az.f k a0 a1 a2 a3 a4) (az.f (k + 1) a0 a1 a2 a3 a4) := by
 intro a0 a1 a2 a3 a4 k; obtain ⟨ih0, ih1, ih2, ih3, ih4, ih5⟩ := az.iU k; exact ih0 a0 a1 a2 a3 a4
set_option maxHeartbeats 8000000 in
set_option maxRecDepth 100000 in
theorem az.calls (k : Nat) : ∀ (ak : Int) (aG : Int) (aH : Int) (aD : Int) (bL : Option Addr) (bF : Nat) (ag : List (S27)) (r : Int) (w : World) (gM : Kd.C k27 w bL ag.length ag) (gN : ag.length ≤ bF) (h : az.f k ak aG aH aD ag = some r),
  Calls Try.prog 36 #[.agg #[.int .i64 ak, .int .i64 aG, .int .i64 aH, .int .i64 aD, .slice bL ag.length bF]] w fun e w' => e = .returned (.int .i64 r) ∧ Below w.heap.size w w' := by
 induction k using Nat.strongRecOn with
 | _ k ih =>
 intro ak aG aH aD bL bF ag r w gM gN h; cases k with
 | zero => exact absurd h (by simp [az.f])
 | succ k =>
 simp only [az.f] at h; have rY := Try.underlying27; have dH := aa.mk gM; have fq := aa.mk gN; clear gM gN; have HB := aa.mk (Below.refl w.heap.size w); have H : (if ak < 1 then (az.j0 k ak true ak aG aH aD ag) else (az.j0 k ak (decide (ak > 6)) ak aG aH aD ag)) = some r := h; clear h; have HC2 := aa.mk H; clear H; go_enter Try.func36, Try.ntmps36; go_upto_region 2 with (first | ((with_reducible refine bu (N := 1) rfl ?_); (try (refine dx (by rfl) ?_; dsimp only)); refine bz ?hg (N := 1) ?hd (cs := #[.int .i64 ak, .int .i64 aG, .int .i64 aH, .int .i64 aD, .slice bL ag.length bF]) (t := 27) ?hr ?_; (case hd => rfl); (case hg => rfl); (case hr => first | (go_simp; done) | (go_simp; rfl)); intro MM hg w3 aU hb; have il := aa.mk (aU); have GW239 : aa (w.heap.size ≤ MM) := gw_ hg (aI bl_); have GE239 := GW239; replace HB := aa.mk (ay bl_ hb); clear hb aU hg; obtain ⟨xV, xW, xX, xY, xZ, yc, yf, yg, yh, yj⟩ := bQ il.out))
 (try simp only [Act.put, List.setIfInBounds_toArray, List.set_cons_zero, List.set_cons_succ])
 go_cut [14] (fun v14 wc => ∃ (kq : Nat) (x14_1 : Bool), v14 = .bool x14_1 ∧ aa (az.j0 kq ak x14_1 ak aG aH aD ag = some r) ∧ aa (kq ≤ k) ∧ aa (wc.heap[MM]? = some (.cells #[.int .i64 ak, .int .i64 aG, .int .i64 aH, .int .i64 aD, (.slice bL ag.length bF)] 27 (0, 0))) ∧ aa (Below w.heap.size w wc))
 case first =>
  have H := HC2.out; clear HC2; by_cases c5 : ak < 1
  ·rw [if_pos c5] at H; have uK : decide (ak < 1) = true := decide_eq_true c5; clear c5; (first | rw [uK] | (simp only [eQ, fe]; rw [uK]) | skip)
   have H' := aa.mk H; clear H; go_wp2; go_meet
   case rel => exact ⟨_, (true), rs_, H', ⟨by first | omega | exact Nat.le_refl _⟩, ⟨bk_⟩, ⟨bl_⟩⟩
  ·rw [if_neg c5] at H; have uK : decide (ak < 1) = false := decide_eq_false c5; clear c5; (first | rw [uK] | (simp only [eQ, fe]; rw [uK]) | skip)
   have H' := aa.mk H; clear H; go_wp2; go_meet
   case rel => exact ⟨_, (decide (ak > 6)), rs_, H', ⟨by first | omega | exact Nat.le_refl _⟩, ⟨bk_⟩, ⟨bl_⟩⟩
 case rest =>
  clear HC2; (try clear p2); (try clear c3); (try clear c5); (try clear uK); (try clear xV xW xX xY xZ yc yf yg yh yj); obtain ⟨kq, x14_1, rfl, HA, HJ1, il, HB⟩ := hcut; cases kq with
  | zero => exact absurd HA.out (by simp [az.j0])
  | succ kj1 =>
   have H := HA.out; clear HA; simp only [az.j0] at H; by_cases c6 : x14_1 = true
   ·subst c6; have H1 : (some 14) = some r := by rw [if_pos rfl] at H; exact H
    clear H; have H := H1; clear H1; obtain rfl := Option.some.inj H; go_wp2; go_ret; exact ⟨re_, bl_⟩
   ·replace c6 := Bool.eq_false_iff.mpr c6; subst c6; have H1 : (if ak = 2 then (if ak = 6 then (if ak < 5 then (az.j1 kj1 ak (decide ((ag.length : Int) > 0)) ak aG aH aD ag) else (az.j1 kj1 ak false ak aG aH aD ag)) else (if aD = 0 then (if ak < 5 then (az.j1 kj1 ak (decide ((ag.length : Int) > 0)) ak aG aH aD ag) else (az.j1 kj1 ak false ak aG aH aD ag)) else (az.j1 kj1 ak true ak aG aH aD ag))) else (if aG = 0 then (if aH = 0 then (if ak = 6 then (if ak < 5 then (az.j1 kj1 ak (decide ((ag.length : Int) > 0)) ak aG aH aD ag) else (az.j1 kj1 ak false ak aG aH aD ag)) else (if aD = 0 then (if ak < 5 then (az.j1 kj1 ak (decide ((ag.length : Int) > 0)) ak aG aH aD ag) else (az.j1 kj1 ak false ak aG aH aD ag)) else (az.j1 kj1 ak true ak aG aH aD ag))) else (az.j1 kj1 ak true ak aG aH aD ag)) else (az.j1 kj1 ak true ak aG aH aD ag))) = some r := by rw [if_neg (show ¬ (false = true) by decide)] at H; exact H
    clear H; have H := H1; clear H1; have HC7 := aa.mk H; clear H; go_upto_region 4 with (fail)
    go_cut [45] (fun v45 wc => ∃ (kq : Nat) (x45_6 : Bool), v45 = .bool x45_6 ∧ aa (az.j1 kq ak x45_6 ak aG aH aD ag = some r) ∧ aa (kq ≤ kj1) ∧ aa (wc.heap[MM]? = some (.cells #[.int .i64 ak, .int .i64 aG, .int .i64 aH, .int .i64 aD, (.slice bL ag.length bF)] 27 (0, 0))) ∧ aa (Below w.heap.size w wc))
    case first =>
     have H := HC7.out; clear HC7; by_cases c8 : ak = 2
     ·rw [if_pos c8] at H; have ym : (ak == 2) = true := beq_iff_eq.mpr c8; have Dx : (ak != 2) = false := bne_eq_false_iff_eq.mpr c8; clear c8; (first | rw [ym] | (simp only [eQ, fe]; rw [ym]) | skip)
      by_cases c9 : ak = 6
      ·rw [if_pos c9] at H; have Dy : (ak == 6) = true := beq_iff_eq.mpr c9; have c9b1 : (ak != 6) = false := bne_eq_false_iff_eq.mpr c9; clear c9; by_cases c10 : ak < 5
       ·rw [if_pos c10] at H; have r9 : decide (ak < 5) = true := decide_eq_true c10; clear c10; have H' := aa.mk H; clear H; obtain ⟨yZ, za, zb, ze, zf, zg, zh, zi, zk, zl⟩ := bQ il.out; go_wp2; go_meet
        case rel => exact ⟨_, (decide ((ag.length : Int) > 0)), rs_, H', ⟨by have := HJ1.out; first | omega | exact Nat.le_refl _⟩, ⟨bk_⟩, ⟨bl_⟩⟩
       ·rw [if_neg c10] at H; have r9 : decide (ak < 5) = false := decide_eq_false c10; clear c10; have H' := aa.mk H; clear H; go_wp2; go_meet
        case rel => exact ⟨_, (false), rs_, H', ⟨by have := HJ1.out; first | omega | exact Nat.le_refl _⟩, ⟨bk_⟩, ⟨bl_⟩⟩
      ·rw [if_neg c9] at H; have Dy : (ak == 6) = false := beq_eq_false_iff_ne.mpr c9; have c9b1 : (ak != 6) = true := bne_iff_ne.mpr c9; by_cases c12 : aD = 0
       ·rw [if_pos c12] at H; have uu : (aD == 0) = true := beq_iff_eq.mpr c12; have Er : (aD != 0) = false := bne_eq_false_iff_eq.mpr c12; clear c12; by_cases c13 : ak < 5
        ·rw [if_pos c13] at H; have uw : decide (ak < 5) = true := decide_eq_true c13; clear c13; have H' := aa.mk H; clear H; obtain ⟨mg, mh, mi, mo, mq, mr, mD, mE, mF, mG⟩ := bQ il.out; go_wp2; go_meet
         case rel => exact ⟨_, (decide ((ag.length : Int) > 0)), rs_, H', ⟨by have := HJ1.out; first | omega | exact Nat.le_refl _⟩, ⟨bk_⟩, ⟨bl_⟩⟩
        ·rw [if_neg c13] at H; have uw : decide (ak < 5) = false := decide_eq_false c13; clear c13; have H' := aa.mk H; clear H; obtain ⟨Dl, Dm, Dn, Dp, Dq, Dr, Dt, Du, Dv, Dw⟩ := bQ il.out; go_wp2; go_meet
         case rel => exact ⟨_, (false), rs_, H', ⟨by have := HJ1.out; first | omega | exact Nat.le_refl _⟩, ⟨bk_⟩, ⟨bl_⟩⟩
       ·rw [if_neg c12] at H; have uu : (aD == 0) = false := beq_eq_false_iff_ne.mpr c12; have Er : (aD != 0) = true := bne_iff_ne.mpr c12; have H' := aa.mk H; clear H; obtain ⟨tq, tu, tC, tF, tH, tJ, tK, tL, tN, tO⟩ := bQ il.out; go_wp2; go_meet
        case rel => exact ⟨_, (true), rs_, H', ⟨by have := HJ1.out; first | omega | exact Nat.le_refl _⟩, ⟨bk_⟩, ⟨bl_⟩⟩
     ·rw [if_neg c8] at H; have ym : (ak == 2) = false := beq_eq_false_iff_ne.mpr c8; have Dx : (ak != 2) = true := bne_iff_ne.mpr c8; (first | rw [ym] | (simp only [eQ, fe]; rw [ym]) | skip)
      by_cases c17 : aG = 0
      ·rw [if_pos c17] at H; have Es : (aG == 0) = true := beq_iff_eq.mpr c17; have PS : (aG != 0) = false := bne_eq_false_iff_eq.mpr c17; clear c17; by_cases c18 : aH = 0
       ·rw [if_pos c18] at H; have PT : (aH == 0) = true := beq_iff_eq.mpr c18; have PU : (aH != 0) = false := bne_eq_false_iff_eq.mpr c18; clear c18; by_cases c19 : ak = 6
        ·rw [if_pos c19] at H; have FB : (ak == 6) = true := beq_iff_eq.mpr c19; have FC : (ak != 6) = false := bne_eq_false_iff_eq.mpr c19; clear c19; by_cases c20 : ak < 5
         ·rw [if_pos c20] at H; have Az : decide (ak < 5) = true := decide_eq_true c20; clear c20; have H' := aa.mk H; clear H; obtain ⟨sM, sN, sO, sP, sQ, sS, sU, sV, sW, sZ⟩ := bQ il.out; go_wp2; go_meet
          case rel => exact ⟨_, (decide ((ag.length : Int) > 0)), rs_, H', ⟨by have := HJ1.out; first | omega | exact Nat.le_refl _⟩, ⟨bk_⟩, ⟨bl_⟩⟩
         ·rw [if_neg c20] at H; have Az : decide (ak < 5) = false := decide_eq_false c20; clear c20; have H' := aa.mk H; clear H; obtain ⟨uS, uT, xn, xq, xu, uU, uV, xw, xx, xy⟩ := bQ il.out; go_wp2; go_meet
          case rel => exact ⟨_, (false), rs_, H', ⟨by have := HJ1.out; first | omega | exact Nat.le_refl _⟩, ⟨bk_⟩, ⟨bl_⟩⟩
        ·rw [if_neg c19] at H; have FB : (ak == 6) = false := beq_eq_false_iff_ne.mpr c19; have FC : (ak != 6) = true := bne_iff_ne.mpr c19; by_cases c23 : aD = 0
         ·rw [if_pos c23] at H; have uH : (aD == 0) = true := beq_iff_eq.mpr c23; have Cu : (aD != 0) = false := bne_eq_false_iff_eq.mpr c23; clear c23; by_cases c24 : ak < 5
          ·rw [if_pos c24] at H; have xK : decide (ak < 5) = true := decide_eq_true c24; clear c24; have H' := aa.mk H; clear H; obtain ⟨Bj, Bl, Bn, Bo, Bp, Bq, Br, Bt, Bu, Bw⟩ := bQ il.out; go_wp2; go_meet
           case rel => exact ⟨_, (decide ((ag.length : Int) > 0)), rs_, H', ⟨by have := HJ1.out; first | omega | exact Nat.le_refl _⟩, ⟨bk_⟩, ⟨bl_⟩⟩
          ·rw [if_neg c24] at H; have xK : decide (ak < 5) = false := decide_eq_false c24; clear c24; have H' := aa.mk H; clear H; obtain ⟨Bz, BA, BB, BC, BD, BF, BG, BH, BI, BJ⟩ := bQ il.out; go_wp2; go_meet
           case rel => exact ⟨_, (false), rs_, H', ⟨by have := HJ1.out; first | omega | exact Nat.le_refl _⟩, ⟨bk_⟩, ⟨bl_⟩⟩
         ·rw [if_neg c23] at H; have uH : (aD == 0) = false := beq_eq_false_iff_ne.mpr c23; have Cu : (aD != 0) = true := bne_iff_ne.mpr c23; have H' := aa.mk H; clear H; obtain ⟨zm, zn, zo, zq, zt, zu, zw, zx, zy, zz⟩ := bQ il.out; go_wp2; go_meet
          case rel => exact ⟨_, (true), rs_, H', ⟨by have := HJ1.out; first | omega | exact Nat.le_refl _⟩, ⟨bk_⟩, ⟨bl_⟩⟩
       ·rw [if_neg c18] at H; have PT : (aH == 0) = false := beq_eq_false_iff_ne.mpr c18; have PU : (aH != 0) = true := bne_iff_ne.mpr c18; have H' := aa.mk H; clear H; obtain ⟨nK, nL, oL, oM, oN, nM, nN, oO, oP, oQ⟩ := bQ il.out; go_wp2; go_meet
        case rel => exact ⟨_, (true), rs_, H', ⟨by have := HJ1.out; first | omega | exact Nat.le_refl _⟩, ⟨bk_⟩, ⟨bl_⟩⟩
      ·rw [if_neg c17] at H; have Es : (aG == 0) = false := beq_eq_false_iff_ne.mpr c17; have PS : (aG != 0) = true := bne_iff_ne.mpr c17; have H' := aa.mk H; clear H; obtain ⟨qx, qy, wF, wG, wH, qz, qA, wI, wJ, wK⟩ := bQ il.out; go_wp2; go_meet
       case rel => exact ⟨_, (true), rs_, H', ⟨by have := HJ1.out; first | omega | exact Nat.le_refl _⟩, ⟨bk_⟩, ⟨bl_⟩⟩
    case rest =>
     clear HC7; (try clear c1); (try clear c2); (try clear p2); (try clear c3); (try clear c5); (try clear uK); (try clear c6); (try clear c8); (try clear ym); (try clear Dx); (try clear c9); (try clear Dy); (try clear c9b1); (try clear c10); (try clear r9); (try clear c12); (try clear uu); (try clear Er); (try clear c13); (try clear uw); (try clear c17); (try clear Es); (try clear PS); (try clear c18); (try clear PT); (try clear PU); (try clear c19); (try clear FB); (try clear FC); (try clear c20); (try clear Az); (try clear c23); (try clear uH); (try clear Cu); (try clear c24); (try clear xK); (try clear yZ za zb ze zf zg zh zi zk zl); (try clear mg mh mi mo mq mr mD mE mF mG); (try clear Dl Dm Dn Dp Dq Dr Dt Du Dv Dw); (try clear tq tu tC tF tH tJ tK tL tN tO); (try clear sM sN sO sP sQ sS sU sV sW sZ); (try clear uS uT xn xq xu uU uV xw xx xy); (try clear Bj Bl Bn Bo Bp Bq Br Bt Bu Bw); (try clear Bz BA BB BC BD BF BG BH BI BJ); (try clear zm zn zo zq zt zu zw zx zy zz); (try clear nK nL oL oM oN nM nN oO oP oQ); (try clear qx qy wF wG wH qz qA wI wJ wK); (try clear xV xW xX xY xZ yc yf yg yh yj); (try clear p2); obtain ⟨kq, x45_6, rfl, HA, HJ6, il, HB⟩ := hcut; cases kq with
     | zero => exact absurd HA.out (by simp [az.j1])
     | succ kj6 =>
      have H := HA.out; clear HA; simp only [az.j1] at H; by_cases c30 : x45_6 = true
      ·subst c30; have H1 : (some 2) = some r := by rw [if_pos rfl] at H; exact H
       clear H; have H := H1; clear H1; obtain rfl := Option.some.inj H; go_wp2; go_ret; exact ⟨re_, bl_⟩
      ·replace c30 := Bool.eq_false_iff.mpr c30; subst c30; have H1 : (if ak = 2 then (if aG < (-1000) then (some 1) else (if aG > aH then (some 1) else (if aH > 1000 then (some 1) else (some 0)))) else (if ak = 5 then (if (ag.length : Int) < 2 then (az.j2 kj6 true ak aG aH aD ag) else (az.j2 kj6 (decide ((ag.length : Int) > 4)) ak aG aH aD ag)) else (if ak = 6 then (if aD < 1 then (az.j4 kj6 true ak aG aH aD ag) else (az.j4 kj6 (decide (aD > 4)) ak aG aH aD ag)) else (some 0)))) = some r := by rw [if_neg (show ¬ (false = true) by decide)] at H; exact H
       clear H; have H := H1; clear H1; by_cases c31 : ak = 2
       ·rw [if_pos c31] at H; have Fx : (ak == 2) = true := beq_iff_eq.mpr c31; have KM : (ak != 2) = false := bne_eq_false_iff_eq.mpr c31; clear c31; by_cases c32 : aG < (-1000)
        ·rw [if_pos c32] at H; have c32b0 : decide (aG < (-1000)) = true := decide_eq_true c32; clear c32; obtain rfl := Option.some.inj H; obtain ⟨Jt, Ju, MN, MO, MP, Jv, Jw, MQ, MR, MS⟩ := bQ il.out; go_wp2; go_ret; exact ⟨re_, bl_⟩
        ·rw [if_neg c32] at H; have c32b0 : decide (aG < (-1000)) = false := decide_eq_false c32; clear c32; by_cases c34 : aG > aH
         ·rw [if_pos c34] at H; have KL : decide (aH < aG) = true := decide_eq_true c34; clear c34; obtain rfl := Option.some.inj H; obtain ⟨wM, wN, wO, wP, wQ, wR, wS, wT, wU, wV⟩ := bQ il.out; go_wp2; go_ret; exact ⟨re_, bl_⟩
         ·rw [if_neg c34] at H; have KL : decide (aH < aG) = false := decide_eq_false c34; clear c34; by_cases c36 : aH > 1000
          ·rw [if_pos c36] at H; have Cz : decide (1000 < aH) = true := decide_eq_true c36; clear c36; obtain rfl := Option.some.inj H; obtain ⟨yO, yP, yQ, yR, yS, yT, yU, yV, yX, yY⟩ := bQ il.out; go_wp2; go_ret; exact ⟨re_, bl_⟩
          ·rw [if_neg c36] at H; have Cz : decide (1000 < aH) = false := decide_eq_false c36; clear c36; obtain rfl := Option.some.inj H; obtain ⟨RB, RD, RF, RG, RH, RI, RJ, RL, RN, RO⟩ := bQ il.out; go_wp2; go_ret; exact ⟨re_, bl_⟩
       ·rw [if_neg c31] at H; have Fx : (ak == 2) = false := beq_eq_false_iff_ne.mpr c31; have KM : (ak != 2) = true := bne_iff_ne.mpr c31; by_cases c39 : ak = 5
        ·rw [if_pos c39] at H; have IE : (ak == 5) = true := beq_iff_eq.mpr c39; have Mt : (ak != 5) = false := bne_eq_false_iff_eq.mpr c39; clear c39; have HC40 := aa.mk H; clear H; go_upto_region 11 with (fail)
         go_cut [75] (fun v75 wc => ∃ (kq : Nat) (PV : Bool), v75 = .bool PV ∧ aa (az.j2 kq PV ak aG aH aD ag = some r) ∧ aa (kq ≤ kj6) ∧ aa (wc.heap[MM]? = some (.cells #[.int .i64 ak, .int .i64 aG, .int .i64 aH, .int .i64 aD, (.slice bL ag.length bF)] 27 (0, 0))) ∧ aa (Below w.heap.size w wc))
         case first =>
          have H := HC40.out; clear HC40; by_cases c41 : (ag.length : Int) < 2
          ·rw [if_pos c41] at H; have II : decide ((ag.length : Int) < 2) = true := decide_eq_true c41; have c41b1 : decide (ag.length < 2) = true := decide_eq_true (by omega); clear c41; (first | rw [II] | (simp only [eQ, fe]; rw [II]) | skip)
           have H' := aa.mk H; clear H; obtain ⟨C9, Da, Mi, Mj, Mk, Db, Dc, Ml, Mm, Mo⟩ := bQ il.out; go_wp2; go_meet
           case rel => exact ⟨_, (true), rs_, H', ⟨by have := HJ1.out; have := HJ6.out; first | omega | exact Nat.le_refl _⟩, ⟨bk_⟩, ⟨bl_⟩⟩
          ·rw [if_neg c41] at H; have II : decide ((ag.length : Int) < 2) = false := decide_eq_false c41; have c41b1 : decide (ag.length < 2) = false := decide_eq_false (by omega); clear c41; (first | rw [II] | (simp only [eQ, fe]; rw [II]) | skip)
           have H' := aa.mk H; clear H; obtain ⟨RP, RQ, RS, RU, RV, RX, RY, RZ, R3, R4⟩ := bQ il.out; go_wp2; go_meet
           case rel => exact ⟨_, (decide ((ag.length : Int) > 4)), rs_, H', ⟨by have := HJ1.out; have := HJ6.out; first | omega | exact Nat.le_refl _⟩, ⟨bk_⟩, ⟨bl_⟩⟩
         case rest =>
          clear HC40; (try clear c1); (try clear c2); (try clear p2); (try clear c3); (try clear c4); (try clear c5); (try clear uK); (try clear c6); (try clear c8); (try clear ym); (try clear Dx); (try clear c9); (try clear Dy); (try clear c9b1); (try clear c10); (try clear r9); (try clear c12); (try clear uu); (try clear Er); (try clear c13); (try clear uw); (try clear c17); (try clear Es); (try clear PS); (try clear c18); (try clear PT); (try clear PU); (try clear c19); (try clear FB); (try clear FC); (try clear c20); (try clear Az); (try clear c23); (try clear uH); (try clear Cu); (try clear c24); (try clear xK); (try clear c30); (try clear c31); (try clear Fx); (try clear KM); (try clear c32); (try clear c32b0); (try clear c34); (try clear KL); (try clear c36); (try clear Cz); (try clear c39); (try clear IE); (try clear Mt); (try clear c41); (try clear II); (try clear c41b1); (try clear yZ za zb ze zf zg zh zi zk zl); (try clear mg mh mi mo mq mr mD mE mF mG); (try clear Dl Dm Dn Dp Dq Dr Dt Du Dv Dw); (try clear tq tu tC tF tH tJ tK tL tN tO); (try clear sM sN sO sP sQ sS sU sV sW sZ); (try clear uS uT xn xq xu uU uV xw xx xy); (try clear Bj Bl Bn Bo Bp Bq Br Bt Bu Bw); (try clear Bz BA BB BC BD BF BG BH BI BJ); (try clear zm zn zo zq zt zu zw zx zy zz); (try clear nK nL oL oM oN nM nN oO oP oQ); (try clear qx qy wF wG wH qz qA wI wJ wK); (try clear Jt Ju MN MO MP Jv Jw MQ MR MS); (try clear wM wN wO wP wQ wR wS wT wU wV); (try clear yO yP yQ yR yS yT yU yV yX yY); (try clear RB RD RF RG RH RI RJ RL RN RO); (try clear C9 Da Mi Mj Mk Db Dc Ml Mm Mo); (try clear RP RQ RS RU RV RX RY RZ R3 R4); (try clear xV xW xX xY xZ yc yf yg yh yj); (try clear p2); obtain ⟨kq, PV, rfl, HA, HJ39, il, HB⟩ := hcut; cases kq with
          | zero => exact absurd HA.out (by simp [az.j2])
          | succ kj39 =>
           have H := HA.out; clear HA; simp only [az.j2] at H; by_cases c44 : PV = true
           ·subst c44; have H1 : (some 1) = some r := by rw [if_pos rfl] at H; exact H
            clear H; have H := H1; clear H1; obtain rfl := Option.some.inj H; go_wp2; go_ret; exact ⟨re_, bl_⟩
           ·replace c44 := Bool.eq_false_iff.mpr c44; subst c44; have H1 : (az.l0 kj39 0 ak aG aH aD ag) = some r := by rw [if_neg (show ¬ (false = true) by decide)] at H; exact H
            clear H; have H := H1; clear H1; have H' := aa.mk H; clear H; go_wp2; go_loopg [4] kj39 (fun kq v4 w' => ∃ (fM : Int), v4 = .int .i64 fM ∧ aa (az.l0 kq fM ak aG aH aD ag = some r) ∧ aa (kq ≤ kj39) ∧ aa (w'.heap[MM]? = some (.cells #[.int .i64 ak, .int .i64 aG, .int .i64 aH, .int .i64 aD, (.slice bL ag.length bF)] 27 (0, 0))) ∧ aa (Below w.heap.size w w'))
            case atStart => exact ⟨(0), rs_, H', ⟨Nat.le_refl _⟩, ⟨bk_⟩, ⟨bl_⟩⟩
            case round =>
             clear H'; (try clear c1); (try clear c2); (try clear p2); (try clear c3); (try clear c4); (try clear c5); (try clear uK); (try clear c6); (try clear c8); (try clear ym); (try clear Dx); (try clear c9); (try clear Dy); (try clear c9b1); (try clear c10); (try clear r9); (try clear c12); (try clear uu); (try clear Er); (try clear c13); (try clear uw); (try clear c17); (try clear Es); (try clear PS); (try clear c18); (try clear PT); (try clear PU); (try clear c19); (try clear FB); (try clear FC); (try clear c20); (try clear Az); (try clear c23); (try clear uH); (try clear Cu); (try clear c24); (try clear xK); (try clear c30); (try clear c31); (try clear Fx); (try clear KM); (try clear c32); (try clear c32b0); (try clear c34); (try clear KL); (try clear c36); (try clear Cz); (try clear c39); (try clear IE); (try clear Mt); (try clear c41); (try clear II); (try clear c41b1); (try clear c44); (try clear yZ za zb ze zf zg zh zi zk zl); (try clear mg mh mi mo mq mr mD mE mF mG); (try clear Dl Dm Dn Dp Dq Dr Dt Du Dv Dw); (try clear tq tu tC tF tH tJ tK tL tN tO); (try clear sM sN sO sP sQ sS sU sV sW sZ); (try clear uS uT xn xq xu uU uV xw xx xy); (try clear Bj Bl Bn Bo Bp Bq Br Bt Bu Bw); (try clear Bz BA BB BC BD BF BG BH BI BJ); (try clear zm zn zo zq zt zu zw zx zy zz); (try clear nK nL oL oM oN nM nN oO oP oQ); (try clear qx qy wF wG wH qz qA wI wJ wK); (try clear Jt Ju MN MO MP Jv Jw MQ MR MS); (try clear wM wN wO wP wQ wR wS wT wU wV); (try clear yO yP yQ yR yS yT yU yV yX yY); (try clear RB RD RF RG RH RI RJ RL RN RO); (try clear C9 Da Mi Mj Mk Db Dc Ml Mm Mo); (try clear RP RQ RS RU RV RX RY RZ R3 R4); (try clear xV xW xX xY xZ yc yf yg yh yj); (try clear p2); obtain ⟨fM, rfl, HA, HK4, il, HB⟩ := hrel; cases gk with
             | zero => exact absurd HA.out (by simp [az.l0])
             | succ k4 =>
              have H := HA.out; clear HA; simp only [az.l0] at H; by_cases c45 : fM < (ag.length : Int)
              ·rw [if_pos c45] at H; have c45b0 : decide (fM < (ag.length : Int)) = true := decide_eq_true c45; clear c45; by_cases c46 : 0 ≤ fM
               ·rw [if_pos c46] at H; have c46b0 : decide (0 ≤ fM) = true := decide_eq_true c46; clear c46; replace H := Option.bind_eq_some_iff.mp H; obtain ⟨Cy, A470, H⟩ := H; replace H : (if Cy = 0 then (if ((aj ag fM).f0) = 3 then (some 8) else (if ((aj ag fM).f0) = 4 then (some 8) else (az.l0 k4 (wrap64 (fM + 1)) ak aG aH aD ag))) else (some Cy)) = some r := H; have A47 := aa.mk A470; clear A470; by_cases c48 : Cy = 0
                ·rw [if_pos c48] at H; have c48b0 : (Cy == 0) = true := beq_iff_eq.mpr c48; have c48b1 : (Cy != 0) = false := bne_eq_false_iff_eq.mpr c48; clear c48; by_cases c49 : ((aj ag fM).f0) = 3
                 ·rw [if_pos c49] at H; have PW : (((aj ag fM).f0) == 3) = true := beq_iff_eq.mpr c49; have PX : (((aj ag fM).f0) != 3) = false := bne_eq_false_iff_eq.mpr c49; clear c49; obtain rfl := Option.some.inj H; obtain ⟨Jy, Jz, Vs, Vu, Vw, JA, JB, Vx, Vy, Vz⟩ := bQ il.out; have Aj : 0 ≤ (fM : Int) := dt_; have Ak : fM < (ag.length : Int) := dt_; obtain ⟨IJ, G9, Ha, e240, tQ, tT, tV, tX, tY, uW, uX⟩ := gQ dH.out fM Aj Ak; cases e240; replace tQ := hc_ HB tQ; replace tT := hc_ HB tT; replace tV := hc_ HB tV; replace tX := hc_ HB tX; replace tY := hc_ HB tY; have Dz := aa.mk uX; have DC := aa.mk uW; clear uX uW; replace Aj := eq_true Aj; replace Ak := eq_true Ak; go_wp2_with (first | ((with_reducible refine aZ (f := 36) rfl ?_); refine cz (some 88) rfl rfl Try.func36 (by kernel_rfl) rfl #[.agg #[.int .i64 ((aj ag fM).f0), .int .i64 ((aj ag fM).f1), .int .i64 ((aj ag fM).f2), .int .i64 ((aj ag fM).f3), .slice G9 ((aj ag fM).f4).length Ha]] rfl mp_ ?_; (with_reducible refine (ih k4 (by have := HJ1.out; have := HJ6.out; have := HJ39.out; have := HK4.out; omega) ((aj ag fM).f0) ((aj ag fM).f1) ((aj ag fM).f2) ((aj ag fM).f3) _ _ ((aj ag fM).f4) Cy _ ?aX ?aY A47.out).mono ?_); (case aX => exact cb_ (Kd.bX Dz.out HB.out)); (case aY => exact DC.out); rintro e w51 ⟨rfl, hb⟩; refine ⟨_, rfl, ?_⟩; replace il := kb_ il hb; replace HB := aa.mk (ay bl_ hb); (try clear hb); (try clear hb2); (try clear hk); (try clear hi); obtain ⟨MU, MV, R5, R6, R7, MW, MX, R8, R9, Sa⟩ := bQ il.out; have Fg : 0 ≤ (fM : Int) := dt_; have Fh : fM < (ag.length : Int) := dt_; obtain ⟨PY, A242_4, c242_4, e242, zA, zB, zC, zD, uY, BK, BL⟩ := gQ dH.out fM Fg Fh; obtain rfl : IJ = PY := (by injection e242); replace zA := hc_ HB zA; replace zB := hc_ HB zB; replace zC := hc_ HB zC; replace zD := hc_ HB zD; replace uY := hc_ HB uY; have VA := aa.mk BL; have VB := aa.mk BK; clear BL BK; replace Fg := eq_true Fg; replace Fh := eq_true Fh))
                  go_ret; exact ⟨re_, bl_⟩
                 ·rw [if_neg c49] at H; have PW : (((aj ag fM).f0) == 3) = false := beq_eq_false_iff_ne.mpr c49; have PX : (((aj ag fM).f0) != 3) = true := bne_iff_ne.mpr c49; by_cases c53 : ((aj ag fM).f0) = 4
                  ·rw [if_pos c53] at H; have c53b0 : (((aj ag fM).f0) == 4) = true := beq_iff_eq.mpr c53; have c53b1 : (((aj ag fM).f0) != 4) = false := bne_eq_false_iff_eq.mpr c53; clear c53; obtain rfl := Option.some.inj H; obtain ⟨Sb, Sc, Sd, Sg, Si, Sj, Sk, Sl, Sm, Sn⟩ := bQ il.out; have Aj : 0 ≤ (fM : Int) := dt_; have Ak : fM < (ag.length : Int) := dt_; obtain ⟨IJ, G9, Ha, e240, tQ, tT, tV, tX, tY, uW, uX⟩ := gQ dH.out fM Aj Ak; cases e240; replace tQ := hc_ HB tQ; replace tT := hc_ HB tT; replace tV := hc_ HB tV; replace tX := hc_ HB tX; replace tY := hc_ HB tY; have Dz := aa.mk uX; have DC := aa.mk uW; clear uX uW; replace Aj := eq_true Aj; replace Ak := eq_true Ak; go_wp2_with (first | ((with_reducible refine aZ (f := 36) rfl ?_); refine cz (some 88) rfl rfl Try.func36 (by kernel_rfl) rfl #[.agg #[.int .i64 ((aj ag fM).f0), .int .i64 ((aj ag fM).f1), .int .i64 ((aj ag fM).f2), .int .i64 ((aj ag fM).f3), .slice G9 ((aj ag fM).f4).length Ha]] rfl mp_ ?_; (with_reducible refine (ih k4 (by have := HJ1.out; have := HJ6.out; have := HJ39.out; have := HK4.out; omega) ((aj ag fM).f0) ((aj ag fM).f1) ((aj ag fM).f2) ((aj ag fM).f3) _ _ ((aj ag fM).f4) Cy _ ?aX ?aY A47.out).mono ?_); (case aX => exact cb_ (Kd.bX Dz.out HB.out)); (case aY => exact DC.out); rintro e w55 ⟨rfl, hb⟩; refine ⟨_, rfl, ?_⟩; replace il := kb_ il hb; replace HB := aa.mk (ay bl_ hb); (try clear hb); (try clear hb2); (try clear hk); (try clear hi); obtain ⟨hcz56_0, hcz56_1, hcz56_2, hcz56_3, hcz56_4, hfz56_0, hfz56_1, hfz56_2, hfz56_3, hfz56_4⟩ := bQ il.out; have Fg : 0 ≤ (fM : Int) := dt_; have Fh : fM < (ag.length : Int) := dt_; obtain ⟨PY, A242_4, c242_4, e242, zA, zB, zC, zD, uY, BK, BL⟩ := gQ dH.out fM Fg Fh; obtain rfl : IJ = PY := (by injection e242); replace zA := hc_ HB zA; replace zB := hc_ HB zB; replace zC := hc_ HB zC; replace zD := hc_ HB zD; replace uY := hc_ HB uY; have VA := aa.mk BL; have VB := aa.mk BK; clear BL BK; replace Fg := eq_true Fg; replace Fh := eq_true Fh; have p243 : 0 ≤ (fM : Int) := dt_; have q243 : fM < (ag.length : Int) := dt_; obtain ⟨ad243, A243_4, c243_4, e243, Gb, Gc, Gd, Gf, BM, JC, JD⟩ := gQ dH.out fM p243 q243; obtain rfl : IJ = ad243 := (by injection e243); replace Gb := hc_ HB Gb; replace Gc := hc_ HB Gc; replace Gd := hc_ HB Gd; replace Gf := hc_ HB Gf; replace BM := hc_ HB BM; have HR243_4 := aa.mk JD; have HC243_4 := aa.mk JC; clear JD JC; replace p243 := eq_true p243; replace q243 := eq_true q243; have ea_ := Option.some.inj (uY.symm.trans BM); injection ea_ with ea_ en_ ec_; subst ea_; subst ec_; clear en_))
                   go_ret; exact ⟨re_, bl_⟩
                  ·rw [if_neg c53] at H; have c53b0 : (((aj ag fM).f0) == 4) = false := beq_eq_false_iff_ne.mpr c53; have c53b1 : (((aj ag fM).f0) != 4) = true := bne_iff_ne.mpr c53; have H' := aa.mk H; clear H; obtain ⟨MZ, M0, M3, M4, M5, M6, M7, M8, M9, Na⟩ := bQ il.out; have Aj : 0 ≤ (fM : Int) := dt_; have Ak : fM < (ag.length : Int) := dt_; obtain ⟨IJ, G9, Ha, e240, tQ, tT, tV, tX, tY, uW, uX⟩ := gQ dH.out fM Aj Ak; cases e240; replace tQ := hc_ HB tQ; replace tT := hc_ HB tT; replace tV := hc_ HB tV; replace tX := hc_ HB tX; replace tY := hc_ HB tY; have Dz := aa.mk uX; have DC := aa.mk uW; clear uX uW; replace Aj := eq_true Aj; replace Ak := eq_true Ak; go_wp2_with (first | ((with_reducible refine aZ (f := 36) rfl ?_); refine cz (some 88) rfl rfl Try.func36 (by kernel_rfl) rfl #[.agg #[.int .i64 ((aj ag fM).f0), .int .i64 ((aj ag fM).f1), .int .i64 ((aj ag fM).f2), .int .i64 ((aj ag fM).f3), .slice G9 ((aj ag fM).f4).length Ha]] rfl mp_ ?_; (with_reducible refine (ih k4 (by have := HJ1.out; have := HJ6.out; have := HJ39.out; have := HK4.out; omega) ((aj ag fM).f0) ((aj ag fM).f1) ((aj ag fM).f2) ((aj ag fM).f3) _ _ ((aj ag fM).f4) Cy _ ?aX ?aY A47.out).mono ?_); (case aX => exact cb_ (Kd.bX Dz.out HB.out)); (case aY => exact DC.out); rintro e w58 ⟨rfl, hb⟩; refine ⟨_, rfl, ?_⟩; replace il := kb_ il hb; replace HB := aa.mk (ay bl_ hb); (try clear hb); (try clear hb2); (try clear hk); (try clear hi); obtain ⟨Nb, Nc, Nf, Ng, Nh, Nl, Nn, Np, Nq, Nr⟩ := bQ il.out; have Fg : 0 ≤ (fM : Int) := dt_; have Fh : fM < (ag.length : Int) := dt_; obtain ⟨PY, A242_4, c242_4, e242, zA, zB, zC, zD, uY, BK, BL⟩ := gQ dH.out fM Fg Fh; obtain rfl : IJ = PY := (by injection e242); replace zA := hc_ HB zA; replace zB := hc_ HB zB; replace zC := hc_ HB zC; replace zD := hc_ HB zD; replace uY := hc_ HB uY; have VA := aa.mk BL; have VB := aa.mk BK; clear BL BK; replace Fg := eq_true Fg; replace Fh := eq_true Fh; have p243 : 0 ≤ (fM : Int) := dt_; have q243 : fM < (ag.length : Int) := dt_; obtain ⟨ad243, A243_4, c243_4, e243, Gb, Gc, Gd, Gf, BM, JC, JD⟩ := gQ dH.out fM p243 q243; obtain rfl : IJ = ad243 := (by injection e243); replace Gb := hc_ HB Gb; replace Gc := hc_ HB Gc; replace Gd := hc_ HB Gd; replace Gf := hc_ HB Gf; replace BM := hc_ HB BM; have HR243_4 := aa.mk JD; have HC243_4 := aa.mk JC; clear JD JC; replace p243 := eq_true p243; replace q243 := eq_true q243; have ea_ := Option.some.inj (uY.symm.trans BM); injection ea_ with ea_ en_ ec_; subst ea_; subst ec_; clear en_))
                   go_roundg k4
                   case measure => have := HJ1.out; have := HJ6.out; have := HJ39.out; have := HK4.out; omega
                   case rel => exact ⟨(wrap64 (fM + 1)), rs_, H', ⟨by have := HJ1.out; have := HJ6.out; have := HJ39.out; have := HK4.out; omega⟩, ⟨bk_⟩, ⟨bl_⟩⟩
                ·rw [if_neg c48] at H; have c48b0 : (Cy == 0) = false := beq_eq_false_iff_ne.mpr c48; have c48b1 : (Cy != 0) = true := bne_iff_ne.mpr c48; obtain rfl := Option.some.inj H; obtain ⟨hcz60_0, hcz60_1, hcz60_2, hcz60_3, hcz60_4, hfz60_0, hfz60_1, hfz60_2, hfz60_3, hfz60_4⟩ := bQ il.out; have Aj : 0 ≤ (fM : Int) := dt_; have Ak : fM < (ag.length : Int) := dt_; obtain ⟨IJ, G9, Ha, e240, tQ, tT, tV, tX, tY, uW, uX⟩ := gQ dH.out fM Aj Ak; cases e240; replace tQ := hc_ HB tQ; replace tT := hc_ HB tT; replace tV := hc_ HB tV; replace tX := hc_ HB tX; replace tY := hc_ HB tY; have Dz := aa.mk uX; have DC := aa.mk uW; clear uX uW; replace Aj := eq_true Aj; replace Ak := eq_true Ak; go_wp2_with (first | ((with_reducible refine aZ (f := 36) rfl ?_); refine cz (some 88) rfl rfl Try.func36 (by kernel_rfl) rfl #[.agg #[.int .i64 ((aj ag fM).f0), .int .i64 ((aj ag fM).f1), .int .i64 ((aj ag fM).f2), .int .i64 ((aj ag fM).f3), .slice G9 ((aj ag fM).f4).length Ha]] rfl mp_ ?_; (with_reducible refine (ih k4 (by have := HJ1.out; have := HJ6.out; have := HJ39.out; have := HK4.out; omega) ((aj ag fM).f0) ((aj ag fM).f1) ((aj ag fM).f2) ((aj ag fM).f3) _ _ ((aj ag fM).f4) Cy _ ?aX ?aY A47.out).mono ?_); (case aX => exact cb_ (Kd.bX Dz.out HB.out)); (case aY => exact DC.out); rintro e w61 ⟨rfl, hb⟩; refine ⟨_, rfl, ?_⟩; replace il := kb_ il hb; replace HB := aa.mk (ay bl_ hb); (try clear hb); (try clear hb2); (try clear hk); (try clear hi)))
                 go_ret; exact ⟨re_, bl_⟩
               ·rw [if_neg c46] at H; exact absurd H (by simp)
              ·rw [if_neg c45] at H; have c45b0 : decide (fM < (ag.length : Int)) = false := decide_eq_false c45; clear c45; obtain rfl := Option.some.inj H; obtain ⟨Df, Dg, Sq, Sr, Su, Dh, Di, Sv, Sw, Sy⟩ := bQ il.out; go_wp2; go_ret; exact ⟨re_, bl_⟩
        ·rw [if_neg c39] at H; have IE : (ak == 5) = false := beq_eq_false_iff_ne.mpr c39; have Mt : (ak != 5) = true := bne_iff_ne.mpr c39; by_cases c63 : ak = 6
         ·rw [if_pos c63] at H; have Pt : (ak == 6) = true := beq_iff_eq.mpr c63; have Pv : (ak != 6) = false := bne_eq_false_iff_eq.mpr c63; clear c63; have HC64 := aa.mk H; clear H; go_upto_region 22 with (fail)
          go_cut [117] (fun v117 wc => ∃ (kq : Nat) (Ns : Bool), v117 = .bool Ns ∧ aa (az.j4 kq Ns ak aG aH aD ag = some r) ∧ aa (kq ≤ kj6) ∧ aa (wc.heap[MM]? = some (.cells #[.int .i64 ak, .int .i64 aG, .int .i64 aH, .int .i64 aD, (.slice bL ag.length bF)] 27 (0, 0))) ∧ aa (Below w.heap.size w wc))
          case first =>
           have H := HC64.out; clear HC64; by_cases c65 : aD < 1
           ·rw [if_pos c65] at H; have Nt : decide (aD < 1) = true := decide_eq_true c65; clear c65; (first | rw [Nt] | (simp only [eQ, fe]; rw [Nt]) | skip)
            have H' := aa.mk H; clear H; obtain ⟨JE, JF, Sz, SA, SB, JG, JH, SC, SE, SF⟩ := bQ il.out; go_wp2; go_meet
            case rel => exact ⟨_, (true), rs_, H', ⟨by have := HJ1.out; have := HJ6.out; first | omega | exact Nat.le_refl _⟩, ⟨bk_⟩, ⟨bl_⟩⟩
           ·rw [if_neg c65] at H; have Nt : decide (aD < 1) = false := decide_eq_false c65; clear c65; (first | rw [Nt] | (simp only [eQ, fe]; rw [Nt]) | skip)
            have H' := aa.mk H; clear H; obtain ⟨VC, VD, VE, VF, VG, VH, VI, VJ, VK, VL⟩ := bQ il.out; go_wp2; go_meet
            case rel => exact ⟨_, (decide (aD > 4)), rs_, H', ⟨by have := HJ1.out; have := HJ6.out; first | omega | exact Nat.le_refl _⟩, ⟨bk_⟩, ⟨bl_⟩⟩
          case rest =>
           clear HC64; (try clear c1); (try clear c2); (try clear p2); (try clear q2); (try clear hx2); (try clear c3); (try clear c4); (try clear c5); (try clear uK); (try clear c6); (try clear p6); (try clear c8); (try clear ym); (try clear Dx); (try clear c9); (try clear Dy); (try clear c9b1); (try clear c10); (try clear r9); (try clear c12); (try clear uu); (try clear Er); (try clear c13); (try clear uw); (try clear c17); (try clear Es); (try clear PS); (try clear c18); (try clear PT); (try clear PU); (try clear c19); (try clear FB); (try clear FC); (try clear c20); (try clear Az); (try clear c23); (try clear uH); (try clear Cu); (try clear c24); (try clear xK); (try clear p24); (try clear q24); (try clear hx24); (try clear c30); (try clear c31); (try clear Fx); (try clear KM); (try clear c32); (try clear c32b0); (try clear c34); (try clear KL); (try clear c36); (try clear Cz); (try clear c39); (try clear IE); (try clear Mt); (try clear c41); (try clear II); (try clear c41b1); (try clear c44); (try clear c45); (try clear c45b0); (try clear c46); (try clear c46b0); (try clear c48); (try clear c48b0); (try clear c48b1); (try clear c49); (try clear PW); (try clear PX); (try clear c53); (try clear c53b0); (try clear c53b1); (try clear c63); (try clear Pt); (try clear Pv); (try clear p64); (try clear c65); (try clear Nt); (try clear yZ za zb ze zf zg zh zi zk zl); (try clear mg mh mi mo mq mr mD mE mF mG); (try clear Dl Dm Dn Dp Dq Dr Dt Du Dv Dw); (try clear tq tu tC tF tH tJ tK tL tN tO); (try clear sM sN sO sP sQ sS sU sV sW sZ); (try clear uS uT xn xq xu uU uV xw xx xy); (try clear Bj Bl Bn Bo Bp Bq Br Bt Bu Bw); (try clear Bz BA BB BC BD BF BG BH BI BJ); (try clear zm zn zo zq zt zu zw zx zy zz); (try clear nK nL oL oM oN nM nN oO oP oQ); (try clear qx qy wF wG wH qz qA wI wJ wK); (try clear Jt Ju MN MO MP Jv Jw MQ MR MS); (try clear wM wN wO wP wQ wR wS wT wU wV); (try clear yO yP yQ yR yS yT yU yV yX yY); (try clear RB RD RF RG RH RI RJ RL RN RO); (try clear C9 Da Mi Mj Mk Db Dc Ml Mm Mo); (try clear RP RQ RS RU RV RX RY RZ R3 R4)
           (try clear xV xW xX xY xZ yc yf yg yh yj); (try clear Jy Jz Vs Vu Vw JA JB Vx Vy Vz); (try clear MU MV R5 R6 R7 MW MX R8 R9 Sa); (try clear Sb Sc Sd Sg Si Sj Sk Sl Sm Sn); (try clear hcz56_0 hcz56_1 hcz56_2 hcz56_3 hcz56_4 hfz56_0 hfz56_1 hfz56_2 hfz56_3 hfz56_4); (try clear MZ M0 M3 M4 M5 M6 M7 M8 M9 Na); (try clear Nb Nc Nf Ng Nh Nl Nn Np Nq Nr); (try clear hcz60_0 hcz60_1 hcz60_2 hcz60_3 hcz60_4 hfz60_0 hfz60_1 hfz60_2 hfz60_3 hfz60_4); (try clear Df Dg Sq Sr Su Dh Di Sv Sw Sy); (try clear JE JF Sz SA SB JG JH SC SE SF); (try clear VC VD VE VF VG VH VI VJ VK VL); (try clear tQ); (try clear tT); (try clear tV); (try clear tX); (try clear tY); (try clear zA); (try clear zB); (try clear zC); (try clear zD); (try clear uY); (try clear Gb); (try clear Gc); (try clear Gd); (try clear Gf); (try clear BM); (try clear p2); (try clear Aj); (try clear Fg); (try clear p243); (try clear Ak); (try clear Fh); (try clear q243); obtain ⟨kq, Ns, rfl, HA, HJ63, il, HB⟩ := hcut; cases kq with
           | zero => exact absurd HA.out (by simp [az.j4])
           | succ kj63 =>
            have H := HA.out; clear HA; simp only [az.j4] at H; by_cases c68 : Ns = true
            ·subst c68; have H1 : (some 1) = some r := by rw [if_pos rfl] at H; exact H
             clear H; have H := H1; clear H1; obtain rfl := Option.some.inj H; go_wp2; go_ret; exact ⟨re_, bl_⟩
            ·replace c68 := Bool.eq_false_iff.mpr c68; subst c68; have H1 : (if (ag.length : Int) = 1 then (if 0 < (ag.length : Int) then ((az.f kj63 ((aj ag 0).f0) ((aj ag 0).f1) ((aj ag 0).f2) ((aj ag 0).f3) ((aj ag 0).f4)).bind fun yl => (if yl = 0 then (if ((aj ag 0).f0) = 1 then (some 0) else (if ((aj ag 0).f0) = 2 then (some 0) else (some 8))) else (some yl))) else (none)) else (some 2)) = some r := by rw [if_neg (show ¬ (false = true) by decide)] at H; exact H
             clear H; have H := H1; clear H1; by_cases c69 : (ag.length : Int) = 1
             ·rw [if_pos c69] at H; have IK : ((ag.length : Int) == 1) = true := beq_iff_eq.mpr c69; have c69b1 : ((ag.length : Int) != 1) = false := bne_eq_false_iff_eq.mpr c69; clear c69; by_cases c70 : 0 < (ag.length : Int)
              ·rw [if_pos c70] at H; have c70b0 : decide (0 < (ag.length : Int)) = true := decide_eq_true c70; have c70b1 : decide (0 < ag.length) = true := decide_eq_true (by omega); clear c70; replace H := Option.bind_eq_some_iff.mp H; obtain ⟨yl, A710, H⟩ := H; replace H : (if yl = 0 then (if ((aj ag 0).f0) = 1 then (some 0) else (if ((aj ag 0).f0) = 2 then (some 0) else (some 8))) else (some yl)) = some r := H; have A71 := aa.mk A710; clear A710; by_cases c72 : yl = 0
               ·rw [if_pos c72] at H; have c72b0 : (yl == 0) = true := beq_iff_eq.mpr c72; have c72b1 : (yl != 0) = false := bne_eq_false_iff_eq.mpr c72; clear c72; by_cases c73 : ((aj ag 0).f0) = 1
                ·rw [if_pos c73] at H; have c73b0 : (((aj ag 0).f0) == 1) = true := beq_iff_eq.mpr c73; have c73b1 : (((aj ag 0).f0) != 1) = false := bne_eq_false_iff_eq.mpr c73; clear c73; obtain rfl := Option.some.inj H; obtain ⟨hcz74_0, hcz74_1, hcz74_2, hcz74_3, hcz74_4, hfz74_0, hfz74_1, hfz74_2, hfz74_3, hfz74_4⟩ := bQ il.out; have AV : 0 ≤ (0 : Int) := (by omega); have AX : 0 < (ag.length : Int) := dt_; obtain ⟨IL, Hd, He, e244, o5, o6, o7, o8, o9, uZ, u6⟩ := gQ dH.out 0 AV AX; cases e244; have qi244 : (0 < ag.length) = True := eq_true (by omega); (try simp only [z0_, Nat.zero_mul, Addr.add_zero'] at o5 o6 o7 o8 o9)
                 replace o5 := hc_ HB o5; replace o6 := hc_ HB o6; replace o7 := hc_ HB o7; replace o8 := hc_ HB o8; replace o9 := hc_ HB o9; have DD := aa.mk u6; have DF := aa.mk uZ; clear u6 uZ; replace AV := eq_true AV; replace AX := eq_true AX; go_wp2_with (first | ((with_reducible refine aZ (f := 36) rfl ?_); refine cz (some 126) rfl rfl Try.func36 (by kernel_rfl) rfl #[.agg #[.int .i64 ((aj ag 0).f0), .int .i64 ((aj ag 0).f1), .int .i64 ((aj ag 0).f2), .int .i64 ((aj ag 0).f3), .slice Hd ((aj ag 0).f4).length He]] rfl mp_ ?_; (with_reducible refine (ih kj63 (by have := HJ1.out; have := HJ6.out; have := HJ63.out; omega) ((aj ag 0).f0) ((aj ag 0).f1) ((aj ag 0).f2) ((aj ag 0).f3) _ _ ((aj ag 0).f4) yl _ ?aX ?aY A71.out).mono ?_); (case aX => exact cb_ (Kd.bX DD.out HB.out)); (case aY => exact DF.out); rintro e w75 ⟨rfl, hb⟩; refine ⟨_, rfl, ?_⟩; replace il := kb_ il hb; replace HB := aa.mk (ay bl_ hb); (try clear hb); (try clear hb2); (try clear hk); (try clear hi); obtain ⟨hcz76_0, hcz76_1, hcz76_2, hcz76_3, hcz76_4, hfz76_0, hfz76_1, hfz76_2, hfz76_3, hfz76_4⟩ := bQ il.out; have Hf : 0 ≤ (0 : Int) := (by omega); have Hg : 0 < (ag.length : Int) := dt_; obtain ⟨PZ, A246_4, c246_4, e246, u7, vk, vo, vv, rT, BN, BO⟩ := gQ dH.out 0 Hf Hg; obtain rfl : IL = PZ := (by injection e246); have qi246 : (0 < ag.length) = True := eq_true (by omega); (try simp only [z0_, Nat.zero_mul, Addr.add_zero'] at u7); (try simp only [z0_, Nat.zero_mul, Addr.add_zero'] at vk); (try simp only [z0_, Nat.zero_mul, Addr.add_zero'] at vo); (try simp only [z0_, Nat.zero_mul, Addr.add_zero'] at vv); (try simp only [z0_, Nat.zero_mul, Addr.add_zero'] at rT); replace u7 := hc_ HB u7; replace vk := hc_ HB vk; replace vo := hc_ HB vo; replace vv := hc_ HB vv; replace rT := hc_ HB rT; have VM := aa.mk BO; have VN := aa.mk BN; clear BO BN; replace Hf := eq_true Hf; replace Hg := eq_true Hg))
                 go_ret; exact ⟨re_, bl_⟩
                ·rw [if_neg c73] at H; have c73b0 : (((aj ag 0).f0) == 1) = false := beq_eq_false_iff_ne.mpr c73; have c73b1 : (((aj ag 0).f0) != 1) = true := bne_iff_ne.mpr c73; by_cases c77 : ((aj ag 0).f0) = 2
                 ·rw [if_pos c77] at H; have c77b0 : (((aj ag 0).f0) == 2) = true := beq_iff_eq.mpr c77; have c77b1 : (((aj ag 0).f0) != 2) = false := bne_eq_false_iff_eq.mpr c77; clear c77; obtain rfl := Option.some.inj H; obtain ⟨VO, VP, hcz78_2, hcz78_3, hcz78_4, VQ, VR, hfz78_2, hfz78_3, hfz78_4⟩ := bQ il.out; have AV : 0 ≤ (0 : Int) := (by omega); have AX : 0 < (ag.length : Int) := dt_; obtain ⟨IL, Hd, He, e244, o5, o6, o7, o8, o9, uZ, u6⟩ := gQ dH.out 0 AV AX; cases e244; have qi244 : (0 < ag.length) = True := eq_true (by omega); (try simp only [z0_, Nat.zero_mul, Addr.add_zero'] at o5 o6 o7 o8 o9)
                  replace o5 := hc_ HB o5; replace o6 := hc_ HB o6; replace o7 := hc_ HB o7; replace o8 := hc_ HB o8; replace o9 := hc_ HB o9; have DD := aa.mk u6; have DF := aa.mk uZ; clear u6 uZ; replace AV := eq_true AV; replace AX := eq_true AX; go_wp2_with (first | ((with_reducible refine aZ (f := 36) rfl ?_); refine cz (some 126) rfl rfl Try.func36 (by kernel_rfl) rfl #[.agg #[.int .i64 ((aj ag 0).f0), .int .i64 ((aj ag 0).f1), .int .i64 ((aj ag 0).f2), .int .i64 ((aj ag 0).f3), .slice Hd ((aj ag 0).f4).length He]] rfl mp_ ?_; (with_reducible refine (ih kj63 (by have := HJ1.out; have := HJ6.out; have := HJ63.out; omega) ((aj ag 0).f0) ((aj ag 0).f1) ((aj ag 0).f2) ((aj ag 0).f3) _ _ ((aj ag 0).f4) yl _ ?aX ?aY A71.out).mono ?_); (case aX => exact cb_ (Kd.bX DD.out HB.out)); (case aY => exact DF.out); rintro e w79 ⟨rfl, hb⟩; refine ⟨_, rfl, ?_⟩; replace il := kb_ il hb; replace HB := aa.mk (ay bl_ hb); (try clear hb); (try clear hb2); (try clear hk); (try clear hi); obtain ⟨VS, VT, hcz80_2, hcz80_3, hcz80_4, VU, VV, hfz80_2, hfz80_3, hfz80_4⟩ := bQ il.out; have Hf : 0 ≤ (0 : Int) := (by omega); have Hg : 0 < (ag.length : Int) := dt_; obtain ⟨PZ, A246_4, c246_4, e246, u7, vk, vo, vv, rT, BN, BO⟩ := gQ dH.out 0 Hf Hg; obtain rfl : IL = PZ := (by injection e246); have qi246 : (0 < ag.length) = True := eq_true (by omega); (try simp only [z0_, Nat.zero_mul, Addr.add_zero'] at u7); (try simp only [z0_, Nat.zero_mul, Addr.add_zero'] at vk); (try simp only [z0_, Nat.zero_mul, Addr.add_zero'] at vo); (try simp only [z0_, Nat.zero_mul, Addr.add_zero'] at vv); (try simp only [z0_, Nat.zero_mul, Addr.add_zero'] at rT); replace u7 := hc_ HB u7; replace vk := hc_ HB vk; replace vo := hc_ HB vo; replace vv := hc_ HB vv; replace rT := hc_ HB rT; have VM := aa.mk BO; have VN := aa.mk BN; clear BO BN; replace Hf := eq_true Hf; replace Hg := eq_true Hg; have p247 : 0 ≤ (0 : Int) := (by omega); have q247 : 0 < (ag.length : Int) := dt_; obtain ⟨ad247, A247_4, c247_4, e247, DI, DJ, DK, DL, zF, JI, JJ⟩ := gQ dH.out 0 p247 q247; obtain rfl : IL = ad247 := (by injection e247); have qi247 : (0 < ag.length) = True := eq_true (by omega); (try simp only [z0_, Nat.zero_mul, Addr.add_zero'] at DI); (try simp only [z0_, Nat.zero_mul, Addr.add_zero'] at DJ); (try simp only [z0_, Nat.zero_mul, Addr.add_zero'] at DK); (try simp only [z0_, Nat.zero_mul, Addr.add_zero'] at DL); (try simp only [z0_, Nat.zero_mul, Addr.add_zero'] at zF); replace DI := hc_ HB DI; replace DJ := hc_ HB DJ; replace DK := hc_ HB DK; replace DL := hc_ HB DL; replace zF := hc_ HB zF; have HR247_4 := aa.mk JJ; have HC247_4 := aa.mk JI; clear JJ JI; replace p247 := eq_true p247; replace q247 := eq_true q247; have ea_ := Option.some.inj (rT.symm.trans zF); injection ea_ with ea_ en_ ec_; subst ea_; subst ec_; clear en_))
                  go_ret; exact ⟨re_, bl_⟩
                 ·rw [if_neg c77] at H; have c77b0 : (((aj ag 0).f0) == 2) = false := beq_eq_false_iff_ne.mpr c77; have c77b1 : (((aj ag 0).f0) != 2) = true := bne_iff_ne.mpr c77; obtain rfl := Option.some.inj H; obtain ⟨hcz81_0, hcz81_1, hcz81_2, hcz81_3, hcz81_4, hfz81_0, hfz81_1, hfz81_2, hfz81_3, hfz81_4⟩ := bQ il.out; have AV : 0 ≤ (0 : Int) := (by omega); have AX : 0 < (ag.length : Int) := dt_; obtain ⟨IL, Hd, He, e244, o5, o6, o7, o8, o9, uZ, u6⟩ := gQ dH.out 0 AV AX; cases e244; have qi244 : (0 < ag.length) = True := eq_true (by omega); (try simp only [z0_, Nat.zero_mul, Addr.add_zero'] at o5 o6 o7 o8 o9)
                  replace o5 := hc_ HB o5; replace o6 := hc_ HB o6; replace o7 := hc_ HB o7; replace o8 := hc_ HB o8; replace o9 := hc_ HB o9; have DD := aa.mk u6; have DF := aa.mk uZ; clear u6 uZ; replace AV := eq_true AV; replace AX := eq_true AX; go_wp2_with (first | ((with_reducible refine aZ (f := 36) rfl ?_); refine cz (some 126) rfl rfl Try.func36 (by kernel_rfl) rfl #[.agg #[.int .i64 ((aj ag 0).f0), .int .i64 ((aj ag 0).f1), .int .i64 ((aj ag 0).f2), .int .i64 ((aj ag 0).f3), .slice Hd ((aj ag 0).f4).length He]] rfl mp_ ?_; (with_reducible refine (ih kj63 (by have := HJ1.out; have := HJ6.out; have := HJ63.out; omega) ((aj ag 0).f0) ((aj ag 0).f1) ((aj ag 0).f2) ((aj ag 0).f3) _ _ ((aj ag 0).f4) yl _ ?aX ?aY A71.out).mono ?_); (case aX => exact cb_ (Kd.bX DD.out HB.out)); (case aY => exact DF.out); rintro e w82 ⟨rfl, hb⟩; refine ⟨_, rfl, ?_⟩; replace il := kb_ il hb; replace HB := aa.mk (ay bl_ hb); (try clear hb); (try clear hb2); (try clear hk); (try clear hi); obtain ⟨VW, VX, hcz83_2, hcz83_3, hcz83_4, VY, VZ, hfz83_2, hfz83_3, hfz83_4⟩ := bQ il.out; have Hf : 0 ≤ (0 : Int) := (by omega); have Hg : 0 < (ag.length : Int) := dt_; obtain ⟨PZ, A246_4, c246_4, e246, u7, vk, vo, vv, rT, BN, BO⟩ := gQ dH.out 0 Hf Hg; obtain rfl : IL = PZ := (by injection e246); have qi246 : (0 < ag.length) = True := eq_true (by omega); (try simp only [z0_, Nat.zero_mul, Addr.add_zero'] at u7); (try simp only [z0_, Nat.zero_mul, Addr.add_zero'] at vk); (try simp only [z0_, Nat.zero_mul, Addr.add_zero'] at vo); (try simp only [z0_, Nat.zero_mul, Addr.add_zero'] at vv); (try simp only [z0_, Nat.zero_mul, Addr.add_zero'] at rT); replace u7 := hc_ HB u7; replace vk := hc_ HB vk; replace vo := hc_ HB vo; replace vv := hc_ HB vv; replace rT := hc_ HB rT; have VM := aa.mk BO; have VN := aa.mk BN; clear BO BN; replace Hf := eq_true Hf; replace Hg := eq_true Hg; have p247 : 0 ≤ (0 : Int) := (by omega); have q247 : 0 < (ag.length : Int) := dt_; obtain ⟨ad247, A247_4, c247_4, e247, DI, DJ, DK, DL, zF, JI, JJ⟩ := gQ dH.out 0 p247 q247; obtain rfl : IL = ad247 := (by injection e247); have qi247 : (0 < ag.length) = True := eq_true (by omega); (try simp only [z0_, Nat.zero_mul, Addr.add_zero'] at DI); (try simp only [z0_, Nat.zero_mul, Addr.add_zero'] at DJ); (try simp only [z0_, Nat.zero_mul, Addr.add_zero'] at DK); (try simp only [z0_, Nat.zero_mul, Addr.add_zero'] at DL); (try simp only [z0_, Nat.zero_mul, Addr.add_zero'] at zF); replace DI := hc_ HB DI; replace DJ := hc_ HB DJ; replace DK := hc_ HB DK; replace DL := hc_ HB DL; replace zF := hc_ HB zF; have HR247_4 := aa.mk JJ; have HC247_4 := aa.mk JI; clear JJ JI; replace p247 := eq_true p247; replace q247 := eq_true q247; have ea_ := Option.some.inj (rT.symm.trans zF); injection ea_ with ea_ en_ ec_; subst ea_; subst ec_; clear en_))
                  go_ret; exact ⟨re_, bl_⟩
               ·rw [if_neg c72] at H; have c72b0 : (yl == 0) = false := beq_eq_false_iff_ne.mpr c72; have c72b1 : (yl != 0) = true := bne_iff_ne.mpr c72; obtain rfl := Option.some.inj H; obtain ⟨hcz84_0, hcz84_1, hcz84_2, hcz84_3, hcz84_4, hfz84_0, hfz84_1, hfz84_2, hfz84_3, hfz84_4⟩ := bQ il.out; have AV : 0 ≤ (0 : Int) := (by omega); have AX : 0 < (ag.length : Int) := dt_; obtain ⟨IL, Hd, He, e244, o5, o6, o7, o8, o9, uZ, u6⟩ := gQ dH.out 0 AV AX; cases e244; have qi244 : (0 < ag.length) = True := eq_true (by omega); (try simp only [z0_, Nat.zero_mul, Addr.add_zero'] at o5 o6 o7 o8 o9)
                replace o5 := hc_ HB o5; replace o6 := hc_ HB o6; replace o7 := hc_ HB o7; replace o8 := hc_ HB o8; replace o9 := hc_ HB o9; have DD := aa.mk u6; have DF := aa.mk uZ; clear u6 uZ; replace AV := eq_true AV; replace AX := eq_true AX; go_wp2_with (first | ((with_reducible refine aZ (f := 36) rfl ?_); refine cz (some 126) rfl rfl Try.func36 (by kernel_rfl) rfl #[.agg #[.int .i64 ((aj ag 0).f0), .int .i64 ((aj ag 0).f1), .int .i64 ((aj ag 0).f2), .int .i64 ((aj ag 0).f3), .slice Hd ((aj ag 0).f4).length He]] rfl mp_ ?_; (with_reducible refine (ih kj63 (by have := HJ1.out; have := HJ6.out; have := HJ63.out; omega) ((aj ag 0).f0) ((aj ag 0).f1) ((aj ag 0).f2) ((aj ag 0).f3) _ _ ((aj ag 0).f4) yl _ ?aX ?aY A71.out).mono ?_); (case aX => exact cb_ (Kd.bX DD.out HB.out)); (case aY => exact DF.out); rintro e w85 ⟨rfl, hb⟩; refine ⟨_, rfl, ?_⟩; replace il := kb_ il hb; replace HB := aa.mk (ay bl_ hb); (try clear hb); (try clear hb2); (try clear hk); (try clear hi)))
                go_ret; exact ⟨re_, bl_⟩
              ·rw [if_neg c70] at H; exact absurd H (by simp)
             ·rw [if_neg c69] at H; have IK : ((ag.length : Int) == 1) = false := beq_eq_false_iff_ne.mpr c69; have c69b1 : ((ag.length : Int) != 1) = true := bne_iff_ne.mpr c69; obtain rfl := Option.some.inj H; obtain ⟨hcz86_0, hcz86_1, hcz86_2, hcz86_3, hcz86_4, hfz86_0, hfz86_1, hfz86_2, hfz86_3, hfz86_4⟩ := bQ il.out; go_wp2; go_ret; exact ⟨re_, bl_⟩
         ·rw [if_neg c63] at H; have Pt : (ak == 6) = false := beq_eq_false_iff_ne.mpr c63; have Pv : (ak != 6) = true := bne_iff_ne.mpr c63; obtain rfl := Option.some.inj H; go_wp2; go_ret; exact ⟨re_, bl_⟩

end Go.Proofs.Ytggelekooacmnaa.Z
namespace Go.Proofs.Ytggelekooacmnaa.Z
open Go.RowKit Go.Proofs.YtggelekooacmnaaW.bM Go.Proofs.YtggelekooacmnaaW.dR Go.Proofs.YtggelekooacmnaaW.eO
attribute [local go_sem] iM iN jk jl gW gX iO iP   -- for this text's walks alone
set_option linter.unusedVariables false
set_option linter.unusedSimpArgs false

/-! ### bW: function 17 -/
def bW.f (k : Nat) (ak : Int) (aG : Int) (aH : Int) (aD : Int) (ag : List (S27)) : Option (Int) := (bO.f k ak aG aH aD ag 11).bind fun Fj => (if Fj > 10 then (some 9) else ((az.f k ak aG aH aD ag).bind fun vW => (if vW = 0 then ((aN.f k ak aG aH aD ag).bind fun Al => (if (Al.length : Int) > 24 then (some 9) else (some 0))) else (some vW))))
theorem bW.mono : ∀ a0 a1 a2 a3 a4 k, LeO (bW.f k a0 a1 a2 a3 a4) (bW.f (k + 1) a0 a1 a2 a3 a4) := by
 intro a0 a1 a2 a3 a4 k; unfold bW.f
 repeat' first
   | (with_reducible exact bO.mono _ _ _ _ _ _ _)
   | (with_reducible exact aN.mono _ _ _ _ _ _)
   | (with_reducible exact az.mono _ _ _ _ _ _)
   | (with_reducible exact LeO.refl _)
   | (with_reducible exact LeO.none _)
   | (with_reducible refine LeO.ite ?_ ?_)
   | (with_reducible refine LeO.bind ?_ (fun _ => ?_))
   | exact bO.mono _ _ _ _ _ _ _
   | exact aN.mono _ _ _ _ _ _
   | exact az.mono _ _ _ _ _ _
   | exact LeO.none _
   | refine LeO.ite ?_ ?_
   | refine LeO.bind ?_ (fun _ => ?_)
set_option maxHeartbeats 8000000 in
set_option maxRecDepth 100000 in
theorem bW.calls (k : Nat) (ak : Int) (aG : Int) (aH : Int) (aD : Int) (bL : Option Addr) (bF : Nat) (ag : List (S27)) (r : Int) (w : World) (gM : Kd.C k27 w bL ag.length ag) (gN : ag.length ≤ bF) (h : bW.f k ak aG aH aD ag = some r) :
  Calls Try.prog 17 #[.agg #[.int .i64 ak, .int .i64 aG, .int .i64 aH, .int .i64 aD, .slice bL ag.length bF]] w fun e w' => e = .returned (.int .i64 r) ∧ Below w.heap.size w w' := by
 have rY := Try.underlying27; have dH := aa.mk gM; have fq := aa.mk gN; clear gM gN; have HB := aa.mk (Below.refl w.heap.size w); have H : ((bO.f k ak aG aH aD ag 11).bind fun Fj => (if Fj > 10 then (some 9) else ((az.f k ak aG aH aD ag).bind fun vW => (if vW = 0 then ((aN.f k ak aG aH aD ag).bind fun Al => (if (Al.length : Int) > 24 then (some 9) else (some 0))) else (some vW))))) = some r := h; clear h; replace H := Option.bind_eq_some_iff.mp H; obtain ⟨Fj, A20, H⟩ := H; replace H : (if Fj > 10 then (some 9) else ((az.f k ak aG aH aD ag).bind fun vW => (if vW = 0 then ((aN.f k ak aG aH aD ag).bind fun Al => (if (Al.length : Int) > 24 then (some 9) else (some 0))) else (some vW)))) = some r := H; have A2 := aa.mk A20; clear A20; by_cases c3 : Fj > 10
 ·rw [if_pos c3] at H; have lW : decide (10 < Fj) = true := decide_eq_true c3; clear c3; obtain rfl := Option.some.inj H; go_enter Try.func17, Try.ntmps17; go_wp2_with (first | ((with_reducible refine bu (N := 1) rfl ?_); refine bz ?hg (N := 1) ?hd (cs := #[.int .i64 ak, .int .i64 aG, .int .i64 aH, .int .i64 aD, .slice bL ag.length bF]) (t := 27) ?hr ?_; (case hd => rfl); (case hg => rfl); (case hr => first | (go_simp; done) | (go_simp; rfl)); intro KN hg w4 aU hb; have lF := aa.mk (aU); have KO : aa (w.heap.size ≤ KN) := gw_ hg (aI bl_); have GE248 := KO; replace HB := aa.mk (ay bl_ hb); clear hb aU hg; obtain ⟨Hl, Hm, Ho, Hq, Hr, Ht, Hu, Hw, Hy, Hz⟩ := bQ lF.out) | ((with_reducible refine aZ (f := 35) rfl ?_); refine cz (some 5) rfl rfl Try.func35 (by kernel_rfl) rfl #[.agg #[.int .i64 ak, .int .i64 aG, .int .i64 aH, .int .i64 aD, .slice bL ag.length bF], .int .i64 11] rfl mp_ ?_; (with_reducible refine (bO.calls k ak aG aH aD _ _ ag 11 Fj _ ?aX ?aY A2.out).mono ?_); (case aX => exact cb_ (Kd.bX dH.out HB.out)); (case aY => exact fq.out); rintro e w6 ⟨rfl, hb⟩; refine ⟨_, rfl, ?_⟩; replace lF := kb_ lF hb; replace HB := aa.mk (ay bl_ hb); (try clear hb); (try clear hb2); (try clear hk); (try clear hi)))
  go_ret; exact ⟨re_, bl_⟩
 ·rw [if_neg c3] at H; have lW : decide (10 < Fj) = false := decide_eq_false c3; clear c3; replace H := Option.bind_eq_some_iff.mp H; obtain ⟨vW, A70, H⟩ := H; replace H : (if vW = 0 then ((aN.f k ak aG aH aD ag).bind fun Al => (if (Al.length : Int) > 24 then (some 9) else (some 0))) else (some vW)) = some r := H; have A7 := aa.mk A70; clear A70; by_cases c8 : vW = 0
  ·rw [if_pos c8] at H; have ym : (vW == 0) = true := beq_iff_eq.mpr c8; have Dx : (vW != 0) = false := bne_eq_false_iff_eq.mpr c8; clear c8; replace H := Option.bind_eq_some_iff.mp H; obtain ⟨Al, A90, H⟩ := H; replace H : (if (Al.length : Int) > 24 then (some 9) else (some 0)) = some r := H; have A9 := aa.mk A90; clear A90; by_cases c10 : (Al.length : Int) > 24
   ·rw [if_pos c10] at H; have r9 : decide (24 < (Al.length : Int)) = true := decide_eq_true c10; have Md : decide (24 < Al.length) = true := decide_eq_true (by omega); clear c10; obtain rfl := Option.some.inj H; go_enter Try.func17, Try.ntmps17; go_wp2_with (first | ((with_reducible refine bu (N := 1) rfl ?_); refine bz ?hg (N := 1) ?hd (cs := #[.int .i64 ak, .int .i64 aG, .int .i64 aH, .int .i64 aD, .slice bL ag.length bF]) (t := 27) ?hr ?_; (case hd => rfl); (case hg => rfl); (case hr => first | (go_simp; done) | (go_simp; rfl)); intro KN hg w11 aU hb; have lF := aa.mk (aU); have KO : aa (w.heap.size ≤ KN) := gw_ hg (aI bl_); have GE248 := KO; replace HB := aa.mk (ay bl_ hb); clear hb aU hg; obtain ⟨nY, nZ, uM, uN, uO, og, oh, uP, uQ, uR⟩ := bQ lF.out) | ((with_reducible refine aZ (f := 35) rfl ?_); refine cz (some 5) rfl rfl Try.func35 (by kernel_rfl) rfl #[.agg #[.int .i64 ak, .int .i64 aG, .int .i64 aH, .int .i64 aD, .slice bL ag.length bF], .int .i64 11] rfl mp_ ?_; (with_reducible refine (bO.calls k ak aG aH aD _ _ ag 11 Fj _ ?aX ?aY A2.out).mono ?_); (case aX => exact cb_ (Kd.bX dH.out HB.out)); (case aY => exact fq.out); rintro e w13 ⟨rfl, hb⟩; refine ⟨_, rfl, ?_⟩; replace lF := kb_ lF hb; replace HB := aa.mk (ay bl_ hb); (try clear hb); (try clear hb2); (try clear hk); (try clear hi); obtain ⟨mg, mh, mi, mo, mq, mr, mD, mE, mF, mG⟩ := bQ lF.out) | ((with_reducible refine aZ (f := 36) rfl ?_); refine cz (some 8) rfl rfl Try.func36 (by kernel_rfl) rfl #[.agg #[.int .i64 ak, .int .i64 aG, .int .i64 aH, .int .i64 aD, .slice bL ag.length bF]] rfl mp_ ?_; (with_reducible refine (az.calls k ak aG aH aD _ _ ag vW _ ?aX ?aY A7.out).mono ?_); (case aX => exact cb_ (Kd.bX dH.out HB.out)); (case aY => exact fq.out); rintro e w15 ⟨rfl, hb⟩; refine ⟨_, rfl, ?_⟩; replace lF := kb_ lF hb; replace HB := aa.mk (ay bl_ hb); (try clear hb); (try clear hb2); (try clear hk); (try clear hi); obtain ⟨tq, tu, tC, tF, tH, tJ, tK, tL, tN, tO⟩ := bQ lF.out) | ((with_reducible refine aZ (f := 14) rfl ?_); refine cz (some 13) rfl rfl Try.func14 (by kernel_rfl) rfl #[.agg #[.int .i64 ak, .int .i64 aG, .int .i64 aH, .int .i64 aD, .slice bL ag.length bF]] rfl mp_ ?_; (with_reducible refine (aN.calls k ak aG aH aD _ _ ag Al _ ?aX ?aY A9.out).mono ?_); (case aX => exact cb_ (Kd.bX dH.out HB.out)); (case aY => exact fq.out); rintro e w17 ⟨v252, rfl, ho0, hb⟩; refine ⟨_, rfl, ?_⟩; have HO253 := aa.mk (Kd.gm ho0 (aI bl_)); replace lF := kb_ lF hb; replace HB := aa.mk (ay bl_ hb); (try clear hb); (try clear hb2); (try clear hk); (try clear hi); (try clear ho0); obtain ⟨Ao18, co18, eo18⟩ := Kd.fH HO253.out; subst eo18))
    go_ret; exact ⟨re_, bl_⟩
   ·rw [if_neg c10] at H; have r9 : decide (24 < (Al.length : Int)) = false := decide_eq_false c10; have Md : decide (24 < Al.length) = false := decide_eq_false (by omega); clear c10; obtain rfl := Option.some.inj H; go_enter Try.func17, Try.ntmps17; go_wp2_with (first | ((with_reducible refine bu (N := 1) rfl ?_); refine bz ?hg (N := 1) ?hd (cs := #[.int .i64 ak, .int .i64 aG, .int .i64 aH, .int .i64 aD, .slice bL ag.length bF]) (t := 27) ?hr ?_; (case hd => rfl); (case hg => rfl); (case hr => first | (go_simp; done) | (go_simp; rfl)); intro KN hg w19 aU hb; have lF := aa.mk (aU); have KO : aa (w.heap.size ≤ KN) := gw_ hg (aI bl_); have GE248 := KO; replace HB := aa.mk (ay bl_ hb); clear hb aU hg; obtain ⟨zG, zH, zI, zJ, zK, zL, zM, zN, zO, zP⟩ := bQ lF.out) | ((with_reducible refine aZ (f := 35) rfl ?_); refine cz (some 5) rfl rfl Try.func35 (by kernel_rfl) rfl #[.agg #[.int .i64 ak, .int .i64 aG, .int .i64 aH, .int .i64 aD, .slice bL ag.length bF], .int .i64 11] rfl mp_ ?_; (with_reducible refine (bO.calls k ak aG aH aD _ _ ag 11 Fj _ ?aX ?aY A2.out).mono ?_); (case aX => exact cb_ (Kd.bX dH.out HB.out)); (case aY => exact fq.out); rintro e w21 ⟨rfl, hb⟩; refine ⟨_, rfl, ?_⟩; replace lF := kb_ lF hb; replace HB := aa.mk (ay bl_ hb); (try clear hb); (try clear hb2); (try clear hk); (try clear hi); obtain ⟨uS, uT, xn, xq, xu, uU, uV, xw, xx, xy⟩ := bQ lF.out) | ((with_reducible refine aZ (f := 36) rfl ?_); refine cz (some 8) rfl rfl Try.func36 (by kernel_rfl) rfl #[.agg #[.int .i64 ak, .int .i64 aG, .int .i64 aH, .int .i64 aD, .slice bL ag.length bF]] rfl mp_ ?_; (with_reducible refine (az.calls k ak aG aH aD _ _ ag vW _ ?aX ?aY A7.out).mono ?_); (case aX => exact cb_ (Kd.bX dH.out HB.out)); (case aY => exact fq.out); rintro e w23 ⟨rfl, hb⟩; refine ⟨_, rfl, ?_⟩; replace lF := kb_ lF hb; replace HB := aa.mk (ay bl_ hb); (try clear hb); (try clear hb2); (try clear hk); (try clear hi); obtain ⟨DN, DR, Nu, Nv, Nw, DT, DU, Ny, Nz, NA⟩ := bQ lF.out) | ((with_reducible refine aZ (f := 14) rfl ?_); refine cz (some 13) rfl rfl Try.func14 (by kernel_rfl) rfl #[.agg #[.int .i64 ak, .int .i64 aG, .int .i64 aH, .int .i64 aD, .slice bL ag.length bF]] rfl mp_ ?_; (with_reducible refine (aN.calls k ak aG aH aD _ _ ag Al _ ?aX ?aY A9.out).mono ?_); (case aX => exact cb_ (Kd.bX dH.out HB.out)); (case aY => exact fq.out); rintro e w25 ⟨v252, rfl, ho0, hb⟩; refine ⟨_, rfl, ?_⟩; have HO253 := aa.mk (Kd.gm ho0 (aI bl_)); replace lF := kb_ lF hb; replace HB := aa.mk (ay bl_ hb); (try clear hb); (try clear hb2); (try clear hk); (try clear hi); (try clear ho0); obtain ⟨Ao26, co26, eo26⟩ := Kd.fH HO253.out; subst eo26))
    go_ret; exact ⟨re_, bl_⟩
  ·rw [if_neg c8] at H; have ym : (vW == 0) = false := beq_eq_false_iff_ne.mpr c8; have Dx : (vW != 0) = true := bne_iff_ne.mpr c8; obtain rfl := Option.some.inj H; go_enter Try.func17, Try.ntmps17; go_wp2_with (first | ((with_reducible refine bu (N := 1) rfl ?_); refine bz ?hg (N := 1) ?hd (cs := #[.int .i64 ak, .int .i64 aG, .int .i64 aH, .int .i64 aD, .slice bL ag.length bF]) (t := 27) ?hr ?_; (case hd => rfl); (case hg => rfl); (case hr => first | (go_simp; done) | (go_simp; rfl)); intro KN hg w27 aU hb; have lF := aa.mk (aU); have KO : aa (w.heap.size ≤ KN) := gw_ hg (aI bl_); have GE248 := KO; replace HB := aa.mk (ay bl_ hb); clear hb aU hg; obtain ⟨nK, nL, oL, oM, oN, nM, nN, oO, oP, oQ⟩ := bQ lF.out) | ((with_reducible refine aZ (f := 35) rfl ?_); refine cz (some 5) rfl rfl Try.func35 (by kernel_rfl) rfl #[.agg #[.int .i64 ak, .int .i64 aG, .int .i64 aH, .int .i64 aD, .slice bL ag.length bF], .int .i64 11] rfl mp_ ?_; (with_reducible refine (bO.calls k ak aG aH aD _ _ ag 11 Fj _ ?aX ?aY A2.out).mono ?_); (case aX => exact cb_ (Kd.bX dH.out HB.out)); (case aY => exact fq.out); rintro e w29 ⟨rfl, hb⟩; refine ⟨_, rfl, ?_⟩; replace lF := kb_ lF hb; replace HB := aa.mk (ay bl_ hb); (try clear hb); (try clear hb2); (try clear hk); (try clear hi); obtain ⟨BP, BQ, JK, JL, JM, BR, BS, JN, JO, JP⟩ := bQ lF.out) | ((with_reducible refine aZ (f := 36) rfl ?_); refine cz (some 8) rfl rfl Try.func36 (by kernel_rfl) rfl #[.agg #[.int .i64 ak, .int .i64 aG, .int .i64 aH, .int .i64 aD, .slice bL ag.length bF]] rfl mp_ ?_; (with_reducible refine (az.calls k ak aG aH aD _ _ ag vW _ ?aX ?aY A7.out).mono ?_); (case aX => exact cb_ (Kd.bX dH.out HB.out)); (case aY => exact fq.out); rintro e w31 ⟨rfl, hb⟩; refine ⟨_, rfl, ?_⟩; replace lF := kb_ lF hb; replace HB := aa.mk (ay bl_ hb); (try clear hb); (try clear hb2); (try clear hk); (try clear hi)))
   go_ret; exact ⟨re_, bl_⟩

end Go.Proofs.Ytggelekooacmnaa.Z
namespace Go.Proofs.Ytggelekooacmnaa.Z
open Go.RowKit Go.Proofs.YtggelekooacmnaaW.bM Go.Proofs.YtggelekooacmnaaW.dR Go.Proofs.YtggelekooacmnaaW.eO
attribute [local go_sem] iM iN jk jl gW gX iO iP   -- for this text's walks alone
set_option linter.unusedVariables false
set_option linter.unusedSimpArgs false

/-! ### gU: function 26 -/
def gU.f (k : Nat) (ak : Int) (aG : Int) (aH : Int) (aD : Int) (ag : List (S27)) : Option (Int) := (bW.f k ak aG aH aD ag).bind fun Am => (if Am = 0 then (if ak = 4 then (some 8) else (some 0)) else (some Am))
theorem gU.mono : ∀ a0 a1 a2 a3 a4 k, LeO (gU.f k a0 a1 a2 a3 a4) (gU.f (k + 1) a0 a1 a2 a3 a4) := by
 intro a0 a1 a2 a3 a4 k; unfold gU.f
 repeat' first
   | (with_reducible exact bW.mono _ _ _ _ _ _)
   | (with_reducible exact LeO.refl _)
   | (with_reducible exact LeO.none _)
   | (with_reducible refine LeO.ite ?_ ?_)
   | (with_reducible refine LeO.bind ?_ (fun _ => ?_))
   | exact bW.mono _ _ _ _ _ _
   | exact LeO.none _
   | refine LeO.ite ?_ ?_
   | refine LeO.bind ?_ (fun _ => ?_)
set_option maxHeartbeats 8000000 in
set_option maxRecDepth 100000 in
theorem gU.calls (k : Nat) (ak : Int) (aG : Int) (aH : Int) (aD : Int) (bL : Option Addr) (bF : Nat) (ag : List (S27)) (r : Int) (w : World) (gM : Kd.C k27 w bL ag.length ag) (gN : ag.length ≤ bF) (h : gU.f k ak aG aH aD ag = some r) :
  Calls Try.prog 26 #[.agg #[.int .i64 ak, .int .i64 aG, .int .i64 aH, .int .i64 aD, .slice bL ag.length bF]] w fun e w' => e = .returned (.int .i64 r) ∧ Below w.heap.size w w' := by
 have rY := Try.underlying27; have dH := aa.mk gM; have fq := aa.mk gN; clear gM gN; have HB := aa.mk (Below.refl w.heap.size w); have H : ((bW.f k ak aG aH aD ag).bind fun Am => (if Am = 0 then (if ak = 4 then (some 8) else (some 0)) else (some Am))) = some r := h; clear h; replace H := Option.bind_eq_some_iff.mp H; obtain ⟨Am, A20, H⟩ := H; replace H : (if Am = 0 then (if ak = 4 then (some 8) else (some 0)) else (some Am)) = some r := H; have A2 := aa.mk A20; clear A20; by_cases c3 : Am = 0
 ·rw [if_pos c3] at H; have lW : (Am == 0) = true := beq_iff_eq.mpr c3; have oJ : (Am != 0) = false := bne_eq_false_iff_eq.mpr c3; clear c3; by_cases c4 : ak = 4
  ·rw [if_pos c4] at H; have nz : (ak == 4) = true := beq_iff_eq.mpr c4; have CB : (ak != 4) = false := bne_eq_false_iff_eq.mpr c4; clear c4; obtain rfl := Option.some.inj H; go_enter Try.func26, Try.ntmps26; go_wp2_with (first | ((with_reducible refine bu (N := 1) rfl ?_); refine bz ?hg (N := 1) ?hd (cs := #[.int .i64 ak, .int .i64 aG, .int .i64 aH, .int .i64 aD, .slice bL ag.length bF]) (t := 27) ?hr ?_; (case hd => rfl); (case hg => rfl); (case hr => first | (go_simp; done) | (go_simp; rfl)); intro P5 hg w5 aU hb; have zQ := aa.mk (aU); have P6 : aa (w.heap.size ≤ P5) := gw_ hg (aI bl_); have GE254 := P6; replace HB := aa.mk (ay bl_ hb); clear hb aU hg; obtain ⟨JQ, JR, JS, JU, JV, JW, JX, JY, JZ, J2⟩ := bQ zQ.out) | ((with_reducible refine aZ (f := 17) rfl ?_); refine cz (some 5) rfl rfl Try.func17 (by kernel_rfl) rfl #[.agg #[.int .i64 ak, .int .i64 aG, .int .i64 aH, .int .i64 aD, .slice bL ag.length bF]] rfl mp_ ?_; (with_reducible refine (bW.calls k ak aG aH aD _ _ ag Am _ ?aX ?aY A2.out).mono ?_); (case aX => exact cb_ (Kd.bX dH.out HB.out)); (case aY => exact fq.out); rintro e w7 ⟨rfl, hb⟩; refine ⟨_, rfl, ?_⟩; replace zQ := kb_ zQ hb; replace HB := aa.mk (ay bl_ hb); (try clear hb); (try clear hb2); (try clear hk); (try clear hi); obtain ⟨HY, HZ, Ua, Ub, Uc, H5, H6, Ud, Ue, Uf⟩ := bQ zQ.out))
   go_ret; exact ⟨re_, bl_⟩
  ·rw [if_neg c4] at H; have nz : (ak == 4) = false := beq_eq_false_iff_ne.mpr c4; have CB : (ak != 4) = true := bne_iff_ne.mpr c4; obtain rfl := Option.some.inj H; go_enter Try.func26, Try.ntmps26; go_wp2_with (first | ((with_reducible refine bu (N := 1) rfl ?_); refine bz ?hg (N := 1) ?hd (cs := #[.int .i64 ak, .int .i64 aG, .int .i64 aH, .int .i64 aD, .slice bL ag.length bF]) (t := 27) ?hr ?_; (case hd => rfl); (case hg => rfl); (case hr => first | (go_simp; done) | (go_simp; rfl)); intro P5 hg w9 aU hb; have zQ := aa.mk (aU); have P6 : aa (w.heap.size ≤ P5) := gw_ hg (aI bl_); have GE254 := P6; replace HB := aa.mk (ay bl_ hb); clear hb aU hg; obtain ⟨qB, qC, rJ, rM, rO, qD, qE, rP, rQ, rR⟩ := bQ zQ.out) | ((with_reducible refine aZ (f := 17) rfl ?_); refine cz (some 5) rfl rfl Try.func17 (by kernel_rfl) rfl #[.agg #[.int .i64 ak, .int .i64 aG, .int .i64 aH, .int .i64 aD, .slice bL ag.length bF]] rfl mp_ ?_; (with_reducible refine (bW.calls k ak aG aH aD _ _ ag Am _ ?aX ?aY A2.out).mono ?_); (case aX => exact cb_ (Kd.bX dH.out HB.out)); (case aY => exact fq.out); rintro e w11 ⟨rfl, hb⟩; refine ⟨_, rfl, ?_⟩; replace zQ := kb_ zQ hb; replace HB := aa.mk (ay bl_ hb); (try clear hb); (try clear hb2); (try clear hk); (try clear hi); obtain ⟨nY, nZ, uM, uN, uO, og, oh, uP, uQ, uR⟩ := bQ zQ.out))
   go_ret; exact ⟨re_, bl_⟩
 ·rw [if_neg c3] at H; have lW : (Am == 0) = false := beq_eq_false_iff_ne.mpr c3; have oJ : (Am != 0) = true := bne_iff_ne.mpr c3; obtain rfl := Option.some.inj H; go_enter Try.func26, Try.ntmps26; go_wp2_with (first | ((with_reducible refine bu (N := 1) rfl ?_); refine bz ?hg (N := 1) ?hd (cs := #[.int .i64 ak, .int .i64 aG, .int .i64 aH, .int .i64 aD, .slice bL ag.length bF]) (t := 27) ?hr ?_; (case hd => rfl); (case hg => rfl); (case hr => first | (go_simp; done) | (go_simp; rfl)); intro P5 hg w13 aU hb; have zQ := aa.mk (aU); have P6 : aa (w.heap.size ≤ P5) := gw_ hg (aI bl_); have GE254 := P6; replace HB := aa.mk (ay bl_ hb); clear hb aU hg; obtain ⟨mg, mh, mi, mo, mq, mr, mD, mE, mF, mG⟩ := bQ zQ.out) | ((with_reducible refine aZ (f := 17) rfl ?_); refine cz (some 5) rfl rfl Try.func17 (by kernel_rfl) rfl #[.agg #[.int .i64 ak, .int .i64 aG, .int .i64 aH, .int .i64 aD, .slice bL ag.length bF]] rfl mp_ ?_; (with_reducible refine (bW.calls k ak aG aH aD _ _ ag Am _ ?aX ?aY A2.out).mono ?_); (case aX => exact cb_ (Kd.bX dH.out HB.out)); (case aY => exact fq.out); rintro e w15 ⟨rfl, hb⟩; refine ⟨_, rfl, ?_⟩; replace zQ := kb_ zQ hb; replace HB := aa.mk (ay bl_ hb); (try clear hb); (try clear hb2); (try clear hk); (try clear hi)))
  go_ret; exact ⟨re_, bl_⟩

end Go.Proofs.Ytggelekooacmnaa.Z
namespace Go.Proofs.Ytggelekooacmnaa.Z
open Go.RowKit Go.Proofs.YtggelekooacmnaaW.bM Go.Proofs.YtggelekooacmnaaW.dR Go.Proofs.YtggelekooacmnaaW.eO
attribute [local go_sem] iM iN jk jl gW gX iO iP   -- for this text's walks alone
set_option linter.unusedVariables false
set_option linter.unusedSimpArgs false

/-! ### dW: function 52 -/
mutual
def dW.l0 : Nat → Int → List (S27) → Int → Int → Option (Int)
 | 0, _, _, _, _ => none
 | k + 1, x3, x7, x8, x9 => if x9 < x8 then (if 0 ≤ x9 then (if x9 < (x7.length : Int) then ((dW.f k ((aj x7 x9).f0) ((aj x7 x9).f1) ((aj x7 x9).f2) ((aj x7 x9).f3) ((aj x7 x9).f4)).bind fun t263 => (dW.l0 k (mx x3 t263) x7 x8 (wrap64 (x9 + 1)))) else (none)) else (none)) else (some (wrap64 (x3 + 1)))
def dW.f : Nat → Int → Int → Int → Int → List (S27) → Option (Int)
 | 0, _, _, _, _, _ => none
 | k + 1, ak, aG, aH, aD, ag => dW.l0 k 0 ag (ag.length : Int) 0
end
theorem dW.iU : ∀ k, (∀ y0 y1 y2 y3 y4, LeO (dW.f k y0 y1 y2 y3 y4) (dW.f (k + 1) y0 y1 y2 y3 y4)) ∧ (∀ y0 y1 y2 y3, LeO (dW.l0 k y0 y1 y2 y3) (dW.l0 (k + 1) y0 y1 y2 y3))
 | 0 => ⟨fun _ _ _ _ _ r h => by simp [dW.f] at h, fun _ _ _ _ r h => by simp [dW.l0] at h⟩
 | k + 1 => by
  obtain ⟨ih0, ih1⟩ := dW.iU k; refine ⟨?_, ?_⟩
  ·intro y0 y1 y2 y3 y4; unfold dW.f; repeat' first
   | (with_reducible exact ih0 _ _ _ _ _)
   | (with_reducible exact ih1 _ _ _ _)
   | (with_reducible exact LeO.refl _)
   | (with_reducible exact LeO.none _)
   | (with_reducible refine LeO.ite ?_ ?_)
   | (with_reducible refine LeO.bind ?_ (fun _ => ?_))
   | exact ih0 _ _ _ _ _
   | exact ih1 _ _ _ _
   | exact LeO.none _
   | refine LeO.ite ?_ ?_
   | refine LeO.bind ?_ (fun _ => ?_)
  ·intro y0 y1 y2 y3; unfold dW.l0; repeat' first
   | (with_reducible exact ih0 _ _ _ _ _)
   | (with_reducible exact ih1 _ _ _ _)
   | (with_reducible exact LeO.refl _)
   | (with_reducible exact LeO.none _)
   | (with_reducible refine LeO.ite ?_ ?_)
   | (with_reducible refine LeO.bind ?_ (fun _ => ?_))
   | exact ih0 _ _ _ _ _
   | exact ih1 _ _ _ _
   | exact LeO.none _
   | refine LeO.ite ?_ ?_
   | refine LeO.bind ?_ (fun _ => ?_)
theorem dW.mono : ∀ a0 a1 a2 a3 a4 k, LeO (dW.f k a0 a1 a2 a3 a4) (dW.f (k + 1) a0 a1 a2 a3 a4) := by
 intro a0 a1 a2 a3 a4 k; obtain ⟨ih0, ih1⟩ := dW.iU k; exact ih0 a0 a1 a2 a3 a4
set_option maxHeartbeats 8000000 in
set_option maxRecDepth 100000 in
theorem dW.calls (k : Nat) : ∀ (ak : Int) (aG : Int) (aH : Int) (aD : Int) (bL : Option Addr) (bF : Nat) (ag : List (S27)) (r : Int) (w : World) (gM : Kd.C k27 w bL ag.length ag) (gN : ag.length ≤ bF) (h : dW.f k ak aG aH aD ag = some r),
  Calls Try.prog 52 #[.agg #[.int .i64 ak, .int .i64 aG, .int .i64 aH, .int .i64 aD, .slice bL ag.length bF]] w fun e w' => e = .returned (.int .i64 r) ∧ Below w.heap.size w w' := by
 induction k using Nat.strongRecOn with
 | _ k ih =>
 intro ak aG aH aD bL bF ag r w gM gN h; cases k with
 | zero => exact absurd h (by simp [dW.f])
 | succ k =>
 simp only [dW.f] at h; have rY := Try.underlying27; have dH := aa.mk gM; have fq := aa.mk gN; clear gM gN; have HB := aa.mk (Below.refl w.heap.size w); have H : (dW.l0 k 0 ag (ag.length : Int) 0) = some r := h; clear h; have H' := aa.mk H; clear H; go_enter Try.func52, Try.ntmps52; go_wp2_with (first | ((with_reducible refine bu (N := 1) rfl ?_); refine bz ?hg (N := 1) ?hd (cs := #[.int .i64 ak, .int .i64 aG, .int .i64 aH, .int .i64 aD, .slice bL ag.length bF]) (t := 27) ?hr ?_; (case hd => rfl); (case hg => rfl); (case hr => first | (go_simp; done) | (go_simp; rfl)); intro gb260 hg w2 aU hb; have IM := aa.mk (aU); have GW260 : aa (w.heap.size ≤ gb260) := gw_ hg (aI bl_); have GE260 := GW260; replace HB := aa.mk (ay bl_ hb); clear hb aU hg; obtain ⟨hcz3_0, hcz3_1, hcz3_2, hcz3_3, hcz3_4, hfz3_0, hfz3_1, hfz3_2, hfz3_3, hfz3_4⟩ := bQ IM.out))
 go_loopg [3, 9] k (fun kq v3 v9 w' => ∃ (DV : Int) (kR : Int), v3 = .int .i64 DV ∧ v9 = .int .i64 kR ∧ aa (dW.l0 kq DV ag (ag.length : Int) kR = some r) ∧ aa (kq ≤ k) ∧ aa (w'.heap[gb260]? = some (.cells #[.int .i64 ak, .int .i64 aG, .int .i64 aH, .int .i64 aD, (.slice bL ag.length bF)] 27 (0, 0))) ∧ aa (Below w.heap.size w w'))
 case atStart => exact ⟨(0), (0), rs_, rs_, H', ⟨Nat.le_refl _⟩, ⟨bk_⟩, ⟨bl_⟩⟩
 case round =>
  clear H'; (try clear p2); (try clear hcz3_0 hcz3_1 hcz3_2 hcz3_3 hcz3_4 hfz3_0 hfz3_1 hfz3_2 hfz3_3 hfz3_4); obtain ⟨DV, kR, rfl, rfl, HA, HK1, IM, HB⟩ := hrel; cases gk with
  | zero => exact absurd HA.out (by simp [dW.l0])
  | succ k1 =>
   have H := HA.out; clear HA; simp only [dW.l0] at H; by_cases c4 : kR < (ag.length : Int)
   ·rw [if_pos c4] at H; have nz : decide (kR < (ag.length : Int)) = true := decide_eq_true c4; clear c4; by_cases c5 : 0 ≤ kR
    ·rw [if_pos c5] at H; have uK : decide (0 ≤ kR) = true := decide_eq_true c5; clear c5; by_cases c6 : kR < (ag.length : Int)
     ·rw [if_pos c6] at H; have c6b0 : decide (kR < (ag.length : Int)) = true := decide_eq_true c6; clear c6; replace H := Option.bind_eq_some_iff.mp H; obtain ⟨t263, A70, H⟩ := H; replace H : (dW.l0 k1 (mx DV t263) ag (ag.length : Int) (wrap64 (kR + 1))) = some r := H; have A7 := aa.mk A70; clear A70; obtain ⟨ji8, G8⟩ : ∃ j_ : Int, (mx DV t263) = j_ := ⟨_, rfl⟩; replace H : (dW.l0 k1 ji8 ag (ag.length : Int) (wrap64 (kR + 1))) = some r := by first | (rw [G8] at H; exact H) | (simp only [G8] at H ⊢; exact H)
      (try rw [G8] at A7)
      have hji8_ : (if DV < t263 then t263 else DV) = ji8 := G8; have H' := aa.mk H; clear H; have p261 : 0 ≤ (kR : Int) := dt_; have q261 : kR < (ag.length : Int) := dt_; obtain ⟨ad261, A261_4, c261_4, e261, V3, V4, V5, V6, V7, V8, V9⟩ := gQ dH.out kR p261 q261; cases e261; replace V3 := hc_ HB V3; replace V4 := hc_ HB V4; replace V5 := hc_ HB V5; replace V6 := hc_ HB V6; replace V7 := hc_ HB V7; have HR261_4 := aa.mk V9; have HC261_4 := aa.mk V8; clear V9 V8; replace p261 := eq_true p261; replace q261 := eq_true q261; go_wp2_with (first | ((with_reducible refine bu (N := 5) rfl ?_); refine bz ?hg (N := 5) ?hd (cs := #[.int .i64 0, .int .i64 0, .int .i64 0, .int .i64 0, .slice none 0 0]) (t := 27) ?hr ?_; (case hd => rfl); (case hg => rfl); (case hr => first | (go_simp; done) | (go_simp; rfl)); intro gb262 hg w9 aU hb; have BK262 := aa.mk (aU); have GW262 : aa (w.heap.size ≤ gb262) := gw_ hg (aI bl_); have GE262 := GW262; have BU := nl_ IM hg; have XG := ng_ IM hg; replace IM := kb_ IM hb; replace HB := aa.mk (ay bl_ hb); clear hb aU hg; have hnb10 := XG.out; have hnc10 := BU.out; obtain ⟨yZ, za, zb, ze, zf, zg, zh, zi, zk, zl⟩ := bQ BK262.out) | ((with_reducible refine aZ (f := 52) rfl ?_); refine cz (some 15) rfl rfl Try.func52 (by kernel_rfl) rfl #[.agg #[.int .i64 ((aj ag kR).f0), .int .i64 ((aj ag kR).f1), .int .i64 ((aj ag kR).f2), .int .i64 ((aj ag kR).f3), .slice A261_4 ((aj ag kR).f4).length c261_4]] rfl mp_ ?_; (with_reducible refine (ih k1 (by have := HK1.out; omega) ((aj ag kR).f0) ((aj ag kR).f1) ((aj ag kR).f2) ((aj ag kR).f3) _ _ ((aj ag kR).f4) t263 _ ?aX ?aY A7.out).mono ?_); (case aX => exact Kd.bX HR261_4.out bl_); (case aY => exact HC261_4.out); rintro e w12 ⟨rfl, hb⟩; refine ⟨_, rfl, ?_⟩; replace IM := aa.mk (dV (g := gb260) (o := .cells #[.int .i64 ak, .int .i64 aG, .int .i64 aH, .int .i64 aD, .slice (some ad261) ag.length bF] 27 (0, 0)) (by (with_reducible repeat (first | refine ah ?_ _ | refine ai ?_ | refine af ?_ _)); refine aQ ?_ BU.out _; (with_reducible repeat (first | refine ah ?_ _ | refine ai ?_ | refine af ?_ _)); refine aQ ?_ BU.out _; (with_reducible repeat (first | refine ah ?_ _ | refine ai ?_ | refine af ?_ _)); refine aQ ?_ BU.out _; (with_reducible repeat (first | refine ah ?_ _ | refine ai ?_ | refine af ?_ _)); refine aQ ?_ BU.out _; (with_reducible repeat (first | refine ah ?_ _ | refine ai ?_ | refine af ?_ _)); refine aQ ?_ BU.out _; (with_reducible repeat (first | refine ah ?_ _ | refine ai ?_ | refine af ?_ _)); exact IM.out) hb); replace BK262 := aa.mk (dV (g := gb262) (o := .cells #[.int .i64 ((aj ag kR).f0), .int .i64 ((aj ag kR).f1), .int .i64 ((aj ag kR).f2), .int .i64 ((aj ag kR).f3), .slice A261_4 ((aj ag kR).f4).length c261_4] 27 (0, 0)) (by (with_reducible repeat (first | refine ah ?_ _ | refine ai ?_ | refine af ?_ _)); refine aW (cs := #[.int .i64 ((aj ag kR).f0), .int .i64 ((aj ag kR).f1), .int .i64 ((aj ag kR).f2), .int .i64 ((aj ag kR).f3), .slice none 0 0]) ?_ 4 _ rfl; (with_reducible repeat (first | refine ah ?_ _ | refine ai ?_ | refine af ?_ _)); refine aW (cs := #[.int .i64 ((aj ag kR).f0), .int .i64 ((aj ag kR).f1), .int .i64 ((aj ag kR).f2), .int .i64 0, .slice none 0 0]) ?_ 3 _ rfl; (with_reducible repeat (first | refine ah ?_ _ | refine ai ?_ | refine af ?_ _)); refine aW (cs := #[.int .i64 ((aj ag kR).f0), .int .i64 ((aj ag kR).f1), .int .i64 0, .int .i64 0, .slice none 0 0]) ?_ 2 _ rfl; (with_reducible repeat (first | refine ah ?_ _ | refine ai ?_ | refine af ?_ _)); refine aW (cs := #[.int .i64 ((aj ag kR).f0), .int .i64 0, .int .i64 0, .int .i64 0, .slice none 0 0]) ?_ 1 _ rfl; (with_reducible repeat (first | refine ah ?_ _ | refine ai ?_ | refine af ?_ _)); refine aW (cs := #[.int .i64 0, .int .i64 0, .int .i64 0, .int .i64 0, .slice none 0 0]) ?_ 0 _ rfl; (with_reducible repeat (first | refine ah ?_ _ | refine ai ?_ | refine af ?_ _)); exact BK262.out) hb); replace HB := aa.mk (ay bl_ hb); (try clear hb); (try clear hb2); (try clear hk); (try clear hi)))
      go_roundg k1
      case measure => have := HK1.out; omega
      case rel => exact ⟨(ji8), (wrap64 (kR + 1)), (by first | rfl | (simp; done) | (simp only [← G8] <;> (first | rfl | simp)) | (simp [*]; done)), rs_, H', ⟨by have := HK1.out; omega⟩, ⟨bk_⟩, ⟨bl_⟩⟩
     ·rw [if_neg c6] at H; exact absurd H (by simp)
    ·rw [if_neg c5] at H; exact absurd H (by simp)
   ·rw [if_neg c4] at H; have nz : decide (kR < (ag.length : Int)) = false := decide_eq_false c4; clear c4; obtain rfl := Option.some.inj H; go_wp2; go_ret; exact ⟨re_, bl_⟩

end Go.Proofs.Ytggelekooacmnaa.Z
namespace Go.Proofs.Ytggelekooacmnaa.Z
open Go.RowKit Go.Proofs.YtggelekooacmnaaW.bM Go.Proofs.YtggelekooacmnaaW.dR Go.Proofs.YtggelekooacmnaaW.eO
attribute [local go_sem] iM iN jk jl gW gX iO iP   -- for this text's walks alone
set_option linter.unusedVariables false
set_option linter.unusedSimpArgs false

/-! ### jY: function 60 -/
def jY.f (ak : Int) (aG : Int) (aH : Int) (aD : Int) (ag : List (S27)) : Option (Bool) := if ak = 2 then (if aD = 0 then (some ((ag.length : Int) != 0)) else (some true)) else (if ak = 6 then (if aG = 0 then (some (aH != 0)) else (some true)) else (if ak = 5 then (if aG = 0 then (if aH = 0 then (some (aD != 0)) else (some true)) else (some true)) else (if aG = 0 then (if aH = 0 then (if aD = 0 then (some ((ag.length : Int) != 0)) else (some true)) else (some true)) else (some true))))
set_option maxHeartbeats 8000000 in
set_option maxRecDepth 100000 in
theorem jY.calls (ak : Int) (aG : Int) (aH : Int) (aD : Int) (bL : Option Addr) (bF : Nat) (ag : List (S27)) (r : Bool) (w : World) (gM : Kd.C k27 w bL ag.length ag) (gN : ag.length ≤ bF) (h : jY.f ak aG aH aD ag = some r) :
  Calls Try.prog 60 #[.agg #[.int .i64 ak, .int .i64 aG, .int .i64 aH, .int .i64 aD, .slice bL ag.length bF]] w fun e w' => e = .returned (.bool r) ∧ Below w.heap.size w w' := by
 have rY := Try.underlying27; have dH := aa.mk gM; have fq := aa.mk gN; clear gM gN; have HB := aa.mk (Below.refl w.heap.size w); have H : (if ak = 2 then (if aD = 0 then (some ((ag.length : Int) != 0)) else (some true)) else (if ak = 6 then (if aG = 0 then (some (aH != 0)) else (some true)) else (if ak = 5 then (if aG = 0 then (if aH = 0 then (some (aD != 0)) else (some true)) else (some true)) else (if aG = 0 then (if aH = 0 then (if aD = 0 then (some ((ag.length : Int) != 0)) else (some true)) else (some true)) else (some true))))) = some r := h; clear h; by_cases c2 : ak = 2
 ·rw [if_pos c2] at H; have Ag : (ak == 2) = true := beq_iff_eq.mpr c2; have Cq : (ak != 2) = false := bne_eq_false_iff_eq.mpr c2; clear c2; by_cases c3 : aD = 0
  ·rw [if_pos c3] at H; have lW : (aD == 0) = true := beq_iff_eq.mpr c3; have oJ : (aD != 0) = false := bne_eq_false_iff_eq.mpr c3; clear c3; obtain rfl := Option.some.inj H; go_enter Try.func60, Try.ntmps60; go_wp2_with (first | ((with_reducible refine bu (N := 1) rfl ?_); (try (refine dx (by rfl) ?_; dsimp only)); refine bz ?hg (N := 1) ?hd (cs := #[.int .i64 ak, .int .i64 aG, .int .i64 aH, .int .i64 aD, .slice bL ag.length bF]) (t := 27) ?hr ?_; (case hd => rfl); (case hg => rfl); (case hr => first | (go_simp; done) | (go_simp; rfl)); intro pO hg w4 aU hb; have pQ := aa.mk (aU); have pR : aa (w.heap.size ≤ pO) := gw_ hg (aI bl_); have Et := pR; replace HB := aa.mk (ay bl_ hb); clear hb aU hg; obtain ⟨Hl, Hm, Ho, Hq, Hr, Ht, Hu, Hw, Hy, Hz⟩ := bQ pQ.out))
   go_ret; exact ⟨re_, bl_⟩
  ·rw [if_neg c3] at H; have lW : (aD == 0) = false := beq_eq_false_iff_ne.mpr c3; have oJ : (aD != 0) = true := bne_iff_ne.mpr c3; obtain rfl := Option.some.inj H; go_enter Try.func60, Try.ntmps60; go_wp2_with (first | ((with_reducible refine bu (N := 1) rfl ?_); (try (refine dx (by rfl) ?_; dsimp only)); refine bz ?hg (N := 1) ?hd (cs := #[.int .i64 ak, .int .i64 aG, .int .i64 aH, .int .i64 aD, .slice bL ag.length bF]) (t := 27) ?hr ?_; (case hd => rfl); (case hg => rfl); (case hr => first | (go_simp; done) | (go_simp; rfl)); intro pO hg w6 aU hb; have pQ := aa.mk (aU); have pR : aa (w.heap.size ≤ pO) := gw_ hg (aI bl_); have Et := pR; replace HB := aa.mk (ay bl_ hb); clear hb aU hg; obtain ⟨EG, EH, Lg, P7, P8, H7, EI, Lh, P9, Qa⟩ := bQ pQ.out))
   go_ret; exact ⟨re_, bl_⟩
 ·rw [if_neg c2] at H; have Ag : (ak == 2) = false := beq_eq_false_iff_ne.mpr c2; have Cq : (ak != 2) = true := bne_iff_ne.mpr c2; by_cases c8 : ak = 6
  ·rw [if_pos c8] at H; have ym : (ak == 6) = true := beq_iff_eq.mpr c8; have Dx : (ak != 6) = false := bne_eq_false_iff_eq.mpr c8; clear c8; by_cases c9 : aG = 0
   ·rw [if_pos c9] at H; have Dy : (aG == 0) = true := beq_iff_eq.mpr c9; have c9b1 : (aG != 0) = false := bne_eq_false_iff_eq.mpr c9; clear c9; obtain rfl := Option.some.inj H; go_enter Try.func60, Try.ntmps60; go_wp2_with (first | ((with_reducible refine bu (N := 1) rfl ?_); (try (refine dx (by rfl) ?_; dsimp only)); refine bz ?hg (N := 1) ?hd (cs := #[.int .i64 ak, .int .i64 aG, .int .i64 aH, .int .i64 aD, .slice bL ag.length bF]) (t := 27) ?hr ?_; (case hd => rfl); (case hg => rfl); (case hr => first | (go_simp; done) | (go_simp; rfl)); intro pO hg w10 aU hb; have pQ := aa.mk (aU); have pR : aa (w.heap.size ≤ pO) := gw_ hg (aI bl_); have Et := pR; replace HB := aa.mk (ay bl_ hb); clear hb aU hg; obtain ⟨yZ, za, zb, ze, zf, zg, zh, zi, zk, zl⟩ := bQ pQ.out))
    go_ret; exact ⟨re_, bl_⟩
   ·rw [if_neg c9] at H; have Dy : (aG == 0) = false := beq_eq_false_iff_ne.mpr c9; have c9b1 : (aG != 0) = true := bne_iff_ne.mpr c9; obtain rfl := Option.some.inj H; go_enter Try.func60, Try.ntmps60; go_wp2_with (first | ((with_reducible refine bu (N := 1) rfl ?_); (try (refine dx (by rfl) ?_; dsimp only)); refine bz ?hg (N := 1) ?hd (cs := #[.int .i64 ak, .int .i64 aG, .int .i64 aH, .int .i64 aD, .slice bL ag.length bF]) (t := 27) ?hr ?_; (case hd => rfl); (case hg => rfl); (case hr => first | (go_simp; done) | (go_simp; rfl)); intro pO hg w12 aU hb; have pQ := aa.mk (aU); have pR : aa (w.heap.size ≤ pO) := gw_ hg (aI bl_); have Et := pR; replace HB := aa.mk (ay bl_ hb); clear hb aU hg; obtain ⟨SG, SH, hcz13_2, hcz13_3, hcz13_4, SI, SK, hfz13_2, hfz13_3, hfz13_4⟩ := bQ pQ.out))
    go_ret; exact ⟨re_, bl_⟩
  ·rw [if_neg c8] at H; have ym : (ak == 6) = false := beq_eq_false_iff_ne.mpr c8; have Dx : (ak != 6) = true := bne_iff_ne.mpr c8; by_cases c14 : ak = 5
   ·rw [if_pos c14] at H; have xJ : (ak == 5) = true := beq_iff_eq.mpr c14; have Ej : (ak != 5) = false := bne_eq_false_iff_eq.mpr c14; clear c14; by_cases c15 : aG = 0
    ·rw [if_pos c15] at H; have si : (aG == 0) = true := beq_iff_eq.mpr c15; have Ep : (aG != 0) = false := bne_eq_false_iff_eq.mpr c15; clear c15; by_cases c16 : aH = 0
     ·rw [if_pos c16] at H; have c16b0 : (aH == 0) = true := beq_iff_eq.mpr c16; have c16b1 : (aH != 0) = false := bne_eq_false_iff_eq.mpr c16; clear c16; obtain rfl := Option.some.inj H; go_enter Try.func60, Try.ntmps60; go_wp2_with (first | ((with_reducible refine bu (N := 1) rfl ?_); (try (refine dx (by rfl) ?_; dsimp only)); refine bz ?hg (N := 1) ?hd (cs := #[.int .i64 ak, .int .i64 aG, .int .i64 aH, .int .i64 aD, .slice bL ag.length bF]) (t := 27) ?hr ?_; (case hd => rfl); (case hg => rfl); (case hr => first | (go_simp; done) | (go_simp; rfl)); intro pO hg w17 aU hb; have pQ := aa.mk (aU); have pR : aa (w.heap.size ≤ pO) := gw_ hg (aI bl_); have Et := pR; replace HB := aa.mk (ay bl_ hb); clear hb aU hg; obtain ⟨oU, oV, xc, xe, xg, oW, oZ, xh, xk, xm⟩ := bQ pQ.out))
      go_ret; exact ⟨re_, bl_⟩
     ·rw [if_neg c16] at H; have c16b0 : (aH == 0) = false := beq_eq_false_iff_ne.mpr c16; have c16b1 : (aH != 0) = true := bne_iff_ne.mpr c16; obtain rfl := Option.some.inj H; go_enter Try.func60, Try.ntmps60; go_wp2_with (first | ((with_reducible refine bu (N := 1) rfl ?_); (try (refine dx (by rfl) ?_; dsimp only)); refine bz ?hg (N := 1) ?hd (cs := #[.int .i64 ak, .int .i64 aG, .int .i64 aH, .int .i64 aD, .slice bL ag.length bF]) (t := 27) ?hr ?_; (case hd => rfl); (case hg => rfl); (case hr => first | (go_simp; done) | (go_simp; rfl)); intro pO hg w19 aU hb; have pQ := aa.mk (aU); have pR : aa (w.heap.size ≤ pO) := gw_ hg (aI bl_); have Et := pR; replace HB := aa.mk (ay bl_ hb); clear hb aU hg; obtain ⟨zG, zH, zI, zJ, zK, zL, zM, zN, zO, zP⟩ := bQ pQ.out))
      go_ret; exact ⟨re_, bl_⟩
    ·rw [if_neg c15] at H; have si : (aG == 0) = false := beq_eq_false_iff_ne.mpr c15; have Ep : (aG != 0) = true := bne_iff_ne.mpr c15; obtain rfl := Option.some.inj H; go_enter Try.func60, Try.ntmps60; go_wp2_with (first | ((with_reducible refine bu (N := 1) rfl ?_); (try (refine dx (by rfl) ?_; dsimp only)); refine bz ?hg (N := 1) ?hd (cs := #[.int .i64 ak, .int .i64 aG, .int .i64 aH, .int .i64 aD, .slice bL ag.length bF]) (t := 27) ?hr ?_; (case hd => rfl); (case hg => rfl); (case hr => first | (go_simp; done) | (go_simp; rfl)); intro pO hg w21 aU hb; have pQ := aa.mk (aU); have pR : aa (w.heap.size ≤ pO) := gw_ hg (aI bl_); have Et := pR; replace HB := aa.mk (ay bl_ hb); clear hb aU hg; obtain ⟨uS, uT, xn, xq, xu, uU, uV, xw, xx, xy⟩ := bQ pQ.out))
     go_ret; exact ⟨re_, bl_⟩
   ·rw [if_neg c14] at H; have xJ : (ak == 5) = false := beq_eq_false_iff_ne.mpr c14; have Ej : (ak != 5) = true := bne_iff_ne.mpr c14; by_cases c23 : aG = 0
    ·rw [if_pos c23] at H; have uH : (aG == 0) = true := beq_iff_eq.mpr c23; have Cu : (aG != 0) = false := bne_eq_false_iff_eq.mpr c23; clear c23; by_cases c24 : aH = 0
     ·rw [if_pos c24] at H; have xK : (aH == 0) = true := beq_iff_eq.mpr c24; have Qb : (aH != 0) = false := bne_eq_false_iff_eq.mpr c24; clear c24; by_cases c25 : aD = 0
      ·rw [if_pos c25] at H; have KJ : (aD == 0) = true := beq_iff_eq.mpr c25; have c25b1 : (aD != 0) = false := bne_eq_false_iff_eq.mpr c25; clear c25; obtain rfl := Option.some.inj H; go_enter Try.func60, Try.ntmps60; go_wp2_with (first | ((with_reducible refine bu (N := 1) rfl ?_); (try (refine dx (by rfl) ?_; dsimp only)); refine bz ?hg (N := 1) ?hd (cs := #[.int .i64 ak, .int .i64 aG, .int .i64 aH, .int .i64 aD, .slice bL ag.length bF]) (t := 27) ?hr ?_; (case hd => rfl); (case hg => rfl); (case hr => first | (go_simp; done) | (go_simp; rfl)); intro pO hg w26 aU hb; have pQ := aa.mk (aU); have pR : aa (w.heap.size ≤ pO) := gw_ hg (aI bl_); have Et := pR; replace HB := aa.mk (ay bl_ hb); clear hb aU hg; obtain ⟨zm, zn, zo, zq, zt, zu, zw, zx, zy, zz⟩ := bQ pQ.out))
       go_ret; exact ⟨re_, bl_⟩
      ·rw [if_neg c25] at H; have KJ : (aD == 0) = false := beq_eq_false_iff_ne.mpr c25; have c25b1 : (aD != 0) = true := bne_iff_ne.mpr c25; obtain rfl := Option.some.inj H; go_enter Try.func60, Try.ntmps60; go_wp2_with (first | ((with_reducible refine bu (N := 1) rfl ?_); (try (refine dx (by rfl) ?_; dsimp only)); refine bz ?hg (N := 1) ?hd (cs := #[.int .i64 ak, .int .i64 aG, .int .i64 aH, .int .i64 aD, .slice bL ag.length bF]) (t := 27) ?hr ?_; (case hd => rfl); (case hg => rfl); (case hr => first | (go_simp; done) | (go_simp; rfl)); intro pO hg w28 aU hb; have pQ := aa.mk (aU); have pR : aa (w.heap.size ≤ pO) := gw_ hg (aI bl_); have Et := pR; replace HB := aa.mk (ay bl_ hb); clear hb aU hg; obtain ⟨qx, qy, wF, wG, wH, qz, qA, wI, wJ, wK⟩ := bQ pQ.out))
       go_ret; exact ⟨re_, bl_⟩
     ·rw [if_neg c24] at H; have xK : (aH == 0) = false := beq_eq_false_iff_ne.mpr c24; have Qb : (aH != 0) = true := bne_iff_ne.mpr c24; obtain rfl := Option.some.inj H; go_enter Try.func60, Try.ntmps60; go_wp2_with (first | ((with_reducible refine bu (N := 1) rfl ?_); (try (refine dx (by rfl) ?_; dsimp only)); refine bz ?hg (N := 1) ?hd (cs := #[.int .i64 ak, .int .i64 aG, .int .i64 aH, .int .i64 aD, .slice bL ag.length bF]) (t := 27) ?hr ?_; (case hd => rfl); (case hg => rfl); (case hr => first | (go_simp; done) | (go_simp; rfl)); intro pO hg w30 aU hb; have pQ := aa.mk (aU); have pR : aa (w.heap.size ≤ pO) := gw_ hg (aI bl_); have Et := pR; replace HB := aa.mk (ay bl_ hb); clear hb aU hg; obtain ⟨hcz31_0, hcz31_1, hcz31_2, hcz31_3, hcz31_4, hfz31_0, hfz31_1, hfz31_2, hfz31_3, hfz31_4⟩ := bQ pQ.out))
      go_ret; exact ⟨re_, bl_⟩
    ·rw [if_neg c23] at H; have uH : (aG == 0) = false := beq_eq_false_iff_ne.mpr c23; have Cu : (aG != 0) = true := bne_iff_ne.mpr c23; obtain rfl := Option.some.inj H; go_enter Try.func60, Try.ntmps60; go_wp2_with (first | ((with_reducible refine bu (N := 1) rfl ?_); (try (refine dx (by rfl) ?_; dsimp only)); refine bz ?hg (N := 1) ?hd (cs := #[.int .i64 ak, .int .i64 aG, .int .i64 aH, .int .i64 aD, .slice bL ag.length bF]) (t := 27) ?hr ?_; (case hd => rfl); (case hg => rfl); (case hr => first | (go_simp; done) | (go_simp; rfl)); intro pO hg w32 aU hb; have pQ := aa.mk (aU); have pR : aa (w.heap.size ≤ pO) := gw_ hg (aI bl_); have Et := pR; replace HB := aa.mk (ay bl_ hb); clear hb aU hg; obtain ⟨Jt, Ju, MN, MO, MP, Jv, Jw, MQ, MR, MS⟩ := bQ pQ.out))
     go_ret; exact ⟨re_, bl_⟩

end Go.Proofs.Ytggelekooacmnaa.Z
namespace Go.Proofs.Ytggelekooacmnaa.Z
open Go.RowKit Go.Proofs.YtggelekooacmnaaW.bM Go.Proofs.YtggelekooacmnaaW.dR Go.Proofs.YtggelekooacmnaaW.eO
attribute [local go_sem] iM iN jk jl gW gX iO iP   -- for this text's walks alone
set_option linter.unusedVariables false
set_option linter.unusedSimpArgs false

/-! ### bg: function 53 -/
mutual
def bg.j0 : Nat → Bool → Int → Int → Int → Int → List (S27) → Option (Int)
 | 0, _, _, _, _, _, _ => none
 | k + 1, x15, xz, zR, zS, zT, lX => if x15 = true then (some 14) else ((jY.f xz zR zS zT lX).bind fun t266 => (if t266 = true then (some 2) else (if xz = 2 then (if zR < (-1000) then (some 1) else (if zR > zS then (some 1) else (if zS > 1000 then (some 1) else (some 0)))) else (if xz = 5 then (if (lX.length : Int) < 2 then (bg.j1 k true xz zR zS zT lX) else (bg.j1 k (decide ((lX.length : Int) > 4)) xz zR zS zT lX)) else (if xz = 6 then (if zT < 1 then (bg.j3 k true xz zR zS zT lX) else (bg.j3 k (decide (zT > 4)) xz zR zS zT lX)) else (some 0))))))
def bg.j1 : Nat → Bool → Int → Int → Int → Int → List (S27) → Option (Int)
 | 0, _, _, _, _, _, _ => none
 | k + 1, x48, xz, zR, zS, zT, lX => if x48 = true then (some 1) else (bg.l0 k lX (lX.length : Int) 0)
def bg.l0 : Nat → List (S27) → Int → Int → Option (Int)
 | 0, _, _, _ => none
 | k + 1, x50, x51, x52 => if x52 < x51 then (if 0 ≤ x52 then (if x52 < (x50.length : Int) then ((bg.f k ((aj x50 x52).f0) ((aj x50 x52).f1) ((aj x50 x52).f2) ((aj x50 x52).f3) ((aj x50 x52).f4)).bind fun CE => (if CE = 0 then (if ((aj x50 x52).f0) = 3 then (some 8) else (if ((aj x50 x52).f0) = 4 then (some 8) else (bg.l0 k x50 x51 (wrap64 (x52 + 1))))) else (some CE))) else (none)) else (none)) else (some 0)
def bg.j3 : Nat → Bool → Int → Int → Int → Int → List (S27) → Option (Int)
 | 0, _, _, _, _, _, _ => none
 | k + 1, x79, xz, zR, zS, zT, lX => if x79 = true then (some 1) else (if (lX.length : Int) = 1 then (if 0 < (lX.length : Int) then ((bg.f k ((aj lX 0).f0) ((aj lX 0).f1) ((aj lX 0).f2) ((aj lX 0).f3) ((aj lX 0).f4)).bind fun yn => (if yn = 0 then (if ((aj lX 0).f0) = 1 then (some 0) else (if ((aj lX 0).f0) = 2 then (some 0) else (some 8))) else (some yn))) else (none)) else (some 2))
def bg.f : Nat → Int → Int → Int → Int → List (S27) → Option (Int)
 | 0, _, _, _, _, _ => none
 | k + 1, ak, aG, aH, aD, ag => if ak < 1 then (bg.j0 k true ak aG aH aD ag) else (bg.j0 k (decide (ak > 6)) ak aG aH aD ag)
end
theorem bg.iU : ∀ k, (∀ y0 y1 y2 y3 y4, LeO (bg.f k y0 y1 y2 y3 y4) (bg.f (k + 1) y0 y1 y2 y3 y4)) ∧ (∀ y0 y1 y2 y3 y4 y5, LeO (bg.j0 k y0 y1 y2 y3 y4 y5) (bg.j0 (k + 1) y0 y1 y2 y3 y4 y5)) ∧ (∀ y0 y1 y2 y3 y4 y5, LeO (bg.j1 k y0 y1 y2 y3 y4 y5) (bg.j1 (k + 1) y0 y1 y2 y3 y4 y5)) ∧ (∀ y0 y1 y2, LeO (bg.l0 k y0 y1 y2) (bg.l0 (k + 1) y0 y1 y2)) ∧ (∀ y0 y1 y2 y3 y4 y5, LeO (bg.j3 k y0 y1 y2 y3 y4 y5) (bg.j3 (k + 1) y0 y1 y2 y3 y4 y5))
 | 0 => ⟨fun _ _ _ _ _ r h => by simp [bg.f] at h, fun _ _ _ _ _ _ r h => by simp [bg.j0] at h, fun _ _ _ _ _ _ r h => by simp [bg.j1] at h, fun _ _ _ r h => by simp [bg.l0] at h, fun _ _ _ _ _ _ r h => by simp [bg.j3] at h⟩
 | k + 1 => by
  obtain ⟨ih0, ih1, ih2, ih3, ih4⟩ := bg.iU k; refine ⟨?_, ?_, ?_, ?_, ?_⟩
  ·intro y0 y1 y2 y3 y4; unfold bg.f; repeat' first
   | (with_reducible exact ih0 _ _ _ _ _)
   | (with_reducible exact ih1 _ _ _ _ _ _)
   | (with_reducible exact ih2 _ _ _ _ _ _)
   | (with_reducible exact ih3 _ _ _)
   | (with_reducible exact ih4 _ _ _ _ _ _)
   | (with_reducible exact LeO.refl _)
   | (with_reducible exact LeO.none _)
   | (with_reducible refine LeO.ite ?_ ?_)
   | (with_reducible refine LeO.bind ?_ (fun _ => ?_))
   | exact ih0 _ _ _ _ _
   | exact ih1 _ _ _ _ _ _
   | exact ih2 _ _ _ _ _ _
   | exact ih3 _ _ _
   | exact ih4 _ _ _ _ _ _
   | exact LeO.none _
   | refine LeO.ite ?_ ?_
   | refine LeO.bind ?_ (fun _ => ?_)
  ·intro y0 y1 y2 y3 y4 y5; unfold bg.j0; repeat' first
   | (with_reducible exact ih0 _ _ _ _ _)
   | (with_reducible exact ih1 _ _ _ _ _ _)
   | (with_reducible exact ih2 _ _ _ _ _ _)
   | (with_reducible exact ih3 _ _ _)
   | (with_reducible exact ih4 _ _ _ _ _ _)
   | (with_reducible exact LeO.refl _)
   | (with_reducible exact LeO.none _)
   | (with_reducible refine LeO.ite ?_ ?_)
   | (with_reducible refine LeO.bind ?_ (fun _ => ?_))
   | exact ih0 _ _ _ _ _
   | exact ih1 _ _ _ _ _ _
   | exact ih2 _ _ _ _ _ _
   | exact ih3 _ _ _
   | exact ih4 _ _ _ _ _ _
   | exact LeO.none _
   | refine LeO.ite ?_ ?_
   | refine LeO.bind ?_ (fun _ => ?_)
  ·intro y0 y1 y2 y3 y4 y5; unfold bg.j1; repeat' first
   | (with_reducible exact ih0 _ _ _ _ _)
   | (with_reducible exact ih1 _ _ _ _ _ _)
   | (with_reducible exact ih2 _ _ _ _ _ _)
   | (with_reducible exact ih3 _ _ _)
   | (with_reducible exact ih4 _ _ _ _ _ _)
   | (with_reducible exact LeO.refl _)
   | (with_reducible exact LeO.none _)
   | (with_reducible refine LeO.ite ?_ ?_)
   | (with_reducible refine LeO.bind ?_ (fun _ => ?_))
   | exact ih0 _ _ _ _ _
   | exact ih1 _ _ _ _ _ _
   | exact ih2 _ _ _ _ _ _
   | exact ih3 _ _ _
   | exact ih4 _ _ _ _ _ _
   | exact LeO.none _
   | refine LeO.ite ?_ ?_
   | refine LeO.bind ?_ (fun _ => ?_)
  ·intro y0 y1 y2; unfold bg.l0; repeat' first
   | (with_reducible exact ih0 _ _ _ _ _)
   | (with_reducible exact ih1 _ _ _ _ _ _)
   | (with_reducible exact ih2 _ _ _ _ _ _)
   | (with_reducible exact ih3 _ _ _)
   | (with_reducible exact ih4 _ _ _ _ _ _)
   | (with_reducible exact LeO.refl _)
   | (with_reducible exact LeO.none _)
   | (with_reducible refine LeO.ite ?_ ?_)
   | (with_reducible refine LeO.bind ?_ (fun _ => ?_))
   | exact ih0 _ _ _ _ _
   | exact ih1 _ _ _ _ _ _
   | exact ih2 _ _ _ _ _ _
   | exact ih3 _ _ _
   | exact ih4 _ _ _ _ _ _
   | exact LeO.none _
   | refine LeO.ite ?_ ?_
   | refine LeO.bind ?_ (fun _ => ?_)
  ·intro y0 y1 y2 y3 y4 y5; unfold bg.j3; repeat' first
   | (with_reducible exact ih0 _ _ _ _ _)
   | (with_reducible exact ih1 _ _ _ _ _ _)
   | (with_reducible exact ih2 _ _ _ _ _ _)
   | (with_reducible exact ih3 _ _ _)
   | (with_reducible exact ih4 _ _ _ _ _ _)
   | (with_reducible exact LeO.refl _)
   | (with_reducible exact LeO.none _)
   | (with_reducible refine LeO.ite ?_ ?_)
   | (with_reducible refine LeO.bind ?_ (fun _ => ?_))
   | exact ih0 _ _ _ _ _
   | exact ih1 _ _ _ _ _ _
   | exact ih2 _ _ _ _ _ _
   | exact ih3 _ _ _
   | exact ih4 _ _ _ _ _ _
   | exact LeO.none _
   | refine LeO.ite ?_ ?_
   | refine LeO.bind ?_ (fun _ => ?_)
theorem bg.mono : ∀ a0 a1 a2 a3 a4 k, LeO (bg.f k a0 a1 a2 a3 a4) (bg.f (k + 1) a0 a1 a2 a3 a4) := by
 intro a0 a1 a2 a3 a4 k; obtain ⟨ih0, ih1, ih2, ih3, ih4⟩ := bg.iU k; exact ih0 a0 a1 a2 a3 a4
set_option maxHeartbeats 8000000 in
set_option maxRecDepth 100000 in
theorem bg.calls (k : Nat) : ∀ (ak : Int) (aG : Int) (aH : Int) (aD : Int) (bL : Option Addr) (bF : Nat) (ag : List (S27)) (r : Int) (w : World) (gM : Kd.C k27 w bL ag.length ag) (gN : ag.length ≤ bF) (h : bg.f k ak aG aH aD ag = some r),
  Calls Try.prog 53 #[.agg #[.int .i64 ak, .int .i64 aG, .int .i64 aH, .int .i64 aD, .slice bL ag.length bF]] w fun e w' => e = .returned (.int .i64 r) ∧ Below w.heap.size w w' := by
 induction k using Nat.strongRecOn with
 | _ k ih =>
 intro ak aG aH aD bL bF ag r w gM gN h; cases k with
 | zero => exact absurd h (by simp [bg.f])
 | succ k =>
 simp only [bg.f] at h; have rY := Try.underlying27; have dH := aa.mk gM; have fq := aa.mk gN; clear gM gN; have HB := aa.mk (Below.refl w.heap.size w); have H : (if ak < 1 then (bg.j0 k true ak aG aH aD ag) else (bg.j0 k (decide (ak > 6)) ak aG aH aD ag)) = some r := h; clear h; have HC2 := aa.mk H; clear H; go_enter Try.func53, Try.ntmps53; go_upto_region 1 with (first | ((with_reducible refine bu (N := 1) rfl ?_); (try (refine dx (by rfl) ?_; dsimp only)); refine bz ?hg (N := 1) ?hd (cs := #[.int .i64 ak, .int .i64 aG, .int .i64 aH, .int .i64 aD, .slice bL ag.length bF]) (t := 27) ?hr ?_; (case hd => rfl); (case hg => rfl); (case hr => first | (go_simp; done) | (go_simp; rfl)); intro FD hg w3 aU hb; have eY := aa.mk (aU); have GW265 : aa (w.heap.size ≤ FD) := gw_ hg (aI bl_); have GE265 := GW265; replace HB := aa.mk (ay bl_ hb); clear hb aU hg))
 (try simp only [Act.put, List.setIfInBounds_toArray, List.set_cons_zero, List.set_cons_succ])
 go_cut [15] (fun v15 wc => ∃ (kq : Nat) (x15_1 : Bool), v15 = .bool x15_1 ∧ aa (bg.j0 kq x15_1 ak aG aH aD ag = some r) ∧ aa (kq ≤ k) ∧ aa (wc.heap[FD]? = some (.cells #[.int .i64 ak, .int .i64 aG, .int .i64 aH, .int .i64 aD, (.slice bL ag.length bF)] 27 (0, 0))) ∧ aa (Below w.heap.size w wc))
 case first =>
  have H := HC2.out; clear HC2; by_cases c4 : ak < 1
  ·rw [if_pos c4] at H; have nz : decide (ak < 1) = true := decide_eq_true c4; clear c4; (first | rw [nz] | (simp only [eQ, fe]; rw [nz]) | skip)
   have H' := aa.mk H; clear H; obtain ⟨Hl, Hm, Ho, Hq, Hr, Ht, Hu, Hw, Hy, Hz⟩ := bQ eY.out; go_wp2; go_meet
   case rel => exact ⟨_, (true), rs_, H', ⟨by first | omega | exact Nat.le_refl _⟩, ⟨bk_⟩, ⟨bl_⟩⟩
  ·rw [if_neg c4] at H; have nz : decide (ak < 1) = false := decide_eq_false c4; clear c4; (first | rw [nz] | (simp only [eQ, fe]; rw [nz]) | skip)
   have H' := aa.mk H; clear H; obtain ⟨JQ, JR, JS, JU, JV, JW, JX, JY, JZ, J2⟩ := bQ eY.out; go_wp2; go_meet
   case rel => exact ⟨_, (decide (ak > 6)), rs_, H', ⟨by first | omega | exact Nat.le_refl _⟩, ⟨bk_⟩, ⟨bl_⟩⟩
 case rest =>
  clear HC2; (try clear p2); (try clear c4); (try clear nz); (try clear c5); (try clear Hl Hm Ho Hq Hr Ht Hu Hw Hy Hz); (try clear JQ JR JS JU JV JW JX JY JZ J2); obtain ⟨kq, x15_1, rfl, HA, HJ1, eY, HB⟩ := hcut; cases kq with
  | zero => exact absurd HA.out (by simp [bg.j0])
  | succ kj1 =>
   have H := HA.out; clear HA; simp only [bg.j0] at H; by_cases c7 : x15_1 = true
   ·subst c7; have H1 : (some 14) = some r := by rw [if_pos rfl] at H; exact H
    clear H; have H := H1; clear H1; obtain rfl := Option.some.inj H; go_wp2; go_ret; exact ⟨re_, bl_⟩
   ·replace c7 := Bool.eq_false_iff.mpr c7; subst c7; have H1 : ((jY.f ak aG aH aD ag).bind fun t266 => (if t266 = true then (some 2) else (if ak = 2 then (if aG < (-1000) then (some 1) else (if aG > aH then (some 1) else (if aH > 1000 then (some 1) else (some 0)))) else (if ak = 5 then (if (ag.length : Int) < 2 then (bg.j1 kj1 true ak aG aH aD ag) else (bg.j1 kj1 (decide ((ag.length : Int) > 4)) ak aG aH aD ag)) else (if ak = 6 then (if aD < 1 then (bg.j3 kj1 true ak aG aH aD ag) else (bg.j3 kj1 (decide (aD > 4)) ak aG aH aD ag)) else (some 0)))))) = some r := by rw [if_neg (show ¬ (false = true) by decide)] at H; exact H
    clear H; have H := H1; clear H1; replace H := Option.bind_eq_some_iff.mp H; obtain ⟨t266, A80, H⟩ := H; replace H : (if t266 = true then (some 2) else (if ak = 2 then (if aG < (-1000) then (some 1) else (if aG > aH then (some 1) else (if aH > 1000 then (some 1) else (some 0)))) else (if ak = 5 then (if (ag.length : Int) < 2 then (bg.j1 kj1 true ak aG aH aD ag) else (bg.j1 kj1 (decide ((ag.length : Int) > 4)) ak aG aH aD ag)) else (if ak = 6 then (if aD < 1 then (bg.j3 kj1 true ak aG aH aD ag) else (bg.j3 kj1 (decide (aD > 4)) ak aG aH aD ag)) else (some 0))))) = some r := H; have A8 := aa.mk A80; clear A80; by_cases c9 : t266 = true
    ·subst c9; have H1 : (some 2) = some r := by rw [if_pos rfl] at H; exact H
     clear H; have H := H1; clear H1; obtain rfl := Option.some.inj H; obtain ⟨qB, qC, rJ, rM, rO, qD, qE, rP, rQ, rR⟩ := bQ eY.out; go_wp2_with (first | ((with_reducible refine aZ (f := 60) rfl ?_); refine cz (some 17) rfl rfl Try.func60 (by kernel_rfl) rfl #[.agg #[.int .i64 ak, .int .i64 aG, .int .i64 aH, .int .i64 aD, .slice bL ag.length bF]] rfl mp_ ?_; (with_reducible refine (jY.calls ak aG aH aD _ _ ag true _ ?aX ?aY A8.out).mono ?_); (case aX => exact cb_ (Kd.bX dH.out HB.out)); (case aY => exact fq.out); rintro e w11 ⟨rfl, hb⟩; refine ⟨_, rfl, ?_⟩; replace eY := kb_ eY hb; replace HB := aa.mk (ay bl_ hb); (try clear hb); (try clear hb2); (try clear hk); (try clear hi)))
     go_ret; exact ⟨re_, bl_⟩
    ·replace c9 := Bool.eq_false_iff.mpr c9; subst c9; have H1 : (if ak = 2 then (if aG < (-1000) then (some 1) else (if aG > aH then (some 1) else (if aH > 1000 then (some 1) else (some 0)))) else (if ak = 5 then (if (ag.length : Int) < 2 then (bg.j1 kj1 true ak aG aH aD ag) else (bg.j1 kj1 (decide ((ag.length : Int) > 4)) ak aG aH aD ag)) else (if ak = 6 then (if aD < 1 then (bg.j3 kj1 true ak aG aH aD ag) else (bg.j3 kj1 (decide (aD > 4)) ak aG aH aD ag)) else (some 0)))) = some r := by rw [if_neg (show ¬ (false = true) by decide)] at H; exact H
     clear H; have H := H1; clear H1; by_cases c12 : ak = 2
     ·rw [if_pos c12] at H; have uu : (ak == 2) = true := beq_iff_eq.mpr c12; have Er : (ak != 2) = false := bne_eq_false_iff_eq.mpr c12; clear c12; by_cases c13 : aG < (-1000)
      ·rw [if_pos c13] at H; have uw : decide (aG < (-1000)) = true := decide_eq_true c13; clear c13; obtain rfl := Option.some.inj H; obtain ⟨mg, mh, mi, mo, mq, mr, mD, mE, mF, mG⟩ := bQ eY.out; go_wp2_with (first | ((with_reducible refine aZ (f := 60) rfl ?_); refine cz (some 17) rfl rfl Try.func60 (by kernel_rfl) rfl #[.agg #[.int .i64 ak, .int .i64 aG, .int .i64 aH, .int .i64 aD, .slice bL ag.length bF]] rfl mp_ ?_; (with_reducible refine (jY.calls ak aG aH aD _ _ ag false _ ?aX ?aY A8.out).mono ?_); (case aX => exact cb_ (Kd.bX dH.out HB.out)); (case aY => exact fq.out); rintro e w15 ⟨rfl, hb⟩; refine ⟨_, rfl, ?_⟩; replace eY := kb_ eY hb; replace HB := aa.mk (ay bl_ hb); (try clear hb); (try clear hb2); (try clear hk); (try clear hi); obtain ⟨tq, tu, tC, tF, tH, tJ, tK, tL, tN, tO⟩ := bQ eY.out))
       go_ret; exact ⟨re_, bl_⟩
      ·rw [if_neg c13] at H; have uw : decide (aG < (-1000)) = false := decide_eq_false c13; clear c13; by_cases c17 : aG > aH
       ·rw [if_pos c17] at H; have Es : decide (aH < aG) = true := decide_eq_true c17; clear c17; obtain rfl := Option.some.inj H; obtain ⟨oU, oV, xc, xe, xg, oW, oZ, xh, xk, xm⟩ := bQ eY.out; go_wp2_with (first | ((with_reducible refine aZ (f := 60) rfl ?_); refine cz (some 17) rfl rfl Try.func60 (by kernel_rfl) rfl #[.agg #[.int .i64 ak, .int .i64 aG, .int .i64 aH, .int .i64 aD, .slice bL ag.length bF]] rfl mp_ ?_; (with_reducible refine (jY.calls ak aG aH aD _ _ ag false _ ?aX ?aY A8.out).mono ?_); (case aX => exact cb_ (Kd.bX dH.out HB.out)); (case aY => exact fq.out); rintro e w19 ⟨rfl, hb⟩; refine ⟨_, rfl, ?_⟩; replace eY := kb_ eY hb; replace HB := aa.mk (ay bl_ hb); (try clear hb); (try clear hb2); (try clear hk); (try clear hi); obtain ⟨zG, zH, zI, zJ, zK, zL, zM, zN, zO, zP⟩ := bQ eY.out))
        go_ret; exact ⟨re_, bl_⟩
       ·rw [if_neg c17] at H; have Es : decide (aH < aG) = false := decide_eq_false c17; clear c17; by_cases c21 : aH > 1000
        ·rw [if_pos c21] at H; have Eu : decide (1000 < aH) = true := decide_eq_true c21; clear c21; obtain rfl := Option.some.inj H; obtain ⟨uS, uT, xn, xq, xu, uU, uV, xw, xx, xy⟩ := bQ eY.out; go_wp2_with (first | ((with_reducible refine aZ (f := 60) rfl ?_); refine cz (some 17) rfl rfl Try.func60 (by kernel_rfl) rfl #[.agg #[.int .i64 ak, .int .i64 aG, .int .i64 aH, .int .i64 aD, .slice bL ag.length bF]] rfl mp_ ?_; (with_reducible refine (jY.calls ak aG aH aD _ _ ag false _ ?aX ?aY A8.out).mono ?_); (case aX => exact cb_ (Kd.bX dH.out HB.out)); (case aY => exact fq.out); rintro e w23 ⟨rfl, hb⟩; refine ⟨_, rfl, ?_⟩; replace eY := kb_ eY hb; replace HB := aa.mk (ay bl_ hb); (try clear hb); (try clear hb2); (try clear hk); (try clear hi); obtain ⟨DN, DR, Nu, Nv, Nw, DT, DU, Ny, Nz, NA⟩ := bQ eY.out))
         go_ret; exact ⟨re_, bl_⟩
        ·rw [if_neg c21] at H; have Eu : decide (1000 < aH) = false := decide_eq_false c21; clear c21; obtain rfl := Option.some.inj H; obtain ⟨Bj, Bl, Bn, Bo, Bp, Bq, Br, Bt, Bu, Bw⟩ := bQ eY.out; go_wp2_with (first | ((with_reducible refine aZ (f := 60) rfl ?_); refine cz (some 17) rfl rfl Try.func60 (by kernel_rfl) rfl #[.agg #[.int .i64 ak, .int .i64 aG, .int .i64 aH, .int .i64 aD, .slice bL ag.length bF]] rfl mp_ ?_; (with_reducible refine (jY.calls ak aG aH aD _ _ ag false _ ?aX ?aY A8.out).mono ?_); (case aX => exact cb_ (Kd.bX dH.out HB.out)); (case aY => exact fq.out); rintro e w26 ⟨rfl, hb⟩; refine ⟨_, rfl, ?_⟩; replace eY := kb_ eY hb; replace HB := aa.mk (ay bl_ hb); (try clear hb); (try clear hb2); (try clear hk); (try clear hi); obtain ⟨zm, zn, zo, zq, zt, zu, zw, zx, zy, zz⟩ := bQ eY.out))
         go_ret; exact ⟨re_, bl_⟩
     ·rw [if_neg c12] at H; have uu : (ak == 2) = false := beq_eq_false_iff_ne.mpr c12; have Er : (ak != 2) = true := bne_iff_ne.mpr c12; by_cases c28 : ak = 5
      ·rw [if_pos c28] at H; have c28b0 : (ak == 5) = true := beq_iff_eq.mpr c28; have c28b1 : (ak != 5) = false := bne_eq_false_iff_eq.mpr c28; clear c28; have HC29 := aa.mk H; clear H; obtain ⟨BP, BQ, JK, JL, JM, BR, BS, JN, JO, JP⟩ := bQ eY.out; go_upto_region 10 with (first | ((with_reducible refine aZ (f := 60) rfl ?_); refine cz (some 17) rfl rfl Try.func60 (by kernel_rfl) rfl #[.agg #[.int .i64 ak, .int .i64 aG, .int .i64 aH, .int .i64 aD, .slice bL ag.length bF]] rfl mp_ ?_; (with_reducible refine (jY.calls ak aG aH aD _ _ ag false _ ?aX ?aY A8.out).mono ?_); (case aX => exact cb_ (Kd.bX dH.out HB.out)); (case aY => exact fq.out); rintro e w31 ⟨rfl, hb⟩; refine ⟨_, rfl, ?_⟩; replace eY := kb_ eY hb; replace HB := aa.mk (ay bl_ hb); (try clear hb); (try clear hb2); (try clear hk); (try clear hi); obtain ⟨wW, wX, F5, F6, F7, wY, wZ, F8, F9, Ga⟩ := bQ eY.out))
       (try simp only [Act.put, List.setIfInBounds_toArray, List.set_cons_zero, List.set_cons_succ])
       go_cut [48] (fun v48 wc => ∃ (kq : Nat) (Qc : Bool), v48 = .bool Qc ∧ aa (bg.j1 kq Qc ak aG aH aD ag = some r) ∧ aa (kq ≤ kj1) ∧ aa (wc.heap[FD]? = some (.cells #[.int .i64 ak, .int .i64 aG, .int .i64 aH, .int .i64 aD, (.slice bL ag.length bF)] 27 (0, 0))) ∧ aa (Below w.heap.size w wc))
       case first =>
        have H := HC29.out; clear HC29; by_cases c33 : (ag.length : Int) < 2
        ·rw [if_pos c33] at H; have yN : decide ((ag.length : Int) < 2) = true := decide_eq_true c33; have c33b1 : decide (ag.length < 2) = true := decide_eq_true (by omega); clear c33; (first | rw [yN] | (simp only [eQ, fe]; rw [yN]) | skip)
         have H' := aa.mk H; clear H; obtain ⟨Gg, Gh, Gi, Gj, Gl, Gm, Gn, Gp, Gq, Gr⟩ := bQ eY.out; go_wp2; go_meet
         case rel => exact ⟨_, (true), rs_, H', ⟨by have := HJ1.out; first | omega | exact Nat.le_refl _⟩, ⟨bk_⟩, ⟨bl_⟩⟩
        ·rw [if_neg c33] at H; have yN : decide ((ag.length : Int) < 2) = false := decide_eq_false c33; have c33b1 : decide (ag.length < 2) = false := decide_eq_false (by omega); clear c33; (first | rw [yN] | (simp only [eQ, fe]; rw [yN]) | skip)
         have H' := aa.mk H; clear H; obtain ⟨wM, wN, wO, wP, wQ, wR, wS, wT, wU, wV⟩ := bQ eY.out; go_wp2; go_meet
         case rel => exact ⟨_, (decide ((ag.length : Int) > 4)), rs_, H', ⟨by have := HJ1.out; first | omega | exact Nat.le_refl _⟩, ⟨bk_⟩, ⟨bl_⟩⟩
       case rest =>
        clear HC29; (try clear c1); (try clear c2); (try clear p2); (try clear c3); (try clear c4); (try clear nz); (try clear c5); (try clear c6); (try clear c7); (try clear c9); (try clear c12); (try clear uu); (try clear Er); (try clear c13); (try clear uw); (try clear c17); (try clear Es); (try clear c21); (try clear Eu); (try clear c28); (try clear c28b0); (try clear c28b1); (try clear c33); (try clear yN); (try clear c33b1); (try clear qB qC rJ rM rO qD qE rP rQ rR); (try clear mg mh mi mo mq mr mD mE mF mG); (try clear tq tu tC tF tH tJ tK tL tN tO); (try clear oU oV xc xe xg oW oZ xh xk xm); (try clear zG zH zI zJ zK zL zM zN zO zP); (try clear uS uT xn xq xu uU uV xw xx xy); (try clear DN DR Nu Nv Nw DT DU Ny Nz NA); (try clear Bj Bl Bn Bo Bp Bq Br Bt Bu Bw); (try clear zm zn zo zq zt zu zw zx zy zz); (try clear BP BQ JK JL JM BR BS JN JO JP); (try clear wW wX F5 F6 F7 wY wZ F8 F9 Ga); (try clear Gg Gh Gi Gj Gl Gm Gn Gp Gq Gr); (try clear wM wN wO wP wQ wR wS wT wU wV); (try clear Hl Hm Ho Hq Hr Ht Hu Hw Hy Hz); (try clear JQ JR JS JU JV JW JX JY JZ J2); (try clear p2); obtain ⟨kq, Qc, rfl, HA, HJ28, eY, HB⟩ := hcut; cases kq with
        | zero => exact absurd HA.out (by simp [bg.j1])
        | succ kj28 =>
         have H := HA.out; clear HA; simp only [bg.j1] at H; by_cases c36 : Qc = true
         ·subst c36; have H1 : (some 1) = some r := by rw [if_pos rfl] at H; exact H
          clear H; have H := H1; clear H1; obtain rfl := Option.some.inj H; go_wp2; go_ret; exact ⟨re_, bl_⟩
         ·replace c36 := Bool.eq_false_iff.mpr c36; subst c36; have H1 : (bg.l0 kj28 ag (ag.length : Int) 0) = some r := by rw [if_neg (show ¬ (false = true) by decide)] at H; exact H
          clear H; have H := H1; clear H1; have H' := aa.mk H; clear H; obtain ⟨yO, yP, yQ, yR, yS, yT, yU, yV, yX, yY⟩ := bQ eY.out; go_wp2; go_loopg [52] kj28 (fun kq v52 w' => ∃ (cZ : Int), v52 = .int .i64 cZ ∧ aa (bg.l0 kq ag (ag.length : Int) cZ = some r) ∧ aa (kq ≤ kj28) ∧ aa (w'.heap[FD]? = some (.cells #[.int .i64 ak, .int .i64 aG, .int .i64 aH, .int .i64 aD, (.slice bL ag.length bF)] 27 (0, 0))) ∧ aa (Below w.heap.size w w'))
          case atStart => exact ⟨(0), rs_, H', ⟨Nat.le_refl _⟩, ⟨bk_⟩, ⟨bl_⟩⟩
          case round =>
           clear H'; (try clear c1); (try clear c2); (try clear p2); (try clear c3); (try clear c4); (try clear nz); (try clear c5); (try clear c6); (try clear c7); (try clear c9); (try clear c12); (try clear uu); (try clear Er); (try clear c13); (try clear uw); (try clear c17); (try clear Es); (try clear c21); (try clear Eu); (try clear c28); (try clear c28b0); (try clear c28b1); (try clear c33); (try clear yN); (try clear c33b1); (try clear c36); (try clear qB qC rJ rM rO qD qE rP rQ rR); (try clear mg mh mi mo mq mr mD mE mF mG); (try clear tq tu tC tF tH tJ tK tL tN tO); (try clear oU oV xc xe xg oW oZ xh xk xm); (try clear zG zH zI zJ zK zL zM zN zO zP); (try clear uS uT xn xq xu uU uV xw xx xy); (try clear DN DR Nu Nv Nw DT DU Ny Nz NA); (try clear Bj Bl Bn Bo Bp Bq Br Bt Bu Bw); (try clear zm zn zo zq zt zu zw zx zy zz); (try clear BP BQ JK JL JM BR BS JN JO JP); (try clear wW wX F5 F6 F7 wY wZ F8 F9 Ga); (try clear Gg Gh Gi Gj Gl Gm Gn Gp Gq Gr); (try clear wM wN wO wP wQ wR wS wT wU wV); (try clear yO yP yQ yR yS yT yU yV yX yY); (try clear Hl Hm Ho Hq Hr Ht Hu Hw Hy Hz); (try clear JQ JR JS JU JV JW JX JY JZ J2); (try clear p2); obtain ⟨cZ, rfl, HA, HK3, eY, HB⟩ := hrel; cases gk with
           | zero => exact absurd HA.out (by simp [bg.l0])
           | succ k3 =>
            have H := HA.out; clear HA; simp only [bg.l0] at H; by_cases c38 : cZ < (ag.length : Int)
            ·rw [if_pos c38] at H; have Pq : decide (cZ < (ag.length : Int)) = true := decide_eq_true c38; clear c38; by_cases c39 : 0 ≤ cZ
             ·rw [if_pos c39] at H; have IE : decide (0 ≤ cZ) = true := decide_eq_true c39; clear c39; by_cases c40 : cZ < (ag.length : Int)
              ·rw [if_pos c40] at H; have c40b0 : decide (cZ < (ag.length : Int)) = true := decide_eq_true c40; clear c40; replace H := Option.bind_eq_some_iff.mp H; obtain ⟨CE, A410, H⟩ := H; replace H : (if CE = 0 then (if ((aj ag cZ).f0) = 3 then (some 8) else (if ((aj ag cZ).f0) = 4 then (some 8) else (bg.l0 k3 ag (ag.length : Int) (wrap64 (cZ + 1))))) else (some CE)) = some r := H; have A41 := aa.mk A410; clear A410; by_cases c42 : CE = 0
               ·rw [if_pos c42] at H; have c42b0 : (CE == 0) = true := beq_iff_eq.mpr c42; have c42b1 : (CE != 0) = false := bne_eq_false_iff_eq.mpr c42; clear c42; by_cases c43 : ((aj ag cZ).f0) = 3
                ·rw [if_pos c43] at H; have c43b0 : (((aj ag cZ).f0) == 3) = true := beq_iff_eq.mpr c43; have c43b1 : (((aj ag cZ).f0) != 3) = false := bne_eq_false_iff_eq.mpr c43; clear c43; obtain rfl := Option.some.inj H; have Ao : 0 ≤ (cZ : Int) := dt_; have Ap : cZ < (ag.length : Int) := dt_; obtain ⟨KP, yo, yt, e267, tZ, uf, ug, uh, ui, vw, vz⟩ := gQ dH.out cZ Ao Ap; cases e267; replace tZ := hc_ HB tZ; replace uf := hc_ HB uf; replace ug := hc_ HB ug; replace uh := hc_ HB uh; replace ui := hc_ HB ui; have DW := aa.mk vz; have DX := aa.mk vw; clear vz vw; replace Ao := eq_true Ao; replace Ap := eq_true Ap; go_wp2_with (first | ((with_reducible refine bu (N := 4) rfl ?_); (try (refine dx (by rfl) ?_; dsimp only)); refine bz ?hg (N := 4) ?hd (cs := #[.int .i64 0, .int .i64 0, .int .i64 0, .int .i64 0, .slice none 0 0]) (t := 27) ?hr ?_; (case hd => rfl); (case hg => rfl); (case hr => first | (go_simp; done) | (go_simp; rfl)); intro CF hg w44 aU hb; have sj := aa.mk (aU); have KQ : aa (w.heap.size ≤ CF) := gw_ hg (aI bl_); have GE268 := KQ; have iV := nl_ eY hg; have yu := ng_ eY hg; replace eY := kb_ eY hb; replace HB := aa.mk (ay bl_ hb); clear hb aU hg; have hnb45 := yu.out; have hnc45 := iV.out; obtain ⟨hcz46_0, hcz46_1, hcz46_2, hcz46_3, hcz46_4, hfz46_0, hfz46_1, hfz46_2, hfz46_3, hfz46_4⟩ := bQ sj.out) | ((with_reducible refine aZ (f := 53) rfl ?_); refine cz (some 57) rfl rfl Try.func53 (by kernel_rfl) rfl #[.agg #[.int .i64 ((aj ag cZ).f0), .int .i64 ((aj ag cZ).f1), .int .i64 ((aj ag cZ).f2), .int .i64 ((aj ag cZ).f3), .slice yo ((aj ag cZ).f4).length yt]] rfl mp_ ?_; (with_reducible refine (ih k3 (by have := HJ1.out; have := HJ28.out; have := HK3.out; omega) ((aj ag cZ).f0) ((aj ag cZ).f1) ((aj ag cZ).f2) ((aj ag cZ).f3) _ _ ((aj ag cZ).f4) CE _ ?aX ?aY A41.out).mono ?_); (case aX => exact Kd.bX DW.out bl_); (case aY => exact DX.out); rintro e w47 ⟨rfl, hb⟩; refine ⟨_, rfl, ?_⟩; replace eY := aa.mk (dV (g := FD) (o := .cells #[.int .i64 ak, .int .i64 aG, .int .i64 aH, .int .i64 aD, .slice (some KP) ag.length bF] 27 (0, 0)) (by (with_reducible repeat (first | refine ah ?_ _ | refine ai ?_ | refine af ?_ _)); refine aQ ?_ iV.out _; (with_reducible repeat (first | refine ah ?_ _ | refine ai ?_ | refine af ?_ _)); refine aQ ?_ iV.out _; (with_reducible repeat (first | refine ah ?_ _ | refine ai ?_ | refine af ?_ _)); refine aQ ?_ iV.out _; (with_reducible repeat (first | refine ah ?_ _ | refine ai ?_ | refine af ?_ _)); refine aQ ?_ iV.out _; (with_reducible repeat (first | refine ah ?_ _ | refine ai ?_ | refine af ?_ _)); refine aQ ?_ iV.out _; (with_reducible repeat (first | refine ah ?_ _ | refine ai ?_ | refine af ?_ _)); exact eY.out) hb); replace sj := aa.mk (dV (g := CF) (o := .cells #[.int .i64 ((aj ag cZ).f0), .int .i64 ((aj ag cZ).f1), .int .i64 ((aj ag cZ).f2), .int .i64 ((aj ag cZ).f3), .slice yo ((aj ag cZ).f4).length yt] 27 (0, 0)) (by (with_reducible repeat (first | refine ah ?_ _ | refine ai ?_ | refine af ?_ _)); refine aW (cs := #[.int .i64 ((aj ag cZ).f0), .int .i64 ((aj ag cZ).f1), .int .i64 ((aj ag cZ).f2), .int .i64 ((aj ag cZ).f3), .slice none 0 0]) ?_ 4 _ rfl; (with_reducible repeat (first | refine ah ?_ _ | refine ai ?_ | refine af ?_ _)); refine aW (cs := #[.int .i64 ((aj ag cZ).f0), .int .i64 ((aj ag cZ).f1), .int .i64 ((aj ag cZ).f2), .int .i64 0, .slice none 0 0]) ?_ 3 _ rfl; (with_reducible repeat (first | refine ah ?_ _ | refine ai ?_ | refine af ?_ _)); refine aW (cs := #[.int .i64 ((aj ag cZ).f0), .int .i64 ((aj ag cZ).f1), .int .i64 0, .int .i64 0, .slice none 0 0]) ?_ 2 _ rfl; (with_reducible repeat (first | refine ah ?_ _ | refine ai ?_ | refine af ?_ _)); refine aW (cs := #[.int .i64 ((aj ag cZ).f0), .int .i64 0, .int .i64 0, .int .i64 0, .slice none 0 0]) ?_ 1 _ rfl; (with_reducible repeat (first | refine ah ?_ _ | refine ai ?_ | refine af ?_ _)); refine aW (cs := #[.int .i64 0, .int .i64 0, .int .i64 0, .int .i64 0, .slice none 0 0]) ?_ 0 _ rfl; (with_reducible repeat (first | refine ah ?_ _ | refine ai ?_ | refine af ?_ _)); exact sj.out) hb); replace HB := aa.mk (ay bl_ hb); (try clear hb); (try clear hb2); (try clear hk); (try clear hi); obtain ⟨hcz48_0, hcz48_1, hcz48_2, hcz48_3, hcz48_4, hfz48_0, hfz48_1, hfz48_2, hfz48_3, hfz48_4⟩ := bQ sj.out))
                 go_ret; exact ⟨re_, bl_⟩
                ·rw [if_neg c43] at H; have c43b0 : (((aj ag cZ).f0) == 3) = false := beq_eq_false_iff_ne.mpr c43; have c43b1 : (((aj ag cZ).f0) != 3) = true := bne_iff_ne.mpr c43; by_cases c49 : ((aj ag cZ).f0) = 4
                 ·rw [if_pos c49] at H; have PW : (((aj ag cZ).f0) == 4) = true := beq_iff_eq.mpr c49; have PX : (((aj ag cZ).f0) != 4) = false := bne_eq_false_iff_eq.mpr c49; clear c49; obtain rfl := Option.some.inj H; have Ao : 0 ≤ (cZ : Int) := dt_; have Ap : cZ < (ag.length : Int) := dt_; obtain ⟨KP, yo, yt, e267, tZ, uf, ug, uh, ui, vw, vz⟩ := gQ dH.out cZ Ao Ap; cases e267; replace tZ := hc_ HB tZ; replace uf := hc_ HB uf; replace ug := hc_ HB ug; replace uh := hc_ HB uh; replace ui := hc_ HB ui; have DW := aa.mk vz; have DX := aa.mk vw; clear vz vw; replace Ao := eq_true Ao; replace Ap := eq_true Ap; go_wp2_with (first | ((with_reducible refine bu (N := 4) rfl ?_); (try (refine dx (by rfl) ?_; dsimp only)); refine bz ?hg (N := 4) ?hd (cs := #[.int .i64 0, .int .i64 0, .int .i64 0, .int .i64 0, .slice none 0 0]) (t := 27) ?hr ?_; (case hd => rfl); (case hg => rfl); (case hr => first | (go_simp; done) | (go_simp; rfl)); intro CF hg w50 aU hb; have sj := aa.mk (aU); have KQ : aa (w.heap.size ≤ CF) := gw_ hg (aI bl_); have GE268 := KQ; have iV := nl_ eY hg; have yu := ng_ eY hg; replace eY := kb_ eY hb; replace HB := aa.mk (ay bl_ hb); clear hb aU hg; have hnb51 := yu.out; have hnc51 := iV.out; obtain ⟨MU, MV, R5, R6, R7, MW, MX, R8, R9, Sa⟩ := bQ sj.out) | ((with_reducible refine aZ (f := 53) rfl ?_); refine cz (some 57) rfl rfl Try.func53 (by kernel_rfl) rfl #[.agg #[.int .i64 ((aj ag cZ).f0), .int .i64 ((aj ag cZ).f1), .int .i64 ((aj ag cZ).f2), .int .i64 ((aj ag cZ).f3), .slice yo ((aj ag cZ).f4).length yt]] rfl mp_ ?_; (with_reducible refine (ih k3 (by have := HJ1.out; have := HJ28.out; have := HK3.out; omega) ((aj ag cZ).f0) ((aj ag cZ).f1) ((aj ag cZ).f2) ((aj ag cZ).f3) _ _ ((aj ag cZ).f4) CE _ ?aX ?aY A41.out).mono ?_); (case aX => exact Kd.bX DW.out bl_); (case aY => exact DX.out); rintro e w53 ⟨rfl, hb⟩; refine ⟨_, rfl, ?_⟩; replace eY := aa.mk (dV (g := FD) (o := .cells #[.int .i64 ak, .int .i64 aG, .int .i64 aH, .int .i64 aD, .slice (some KP) ag.length bF] 27 (0, 0)) (by (with_reducible repeat (first | refine ah ?_ _ | refine ai ?_ | refine af ?_ _)); refine aQ ?_ iV.out _; (with_reducible repeat (first | refine ah ?_ _ | refine ai ?_ | refine af ?_ _)); refine aQ ?_ iV.out _; (with_reducible repeat (first | refine ah ?_ _ | refine ai ?_ | refine af ?_ _)); refine aQ ?_ iV.out _; (with_reducible repeat (first | refine ah ?_ _ | refine ai ?_ | refine af ?_ _)); refine aQ ?_ iV.out _; (with_reducible repeat (first | refine ah ?_ _ | refine ai ?_ | refine af ?_ _)); refine aQ ?_ iV.out _; (with_reducible repeat (first | refine ah ?_ _ | refine ai ?_ | refine af ?_ _)); exact eY.out) hb); replace sj := aa.mk (dV (g := CF) (o := .cells #[.int .i64 ((aj ag cZ).f0), .int .i64 ((aj ag cZ).f1), .int .i64 ((aj ag cZ).f2), .int .i64 ((aj ag cZ).f3), .slice yo ((aj ag cZ).f4).length yt] 27 (0, 0)) (by (with_reducible repeat (first | refine ah ?_ _ | refine ai ?_ | refine af ?_ _)); refine aW (cs := #[.int .i64 ((aj ag cZ).f0), .int .i64 ((aj ag cZ).f1), .int .i64 ((aj ag cZ).f2), .int .i64 ((aj ag cZ).f3), .slice none 0 0]) ?_ 4 _ rfl; (with_reducible repeat (first | refine ah ?_ _ | refine ai ?_ | refine af ?_ _)); refine aW (cs := #[.int .i64 ((aj ag cZ).f0), .int .i64 ((aj ag cZ).f1), .int .i64 ((aj ag cZ).f2), .int .i64 0, .slice none 0 0]) ?_ 3 _ rfl; (with_reducible repeat (first | refine ah ?_ _ | refine ai ?_ | refine af ?_ _)); refine aW (cs := #[.int .i64 ((aj ag cZ).f0), .int .i64 ((aj ag cZ).f1), .int .i64 0, .int .i64 0, .slice none 0 0]) ?_ 2 _ rfl; (with_reducible repeat (first | refine ah ?_ _ | refine ai ?_ | refine af ?_ _)); refine aW (cs := #[.int .i64 ((aj ag cZ).f0), .int .i64 0, .int .i64 0, .int .i64 0, .slice none 0 0]) ?_ 1 _ rfl; (with_reducible repeat (first | refine ah ?_ _ | refine ai ?_ | refine af ?_ _)); refine aW (cs := #[.int .i64 0, .int .i64 0, .int .i64 0, .int .i64 0, .slice none 0 0]) ?_ 0 _ rfl; (with_reducible repeat (first | refine ah ?_ _ | refine ai ?_ | refine af ?_ _)); exact sj.out) hb); replace HB := aa.mk (ay bl_ hb); (try clear hb); (try clear hb2); (try clear hk); (try clear hi); obtain ⟨Sb, Sc, Sd, Sg, Si, Sj, Sk, Sl, Sm, Sn⟩ := bQ sj.out))
                  go_ret; exact ⟨re_, bl_⟩
                 ·rw [if_neg c49] at H; have PW : (((aj ag cZ).f0) == 4) = false := beq_eq_false_iff_ne.mpr c49; have PX : (((aj ag cZ).f0) != 4) = true := bne_iff_ne.mpr c49; have H' := aa.mk H; clear H; have Ao : 0 ≤ (cZ : Int) := dt_; have Ap : cZ < (ag.length : Int) := dt_; obtain ⟨KP, yo, yt, e267, tZ, uf, ug, uh, ui, vw, vz⟩ := gQ dH.out cZ Ao Ap; cases e267; replace tZ := hc_ HB tZ; replace uf := hc_ HB uf; replace ug := hc_ HB ug; replace uh := hc_ HB uh; replace ui := hc_ HB ui; have DW := aa.mk vz; have DX := aa.mk vw; clear vz vw; replace Ao := eq_true Ao; replace Ap := eq_true Ap; go_wp2_with (first | ((with_reducible refine bu (N := 4) rfl ?_); (try (refine dx (by rfl) ?_; dsimp only)); refine bz ?hg (N := 4) ?hd (cs := #[.int .i64 0, .int .i64 0, .int .i64 0, .int .i64 0, .slice none 0 0]) (t := 27) ?hr ?_; (case hd => rfl); (case hg => rfl); (case hr => first | (go_simp; done) | (go_simp; rfl)); intro CF hg w55 aU hb; have sj := aa.mk (aU); have KQ : aa (w.heap.size ≤ CF) := gw_ hg (aI bl_); have GE268 := KQ; have iV := nl_ eY hg; have yu := ng_ eY hg; replace eY := kb_ eY hb; replace HB := aa.mk (ay bl_ hb); clear hb aU hg; have hnb56 := yu.out; have hnc56 := iV.out; obtain ⟨MZ, M0, M3, M4, M5, M6, M7, M8, M9, Na⟩ := bQ sj.out) | ((with_reducible refine aZ (f := 53) rfl ?_); refine cz (some 57) rfl rfl Try.func53 (by kernel_rfl) rfl #[.agg #[.int .i64 ((aj ag cZ).f0), .int .i64 ((aj ag cZ).f1), .int .i64 ((aj ag cZ).f2), .int .i64 ((aj ag cZ).f3), .slice yo ((aj ag cZ).f4).length yt]] rfl mp_ ?_; (with_reducible refine (ih k3 (by have := HJ1.out; have := HJ28.out; have := HK3.out; omega) ((aj ag cZ).f0) ((aj ag cZ).f1) ((aj ag cZ).f2) ((aj ag cZ).f3) _ _ ((aj ag cZ).f4) CE _ ?aX ?aY A41.out).mono ?_); (case aX => exact Kd.bX DW.out bl_); (case aY => exact DX.out); rintro e w58 ⟨rfl, hb⟩; refine ⟨_, rfl, ?_⟩; replace eY := aa.mk (dV (g := FD) (o := .cells #[.int .i64 ak, .int .i64 aG, .int .i64 aH, .int .i64 aD, .slice (some KP) ag.length bF] 27 (0, 0)) (by (with_reducible repeat (first | refine ah ?_ _ | refine ai ?_ | refine af ?_ _)); refine aQ ?_ iV.out _; (with_reducible repeat (first | refine ah ?_ _ | refine ai ?_ | refine af ?_ _)); refine aQ ?_ iV.out _; (with_reducible repeat (first | refine ah ?_ _ | refine ai ?_ | refine af ?_ _)); refine aQ ?_ iV.out _; (with_reducible repeat (first | refine ah ?_ _ | refine ai ?_ | refine af ?_ _)); refine aQ ?_ iV.out _; (with_reducible repeat (first | refine ah ?_ _ | refine ai ?_ | refine af ?_ _)); refine aQ ?_ iV.out _; (with_reducible repeat (first | refine ah ?_ _ | refine ai ?_ | refine af ?_ _)); exact eY.out) hb); replace sj := aa.mk (dV (g := CF) (o := .cells #[.int .i64 ((aj ag cZ).f0), .int .i64 ((aj ag cZ).f1), .int .i64 ((aj ag cZ).f2), .int .i64 ((aj ag cZ).f3), .slice yo ((aj ag cZ).f4).length yt] 27 (0, 0)) (by (with_reducible repeat (first | refine ah ?_ _ | refine ai ?_ | refine af ?_ _)); refine aW (cs := #[.int .i64 ((aj ag cZ).f0), .int .i64 ((aj ag cZ).f1), .int .i64 ((aj ag cZ).f2), .int .i64 ((aj ag cZ).f3), .slice none 0 0]) ?_ 4 _ rfl; (with_reducible repeat (first | refine ah ?_ _ | refine ai ?_ | refine af ?_ _)); refine aW (cs := #[.int .i64 ((aj ag cZ).f0), .int .i64 ((aj ag cZ).f1), .int .i64 ((aj ag cZ).f2), .int .i64 0, .slice none 0 0]) ?_ 3 _ rfl; (with_reducible repeat (first | refine ah ?_ _ | refine ai ?_ | refine af ?_ _)); refine aW (cs := #[.int .i64 ((aj ag cZ).f0), .int .i64 ((aj ag cZ).f1), .int .i64 0, .int .i64 0, .slice none 0 0]) ?_ 2 _ rfl; (with_reducible repeat (first | refine ah ?_ _ | refine ai ?_ | refine af ?_ _)); refine aW (cs := #[.int .i64 ((aj ag cZ).f0), .int .i64 0, .int .i64 0, .int .i64 0, .slice none 0 0]) ?_ 1 _ rfl; (with_reducible repeat (first | refine ah ?_ _ | refine ai ?_ | refine af ?_ _)); refine aW (cs := #[.int .i64 0, .int .i64 0, .int .i64 0, .int .i64 0, .slice none 0 0]) ?_ 0 _ rfl; (with_reducible repeat (first | refine ah ?_ _ | refine ai ?_ | refine af ?_ _)); exact sj.out) hb); replace HB := aa.mk (ay bl_ hb); (try clear hb); (try clear hb2); (try clear hk); (try clear hi); obtain ⟨Nb, Nc, Nf, Ng, Nh, Nl, Nn, Np, Nq, Nr⟩ := bQ sj.out))
                  go_roundg k3
                  case measure => have := HJ1.out; have := HJ28.out; have := HK3.out; omega
                  case rel => exact ⟨(wrap64 (cZ + 1)), rs_, H', ⟨by have := HJ1.out; have := HJ28.out; have := HK3.out; omega⟩, ⟨bk_⟩, ⟨bl_⟩⟩
               ·rw [if_neg c42] at H; have c42b0 : (CE == 0) = false := beq_eq_false_iff_ne.mpr c42; have c42b1 : (CE != 0) = true := bne_iff_ne.mpr c42; obtain rfl := Option.some.inj H; have Ao : 0 ≤ (cZ : Int) := dt_; have Ap : cZ < (ag.length : Int) := dt_; obtain ⟨KP, yo, yt, e267, tZ, uf, ug, uh, ui, vw, vz⟩ := gQ dH.out cZ Ao Ap; cases e267; replace tZ := hc_ HB tZ; replace uf := hc_ HB uf; replace ug := hc_ HB ug; replace uh := hc_ HB uh; replace ui := hc_ HB ui; have DW := aa.mk vz; have DX := aa.mk vw; clear vz vw; replace Ao := eq_true Ao; replace Ap := eq_true Ap; go_wp2_with (first | ((with_reducible refine bu (N := 4) rfl ?_); (try (refine dx (by rfl) ?_; dsimp only)); refine bz ?hg (N := 4) ?hd (cs := #[.int .i64 0, .int .i64 0, .int .i64 0, .int .i64 0, .slice none 0 0]) (t := 27) ?hr ?_; (case hd => rfl); (case hg => rfl); (case hr => first | (go_simp; done) | (go_simp; rfl)); intro CF hg w60 aU hb; have sj := aa.mk (aU); have KQ : aa (w.heap.size ≤ CF) := gw_ hg (aI bl_); have GE268 := KQ; have iV := nl_ eY hg; have yu := ng_ eY hg; replace eY := kb_ eY hb; replace HB := aa.mk (ay bl_ hb); clear hb aU hg; have hnb61 := yu.out; have hnc61 := iV.out; obtain ⟨Df, Dg, Sq, Sr, Su, Dh, Di, Sv, Sw, Sy⟩ := bQ sj.out) | ((with_reducible refine aZ (f := 53) rfl ?_); refine cz (some 57) rfl rfl Try.func53 (by kernel_rfl) rfl #[.agg #[.int .i64 ((aj ag cZ).f0), .int .i64 ((aj ag cZ).f1), .int .i64 ((aj ag cZ).f2), .int .i64 ((aj ag cZ).f3), .slice yo ((aj ag cZ).f4).length yt]] rfl mp_ ?_; (with_reducible refine (ih k3 (by have := HJ1.out; have := HJ28.out; have := HK3.out; omega) ((aj ag cZ).f0) ((aj ag cZ).f1) ((aj ag cZ).f2) ((aj ag cZ).f3) _ _ ((aj ag cZ).f4) CE _ ?aX ?aY A41.out).mono ?_); (case aX => exact Kd.bX DW.out bl_); (case aY => exact DX.out); rintro e w63 ⟨rfl, hb⟩; refine ⟨_, rfl, ?_⟩; replace eY := aa.mk (dV (g := FD) (o := .cells #[.int .i64 ak, .int .i64 aG, .int .i64 aH, .int .i64 aD, .slice (some KP) ag.length bF] 27 (0, 0)) (by (with_reducible repeat (first | refine ah ?_ _ | refine ai ?_ | refine af ?_ _)); refine aQ ?_ iV.out _; (with_reducible repeat (first | refine ah ?_ _ | refine ai ?_ | refine af ?_ _)); refine aQ ?_ iV.out _; (with_reducible repeat (first | refine ah ?_ _ | refine ai ?_ | refine af ?_ _)); refine aQ ?_ iV.out _; (with_reducible repeat (first | refine ah ?_ _ | refine ai ?_ | refine af ?_ _)); refine aQ ?_ iV.out _; (with_reducible repeat (first | refine ah ?_ _ | refine ai ?_ | refine af ?_ _)); refine aQ ?_ iV.out _; (with_reducible repeat (first | refine ah ?_ _ | refine ai ?_ | refine af ?_ _)); exact eY.out) hb); replace sj := aa.mk (dV (g := CF) (o := .cells #[.int .i64 ((aj ag cZ).f0), .int .i64 ((aj ag cZ).f1), .int .i64 ((aj ag cZ).f2), .int .i64 ((aj ag cZ).f3), .slice yo ((aj ag cZ).f4).length yt] 27 (0, 0)) (by (with_reducible repeat (first | refine ah ?_ _ | refine ai ?_ | refine af ?_ _)); refine aW (cs := #[.int .i64 ((aj ag cZ).f0), .int .i64 ((aj ag cZ).f1), .int .i64 ((aj ag cZ).f2), .int .i64 ((aj ag cZ).f3), .slice none 0 0]) ?_ 4 _ rfl; (with_reducible repeat (first | refine ah ?_ _ | refine ai ?_ | refine af ?_ _)); refine aW (cs := #[.int .i64 ((aj ag cZ).f0), .int .i64 ((aj ag cZ).f1), .int .i64 ((aj ag cZ).f2), .int .i64 0, .slice none 0 0]) ?_ 3 _ rfl; (with_reducible repeat (first | refine ah ?_ _ | refine ai ?_ | refine af ?_ _)); refine aW (cs := #[.int .i64 ((aj ag cZ).f0), .int .i64 ((aj ag cZ).f1), .int .i64 0, .int .i64 0, .slice none 0 0]) ?_ 2 _ rfl; (with_reducible repeat (first | refine ah ?_ _ | refine ai ?_ | refine af ?_ _)); refine aW (cs := #[.int .i64 ((aj ag cZ).f0), .int .i64 0, .int .i64 0, .int .i64 0, .slice none 0 0]) ?_ 1 _ rfl; (with_reducible repeat (first | refine ah ?_ _ | refine ai ?_ | refine af ?_ _)); refine aW (cs := #[.int .i64 0, .int .i64 0, .int .i64 0, .int .i64 0, .slice none 0 0]) ?_ 0 _ rfl; (with_reducible repeat (first | refine ah ?_ _ | refine ai ?_ | refine af ?_ _)); exact sj.out) hb); replace HB := aa.mk (ay bl_ hb); (try clear hb); (try clear hb2); (try clear hk); (try clear hi)))
                go_ret; exact ⟨re_, bl_⟩
              ·rw [if_neg c40] at H; exact absurd H (by simp)
             ·rw [if_neg c39] at H; exact absurd H (by simp)
            ·rw [if_neg c38] at H; have Pq : decide (cZ < (ag.length : Int)) = false := decide_eq_false c38; clear c38; obtain rfl := Option.some.inj H; go_wp2; go_ret; exact ⟨re_, bl_⟩
      ·rw [if_neg c28] at H; have c28b0 : (ak == 5) = false := beq_eq_false_iff_ne.mpr c28; have c28b1 : (ak != 5) = true := bne_iff_ne.mpr c28; by_cases c64 : ak = 6
       ·rw [if_pos c64] at H; have c64b0 : (ak == 6) = true := beq_iff_eq.mpr c64; have c64b1 : (ak != 6) = false := bne_eq_false_iff_eq.mpr c64; clear c64; have HC65 := aa.mk H; clear H; obtain ⟨JE, JF, Sz, SA, SB, JG, JH, SC, SE, SF⟩ := bQ eY.out; go_upto_region 22 with (first | ((with_reducible refine aZ (f := 60) rfl ?_); refine cz (some 17) rfl rfl Try.func60 (by kernel_rfl) rfl #[.agg #[.int .i64 ak, .int .i64 aG, .int .i64 aH, .int .i64 aD, .slice bL ag.length bF]] rfl mp_ ?_; (with_reducible refine (jY.calls ak aG aH aD _ _ ag false _ ?aX ?aY A8.out).mono ?_); (case aX => exact cb_ (Kd.bX dH.out HB.out)); (case aY => exact fq.out); rintro e w67 ⟨rfl, hb⟩; refine ⟨_, rfl, ?_⟩; replace eY := kb_ eY hb; replace HB := aa.mk (ay bl_ hb); (try clear hb); (try clear hb2); (try clear hk); (try clear hi); obtain ⟨hcz68_0, hcz68_1, hcz68_2, hcz68_3, hcz68_4, hfz68_0, hfz68_1, hfz68_2, hfz68_3, hfz68_4⟩ := bQ eY.out))
        (try simp only [Act.put, List.setIfInBounds_toArray, List.set_cons_zero, List.set_cons_succ])
        go_cut [79] (fun v79 wc => ∃ (kq : Nat) (Qd : Bool), v79 = .bool Qd ∧ aa (bg.j3 kq Qd ak aG aH aD ag = some r) ∧ aa (kq ≤ kj1) ∧ aa (wc.heap[FD]? = some (.cells #[.int .i64 ak, .int .i64 aG, .int .i64 aH, .int .i64 aD, (.slice bL ag.length bF)] 27 (0, 0))) ∧ aa (Below w.heap.size w wc))
        case first =>
         have H := HC65.out; clear HC65; by_cases c69 : aD < 1
         ·rw [if_pos c69] at H; have IK : decide (aD < 1) = true := decide_eq_true c69; clear c69; (first | rw [IK] | (simp only [eQ, fe]; rw [IK]) | skip)
          have H' := aa.mk H; clear H; obtain ⟨hcz70_0, hcz70_1, hcz70_2, hcz70_3, hcz70_4, hfz70_0, hfz70_1, hfz70_2, hfz70_3, hfz70_4⟩ := bQ eY.out; go_wp2; go_meet
          case rel => exact ⟨_, (true), rs_, H', ⟨by have := HJ1.out; first | omega | exact Nat.le_refl _⟩, ⟨bk_⟩, ⟨bl_⟩⟩
         ·rw [if_neg c69] at H; have IK : decide (aD < 1) = false := decide_eq_false c69; clear c69; (first | rw [IK] | (simp only [eQ, fe]; rw [IK]) | skip)
          have H' := aa.mk H; clear H; obtain ⟨hcz71_0, hcz71_1, hcz71_2, hcz71_3, hcz71_4, hfz71_0, hfz71_1, hfz71_2, hfz71_3, hfz71_4⟩ := bQ eY.out; go_wp2; go_meet
          case rel => exact ⟨_, (decide (aD > 4)), rs_, H', ⟨by have := HJ1.out; first | omega | exact Nat.le_refl _⟩, ⟨bk_⟩, ⟨bl_⟩⟩
        case rest =>
         clear HC65; (try clear c1); (try clear c2); (try clear p2); (try clear q2); (try clear hx2); (try clear c3); (try clear c4); (try clear nz); (try clear c5); (try clear c6); (try clear p6); (try clear c7); (try clear c9); (try clear c12); (try clear uu); (try clear Er); (try clear c13); (try clear uw); (try clear c17); (try clear Es); (try clear c21); (try clear Eu); (try clear c26); (try clear p26); (try clear q26); (try clear hx26); (try clear c28); (try clear c28b0); (try clear c28b1); (try clear c33); (try clear yN); (try clear c33b1); (try clear c36); (try clear c38); (try clear Pq); (try clear c39); (try clear IE); (try clear c40); (try clear c40b0); (try clear c42); (try clear c42b0); (try clear c42b1); (try clear c43); (try clear c43b0); (try clear c43b1); (try clear c45); (try clear c49); (try clear PW); (try clear PX); (try clear c51); (try clear c53); (try clear c56); (try clear c60); (try clear c61); (try clear c64); (try clear c64b0); (try clear c64b1); (try clear p64); (try clear c69); (try clear IK); (try clear qB qC rJ rM rO qD qE rP rQ rR); (try clear mg mh mi mo mq mr mD mE mF mG); (try clear tq tu tC tF tH tJ tK tL tN tO); (try clear oU oV xc xe xg oW oZ xh xk xm); (try clear zG zH zI zJ zK zL zM zN zO zP); (try clear uS uT xn xq xu uU uV xw xx xy); (try clear DN DR Nu Nv Nw DT DU Ny Nz NA); (try clear Bj Bl Bn Bo Bp Bq Br Bt Bu Bw); (try clear zm zn zo zq zt zu zw zx zy zz); (try clear BP BQ JK JL JM BR BS JN JO JP); (try clear wW wX F5 F6 F7 wY wZ F8 F9 Ga); (try clear Gg Gh Gi Gj Gl Gm Gn Gp Gq Gr); (try clear wM wN wO wP wQ wR wS wT wU wV); (try clear yO yP yQ yR yS yT yU yV yX yY); (try clear hcz46_0 hcz46_1 hcz46_2 hcz46_3 hcz46_4 hfz46_0 hfz46_1 hfz46_2 hfz46_3 hfz46_4); (try clear hcz48_0 hcz48_1 hcz48_2 hcz48_3 hcz48_4 hfz48_0 hfz48_1 hfz48_2 hfz48_3 hfz48_4); (try clear MU MV R5 R6 R7 MW MX R8 R9 Sa); (try clear Sb Sc Sd Sg Si Sj Sk Sl Sm Sn); (try clear MZ M0 M3 M4 M5 M6 M7 M8 M9 Na); (try clear Nb Nc Nf Ng Nh Nl Nn Np Nq Nr); (try clear Hl Hm Ho Hq Hr Ht Hu Hw Hy Hz)
         (try clear Df Dg Sq Sr Su Dh Di Sv Sw Sy); (try clear JE JF Sz SA SB JG JH SC SE SF); (try clear hcz68_0 hcz68_1 hcz68_2 hcz68_3 hcz68_4 hfz68_0 hfz68_1 hfz68_2 hfz68_3 hfz68_4); (try clear JQ JR JS JU JV JW JX JY JZ J2); (try clear hcz70_0 hcz70_1 hcz70_2 hcz70_3 hcz70_4 hfz70_0 hfz70_1 hfz70_2 hfz70_3 hfz70_4); (try clear hcz71_0 hcz71_1 hcz71_2 hcz71_3 hcz71_4 hfz71_0 hfz71_1 hfz71_2 hfz71_3 hfz71_4); (try clear tZ); (try clear uf); (try clear ug); (try clear uh); (try clear ui); (try clear p2); (try clear Ao); (try clear Ap); obtain ⟨kq, Qd, rfl, HA, HJ64, eY, HB⟩ := hcut; cases kq with
         | zero => exact absurd HA.out (by simp [bg.j3])
         | succ kj64 =>
          have H := HA.out; clear HA; simp only [bg.j3] at H; by_cases c72 : Qd = true
          ·subst c72; have H1 : (some 1) = some r := by rw [if_pos rfl] at H; exact H
           clear H; have H := H1; clear H1; obtain rfl := Option.some.inj H; go_wp2; go_ret; exact ⟨re_, bl_⟩
          ·replace c72 := Bool.eq_false_iff.mpr c72; subst c72; have H1 : (if (ag.length : Int) = 1 then (if 0 < (ag.length : Int) then ((bg.f kj64 ((aj ag 0).f0) ((aj ag 0).f1) ((aj ag 0).f2) ((aj ag 0).f3) ((aj ag 0).f4)).bind fun yn => (if yn = 0 then (if ((aj ag 0).f0) = 1 then (some 0) else (if ((aj ag 0).f0) = 2 then (some 0) else (some 8))) else (some yn))) else (none)) else (some 2)) = some r := by rw [if_neg (show ¬ (false = true) by decide)] at H; exact H
           clear H; have H := H1; clear H1; by_cases c73 : (ag.length : Int) = 1
           ·rw [if_pos c73] at H; have c73b0 : ((ag.length : Int) == 1) = true := beq_iff_eq.mpr c73; have c73b1 : ((ag.length : Int) != 1) = false := bne_eq_false_iff_eq.mpr c73; clear c73; by_cases c74 : 0 < (ag.length : Int)
            ·rw [if_pos c74] at H; have c74b0 : decide (0 < (ag.length : Int)) = true := decide_eq_true c74; have c74b1 : decide (0 < ag.length) = true := decide_eq_true (by omega); clear c74; replace H := Option.bind_eq_some_iff.mp H; obtain ⟨yn, A750, H⟩ := H; replace H : (if yn = 0 then (if ((aj ag 0).f0) = 1 then (some 0) else (if ((aj ag 0).f0) = 2 then (some 0) else (some 8))) else (some yn)) = some r := H; have A75 := aa.mk A750; clear A750; by_cases c76 : yn = 0
             ·rw [if_pos c76] at H; have c76b0 : (yn == 0) = true := beq_iff_eq.mpr c76; have c76b1 : (yn != 0) = false := bne_eq_false_iff_eq.mpr c76; clear c76; by_cases c77 : ((aj ag 0).f0) = 1
              ·rw [if_pos c77] at H; have c77b0 : (((aj ag 0).f0) == 1) = true := beq_iff_eq.mpr c77; have c77b1 : (((aj ag 0).f0) != 1) = false := bne_eq_false_iff_eq.mpr c77; clear c77; obtain rfl := Option.some.inj H; obtain ⟨VO, VP, hcz78_2, hcz78_3, hcz78_4, VQ, VR, hfz78_2, hfz78_3, hfz78_4⟩ := bQ eY.out; have AY : 0 ≤ (0 : Int) := (by omega); have AZ : 0 < (ag.length : Int) := dt_; obtain ⟨NB, H8, H9, e270, pg, pq, pz, pE, pF, vB, vC⟩ := gQ dH.out 0 AY AZ; cases e270; have qi270 : (0 < ag.length) = True := eq_true (by omega); (try simp only [z0_, Nat.zero_mul, Addr.add_zero'] at pg pq pz pE pF)
               replace pg := hc_ HB pg; replace pq := hc_ HB pq; replace pz := hc_ HB pz; replace pE := hc_ HB pE; replace pF := hc_ HB pF; have DY := aa.mk vC; have DZ := aa.mk vB; clear vC vB; replace AY := eq_true AY; replace AZ := eq_true AZ; go_wp2_with (first | ((with_reducible refine aZ (f := 53) rfl ?_); refine cz (some 88) rfl rfl Try.func53 (by kernel_rfl) rfl #[.agg #[.int .i64 ((aj ag 0).f0), .int .i64 ((aj ag 0).f1), .int .i64 ((aj ag 0).f2), .int .i64 ((aj ag 0).f3), .slice H8 ((aj ag 0).f4).length H9]] rfl mp_ ?_; (with_reducible refine (ih kj64 (by have := HJ1.out; have := HJ64.out; omega) ((aj ag 0).f0) ((aj ag 0).f1) ((aj ag 0).f2) ((aj ag 0).f3) _ _ ((aj ag 0).f4) yn _ ?aX ?aY A75.out).mono ?_); (case aX => exact cb_ (Kd.bX DY.out HB.out)); (case aY => exact DZ.out); rintro e w79 ⟨rfl, hb⟩; refine ⟨_, rfl, ?_⟩; replace eY := kb_ eY hb; replace HB := aa.mk (ay bl_ hb); (try clear hb); (try clear hb2); (try clear hk); (try clear hi); obtain ⟨VS, VT, hcz80_2, hcz80_3, hcz80_4, VU, VV, hfz80_2, hfz80_3, hfz80_4⟩ := bQ eY.out; have Ia : 0 ≤ (0 : Int) := (by omega); have Ib : 0 < (ag.length : Int) := dt_; obtain ⟨Qe, A272_4, c272_4, e272, vD, vE, vF, vG, vH, BV, BX⟩ := gQ dH.out 0 Ia Ib; obtain rfl : NB = Qe := (by injection e272); have qi272 : (0 < ag.length) = True := eq_true (by omega); (try simp only [z0_, Nat.zero_mul, Addr.add_zero'] at vD); (try simp only [z0_, Nat.zero_mul, Addr.add_zero'] at vE); (try simp only [z0_, Nat.zero_mul, Addr.add_zero'] at vF); (try simp only [z0_, Nat.zero_mul, Addr.add_zero'] at vG); (try simp only [z0_, Nat.zero_mul, Addr.add_zero'] at vH); replace vD := hc_ HB vD; replace vE := hc_ HB vE; replace vF := hc_ HB vF; replace vG := hc_ HB vG; replace vH := hc_ HB vH; have Wd := aa.mk BX; have We := aa.mk BV; clear BX BV; replace Ia := eq_true Ia; replace Ib := eq_true Ib))
               go_ret; exact ⟨re_, bl_⟩
              ·rw [if_neg c77] at H; have c77b0 : (((aj ag 0).f0) == 1) = false := beq_eq_false_iff_ne.mpr c77; have c77b1 : (((aj ag 0).f0) != 1) = true := bne_iff_ne.mpr c77; by_cases c81 : ((aj ag 0).f0) = 2
               ·rw [if_pos c81] at H; have c81b0 : (((aj ag 0).f0) == 2) = true := beq_iff_eq.mpr c81; have c81b1 : (((aj ag 0).f0) != 2) = false := bne_eq_false_iff_eq.mpr c81; clear c81; obtain rfl := Option.some.inj H; obtain ⟨hcz82_0, hcz82_1, hcz82_2, hcz82_3, hcz82_4, hfz82_0, hfz82_1, hfz82_2, hfz82_3, hfz82_4⟩ := bQ eY.out; have AY : 0 ≤ (0 : Int) := (by omega); have AZ : 0 < (ag.length : Int) := dt_; obtain ⟨NB, H8, H9, e270, pg, pq, pz, pE, pF, vB, vC⟩ := gQ dH.out 0 AY AZ; cases e270; have qi270 : (0 < ag.length) = True := eq_true (by omega); (try simp only [z0_, Nat.zero_mul, Addr.add_zero'] at pg pq pz pE pF)
                replace pg := hc_ HB pg; replace pq := hc_ HB pq; replace pz := hc_ HB pz; replace pE := hc_ HB pE; replace pF := hc_ HB pF; have DY := aa.mk vC; have DZ := aa.mk vB; clear vC vB; replace AY := eq_true AY; replace AZ := eq_true AZ; go_wp2_with (first | ((with_reducible refine aZ (f := 53) rfl ?_); refine cz (some 88) rfl rfl Try.func53 (by kernel_rfl) rfl #[.agg #[.int .i64 ((aj ag 0).f0), .int .i64 ((aj ag 0).f1), .int .i64 ((aj ag 0).f2), .int .i64 ((aj ag 0).f3), .slice H8 ((aj ag 0).f4).length H9]] rfl mp_ ?_; (with_reducible refine (ih kj64 (by have := HJ1.out; have := HJ64.out; omega) ((aj ag 0).f0) ((aj ag 0).f1) ((aj ag 0).f2) ((aj ag 0).f3) _ _ ((aj ag 0).f4) yn _ ?aX ?aY A75.out).mono ?_); (case aX => exact cb_ (Kd.bX DY.out HB.out)); (case aY => exact DZ.out); rintro e w83 ⟨rfl, hb⟩; refine ⟨_, rfl, ?_⟩; replace eY := kb_ eY hb; replace HB := aa.mk (ay bl_ hb); (try clear hb); (try clear hb2); (try clear hk); (try clear hi); obtain ⟨hcz84_0, hcz84_1, hcz84_2, hcz84_3, hcz84_4, hfz84_0, hfz84_1, hfz84_2, hfz84_3, hfz84_4⟩ := bQ eY.out; have Ia : 0 ≤ (0 : Int) := (by omega); have Ib : 0 < (ag.length : Int) := dt_; obtain ⟨Qe, A272_4, c272_4, e272, vD, vE, vF, vG, vH, BV, BX⟩ := gQ dH.out 0 Ia Ib; obtain rfl : NB = Qe := (by injection e272); have qi272 : (0 < ag.length) = True := eq_true (by omega); (try simp only [z0_, Nat.zero_mul, Addr.add_zero'] at vD); (try simp only [z0_, Nat.zero_mul, Addr.add_zero'] at vE); (try simp only [z0_, Nat.zero_mul, Addr.add_zero'] at vF); (try simp only [z0_, Nat.zero_mul, Addr.add_zero'] at vG); (try simp only [z0_, Nat.zero_mul, Addr.add_zero'] at vH); replace vD := hc_ HB vD; replace vE := hc_ HB vE; replace vF := hc_ HB vF; replace vG := hc_ HB vG; replace vH := hc_ HB vH; have Wd := aa.mk BX; have We := aa.mk BV; clear BX BV; replace Ia := eq_true Ia; replace Ib := eq_true Ib))
                go_ret; exact ⟨re_, bl_⟩
               ·rw [if_neg c81] at H; have c81b0 : (((aj ag 0).f0) == 2) = false := beq_eq_false_iff_ne.mpr c81; have c81b1 : (((aj ag 0).f0) != 2) = true := bne_iff_ne.mpr c81; obtain rfl := Option.some.inj H; obtain ⟨hcz85_0, hcz85_1, hcz85_2, hcz85_3, hcz85_4, hfz85_0, hfz85_1, hfz85_2, hfz85_3, hfz85_4⟩ := bQ eY.out; have AY : 0 ≤ (0 : Int) := (by omega); have AZ : 0 < (ag.length : Int) := dt_; obtain ⟨NB, H8, H9, e270, pg, pq, pz, pE, pF, vB, vC⟩ := gQ dH.out 0 AY AZ; cases e270; have qi270 : (0 < ag.length) = True := eq_true (by omega); (try simp only [z0_, Nat.zero_mul, Addr.add_zero'] at pg pq pz pE pF)
                replace pg := hc_ HB pg; replace pq := hc_ HB pq; replace pz := hc_ HB pz; replace pE := hc_ HB pE; replace pF := hc_ HB pF; have DY := aa.mk vC; have DZ := aa.mk vB; clear vC vB; replace AY := eq_true AY; replace AZ := eq_true AZ; go_wp2_with (first | ((with_reducible refine aZ (f := 53) rfl ?_); refine cz (some 88) rfl rfl Try.func53 (by kernel_rfl) rfl #[.agg #[.int .i64 ((aj ag 0).f0), .int .i64 ((aj ag 0).f1), .int .i64 ((aj ag 0).f2), .int .i64 ((aj ag 0).f3), .slice H8 ((aj ag 0).f4).length H9]] rfl mp_ ?_; (with_reducible refine (ih kj64 (by have := HJ1.out; have := HJ64.out; omega) ((aj ag 0).f0) ((aj ag 0).f1) ((aj ag 0).f2) ((aj ag 0).f3) _ _ ((aj ag 0).f4) yn _ ?aX ?aY A75.out).mono ?_); (case aX => exact cb_ (Kd.bX DY.out HB.out)); (case aY => exact DZ.out); rintro e w86 ⟨rfl, hb⟩; refine ⟨_, rfl, ?_⟩; replace eY := kb_ eY hb; replace HB := aa.mk (ay bl_ hb); (try clear hb); (try clear hb2); (try clear hk); (try clear hi); obtain ⟨Wh, Wi, Wj, Wl, Wm, Wn, Wo, Wp, Wq, Ws⟩ := bQ eY.out; have Ia : 0 ≤ (0 : Int) := (by omega); have Ib : 0 < (ag.length : Int) := dt_; obtain ⟨Qe, A272_4, c272_4, e272, vD, vE, vF, vG, vH, BV, BX⟩ := gQ dH.out 0 Ia Ib; obtain rfl : NB = Qe := (by injection e272); have qi272 : (0 < ag.length) = True := eq_true (by omega); (try simp only [z0_, Nat.zero_mul, Addr.add_zero'] at vD); (try simp only [z0_, Nat.zero_mul, Addr.add_zero'] at vE); (try simp only [z0_, Nat.zero_mul, Addr.add_zero'] at vF); (try simp only [z0_, Nat.zero_mul, Addr.add_zero'] at vG); (try simp only [z0_, Nat.zero_mul, Addr.add_zero'] at vH); replace vD := hc_ HB vD; replace vE := hc_ HB vE; replace vF := hc_ HB vF; replace vG := hc_ HB vG; replace vH := hc_ HB vH; have Wd := aa.mk BX; have We := aa.mk BV; clear BX BV; replace Ia := eq_true Ia; replace Ib := eq_true Ib))
                go_ret; exact ⟨re_, bl_⟩
             ·rw [if_neg c76] at H; have c76b0 : (yn == 0) = false := beq_eq_false_iff_ne.mpr c76; have c76b1 : (yn != 0) = true := bne_iff_ne.mpr c76; obtain rfl := Option.some.inj H; obtain ⟨hcz88_0, hcz88_1, hcz88_2, hcz88_3, hcz88_4, hfz88_0, hfz88_1, hfz88_2, hfz88_3, hfz88_4⟩ := bQ eY.out; have AY : 0 ≤ (0 : Int) := (by omega); have AZ : 0 < (ag.length : Int) := dt_; obtain ⟨NB, H8, H9, e270, pg, pq, pz, pE, pF, vB, vC⟩ := gQ dH.out 0 AY AZ; cases e270; have qi270 : (0 < ag.length) = True := eq_true (by omega); (try simp only [z0_, Nat.zero_mul, Addr.add_zero'] at pg pq pz pE pF)
              replace pg := hc_ HB pg; replace pq := hc_ HB pq; replace pz := hc_ HB pz; replace pE := hc_ HB pE; replace pF := hc_ HB pF; have DY := aa.mk vC; have DZ := aa.mk vB; clear vC vB; replace AY := eq_true AY; replace AZ := eq_true AZ; go_wp2_with (first | ((with_reducible refine aZ (f := 53) rfl ?_); refine cz (some 88) rfl rfl Try.func53 (by kernel_rfl) rfl #[.agg #[.int .i64 ((aj ag 0).f0), .int .i64 ((aj ag 0).f1), .int .i64 ((aj ag 0).f2), .int .i64 ((aj ag 0).f3), .slice H8 ((aj ag 0).f4).length H9]] rfl mp_ ?_; (with_reducible refine (ih kj64 (by have := HJ1.out; have := HJ64.out; omega) ((aj ag 0).f0) ((aj ag 0).f1) ((aj ag 0).f2) ((aj ag 0).f3) _ _ ((aj ag 0).f4) yn _ ?aX ?aY A75.out).mono ?_); (case aX => exact cb_ (Kd.bX DY.out HB.out)); (case aY => exact DZ.out); rintro e w89 ⟨rfl, hb⟩; refine ⟨_, rfl, ?_⟩; replace eY := kb_ eY hb; replace HB := aa.mk (ay bl_ hb); (try clear hb); (try clear hb2); (try clear hk); (try clear hi)))
              go_ret; exact ⟨re_, bl_⟩
            ·rw [if_neg c74] at H; exact absurd H (by simp)
           ·rw [if_neg c73] at H; have c73b0 : ((ag.length : Int) == 1) = false := beq_eq_false_iff_ne.mpr c73; have c73b1 : ((ag.length : Int) != 1) = true := bne_iff_ne.mpr c73; obtain rfl := Option.some.inj H; obtain ⟨hcz90_0, hcz90_1, hcz90_2, hcz90_3, hcz90_4, hfz90_0, hfz90_1, hfz90_2, hfz90_3, hfz90_4⟩ := bQ eY.out; go_wp2; go_ret; exact ⟨re_, bl_⟩
       ·rw [if_neg c64] at H; have c64b0 : (ak == 6) = false := beq_eq_false_iff_ne.mpr c64; have c64b1 : (ak != 6) = true := bne_iff_ne.mpr c64; obtain rfl := Option.some.inj H; obtain ⟨hcz91_0, hcz91_1, hcz91_2, hcz91_3, hcz91_4, hfz91_0, hfz91_1, hfz91_2, hfz91_3, hfz91_4⟩ := bQ eY.out; go_wp2_with (first | ((with_reducible refine aZ (f := 60) rfl ?_); refine cz (some 17) rfl rfl Try.func60 (by kernel_rfl) rfl #[.agg #[.int .i64 ak, .int .i64 aG, .int .i64 aH, .int .i64 aD, .slice bL ag.length bF]] rfl mp_ ?_; (with_reducible refine (jY.calls ak aG aH aD _ _ ag false _ ?aX ?aY A8.out).mono ?_); (case aX => exact cb_ (Kd.bX dH.out HB.out)); (case aY => exact fq.out); rintro e w92 ⟨rfl, hb⟩; refine ⟨_, rfl, ?_⟩; replace eY := kb_ eY hb; replace HB := aa.mk (ay bl_ hb); (try clear hb); (try clear hb2); (try clear hk); (try clear hi); obtain ⟨hcz93_0, hcz93_1, hcz93_2, hcz93_3, hcz93_4, hfz93_0, hfz93_1, hfz93_2, hfz93_3, hfz93_4⟩ := bQ eY.out))
        go_ret; exact ⟨re_, bl_⟩

end Go.Proofs.Ytggelekooacmnaa.Z
namespace Go.Proofs.Ytggelekooacmnaa.Z
open Go.RowKit Go.Proofs.YtggelekooacmnaaW.bM Go.Proofs.YtggelekooacmnaaW.dR Go.Proofs.YtggelekooacmnaaW.eO
attribute [local go_sem] iM iN jk jl gW gX iO iP   -- for this text's walks alone
set_option linter.unusedVariables false
set_option linter.unusedSimpArgs false

/-! ### dD: function 54 -/
mutual
def dD.l0 : Nat → Int → List (S27) → Int → Int → Option (Int)
 | 0, _, _, _, _ => none
 | k + 1, x3, x11, x12, x13 => if x13 < x12 then (if 0 ≤ x13 then (if x13 < (x11.length : Int) then ((dD.f k ((aj x11 x13).f0) ((aj x11 x13).f1) ((aj x11 x13).f2) ((aj x11 x13).f3) ((aj x11 x13).f4)).bind fun t276 => (dD.l0 k (wrap64 (x3 + t276)) x11 x12 (wrap64 (x13 + 1)))) else (none)) else (none)) else (some x3)
def dD.f : Nat → Int → Int → Int → Int → List (S27) → Option (Int)
 | 0, _, _, _, _, _ => none
 | k + 1, ak, aG, aH, aD, ag => if ak = 5 then (dD.l0 k 0 ag (ag.length : Int) 0) else (if ak = 6 then (if 0 < (ag.length : Int) then ((dD.f k ((aj ag 0).f0) ((aj ag 0).f1) ((aj ag 0).f2) ((aj ag 0).f3) ((aj ag 0).f4)).bind fun t278 => (some (wrap64 (1 + (wrap64 (aD * t278)))))) else (none)) else (some 1))
end
theorem dD.iU : ∀ k, (∀ y0 y1 y2 y3 y4, LeO (dD.f k y0 y1 y2 y3 y4) (dD.f (k + 1) y0 y1 y2 y3 y4)) ∧ (∀ y0 y1 y2 y3, LeO (dD.l0 k y0 y1 y2 y3) (dD.l0 (k + 1) y0 y1 y2 y3))
 | 0 => ⟨fun _ _ _ _ _ r h => by simp [dD.f] at h, fun _ _ _ _ r h => by simp [dD.l0] at h⟩
 | k + 1 => by
  obtain ⟨ih0, ih1⟩ := dD.iU k; refine ⟨?_, ?_⟩
  ·intro y0 y1 y2 y3 y4; unfold dD.f; repeat' first
   | (with_reducible exact ih0 _ _ _ _ _)
   | (with_reducible exact ih1 _ _ _ _)
   | (with_reducible exact LeO.refl _)
   | (with_reducible exact LeO.none _)
   | (with_reducible refine LeO.ite ?_ ?_)
   | (with_reducible refine LeO.bind ?_ (fun _ => ?_))
   | exact ih0 _ _ _ _ _
   | exact ih1 _ _ _ _
   | exact LeO.none _
   | refine LeO.ite ?_ ?_
   | refine LeO.bind ?_ (fun _ => ?_)
  ·intro y0 y1 y2 y3; unfold dD.l0; repeat' first
   | (with_reducible exact ih0 _ _ _ _ _)
   | (with_reducible exact ih1 _ _ _ _)
   | (with_reducible exact LeO.refl _)
   | (with_reducible exact LeO.none _)
   | (with_reducible refine LeO.ite ?_ ?_)
   | (with_reducible refine LeO.bind ?_ (fun _ => ?_))
   | exact ih0 _ _ _ _ _
   | exact ih1 _ _ _ _
   | exact LeO.none _
   | refine LeO.ite ?_ ?_
   | refine LeO.bind ?_ (fun _ => ?_)
theorem dD.mono : ∀ a0 a1 a2 a3 a4 k, LeO (dD.f k a0 a1 a2 a3 a4) (dD.f (k + 1) a0 a1 a2 a3 a4) := by
 intro a0 a1 a2 a3 a4 k; obtain ⟨ih0, ih1⟩ := dD.iU k; exact ih0 a0 a1 a2 a3 a4
def dD.T11 : Bool × List (List Nat × List Nat) := (true, [([], []), ([0], [0]), ([], []), ([2], [2]), ([3], [3]), ([4], [4]), ([5], [5]), ([1, 6], [1, 6]), ([7], [7]), ([8, 6, 0, 1, 2, 3, 4, 5, 6, 7, 8], [8])])
def dD.B11 : List Nat := [0, 1, 0, 4, 12, 28, 60, 127, 255, 511]
theorem dD.tab11 : mf .any (opsOf Try.f54 11) = dD.T11 := by kernel_rfl
theorem dD.bits11 : nW dD.T11.2 dD.B11 = true := by kernel_rfl
set_option maxHeartbeats 8000000 in
set_option maxRecDepth 100000 in
theorem dD.calls (k : Nat) : ∀ (ak : Int) (aG : Int) (aH : Int) (aD : Int) (bL : Option Addr) (bF : Nat) (ag : List (S27)) (r : Int) (w : World) (gM : Kd.C k27 w bL ag.length ag) (gN : ag.length ≤ bF) (h : dD.f k ak aG aH aD ag = some r),
  Calls Try.prog 54 #[.agg #[.int .i64 ak, .int .i64 aG, .int .i64 aH, .int .i64 aD, .slice bL ag.length bF]] w fun e w' => e = .returned (.int .i64 r) ∧ Below w.heap.size w w' := by
 induction k using Nat.strongRecOn with
 | _ k ih =>
 intro ak aG aH aD bL bF ag r w gM gN h; cases k with
 | zero => exact absurd h (by simp [dD.f])
 | succ k =>
 simp only [dD.f] at h; have rY := Try.underlying27; have dH := aa.mk gM; have fq := aa.mk gN; clear gM gN; have HB := aa.mk (Below.refl w.heap.size w); have H : (if ak = 5 then (dD.l0 k 0 ag (ag.length : Int) 0) else (if ak = 6 then (if 0 < (ag.length : Int) then ((dD.f k ((aj ag 0).f0) ((aj ag 0).f1) ((aj ag 0).f2) ((aj ag 0).f3) ((aj ag 0).f4)).bind fun t278 => (some (wrap64 (1 + (wrap64 (aD * t278)))))) else (none)) else (some 1))) = some r := h; clear h; by_cases c2 : ak = 5
 ·rw [if_pos c2] at H; have Ag : (ak == 5) = true := beq_iff_eq.mpr c2; have Cq : (ak != 5) = false := bne_eq_false_iff_eq.mpr c2; clear c2; have H' := aa.mk H; clear H; go_enter Try.func54, Try.ntmps54; go_wp2_with (first | ((with_reducible refine bu (N := 1) rfl ?_); refine bz ?hg (N := 1) ?hd (cs := #[.int .i64 ak, .int .i64 aG, .int .i64 aH, .int .i64 aD, .slice bL ag.length bF]) (t := 27) ?hr ?_; (case hd => rfl); (case hg => rfl); (case hr => first | (go_simp; done) | (go_simp; rfl)); intro AA hg w3 aU hb; have mH := aa.mk (aU); have Qf : aa (w.heap.size ≤ AA) := gw_ hg (aI bl_); have GE273 := Qf; replace HB := aa.mk (ay bl_ hb); clear hb aU hg; obtain ⟨xV, xW, xX, xY, xZ, yc, yf, yg, yh, yj⟩ := bQ mH.out))
  go_loopg [3, 13] k (fun kq v3 v13 w' => ∃ (DV : Int) (fC : Int), v3 = .int .i64 DV ∧ v13 = .int .i64 fC ∧ aa (dD.l0 kq DV ag (ag.length : Int) fC = some r) ∧ aa (kq ≤ k) ∧ aa (w'.heap[AA]? = some (.cells #[.int .i64 ak, .int .i64 aG, .int .i64 aH, .int .i64 aD, (.slice bL ag.length bF)] 27 (0, 0))) ∧ aa (Below w.heap.size w w'))
  case atStart => exact ⟨(0), (0), rs_, rs_, H', ⟨Nat.le_refl _⟩, ⟨bk_⟩, ⟨bl_⟩⟩
  case round =>
   clear H'; (try clear c2); (try clear Ag); (try clear Cq); (try clear p2); (try clear xV xW xX xY xZ yc yf yg yh yj); obtain ⟨DV, fC, rfl, rfl, HA, HK1, mH, HB⟩ := hrel; cases gk with
   | zero => exact absurd HA.out (by simp [dD.l0])
   | succ k1 =>
    have H := HA.out; clear HA; simp only [dD.l0] at H; by_cases c5 : fC < (ag.length : Int)
    ·rw [if_pos c5] at H; have uK : decide (fC < (ag.length : Int)) = true := decide_eq_true c5; clear c5; by_cases c6 : 0 ≤ fC
     ·rw [if_pos c6] at H; have c6b0 : decide (0 ≤ fC) = true := decide_eq_true c6; clear c6; by_cases c7 : fC < (ag.length : Int)
      ·rw [if_pos c7] at H; have uL : decide (fC < (ag.length : Int)) = true := decide_eq_true c7; clear c7; replace H := Option.bind_eq_some_iff.mp H; obtain ⟨t276, A80, H⟩ := H; replace H : (dD.l0 k1 (wrap64 (DV + t276)) ag (ag.length : Int) (wrap64 (fC + 1))) = some r := H; have A8 := aa.mk A80; clear A80; have H' := aa.mk H; clear H; have p274 : 0 ≤ (fC : Int) := dt_; have q274 : fC < (ag.length : Int) := dt_; obtain ⟨ad274, A274_4, c274_4, e274, Wt, Wu, Wv, Ww, Wx, Wy, Wz⟩ := gQ dH.out fC p274 q274; cases e274; replace Wt := hc_ HB Wt; replace Wu := hc_ HB Wu; replace Wv := hc_ HB Wv; replace Ww := hc_ HB Ww; replace Wx := hc_ HB Wx; have HR274_4 := aa.mk Wz; have HC274_4 := aa.mk Wy; clear Wz Wy; replace p274 := eq_true p274; replace q274 := eq_true q274; go_wp2_with (first | ((with_reducible refine bu (N := 5) rfl ?_); refine bz ?hg (N := 5) ?hd (cs := #[.int .i64 0, .int .i64 0, .int .i64 0, .int .i64 0, .slice none 0 0]) (t := 27) ?hr ?_; (case hd => rfl); (case hg => rfl); (case hr => first | (go_simp; done) | (go_simp; rfl)); intro gb275 hg w9 aU hb; have BK275 := aa.mk (aU); have GW275 : aa (w.heap.size ≤ gb275) := gw_ hg (aI bl_); have GE275 := GW275; have BZ := nl_ mH hg; have XH := ng_ mH hg; replace mH := kb_ mH hb; replace HB := aa.mk (ay bl_ hb); clear hb aU hg; have hnb10 := XH.out; have hnc10 := BZ.out; obtain ⟨yZ, za, zb, ze, zf, zg, zh, zi, zk, zl⟩ := bQ BK275.out) | ((with_reducible refine aZ (f := 54) rfl ?_); refine cz (some 19) rfl rfl Try.func54 (by kernel_rfl) rfl #[.agg #[.int .i64 ((aj ag fC).f0), .int .i64 ((aj ag fC).f1), .int .i64 ((aj ag fC).f2), .int .i64 ((aj ag fC).f3), .slice A274_4 ((aj ag fC).f4).length c274_4]] rfl mp_ ?_; (with_reducible refine (ih k1 (by have := HK1.out; omega) ((aj ag fC).f0) ((aj ag fC).f1) ((aj ag fC).f2) ((aj ag fC).f3) _ _ ((aj ag fC).f4) t276 _ ?aX ?aY A8.out).mono ?_); (case aX => exact Kd.bX HR274_4.out bl_); (case aY => exact HC274_4.out); rintro e w12 ⟨rfl, hb⟩; refine ⟨_, rfl, ?_⟩; replace mH := aa.mk (dV (g := AA) (o := .cells #[.int .i64 ak, .int .i64 aG, .int .i64 aH, .int .i64 aD, .slice (some ad274) ag.length bF] 27 (0, 0)) (by (with_reducible repeat (first | refine ah ?_ _ | refine ai ?_ | refine af ?_ _)); refine aQ ?_ BZ.out _; (with_reducible repeat (first | refine ah ?_ _ | refine ai ?_ | refine af ?_ _)); refine aQ ?_ BZ.out _; (with_reducible repeat (first | refine ah ?_ _ | refine ai ?_ | refine af ?_ _)); refine aQ ?_ BZ.out _; (with_reducible repeat (first | refine ah ?_ _ | refine ai ?_ | refine af ?_ _)); refine aQ ?_ BZ.out _; (with_reducible repeat (first | refine ah ?_ _ | refine ai ?_ | refine af ?_ _)); refine aQ ?_ BZ.out _; (with_reducible repeat (first | refine ah ?_ _ | refine ai ?_ | refine af ?_ _)); exact mH.out) hb); replace BK275 := aa.mk (dV (g := gb275) (o := .cells #[.int .i64 ((aj ag fC).f0), .int .i64 ((aj ag fC).f1), .int .i64 ((aj ag fC).f2), .int .i64 ((aj ag fC).f3), .slice A274_4 ((aj ag fC).f4).length c274_4] 27 (0, 0)) (by (with_reducible repeat (first | refine ah ?_ _ | refine ai ?_ | refine af ?_ _)); refine aW (cs := #[.int .i64 ((aj ag fC).f0), .int .i64 ((aj ag fC).f1), .int .i64 ((aj ag fC).f2), .int .i64 ((aj ag fC).f3), .slice none 0 0]) ?_ 4 _ rfl; (with_reducible repeat (first | refine ah ?_ _ | refine ai ?_ | refine af ?_ _)); refine aW (cs := #[.int .i64 ((aj ag fC).f0), .int .i64 ((aj ag fC).f1), .int .i64 ((aj ag fC).f2), .int .i64 0, .slice none 0 0]) ?_ 3 _ rfl; (with_reducible repeat (first | refine ah ?_ _ | refine ai ?_ | refine af ?_ _)); refine aW (cs := #[.int .i64 ((aj ag fC).f0), .int .i64 ((aj ag fC).f1), .int .i64 0, .int .i64 0, .slice none 0 0]) ?_ 2 _ rfl; (with_reducible repeat (first | refine ah ?_ _ | refine ai ?_ | refine af ?_ _)); refine aW (cs := #[.int .i64 ((aj ag fC).f0), .int .i64 0, .int .i64 0, .int .i64 0, .slice none 0 0]) ?_ 1 _ rfl; (with_reducible repeat (first | refine ah ?_ _ | refine ai ?_ | refine af ?_ _)); refine aW (cs := #[.int .i64 0, .int .i64 0, .int .i64 0, .int .i64 0, .slice none 0 0]) ?_ 0 _ rfl; (with_reducible repeat (first | refine ah ?_ _ | refine ai ?_ | refine af ?_ _)); exact BK275.out) hb); replace HB := aa.mk (ay bl_ hb); (try clear hb); (try clear hb2); (try clear hk); (try clear hi)))
       go_roundg k1
       case measure => have := HK1.out; omega
       case rel => exact ⟨(wrap64 (DV + t276)), (wrap64 (fC + 1)), rs_, rs_, H', ⟨by have := HK1.out; omega⟩, ⟨bk_⟩, ⟨bl_⟩⟩
      ·rw [if_neg c7] at H; exact absurd H (by simp)
     ·rw [if_neg c6] at H; exact absurd H (by simp)
    ·rw [if_neg c5] at H; have uK : decide (fC < (ag.length : Int)) = false := decide_eq_false c5; clear c5; obtain rfl := Option.some.inj H; go_wp2; go_ret; exact ⟨re_, bl_⟩
 ·rw [if_neg c2] at H; have Ag : (ak == 5) = false := beq_eq_false_iff_ne.mpr c2; have Cq : (ak != 5) = true := bne_iff_ne.mpr c2; by_cases c13 : ak = 6
  ·rw [if_pos c13] at H; have uw : (ak == 6) = true := beq_iff_eq.mpr c13; have c13b1 : (ak != 6) = false := bne_eq_false_iff_eq.mpr c13; clear c13; by_cases c14 : 0 < (ag.length : Int)
   ·rw [if_pos c14] at H; have xJ : decide (0 < (ag.length : Int)) = true := decide_eq_true c14; have Ej : decide (0 < ag.length) = true := decide_eq_true (by omega); clear c14; replace H := Option.bind_eq_some_iff.mp H; obtain ⟨t278, A150, H⟩ := H; replace H : (some (wrap64 (1 + (wrap64 (aD * t278))))) = some r := H; have A15 := aa.mk A150; clear A150; obtain rfl := Option.some.inj H; go_enter Try.func54, Try.ntmps54; try go_wp2_with (first | ((with_reducible refine bu (N := 1) rfl ?_); refine bz ?hg (N := 1) ?hd (cs := #[.int .i64 ak, .int .i64 aG, .int .i64 aH, .int .i64 aD, .slice bL ag.length bF]) (t := 27) ?hr ?_; (case hd => rfl); (case hg => rfl); (case hr => first | (go_simp; done) | (go_simp; rfl)); intro AA hg w16 aU hb; have mH := aa.mk (aU); have Qf : aa (w.heap.size ≤ AA) := gw_ hg (aI bl_); have GE273 := Qf; replace HB := aa.mk (ay bl_ hb); clear hb aU hg; obtain ⟨FR, FT, FU, FV, FW, FX, FY, FZ, F3, F4⟩ := bQ mH.out))
    replace mH := aa.mk (ai mH.out); replace HB := aa.mk (bV HB.out); have p277 : 0 ≤ (0 : Int) := (by omega); have q277 : 0 < (ag.length : Int) := dt_; obtain ⟨Ew, A277_4, c277_4, e277, J3, J4, J5, J6, J7, WA, WB⟩ := gQ dH.out 0 p277 q277; have J8 := J7; (try simp only [z0_, Nat.zero_mul, Addr.add_zero'] at J8)
    have J9 := J6; (try simp only [z0_, Nat.zero_mul, Addr.add_zero'] at J9)
    have Ka := J5; (try simp only [z0_, Nat.zero_mul, Addr.add_zero'] at Ka)
    have Kb := J4; (try simp only [z0_, Nat.zero_mul, Addr.add_zero'] at Kb)
    have Ke := J3; (try simp only [z0_, Nat.zero_mul, Addr.add_zero'] at Ke)
    cases e277; have qi277 : (0 < ag.length) = True := eq_true (by omega); (try simp only [z0_, Nat.zero_mul, Addr.add_zero'] at J3 J4 J5 J6 J7)
    replace J3 := hc_ HB J3; replace J4 := hc_ HB J4; replace J5 := hc_ HB J5; replace J6 := hc_ HB J6; replace J7 := hc_ HB J7; have WC := aa.mk WB; have HC277_4 := aa.mk WA; clear WB WA; replace p277 := eq_true p277; replace q277 := eq_true q277; refine qQ (n := 10) (S := fun w' => w'.cell? ⟨AA, 0, none⟩ = some (.int .i64 ak) ∧ w'.cell? ⟨AA, 1, none⟩ = some (.int .i64 aG) ∧ w'.cell? ⟨AA, 2, none⟩ = some (.int .i64 aH) ∧ w'.cell? ⟨AA, 3, none⟩ = some (.int .i64 aD) ∧ w'.cell? ⟨AA, 4, none⟩ = some (.slice (some Ew) ag.length bF) ∧ w'.cell? Ew = some (.int .i64 ((aj ag 0).f0)) ∧ w'.cell? ⟨Ew.block, Ew.off + 1, none⟩ = some (.int .i64 ((aj ag 0).f1)) ∧ w'.cell? ⟨Ew.block, Ew.off + 2, none⟩ = some (.int .i64 ((aj ag 0).f2)) ∧ w'.cell? ⟨Ew.block, Ew.off + 3, none⟩ = some (.int .i64 ((aj ag 0).f3)) ∧ w'.cell? ⟨Ew.block, Ew.off + 4, none⟩ = some (.slice A277_4 ((aj ag 0).f4).length c277_4)) (ds := []) #[false, false, false, false, false, false, false, false, false, false] (by kernel_rfl) rfl rfl ⟨(aA mH.out 0).trans rfl, (aA mH.out 1).trans rfl, (aA mH.out 2).trans rfl, (aA mH.out 3).trans rfl, (aA mH.out 4).trans rfl, ((HB.out.cell (World.block_lt_of_cell? w _ Ke)).trans Ke), ((HB.out.cell (World.block_lt_of_cell? w _ Kb)).trans Kb), ((HB.out.cell (World.block_lt_of_cell? w _ Ka)).trans Ka), ((HB.out.cell (World.block_lt_of_cell? w _ J9)).trans J9), ((HB.out.cell (World.block_lt_of_cell? w _ J8)).trans J8)⟩ (fun hHeld => ?_); refine mO dD.tab11 dD.bits11 (fun HT_ HW_ => ?_)
    generalize w16.drew = w18 at mH HB WC J3 J4 J5 J6 J7 hHeld ⊢
    refine pu_ HT_ 0 25 (bm 10 1) ?_
    refine pu_ HT_ 2 27 (bm 10 5) ?_
    refine ta_ HT_ HW_ 1 26 (bm 10 7) hHeld ?_
    refine ta_ HT_ HW_ 3 28 (bm 10 15) hHeld ?_
    refine pu_ HT_ 4 29 (bm 10 31) ?_
    refine ta_ HT_ HW_ 5 30 (bm 10 63) hHeld ?_
    refine qJ (i := 6) (N := some 31) #[true, true, true, true, true, true, true, false, false, false] rfl rfl (kL HT_.out (by kernel_rfl)) (by decide) (fun K hK => ?_)
    refine xI Try.func54 (by kernel_rfl) rfl #[.agg #[.int .i64 ((aj ag 0).f0), .int .i64 ((aj ag 0).f1), .int .i64 ((aj ag 0).f2), .int .i64 ((aj ag 0).f3), .slice A277_4 ((aj ag 0).f4).length c277_4]] (by rfl) rfl rfl mp_ ?_
    with_reducible refine (ih k (by omega) ((aj ag 0).f0) ((aj ag 0).f1) ((aj ag 0).f2) ((aj ag 0).f3) _ _ ((aj ag 0).f4) t278 _ ?aX ?aY A15.out).mono ?_
    (case aX => exact cb_ (Kd.bX WC.out HB.out))
    (case aY => exact HC277_4.out)
    rintro e w19 ⟨rfl, hb⟩
    refine ⟨_, rfl, ?_⟩
    replace mH := kb_ mH hb; replace HB := aa.mk (ay bl_ hb); (try clear hb)
    (try clear hb2)
    (try clear hk)
    (try clear hi)
    refine hK.out _ _ ⟨(aA mH.out 0).trans rfl, (aA mH.out 1).trans rfl, (aA mH.out 2).trans rfl, (aA mH.out 3).trans rfl, (aA mH.out 4).trans rfl, ((HB.out.cell (World.block_lt_of_cell? w _ Ke)).trans Ke), ((HB.out.cell (World.block_lt_of_cell? w _ Kb)).trans Kb), ((HB.out.cell (World.block_lt_of_cell? w _ Ka)).trans Ka), ((HB.out.cell (World.block_lt_of_cell? w _ J9)).trans J9), ((HB.out.cell (World.block_lt_of_cell? w _ J8)).trans J8)⟩ (fun hHeld => ?_)
    clear hK K; refine iH (a' := ?_) ?_ ?_
    rotate_left
    ·show Act.put _ (some 31) _ = _
     simp only [Act.put, List.setIfInBounds_toArray, List.set_cons_zero, List.set_cons_succ, eQ, fe]; rfl
    refine pu_ HT_ 7 32 (bm 10 255) ?_
    refine pu_ HT_ 8 33 (bm 10 511) ?_
    refine pu_ HT_ 9 2 #[true, true, true, true, true, true, true, true, true, true] ?_
    refine uG (qp HT_.out (by kernel_rfl)) ?_
    try go_wp2
    go_ret; exact ⟨re_, bl_⟩
   ·rw [if_neg c14] at H; exact absurd H (by simp)
  ·rw [if_neg c13] at H; have uw : (ak == 6) = false := beq_eq_false_iff_ne.mpr c13; have c13b1 : (ak != 6) = true := bne_iff_ne.mpr c13; obtain rfl := Option.some.inj H; go_enter Try.func54, Try.ntmps54; go_wp2_with (first | ((with_reducible refine bu (N := 1) rfl ?_); refine bz ?hg (N := 1) ?hd (cs := #[.int .i64 ak, .int .i64 aG, .int .i64 aH, .int .i64 aD, .slice bL ag.length bF]) (t := 27) ?hr ?_; (case hd => rfl); (case hg => rfl); (case hr => first | (go_simp; done) | (go_simp; rfl)); intro AA hg w20 aU hb; have mH := aa.mk (aU); have Qf : aa (w.heap.size ≤ AA) := gw_ hg (aI bl_); have GE273 := Qf; replace HB := aa.mk (ay bl_ hb); clear hb aU hg; obtain ⟨sM, sN, sO, sP, sQ, sS, sU, sV, sW, sZ⟩ := bQ mH.out))
   go_ret; exact ⟨re_, bl_⟩

end Go.Proofs.Ytggelekooacmnaa.Z
namespace Go.Proofs.Ytggelekooacmnaa.Z
open Go.RowKit Go.Proofs.YtggelekooacmnaaW.bM Go.Proofs.YtggelekooacmnaaW.dR Go.Proofs.YtggelekooacmnaaW.eO
attribute [local go_sem] iM iN jk jl gW gX iO iP   -- for this text's walks alone
set_option linter.unusedVariables false
set_option linter.unusedSimpArgs false

/-! ### ic: function 44 -/
def ic.f (k : Nat) (ak : Int) (aG : Int) (aH : Int) (aD : Int) (ag : List (S27)) : Option (Int) := (dW.f k ak aG aH aD ag).bind fun Fp => (if Fp > 10 then (some 9) else ((bg.f k ak aG aH aD ag).bind fun vX => (if vX = 0 then ((dD.f k ak aG aH aD ag).bind fun CG => (if CG > 24 then (some 9) else (some 0))) else (some vX))))
theorem ic.mono : ∀ a0 a1 a2 a3 a4 k, LeO (ic.f k a0 a1 a2 a3 a4) (ic.f (k + 1) a0 a1 a2 a3 a4) := by
 intro a0 a1 a2 a3 a4 k; unfold ic.f
 repeat' first
   | (with_reducible exact dW.mono _ _ _ _ _ _)
   | (with_reducible exact bg.mono _ _ _ _ _ _)
   | (with_reducible exact dD.mono _ _ _ _ _ _)
   | (with_reducible exact LeO.refl _)
   | (with_reducible exact LeO.none _)
   | (with_reducible refine LeO.ite ?_ ?_)
   | (with_reducible refine LeO.bind ?_ (fun _ => ?_))
   | exact dW.mono _ _ _ _ _ _
   | exact bg.mono _ _ _ _ _ _
   | exact dD.mono _ _ _ _ _ _
   | exact LeO.none _
   | refine LeO.ite ?_ ?_
   | refine LeO.bind ?_ (fun _ => ?_)
set_option maxHeartbeats 8000000 in
set_option maxRecDepth 100000 in
theorem ic.calls (k : Nat) (ak : Int) (aG : Int) (aH : Int) (aD : Int) (bL : Option Addr) (bF : Nat) (ag : List (S27)) (r : Int) (w : World) (gM : Kd.C k27 w bL ag.length ag) (gN : ag.length ≤ bF) (h : ic.f k ak aG aH aD ag = some r) :
  Calls Try.prog 44 #[.agg #[.int .i64 ak, .int .i64 aG, .int .i64 aH, .int .i64 aD, .slice bL ag.length bF]] w fun e w' => e = .returned (.int .i64 r) ∧ Below w.heap.size w w' := by
 have rY := Try.underlying27; have dH := aa.mk gM; have fq := aa.mk gN; clear gM gN; have HB := aa.mk (Below.refl w.heap.size w); have H : ((dW.f k ak aG aH aD ag).bind fun Fp => (if Fp > 10 then (some 9) else ((bg.f k ak aG aH aD ag).bind fun vX => (if vX = 0 then ((dD.f k ak aG aH aD ag).bind fun CG => (if CG > 24 then (some 9) else (some 0))) else (some vX))))) = some r := h; clear h; replace H := Option.bind_eq_some_iff.mp H; obtain ⟨Fp, A20, H⟩ := H; replace H : (if Fp > 10 then (some 9) else ((bg.f k ak aG aH aD ag).bind fun vX => (if vX = 0 then ((dD.f k ak aG aH aD ag).bind fun CG => (if CG > 24 then (some 9) else (some 0))) else (some vX)))) = some r := H; have A2 := aa.mk A20; clear A20; by_cases c3 : Fp > 10
 ·rw [if_pos c3] at H; have lW : decide (10 < Fp) = true := decide_eq_true c3; clear c3; obtain rfl := Option.some.inj H; go_enter Try.func44, Try.ntmps44; go_wp2_with (first | ((with_reducible refine bu (N := 1) rfl ?_); refine bz ?hg (N := 1) ?hd (cs := #[.int .i64 ak, .int .i64 aG, .int .i64 aH, .int .i64 aD, .slice bL ag.length bF]) (t := 27) ?hr ?_; (case hd => rfl); (case hg => rfl); (case hr => first | (go_simp; done) | (go_simp; rfl)); intro KR hg w4 aU hb; have lG := aa.mk (aU); have KS : aa (w.heap.size ≤ KR) := gw_ hg (aI bl_); have GE279 := KS; replace HB := aa.mk (ay bl_ hb); clear hb aU hg; obtain ⟨Hl, Hm, Ho, Hq, Hr, Ht, Hu, Hw, Hy, Hz⟩ := bQ lG.out) | ((with_reducible refine aZ (f := 52) rfl ?_); refine cz (some 5) rfl rfl Try.func52 (by kernel_rfl) rfl #[.agg #[.int .i64 ak, .int .i64 aG, .int .i64 aH, .int .i64 aD, .slice bL ag.length bF]] rfl mp_ ?_; (with_reducible refine (dW.calls k ak aG aH aD _ _ ag Fp _ ?aX ?aY A2.out).mono ?_); (case aX => exact cb_ (Kd.bX dH.out HB.out)); (case aY => exact fq.out); rintro e w6 ⟨rfl, hb⟩; refine ⟨_, rfl, ?_⟩; replace lG := kb_ lG hb; replace HB := aa.mk (ay bl_ hb); (try clear hb); (try clear hb2); (try clear hk); (try clear hi)))
  go_ret; exact ⟨re_, bl_⟩
 ·rw [if_neg c3] at H; have lW : decide (10 < Fp) = false := decide_eq_false c3; clear c3; replace H := Option.bind_eq_some_iff.mp H; obtain ⟨vX, A70, H⟩ := H; replace H : (if vX = 0 then ((dD.f k ak aG aH aD ag).bind fun CG => (if CG > 24 then (some 9) else (some 0))) else (some vX)) = some r := H; have A7 := aa.mk A70; clear A70; by_cases c8 : vX = 0
  ·rw [if_pos c8] at H; have ym : (vX == 0) = true := beq_iff_eq.mpr c8; have Dx : (vX != 0) = false := bne_eq_false_iff_eq.mpr c8; clear c8; replace H := Option.bind_eq_some_iff.mp H; obtain ⟨CG, A90, H⟩ := H; replace H : (if CG > 24 then (some 9) else (some 0)) = some r := H; have A9 := aa.mk A90; clear A90; by_cases c10 : CG > 24
   ·rw [if_pos c10] at H; have r9 : decide (24 < CG) = true := decide_eq_true c10; clear c10; obtain rfl := Option.some.inj H; go_enter Try.func44, Try.ntmps44; go_wp2_with (first | ((with_reducible refine bu (N := 1) rfl ?_); refine bz ?hg (N := 1) ?hd (cs := #[.int .i64 ak, .int .i64 aG, .int .i64 aH, .int .i64 aD, .slice bL ag.length bF]) (t := 27) ?hr ?_; (case hd => rfl); (case hg => rfl); (case hr => first | (go_simp; done) | (go_simp; rfl)); intro KR hg w11 aU hb; have lG := aa.mk (aU); have KS : aa (w.heap.size ≤ KR) := gw_ hg (aI bl_); have GE279 := KS; replace HB := aa.mk (ay bl_ hb); clear hb aU hg; obtain ⟨nY, nZ, uM, uN, uO, og, oh, uP, uQ, uR⟩ := bQ lG.out) | ((with_reducible refine aZ (f := 52) rfl ?_); refine cz (some 5) rfl rfl Try.func52 (by kernel_rfl) rfl #[.agg #[.int .i64 ak, .int .i64 aG, .int .i64 aH, .int .i64 aD, .slice bL ag.length bF]] rfl mp_ ?_; (with_reducible refine (dW.calls k ak aG aH aD _ _ ag Fp _ ?aX ?aY A2.out).mono ?_); (case aX => exact cb_ (Kd.bX dH.out HB.out)); (case aY => exact fq.out); rintro e w13 ⟨rfl, hb⟩; refine ⟨_, rfl, ?_⟩; replace lG := kb_ lG hb; replace HB := aa.mk (ay bl_ hb); (try clear hb); (try clear hb2); (try clear hk); (try clear hi); obtain ⟨mg, mh, mi, mo, mq, mr, mD, mE, mF, mG⟩ := bQ lG.out) | ((with_reducible refine aZ (f := 53) rfl ?_); refine cz (some 8) rfl rfl Try.func53 (by kernel_rfl) rfl #[.agg #[.int .i64 ak, .int .i64 aG, .int .i64 aH, .int .i64 aD, .slice bL ag.length bF]] rfl mp_ ?_; (with_reducible refine (bg.calls k ak aG aH aD _ _ ag vX _ ?aX ?aY A7.out).mono ?_); (case aX => exact cb_ (Kd.bX dH.out HB.out)); (case aY => exact fq.out); rintro e w15 ⟨rfl, hb⟩; refine ⟨_, rfl, ?_⟩; replace lG := kb_ lG hb; replace HB := aa.mk (ay bl_ hb); (try clear hb); (try clear hb2); (try clear hk); (try clear hi); obtain ⟨tq, tu, tC, tF, tH, tJ, tK, tL, tN, tO⟩ := bQ lG.out) | ((with_reducible refine aZ (f := 54) rfl ?_); refine cz (some 13) rfl rfl Try.func54 (by kernel_rfl) rfl #[.agg #[.int .i64 ak, .int .i64 aG, .int .i64 aH, .int .i64 aD, .slice bL ag.length bF]] rfl mp_ ?_; (with_reducible refine (dD.calls k ak aG aH aD _ _ ag CG _ ?aX ?aY A9.out).mono ?_); (case aX => exact cb_ (Kd.bX dH.out HB.out)); (case aY => exact fq.out); rintro e w17 ⟨rfl, hb⟩; refine ⟨_, rfl, ?_⟩; replace lG := kb_ lG hb; replace HB := aa.mk (ay bl_ hb); (try clear hb); (try clear hb2); (try clear hk); (try clear hi)))
    go_ret; exact ⟨re_, bl_⟩
   ·rw [if_neg c10] at H; have r9 : decide (24 < CG) = false := decide_eq_false c10; clear c10; obtain rfl := Option.some.inj H; go_enter Try.func44, Try.ntmps44; go_wp2_with (first | ((with_reducible refine bu (N := 1) rfl ?_); refine bz ?hg (N := 1) ?hd (cs := #[.int .i64 ak, .int .i64 aG, .int .i64 aH, .int .i64 aD, .slice bL ag.length bF]) (t := 27) ?hr ?_; (case hd => rfl); (case hg => rfl); (case hr => first | (go_simp; done) | (go_simp; rfl)); intro KR hg w18 aU hb; have lG := aa.mk (aU); have KS : aa (w.heap.size ≤ KR) := gw_ hg (aI bl_); have GE279 := KS; replace HB := aa.mk (ay bl_ hb); clear hb aU hg; obtain ⟨Jh, Ji, Rt, Ru, Rv, Jj, Jk, Rw, Rx, Ry⟩ := bQ lG.out) | ((with_reducible refine aZ (f := 52) rfl ?_); refine cz (some 5) rfl rfl Try.func52 (by kernel_rfl) rfl #[.agg #[.int .i64 ak, .int .i64 aG, .int .i64 aH, .int .i64 aD, .slice bL ag.length bF]] rfl mp_ ?_; (with_reducible refine (dW.calls k ak aG aH aD _ _ ag Fp _ ?aX ?aY A2.out).mono ?_); (case aX => exact cb_ (Kd.bX dH.out HB.out)); (case aY => exact fq.out); rintro e w20 ⟨rfl, hb⟩; refine ⟨_, rfl, ?_⟩; replace lG := kb_ lG hb; replace HB := aa.mk (ay bl_ hb); (try clear hb); (try clear hb2); (try clear hk); (try clear hi); obtain ⟨sM, sN, sO, sP, sQ, sS, sU, sV, sW, sZ⟩ := bQ lG.out) | ((with_reducible refine aZ (f := 53) rfl ?_); refine cz (some 8) rfl rfl Try.func53 (by kernel_rfl) rfl #[.agg #[.int .i64 ak, .int .i64 aG, .int .i64 aH, .int .i64 aD, .slice bL ag.length bF]] rfl mp_ ?_; (with_reducible refine (bg.calls k ak aG aH aD _ _ ag vX _ ?aX ?aY A7.out).mono ?_); (case aX => exact cb_ (Kd.bX dH.out HB.out)); (case aY => exact fq.out); rintro e w22 ⟨rfl, hb⟩; refine ⟨_, rfl, ?_⟩; replace lG := kb_ lG hb; replace HB := aa.mk (ay bl_ hb); (try clear hb); (try clear hb2); (try clear hk); (try clear hi); obtain ⟨hcz23_0, hcz23_1, hcz23_2, hcz23_3, hcz23_4, hfz23_0, hfz23_1, hfz23_2, hfz23_3, hfz23_4⟩ := bQ lG.out) | ((with_reducible refine aZ (f := 54) rfl ?_); refine cz (some 13) rfl rfl Try.func54 (by kernel_rfl) rfl #[.agg #[.int .i64 ak, .int .i64 aG, .int .i64 aH, .int .i64 aD, .slice bL ag.length bF]] rfl mp_ ?_; (with_reducible refine (dD.calls k ak aG aH aD _ _ ag CG _ ?aX ?aY A9.out).mono ?_); (case aX => exact cb_ (Kd.bX dH.out HB.out)); (case aY => exact fq.out); rintro e w24 ⟨rfl, hb⟩; refine ⟨_, rfl, ?_⟩; replace lG := kb_ lG hb; replace HB := aa.mk (ay bl_ hb); (try clear hb); (try clear hb2); (try clear hk); (try clear hi)))
    go_ret; exact ⟨re_, bl_⟩
  ·rw [if_neg c8] at H; have ym : (vX == 0) = false := beq_eq_false_iff_ne.mpr c8; have Dx : (vX != 0) = true := bne_iff_ne.mpr c8; obtain rfl := Option.some.inj H; go_enter Try.func44, Try.ntmps44; go_wp2_with (first | ((with_reducible refine bu (N := 1) rfl ?_); refine bz ?hg (N := 1) ?hd (cs := #[.int .i64 ak, .int .i64 aG, .int .i64 aH, .int .i64 aD, .slice bL ag.length bF]) (t := 27) ?hr ?_; (case hd => rfl); (case hg => rfl); (case hr => first | (go_simp; done) | (go_simp; rfl)); intro KR hg w25 aU hb; have lG := aa.mk (aU); have KS : aa (w.heap.size ≤ KR) := gw_ hg (aI bl_); have GE279 := KS; replace HB := aa.mk (ay bl_ hb); clear hb aU hg; obtain ⟨Bz, BA, BB, BC, BD, BF, BG, BH, BI, BJ⟩ := bQ lG.out) | ((with_reducible refine aZ (f := 52) rfl ?_); refine cz (some 5) rfl rfl Try.func52 (by kernel_rfl) rfl #[.agg #[.int .i64 ak, .int .i64 aG, .int .i64 aH, .int .i64 aD, .slice bL ag.length bF]] rfl mp_ ?_; (with_reducible refine (dW.calls k ak aG aH aD _ _ ag Fp _ ?aX ?aY A2.out).mono ?_); (case aX => exact cb_ (Kd.bX dH.out HB.out)); (case aY => exact fq.out); rintro e w27 ⟨rfl, hb⟩; refine ⟨_, rfl, ?_⟩; replace lG := kb_ lG hb; replace HB := aa.mk (ay bl_ hb); (try clear hb); (try clear hb2); (try clear hk); (try clear hi); obtain ⟨nK, nL, oL, oM, oN, nM, nN, oO, oP, oQ⟩ := bQ lG.out) | ((with_reducible refine aZ (f := 53) rfl ?_); refine cz (some 8) rfl rfl Try.func53 (by kernel_rfl) rfl #[.agg #[.int .i64 ak, .int .i64 aG, .int .i64 aH, .int .i64 aD, .slice bL ag.length bF]] rfl mp_ ?_; (with_reducible refine (bg.calls k ak aG aH aD _ _ ag vX _ ?aX ?aY A7.out).mono ?_); (case aX => exact cb_ (Kd.bX dH.out HB.out)); (case aY => exact fq.out); rintro e w29 ⟨rfl, hb⟩; refine ⟨_, rfl, ?_⟩; replace lG := kb_ lG hb; replace HB := aa.mk (ay bl_ hb); (try clear hb); (try clear hb2); (try clear hk); (try clear hi)))
   go_ret; exact ⟨re_, bl_⟩

end Go.Proofs.Ytggelekooacmnaa.Z
set_option linter.unusedVariables false
set_option linter.unusedSimpArgs false
namespace Go.Proofs.Ytggelekooacmnaa.Pure
open Go.RowKit Go.Proofs.Ytggelekooacmnaa.Z Go.Proofs.YtggelekooacmnaaW.bM Go.Proofs.YtggelekooacmnaaW.dR Go.Proofs.YtggelekooacmnaaW.eO
-- plain laws on types: what the printed functions of the types come to
theorem WE {n : Int} (h1 : -9223372036854775808 ≤ n) (h2 : n ≤ 9223372036854775807) : wrap64 n = n := by unfold wrap64; omega
theorem lQ {n : Nat} (h2 : n ≤ 1000000000) : wrap64 ((n : Int) + 1) = ((n + 1 : Nat) : Int) := by unfold wrap64; omega
theorem rdT {l : List S27} {i : Nat} (h : i < l.length) : aj l (i : Int) = l[i] := by
  unfold aj; simp [List.getD, h]
theorem rdT0 {l : List S27} (h : 0 < l.length) : aj l 0 = l[0] := by
  unfold aj; simp [List.getD, h]
/-- bounded: n levels at most, each list of at most a thousand -/
def Bd : Nat → S27 → Prop
  | 0, _ => False
  | n + 1, t => t.f4.length ≤ 1000 ∧ ∀ x ∈ t.f4, Bd n x
theorem Bd.mono {n : Nat} : ∀ {t : S27}, Bd n t → Bd (n + 1) t := by
  induction n with
  | zero => intro t h; exact h.elim
  | succ n ih => intro t h; exact ⟨h.1, fun x hx => ih (h.2 x hx)⟩
/-- an evaluation of a function of types at a type -/
def at_ {α : Type} (g : Nat → Int → Int → Int → Int → List S27 → Option α) (t : S27) : Nat → Option α := fun k => g k t.f0 t.f1 t.f2 t.f3 t.f4
def mxl (f : S27 → Int) : List S27 → Int → Int
  | [], m => m
  | x :: l, m => mxl f l (mx m (f x))
def dep : Nat → S27 → Int
  | 0, _ => 0
  | n + 1, t => mxl (dep n) t.f4 0 + 1
theorem mx_le {a b c : Int} (h1 : a ≤ c) (h2 : b ≤ c) : mx a b ≤ c := by unfold mx; split <;> omega
theorem mx_ge {a b : Int} : a ≤ mx a b ∧ b ≤ mx a b := by unfold mx; split <;> omega
theorem Lj (f : S27 → Int) : ∀ (l : List S27) (m : Int), m ≤ mxl f l m
  | [], m => Int.le_refl _
  | x :: l, m => Int.le_trans mx_ge.1 (Lj f l _)
theorem Ug {f : S27 → Int} {c : Int} : ∀ {l : List S27} {m : Int}, (∀ x ∈ l, f x ≤ c) → m ≤ c → mxl f l m ≤ c
  | [], m, _, h => h
  | x :: l, m, h, hm => Ug (l := l) (fun y hy => h y (List.mem_cons_of_mem x hy)) (mx_le hm (h x List.mem_cons_self))
theorem Qg : ∀ (n : Nat) (t : S27), 0 ≤ dep n t ∧ dep n t ≤ n
  | 0, t => by simp [dep]
  | n + 1, t => by
    have h1 := Lj (dep n) t.f4 0
    have h2 := Ug (f := dep n) (c := n) (l := t.f4) (m := 0) (fun x _ => (Qg n x).2) (by omega)
    simp only [dep]; omega
theorem depth_l0 (n : Nat) (hn : n ≤ 1000) (l : List S27) (hl : l.length ≤ 1000) (ih : ∀ t ∈ l, Ev (at_ dW.f t) (dep n t)) :
    ∀ (d i : Nat) (m : Int), 0 ≤ m → m ≤ 1000 → i + d = l.length → Ev (fun k => dW.l0 k m l l.length i) (mxl (dep n) (l.drop i) m + 1) := by
  intro d
  induction d with
  | zero =>
    intro i m h0 h1 hi
    refine ⟨1, fun k hk => ?_⟩
    obtain ⟨k, rfl⟩ : ∃ j, k = j + 1 := ⟨k - 1, by omega⟩
    simp only [dW.l0]
    rw [if_neg (by omega), List.drop_eq_nil_of_le (by omega), WE (by omega) (by omega)]; rfl
  | succ d IH =>
    intro i m h0 h1 hi
    have hlt : i < l.length := by omega
    obtain ⟨K1, e1⟩ := ih l[i] (List.getElem_mem hlt)
    have hb := Qg n l[i]
    obtain ⟨K2, e2⟩ := IH (i + 1) (mx m (dep n l[i])) (Int.le_trans h0 mx_ge.1) (mx_le h1 (by omega)) (by omega)
    refine ⟨max K1 K2 + 1, fun k hk => ?_⟩
    obtain ⟨k, rfl⟩ : ∃ j, k = j + 1 := ⟨k - 1, by omega⟩
    have e1' := e1 k (by omega)
    have e2' := e2 k (by omega)
    unfold at_ at e1'
    dsimp only at e1' e2'
    simp only [dW.l0]
    rw [if_pos (by omega), if_pos (by omega), if_pos (by omega), rdT hlt, e1', Option.bind_some, lQ (by omega), e2', List.drop_eq_getElem_cons hlt]; rfl
theorem Uh (n : Nat) : ∀ (t : S27), n ≤ 1000 → Bd n t → Ev (at_ dW.f t) (dep n t) := by
  induction n with
  | zero => intro t _ h; exact h.elim
  | succ n ih =>
    intro t hn hb
    have h := depth_l0 n (by omega) t.f4 hb.1 (fun x hx => ih x (by omega) (hb.2 x hx)) t.f4.length 0 0 (by omega) (by omega) (by omega)
    exact h.step (fun k => by simp only [at_, dW.f]; rfl)
/-- the UA depth -/
theorem mn_eq (a b : Int) : mn a b = min a b := by unfold mn; split <;> omega
theorem mx_eq (a b : Int) : mx a b = max a b := by unfold mx; split <;> omega
theorem mxl_eq (f : S27 → Int) : ∀ (l : List S27) (m c : Int), mxl (fun x => min (f x) c) l (min m c) = min (mxl f l m) c
  | [], m, c => rfl
  | x :: l, m, c => by
    simp only [mxl]
    rw [show mx (min m c) (min (f x) c) = min (mx m (f x)) c from by simp only [mx_eq]; omega]
    exact mxl_eq f l _ c
theorem Depth_l0 (n : Nat) (hn : n ≤ 1000) (l : List S27) (hl : l.length ≤ 1000) (c a b m' : Int) (hc : 1 ≤ c) (hc' : c ≤ 1000) (ih : ∀ t ∈ l, Ev (fun k => bO.f k t.f0 t.f1 t.f2 t.f3 t.f4 c) (min (dep n t) c)) (k0 : Int) :
    ∀ (d i : Nat) (m : Int), 0 ≤ m → m ≤ c → i + d = l.length → Ev (fun k => bO.l0 k (c + 1) m i k0 a b m' l) (min (mxl (fun x => min (dep n x) c) (l.drop i) m + 1) (c + 1)) := by
  intro d
  induction d with
  | zero =>
    intro i m h0 h1 hi
    refine ⟨1, fun k hk => ?_⟩
    obtain ⟨k, rfl⟩ : ∃ j, k = j + 1 := ⟨k - 1, by omega⟩
    simp only [bO.l0]
    rw [if_neg (by omega), List.drop_eq_nil_of_le (by omega), WE (by omega) (by omega), mn_eq]; rfl
  | succ d IH =>
    intro i m h0 h1 hi
    have hlt : i < l.length := by omega
    obtain ⟨K1, e1⟩ := ih l[i] (List.getElem_mem hlt)
    have hb := Qg n l[i]
    obtain ⟨K2, e2⟩ := IH (i + 1) (mx m (min (dep n l[i]) c)) (Int.le_trans h0 mx_ge.1) (mx_le h1 (by omega)) (by omega)
    refine ⟨max K1 K2 + 1, fun k hk => ?_⟩
    obtain ⟨k, rfl⟩ : ∃ j, k = j + 1 := ⟨k - 1, by omega⟩
    have e1' := e1 k (by omega)
    have e2' := e2 k (by omega)
    dsimp only at e1' e2'
    have ew : wrap64 (c + 1 - 1) = c := by unfold wrap64; omega
    simp only [bO.l0]
    rw [if_pos (by omega), if_pos (by omega), rdT hlt, ew, e1', Option.bind_some, lQ (by omega), e2', List.drop_eq_getElem_cons hlt]; rfl
theorem Ui (n : Nat) : ∀ (t : S27) (c : Int), n ≤ 1000 → 1 ≤ c → c ≤ 1000 → Bd n t → Ev (fun k => bO.f k t.f0 t.f1 t.f2 t.f3 t.f4 c) (min (dep n t) c) := by
  induction n with
  | zero => intro t c _ _ _ h; exact h.elim
  | succ n ih =>
    intro t c hn h1 h2 hb
    by_cases hc : c = 1
    · subst hc
      have hd := Qg n
      have hd1 : 1 ≤ dep (n + 1) t := by have := Lj (dep n) t.f4 0; simp only [dep]; omega
      refine ⟨1, fun k hk => ?_⟩
      obtain ⟨k, rfl⟩ : ∃ j, k = j + 1 := ⟨k - 1, by omega⟩
      simp only [bO.f]
      rw [if_neg (by omega)]
      have : min (dep (n + 1) t) 1 = 1 := by omega
      rw [this]
      split
      · rfl
      · rw [mn_eq]; rfl
    · obtain ⟨c, rfl⟩ : ∃ e, c = e + 1 := ⟨c - 1, by omega⟩
      have h := Depth_l0 n (by omega) t.f4 hb.1 c t.f1 t.f2 t.f3 (by omega) (by omega) (fun x hx => ih x c (by omega) (by omega) (by omega) (hb.2 x hx)) t.f0 t.f4.length 0 0 (by omega) (by omega) (by omega)
      have e : min (mxl (fun x => min (dep n x) c) (t.f4.drop 0) 0 + 1) (c + 1) = min (dep (n + 1) t) (c + 1) := by
        have := mxl_eq (dep n) t.f4 0 c
        rw [show min (0 : Int) c = 0 from by omega] at this
        simp only [dep, List.drop_zero, this]; omega
      rw [← e]
      exact h.step (fun k => by simp only [bO.f]; rw [if_pos (by omega)]; rfl)

end Go.Proofs.Ytggelekooacmnaa.Pure
set_option linter.unusedVariables false
set_option linter.unusedSimpArgs false
namespace Go.Proofs.Ytggelekooacmnaa.Pure
open Go.RowKit Go.Proofs.Ytggelekooacmnaa.Z Go.Proofs.YtggelekooacmnaaW.bM Go.Proofs.YtggelekooacmnaaW.dR Go.Proofs.YtggelekooacmnaaW.eO
-- faults
def fl1 (f : S27 → Int) : List S27 → Int
  | [] => 0
  | x :: l => if f x = 0 then (if x.f0 = 3 then 8 else if x.f0 = 4 then 8 else fl1 f l) else f x
abbrev unus (a0 a1 a2 a3 : Int) (l : List S27) : Prop := (a0 ≠ 2 ∧ (a1 ≠ 0 ∨ a2 ≠ 0)) ∨ (a0 ≠ 6 ∧ a3 ≠ 0) ∨ (a0 < 5 ∧ l.length ≠ 0)
def lst1 (f : S27 → Int) : List S27 → Int
  | [x] => if f x = 0 then (if x.f0 = 1 then 0 else if x.f0 = 2 then 0 else 8) else f x
  | _ => 2
def flt : Nat → S27 → Int
  | 0, _ => 0
  | n + 1, t => if t.f0 < 1 ∨ 6 < t.f0 then 14 else if unus t.f0 t.f1 t.f2 t.f3 t.f4 then 2
    else if t.f0 = 2 then (if t.f1 < -1000 ∨ t.f1 > t.f2 ∨ t.f2 > 1000 then 1 else 0)
    else if t.f0 = 5 then (if t.f4.length < 2 ∨ t.f4.length > 4 then 1 else fl1 (flt n) t.f4)
    else if t.f0 = 6 then (if t.f3 < 1 ∨ t.f3 > 4 then 1 else lst1 (flt n) t.f4)
    else 0
theorem OQ {a : Int} (h : ¬ (a < 1 ∨ 6 < a)) : a = 1 ∨ a = 2 ∨ a = 3 ∨ a = 4 ∨ a = 5 ∨ a = 6 := by omega
theorem TA {a0 a1 a2 a3 : Int} {l : List S27} (h : ¬ (a0 < 1 ∨ 6 < a0)) : jY.f a0 a1 a2 a3 l = some (decide (unus a0 a1 a2 a3 l)) := by
  unfold jY.f unus
  rcases OQ h with rfl | rfl | rfl | rfl | rfl | rfl <;> by_cases h1 : a1 = 0 <;> by_cases h2 : a2 = 0 <;> by_cases h3 : a3 = 0 <;> by_cases h4 : l = [] <;> simp [h1, h2, h3, h4]
theorem fault_l0 (n : Nat) (l : List S27) (hl : l.length ≤ 1000) (ih : ∀ t ∈ l, Ev (at_ bg.f t) (flt n t)) :
    ∀ (d i : Nat), i + d = l.length → Ev (fun k => bg.l0 k l l.length i) (fl1 (flt n) (l.drop i)) := by
  intro d
  induction d with
  | zero =>
    intro i hi
    refine ⟨1, fun k hk => ?_⟩
    obtain ⟨k, rfl⟩ : ∃ j, k = j + 1 := ⟨k - 1, by omega⟩
    simp only [bg.l0]
    rw [if_neg (by omega), List.drop_eq_nil_of_le (by omega)]; rfl
  | succ d IH =>
    intro i hi
    have hlt : i < l.length := by omega
    obtain ⟨K1, e1⟩ := ih l[i] (List.getElem_mem hlt)
    obtain ⟨K2, e2⟩ := IH (i + 1) (by omega)
    refine ⟨max K1 K2 + 1, fun k hk => ?_⟩
    obtain ⟨k, rfl⟩ : ∃ j, k = j + 1 := ⟨k - 1, by omega⟩
    have e1' := e1 k (by omega)
    have e2' := e2 k (by omega)
    unfold at_ at e1'
    dsimp only at e1' e2'
    simp only [bg.l0]
    rw [if_pos (by omega), if_pos (by omega), if_pos (by omega), rdT hlt, e1', Option.bind_some, lQ (by omega), e2', List.drop_eq_getElem_cons hlt]
    simp only [fl1]
    repeat' split
    all_goals rfl
theorem Uj (n : Nat) : ∀ (t : S27), n ≤ 1000 → Bd n t → Ev (at_ bg.f t) (flt n t) := by
  induction n with
  | zero => intro t _ h; exact h.elim
  | succ n ih =>
    intro t hn hb
    obtain ⟨a0, a1, a2, a3, l⟩ := t
    have hl : l.length ≤ 1000 := hb.1
    by_cases hk : a0 < 1 ∨ 6 < a0
    · refine ⟨2, fun k hk2 => ?_⟩
      obtain ⟨k, rfl⟩ : ∃ j, k = j + 2 := ⟨k - 2, by omega⟩
      simp only [at_, bg.f, flt]
      rw [if_pos hk]
      split
      · simp only [bg.j0, if_true]
      · rw [show decide (a0 > 6) = true from by simp; omega]; simp only [bg.j0, if_true]
    · have hj : ∀ k, at_ bg.f ⟨a0, a1, a2, a3, l⟩ (k + 2) = bg.j0 (k + 1) false a0 a1 a2 a3 l := by
        intro k
        simp only [at_, bg.f]
        rw [if_neg (by omega), show decide (a0 > 6) = false from by simp; omega]
      by_cases hu : unus a0 a1 a2 a3 l
      · refine ⟨2, fun k hk2 => ?_⟩
        obtain ⟨k, rfl⟩ : ∃ j, k = j + 2 := ⟨k - 2, by omega⟩
        rw [hj]
        simp only [bg.j0]
        rw [TA hk, decide_eq_true hu]
        simp only [flt, if_neg hk, if_pos hu]; rfl
      · have hj0 : ∀ k, at_ bg.f ⟨a0, a1, a2, a3, l⟩ (k + 2) = (if a0 = 2 then (if a1 < (-1000) then (some 1) else (if a1 > a2 then (some 1) else (if a2 > 1000 then (some 1) else (some 0)))) else (if a0 = 5 then (if (l.length : Int) < 2 then (bg.j1 k true a0 a1 a2 a3 l) else (bg.j1 k (decide ((l.length : Int) > 4)) a0 a1 a2 a3 l)) else (if a0 = 6 then (if a3 < 1 then (bg.j3 k true a0 a1 a2 a3 l) else (bg.j3 k (decide (a3 > 4)) a0 a1 a2 a3 l)) else (some 0)))) := by
          intro k
          rw [hj]
          simp only [bg.j0]
          rw [TA hk, decide_eq_false hu]; rfl
        have hs : flt (n + 1) ⟨a0, a1, a2, a3, l⟩ = (if a0 = 2 then (if a1 < -1000 ∨ a1 > a2 ∨ a2 > 1000 then 1 else 0) else if a0 = 5 then (if l.length < 2 ∨ l.length > 4 then 1 else fl1 (flt n) l) else if a0 = 6 then (if a3 < 1 ∨ a3 > 4 then 1 else lst1 (flt n) l) else 0) := by
          simp only [flt, if_neg hk, if_neg hu]
        rw [hs]
        by_cases k2 : a0 = 2
        · refine ⟨2, fun k hk2 => ?_⟩
          obtain ⟨k, rfl⟩ : ∃ j, k = j + 2 := ⟨k - 2, by omega⟩
          rw [hj0, if_pos k2, if_pos k2]
          by_cases c1 : a1 < -1000
          · rw [if_pos c1, if_pos (by omega)]
          · by_cases c2 : a1 > a2
            · rw [if_neg c1, if_pos c2, if_pos (by omega)]
            · by_cases c3 : a2 > 1000
              · rw [if_neg c1, if_neg c2, if_pos c3, if_pos (by omega)]
              · rw [if_neg c1, if_neg c2, if_neg c3, if_neg (by omega)]
        · by_cases k5 : a0 = 5
          · by_cases c : l.length < 2 ∨ l.length > 4
            · refine ⟨3, fun k hk2 => ?_⟩
              obtain ⟨k, rfl⟩ : ∃ j, k = j + 3 := ⟨k - 3, by omega⟩
              rw [hj0, if_neg k2, if_neg k2, if_pos k5, if_pos k5, if_pos c]
              split
              · simp only [bg.j1, if_true]
              · rw [show decide ((l.length : Int) > 4) = true from by simp; omega]; simp only [bg.j1, if_true]
            · obtain ⟨K, e⟩ := fault_l0 n l hl (fun x hx => ih x (by omega) (hb.2 x hx)) l.length 0 (by omega)
              refine ⟨K + 3, fun k hk2 => ?_⟩
              obtain ⟨k, rfl⟩ : ∃ j, k = j + 3 := ⟨k - 3, by omega⟩
              rw [hj0, if_neg k2, if_neg k2, if_pos k5, if_pos k5, if_neg c, if_neg (by omega), show decide ((l.length : Int) > 4) = false from by simp; omega]
              have e' := e k (by omega)
              dsimp only at e'
              simp only [bg.j1]
              rw [if_neg (by decide)]
              exact e'
          · by_cases k6 : a0 = 6
            · by_cases c : a3 < 1 ∨ a3 > 4
              · refine ⟨3, fun k hk2 => ?_⟩
                obtain ⟨k, rfl⟩ : ∃ j, k = j + 3 := ⟨k - 3, by omega⟩
                rw [hj0, if_neg k2, if_neg k2, if_neg k5, if_neg k5, if_pos k6, if_pos k6, if_pos c]
                split
                · simp only [bg.j3, if_true]
                · rw [show decide (a3 > 4) = true from by simp; omega]; simp only [bg.j3, if_true]
              · have hj3 : ∀ k, at_ bg.f ⟨a0, a1, a2, a3, l⟩ (k + 3) = bg.j3 (k + 1) false a0 a1 a2 a3 l := by
                  intro k
                  rw [hj0, if_neg k2, if_neg k5, if_pos k6, if_neg (by omega), show decide (a3 > 4) = false from by simp; omega]
                rw [if_neg k2, if_neg k5, if_pos k6, if_neg c]
                match l, hl, hb, hj3 with
                | [x], hl, hb, hj3 =>
                  obtain ⟨K, e⟩ := ih x (by omega) (hb.2 x List.mem_cons_self)
                  refine ⟨K + 3, fun k hk2 => ?_⟩
                  obtain ⟨k, rfl⟩ : ∃ j, k = j + 3 := ⟨k - 3, by omega⟩
                  have e' := e k (by omega)
                  unfold at_ at e'
                  rw [hj3]
                  simp only [bg.j3]
                  rw [if_neg (by decide), if_pos (by simp), if_pos (by simp), rdT0 (by simp), List.getElem_cons_zero, e', Option.bind_some]
                  simp only [lst1]
                  repeat' split
                  all_goals rfl
                | [], hl, hb, hj3 =>
                  refine ⟨3, fun k hk2 => ?_⟩
                  obtain ⟨k, rfl⟩ : ∃ j, k = j + 3 := ⟨k - 3, by omega⟩
                  rw [hj3]; simp only [bg.j3]; rfl
                | x :: y :: l, hl, hb, hj3 =>
                  refine ⟨3, fun k hk2 => ?_⟩
                  obtain ⟨k, rfl⟩ : ∃ j, k = j + 3 := ⟨k - 3, by omega⟩
                  rw [hj3]; simp only [bg.j3]
                  rw [if_neg (by decide), if_neg (by simp; omega)]; rfl
            · refine ⟨2, fun k hk2 => ?_⟩
              obtain ⟨k, rfl⟩ : ∃ j, k = j + 2 := ⟨k - 2, by omega⟩
              rw [hj0]
              simp only [if_neg k2, if_neg k5, if_neg k6]
theorem wrong_j0 {a0 a1 a2 a3 : Int} {l : List S27} (k : Nat) (h : ¬ (a0 < 1 ∨ 6 < a0)) : az.j0 (k + 1) a0 false a0 a1 a2 a3 l = az.j1 k a0 (decide (unus a0 a1 a2 a3 l)) a0 a1 a2 a3 l := by
  unfold unus
  simp only [az.j0]
  rcases OQ h with rfl | rfl | rfl | rfl | rfl | rfl <;> by_cases h1 : a1 = 0 <;> by_cases h2 : a2 = 0 <;> by_cases h3 : a3 = 0 <;> by_cases h4 : l = [] <;> simp [h1, h2, h3, h4] <;> (congr 1; cases l <;> simp_all <;> omega)
theorem wrong_l0 (n : Nat) (l : List S27) (hl : l.length ≤ 1000) (a0 a1 a2 a3 : Int) (ih : ∀ t ∈ l, Ev (at_ az.f t) (flt n t)) :
    ∀ (d i : Nat), i + d = l.length → Ev (fun k => az.l0 k i a0 a1 a2 a3 l) (fl1 (flt n) (l.drop i)) := by
  intro d
  induction d with
  | zero =>
    intro i hi
    refine ⟨1, fun k hk => ?_⟩
    obtain ⟨k, rfl⟩ : ∃ j, k = j + 1 := ⟨k - 1, by omega⟩
    simp only [az.l0]
    rw [if_neg (by omega), List.drop_eq_nil_of_le (by omega)]; rfl
  | succ d IH =>
    intro i hi
    have hlt : i < l.length := by omega
    obtain ⟨K1, e1⟩ := ih l[i] (List.getElem_mem hlt)
    obtain ⟨K2, e2⟩ := IH (i + 1) (by omega)
    refine ⟨max K1 K2 + 1, fun k hk => ?_⟩
    obtain ⟨k, rfl⟩ : ∃ j, k = j + 1 := ⟨k - 1, by omega⟩
    have e1' := e1 k (by omega)
    have e2' := e2 k (by omega)
    unfold at_ at e1'
    dsimp only at e1' e2'
    simp only [az.l0]
    rw [if_pos (by omega), if_pos (by omega), rdT hlt, e1', Option.bind_some, lQ (by omega), e2', List.drop_eq_getElem_cons hlt]
    simp only [fl1]
    repeat' split
    all_goals rfl
theorem Uk (n : Nat) : ∀ (t : S27), n ≤ 1000 → Bd n t → Ev (at_ az.f t) (flt n t) := by
  induction n with
  | zero => intro t _ h; exact h.elim
  | succ n ih =>
    intro t hn hb
    obtain ⟨a0, a1, a2, a3, l⟩ := t
    have hl : l.length ≤ 1000 := hb.1
    by_cases hk : a0 < 1 ∨ 6 < a0
    · refine ⟨2, fun k hk2 => ?_⟩
      obtain ⟨k, rfl⟩ : ∃ j, k = j + 2 := ⟨k - 2, by omega⟩
      simp only [at_, az.f, flt]
      rw [if_pos hk]
      split
      · simp only [az.j0, if_true]
      · rw [show decide (a0 > 6) = true from by simp; omega]; simp only [az.j0, if_true]
    · have hj : ∀ k, at_ az.f ⟨a0, a1, a2, a3, l⟩ (k + 2) = az.j1 k a0 (decide (unus a0 a1 a2 a3 l)) a0 a1 a2 a3 l := by
        intro k
        simp only [at_, az.f]
        rw [if_neg (by omega), show decide (a0 > 6) = false from by simp; omega, wrong_j0 k hk]
      by_cases hu : unus a0 a1 a2 a3 l
      · refine ⟨3, fun k hk2 => ?_⟩
        obtain ⟨k, rfl⟩ : ∃ j, k = j + 3 := ⟨k - 3, by omega⟩
        rw [hj, decide_eq_true hu]
        simp only [az.j1, flt, if_neg hk, if_pos hu, if_true]
      · have hj0 : ∀ k, at_ az.f ⟨a0, a1, a2, a3, l⟩ (k + 3) = (if a0 = 2 then (if a1 < (-1000) then (some 1) else (if a1 > a2 then (some 1) else (if a2 > 1000 then (some 1) else (some 0)))) else (if a0 = 5 then (if (l.length : Int) < 2 then (az.j2 k true a0 a1 a2 a3 l) else (az.j2 k (decide ((l.length : Int) > 4)) a0 a1 a2 a3 l)) else (if a0 = 6 then (if a3 < 1 then (az.j4 k true a0 a1 a2 a3 l) else (az.j4 k (decide (a3 > 4)) a0 a1 a2 a3 l)) else (some 0)))) := by
          intro k
          rw [hj, decide_eq_false hu]
          simp only [az.j1]
          rw [if_neg (by decide)]
        have hs : flt (n + 1) ⟨a0, a1, a2, a3, l⟩ = (if a0 = 2 then (if a1 < -1000 ∨ a1 > a2 ∨ a2 > 1000 then 1 else 0) else if a0 = 5 then (if l.length < 2 ∨ l.length > 4 then 1 else fl1 (flt n) l) else if a0 = 6 then (if a3 < 1 ∨ a3 > 4 then 1 else lst1 (flt n) l) else 0) := by
          simp only [flt, if_neg hk, if_neg hu]
        rw [hs]
        by_cases k2 : a0 = 2
        · refine ⟨3, fun k hk2 => ?_⟩
          obtain ⟨k, rfl⟩ : ∃ j, k = j + 3 := ⟨k - 3, by omega⟩
          rw [hj0, if_pos k2, if_pos k2]
          by_cases c1 : a1 < -1000
          · rw [if_pos c1, if_pos (by omega)]
          · by_cases c2 : a1 > a2
            · rw [if_neg c1, if_pos c2, if_pos (by omega)]
            · by_cases c3 : a2 > 1000
              · rw [if_neg c1, if_neg c2, if_pos c3, if_pos (by omega)]
              · rw [if_neg c1, if_neg c2, if_neg c3, if_neg (by omega)]
        · by_cases k5 : a0 = 5
          · by_cases c : l.length < 2 ∨ l.length > 4
            · refine ⟨4, fun k hk2 => ?_⟩
              obtain ⟨k, rfl⟩ : ∃ j, k = j + 4 := ⟨k - 4, by omega⟩
              rw [hj0, if_neg k2, if_neg k2, if_pos k5, if_pos k5, if_pos c]
              split
              · simp only [az.j2, if_true]
              · rw [show decide ((l.length : Int) > 4) = true from by simp; omega]; simp only [az.j2, if_true]
            · obtain ⟨K, e⟩ := wrong_l0 n l hl a0 a1 a2 a3 (fun x hx => ih x (by omega) (hb.2 x hx)) l.length 0 (by omega)
              refine ⟨K + 4, fun k hk2 => ?_⟩
              obtain ⟨k, rfl⟩ : ∃ j, k = j + 4 := ⟨k - 4, by omega⟩
              rw [hj0, if_neg k2, if_neg k2, if_pos k5, if_pos k5, if_neg c, if_neg (by omega), show decide ((l.length : Int) > 4) = false from by simp; omega]
              have e' := e k (by omega)
              dsimp only at e'
              simp only [az.j2]
              rw [if_neg (by decide)]
              exact e'
          · by_cases k6 : a0 = 6
            · by_cases c : a3 < 1 ∨ a3 > 4
              · refine ⟨4, fun k hk2 => ?_⟩
                obtain ⟨k, rfl⟩ : ∃ j, k = j + 4 := ⟨k - 4, by omega⟩
                rw [hj0, if_neg k2, if_neg k2, if_neg k5, if_neg k5, if_pos k6, if_pos k6, if_pos c]
                split
                · simp only [az.j4, if_true]
                · rw [show decide (a3 > 4) = true from by simp; omega]; simp only [az.j4, if_true]
              · have hj3 : ∀ k, at_ az.f ⟨a0, a1, a2, a3, l⟩ (k + 4) = az.j4 (k + 1) false a0 a1 a2 a3 l := by
                  intro k
                  rw [hj0, if_neg k2, if_neg k5, if_pos k6, if_neg (by omega), show decide (a3 > 4) = false from by simp; omega]
                rw [if_neg k2, if_neg k5, if_pos k6, if_neg c]
                match l, hl, hb, hj3 with
                | [x], hl, hb, hj3 =>
                  obtain ⟨K, e⟩ := ih x (by omega) (hb.2 x List.mem_cons_self)
                  refine ⟨K + 4, fun k hk2 => ?_⟩
                  obtain ⟨k, rfl⟩ : ∃ j, k = j + 4 := ⟨k - 4, by omega⟩
                  have e' := e k (by omega)
                  unfold at_ at e'
                  rw [hj3]
                  simp only [az.j4]
                  rw [if_neg (by decide), if_pos (by simp), if_pos (by simp), rdT0 (by simp), List.getElem_cons_zero, e', Option.bind_some]
                  simp only [lst1]
                  repeat' split
                  all_goals rfl
                | [], hl, hb, hj3 =>
                  refine ⟨4, fun k hk2 => ?_⟩
                  obtain ⟨k, rfl⟩ : ∃ j, k = j + 4 := ⟨k - 4, by omega⟩
                  rw [hj3]; simp only [az.j4]; rfl
                | x :: y :: l, hl, hb, hj3 =>
                  refine ⟨4, fun k hk2 => ?_⟩
                  obtain ⟨k, rfl⟩ : ∃ j, k = j + 4 := ⟨k - 4, by omega⟩
                  rw [hj3]; simp only [az.j4]
                  rw [if_neg (by decide), if_neg (by simp; omega)]; rfl
            · refine ⟨3, fun k hk2 => ?_⟩
              obtain ⟨k, rfl⟩ : ∃ j, k = j + 3 := ⟨k - 3, by omega⟩
              rw [hj0]
              simp only [if_neg k2, if_neg k5, if_neg k6]

end Go.Proofs.Ytggelekooacmnaa.Pure
set_option linter.unusedVariables false
set_option linter.unusedSimpArgs false
namespace Go.Proofs.Ytggelekooacmnaa.Pure
open Go.RowKit Go.Proofs.Ytggelekooacmnaa.Z Go.Proofs.YtggelekooacmnaaW.bM Go.Proofs.YtggelekooacmnaaW.dR Go.Proofs.YtggelekooacmnaaW.eO
-- valid types, their parts, Validate
inductive Vt : Nat → S27 → Prop
  | bool (n : Nat) : Vt (n + 1) ⟨1, 0, 0, 0, []⟩
  | int (n : Nat) (lo hi : Int) (h1 : -1000 ≤ lo) (h2 : lo ≤ hi) (h3 : hi ≤ 1000) : Vt (n + 1) ⟨2, lo, hi, 0, []⟩
  | nat (n : Nat) : Vt (n + 1) ⟨3, 0, 0, 0, []⟩
  | real (n : Nat) : Vt (n + 1) ⟨4, 0, 0, 0, []⟩
  | tup (n : Nat) (l : List S27) (h1 : 2 ≤ l.length) (h2 : l.length ≤ 4) (h3 : ∀ x ∈ l, Vt n x) (h4 : ∀ x ∈ l, x.f0 ≠ 3 ∧ x.f0 ≠ 4) : Vt (n + 1) ⟨5, 0, 0, 0, l⟩
  | lst (n : Nat) (m : Int) (x : S27) (h1 : 1 ≤ m) (h2 : m ≤ 4) (h3 : Vt n x) (h4 : x.f0 = 1 ∨ x.f0 = 2) : Vt (n + 1) ⟨6, 0, 0, m, [x]⟩
theorem Vt.up {n : Nat} : ∀ {t : S27}, Vt n t → Vt (n + 1) t := by
  induction n with
  | zero => intro t h; cases h
  | succ n ih =>
    intro t h
    cases h with
    | bool => exact .bool _
    | int _ lo hi h1 h2 h3 => exact .int _ _ _ h1 h2 h3
    | nat => exact .nat _
    | real => exact .real _
    | tup _ l h1 h2 h3 h4 => exact .tup _ _ h1 h2 (fun x hx => ih (h3 x hx)) h4
    | lst _ m x h1 h2 h3 h4 => exact .lst _ _ _ h1 h2 (ih h3) h4
theorem Vt.mono {n m : Nat} (h : n ≤ m) {t : S27} (ht : Vt n t) : Vt m t := by
  induction h with
  | refl => exact ht
  | step _ ih => exact ih.up
theorem Vt.bd {n : Nat} : ∀ {t : S27}, Vt n t → Bd n t := by
  induction n with
  | zero => intro t h; cases h
  | succ n ih =>
    intro t h
    cases h with
    | bool => exact ⟨by simp, by simp⟩
    | int _ lo hi h1 h2 h3 => exact ⟨by simp, by simp⟩
    | nat => exact ⟨by simp, by simp⟩
    | real => exact ⟨by simp, by simp⟩
    | tup _ l h1 h2 h3 h4 => exact ⟨by show l.length ≤ 1000; omega, fun x hx => ih (h3 x hx)⟩
    | lst _ m x h1 h2 h3 h4 => exact ⟨by simp, fun y hy => by simp at hy; subst hy; exact ih h3⟩
theorem OT {f : S27 → Int} : ∀ {l : List S27}, fl1 f l = 0 ↔ ∀ x ∈ l, f x = 0 ∧ x.f0 ≠ 3 ∧ x.f0 ≠ 4
  | [] => by simp [fl1]
  | x :: l => by
    simp only [fl1, List.forall_mem_cons]
    by_cases h : f x = 0
    · by_cases h3 : x.f0 = 3
      · simp [h, h3]
      · by_cases h4 : x.f0 = 4
        · simp [h, h4]
        · simp only [h, h3, h4, if_true, if_false, true_and, not_false_eq_true, ne_eq, OT]
    · simp [h]
theorem flt_vt (n : Nat) : ∀ {t : S27}, Bd n t → flt n t = 0 → Vt n t := by
  induction n with
  | zero => intro t h; exact h.elim
  | succ n ih =>
    intro t hb h
    obtain ⟨a0, a1, a2, a3, l⟩ := t
    simp only [flt] at h
    by_cases hk : a0 < 1 ∨ 6 < a0
    · rw [if_pos hk] at h; omega
    · rw [if_neg hk] at h
      by_cases hu : unus a0 a1 a2 a3 l
      · rw [if_pos hu] at h; omega
      · rw [if_neg hu] at h
        unfold unus at hu
        have hnil : a0 < 5 → l = [] := fun h5 => List.eq_nil_of_length_eq_zero (by omega)
        rcases OQ hk with rfl | rfl | rfl | rfl | rfl | rfl
        · obtain rfl := hnil (by omega)
          obtain rfl : a1 = 0 := by omega
          obtain rfl : a2 = 0 := by omega
          obtain rfl : a3 = 0 := by omega
          exact .bool _
        · obtain rfl := hnil (by omega)
          obtain rfl : a3 = 0 := by omega
          simp at h
          exact .int _ _ _ (by omega) (by omega) (by omega)
        · obtain rfl := hnil (by omega)
          obtain rfl : a1 = 0 := by omega
          obtain rfl : a2 = 0 := by omega
          obtain rfl : a3 = 0 := by omega
          exact .nat _
        · obtain rfl := hnil (by omega)
          obtain rfl : a1 = 0 := by omega
          obtain rfl : a2 = 0 := by omega
          obtain rfl : a3 = 0 := by omega
          exact .real _
        · obtain rfl : a1 = 0 := by omega
          obtain rfl : a2 = 0 := by omega
          obtain rfl : a3 = 0 := by omega
          rw [if_neg (by omega), if_pos rfl] at h
          by_cases hc : l.length < 2 ∨ l.length > 4
          · rw [if_pos hc] at h; omega
          · rw [if_neg hc, OT] at h
            exact .tup _ _ (by omega) (by omega) (fun x hx => ih (hb.2 x hx) (h x hx).1) (fun x hx => (h x hx).2)
        · obtain rfl : a1 = 0 := by omega
          obtain rfl : a2 = 0 := by omega
          rw [if_neg (by omega), if_neg (by omega), if_pos rfl] at h
          by_cases hc : a3 < 1 ∨ a3 > 4
          · rw [if_pos hc] at h; omega
          · rw [if_neg hc] at h
            match l, hb, h with
            | [x], hb, h =>
              simp only [lst1] at h
              by_cases hx : flt n x = 0
              · rw [if_pos hx] at h
                refine .lst _ _ _ (by omega) (by omega) (ih (hb.2 x List.mem_cons_self) hx) ?_
                by_cases h1 : x.f0 = 1
                · exact .inl h1
                · by_cases h2 : x.f0 = 2
                  · exact .inr h2
                  · simp [h1, h2] at h
              · rw [if_neg hx] at h; exact absurd h hx
            | [], _, h => simp [lst1] at h
            | _ :: _ :: _, _, h => simp [lst1] at h
theorem vt_flt (n : Nat) : ∀ {t : S27}, Vt n t → flt n t = 0 := by
  induction n with
  | zero => intro t h; cases h
  | succ n ih =>
    intro t h
    cases h with
    | bool => simp [flt]
    | int _ lo hi h1 h2 h3 =>
      simp only [flt]
      rw [if_neg (by omega), if_neg (by simp), if_pos trivial, if_neg (by omega)]
    | nat => simp [flt]
    | real => simp [flt]
    | tup _ l h1 h2 h3 h4 =>
      simp only [flt]
      rw [if_neg (by omega), if_neg (by simp), if_neg (by omega), if_pos trivial, if_neg (by omega), OT]
      exact fun x hx => ⟨ih (h3 x hx), h4 x hx⟩
    | lst _ m x h1 h2 h3 h4 =>
      simp only [flt]
      rw [if_neg (by omega), if_neg (by simp), if_neg (by omega), if_neg (by omega), if_pos trivial, if_neg (by omega)]
      simp only [lst1]
      rw [if_pos (ih h3)]
      rcases h4 with h4 | h4 <;> simp [h4]
theorem vt_dep (n : Nat) : ∀ {t : S27}, Vt n t → ∀ m, dep m t ≤ n := by
  induction n with
  | zero => intro t h; cases h
  | succ n ih =>
    intro t h m
    cases m with
    | zero => simp [dep]; omega
    | succ m =>
      simp only [dep]
      have : mxl (dep m) t.f4 0 ≤ n := by
        refine Ug (fun x hx => ?_) (by omega)
        cases h with
        | bool => simp at hx
        | int _ lo hi h1 h2 h3 => simp at hx
        | nat => simp at hx
        | real => simp at hx
        | tup _ l h1 h2 h3 h4 => exact ih (h3 x hx) m
        | lst _ m' y h1 h2 h3 h4 => simp at hx; subst hx; exact ih h3 m
      omega
theorem SL {f : S27 → Int} : ∀ {l : List S27} {m : Int} {x : S27}, x ∈ l → f x ≤ mxl f l m
  | y :: l, m, x, h => by
    simp only [mxl]
    rcases List.mem_cons.1 h with rfl | h
    · exact Int.le_trans mx_ge.2 (Lj f l _)
    · exact SL h
theorem vt_low (n : Nat) : ∀ {t : S27} (d : Nat), Vt n t → dep n t ≤ d → Vt d t := by
  induction n with
  | zero => intro t d h; cases h
  | succ n ih =>
    intro t d h hd
    simp only [dep] at hd
    have h0 := Lj (dep n) t.f4 0
    obtain ⟨d, rfl⟩ : ∃ e, d = e + 1 := ⟨d - 1, by omega⟩
    cases h with
    | bool => exact .bool _
    | int _ lo hi h1 h2 h3 => exact .int _ _ _ h1 h2 h3
    | nat => exact .nat _
    | real => exact .real _
    | tup _ l h1 h2 h3 h4 => exact .tup _ _ h1 h2 (fun x hx => ih d (h3 x hx) (by have := SL (f := dep n) (m := 0) hx; simp only at hd; omega)) h4
    | lst _ m x h1 h2 h3 h4 => exact .lst _ _ _ h1 h2 (ih d h3 (by have := SL (f := dep n) (m := 0) (x := x) (l := [x]) List.mem_cons_self; simp only at hd; omega)) h4
def prt : Nat → S27 → List S44
  | 0, _ => []
  | n + 1, t => if t.f0 = 1 then [⟨1, 0, 1⟩] else if t.f0 = 2 then [⟨2, t.f1, t.f2⟩] else if t.f0 = 3 ∨ t.f0 = 4 then [⟨t.f0, 0, 0⟩]
    else if t.f0 = 6 then ⟨2, 0, t.f3⟩ :: (List.replicate t.f3.toNat (prt n (aj t.f4 0))).flatten else (t.f4.map (prt n)).flatten
theorem Ul {l : List S27} {f : S27 → List S44} {c : Nat} (h : ∀ x ∈ l, (f x).length ≤ c) : (l.map f).flatten.length ≤ l.length * c := by
  induction l with
  | nil => simp
  | cons x l ih =>
    have h1 := h x List.mem_cons_self
    have h2 := ih (fun y hy => h y (List.mem_cons_of_mem x hy))
    simp only [List.map_cons, List.flatten_cons, List.length_append, List.length_cons, Nat.add_mul]
    omega
theorem Kg {α : Type} (m : Nat) (l : List α) : (List.replicate m l).flatten.length = m * l.length := by simp
theorem rd1 (x : S27) : aj [x] 0 = x := by simp [aj]
theorem Gs (n : Nat) : ∀ {t : S27}, Vt n t → (prt n t).length ≤ 5 ^ n ∧ 1 ≤ (prt n t).length := by
  induction n with
  | zero => intro t h; cases h
  | succ n ih =>
    intro t h
    have hp : 1 ≤ 5 ^ n := Nat.pos_of_ne_zero (by simp)
    have h5 : 5 ^ (n + 1) = 5 ^ n * 5 := Nat.pow_succ ..
    cases h with
    | bool => simp [prt]; omega
    | int _ lo hi h1 h2 h3 => simp [prt]; omega
    | nat => simp [prt]; omega
    | real => simp [prt]; omega
    | tup _ l h1 h2 h3 h4 =>
      have e : prt (n + 1) ⟨5, 0, 0, 0, l⟩ = (l.map (prt n)).flatten := by simp [prt]
      rw [e]
      have hl := Ul (fun x hx => (ih (h3 x hx)).1)
      have : l.length * 5 ^ n ≤ 4 * 5 ^ n := Nat.mul_le_mul_right _ h2
      refine ⟨by omega, ?_⟩
      match l, h1, h3 with
      | x :: l, _, h3 =>
        have := (ih (h3 x List.mem_cons_self)).2
        simp only [List.map_cons, List.flatten_cons, List.length_append]; omega
    | lst _ m x h1 h2 h3 h4 =>
      have e : prt (n + 1) ⟨6, 0, 0, m, [x]⟩ = ⟨2, 0, m⟩ :: (List.replicate m.toNat (prt n x)).flatten := by simp [prt, rd1]
      have e1 : (prt n x).length = 1 := by
        cases h3 with
        | bool => simp [prt]
        | int _ lo hi h1 h2 h3 => simp [prt]
        | nat => simp at h4
        | real => simp at h4
        | tup _ l _ _ _ _ => simp at h4
        | lst _ m x _ _ _ _ => simp at h4
      rw [e, List.length_cons, Kg, e1]
      omega

end Go.Proofs.Ytggelekooacmnaa.Pure
set_option linter.unusedVariables false
set_option linter.unusedSimpArgs false
namespace Go.Proofs.Ytggelekooacmnaa.Pure
open Go.RowKit Go.Proofs.Ytggelekooacmnaa.Z Go.Proofs.YtggelekooacmnaaW.bM Go.Proofs.YtggelekooacmnaaW.dR Go.Proofs.YtggelekooacmnaaW.eO
-- width, Parts, Validate
theorem wid_l0 (n : Nat) (l : List S27) (hl : l.length ≤ 4) (B : Nat) (hB : B ≤ 10000000) (ih : ∀ t ∈ l, Ev (at_ dD.f t) ((prt n t).length : Int) ∧ (prt n t).length ≤ B) :
    ∀ (d i m : Nat), m ≤ i * B → i + d = l.length → Ev (fun k => dD.l0 k m l l.length i) ((m + ((l.drop i).map (prt n)).flatten.length : Nat) : Int) := by
  intro d
  induction d with
  | zero =>
    intro i m h0 hi
    refine ⟨1, fun k hk => ?_⟩
    obtain ⟨k, rfl⟩ : ∃ j, k = j + 1 := ⟨k - 1, by omega⟩
    simp only [dD.l0]
    rw [if_neg (by omega), List.drop_eq_nil_of_le (by omega)]; rfl
  | succ d IH =>
    intro i m h0 hi
    have hlt : i < l.length := by omega
    obtain ⟨⟨K1, e1⟩, hb⟩ := ih l[i] (List.getElem_mem hlt)
    have hm : m + (prt n l[i]).length ≤ (i + 1) * B := by rw [Nat.add_mul]; omega
    have hm2 : (i + 1) * B ≤ 4 * B := Nat.mul_le_mul_right _ (by omega)
    obtain ⟨K2, e2⟩ := IH (i + 1) (m + (prt n l[i]).length) hm (by omega)
    refine ⟨max K1 K2 + 1, fun k hk => ?_⟩
    obtain ⟨k, rfl⟩ : ∃ j, k = j + 1 := ⟨k - 1, by omega⟩
    have e1' := e1 k (by omega)
    have e2' := e2 k (by omega)
    unfold at_ at e1'
    dsimp only at e1' e2'
    simp only [dD.l0]
    have ew : wrap64 ((m : Int) + ((prt n l[i]).length : Int)) = ((m + (prt n l[i]).length : Nat) : Int) := by unfold wrap64; omega
    rw [if_pos (by omega), if_pos (by omega), if_pos (by omega), rdT hlt, e1', Option.bind_some, lQ (by omega), ew, e2', List.drop_eq_getElem_cons hlt]
    simp only [List.map_cons, List.flatten_cons, List.length_append, Nat.add_assoc]
theorem Kh {n : Nat} {x : S27} (h3 : Vt n x) (h4 : x.f0 = 1 ∨ x.f0 = 2) : (prt n x).length = 1 := by
  cases h3 with
  | bool => simp [prt]
  | int _ lo hi h1 h2 h3 => simp [prt]
  | nat => simp at h4
  | real => simp at h4
  | tup _ l _ _ _ _ => simp at h4
  | lst _ m x _ _ _ _ => simp at h4
theorem prt5 (n : Nat) (a1 a2 a3 : Int) (l : List S27) : prt (n + 1) ⟨5, a1, a2, a3, l⟩ = (l.map (prt n)).flatten := by simp [prt]
theorem prt6 (n : Nat) (a1 a2 m : Int) (x : S27) : prt (n + 1) ⟨6, a1, a2, m, [x]⟩ = ⟨2, 0, m⟩ :: (List.replicate m.toNat (prt n x)).flatten := by simp [prt, rd1]
theorem pow5 {n : Nat} (h : n ≤ 9) : 5 ^ n ≤ 5 ^ 9 := Nat.pow_le_pow_right (by omega) h
theorem Um (n : Nat) : ∀ {t : S27}, n ≤ 10 → Vt n t → Ev (at_ dD.f t) ((prt n t).length : Int) := by
  induction n with
  | zero => intro t _ h; cases h
  | succ n ih =>
    intro t hn h
    have one : ∀ a0 a1 a2 a3 : Int, ∀ l, a0 ≠ 5 → a0 ≠ 6 → Ev (at_ dD.f ⟨a0, a1, a2, a3, l⟩) (1 : Int) := by
      intro a0 a1 a2 a3 l h5 h6
      refine ⟨1, fun k hk => ?_⟩
      obtain ⟨k, rfl⟩ : ∃ j, k = j + 1 := ⟨k - 1, by omega⟩
      simp only [at_, dD.f, if_neg h5, if_neg h6]
    cases h with
    | bool => exact one _ _ _ _ _ (by decide) (by decide)
    | int _ lo hi h1 h2 h3 => exact one _ _ _ _ _ (by decide) (by decide)
    | nat => exact one _ _ _ _ _ (by decide) (by decide)
    | real => exact one _ _ _ _ _ (by decide) (by decide)
    | tup _ l h1 h2 h3 h4 =>
      have hp := pow5 (show n ≤ 9 by omega)
      obtain ⟨K, e⟩ := wid_l0 n l h2 (5 ^ n) (by omega) (fun x hx => ⟨ih (by omega) (h3 x hx), (Gs n (h3 x hx)).1⟩) l.length 0 0 (by omega) (by omega)
      rw [prt5]
      refine ⟨K + 1, fun k hk => ?_⟩
      obtain ⟨k, rfl⟩ : ∃ j, k = j + 1 := ⟨k - 1, by omega⟩
      have e' := e k (by omega)
      simp only [at_, dD.f, if_pos]
      simpa using e'
    | lst _ m x h1 h2 h3 h4 =>
      obtain ⟨K, e⟩ := ih (by omega) h3
      have e1 := Kh h3 h4
      rw [prt6, List.length_cons, Kg, e1]
      refine ⟨K + 1, fun k hk => ?_⟩
      obtain ⟨k, rfl⟩ : ∃ j, k = j + 1 := ⟨k - 1, by omega⟩
      have e' := e k (by omega)
      unfold at_ at e'
      simp only [at_, dD.f]
      rw [if_neg (by decide), if_pos trivial, if_pos (by simp), rd1, e', Option.bind_some, e1]
      have : wrap64 (1 + wrap64 (m * ((1 : Nat) : Int))) = ((m.toNat * 1 + 1 : Nat) : Int) := by unfold wrap64; omega
      rw [this]
theorem Parts_l0 (n : Nat) (x : S27) (a0 a1 a2 m : Int) (hm : m ≤ 4) (ih : Ev (at_ aN.f x) (prt n x)) (hx : (prt n x).length = 1) :
    ∀ (d i : Nat) (o : List S44), o.length ≤ i + 1 → (i : Int) + d = m → Ev (fun k => aN.l0 k o i a0 a1 a2 m [x]) (o ++ (List.replicate d (prt n x)).flatten) := by
  intro d
  induction d with
  | zero =>
    intro i o ho hi
    refine ⟨1, fun k hk => ?_⟩
    obtain ⟨k, rfl⟩ : ∃ j, k = j + 1 := ⟨k - 1, by omega⟩
    simp only [aN.l0]
    rw [if_neg (by omega)]; simp
  | succ d IH =>
    intro i o ho hi
    obtain ⟨K1, e1⟩ := ih
    obtain ⟨K2, e2⟩ := IH (i + 1) (o ++ prt n x) (by rw [List.length_append]; omega) (by omega)
    refine ⟨max K1 K2 + 1, fun k hk => ?_⟩
    obtain ⟨k, rfl⟩ : ∃ j, k = j + 1 := ⟨k - 1, by omega⟩
    have e1' := e1 k (by omega)
    have e2' := e2 k (by omega)
    unfold at_ at e1'
    dsimp only at e1' e2'
    simp only [aN.l0]
    rw [if_pos (by omega), if_pos (by simp), rd1, e1', Option.bind_some, if_pos (by omega), lQ (by omega), e2', List.append_assoc]
    simp only [List.replicate_succ, List.flatten_cons]
theorem Parts_l1 (n : Nat) (l : List S27) (hl : l.length ≤ 4) (a0 a1 a2 a3 : Int) (B : Nat) (hB : B ≤ 10000000) (ih : ∀ t ∈ l, Ev (at_ aN.f t) (prt n t) ∧ (prt n t).length ≤ B) :
    ∀ (d i : Nat) (o : List S44), o.length ≤ i * B → i + d = l.length → Ev (fun k => aN.l1 k o i a0 a1 a2 a3 l) (o ++ ((l.drop i).map (prt n)).flatten) := by
  intro d
  induction d with
  | zero =>
    intro i o ho hi
    refine ⟨1, fun k hk => ?_⟩
    obtain ⟨k, rfl⟩ : ∃ j, k = j + 1 := ⟨k - 1, by omega⟩
    simp only [aN.l1]
    rw [if_neg (by omega), List.drop_eq_nil_of_le (by omega)]; simp
  | succ d IH =>
    intro i o ho hi
    have hlt : i < l.length := by omega
    obtain ⟨⟨K1, e1⟩, hb⟩ := ih l[i] (List.getElem_mem hlt)
    have hm : (o ++ prt n l[i]).length ≤ (i + 1) * B := by rw [List.length_append, Nat.add_mul]; omega
    have hm2 : (i + 1) * B ≤ 4 * B := Nat.mul_le_mul_right _ (by omega)
    obtain ⟨K2, e2⟩ := IH (i + 1) (o ++ prt n l[i]) hm (by omega)
    refine ⟨max K1 K2 + 1, fun k hk => ?_⟩
    obtain ⟨k, rfl⟩ : ∃ j, k = j + 1 := ⟨k - 1, by omega⟩
    have e1' := e1 k (by omega)
    have e2' := e2 k (by omega)
    unfold at_ at e1'
    dsimp only at e1' e2'
    simp only [aN.l1]
    rw [List.length_append] at hm
    rw [if_pos (by omega), if_pos (by omega), rdT hlt, e1', Option.bind_some, if_pos (by omega), lQ (by omega), e2', List.append_assoc, List.drop_eq_getElem_cons hlt]
    simp only [List.map_cons, List.flatten_cons]
theorem Un (n : Nat) : ∀ {t : S27}, n ≤ 10 → Vt n t → Ev (at_ aN.f t) (prt n t) := by
  induction n with
  | zero => intro t _ h; cases h
  | succ n ih =>
    intro t hn h
    cases h with
    | bool =>
      refine ⟨2, fun k hk => ?_⟩
      obtain ⟨k, rfl⟩ : ∃ j, k = j + 2 := ⟨k - 2, by omega⟩
      simp [at_, aN.f, prt]
    | int _ lo hi h1 h2 h3 =>
      refine ⟨2, fun k hk => ?_⟩
      obtain ⟨k, rfl⟩ : ∃ j, k = j + 2 := ⟨k - 2, by omega⟩
      simp [at_, aN.f, prt]
    | nat =>
      refine ⟨2, fun k hk => ?_⟩
      obtain ⟨k, rfl⟩ : ∃ j, k = j + 2 := ⟨k - 2, by omega⟩
      simp [at_, aN.f, aN.j0, prt]
    | real =>
      refine ⟨2, fun k hk => ?_⟩
      obtain ⟨k, rfl⟩ : ∃ j, k = j + 2 := ⟨k - 2, by omega⟩
      simp [at_, aN.f, aN.j0, prt]
    | tup _ l h1 h2 h3 h4 =>
      have hp := pow5 (show n ≤ 9 by omega)
      obtain ⟨K, e⟩ := Parts_l1 n l h2 5 0 0 0 (5 ^ n) (by omega) (fun x hx => ⟨ih (by omega) (h3 x hx), (Gs n (h3 x hx)).1⟩) l.length 0 [] (by simp) (by omega)
      rw [prt5]
      refine ⟨K + 2, fun k hk => ?_⟩
      obtain ⟨k, rfl⟩ : ∃ j, k = j + 2 := ⟨k - 2, by omega⟩
      have e' := e k (by omega)
      simp [at_, aN.f, aN.j0]
      simpa using e'
    | lst _ m x h1 h2 h3 h4 =>
      have e1 := Kh h3 h4
      obtain ⟨K, e⟩ := Parts_l0 n x 6 0 0 m h2 (ih (by omega) h3) e1 m.toNat 0 [⟨2, 0, m⟩] (by simp) (by omega)
      rw [prt6]
      refine ⟨K + 2, fun k hk => ?_⟩
      obtain ⟨k, rfl⟩ : ∃ j, k = j + 2 := ⟨k - 2, by omega⟩
      have e' := e k (by omega)
      simp [at_, aN.f, aN.j0]
      simpa using e'
/-- Validate, of whatever type within the bounds: program and reference agree; and what is valid. -/
theorem validate_ev {n : Nat} {t : S27} (hn : n ≤ 1000) (hb : Bd n t) : ∃ e, Ev (at_ ic.f t) e ∧ Ev (at_ bW.f t) e ∧ (e = 0 → Vt 10 t ∧ (prt 10 t).length ≤ 24) := by
  obtain ⟨K1, e1⟩ := Uh n t hn hb
  obtain ⟨K2, e2⟩ := Uj n t hn hb
  obtain ⟨K3, e3⟩ := Ui n t 11 hn (by omega) (by omega) hb
  obtain ⟨K4, e4⟩ := Uk n t hn hb
  unfold at_ at e1 e2 e4
  dsimp only at e3
  by_cases hd : dep n t > 10
  · refine ⟨9, ⟨K1, fun k hk => ?_⟩, ⟨K3, fun k hk => ?_⟩, fun h => absurd h (by decide)⟩
    · simp only [at_, ic.f]
      rw [e1 k hk, Option.bind_some, if_pos hd]
    · simp only [at_, bW.f]
      rw [e3 k hk, Option.bind_some, if_pos (by omega)]
  · by_cases hf : flt n t = 0
    · have hv := vt_low n 10 (flt_vt n hb hf) (by omega)
      obtain ⟨K5, e5⟩ := Um 10 (by omega) hv
      obtain ⟨K6, e6⟩ := Un 10 (by omega) hv
      unfold at_ at e5 e6
      refine ⟨if (prt 10 t).length > 24 then 9 else 0, ⟨K1 + K2 + K5, fun k hk => ?_⟩, ⟨K3 + K4 + K6, fun k hk => ?_⟩, fun h => ⟨hv, ?_⟩⟩
      · simp only [at_, ic.f]
        rw [e1 k (by omega), Option.bind_some, if_neg hd, e2 k (by omega), Option.bind_some, if_pos hf, e5 k (by omega), Option.bind_some]
        split <;> split <;> first | rfl | omega
      · simp only [at_, bW.f]
        rw [e3 k (by omega), Option.bind_some, if_neg (by omega), e4 k (by omega), Option.bind_some, if_pos hf, e6 k (by omega), Option.bind_some]
        split <;> split <;> first | rfl | omega
      · split at h <;> omega
    · refine ⟨flt n t, ⟨K1 + K2, fun k hk => ?_⟩, ⟨K3 + K4, fun k hk => ?_⟩, fun h => absurd h hf⟩
      · simp only [at_, ic.f]
        rw [e1 k (by omega), Option.bind_some, if_neg hd, e2 k (by omega), Option.bind_some, if_neg hf]
      · simp only [at_, bW.f]
        rw [e3 k (by omega), Option.bind_some, if_neg (by omega), e4 k (by omega), Option.bind_some, if_neg hf]
theorem Ow {t : S27} (hv : Vt 10 t) (hl : (prt 10 t).length ≤ 24) : Ev (at_ ic.f t) 0 ∧ Ev (at_ bW.f t) 0 := by
  obtain ⟨K1, e1⟩ := Uh 10 t (by omega) hv.bd
  obtain ⟨K2, e2⟩ := Uj 10 t (by omega) hv.bd
  obtain ⟨K3, e3⟩ := Ui 10 t 11 (by omega) (by omega) (by omega) hv.bd
  obtain ⟨K4, e4⟩ := Uk 10 t (by omega) hv.bd
  obtain ⟨K5, e5⟩ := Um 10 (by omega) hv
  obtain ⟨K6, e6⟩ := Un 10 (by omega) hv
  unfold at_ at e1 e2 e4 e5 e6
  dsimp only at e3
  have hd := vt_dep 10 hv 10
  have hf := vt_flt 10 hv
  refine ⟨⟨K1 + K2 + K5, fun k hk => ?_⟩, ⟨K3 + K4 + K6, fun k hk => ?_⟩⟩
  · simp only [at_, ic.f]
    rw [e1 k (by omega), Option.bind_some, if_neg (by omega), e2 k (by omega), Option.bind_some, if_pos hf, e5 k (by omega), Option.bind_some, if_neg (by omega)]
  · simp only [at_, bW.f]
    rw [e3 k (by omega), Option.bind_some, if_neg (by omega), e4 k (by omega), Option.bind_some, if_pos hf, e6 k (by omega), Option.bind_some, if_neg (by omega)]

end Go.Proofs.Ytggelekooacmnaa.Pure
set_option linter.unusedVariables false
set_option linter.unusedSimpArgs false
namespace Go.Proofs.Ytggelekooacmnaa.Pure
open Go.RowKit Go.Proofs.Ytggelekooacmnaa.Z Go.Proofs.YtggelekooacmnaaW.bM Go.Proofs.YtggelekooacmnaaW.dR Go.Proofs.YtggelekooacmnaaW.eO
theorem eta_s (x : S27) : (⟨x.f0, x.f1, x.f2, x.f3, x.f4⟩ : S27) = x := by cases x; rfl

-- values: check, zero, flatten, read
def Bv : Nat → S31 → Prop
  | 0, _ => False
  | n + 1, v => v.f1.length ≤ 1000 ∧ ∀ x ∈ v.f1, Bv n x
theorem rdV {l : List S31} {i : Nat} (h : i < l.length) : dM l (i : Int) = l[i] := by
  unfold dM; simp [List.getD, h]
theorem rdV0 {l : List S31} (h : 0 < l.length) : dM l 0 = l[0] := by
  unfold dM; simp [List.getD, h]
/-- two lists, element by element: the first error -/
def ck1 (f : S27 → S31 → Int) : List S27 → List S31 → Int
  | t :: ts, v :: vs => if f t v = 0 then ck1 f ts vs else f t v
  | _, _ => 0
def ck2 (f : S31 → Int) : List S31 → Int
  | v :: vs => if f v = 0 then ck2 f vs else f v
  | [] => 0
/-- the error of a value of a valid type -/
def chk : Nat → S27 → S31 → Int
  | 0, _, _ => 0
  | n + 1, t, v =>
    if t.f0 = 5 then (if v.f0 ≠ 0 ∨ v.f1.length ≠ t.f4.length then 2 else ck1 (chk n) t.f4 v.f1)
    else if t.f0 = 6 then (if v.f0 ≠ 0 ∨ (v.f1.length : Int) > t.f3 then 2 else ck2 (chk n (aj t.f4 0)) v.f1)
    else if v.f1.length ≠ 0 then 2
    else if t.f0 = 1 then (if v.f0 < 0 ∨ v.f0 > 1 then 1 else 0)
    else if t.f0 = 3 then (if v.f0 < 0 then 1 else 0)
    else (if v.f0 < t.f1 ∨ v.f0 > t.f2 then 1 else 0)

end Go.Proofs.Ytggelekooacmnaa.Pure
-- value.element and value.check, walked by hand: what they say of a valid type
namespace Go.Proofs.Ytggelekooacmnaa.Z
open Go.RowKit Go.Proofs.YtggelekooacmnaaW.bM Go.Proofs.YtggelekooacmnaaW.dR Go.Proofs.YtggelekooacmnaaW.eO
open Go.Proofs.Ytggelekooacmnaa.Pure
set_option linter.unusedVariables false
set_option linter.unusedSimpArgs false
/-- a type's cells as a call hands them on -/
abbrev tyV (x : S27) (A : Option Addr) (c : Nat) : Value := .agg #[.int .i64 x.f0, .int .i64 x.f1, .int .i64 x.f2, .int .i64 x.f3, .slice A x.f4.length c]
abbrev vaV (v : S31) (A : Option Addr) (c : Nat) : Value := .agg #[.int .i64 v.f0, .slice A v.f1.length c]
set_option maxHeartbeats 4000000 in
set_option maxRecDepth 100000 in
/-- element: in every world behind this one it has one answer -/
theorem Qh (t : S27) (A : Option Addr) (c : Nat) (i : Nat) (w0 : World) (hA : Kd.C k27 w0 A t.f4.length t.f4) (hc : t.f4.length ≤ c) (j : Nat) (hj : (if t.f0 = 6 then 0 else i) = j) (hi : j < t.f4.length) :
    ∃ A4 c4, Kd.C k27 w0 A4 (aj t.f4 j).f4.length (aj t.f4 j).f4 ∧ (aj t.f4 j).f4.length ≤ c4 ∧ ∀ w, Below w0.heap.size w0 w → Calls Try.prog 45 #[tyV t A c, .int .i64 i] w fun e w' => e = .returned (tyV (aj t.f4 j) A4 c4) ∧ Below w.heap.size w w' := by
  have hn := hA.2.1
  obtain ⟨a0, a1, a2, a3, l⟩ := t
  dsimp only [tyV] at hA hc hj hi hn ⊢
  obtain ⟨ad, A4, c4, rfl, d0, d1, d2, d3, d4, l4, g4⟩ := gQ hA (j : Int) (by omega) (by omega)
  refine ⟨A4, c4, g4, l4, fun w hw => ?_⟩
  rw [Int.toNat_natCast] at d0 d1 d2 d3 d4
  replace d0 := kC hw d0
  replace d1 := kC hw d1
  replace d2 := kC hw d2
  replace d3 := kC hw d3
  replace d4 := kC hw d4
  obtain ⟨x, hx⟩ : ∃ x, x = aj l (j : Int) := ⟨_, rfl⟩
  rw [← hx] at d0 d1 d2 d3 d4 l4 ⊢
  have u1 := World.block_lt_of_cell? _ _ d0
  clear g4 hx hA hw
  by_cases h6 : a0 = 6
  · subst h6
    obtain rfl : 0 = j := by simpa using hj
    have e0 : ad.add (0 * 5) = ad := by simp [Addr.add]
    rw [e0] at d0 d1 d2 d3 d4 u1
    go_enter Try.func45, Try.ntmps45
    go_wp2
    have hb2 : Below w.heap.size w ((w.alloc (.cells #[.int .i64 6, .int .i64 a1, .int .i64 a2, .int .i64 a3, .slice (some ad) l.length c] 27)).alloc (.cells #[.int .i64 x.f0, .int .i64 x.f1, .int .i64 x.f2, .int .i64 x.f3, .slice A4 x.f4.length c4] 27)) := ((Below.refl _ w).alloc (Nat.le_refl _) _).alloc (by simp) _
    refine bodyPost_ret (results_cell_row rfl _ _ (w.heap.size + 1) 27 #[.int .i64 x.f0, .int .i64 x.f1, .int .i64 x.f2, .int .i64 x.f3, .slice A4 x.f4.length c4] (0, 0) _ rfl ?_ Try.underlying27 rfl (by kernel_rfl)) rfl ⟨rfl, hb2⟩
    have := heap_alloc_new (w.alloc (.cells #[.int .i64 6, .int .i64 a1, .int .i64 a2, .int .i64 a3, .slice (some ad) l.length c] 27)) (.cells #[.int .i64 x.f0, .int .i64 x.f1, .int .i64 x.f2, .int .i64 x.f3, .slice A4 x.f4.length c4] 27)
    simpa using this
  · have q6 : (a0 == 6) = false := beq_false_of_ne h6
    obtain rfl : i = j := by simpa [h6] using hj
    go_enter Try.func45, Try.ntmps45
    go_wp2
    have hb2 : Below w.heap.size w ((w.alloc (.cells #[.int .i64 a0, .int .i64 a1, .int .i64 a2, .int .i64 a3, .slice (some ad) l.length c] 27)).alloc (.cells #[.int .i64 x.f0, .int .i64 x.f1, .int .i64 x.f2, .int .i64 x.f3, .slice A4 x.f4.length c4] 27)) := ((Below.refl _ w).alloc (Nat.le_refl _) _).alloc (by simp) _
    refine bodyPost_ret (results_cell_row rfl _ _ (w.heap.size + 1) 27 #[.int .i64 x.f0, .int .i64 x.f1, .int .i64 x.f2, .int .i64 x.f3, .slice A4 x.f4.length c4] (0, 0) _ rfl ?_ Try.underlying27 rfl (by kernel_rfl)) rfl ⟨rfl, hb2⟩
    have := heap_alloc_new (w.alloc (.cells #[.int .i64 a0, .int .i64 a1, .int .i64 a2, .int .i64 a3, .slice (some ad) l.length c] 27)) (.cells #[.int .i64 x.f0, .int .i64 x.f1, .int .i64 x.f2, .int .i64 x.f3, .slice A4 x.f4.length c4] 27)
    simpa using this
theorem TB (n : Nat) (v : S31) : chk (n + 1) ⟨1, 0, 0, 0, []⟩ v = if v.f1.length ≠ 0 then 2 else if v.f0 < 0 ∨ v.f0 > 1 then 1 else 0 := by simp [chk]
theorem TC (n : Nat) (lo hi : Int) (v : S31) : chk (n + 1) ⟨2, lo, hi, 0, []⟩ v = if v.f1.length ≠ 0 then 2 else if v.f0 < lo ∨ v.f0 > hi then 1 else 0 := by simp [chk]
theorem TD (n : Nat) (v : S31) : chk (n + 1) ⟨3, 0, 0, 0, []⟩ v = if v.f1.length ≠ 0 then 2 else if v.f0 < 0 then 1 else 0 := by simp [chk]
/-- what check says of a leaf: kind q of low and high bounds -/
def Ic (t : S27) (v : S31) (r : Int) : Prop := ∀ (A : Option Addr) (c : Nat) (B : Option Addr) (d : Nat) (w : World), Kd.C k27 w A t.f4.length t.f4 → t.f4.length ≤ c → Kd.C k31 w B v.f1.length v.f1 → v.f1.length ≤ d →
  Calls Try.prog 29 #[tyV t A c, vaV v B d] w fun e w' => e = .returned (.int .i64 r) ∧ Below w.heap.size w w'
set_option maxHeartbeats 4000000 in
set_option maxRecDepth 100000 in
theorem KT (q lo hi : Int) (v : S31) (hq : q = 1 ∨ q = 2 ∨ q = 3) : Ic ⟨q, lo, hi, 0, []⟩ v (if v.f1.length ≠ 0 then 2 else if v.f0 < lo ∨ v.f0 > (if q = 1 then 1 else if q = 3 then v.f0 else hi) then 1 else 0) := by
  intro A c B d w hA hc hB hd
  have hn := hB.2.1
  obtain ⟨v0, vs⟩ := v
  dsimp only [tyV, vaV, List.length_nil] at hd hn ⊢
  obtain ⟨L, hL⟩ : ∃ L, L = vs.length := ⟨_, rfl⟩
  rw [← hL] at hd hn ⊢
  have hb2 : Below w.heap.size w ((w.alloc (.cells #[.int .i64 q, .int .i64 lo, .int .i64 hi, .int .i64 0, .slice A 0 c] 27)).alloc (.cells #[.int .i64 v0, .slice B L d] 31)) := ((Below.refl _ w).alloc (Nat.le_refl _) _).alloc (by simp) _
  have HB2 := Lib.hid hb2
  clear hA hB hL hb2
  have q5 : (q == 5) = false := beq_false_of_ne (by omega)
  have q6 : (q == 6) = false := beq_false_of_ne (by omega)
  by_cases h0 : L = 0
  · subst h0
    rw [if_neg (by simp)]
    rcases hq with rfl | rfl | rfl
    · have eH : (if (1 : Int) = 1 then (1 : Int) else if (1 : Int) = 3 then v0 else hi) = 1 := by simp
      rw [eH]
      by_cases c1 : v0 < lo
      · rw [if_pos (.inl c1)]
        go_enter Try.func29, Try.ntmps29
        go_wp2
        go_quiet (fail)
        go_wp2
        go_ret
        exact ⟨rfl, (by first | exact bR HB2.out _ | exact bV HB2.out)⟩
      · by_cases c2 : v0 > 1
        · rw [if_pos (.inr c2)]
          go_enter Try.func29, Try.ntmps29
          go_wp2
          go_quiet (fail)
          go_wp2
          go_ret
          exact ⟨rfl, (by first | exact bR HB2.out _ | exact bV HB2.out)⟩
        · rw [if_neg (by omega)]
          go_enter Try.func29, Try.ntmps29
          go_wp2
          go_quiet (fail)
          go_wp2
          go_ret
          exact ⟨rfl, (by first | exact bR HB2.out _ | exact bV HB2.out)⟩
    · have eH : (if (2 : Int) = 1 then (1 : Int) else if (2 : Int) = 3 then v0 else hi) = hi := by simp
      rw [eH]
      by_cases c1 : v0 < lo
      · rw [if_pos (.inl c1)]
        go_enter Try.func29, Try.ntmps29
        go_wp2
        go_quiet (fail)
        go_wp2
        go_ret
        exact ⟨rfl, (by first | exact bR HB2.out _ | exact bV HB2.out)⟩
      · by_cases c2 : v0 > hi
        · rw [if_pos (.inr c2)]
          go_enter Try.func29, Try.ntmps29
          go_wp2
          go_quiet (fail)
          go_wp2
          go_ret
          exact ⟨rfl, (by first | exact bR HB2.out _ | exact bV HB2.out)⟩
        · rw [if_neg (by omega)]
          go_enter Try.func29, Try.ntmps29
          go_wp2
          go_quiet (fail)
          go_wp2
          go_ret
          exact ⟨rfl, (by first | exact bR HB2.out _ | exact bV HB2.out)⟩
    · have eH : (if (3 : Int) = 1 then (1 : Int) else if (3 : Int) = 3 then v0 else hi) = v0 := by simp
      rw [eH]
      have c2 : ¬ v0 < v0 := by omega
      by_cases c1 : v0 < lo
      · rw [if_pos (.inl c1)]
        go_enter Try.func29, Try.ntmps29
        go_wp2
        go_quiet (fail)
        go_wp2
        go_ret
        exact ⟨rfl, (by first | exact bR HB2.out _ | exact bV HB2.out)⟩
      · rw [if_neg (by omega)]
        go_enter Try.func29, Try.ntmps29
        go_wp2
        go_quiet (fail)
        go_wp2
        go_ret
        exact ⟨rfl, (by first | exact bR HB2.out _ | exact bV HB2.out)⟩
  · rw [if_pos h0]
    have hz : ((L : Int) != 0) = true := by simp; omega
    go_enter Try.func29, Try.ntmps29
    go_wp2
    go_ret
    exact ⟨rfl, HB2.out⟩
set_option maxHeartbeats 8000000 in
set_option maxRecDepth 100000 in
theorem UB (m : Int) (l : List S27) (v : S31) (g : Nat → Int) (r : Int) (hv0 : v.f0 = 0) (hL : v.f1.length = l.length)
    (hE : ∀ j, j < v.f1.length → Ic (aj l (j : Int)) (dM v.f1 (j : Int)) (g j))
    (h1 : ∀ k, k < v.f1.length → (∀ j, j < k → g j = 0) → g k ≠ 0 → r = g k) (h2 : (∀ j, j < v.f1.length → g j = 0) → r = 0) : Ic ⟨5, 0, 0, m, l⟩ v r := by
  intro A c B d w hA hc hB hd
  have hn := hB.2.1
  obtain ⟨v0, vs⟩ := v
  dsimp only [tyV, vaV] at hA hc hB hd hn hv0 hL hE h1 h2 ⊢
  subst hv0
  have HA := Lib.hid hA
  have HV := Lib.hid hB
  have HE := Lib.hid hE
  have H1 := Lib.hid h1
  have H2 := Lib.hid h2
  obtain ⟨L, hLe⟩ : ∃ L, L = vs.length := ⟨_, rfl⟩
  have HL := Lib.hid hLe
  have HLL := Lib.hid hL
  rw [← hL] at hc ⊢
  rw [← hLe] at hd hn hc ⊢
  have hb2 : Below w.heap.size w ((w.alloc (.cells #[.int .i64 5, .int .i64 0, .int .i64 0, .int .i64 m, .slice A L c] 27)).alloc (.cells #[.int .i64 0, .slice B L d] 31)) := ((Below.refl _ w).alloc (Nat.le_refl _) _).alloc (by simp) _
  have hbt : ((w.alloc (.cells #[.int .i64 5, .int .i64 0, .int .i64 0, .int .i64 m, .slice A L c] 27)).alloc (.cells #[.int .i64 0, .slice B L d] 31)).heap[w.heap.size]? = some (.cells #[.int .i64 5, .int .i64 0, .int .i64 0, .int .i64 m, .slice A L c] 27 (0, 0)) := (Below.heap_alloc _ _ _ (by simp)).trans (heap_alloc_new w _)
  have hs2 : w.heap.size < ((w.alloc (.cells #[.int .i64 5, .int .i64 0, .int .i64 0, .int .i64 m, .slice A L c] 27)).alloc (.cells #[.int .i64 0, .slice B L d] 31)).heap.size := by simp; omega
  have HB2 := Lib.hid hb2
  have HBT := Lib.hid hbt
  have HS2 := Lib.hid hs2
  clear hA hB hE h1 h2 hLe hL hb2 hbt hs2
  go_enter Try.func29, Try.ntmps29
  go_wp2
  generalize (w.alloc (.cells #[.int .i64 5, .int .i64 0, .int .i64 0, .int .i64 m, .slice A L c] 27)).alloc (.cells #[.int .i64 0, .slice B L d] 31) = W2 at HB2 HBT HS2 ⊢
  go_loopw [51] (fun i wr => ∃ k : Nat, i = .int .i64 k ∧ k ≤ L ∧ Below W2.heap.size W2 wr ∧ aa (∀ j, j < k → g j = 0)) (fun i _ => L - (intOf i).toNat)
  case atStart => exact ⟨0, rfl, Nat.zero_le _, Below.refl _ _, ⟨fun j hj => by omega⟩⟩
  case round =>
    obtain ⟨k, rfl, hk, hbw, hal⟩ := hrel
    have hbW : Below w.heap.size w wr := HB2.out.trans (hbw.mono HB2.out.size)
    by_cases hlt : k < L
    · obtain ⟨ae, B4, e4, rfl, q0, q1, m4, r4⟩ := Jg (Kd.bX HV.out hbW) (k : Int) (by omega) (by have := HL.out; omega)
      rw [Int.toNat_natCast] at q0 q1
      have hEE := HE.out k (by have := HL.out; omega)
      obtain ⟨A4, c4, g4, l4, hel⟩ := Qh ⟨5, 0, 0, m, l⟩ A c k wr (Kd.bX HA.out hbW) (by have := HL.out; have := HLL.out; dsimp only; omega) k (by simp) (by have := HL.out; have := HLL.out; dsimp only; omega)
      dsimp only [tyV] at g4 l4 hel
      obtain ⟨x, hx⟩ : ∃ x, x = aj l (k : Int) := ⟨_, rfl⟩
      obtain ⟨y, hy⟩ : ∃ y, y = dM vs (k : Int) := ⟨_, rfl⟩
      rw [← hx] at g4 l4 hel hEE
      rw [← hy] at q0 q1 m4 r4 hEE
      have hlen : l.length = L := by have := HL.out; have := HLL.out; omega
      rw [hlen] at hel
      have HEE := Lib.hid hEE
      have HG4 := Lib.hid g4
      have HR4 := Lib.hid r4
      have HBW := Lib.hid hbW
      have Ie := Lib.hid hbw
      have HAL := Lib.hid hal.out
      have HEL := Lib.hid hel
      have u2 := World.block_lt_of_cell? _ _ q0
      have hbt := (hbw.block _ HS2.out).trans HBT.out
      have HBTr := Lib.hid hbt
      clear hEE g4 r4 hbW hbw hal hel hx hy hlen hbt
      go_wp2
      have hB3 : Below wr.heap.size wr (wr.alloc (.cells #[.int .i64 y.f0, .slice B4 y.f1.length e4] 31)) := (Below.refl _ wr).alloc (Nat.le_refl _) _
      have hb3 := (hB3.block _ (mI HBTr.out)).trans HBTr.out
      have hy3 := heap_alloc_new wr (.cells #[.int .i64 y.f0, .slice B4 y.f1.length e4] 31)
      generalize wr.alloc (.cells #[.int .i64 y.f0, .slice B4 y.f1.length e4] 31) = W3 at hB3 hb3 hy3 ⊢
      have k0 := cell_regrown ((aA hb3 0).trans rfl)
      have k1 := cell_regrown ((aA hb3 1).trans rfl)
      have k2 := cell_regrown ((aA hb3 2).trans rfl)
      have k3 := cell_regrown ((aA hb3 3).trans rfl)
      have k4 := cell_regrown ((aA hb3 4).trans rfl)
      have k5 := cell_regrown ((aA hy3 0).trans rfl)
      have k6 := cell_regrown ((aA hy3 1).trans rfl)
      have hBr : ∀ d os, Below wr.heap.size wr (Go.Sort.grow (redrawn W3 d) os) := fun d os => hB3.trans ((below_regrown W3 d os).mono hB3.size)
      have cE : ∀ d os, Calls Try.prog 45 _ (Go.Sort.grow (redrawn W3 d) os) _ := fun d os => Calls.regrown_of (HEL.out _ (hBr d os))
      have cC : ∀ d os, Calls Try.prog 29 _ (Go.Sort.grow (redrawn W3 d) os) _ := fun d os => Calls.regrown_of (HEE.out A4 c4 B4 e4 _ (Kd.bX HG4.out (hBr d os)) l4 (Kd.bX HR4.out (hBr d os)) m4)
      have HBR := Lib.hid hBr
      clear hBr hB3 hb3 hy3
      dsimp only [tyV, vaV] at cE cC
      refine wp_region_quiet_below (by kernel_rfl) (by kernel_rfl) ?_
      repeat (quiet_step (first | exact cE _ _ | exact cC _ _))
      refine wpQuiet_nil ?_
      intro _ hw'
      obtain ⟨⟨dq, osq⟩, hw''⟩ := hw'
      subst hw''
      dsimp only
      by_cases hg : g k = 0
      · have hgz : (g k != 0) = false := by simp [hg]
        go_wp2
        go_roundw
        case rel =>
          refine ⟨k + 1, by go_num, hlt, Ie.out.trans ((HBR.out dq osq).mono Ie.out.size), ⟨fun j hj => ?_⟩⟩
          by_cases hjk : j = k
          · rw [hjk]; exact hg
          · exact HAL.out j (by omega)
        case measure => simp [intOf]; omega
      · have hgz : (g k != 0) = true := by simp [hg]
        go_wp2
        go_ret
        exact ⟨by rw [H1.out k (by have := HL.out; omega) HAL.out hg]; rfl, HBW.out.trans ((HBR.out dq osq).mono HBW.out.size)⟩
    · go_wp2
      go_ret
      exact ⟨by rw [H2.out (fun j hj => hal.out j (by have := HL.out; omega))]; rfl, hbW⟩
set_option maxHeartbeats 8000000 in
set_option maxRecDepth 100000 in
theorem UC (m : Int) (l : List S27) (v : S31) (g : Nat → Int) (r : Int) (hv0 : v.f0 = 0) (hL : (v.f1.length : Int) ≤ m) (h1l : l.length = 1)
    (hE : ∀ j, j < v.f1.length → Ic (aj l ((0 : Nat) : Int)) (dM v.f1 (j : Int)) (g j))
    (h1 : ∀ k, k < v.f1.length → (∀ j, j < k → g j = 0) → g k ≠ 0 → r = g k) (h2 : (∀ j, j < v.f1.length → g j = 0) → r = 0) : Ic ⟨6, 0, 0, m, l⟩ v r := by
  intro A c B d w hA hc hB hd
  have hn := hB.2.1
  obtain ⟨v0, vs⟩ := v
  dsimp only [tyV, vaV] at hA hc hB hd hn hv0 hL h1l hE h1 h2 ⊢
  subst hv0
  have HA := Lib.hid hA
  have HV := Lib.hid hB
  have HE := Lib.hid hE
  have H1 := Lib.hid h1
  have H2 := Lib.hid h2
  obtain ⟨L, hLe⟩ : ∃ L, L = vs.length := ⟨_, rfl⟩
  have HL := Lib.hid hLe
  have HLL := Lib.hid h1l
  rw [h1l] at hc ⊢
  rw [← hLe] at hd hn hL ⊢
  have hb2 : Below w.heap.size w ((w.alloc (.cells #[.int .i64 6, .int .i64 0, .int .i64 0, .int .i64 m, .slice A 1 c] 27)).alloc (.cells #[.int .i64 0, .slice B L d] 31)) := ((Below.refl _ w).alloc (Nat.le_refl _) _).alloc (by simp) _
  have hbt : ((w.alloc (.cells #[.int .i64 6, .int .i64 0, .int .i64 0, .int .i64 m, .slice A 1 c] 27)).alloc (.cells #[.int .i64 0, .slice B L d] 31)).heap[w.heap.size]? = some (.cells #[.int .i64 6, .int .i64 0, .int .i64 0, .int .i64 m, .slice A 1 c] 27 (0, 0)) := (Below.heap_alloc _ _ _ (by simp)).trans (heap_alloc_new w _)
  have hs2 : w.heap.size < ((w.alloc (.cells #[.int .i64 6, .int .i64 0, .int .i64 0, .int .i64 m, .slice A 1 c] 27)).alloc (.cells #[.int .i64 0, .slice B L d] 31)).heap.size := by simp; omega
  have HB2 := Lib.hid hb2
  have HBT := Lib.hid hbt
  have HS2 := Lib.hid hs2
  clear hA hB hE h1 h2 hLe h1l hb2 hbt hs2
  go_enter Try.func29, Try.ntmps29
  go_wp2
  generalize (w.alloc (.cells #[.int .i64 6, .int .i64 0, .int .i64 0, .int .i64 m, .slice A 1 c] 27)).alloc (.cells #[.int .i64 0, .slice B L d] 31) = W2 at HB2 HBT HS2 ⊢
  go_loopw [51] (fun i wr => ∃ k : Nat, i = .int .i64 k ∧ k ≤ L ∧ Below W2.heap.size W2 wr ∧ aa (∀ j, j < k → g j = 0)) (fun i _ => L - (intOf i).toNat)
  case atStart => exact ⟨0, rfl, Nat.zero_le _, Below.refl _ _, ⟨fun j hj => by omega⟩⟩
  case round =>
    obtain ⟨k, rfl, hk, hbw, hal⟩ := hrel
    have hbW : Below w.heap.size w wr := HB2.out.trans (hbw.mono HB2.out.size)
    by_cases hlt : k < L
    · obtain ⟨ae, B4, e4, rfl, q0, q1, m4, r4⟩ := Jg (Kd.bX HV.out hbW) (k : Int) (by omega) (by have := HL.out; omega)
      rw [Int.toNat_natCast] at q0 q1
      have hEE := HE.out k (by have := HL.out; omega)
      obtain ⟨A4, c4, g4, l4, hel⟩ := Qh ⟨6, 0, 0, m, l⟩ A c k wr (Kd.bX HA.out hbW) (by have := HLL.out; dsimp only; omega) 0 (by simp) (by have := HLL.out; dsimp only; omega)
      dsimp only [tyV] at g4 l4 hel
      obtain ⟨x, hx⟩ : ∃ x, x = aj l ((0 : Nat) : Int) := ⟨_, rfl⟩
      obtain ⟨y, hy⟩ : ∃ y, y = dM vs (k : Int) := ⟨_, rfl⟩
      rw [← hx] at g4 l4 hel hEE
      rw [← hy] at q0 q1 m4 r4 hEE
      have hlen : l.length = 1 := HLL.out
      rw [hlen] at hel
      have HEE := Lib.hid hEE
      have HG4 := Lib.hid g4
      have HR4 := Lib.hid r4
      have HBW := Lib.hid hbW
      have Ie := Lib.hid hbw
      have HAL := Lib.hid hal.out
      have HEL := Lib.hid hel
      have u2 := World.block_lt_of_cell? _ _ q0
      have hbt := (hbw.block _ HS2.out).trans HBT.out
      have HBTr := Lib.hid hbt
      clear hEE g4 r4 hbW hbw hal hel hx hy hlen hbt
      go_wp2
      have hB3 : Below wr.heap.size wr (wr.alloc (.cells #[.int .i64 y.f0, .slice B4 y.f1.length e4] 31)) := (Below.refl _ wr).alloc (Nat.le_refl _) _
      have hb3 := (hB3.block _ (mI HBTr.out)).trans HBTr.out
      have hy3 := heap_alloc_new wr (.cells #[.int .i64 y.f0, .slice B4 y.f1.length e4] 31)
      generalize wr.alloc (.cells #[.int .i64 y.f0, .slice B4 y.f1.length e4] 31) = W3 at hB3 hb3 hy3 ⊢
      have k0 := cell_regrown ((aA hb3 0).trans rfl)
      have k1 := cell_regrown ((aA hb3 1).trans rfl)
      have k2 := cell_regrown ((aA hb3 2).trans rfl)
      have k3 := cell_regrown ((aA hb3 3).trans rfl)
      have k4 := cell_regrown ((aA hb3 4).trans rfl)
      have k5 := cell_regrown ((aA hy3 0).trans rfl)
      have k6 := cell_regrown ((aA hy3 1).trans rfl)
      have hBr : ∀ d os, Below wr.heap.size wr (Go.Sort.grow (redrawn W3 d) os) := fun d os => hB3.trans ((below_regrown W3 d os).mono hB3.size)
      have cE : ∀ d os, Calls Try.prog 45 _ (Go.Sort.grow (redrawn W3 d) os) _ := fun d os => Calls.regrown_of (HEL.out _ (hBr d os))
      have cC : ∀ d os, Calls Try.prog 29 _ (Go.Sort.grow (redrawn W3 d) os) _ := fun d os => Calls.regrown_of (HEE.out A4 c4 B4 e4 _ (Kd.bX HG4.out (hBr d os)) l4 (Kd.bX HR4.out (hBr d os)) m4)
      have HBR := Lib.hid hBr
      clear hBr hB3 hb3 hy3
      dsimp only [tyV, vaV] at cE cC
      refine wp_region_quiet_below (by kernel_rfl) (by kernel_rfl) ?_
      repeat (quiet_step (first | exact cE _ _ | exact cC _ _))
      refine wpQuiet_nil ?_
      intro _ hw'
      obtain ⟨⟨dq, osq⟩, hw''⟩ := hw'
      subst hw''
      dsimp only
      by_cases hg : g k = 0
      · have hgz : (g k != 0) = false := by simp [hg]
        go_wp2
        go_roundw
        case rel =>
          refine ⟨k + 1, by go_num, hlt, Ie.out.trans ((HBR.out dq osq).mono Ie.out.size), ⟨fun j hj => ?_⟩⟩
          by_cases hjk : j = k
          · rw [hjk]; exact hg
          · exact HAL.out j (by omega)
        case measure => simp [intOf]; omega
      · have hgz : (g k != 0) = true := by simp [hg]
        go_wp2
        go_ret
        exact ⟨by rw [H1.out k (by have := HL.out; omega) HAL.out hg]; rfl, HBW.out.trans ((HBR.out dq osq).mono HBW.out.size)⟩
    · go_wp2
      go_ret
      exact ⟨by rw [H2.out (fun j hj => hal.out j (by have := HL.out; omega))]; rfl, hbW⟩
set_option maxHeartbeats 4000000 in
set_option maxRecDepth 100000 in
theorem TE (a0 m : Int) (l : List S27) (v : S31) (h : (a0 = 5 ∧ (v.f0 ≠ 0 ∨ v.f1.length ≠ l.length)) ∨ (a0 = 6 ∧ (v.f0 ≠ 0 ∨ (v.f1.length : Int) > m))) : Ic ⟨a0, 0, 0, m, l⟩ v 2 := by
  intro A c B d w hA hc hB hd
  have hn := hB.2.1
  have hm := hA.2.1
  obtain ⟨v0, vs⟩ := v
  dsimp only [tyV, vaV] at hc hd hn hm h ⊢
  obtain ⟨L, hL⟩ : ∃ L, L = vs.length := ⟨_, rfl⟩
  obtain ⟨N, hN⟩ : ∃ N, N = l.length := ⟨_, rfl⟩
  rw [← hL] at hd hn h ⊢
  rw [← hN] at hc hm h ⊢
  have hb2 : Below w.heap.size w ((w.alloc (.cells #[.int .i64 a0, .int .i64 0, .int .i64 0, .int .i64 m, .slice A N c] 27)).alloc (.cells #[.int .i64 v0, .slice B L d] 31)) := ((Below.refl _ w).alloc (Nat.le_refl _) _).alloc (by simp) _
  have HB2 := Lib.hid hb2
  clear hA hB hL hN hb2
  rcases h with ⟨rfl, h⟩ | ⟨rfl, h⟩
  · by_cases h0 : v0 = 0
    · subst h0
      have hz : ((L : Int) != (N : Int)) = true := by simp; omega
      clear h
      go_enter Try.func29, Try.ntmps29
      go_wp2
      go_ret
      exact ⟨rfl, HB2.out⟩
    · have hz : (v0 != 0) = true := by simp [h0]
      clear h
      go_enter Try.func29, Try.ntmps29
      go_wp2
      go_ret
      exact ⟨rfl, HB2.out⟩
  · by_cases h0 : v0 = 0
    · subst h0
      have hz : (L : Int) > m := by omega
      clear h
      go_enter Try.func29, Try.ntmps29
      go_wp2
      go_ret
      exact ⟨rfl, HB2.out⟩
    · have hz : (v0 != 0) = true := by simp [h0]
      clear h
      go_enter Try.func29, Try.ntmps29
      go_wp2
      go_ret
      exact ⟨rfl, HB2.out⟩
theorem Ll {f : S27 → S31 → Int} : ∀ (l : List S27) (vs : List S31), l.length = vs.length → (∀ k, k < vs.length → (∀ j, j < k → f (aj l (j : Int)) (dM vs (j : Int)) = 0) → f (aj l (k : Int)) (dM vs (k : Int)) ≠ 0 → ck1 f l vs = f (aj l (k : Int)) (dM vs (k : Int))) ∧ ((∀ j, j < vs.length → f (aj l (j : Int)) (dM vs (j : Int)) = 0) → ck1 f l vs = 0)
  | [], [], _ => ⟨fun k hk => by simp at hk, fun _ => by simp [ck1]⟩
  | [], _ :: _, h => by simp at h
  | _ :: _, [], h => by simp at h
  | t :: l, v :: vs, h => by
    obtain ⟨i1, i2⟩ := Ll (f := f) l vs (by simpa using h)
    have s1 : ∀ j : Nat, aj (t :: l) ((j + 1 : Nat) : Int) = aj l (j : Int) := fun j => by unfold aj; rw [Int.toNat_natCast, Int.toNat_natCast, List.getD_cons_succ]
    have s2 : ∀ j : Nat, dM (v :: vs) ((j + 1 : Nat) : Int) = dM vs (j : Int) := fun j => by unfold dM; rw [Int.toNat_natCast, Int.toNat_natCast, List.getD_cons_succ]
    have z1 : aj (t :: l) ((0 : Nat) : Int) = t := by unfold aj; rfl
    have z2 : dM (v :: vs) ((0 : Nat) : Int) = v := by unfold dM; rfl
    refine ⟨fun k hk hj hne => ?_, fun hj => ?_⟩
    · cases k with
      | zero => rw [z1, z2] at hne ⊢; unfold ck1; rw [if_neg hne]
      | succ k =>
        have h0 := hj 0 (by omega)
        rw [z1, z2] at h0
        rw [s1, s2] at hne ⊢
        unfold ck1
        rw [if_pos h0]
        exact i1 k (by simpa using hk) (fun j hjk => by have := hj (j + 1) (by omega); rwa [s1, s2] at this) hne
    · have h0 := hj 0 (by simp)
      rw [z1, z2] at h0
      unfold ck1
      rw [if_pos h0]
      exact i2 (fun j hjl => by have := hj (j + 1) (by simpa using hjl); rwa [s1, s2] at this)
theorem Lm {f : S31 → Int} : ∀ (vs : List S31), (∀ k, k < vs.length → (∀ j, j < k → f (dM vs (j : Int)) = 0) → f (dM vs (k : Int)) ≠ 0 → ck2 f vs = f (dM vs (k : Int))) ∧ ((∀ j, j < vs.length → f (dM vs (j : Int)) = 0) → ck2 f vs = 0)
  | [] => ⟨fun k hk => by simp at hk, fun _ => by simp [ck2]⟩
  | v :: vs => by
    obtain ⟨i1, i2⟩ := Lm (f := f) vs
    have s2 : ∀ j : Nat, dM (v :: vs) ((j + 1 : Nat) : Int) = dM vs (j : Int) := fun j => by unfold dM; rw [Int.toNat_natCast, Int.toNat_natCast, List.getD_cons_succ]
    have z2 : dM (v :: vs) ((0 : Nat) : Int) = v := by unfold dM; rfl
    refine ⟨fun k hk hj hne => ?_, fun hj => ?_⟩
    · cases k with
      | zero => rw [z2] at hne ⊢; unfold ck2; rw [if_neg hne]
      | succ k =>
        have h0 := hj 0 (by omega)
        rw [z2] at h0
        rw [s2] at hne ⊢
        unfold ck2
        rw [if_pos h0]
        exact i1 k (by simpa using hk) (fun j hjk => by have := hj (j + 1) (by omega); rwa [s2] at this) hne
    · have h0 := hj 0 (by simp)
      rw [z2] at h0
      unfold ck2
      rw [if_pos h0]
      exact i2 (fun j hjl => by have := hj (j + 1) (by simpa using hjl); rwa [s2] at this)
theorem Xv (n : Nat) : ∀ (t : S27) (v : S31), Vt n t → t.f0 ≠ 4 → Ic t v (chk n t v) := by
  induction n with
  | zero => intro t v h; cases h
  | succ n ih =>
    intro t v h h4
    cases h with
    | bool => rw [TB]; simpa using KT 1 0 0 v (.inl rfl)
    | int _ lo hi h1 h2 h3 => rw [TC]; simpa using KT 2 lo hi v (.inr (.inl rfl))
    | nat => rw [TD]; simpa using KT 3 0 0 v (.inr (.inr rfl))
    | real => exact absurd rfl h4
    | tup _ l h1 h2 h3 h5 =>
      have e : chk (n + 1) ⟨5, 0, 0, 0, l⟩ v = if v.f0 ≠ 0 ∨ v.f1.length ≠ l.length then 2 else ck1 (chk n) l v.f1 := by simp [chk]
      rw [e]
      by_cases hb : v.f0 ≠ 0 ∨ v.f1.length ≠ l.length
      · rw [if_pos hb]; exact TE 5 0 l v (.inl ⟨rfl, hb⟩)
      · rw [if_neg hb]
        have hl : v.f1.length = l.length := by omega
        obtain ⟨i1, i2⟩ := Ll (f := chk n) l v.f1 hl.symm
        refine UB 0 l v (fun j => chk n (aj l (j : Int)) (dM v.f1 (j : Int))) _ (by omega) hl (fun j hj => ?_) i1 i2
        have hm : aj l (j : Int) ∈ l := by rw [rdT (by omega)]; exact List.getElem_mem _
        exact ih _ _ (h3 _ hm) (h5 _ hm).2
    | lst _ m x h1 h2 h3 h5 =>
      have e : chk (n + 1) ⟨6, 0, 0, m, [x]⟩ v = if v.f0 ≠ 0 ∨ (v.f1.length : Int) > m then 2 else ck2 (chk n (aj [x] ((0 : Nat) : Int))) v.f1 := by simp [chk]
      rw [e]
      by_cases hb : v.f0 ≠ 0 ∨ (v.f1.length : Int) > m
      · rw [if_pos hb]; exact TE 6 m [x] v (.inr ⟨rfl, hb⟩)
      · rw [if_neg hb]
        obtain ⟨i1, i2⟩ := Lm (f := chk n (aj [x] ((0 : Nat) : Int))) v.f1
        refine UC m [x] v (fun j => chk n (aj [x] ((0 : Nat) : Int)) (dM v.f1 (j : Int))) _ (by omega) (by omega) rfl (fun j hj => ?_) i1 i2
        have hm : aj [x] ((0 : Nat) : Int) = x := rd1 x
        rw [hm]
        exact ih _ _ h3 (by omega)
end Go.Proofs.Ytggelekooacmnaa.Z
