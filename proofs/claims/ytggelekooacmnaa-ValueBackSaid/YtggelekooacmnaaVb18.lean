import Derived.Test.YtggelekooacmnaaVb0
namespace Go.Proofs.Ytggelekooacmnaa.Q
open Go.RowKit Go.Proofs.YtggelekooacmnaaW.bS Go.Proofs.YtggelekooacmnaaW.eQ Go.Proofs.YtggelekooacmnaaW.jY
attribute [local go_sem] lN lQ nz nA kE kF lS lT   -- for this text's walks alone
set_option linter.unusedVariables false
set_option linter.unusedSimpArgs false
mutual
def bI.j0 : Nat → Bool → Int → List (S31) → Int → List (S31) → Option (Bool)
 | 0, _, _, _, _, _ => none
 | k + 1, x19, Vk, JZ, Vl, J2 => if x19 = true then (some false) else (bI.l0 k 0 Vk JZ Vl J2)
def bI.l0 : Nat → Int → Int → List (S31) → Int → List (S31) → Option (Bool)
 | 0, _, _, _, _, _ => none
 | k + 1, x5, Vk, JZ, Vl, J2 => if x5 < (JZ.length : Int) then (if 0 ≤ x5 then (if x5 < (J2.length : Int) then ((bI.f k ((bG JZ x5).f0) ((bG JZ x5).f1) ((bG J2 x5).f0) ((bG J2 x5).f1)).bind fun t458 => (if t458 = true then (bI.l0 k (wrap64 (x5 + 1)) Vk JZ Vl J2) else (some false))) else (none)) else (none)) else (some true)
def bI.f : Nat → Int → List (S31) → Int → List (S31) → Option (Bool)
 | 0, _, _, _, _ => none
 | k + 1, ah, kr, aX, aI => if ah = aX then (bI.j0 k ((kr.length : Int) != (aI.length : Int)) ah kr aX aI) else (bI.j0 k true ah kr aX aI)
end
def bI.T6 : Bool × List (List Nat × List Nat) := (true, [([], []), ([0], [0]), ([], []), ([1, 2], [1, 2]), ([3], [3]), ([], []), ([5], [5]), ([], []), ([6, 7], [6, 7]), ([8], [8]), ([4, 9], [4, 9]), ([10], [10])])
def bI.B6 : List Nat := [0, 1, 0, 7, 15, 0, 32, 0, 224, 480, 1023, 2047]
theorem bI.tab6 : oI .any (opsOf Try.f15 6) = bI.T6 := by kernel_rfl
theorem bI.bits6 : qE bI.T6.2 bI.B6 = true := by kernel_rfl
set_option maxHeartbeats 8000000 in
set_option maxRecDepth 100000 in
theorem bI.calls (k : Nat) : ∀ (ah : Int) (A0_1 : Option Addr) (GD : Nat) (kr : List (S31)) (aX : Int) (fG : Option Addr) (dD : Nat) (aI : List (S31)) (r : Bool) (w : World) (hr0_1 : Kd.C k31 w A0_1 kr.length kr) (hc0_1 : kr.length ≤ GD) (pE : Kd.C k31 w fG aI.length aI) (pF : aI.length ≤ dD) (h : bI.f k ah kr aX aI = some r),
  Calls Try.prog 15 #[.agg #[.int .i64 ah, .slice A0_1 kr.length GD], .agg #[.int .i64 aX, .slice fG aI.length dD]] w fun e w' => e = .returned (.bool r) ∧ Below w.heap.size w w' := by
 induction k using Nat.strongRecOn with
 | _ k ih =>
 intro ah A0_1 GD kr aX fG dD aI r w hr0_1 hc0_1 pE pF h; cases k with
 | zero => exact absurd h (by simp [bI.f])
 | succ k =>
 simp only [bI.f] at h; have IB := Try.underlying31; have HR0_1 := aa.mk hr0_1; have HC0_1 := aa.mk hc0_1; clear hr0_1 hc0_1; have rO := aa.mk pE; have Fj := aa.mk pF; clear pE pF; have HB := aa.mk (Below.refl w.heap.size w); have H : (if ah = aX then (bI.j0 k ((kr.length : Int) != (aI.length : Int)) ah kr aX aI) else (bI.j0 k true ah kr aX aI)) = some r := h; clear h; have HC3 := aa.mk H; clear H; go_enter Try.func15, Try.ntmps15; go_upto_region 1 with (first | ((with_reducible refine bz (N := 2) rfl ?_); (try (refine bQ (by rfl) ?_; dsimp only)); refine bB ?hg (N := 2) ?hd (cs := #[.int .i64 ah, .slice A0_1 kr.length GD]) (t := 31) ?hr ?_; (case hd => rfl); (case hg => rfl); (case hr => first | (go_simp; done) | (go_simp; rfl)); intro AL hg w4 aQ hb; have pJ := aa.mk (aQ); have GW454 : aa (w.heap.size ≤ AL) := gw_ hg (aC bl_); have GE454 := GW454; replace HB := aa.mk (az bl_ hb); clear hb aQ hg) | ((with_reducible refine bz (N := 3) rfl ?_); (try (refine bQ (by rfl) ?_; dsimp only)); refine bB ?hg (N := 3) ?hd (cs := #[.int .i64 aX, .slice fG aI.length dD]) (t := 31) ?hr ?_; (case hd => rfl); (case hg => rfl); (case hr => first | (go_simp; done) | (go_simp; rfl)); intro FB hg w5 aQ hb; have tq := aa.mk (aQ); have GW455 : aa (w.heap.size ≤ FB) := gw_ hg (aC bl_); have GE455 := GW455; have Io := aa.mk ((by rw [hg]; exact Nat.ne_of_lt (bE (g := AL) (o := .cells #[.int .i64 ah, .slice A0_1 kr.length GD] 31 (0, 0)) bk_) : AL ≠ FB)); have Ip := aa.mk ((by rw [hg]; exact Nat.ne_of_gt (bE (g := AL) (o := .cells #[.int .i64 ah, .slice A0_1 kr.length GD] 31 (0, 0)) bk_) : FB ≠ AL)); replace pJ := aa.mk (ay (g := AL) (o := .cells #[.int .i64 ah, .slice A0_1 kr.length GD] 31 (0, 0)) bk_ hb); replace HB := aa.mk (az bl_ hb); clear hb aQ hg))
 (try simp only [Act.put, List.setIfInBounds_toArray, List.set_cons_zero, List.set_cons_succ])
 go_cut [19] (fun v19 wc => ∃ (kq : Nat) (x19_2 : Bool), v19 = .bool x19_2 ∧ aa (bI.j0 kq x19_2 ah kr aX aI = some r) ∧ aa (kq ≤ k) ∧ aa (wc.heap[AL]? = some (.cells #[.int .i64 ah, (.slice A0_1 kr.length GD)] 31 (0, 0))) ∧ aa (wc.heap[FB]? = some (.cells #[.int .i64 aX, (.slice fG aI.length dD)] 31 (0, 0))) ∧ aa (Below w.heap.size w wc))
 case first =>
  have H := HC3.out; clear HC3; by_cases c6 : ah = aX
  ·rw [if_pos c6] at H; have qW : (ah == aX) = true := beq_iff_eq.mpr c6; have IC : (ah != aX) = false := bne_eq_false_iff_eq.mpr c6; clear c6; (first | rw [qW] | (simp only [bg, bn]; rw [qW]) | skip)
   have H' := aa.mk H; clear H; have hnb7 := Io.out; have hnc7 := Ip.out; obtain ⟨xZ, yc, yf, yg⟩ := dm pJ.out; obtain ⟨Bi, Bj, Bl, Bn⟩ := dm tq.out; go_wp2; go_meet
   case rel => exact ⟨_, (((kr.length : Int) != (aI.length : Int))), rs_, H', ⟨by first | omega | exact Nat.le_refl _⟩, ⟨bk_⟩, ⟨bk_⟩, ⟨bl_⟩⟩
  ·rw [if_neg c6] at H; have qW : (ah == aX) = false := beq_eq_false_iff_ne.mpr c6; have IC : (ah != aX) = true := bne_iff_ne.mpr c6; (first | rw [qW] | (simp only [bg, bn]; rw [qW]) | skip)
   have H' := aa.mk H; clear H; have hnb10 := Io.out; have hnc10 := Ip.out; obtain ⟨vX, vY, vZ, wh⟩ := dm pJ.out; obtain ⟨qG, qH, qI, qJ⟩ := dm tq.out; go_wp2; go_meet
   case rel => exact ⟨_, (true), rs_, H', ⟨by first | omega | exact Nat.le_refl _⟩, ⟨bk_⟩, ⟨bk_⟩, ⟨bl_⟩⟩
 case rest =>
  clear HC3; (try clear c1); (try clear p2); (try clear c6); (try clear qW); (try clear IC); (try clear c7); (try clear c10); (try clear vX vY vZ wh); (try clear qG qH qI qJ); (try clear xZ yc yf yg); (try clear Bi Bj Bl Bn); obtain ⟨kq, x19_2, rfl, HA, HJ2, pJ, tq, HB⟩ := hcut; cases kq with
  | zero => exact absurd HA.out (by simp [bI.j0])
  | succ kj2 =>
   have H := HA.out; clear HA; simp only [bI.j0] at H; by_cases c13 : x19_2 = true
   ·subst c13; have H1 : (some false) = some r := by rw [if_pos rfl] at H; exact H
    clear H; have H := H1; clear H1; obtain rfl := Option.some.inj H; go_wp2; go_ret; exact ⟨re_, bl_⟩
   ·replace c13 := Bool.eq_false_iff.mpr c13; subst c13; have H1 : (bI.l0 kj2 0 ah kr aX aI) = some r := by rw [if_neg (show ¬ (false = true) by decide)] at H; exact H
    clear H; have H := H1; clear H1; have H' := aa.mk H; clear H; go_wp2; go_loopg [5] kj2 (fun kq v5 w' => ∃ (gT : Int), v5 = .int .i64 gT ∧ aa (bI.l0 kq gT ah kr aX aI = some r) ∧ aa (kq ≤ kj2) ∧ aa (w'.heap[AL]? = some (.cells #[.int .i64 ah, (.slice A0_1 kr.length GD)] 31 (0, 0))) ∧ aa (w'.heap[FB]? = some (.cells #[.int .i64 aX, (.slice fG aI.length dD)] 31 (0, 0))) ∧ aa (Below w.heap.size w w'))
    case atStart => exact ⟨(0), rs_, H', ⟨Nat.le_refl _⟩, ⟨bk_⟩, ⟨bk_⟩, ⟨bl_⟩⟩
    case round =>
     clear H'; (try clear c1); (try clear p2); (try clear c6); (try clear qW); (try clear IC); (try clear c7); (try clear c10); (try clear c13); (try clear vX vY vZ wh); (try clear qG qH qI qJ); (try clear xZ yc yf yg); (try clear Bi Bj Bl Bn); (try clear p2); obtain ⟨gT, rfl, HA, HK2, pJ, tq, HB⟩ := hrel; cases gk with
     | zero => exact absurd HA.out (by simp [bI.l0])
     | succ k2 =>
      have H := HA.out; clear HA; simp only [bI.l0] at H; by_cases c14 : gT < (kr.length : Int)
      ·rw [if_pos c14] at H; have pz : decide (gT < (kr.length : Int)) = true := decide_eq_true c14; clear c14; by_cases c15 : 0 ≤ gT
       ·rw [if_pos c15] at H; have pU : decide (0 ≤ gT) = true := decide_eq_true c15; clear c15; by_cases c16 : gT < (aI.length : Int)
        ·rw [if_pos c16] at H; have O7 : decide (gT < (aI.length : Int)) = true := decide_eq_true c16; clear c16; replace H := Option.bind_eq_some_iff.mp H; obtain ⟨t458, A170, H⟩ := H; replace H : (if t458 = true then (bI.l0 k2 (wrap64 (gT + 1)) ah kr aX aI) else (some false)) = some r := H; have A17 := aa.mk A170; clear A170; by_cases c18 : t458 = true
         ·subst c18; have H1 : (bI.l0 k2 (wrap64 (gT + 1)) ah kr aX aI) = some r := by rw [if_pos rfl] at H; exact H
          clear H; have H := H1; clear H1; have H' := aa.mk H; clear H; have hnb19 := Io.out; have hnc19 := Ip.out; obtain ⟨xG, xH, xI, xJ⟩ := dm pJ.out; try go_wp2
          replace pJ := aa.mk (aj pJ.out); replace tq := aa.mk (aj tq.out); replace HB := aa.mk (bU HB.out); have p456 : 0 ≤ (gT : Int) := dt_; have q456 : gT < (kr.length : Int) := dt_; obtain ⟨FC, NQ, NR, e456, yD, yE, Mq, Mr⟩ := zt HR0_1.out gT p456 q456; have CQ := yE; have CR := yD; cases e456; replace yD := (HB.out.cell (World.block_lt_of_cell? w _ yD)).trans yD; replace yE := (HB.out.cell (World.block_lt_of_cell? w _ yE)).trans yE; have Ms := aa.mk Mr; have Vm := aa.mk Mq; clear Mr Mq; replace p456 := eq_true p456; replace q456 := eq_true q456; have p457 : 0 ≤ (gT : Int) := dt_; have q457 : gT < (aI.length : Int) := dt_; obtain ⟨FD, NS, NT, e457, yF, yG, Mt, Mv⟩ := zt rO.out gT p457 q457; have CS := yG; have CU := yF; cases e457; replace yF := (HB.out.cell (World.block_lt_of_cell? w _ yF)).trans yF; replace yG := (HB.out.cell (World.block_lt_of_cell? w _ yG)).trans yG; have Mw := aa.mk Mv; have Vn := aa.mk Mt; clear Mv Mt; replace p457 := eq_true p457; replace q457 := eq_true q457; refine lG (n := 12) (S := fun w' => w'.cell? ⟨AL, 0, none⟩ = some (.int .i64 ah) ∧ w'.cell? ⟨AL, 1, none⟩ = some (.slice (some FC) kr.length GD) ∧ w'.cell? ⟨FB, 0, none⟩ = some (.int .i64 aX) ∧ w'.cell? ⟨FB, 1, none⟩ = some (.slice (some FD) aI.length dD) ∧ w'.cell? (FC.add ((gT).toNat * 2)) = some (.int .i64 ((bG kr gT).f0)) ∧ w'.cell? ⟨(FC.add ((gT).toNat * 2)).block, (FC.add ((gT).toNat * 2)).off + 1, none⟩ = some (.slice NQ ((bG kr gT).f1).length NR) ∧ w'.cell? (FD.add ((gT).toNat * 2)) = some (.int .i64 ((bG aI gT).f0)) ∧ w'.cell? ⟨(FD.add ((gT).toNat * 2)).block, (FD.add ((gT).toNat * 2)).off + 1, none⟩ = some (.slice NS ((bG aI gT).f1).length NT)) (ds := []) #[false, false, false, false, false, false, false, false, false, false, false, false] (by kernel_rfl) rfl rfl ⟨(ax pJ.out 0).trans rfl, (ax pJ.out 1).trans rfl, (ax tq.out 0).trans rfl, (ax tq.out 1).trans rfl, ((HB.out.cell (World.block_lt_of_cell? w _ CR)).trans CR), ((HB.out.cell (World.block_lt_of_cell? w _ CQ)).trans CQ), ((HB.out.cell (World.block_lt_of_cell? w _ CU)).trans CU), ((HB.out.cell (World.block_lt_of_cell? w _ CS)).trans CS)⟩ (fun hHeld => ?_); refine ma bI.tab6 bI.bits6 (fun HT_ HW_ => ?_)
          generalize wr.drew = w21 at pJ tq HB Ms Mw yD yE yF yG hHeld ⊢
          refine di (i := 0) (N := some 27) (v := ?_) (a' := ?_) #[true, false, false, false, false, false, false, false, false, false, false, false] rfl rfl (dE HT_.out (by kernel_rfl)) (fun _ _ _ h => h) (Or.inl ⟨by rfl, ?_⟩) ?_ ?_
          rotate_left
          ·intro w'; go_simp; with_reducible rfl
          rotate_left
          ·simp only [Act.put, List.setIfInBounds_toArray, List.set_cons_zero, List.set_cons_succ, bg, bn]; rfl
          refine di (i := 2) (N := some 29) (v := ?_) (a' := ?_) #[true, false, true, false, false, false, false, false, false, false, false, false] rfl rfl (dE HT_.out (by kernel_rfl)) (fun _ _ _ h => h) (Or.inl ⟨by rfl, ?_⟩) ?_ ?_
          rotate_left
          ·intro w'; go_simp; with_reducible rfl
          rotate_left
          ·simp only [Act.put, List.setIfInBounds_toArray, List.set_cons_zero, List.set_cons_succ, bg, bn]; rfl
          refine di (i := 5) (N := some 32) (v := ?_) (a' := ?_) #[true, false, true, false, false, true, false, false, false, false, false, false] rfl rfl (dE HT_.out (by kernel_rfl)) (fun _ _ _ h => h) (Or.inl ⟨by rfl, ?_⟩) ?_ ?_
          rotate_left
          ·intro w'; go_simp; with_reducible rfl
          rotate_left
          ·simp only [Act.put, List.setIfInBounds_toArray, List.set_cons_zero, List.set_cons_succ, bg, bn]; rfl
          refine di (i := 7) (N := some 34) (v := ?_) (a' := ?_) #[true, false, true, false, false, true, false, true, false, false, false, false] rfl rfl (dE HT_.out (by kernel_rfl)) (fun _ _ _ h => h) (Or.inl ⟨by rfl, ?_⟩) ?_ ?_
          rotate_left
          ·intro w'; go_simp; with_reducible rfl
          rotate_left
          ·simp only [Act.put, List.setIfInBounds_toArray, List.set_cons_zero, List.set_cons_succ, bg, bn]; rfl
          refine fJ (i := 1) (N := some 28) (v := ?_) (a' := ?_) #[true, true, true, false, false, true, false, true, false, false, false, false] rfl rfl (eT HT_.out HW_.out (by kernel_rfl)) (fun _ _ _ h => h) (Or.inl ⟨by rfl, ?_⟩) hHeld ?_ ?_
          rotate_left
          ·rintro w' ⟨s0, s1, s2, s3, s4, s5, s6, s7⟩
           go_simp; with_reducible rfl
          rotate_left
          ·simp only [Act.put, List.setIfInBounds_toArray, List.set_cons_zero, List.set_cons_succ, bg, bn]; rfl
          refine di (i := 3) (N := some 30) (v := ?_) (a' := ?_) #[true, true, true, true, false, true, false, true, false, false, false, false] rfl rfl (dE HT_.out (by kernel_rfl)) (fun _ _ _ h => h) (Or.inl ⟨by rfl, ?_⟩) ?_ ?_
          rotate_left
          ·intro w'; go_simp; with_reducible rfl
          rotate_left
          ·simp only [Act.put, List.setIfInBounds_toArray, List.set_cons_zero, List.set_cons_succ, bg, bn]; rfl
          refine fJ (i := 4) (N := some 31) (v := ?_) (a' := ?_) #[true, true, true, true, true, true, false, true, false, false, false, false] rfl rfl (eT HT_.out HW_.out (by kernel_rfl)) (fun _ _ _ h => h) (Or.inl ⟨by rfl, ?_⟩) hHeld ?_ ?_
          rotate_left
          ·rintro w' ⟨s0, s1, s2, s3, s4, s5, s6, s7⟩
           go_simp; with_reducible rfl
          rotate_left
          ·simp only [Act.put, List.setIfInBounds_toArray, List.set_cons_zero, List.set_cons_succ, bg, bn]; rfl
          refine fJ (i := 6) (N := some 33) (v := ?_) (a' := ?_) #[true, true, true, true, true, true, true, true, false, false, false, false] rfl rfl (eT HT_.out HW_.out (by kernel_rfl)) (fun _ _ _ h => h) (Or.inl ⟨by rfl, ?_⟩) hHeld ?_ ?_
          rotate_left
          ·rintro w' ⟨s0, s1, s2, s3, s4, s5, s6, s7⟩
           go_simp; with_reducible rfl
          rotate_left
          ·simp only [Act.put, List.setIfInBounds_toArray, List.set_cons_zero, List.set_cons_succ, bg, bn]; rfl
          refine di (i := 8) (N := some 35) (v := ?_) (a' := ?_) #[true, true, true, true, true, true, true, true, true, false, false, false] rfl rfl (dE HT_.out (by kernel_rfl)) (fun _ _ _ h => h) (Or.inl ⟨by rfl, ?_⟩) ?_ ?_
          rotate_left
          ·intro w'; go_simp; with_reducible rfl
          rotate_left
          ·simp only [Act.put, List.setIfInBounds_toArray, List.set_cons_zero, List.set_cons_succ, bg, bn]; rfl
          refine fJ (i := 9) (N := some 36) (v := ?_) (a' := ?_) #[true, true, true, true, true, true, true, true, true, true, false, false] rfl rfl (eT HT_.out HW_.out (by kernel_rfl)) (fun _ _ _ h => h) (Or.inl ⟨by rfl, ?_⟩) hHeld ?_ ?_
          rotate_left
          ·rintro w' ⟨s0, s1, s2, s3, s4, s5, s6, s7⟩
           go_simp; with_reducible rfl
          rotate_left
          ·simp only [Act.put, List.setIfInBounds_toArray, List.set_cons_zero, List.set_cons_succ, bg, bn]; rfl
          refine oM (i := 10) (N := some 37) #[true, true, true, true, true, true, true, true, true, true, true, false] rfl rfl (jg HT_.out (by kernel_rfl)) (by decide) (fun K hK => ?_)
          refine sV Try.func15 (by kernel_rfl) rfl #[.agg #[.int .i64 ((bG kr gT).f0), .slice NQ ((bG kr gT).f1).length NR], .agg #[.int .i64 ((bG aI gT).f0), .slice NS ((bG aI gT).f1).length NT]] (by rfl) rfl rfl (by (try simp only [List.map_toArray, List.map_cons, List.map_nil]); first | done | rfl | (simp only [List.length_drop, List.length_take]; rfl)) ?_
          with_reducible refine (ih k2 (by have := HJ2.out; have := HK2.out; omega) ((bG kr gT).f0) _ _ ((bG kr gT).f1) ((bG aI gT).f0) _ _ ((bG aI gT).f1) true _ ?aW ?aY ?dH ?dO A17.out).mono ?_
          (case aW => repeat (first | exact (Kd.bT Ms.out HB.out) | (with_reducible refine Kd.bK ?_ _) | (with_reducible refine Kd.bL ?_ _) | (with_reducible refine Kd.bO ?_)))
          (case aY => exact Vm.out)
          (case dH => repeat (first | exact (Kd.bT Mw.out HB.out) | (with_reducible refine Kd.bK ?_ _) | (with_reducible refine Kd.bL ?_ _) | (with_reducible refine Kd.bO ?_)))
          (case dO => exact Vn.out)
          rintro e w22 ⟨rfl, hb⟩
          refine ⟨_, rfl, ?_⟩
          replace pJ := aa.mk (ay (g := AL) (o := .cells #[.int .i64 ah, .slice (some FC) kr.length GD] 31 (0, 0)) bk_ hb); replace tq := aa.mk (ay (g := FB) (o := .cells #[.int .i64 aX, .slice (some FD) aI.length dD] 31 (0, 0)) bk_ hb); replace HB := aa.mk (az bl_ hb); (try clear hb)
          (try clear hb2)
          (try clear hk)
          (try clear hi)
          refine hK.out _ _ ⟨(ax pJ.out 0).trans rfl, (ax pJ.out 1).trans rfl, (ax tq.out 0).trans rfl, (ax tq.out 1).trans rfl, ((HB.out.cell (World.block_lt_of_cell? w _ CR)).trans CR), ((HB.out.cell (World.block_lt_of_cell? w _ CQ)).trans CQ), ((HB.out.cell (World.block_lt_of_cell? w _ CU)).trans CU), ((HB.out.cell (World.block_lt_of_cell? w _ CS)).trans CS)⟩ (fun hHeld => ?_)
          clear hK K; refine lq (a' := ?_) ?_ ?_
          rotate_left
          ·show Act.put _ (some 37) _ = _
           simp only [Act.put, List.setIfInBounds_toArray, List.set_cons_zero, List.set_cons_succ, bg, bn]; rfl
          refine di (i := 11) (N := some 38) (v := ?_) (a' := ?_) #[true, true, true, true, true, true, true, true, true, true, true, true] rfl rfl (dE HT_.out (by kernel_rfl)) (fun _ _ _ h => h) (Or.inl ⟨by rfl, ?_⟩) ?_ ?_
          rotate_left
          ·intro w'; go_simp; with_reducible rfl
          rotate_left
          ·simp only [Act.put, List.setIfInBounds_toArray, List.set_cons_zero, List.set_cons_succ, bg, bn]; rfl
          refine nT (qF HT_.out (by kernel_rfl)) ?_
          try go_wp2
          go_roundg k2
          case measure => have := HJ2.out; have := HK2.out; omega
          case rel => exact ⟨(wrap64 (gT + 1)), rs_, H', ⟨by have := HJ2.out; have := HK2.out; omega⟩, ⟨bk_⟩, ⟨bk_⟩, ⟨bl_⟩⟩
         ·replace c18 := Bool.eq_false_iff.mpr c18; subst c18; have H1 : (some false) = some r := by rw [if_neg (show ¬ (false = true) by decide)] at H; exact H
          clear H; have H := H1; clear H1; obtain rfl := Option.some.inj H; have hnb23 := Io.out; have hnc23 := Ip.out; obtain ⟨xK, xL, xM, xN⟩ := dm pJ.out; try go_wp2
          replace pJ := aa.mk (aj pJ.out); replace tq := aa.mk (aj tq.out); replace HB := aa.mk (bU HB.out); have p456 : 0 ≤ (gT : Int) := dt_; have q456 : gT < (kr.length : Int) := dt_; obtain ⟨FC, NQ, NR, e456, yD, yE, Mq, Mr⟩ := zt HR0_1.out gT p456 q456; have CQ := yE; have CR := yD; cases e456; replace yD := (HB.out.cell (World.block_lt_of_cell? w _ yD)).trans yD; replace yE := (HB.out.cell (World.block_lt_of_cell? w _ yE)).trans yE; have Ms := aa.mk Mr; have Vm := aa.mk Mq; clear Mr Mq; replace p456 := eq_true p456; replace q456 := eq_true q456; have p457 : 0 ≤ (gT : Int) := dt_; have q457 : gT < (aI.length : Int) := dt_; obtain ⟨FD, NS, NT, e457, yF, yG, Mt, Mv⟩ := zt rO.out gT p457 q457; have CS := yG; have CU := yF; cases e457; replace yF := (HB.out.cell (World.block_lt_of_cell? w _ yF)).trans yF; replace yG := (HB.out.cell (World.block_lt_of_cell? w _ yG)).trans yG; have Mw := aa.mk Mv; have Vn := aa.mk Mt; clear Mv Mt; replace p457 := eq_true p457; replace q457 := eq_true q457; refine lG (n := 12) (S := fun w' => w'.cell? ⟨AL, 0, none⟩ = some (.int .i64 ah) ∧ w'.cell? ⟨AL, 1, none⟩ = some (.slice (some FC) kr.length GD) ∧ w'.cell? ⟨FB, 0, none⟩ = some (.int .i64 aX) ∧ w'.cell? ⟨FB, 1, none⟩ = some (.slice (some FD) aI.length dD) ∧ w'.cell? (FC.add ((gT).toNat * 2)) = some (.int .i64 ((bG kr gT).f0)) ∧ w'.cell? ⟨(FC.add ((gT).toNat * 2)).block, (FC.add ((gT).toNat * 2)).off + 1, none⟩ = some (.slice NQ ((bG kr gT).f1).length NR) ∧ w'.cell? (FD.add ((gT).toNat * 2)) = some (.int .i64 ((bG aI gT).f0)) ∧ w'.cell? ⟨(FD.add ((gT).toNat * 2)).block, (FD.add ((gT).toNat * 2)).off + 1, none⟩ = some (.slice NS ((bG aI gT).f1).length NT)) (ds := []) #[false, false, false, false, false, false, false, false, false, false, false, false] (by kernel_rfl) rfl rfl ⟨(ax pJ.out 0).trans rfl, (ax pJ.out 1).trans rfl, (ax tq.out 0).trans rfl, (ax tq.out 1).trans rfl, ((HB.out.cell (World.block_lt_of_cell? w _ CR)).trans CR), ((HB.out.cell (World.block_lt_of_cell? w _ CQ)).trans CQ), ((HB.out.cell (World.block_lt_of_cell? w _ CU)).trans CU), ((HB.out.cell (World.block_lt_of_cell? w _ CS)).trans CS)⟩ (fun hHeld => ?_); refine ma bI.tab6 bI.bits6 (fun HT_ HW_ => ?_)
          generalize wr.drew = w25 at pJ tq HB Ms Mw yD yE yF yG hHeld ⊢
          refine di (i := 0) (N := some 27) (v := ?_) (a' := ?_) #[true, false, false, false, false, false, false, false, false, false, false, false] rfl rfl (dE HT_.out (by kernel_rfl)) (fun _ _ _ h => h) (Or.inl ⟨by rfl, ?_⟩) ?_ ?_
          rotate_left
          ·intro w'; go_simp; with_reducible rfl
          rotate_left
          ·simp only [Act.put, List.setIfInBounds_toArray, List.set_cons_zero, List.set_cons_succ, bg, bn]; rfl
          refine di (i := 2) (N := some 29) (v := ?_) (a' := ?_) #[true, false, true, false, false, false, false, false, false, false, false, false] rfl rfl (dE HT_.out (by kernel_rfl)) (fun _ _ _ h => h) (Or.inl ⟨by rfl, ?_⟩) ?_ ?_
          rotate_left
          ·intro w'; go_simp; with_reducible rfl
          rotate_left
          ·simp only [Act.put, List.setIfInBounds_toArray, List.set_cons_zero, List.set_cons_succ, bg, bn]; rfl
          refine di (i := 5) (N := some 32) (v := ?_) (a' := ?_) #[true, false, true, false, false, true, false, false, false, false, false, false] rfl rfl (dE HT_.out (by kernel_rfl)) (fun _ _ _ h => h) (Or.inl ⟨by rfl, ?_⟩) ?_ ?_
          rotate_left
          ·intro w'; go_simp; with_reducible rfl
          rotate_left
          ·simp only [Act.put, List.setIfInBounds_toArray, List.set_cons_zero, List.set_cons_succ, bg, bn]; rfl
          refine di (i := 7) (N := some 34) (v := ?_) (a' := ?_) #[true, false, true, false, false, true, false, true, false, false, false, false] rfl rfl (dE HT_.out (by kernel_rfl)) (fun _ _ _ h => h) (Or.inl ⟨by rfl, ?_⟩) ?_ ?_
          rotate_left
          ·intro w'; go_simp; with_reducible rfl
          rotate_left
          ·simp only [Act.put, List.setIfInBounds_toArray, List.set_cons_zero, List.set_cons_succ, bg, bn]; rfl
          refine fJ (i := 1) (N := some 28) (v := ?_) (a' := ?_) #[true, true, true, false, false, true, false, true, false, false, false, false] rfl rfl (eT HT_.out HW_.out (by kernel_rfl)) (fun _ _ _ h => h) (Or.inl ⟨by rfl, ?_⟩) hHeld ?_ ?_
          rotate_left
          ·rintro w' ⟨s0, s1, s2, s3, s4, s5, s6, s7⟩
           go_simp; with_reducible rfl
          rotate_left
          ·simp only [Act.put, List.setIfInBounds_toArray, List.set_cons_zero, List.set_cons_succ, bg, bn]; rfl
          refine di (i := 3) (N := some 30) (v := ?_) (a' := ?_) #[true, true, true, true, false, true, false, true, false, false, false, false] rfl rfl (dE HT_.out (by kernel_rfl)) (fun _ _ _ h => h) (Or.inl ⟨by rfl, ?_⟩) ?_ ?_
          rotate_left
          ·intro w'; go_simp; with_reducible rfl
          rotate_left
          ·simp only [Act.put, List.setIfInBounds_toArray, List.set_cons_zero, List.set_cons_succ, bg, bn]; rfl
          refine fJ (i := 4) (N := some 31) (v := ?_) (a' := ?_) #[true, true, true, true, true, true, false, true, false, false, false, false] rfl rfl (eT HT_.out HW_.out (by kernel_rfl)) (fun _ _ _ h => h) (Or.inl ⟨by rfl, ?_⟩) hHeld ?_ ?_
          rotate_left
          ·rintro w' ⟨s0, s1, s2, s3, s4, s5, s6, s7⟩
           go_simp; with_reducible rfl
          rotate_left
          ·simp only [Act.put, List.setIfInBounds_toArray, List.set_cons_zero, List.set_cons_succ, bg, bn]; rfl
          refine fJ (i := 6) (N := some 33) (v := ?_) (a' := ?_) #[true, true, true, true, true, true, true, true, false, false, false, false] rfl rfl (eT HT_.out HW_.out (by kernel_rfl)) (fun _ _ _ h => h) (Or.inl ⟨by rfl, ?_⟩) hHeld ?_ ?_
          rotate_left
          ·rintro w' ⟨s0, s1, s2, s3, s4, s5, s6, s7⟩
           go_simp; with_reducible rfl
          rotate_left
          ·simp only [Act.put, List.setIfInBounds_toArray, List.set_cons_zero, List.set_cons_succ, bg, bn]; rfl
          refine di (i := 8) (N := some 35) (v := ?_) (a' := ?_) #[true, true, true, true, true, true, true, true, true, false, false, false] rfl rfl (dE HT_.out (by kernel_rfl)) (fun _ _ _ h => h) (Or.inl ⟨by rfl, ?_⟩) ?_ ?_
          rotate_left
          ·intro w'; go_simp; with_reducible rfl
          rotate_left
          ·simp only [Act.put, List.setIfInBounds_toArray, List.set_cons_zero, List.set_cons_succ, bg, bn]; rfl
          refine fJ (i := 9) (N := some 36) (v := ?_) (a' := ?_) #[true, true, true, true, true, true, true, true, true, true, false, false] rfl rfl (eT HT_.out HW_.out (by kernel_rfl)) (fun _ _ _ h => h) (Or.inl ⟨by rfl, ?_⟩) hHeld ?_ ?_
          rotate_left
          ·rintro w' ⟨s0, s1, s2, s3, s4, s5, s6, s7⟩
           go_simp; with_reducible rfl
          rotate_left
          ·simp only [Act.put, List.setIfInBounds_toArray, List.set_cons_zero, List.set_cons_succ, bg, bn]; rfl
          refine oM (i := 10) (N := some 37) #[true, true, true, true, true, true, true, true, true, true, true, false] rfl rfl (jg HT_.out (by kernel_rfl)) (by decide) (fun K hK => ?_)
          refine sV Try.func15 (by kernel_rfl) rfl #[.agg #[.int .i64 ((bG kr gT).f0), .slice NQ ((bG kr gT).f1).length NR], .agg #[.int .i64 ((bG aI gT).f0), .slice NS ((bG aI gT).f1).length NT]] (by rfl) rfl rfl (by (try simp only [List.map_toArray, List.map_cons, List.map_nil]); first | done | rfl | (simp only [List.length_drop, List.length_take]; rfl)) ?_
          with_reducible refine (ih k2 (by have := HJ2.out; have := HK2.out; omega) ((bG kr gT).f0) _ _ ((bG kr gT).f1) ((bG aI gT).f0) _ _ ((bG aI gT).f1) false _ ?aW ?aY ?dH ?dO A17.out).mono ?_
          (case aW => repeat (first | exact (Kd.bT Ms.out HB.out) | (with_reducible refine Kd.bK ?_ _) | (with_reducible refine Kd.bL ?_ _) | (with_reducible refine Kd.bO ?_)))
          (case aY => exact Vm.out)
          (case dH => repeat (first | exact (Kd.bT Mw.out HB.out) | (with_reducible refine Kd.bK ?_ _) | (with_reducible refine Kd.bL ?_ _) | (with_reducible refine Kd.bO ?_)))
          (case dO => exact Vn.out)
          rintro e w26 ⟨rfl, hb⟩
          refine ⟨_, rfl, ?_⟩
          replace pJ := aa.mk (ay (g := AL) (o := .cells #[.int .i64 ah, .slice (some FC) kr.length GD] 31 (0, 0)) bk_ hb); replace tq := aa.mk (ay (g := FB) (o := .cells #[.int .i64 aX, .slice (some FD) aI.length dD] 31 (0, 0)) bk_ hb); replace HB := aa.mk (az bl_ hb); (try clear hb)
          (try clear hb2)
          (try clear hk)
          (try clear hi)
          refine hK.out _ _ ⟨(ax pJ.out 0).trans rfl, (ax pJ.out 1).trans rfl, (ax tq.out 0).trans rfl, (ax tq.out 1).trans rfl, ((HB.out.cell (World.block_lt_of_cell? w _ CR)).trans CR), ((HB.out.cell (World.block_lt_of_cell? w _ CQ)).trans CQ), ((HB.out.cell (World.block_lt_of_cell? w _ CU)).trans CU), ((HB.out.cell (World.block_lt_of_cell? w _ CS)).trans CS)⟩ (fun hHeld => ?_)
          clear hK K; refine lq (a' := ?_) ?_ ?_
          rotate_left
          ·show Act.put _ (some 37) _ = _
           simp only [Act.put, List.setIfInBounds_toArray, List.set_cons_zero, List.set_cons_succ, bg, bn]; rfl
          refine di (i := 11) (N := some 38) (v := ?_) (a' := ?_) #[true, true, true, true, true, true, true, true, true, true, true, true] rfl rfl (dE HT_.out (by kernel_rfl)) (fun _ _ _ h => h) (Or.inl ⟨by rfl, ?_⟩) ?_ ?_
          rotate_left
          ·intro w'; go_simp; with_reducible rfl
          rotate_left
          ·simp only [Act.put, List.setIfInBounds_toArray, List.set_cons_zero, List.set_cons_succ, bg, bn]; rfl
          refine nT (qF HT_.out (by kernel_rfl)) ?_
          try go_wp2
          go_ret; exact ⟨re_, bl_⟩
        ·rw [if_neg c16] at H; exact absurd H (by simp)
       ·rw [if_neg c15] at H; exact absurd H (by simp)
      ·rw [if_neg c14] at H; have pz : decide (gT < (kr.length : Int)) = false := decide_eq_false c14; clear c14; obtain rfl := Option.some.inj H; have O8 := Io.out; have O9 := Ip.out; obtain ⟨lH, lI, lJ, lK⟩ := dm pJ.out; go_wp2; go_ret; exact ⟨re_, bl_⟩
end Go.Proofs.Ytggelekooacmnaa.Q
