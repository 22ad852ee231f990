/- Lemmas for: sP -/
import Derived.Test.YtggelekooacmnaaDoorTr2
import Derived.Test.YtggelekooacmnaaDoorTr3
import Derived.Test.YtggelekooacmnaaDoorTr4
namespace Go.Proofs.YtggelekooacmnaaDoor.Q
open Go.RowKit Go.Proofs.YtggelekooacmnaaDoorW.aU Go.Proofs.YtggelekooacmnaaDoorW.bD Go.Proofs.YtggelekooacmnaaDoorW.bH
attribute [local go_sem] dB dC dN dO cO cZ dD dE   -- for this text's walks alone
set_option linter.unusedVariables false
set_option linter.unusedSimpArgs false

/-! ### bB: function 7 -/
def bB.j0 : Nat → Bool → Int → Int → Int → Int → List (S24) → Int → Int → Int → Int → List (S24) → Option (Bool)
 | 0, _, _, _, _, _, _, _, _, _, _, _ => none
 | k + 1, x12, FO, FP, FQ, FR, FT, RQ, RS, RU, RV, RX => if x12 = true then ((dP.f k).bind fun t727 => (some t727)) else ((aV.f k FO FP FQ FR FT).bind fun t728 => (if t728 = true then ((gz.f FO FP FQ FR FT RQ RS RU RV RX).bind fun vw => ((aJ.f k FO FP FQ FR FT RQ RS RU RV RX).bind fun vz => (if (vw == vz) = true then ((gz.f FO FP FQ FR FT FO FP FQ FR FT).bind fun t731 => (if t731 = true then ((dP.f k).bind fun t732 => (some t732)) else (some false))) else (some false)))) else (some false)))
def bB.f (k : Nat) (ah : Int) (au : Int) (aj : Int) (ak : Int) (af : List (S24)) (fD : Int) (fE : Int) (fF : Int) (fG : Int) (dI : List (S24)) : Option (Bool) := (bW.f k ah au aj ak af).bind fun t725 => (if t725 > 100 then (bB.j0 k true ah au aj ak af fD fE fF fG dI) else ((bW.f k fD fE fF fG dI).bind fun t726 => (bB.j0 k (decide (t726 > 100)) ah au aj ak af fD fE fF fG dI)))
def bB.T3 : Bool × List (List Nat × List Nat) := (true, [([], []), ([0], [0]), ([1, 1], [1]), ([2], [2]), ([2], [2]), ([3, 4, 2, 2], [2, 3, 4]), ([2], [2]), ([2], [2]), ([6, 7, 5, 2], [2, 6, 7]), ([5, 8, 2], [2, 5, 8]), ([2, 9], [2, 9]), ([10, 8], [10]), ([11], [11]), ([11], [11]), ([12, 13, 11, 11], [11, 12, 13]), ([11, 14], [11, 14]), ([15, 14], [15]), ([16, 16], [16]), ([16, 17], [16, 17]), ([18, 17, 0, 1, 2, 3, 4, 5, 6, 7, 8, 9, 10, 11, 12, 13, 14, 15, 16, 17, 18], [18])])
def bB.B3 : List Nat := [0, 1, 3, 7, 7, 31, 7, 7, 255, 511, 1023, 2047, 4095, 4095, 16383, 32767, 65535, 131071, 262143, 524287]
theorem bB.tab3 : jG .any (opsOf Tryd.f7 3) = bB.T3 := by kernel_rfl
theorem bB.Eo : mo bB.T3.2 bB.B3 = true := by kernel_rfl
set_option maxHeartbeats 8000000 in
set_option maxRecDepth 100000 in
theorem bB.calls (k : Nat) (ah : Int) (au : Int) (aj : Int) (ak : Int) (aM : Option Addr) (aH : Nat) (af : List (S24)) (fD : Int) (fE : Int) (fF : Int) (fG : Int) (si : Option Addr) (oO : Nat) (dI : List (S24)) (r : Bool) (w : World) (di : Kd.C k24 w aM af.length af) (dm : af.length ≤ aH) (IG : Kd.C k24 w si dI.length dI) (II : dI.length ≤ oO) (h : bB.f k ah au aj ak af fD fE fF fG dI = some r) (htab : qO w.heap.size w) :
  Calls Tryd.prog 7 #[.agg #[.int .i64 ah, .int .i64 au, .int .i64 aj, .int .i64 ak, .slice aM af.length aH], .agg #[.int .i64 fD, .int .i64 fE, .int .i64 fF, .int .i64 fG, .slice si dI.length oO]] w fun e w' => e = .returned (.bool r) ∧ Below w.heap.size w w' := by
 have oM := aa.mk htab; clear htab; have mg := Tryd.underlying24; have bu := aa.mk di; have bU := aa.mk dm; clear di dm; have Bh := aa.mk IG; have Eg := aa.mk II; clear IG II; have HB := aa.mk (Below.refl w.heap.size w); have H : ((bW.f k ah au aj ak af).bind fun t725 => (if t725 > 100 then (bB.j0 k true ah au aj ak af fD fE fF fG dI) else ((bW.f k fD fE fF fG dI).bind fun t726 => (bB.j0 k (decide (t726 > 100)) ah au aj ak af fD fE fF fG dI)))) = some r := h; clear h; have HC3 := aa.mk H; clear H; go_enter Tryd.func7, Tryd.ntmps7; go_upto_region 1 with (first | ((with_reducible refine aW (N := 2) rfl ?_); refine bf ?hg (N := 2) ?hd (cs := #[.int .i64 ah, .int .i64 au, .int .i64 aj, .int .i64 ak, .slice aM af.length aH]) (t := 24) ?hr ?_; (case hd => rfl); (case hg => rfl); (case hr => first | (go_simp; done) | (go_simp; rfl)); intro kU hg w4 aG hb; have bF := aa.mk (aG); have GW723 : aa (w.heap.size ≤ kU) := gw_ hg (ax bl_); have GE723 := GW723; replace HB := aa.mk (ai bl_ hb); clear hb aG hg) | ((with_reducible refine aW (N := 3) rfl ?_); refine bf ?hg (N := 3) ?hd (cs := #[.int .i64 fD, .int .i64 fE, .int .i64 fF, .int .i64 fG, .slice si dI.length oO]) (t := 24) ?hr ?_; (case hd => rfl); (case hg => rfl); (case hr => first | (go_simp; done) | (go_simp; rfl)); intro qD hg w5 aG hb; have bN := aa.mk (aG); have GW724 : aa (w.heap.size ≤ qD) := gw_ hg (ax bl_); have GE724 := GW724; have N7 := nl_ bF hg; have N8 := ng_ bF hg; replace bF := kb_ bF hb; replace HB := aa.mk (ai bl_ hb); clear hb aG hg))
 (try simp only [Act.put, List.setIfInBounds_toArray, List.set_cons_zero, List.set_cons_succ])
 go_cut [12] (fun v12 wc => ∃ (kq : Nat) (nM : Bool), v12 = .bool nM ∧ aa (bB.j0 kq nM ah au aj ak af fD fE fF fG dI = some r) ∧ aa (kq ≤ k) ∧ aa (wc.heap[kU]? = some (.cells #[.int .i64 ah, .int .i64 au, .int .i64 aj, .int .i64 ak, (.slice aM af.length aH)] 24 (0, 0))) ∧ aa (wc.heap[qD]? = some (.cells #[.int .i64 fD, .int .i64 fE, .int .i64 fF, .int .i64 fG, (.slice si dI.length oO)] 24 (0, 0))) ∧ aa (Below w.heap.size w wc))
 case first =>
  have H := HC3.out; clear HC3; replace H := Option.bind_eq_some_iff.mp H; obtain ⟨t725, A60, H⟩ := H; (try dsimp only at H)
  have A6 := aa.mk A60; clear A60; by_cases c7 : t725 > 100
  ·rw [if_pos c7] at H; have jM : decide (100 < t725) = true := decide_eq_true c7; clear c7; (first | rw [jM] | (simp only [dS, ek]; rw [jM]) | skip)
   have H' := aa.mk H; clear H; have hnb8 := N7.out; have hnc8 := N8.out; obtain ⟨tC, tF, tH, uZ, u6, tJ, tK, tL, u7, vk⟩ := bg bF.out; go_wp2_with (first | ((with_reducible refine aD (f := 25) rfl ?_); refine aZ (some 6) rfl rfl Tryd.func25 (by kernel_rfl) rfl #[.agg #[.int .i64 ah, .int .i64 au, .int .i64 aj, .int .i64 ak, .slice aM af.length aH]] rfl mp_ ?_; (with_reducible refine (bW.calls k ah au aj ak _ _ af t725 _ ?az ?aA A6.out).mono ?_); (case az => exact cb_ (Kd.aK bu.out HB.out)); (case aA => exact bU.out); rintro e w10 ⟨rfl, hb⟩; refine ⟨_, rfl, ?_⟩; replace bF := kb_ bF hb; replace bN := kb_ bN hb; replace HB := aa.mk (ai bl_ hb); (try clear hb); (try clear hb2); (try clear hk); (try clear hi)))
   go_meet
   case rel => exact ⟨_, (true), rs_, H', ⟨by first | omega | exact Nat.le_refl _⟩, ⟨bk_⟩, ⟨bk_⟩, ⟨bl_⟩⟩
  ·rw [if_neg c7] at H; have jM : decide (100 < t725) = false := decide_eq_false c7; clear c7; (first | rw [jM] | (simp only [dS, ek]; rw [jM]) | skip)
   replace H := Option.bind_eq_some_iff.mp H; obtain ⟨t726, A110, H⟩ := H; (try dsimp only at H)
   have A11 := aa.mk A110; clear A110; have H' := aa.mk H; clear H; have hnb12 := N7.out; have hnc12 := N8.out; obtain ⟨nU, nV, nW, oZ, o5, nX, nY, nZ, o6, o7⟩ := bg bF.out; go_wp2_with (first | ((with_reducible refine aD (f := 25) rfl ?_); refine aZ (some 6) rfl rfl Tryd.func25 (by kernel_rfl) rfl #[.agg #[.int .i64 ah, .int .i64 au, .int .i64 aj, .int .i64 ak, .slice aM af.length aH]] rfl mp_ ?_; (with_reducible refine (bW.calls k ah au aj ak _ _ af t725 _ ?az ?aA A6.out).mono ?_); (case az => exact cb_ (Kd.aK bu.out HB.out)); (case aA => exact bU.out); rintro e w14 ⟨rfl, hb⟩; refine ⟨_, rfl, ?_⟩; replace bF := kb_ bF hb; replace bN := kb_ bN hb; replace HB := aa.mk (ai bl_ hb); (try clear hb); (try clear hb2); (try clear hk); (try clear hi); obtain ⟨nA, nC, nD, qb, qc, nE, nG, nH, qd, qf⟩ := bg bN.out) | (go_at_call 25; (with_reducible refine (bW.calls k fD fE fF fG _ _ dI t726 _ ?az ?aA A11.out).mono ?_); (case az => exact cb_ (Kd.aK Bh.out HB.out)); (case aA => exact Eg.out); rintro e w16 ⟨rfl, hb⟩; replace bF := kb_ bF hb; replace bN := kb_ bN hb; replace HB := aa.mk (ai bl_ hb); (try clear hb); (try clear hb2); (try clear hk); (try clear hi)))
   go_meet
   case rel => exact ⟨_, (decide (t726 > 100)), rs_, H', ⟨by first | omega | exact Nat.le_refl _⟩, ⟨bk_⟩, ⟨bk_⟩, ⟨bl_⟩⟩
 case rest =>
  clear HC3; (try clear c1); (try clear c2); (try clear p2); (try clear c7); (try clear jM); (try clear c8); (try clear c12); (try clear nU nV nW oZ o5 nX nY nZ o6 o7); (try clear nA nC nD qb qc nE nG nH qd qf); (try clear tC tF tH uZ u6 tJ tK tL u7 vk); obtain ⟨kq, nM, rfl, HA, HJ2, bF, bN, HB⟩ := hcut; cases kq with
  | zero => exact absurd HA.out (by simp [bB.j0])
  | succ kj2 =>
   have H := HA.out; clear HA; simp only [bB.j0] at H; by_cases c17 : nM = true
   ·subst c17; have H1 : ((dP.f kj2).bind fun t727 => (some t727)) = some r := by rw [if_pos rfl] at H; exact H
    clear H; have H := H1; clear H1; replace H := Option.bind_eq_some_iff.mp H; obtain ⟨t727, A180, H⟩ := H; (try dsimp only at H)
    have A18 := aa.mk A180; clear A180; obtain rfl := Option.some.inj H; go_wp2_with (first | ((with_reducible refine aD (f := 13) rfl ?_); refine aZ (some 13) rfl rfl Tryd.func13 (by kernel_rfl) rfl #[] rfl mp_ ?_; (with_reducible refine (dP.calls kj2  t727 _ A18.out ?tab).mono ?_); (case tab => exact uI oM.out bl_); rintro e w19 ⟨rfl, hb⟩; refine ⟨_, rfl, ?_⟩; replace bF := kb_ bF hb; replace bN := kb_ bN hb; replace HB := aa.mk (ai bl_ hb); (try clear hb); (try clear hb2); (try clear hk); (try clear hi)))
    go_ret; exact ⟨re_, bl_⟩
   ·replace c17 := Bool.eq_false_iff.mpr c17; subst c17; have H1 : ((aV.f kj2 ah au aj ak af).bind fun t728 => (if t728 = true then ((gz.f ah au aj ak af fD fE fF fG dI).bind fun vw => ((aJ.f kj2 ah au aj ak af fD fE fF fG dI).bind fun vz => (if (vw == vz) = true then ((gz.f ah au aj ak af ah au aj ak af).bind fun t731 => (if t731 = true then ((dP.f kj2).bind fun t732 => (some t732)) else (some false))) else (some false)))) else (some false))) = some r := by rw [if_neg (show ¬ (false = true) by decide)] at H; exact H
    clear H; have H := H1; clear H1; replace H := Option.bind_eq_some_iff.mp H; obtain ⟨t728, A200, H⟩ := H; (try dsimp only at H)
    have A20 := aa.mk A200; clear A200; by_cases c21 : t728 = true
    ·subst c21; have H1 : ((gz.f ah au aj ak af fD fE fF fG dI).bind fun vw => ((aJ.f kj2 ah au aj ak af fD fE fF fG dI).bind fun vz => (if (vw == vz) = true then ((gz.f ah au aj ak af ah au aj ak af).bind fun t731 => (if t731 = true then ((dP.f kj2).bind fun t732 => (some t732)) else (some false))) else (some false)))) = some r := by rw [if_pos rfl] at H; exact H
     clear H; have H := H1; clear H1; replace H := Option.bind_eq_some_iff.mp H; obtain ⟨vw, A220, H⟩ := H; (try dsimp only at H)
     have A22 := aa.mk A220; clear A220; replace H := Option.bind_eq_some_iff.mp H; obtain ⟨vz, A230, H⟩ := H; (try dsimp only at H)
     have A23 := aa.mk A230; clear A230; by_cases c24 : (vw == vz) = true
     ·rw [if_pos c24] at H; have qG : (vw == vz) = true := c24; (try (have F3 : decide (vw = vz) = true := by simpa using c24))
      (try (have c24b2 : (vw == vz) = true := by simpa using c24))
      clear c24; replace H := Option.bind_eq_some_iff.mp H; obtain ⟨t731, A250, H⟩ := H; (try dsimp only at H)
      have A25 := aa.mk A250; clear A250; by_cases c26 : t731 = true
      ·subst c26; have H1 : ((dP.f kj2).bind fun t732 => (some t732)) = some r := by rw [if_pos rfl] at H; exact H
       clear H; have H := H1; clear H1; replace H := Option.bind_eq_some_iff.mp H; obtain ⟨t732, A270, H⟩ := H; (try dsimp only at H)
       have A27 := aa.mk A270; clear A270; obtain rfl := Option.some.inj H; try go_wp2
       replace bF := aa.mk (dz bF.out); replace bN := aa.mk (dz bN.out); replace HB := aa.mk (bR HB.out); refine oG (n := 20) (S := fun w' => w'.cell? ⟨kU, 0, none⟩ = some (.int .i64 ah) ∧ w'.cell? ⟨kU, 1, none⟩ = some (.int .i64 au) ∧ w'.cell? ⟨kU, 2, none⟩ = some (.int .i64 aj) ∧ w'.cell? ⟨kU, 3, none⟩ = some (.int .i64 ak) ∧ w'.cell? ⟨kU, 4, none⟩ = some (.slice aM af.length aH) ∧ w'.cell? ⟨qD, 0, none⟩ = some (.int .i64 fD) ∧ w'.cell? ⟨qD, 1, none⟩ = some (.int .i64 fE) ∧ w'.cell? ⟨qD, 2, none⟩ = some (.int .i64 fF) ∧ w'.cell? ⟨qD, 3, none⟩ = some (.int .i64 fG) ∧ w'.cell? ⟨qD, 4, none⟩ = some (.slice si dI.length oO)) (ds := []) #[false, false, false, false, false, false, false, false, false, false, false, false, false, false, false, false, false, false, false, false] (by kernel_rfl) rfl rfl ⟨(av bF.out 0).trans rfl, (av bF.out 1).trans rfl, (av bF.out 2).trans rfl, (av bF.out 3).trans rfl, (av bF.out 4).trans rfl, (av bN.out 0).trans rfl, (av bN.out 1).trans rfl, (av bN.out 2).trans rfl, (av bN.out 3).trans rfl, (av bN.out 4).trans rfl⟩ (fun hHeld => ?_); refine iV bB.tab3 bB.Eo (fun HT_ HW_ => ?_)
       generalize wc.drew = w28 at bF bN HB hHeld ⊢
       refine ta_ HT_ HW_ 0 14 (bm 20 1) hHeld ?_
       refine kQ (i := 1) (N := some 15) #[true, true, false, false, false, false, false, false, false, false, false, false, false, false, false, false, false, false, false, false] rfl rfl (gK HT_.out (by kernel_rfl)) (by decide) (fun K hK => ?_)
       refine iU Tryd.func26 (by kernel_rfl) rfl #[.agg #[.int .i64 ah, .int .i64 au, .int .i64 aj, .int .i64 ak, .slice aM af.length aH]] (by rfl) rfl rfl mp_ ?_
       with_reducible refine (aV.calls kj2 ah au aj ak _ _ af true _ ?az ?aA A20.out ?tab).mono ?_
       (case tab => exact uI oM.out bl_)
       (case az => exact cb_ (Kd.aK bu.out HB.out))
       (case aA => exact bU.out)
       rintro e w29 ⟨rfl, hb⟩
       refine ⟨_, rfl, ?_⟩
       replace bF := kb_ bF hb; replace bN := kb_ bN hb; replace HB := aa.mk (ai bl_ hb); (try clear hb)
       (try clear hb2)
       (try clear hk)
       (try clear hi)
       refine hK.out _ _ ⟨(av bF.out 0).trans rfl, (av bF.out 1).trans rfl, (av bF.out 2).trans rfl, (av bF.out 3).trans rfl, (av bF.out 4).trans rfl, (av bN.out 0).trans rfl, (av bN.out 1).trans rfl, (av bN.out 2).trans rfl, (av bN.out 3).trans rfl, (av bN.out 4).trans rfl⟩ (fun hHeld => ?_)
       clear hK K; refine iT (a' := ?_) ?_ ?_
       rotate_left
       ·show Act.put _ (some 15) _ = _
        simp only [Act.put, List.setIfInBounds_toArray, List.set_cons_zero, List.set_cons_succ, dS, ek]; rfl
       refine pu_ HT_ 2 16 (bm 20 7) ?_
       refine ta_ HT_ HW_ 3 17 (bm 20 15) hHeld ?_
       refine ta_ HT_ HW_ 4 18 (bm 20 31) hHeld ?_
       refine ta_ HT_ HW_ 6 20 (bm 20 95) hHeld ?_
       refine ta_ HT_ HW_ 7 21 (bm 20 223) hHeld ?_
       refine kQ (i := 5) (N := some 19) #[true, true, true, true, true, true, true, true, false, false, false, false, false, false, false, false, false, false, false, false] rfl rfl (gK HT_.out (by kernel_rfl)) (by decide) (fun K hK => ?_)
       refine iU Tryd.func23 (by kernel_rfl) rfl #[.agg #[.int .i64 ah, .int .i64 au, .int .i64 aj, .int .i64 ak, .slice aM af.length aH], .agg #[.int .i64 fD, .int .i64 fE, .int .i64 fF, .int .i64 fG, .slice si dI.length oO]] (by rfl) rfl rfl mp_ ?_
       with_reducible refine (gz.calls ah au aj ak _ _ af fD fE fF fG _ _ dI vw _ ?az ?aA ?eH ?eO A22.out).mono ?_
       (case az => exact cb_ (Kd.aK bu.out HB.out))
       (case aA => exact bU.out)
       (case eH => exact cb_ (Kd.aK Bh.out HB.out))
       (case eO => exact Eg.out)
       rintro e w30 ⟨rfl, hb⟩
       refine ⟨_, rfl, ?_⟩
       replace bF := kb_ bF hb; replace bN := kb_ bN hb; replace HB := aa.mk (ai bl_ hb); (try clear hb)
       (try clear hb2)
       (try clear hk)
       (try clear hi)
       refine hK.out _ _ ⟨(av bF.out 0).trans rfl, (av bF.out 1).trans rfl, (av bF.out 2).trans rfl, (av bF.out 3).trans rfl, (av bF.out 4).trans rfl, (av bN.out 0).trans rfl, (av bN.out 1).trans rfl, (av bN.out 2).trans rfl, (av bN.out 3).trans rfl, (av bN.out 4).trans rfl⟩ (fun hHeld => ?_)
       clear hK K; refine iT (a' := ?_) ?_ ?_
       rotate_left
       ·show Act.put _ (some 19) _ = _
        simp only [Act.put, List.setIfInBounds_toArray, List.set_cons_zero, List.set_cons_succ, dS, ek]; rfl
       refine kQ (i := 8) (N := some 22) #[true, true, true, true, true, true, true, true, true, false, false, false, false, false, false, false, false, false, false, false] rfl rfl (gK HT_.out (by kernel_rfl)) (by decide) (fun K hK => ?_)
       refine iU Tryd.func24 (by kernel_rfl) rfl #[.agg #[.int .i64 ah, .int .i64 au, .int .i64 aj, .int .i64 ak, .slice aM af.length aH], .agg #[.int .i64 fD, .int .i64 fE, .int .i64 fF, .int .i64 fG, .slice si dI.length oO]] (by rfl) rfl rfl mp_ ?_
       with_reducible refine (aJ.calls kj2 ah au aj ak _ _ af fD fE fF fG _ _ dI vz _ ?az ?aA ?eH ?eO A23.out).mono ?_
       (case az => exact cb_ (Kd.aK bu.out HB.out))
       (case aA => exact bU.out)
       (case eH => exact cb_ (Kd.aK Bh.out HB.out))
       (case eO => exact Eg.out)
       rintro e w31 ⟨rfl, hb⟩
       refine ⟨_, rfl, ?_⟩
       replace bF := kb_ bF hb; replace bN := kb_ bN hb; replace HB := aa.mk (ai bl_ hb); (try clear hb)
       (try clear hb2)
       (try clear hk)
       (try clear hi)
       refine hK.out _ _ ⟨(av bF.out 0).trans rfl, (av bF.out 1).trans rfl, (av bF.out 2).trans rfl, (av bF.out 3).trans rfl, (av bF.out 4).trans rfl, (av bN.out 0).trans rfl, (av bN.out 1).trans rfl, (av bN.out 2).trans rfl, (av bN.out 3).trans rfl, (av bN.out 4).trans rfl⟩ (fun hHeld => ?_)
       clear hK K; refine iT (a' := ?_) ?_ ?_
       rotate_left
       ·show Act.put _ (some 22) _ = _
        simp only [Act.put, List.setIfInBounds_toArray, List.set_cons_zero, List.set_cons_succ, dS, ek]; rfl
       refine pu_ HT_ 9 23 (bm 20 1023) ?_
       refine pu_ HT_ 10 24 (bm 20 2047) ?_
       refine pu_ HT_ 11 25 (bm 20 4095) ?_
       refine ta_ HT_ HW_ 12 26 (bm 20 8191) hHeld ?_
       refine ta_ HT_ HW_ 13 27 (bm 20 16383) hHeld ?_
       refine kQ (i := 14) (N := some 28) #[true, true, true, true, true, true, true, true, true, true, true, true, true, true, true, false, false, false, false, false] rfl rfl (gK HT_.out (by kernel_rfl)) (by decide) (fun K hK => ?_)
       refine iU Tryd.func23 (by kernel_rfl) rfl #[.agg #[.int .i64 ah, .int .i64 au, .int .i64 aj, .int .i64 ak, .slice aM af.length aH], .agg #[.int .i64 ah, .int .i64 au, .int .i64 aj, .int .i64 ak, .slice aM af.length aH]] (by rfl) rfl rfl mp_ ?_
       with_reducible refine (gz.calls ah au aj ak _ _ af ah au aj ak _ _ af true _ ?az ?aA ?eH ?eO A25.out).mono ?_
       (case az => exact cb_ (Kd.aK bu.out HB.out))
       (case aA => exact bU.out)
       (case eH => exact cb_ (Kd.aK bu.out HB.out))
       (case eO => exact bU.out)
       rintro e w32 ⟨rfl, hb⟩
       refine ⟨_, rfl, ?_⟩
       replace bF := kb_ bF hb; replace bN := kb_ bN hb; replace HB := aa.mk (ai bl_ hb); (try clear hb)
       (try clear hb2)
       (try clear hk)
       (try clear hi)
       refine hK.out _ _ ⟨(av bF.out 0).trans rfl, (av bF.out 1).trans rfl, (av bF.out 2).trans rfl, (av bF.out 3).trans rfl, (av bF.out 4).trans rfl, (av bN.out 0).trans rfl, (av bN.out 1).trans rfl, (av bN.out 2).trans rfl, (av bN.out 3).trans rfl, (av bN.out 4).trans rfl⟩ (fun hHeld => ?_)
       clear hK K; refine iT (a' := ?_) ?_ ?_
       rotate_left
       ·show Act.put _ (some 28) _ = _
        simp only [Act.put, List.setIfInBounds_toArray, List.set_cons_zero, List.set_cons_succ, dS, ek]; rfl
       refine pu_ HT_ 15 29 (bm 20 65535) ?_
       refine pu_ HT_ 16 30 (bm 20 131071) ?_
       refine kQ (i := 17) (N := some 31) #[true, true, true, true, true, true, true, true, true, true, true, true, true, true, true, true, true, true, false, false] rfl rfl (gK HT_.out (by kernel_rfl)) (by decide) (fun K hK => ?_)
       refine iU Tryd.func13 (by kernel_rfl) rfl #[] (by rfl) rfl rfl mp_ ?_
       with_reducible refine (dP.calls kj2  t732 _ A27.out ?tab).mono ?_
       (case tab => exact uI oM.out bl_)
       rintro e w33 ⟨rfl, hb⟩
       refine ⟨_, rfl, ?_⟩
       replace bF := kb_ bF hb; replace bN := kb_ bN hb; replace HB := aa.mk (ai bl_ hb); (try clear hb)
       (try clear hb2)
       (try clear hk)
       (try clear hi)
       refine hK.out _ _ ⟨(av bF.out 0).trans rfl, (av bF.out 1).trans rfl, (av bF.out 2).trans rfl, (av bF.out 3).trans rfl, (av bF.out 4).trans rfl, (av bN.out 0).trans rfl, (av bN.out 1).trans rfl, (av bN.out 2).trans rfl, (av bN.out 3).trans rfl, (av bN.out 4).trans rfl⟩ (fun hHeld => ?_)
       clear hK K; refine iT (a' := ?_) ?_ ?_
       rotate_left
       ·show Act.put _ (some 31) _ = _
        simp only [Act.put, List.setIfInBounds_toArray, List.set_cons_zero, List.set_cons_succ, dS, ek]; rfl
       refine pu_ HT_ 18 32 (bm 20 524287) ?_
       refine pu_ HT_ 19 4 #[true, true, true, true, true, true, true, true, true, true, true, true, true, true, true, true, true, true, true, true] ?_
       refine sS (lC HT_.out (by kernel_rfl)) ?_
       try go_wp2
       go_ret; exact ⟨re_, bl_⟩
      ·replace c26 := Bool.eq_false_iff.mpr c26; subst c26; have H1 : (some false) = some r := by rw [if_neg (show ¬ (false = true) by decide)] at H; exact H
       clear H; have H := H1; clear H1; obtain rfl := Option.some.inj H; try go_wp2
       replace bF := aa.mk (dz bF.out); replace bN := aa.mk (dz bN.out); replace HB := aa.mk (bR HB.out); refine oG (n := 20) (S := fun w' => w'.cell? ⟨kU, 0, none⟩ = some (.int .i64 ah) ∧ w'.cell? ⟨kU, 1, none⟩ = some (.int .i64 au) ∧ w'.cell? ⟨kU, 2, none⟩ = some (.int .i64 aj) ∧ w'.cell? ⟨kU, 3, none⟩ = some (.int .i64 ak) ∧ w'.cell? ⟨kU, 4, none⟩ = some (.slice aM af.length aH) ∧ w'.cell? ⟨qD, 0, none⟩ = some (.int .i64 fD) ∧ w'.cell? ⟨qD, 1, none⟩ = some (.int .i64 fE) ∧ w'.cell? ⟨qD, 2, none⟩ = some (.int .i64 fF) ∧ w'.cell? ⟨qD, 3, none⟩ = some (.int .i64 fG) ∧ w'.cell? ⟨qD, 4, none⟩ = some (.slice si dI.length oO)) (ds := []) #[false, false, false, false, false, false, false, false, false, false, false, false, false, false, false, false, false, false, false, false] (by kernel_rfl) rfl rfl ⟨(av bF.out 0).trans rfl, (av bF.out 1).trans rfl, (av bF.out 2).trans rfl, (av bF.out 3).trans rfl, (av bF.out 4).trans rfl, (av bN.out 0).trans rfl, (av bN.out 1).trans rfl, (av bN.out 2).trans rfl, (av bN.out 3).trans rfl, (av bN.out 4).trans rfl⟩ (fun hHeld => ?_); refine iV bB.tab3 bB.Eo (fun HT_ HW_ => ?_)
       generalize wc.drew = w34 at bF bN HB hHeld ⊢
       refine ta_ HT_ HW_ 0 14 (bm 20 1) hHeld ?_
       refine kQ (i := 1) (N := some 15) #[true, true, false, false, false, false, false, false, false, false, false, false, false, false, false, false, false, false, false, false] rfl rfl (gK HT_.out (by kernel_rfl)) (by decide) (fun K hK => ?_)
       refine iU Tryd.func26 (by kernel_rfl) rfl #[.agg #[.int .i64 ah, .int .i64 au, .int .i64 aj, .int .i64 ak, .slice aM af.length aH]] (by rfl) rfl rfl mp_ ?_
       with_reducible refine (aV.calls kj2 ah au aj ak _ _ af true _ ?az ?aA A20.out ?tab).mono ?_
       (case tab => exact uI oM.out bl_)
       (case az => exact cb_ (Kd.aK bu.out HB.out))
       (case aA => exact bU.out)
       rintro e w35 ⟨rfl, hb⟩
       refine ⟨_, rfl, ?_⟩
       replace bF := kb_ bF hb; replace bN := kb_ bN hb; replace HB := aa.mk (ai bl_ hb); (try clear hb)
       (try clear hb2)
       (try clear hk)
       (try clear hi)
       refine hK.out _ _ ⟨(av bF.out 0).trans rfl, (av bF.out 1).trans rfl, (av bF.out 2).trans rfl, (av bF.out 3).trans rfl, (av bF.out 4).trans rfl, (av bN.out 0).trans rfl, (av bN.out 1).trans rfl, (av bN.out 2).trans rfl, (av bN.out 3).trans rfl, (av bN.out 4).trans rfl⟩ (fun hHeld => ?_)
       clear hK K; refine iT (a' := ?_) ?_ ?_
       rotate_left
       ·show Act.put _ (some 15) _ = _
        simp only [Act.put, List.setIfInBounds_toArray, List.set_cons_zero, List.set_cons_succ, dS, ek]; rfl
       refine pu_ HT_ 2 16 (bm 20 7) ?_
       refine ta_ HT_ HW_ 3 17 (bm 20 15) hHeld ?_
       refine ta_ HT_ HW_ 4 18 (bm 20 31) hHeld ?_
       refine ta_ HT_ HW_ 6 20 (bm 20 95) hHeld ?_
       refine ta_ HT_ HW_ 7 21 (bm 20 223) hHeld ?_
       refine kQ (i := 5) (N := some 19) #[true, true, true, true, true, true, true, true, false, false, false, false, false, false, false, false, false, false, false, false] rfl rfl (gK HT_.out (by kernel_rfl)) (by decide) (fun K hK => ?_)
       refine iU Tryd.func23 (by kernel_rfl) rfl #[.agg #[.int .i64 ah, .int .i64 au, .int .i64 aj, .int .i64 ak, .slice aM af.length aH], .agg #[.int .i64 fD, .int .i64 fE, .int .i64 fF, .int .i64 fG, .slice si dI.length oO]] (by rfl) rfl rfl mp_ ?_
       with_reducible refine (gz.calls ah au aj ak _ _ af fD fE fF fG _ _ dI vw _ ?az ?aA ?eH ?eO A22.out).mono ?_
       (case az => exact cb_ (Kd.aK bu.out HB.out))
       (case aA => exact bU.out)
       (case eH => exact cb_ (Kd.aK Bh.out HB.out))
       (case eO => exact Eg.out)
       rintro e w36 ⟨rfl, hb⟩
       refine ⟨_, rfl, ?_⟩
       replace bF := kb_ bF hb; replace bN := kb_ bN hb; replace HB := aa.mk (ai bl_ hb); (try clear hb)
       (try clear hb2)
       (try clear hk)
       (try clear hi)
       refine hK.out _ _ ⟨(av bF.out 0).trans rfl, (av bF.out 1).trans rfl, (av bF.out 2).trans rfl, (av bF.out 3).trans rfl, (av bF.out 4).trans rfl, (av bN.out 0).trans rfl, (av bN.out 1).trans rfl, (av bN.out 2).trans rfl, (av bN.out 3).trans rfl, (av bN.out 4).trans rfl⟩ (fun hHeld => ?_)
       clear hK K; refine iT (a' := ?_) ?_ ?_
       rotate_left
       ·show Act.put _ (some 19) _ = _
        simp only [Act.put, List.setIfInBounds_toArray, List.set_cons_zero, List.set_cons_succ, dS, ek]; rfl
       refine kQ (i := 8) (N := some 22) #[true, true, true, true, true, true, true, true, true, false, false, false, false, false, false, false, false, false, false, false] rfl rfl (gK HT_.out (by kernel_rfl)) (by decide) (fun K hK => ?_)
       refine iU Tryd.func24 (by kernel_rfl) rfl #[.agg #[.int .i64 ah, .int .i64 au, .int .i64 aj, .int .i64 ak, .slice aM af.length aH], .agg #[.int .i64 fD, .int .i64 fE, .int .i64 fF, .int .i64 fG, .slice si dI.length oO]] (by rfl) rfl rfl mp_ ?_
       with_reducible refine (aJ.calls kj2 ah au aj ak _ _ af fD fE fF fG _ _ dI vz _ ?az ?aA ?eH ?eO A23.out).mono ?_
       (case az => exact cb_ (Kd.aK bu.out HB.out))
       (case aA => exact bU.out)
       (case eH => exact cb_ (Kd.aK Bh.out HB.out))
       (case eO => exact Eg.out)
       rintro e w37 ⟨rfl, hb⟩
       refine ⟨_, rfl, ?_⟩
       replace bF := kb_ bF hb; replace bN := kb_ bN hb; replace HB := aa.mk (ai bl_ hb); (try clear hb)
       (try clear hb2)
       (try clear hk)
       (try clear hi)
       refine hK.out _ _ ⟨(av bF.out 0).trans rfl, (av bF.out 1).trans rfl, (av bF.out 2).trans rfl, (av bF.out 3).trans rfl, (av bF.out 4).trans rfl, (av bN.out 0).trans rfl, (av bN.out 1).trans rfl, (av bN.out 2).trans rfl, (av bN.out 3).trans rfl, (av bN.out 4).trans rfl⟩ (fun hHeld => ?_)
       clear hK K; refine iT (a' := ?_) ?_ ?_
       rotate_left
       ·show Act.put _ (some 22) _ = _
        simp only [Act.put, List.setIfInBounds_toArray, List.set_cons_zero, List.set_cons_succ, dS, ek]; rfl
       refine pu_ HT_ 9 23 (bm 20 1023) ?_
       refine pu_ HT_ 10 24 (bm 20 2047) ?_
       refine pu_ HT_ 11 25 (bm 20 4095) ?_
       refine ta_ HT_ HW_ 12 26 (bm 20 8191) hHeld ?_
       refine ta_ HT_ HW_ 13 27 (bm 20 16383) hHeld ?_
       refine kQ (i := 14) (N := some 28) #[true, true, true, true, true, true, true, true, true, true, true, true, true, true, true, false, false, false, false, false] rfl rfl (gK HT_.out (by kernel_rfl)) (by decide) (fun K hK => ?_)
       refine iU Tryd.func23 (by kernel_rfl) rfl #[.agg #[.int .i64 ah, .int .i64 au, .int .i64 aj, .int .i64 ak, .slice aM af.length aH], .agg #[.int .i64 ah, .int .i64 au, .int .i64 aj, .int .i64 ak, .slice aM af.length aH]] (by rfl) rfl rfl mp_ ?_
       with_reducible refine (gz.calls ah au aj ak _ _ af ah au aj ak _ _ af false _ ?az ?aA ?eH ?eO A25.out).mono ?_
       (case az => exact cb_ (Kd.aK bu.out HB.out))
       (case aA => exact bU.out)
       (case eH => exact cb_ (Kd.aK bu.out HB.out))
       (case eO => exact bU.out)
       rintro e w38 ⟨rfl, hb⟩
       refine ⟨_, rfl, ?_⟩
       replace bF := kb_ bF hb; replace bN := kb_ bN hb; replace HB := aa.mk (ai bl_ hb); (try clear hb)
       (try clear hb2)
       (try clear hk)
       (try clear hi)
       refine hK.out _ _ ⟨(av bF.out 0).trans rfl, (av bF.out 1).trans rfl, (av bF.out 2).trans rfl, (av bF.out 3).trans rfl, (av bF.out 4).trans rfl, (av bN.out 0).trans rfl, (av bN.out 1).trans rfl, (av bN.out 2).trans rfl, (av bN.out 3).trans rfl, (av bN.out 4).trans rfl⟩ (fun hHeld => ?_)
       clear hK K; refine iT (a' := ?_) ?_ ?_
       rotate_left
       ·show Act.put _ (some 28) _ = _
        simp only [Act.put, List.setIfInBounds_toArray, List.set_cons_zero, List.set_cons_succ, dS, ek]; rfl
       refine pu_ HT_ 15 29 (bm 20 65535) ?_
       refine pu_ HT_ 16 30 (bm 20 131071) ?_
       refine pf_ HT_ 17 31 (bm 20 262143) ?_
       refine pu_ HT_ 18 32 (bm 20 524287) ?_
       refine pu_ HT_ 19 4 #[true, true, true, true, true, true, true, true, true, true, true, true, true, true, true, true, true, true, true, true] ?_
       refine sS (lC HT_.out (by kernel_rfl)) ?_
       try go_wp2
       go_ret; exact ⟨re_, bl_⟩
     ·rw [if_neg c24] at H; have qG : (vw == vz) = false := by simpa using c24
      (try (have F3 : decide (vw = vz) = false := by simpa using c24))
      (try (have c24b2 : (vw == vz) = false := by simpa using c24))
      (try (have c24b3 : ¬ (vw = vz) := by simpa using c24))
      clear c24; obtain rfl := Option.some.inj H; try go_wp2
      replace bF := aa.mk (dz bF.out); replace bN := aa.mk (dz bN.out); replace HB := aa.mk (bR HB.out); refine oG (n := 20) (S := fun w' => w'.cell? ⟨kU, 0, none⟩ = some (.int .i64 ah) ∧ w'.cell? ⟨kU, 1, none⟩ = some (.int .i64 au) ∧ w'.cell? ⟨kU, 2, none⟩ = some (.int .i64 aj) ∧ w'.cell? ⟨kU, 3, none⟩ = some (.int .i64 ak) ∧ w'.cell? ⟨kU, 4, none⟩ = some (.slice aM af.length aH) ∧ w'.cell? ⟨qD, 0, none⟩ = some (.int .i64 fD) ∧ w'.cell? ⟨qD, 1, none⟩ = some (.int .i64 fE) ∧ w'.cell? ⟨qD, 2, none⟩ = some (.int .i64 fF) ∧ w'.cell? ⟨qD, 3, none⟩ = some (.int .i64 fG) ∧ w'.cell? ⟨qD, 4, none⟩ = some (.slice si dI.length oO)) (ds := []) #[false, false, false, false, false, false, false, false, false, false, false, false, false, false, false, false, false, false, false, false] (by kernel_rfl) rfl rfl ⟨(av bF.out 0).trans rfl, (av bF.out 1).trans rfl, (av bF.out 2).trans rfl, (av bF.out 3).trans rfl, (av bF.out 4).trans rfl, (av bN.out 0).trans rfl, (av bN.out 1).trans rfl, (av bN.out 2).trans rfl, (av bN.out 3).trans rfl, (av bN.out 4).trans rfl⟩ (fun hHeld => ?_); refine iV bB.tab3 bB.Eo (fun HT_ HW_ => ?_)
      generalize wc.drew = w39 at bF bN HB hHeld ⊢
      refine ta_ HT_ HW_ 0 14 (bm 20 1) hHeld ?_
      refine kQ (i := 1) (N := some 15) #[true, true, false, false, false, false, false, false, false, false, false, false, false, false, false, false, false, false, false, false] rfl rfl (gK HT_.out (by kernel_rfl)) (by decide) (fun K hK => ?_)
      refine iU Tryd.func26 (by kernel_rfl) rfl #[.agg #[.int .i64 ah, .int .i64 au, .int .i64 aj, .int .i64 ak, .slice aM af.length aH]] (by rfl) rfl rfl mp_ ?_
      with_reducible refine (aV.calls kj2 ah au aj ak _ _ af true _ ?az ?aA A20.out ?tab).mono ?_
      (case tab => exact uI oM.out bl_)
      (case az => exact cb_ (Kd.aK bu.out HB.out))
      (case aA => exact bU.out)
      rintro e w40 ⟨rfl, hb⟩
      refine ⟨_, rfl, ?_⟩
      replace bF := kb_ bF hb; replace bN := kb_ bN hb; replace HB := aa.mk (ai bl_ hb); (try clear hb)
      (try clear hb2)
      (try clear hk)
      (try clear hi)
      refine hK.out _ _ ⟨(av bF.out 0).trans rfl, (av bF.out 1).trans rfl, (av bF.out 2).trans rfl, (av bF.out 3).trans rfl, (av bF.out 4).trans rfl, (av bN.out 0).trans rfl, (av bN.out 1).trans rfl, (av bN.out 2).trans rfl, (av bN.out 3).trans rfl, (av bN.out 4).trans rfl⟩ (fun hHeld => ?_)
      clear hK K; refine iT (a' := ?_) ?_ ?_
      rotate_left
      ·show Act.put _ (some 15) _ = _
       simp only [Act.put, List.setIfInBounds_toArray, List.set_cons_zero, List.set_cons_succ, dS, ek]; rfl
      refine pu_ HT_ 2 16 (bm 20 7) ?_
      refine ta_ HT_ HW_ 3 17 (bm 20 15) hHeld ?_
      refine ta_ HT_ HW_ 4 18 (bm 20 31) hHeld ?_
      refine ta_ HT_ HW_ 6 20 (bm 20 95) hHeld ?_
      refine ta_ HT_ HW_ 7 21 (bm 20 223) hHeld ?_
      refine kQ (i := 5) (N := some 19) #[true, true, true, true, true, true, true, true, false, false, false, false, false, false, false, false, false, false, false, false] rfl rfl (gK HT_.out (by kernel_rfl)) (by decide) (fun K hK => ?_)
      refine iU Tryd.func23 (by kernel_rfl) rfl #[.agg #[.int .i64 ah, .int .i64 au, .int .i64 aj, .int .i64 ak, .slice aM af.length aH], .agg #[.int .i64 fD, .int .i64 fE, .int .i64 fF, .int .i64 fG, .slice si dI.length oO]] (by rfl) rfl rfl mp_ ?_
      with_reducible refine (gz.calls ah au aj ak _ _ af fD fE fF fG _ _ dI vw _ ?az ?aA ?eH ?eO A22.out).mono ?_
      (case az => exact cb_ (Kd.aK bu.out HB.out))
      (case aA => exact bU.out)
      (case eH => exact cb_ (Kd.aK Bh.out HB.out))
      (case eO => exact Eg.out)
      rintro e w41 ⟨rfl, hb⟩
      refine ⟨_, rfl, ?_⟩
      replace bF := kb_ bF hb; replace bN := kb_ bN hb; replace HB := aa.mk (ai bl_ hb); (try clear hb)
      (try clear hb2)
      (try clear hk)
      (try clear hi)
      refine hK.out _ _ ⟨(av bF.out 0).trans rfl, (av bF.out 1).trans rfl, (av bF.out 2).trans rfl, (av bF.out 3).trans rfl, (av bF.out 4).trans rfl, (av bN.out 0).trans rfl, (av bN.out 1).trans rfl, (av bN.out 2).trans rfl, (av bN.out 3).trans rfl, (av bN.out 4).trans rfl⟩ (fun hHeld => ?_)
      clear hK K; refine iT (a' := ?_) ?_ ?_
      rotate_left
      ·show Act.put _ (some 19) _ = _
       simp only [Act.put, List.setIfInBounds_toArray, List.set_cons_zero, List.set_cons_succ, dS, ek]; rfl
      refine kQ (i := 8) (N := some 22) #[true, true, true, true, true, true, true, true, true, false, false, false, false, false, false, false, false, false, false, false] rfl rfl (gK HT_.out (by kernel_rfl)) (by decide) (fun K hK => ?_)
      refine iU Tryd.func24 (by kernel_rfl) rfl #[.agg #[.int .i64 ah, .int .i64 au, .int .i64 aj, .int .i64 ak, .slice aM af.length aH], .agg #[.int .i64 fD, .int .i64 fE, .int .i64 fF, .int .i64 fG, .slice si dI.length oO]] (by rfl) rfl rfl mp_ ?_
      with_reducible refine (aJ.calls kj2 ah au aj ak _ _ af fD fE fF fG _ _ dI vz _ ?az ?aA ?eH ?eO A23.out).mono ?_
      (case az => exact cb_ (Kd.aK bu.out HB.out))
      (case aA => exact bU.out)
      (case eH => exact cb_ (Kd.aK Bh.out HB.out))
      (case eO => exact Eg.out)
      rintro e w42 ⟨rfl, hb⟩
      refine ⟨_, rfl, ?_⟩
      replace bF := kb_ bF hb; replace bN := kb_ bN hb; replace HB := aa.mk (ai bl_ hb); (try clear hb)
      (try clear hb2)
      (try clear hk)
      (try clear hi)
      refine hK.out _ _ ⟨(av bF.out 0).trans rfl, (av bF.out 1).trans rfl, (av bF.out 2).trans rfl, (av bF.out 3).trans rfl, (av bF.out 4).trans rfl, (av bN.out 0).trans rfl, (av bN.out 1).trans rfl, (av bN.out 2).trans rfl, (av bN.out 3).trans rfl, (av bN.out 4).trans rfl⟩ (fun hHeld => ?_)
      clear hK K; refine iT (a' := ?_) ?_ ?_
      rotate_left
      ·show Act.put _ (some 22) _ = _
       simp only [Act.put, List.setIfInBounds_toArray, List.set_cons_zero, List.set_cons_succ, dS, ek]; rfl
      refine pu_ HT_ 9 23 (bm 20 1023) ?_
      refine pu_ HT_ 10 24 (bm 20 2047) ?_
      refine pu_ HT_ 11 25 (bm 20 4095) ?_
      refine pf_ HT_ 12 26 (bm 20 8191) ?_
      refine pf_ HT_ 13 27 (bm 20 16383) ?_
      refine pf_ HT_ 14 28 (bm 20 32767) ?_
      refine pu_ HT_ 15 29 (bm 20 65535) ?_
      refine pu_ HT_ 16 30 (bm 20 131071) ?_
      refine pf_ HT_ 17 31 (bm 20 262143) ?_
      refine pu_ HT_ 18 32 (bm 20 524287) ?_
      refine pu_ HT_ 19 4 #[true, true, true, true, true, true, true, true, true, true, true, true, true, true, true, true, true, true, true, true] ?_
      refine sS (lC HT_.out (by kernel_rfl)) ?_
      try go_wp2
      go_ret; exact ⟨re_, bl_⟩
    ·replace c21 := Bool.eq_false_iff.mpr c21; subst c21; have H1 : (some false) = some r := by rw [if_neg (show ¬ (false = true) by decide)] at H; exact H
     clear H; have H := H1; clear H1; obtain rfl := Option.some.inj H; try go_wp2
     replace bF := aa.mk (dz bF.out); replace bN := aa.mk (dz bN.out); replace HB := aa.mk (bR HB.out); refine oG (n := 20) (S := fun w' => w'.cell? ⟨kU, 0, none⟩ = some (.int .i64 ah) ∧ w'.cell? ⟨kU, 1, none⟩ = some (.int .i64 au) ∧ w'.cell? ⟨kU, 2, none⟩ = some (.int .i64 aj) ∧ w'.cell? ⟨kU, 3, none⟩ = some (.int .i64 ak) ∧ w'.cell? ⟨kU, 4, none⟩ = some (.slice aM af.length aH)) (ds := []) #[false, false, false, false, false, false, false, false, false, false, false, false, false, false, false, false, false, false, false, false] (by kernel_rfl) rfl rfl ⟨(av bF.out 0).trans rfl, (av bF.out 1).trans rfl, (av bF.out 2).trans rfl, (av bF.out 3).trans rfl, (av bF.out 4).trans rfl⟩ (fun hHeld => ?_); refine iV bB.tab3 bB.Eo (fun HT_ HW_ => ?_)
     generalize wc.drew = w43 at bF bN HB hHeld ⊢
     refine ta_ HT_ HW_ 0 14 (bm 20 1) hHeld ?_
     refine kQ (i := 1) (N := some 15) #[true, true, false, false, false, false, false, false, false, false, false, false, false, false, false, false, false, false, false, false] rfl rfl (gK HT_.out (by kernel_rfl)) (by decide) (fun K hK => ?_)
     refine iU Tryd.func26 (by kernel_rfl) rfl #[.agg #[.int .i64 ah, .int .i64 au, .int .i64 aj, .int .i64 ak, .slice aM af.length aH]] (by rfl) rfl rfl mp_ ?_
     with_reducible refine (aV.calls kj2 ah au aj ak _ _ af false _ ?az ?aA A20.out ?tab).mono ?_
     (case tab => exact uI oM.out bl_)
     (case az => exact cb_ (Kd.aK bu.out HB.out))
     (case aA => exact bU.out)
     rintro e w44 ⟨rfl, hb⟩
     refine ⟨_, rfl, ?_⟩
     replace bF := kb_ bF hb; replace bN := kb_ bN hb; replace HB := aa.mk (ai bl_ hb); (try clear hb)
     (try clear hb2)
     (try clear hk)
     (try clear hi)
     refine hK.out _ _ ⟨(av bF.out 0).trans rfl, (av bF.out 1).trans rfl, (av bF.out 2).trans rfl, (av bF.out 3).trans rfl, (av bF.out 4).trans rfl⟩ (fun hHeld => ?_)
     clear hK K; refine iT (a' := ?_) ?_ ?_
     rotate_left
     ·show Act.put _ (some 15) _ = _
      simp only [Act.put, List.setIfInBounds_toArray, List.set_cons_zero, List.set_cons_succ, dS, ek]; rfl
     refine pu_ HT_ 2 16 (bm 20 7) ?_
     refine pf_ HT_ 3 17 (bm 20 15) ?_
     refine pf_ HT_ 4 18 (bm 20 31) ?_
     refine pf_ HT_ 5 19 (bm 20 63) ?_
     refine pf_ HT_ 6 20 (bm 20 127) ?_
     refine pf_ HT_ 7 21 (bm 20 255) ?_
     refine pf_ HT_ 8 22 (bm 20 511) ?_
     refine pf_ HT_ 9 23 (bm 20 1023) ?_
     refine pu_ HT_ 10 24 (bm 20 2047) ?_
     refine pu_ HT_ 11 25 (bm 20 4095) ?_
     refine pf_ HT_ 12 26 (bm 20 8191) ?_
     refine pf_ HT_ 13 27 (bm 20 16383) ?_
     refine pf_ HT_ 14 28 (bm 20 32767) ?_
     refine pu_ HT_ 15 29 (bm 20 65535) ?_
     refine pu_ HT_ 16 30 (bm 20 131071) ?_
     refine pf_ HT_ 17 31 (bm 20 262143) ?_
     refine pu_ HT_ 18 32 (bm 20 524287) ?_
     refine pu_ HT_ 19 4 #[true, true, true, true, true, true, true, true, true, true, true, true, true, true, true, true, true, true, true, true] ?_
     refine sS (lC HT_.out (by kernel_rfl)) ?_
     try go_wp2
     go_ret; exact ⟨re_, bl_⟩

end Go.Proofs.YtggelekooacmnaaDoor.Q
set_option linter.unusedVariables false
set_option linter.unusedSimpArgs false
namespace Go.Proofs.YtggelekooacmnaaDoor.Pure
open Go.RowKit Go.Proofs.YtggelekooacmnaaDoor.Q Go.Proofs.YtggelekooacmnaaDoorW.aU Go.Proofs.YtggelekooacmnaaDoorW.bD Go.Proofs.YtggelekooacmnaaDoorW.bH
-- plain laws on types: what the printed functions of the types come to
theorem FU {n : Int} (h1 : -9223372036854775808 ≤ n) (h2 : n ≤ 9223372036854775807) : wrap64 n = n := by unfold wrap64; omega
theorem iP {n : Nat} (h2 : n ≤ 1000000000) : wrap64 ((n : Int) + 1) = ((n + 1 : Nat) : Int) := by unfold wrap64; omega
theorem rdT {l : List S24} {i : Nat} (h : i < l.length) : ag l (i : Int) = l[i] := by
  unfold ag; simp [List.getD, h]
theorem rdT0 {l : List S24} (h : 0 < l.length) : ag l 0 = l[0] := by
  unfold ag; simp [List.getD, h]
/-- bounded: n levels at most, each list of at most a thousand -/
def Bd : Nat → S24 → Prop
  | 0, _ => False
  | n + 1, t => t.f4.length ≤ 1000 ∧ ∀ x ∈ t.f4, Bd n x
/-- an evaluation of a function of types at a type -/
def at_ {α : Type} (g : Nat → Int → Int → Int → Int → List S24 → Option α) (t : S24) : Nat → Option α := fun k => g k t.f0 t.f1 t.f2 t.f3 t.f4
def mxl (f : S24 → Int) : List S24 → Int → Int
  | [], m => m
  | x :: l, m => mxl f l (mx m (f x))
def dep : Nat → S24 → Int
  | 0, _ => 0
  | n + 1, t => mxl (dep n) t.f4 0 + 1
theorem mx_le {a b c : Int} (h1 : a ≤ c) (h2 : b ≤ c) : mx a b ≤ c := by unfold mx; split <;> omega
theorem mx_ge {a b : Int} : a ≤ mx a b ∧ b ≤ mx a b := by unfold mx; split <;> omega
theorem GV (f : S24 → Int) : ∀ (l : List S24) (m : Int), m ≤ mxl f l m
  | [], m => Int.le_refl _
  | x :: l, m => Int.le_trans mx_ge.1 (GV f l _)
theorem OB {f : S24 → Int} {c : Int} : ∀ {l : List S24} {m : Int}, (∀ x ∈ l, f x ≤ c) → m ≤ c → mxl f l m ≤ c
  | [], m, _, h => h
  | x :: l, m, h, hm => OB (l := l) (fun y hy => h y (List.mem_cons_of_mem x hy)) (mx_le hm (h x List.mem_cons_self))
theorem LK : ∀ (n : Nat) (t : S24), 0 ≤ dep n t ∧ dep n t ≤ n
  | 0, t => by simp [dep]
  | n + 1, t => by
    have h1 := GV (dep n) t.f4 0
    have h2 := OB (f := dep n) (c := n) (l := t.f4) (m := 0) (fun x _ => (LK n x).2) (by omega)
    simp only [dep]; omega
theorem depth_l0 (n : Nat) (hn : n ≤ 1000) (l : List S24) (hl : l.length ≤ 1000) (ih : ∀ t ∈ l, Ev (at_ df.f t) (dep n t)) :
    ∀ (d i : Nat) (m : Int), 0 ≤ m → m ≤ 1000 → i + d = l.length → Ev (fun k => df.l0 k m l l.length i) (mxl (dep n) (l.drop i) m + 1) := by
  intro d
  induction d with
  | zero =>
    intro i m h0 h1 hi
    refine ⟨1, fun k hk => ?_⟩
    obtain ⟨k, rfl⟩ : ∃ j, k = j + 1 := ⟨k - 1, by omega⟩
    simp only [df.l0]
    rw [if_neg (by omega), List.drop_eq_nil_of_le (by omega), FU (by omega) (by omega)]; rfl
  | succ d IH =>
    intro i m h0 h1 hi
    have hlt : i < l.length := by omega
    obtain ⟨K1, e1⟩ := ih l[i] (List.getElem_mem hlt)
    have hb := LK n l[i]
    obtain ⟨K2, e2⟩ := IH (i + 1) (mx m (dep n l[i])) (Int.le_trans h0 mx_ge.1) (mx_le h1 (by omega)) (by omega)
    refine ⟨max K1 K2 + 1, fun k hk => ?_⟩
    obtain ⟨k, rfl⟩ : ∃ j, k = j + 1 := ⟨k - 1, by omega⟩
    have e1' := e1 k (by omega)
    have e2' := e2 k (by omega)
    unfold at_ at e1'
    dsimp only at e1' e2'
    simp only [df.l0]
    rw [if_pos (by omega), if_pos (by omega), if_pos (by omega), rdT hlt, e1', Option.bind_some, iP (by omega), e2', List.drop_eq_getElem_cons hlt]; rfl
theorem OC (n : Nat) : ∀ (t : S24), n ≤ 1000 → Bd n t → Ev (at_ df.f t) (dep n t) := by
  induction n with
  | zero => intro t _ h; exact h.elim
  | succ n ih =>
    intro t hn hb
    have h := depth_l0 n (by omega) t.f4 hb.1 (fun x hx => ih x (by omega) (hb.2 x hx)) t.f4.length 0 0 (by omega) (by omega) (by omega)
    exact h.step (fun k => by simp only [at_, df.f]; rfl)
/-- the OY depth -/
theorem mn_eq (a b : Int) : mn a b = min a b := by unfold mn; split <;> omega
theorem mx_eq (a b : Int) : mx a b = max a b := by unfold mx; split <;> omega
theorem mxl_eq (f : S24 → Int) : ∀ (l : List S24) (m c : Int), mxl (fun x => min (f x) c) l (min m c) = min (mxl f l m) c
  | [], m, c => rfl
  | x :: l, m, c => by
    simp only [mxl]
    rw [show mx (min m c) (min (f x) c) = min (mx m (f x)) c from by simp only [mx_eq]; omega]
    exact mxl_eq f l _ c
theorem Depth_l0 (n : Nat) (hn : n ≤ 1000) (l : List S24) (hl : l.length ≤ 1000) (c a b m' : Int) (hc : 1 ≤ c) (hc' : c ≤ 1000) (ih : ∀ t ∈ l, Ev (fun k => bV.f k t.f0 t.f1 t.f2 t.f3 t.f4 c) (min (dep n t) c)) (k0 : Int) :
    ∀ (d i : Nat) (m : Int), 0 ≤ m → m ≤ c → i + d = l.length → Ev (fun k => bV.l0 k (c + 1) m i k0 a b m' l) (min (mxl (fun x => min (dep n x) c) (l.drop i) m + 1) (c + 1)) := by
  intro d
  induction d with
  | zero =>
    intro i m h0 h1 hi
    refine ⟨1, fun k hk => ?_⟩
    obtain ⟨k, rfl⟩ : ∃ j, k = j + 1 := ⟨k - 1, by omega⟩
    simp only [bV.l0]
    rw [if_neg (by omega), List.drop_eq_nil_of_le (by omega), FU (by omega) (by omega), mn_eq]; rfl
  | succ d IH =>
    intro i m h0 h1 hi
    have hlt : i < l.length := by omega
    obtain ⟨K1, e1⟩ := ih l[i] (List.getElem_mem hlt)
    have hb := LK n l[i]
    obtain ⟨K2, e2⟩ := IH (i + 1) (mx m (min (dep n l[i]) c)) (Int.le_trans h0 mx_ge.1) (mx_le h1 (by omega)) (by omega)
    refine ⟨max K1 K2 + 1, fun k hk => ?_⟩
    obtain ⟨k, rfl⟩ : ∃ j, k = j + 1 := ⟨k - 1, by omega⟩
    have e1' := e1 k (by omega)
    have e2' := e2 k (by omega)
    dsimp only at e1' e2'
    have ew : wrap64 (c + 1 - 1) = c := by unfold wrap64; omega
    simp only [bV.l0]
    rw [if_pos (by omega), if_pos (by omega), rdT hlt, ew, e1', Option.bind_some, iP (by omega), e2', List.drop_eq_getElem_cons hlt]; rfl
theorem OD (n : Nat) : ∀ (t : S24) (c : Int), n ≤ 1000 → 1 ≤ c → c ≤ 1000 → Bd n t → Ev (fun k => bV.f k t.f0 t.f1 t.f2 t.f3 t.f4 c) (min (dep n t) c) := by
  induction n with
  | zero => intro t c _ _ _ h; exact h.elim
  | succ n ih =>
    intro t c hn h1 h2 hb
    by_cases hc : c = 1
    · subst hc
      have hd := LK n
      have hd1 : 1 ≤ dep (n + 1) t := by have := GV (dep n) t.f4 0; simp only [dep]; omega
      refine ⟨1, fun k hk => ?_⟩
      obtain ⟨k, rfl⟩ : ∃ j, k = j + 1 := ⟨k - 1, by omega⟩
      simp only [bV.f]
      rw [if_neg (by omega)]
      have : min (dep (n + 1) t) 1 = 1 := by omega
      rw [this]
      split
      · rfl
      · rw [mn_eq]; rfl
    · obtain ⟨c, rfl⟩ : ∃ e, c = e + 1 := ⟨c - 1, by omega⟩
      have h := Depth_l0 n (by omega) t.f4 hb.1 c t.f1 t.f2 t.f3 (by omega) (by omega) (fun x hx => ih x c (by omega) (by omega) (by omega) (hb.2 x hx)) t.f0 t.f4.length 0 0 (by omega) (by omega) (by omega)
      have e : min (mxl (fun x => min (dep n x) c) (t.f4.drop 0) 0 + 1) (c + 1) = min (dep (n + 1) t) (c + 1) := by
        have := mxl_eq (dep n) t.f4 0 c
        rw [show min (0 : Int) c = 0 from by omega] at this
        simp only [dep, List.drop_zero, this]; omega
      rw [← e]
      exact h.step (fun k => by simp only [bV.f]; rw [if_pos (by omega)]; rfl)

end Go.Proofs.YtggelekooacmnaaDoor.Pure
set_option linter.unusedVariables false
set_option linter.unusedSimpArgs false
namespace Go.Proofs.YtggelekooacmnaaDoor.Pure
open Go.RowKit Go.Proofs.YtggelekooacmnaaDoor.Q Go.Proofs.YtggelekooacmnaaDoorW.aU Go.Proofs.YtggelekooacmnaaDoorW.bD Go.Proofs.YtggelekooacmnaaDoorW.bH
-- faults
def fl1 (f : S24 → Int) : List S24 → Int
  | [] => 0
  | x :: l => if f x = 0 then (if x.f0 = 3 then 8 else if x.f0 = 4 then 8 else fl1 f l) else f x
abbrev unus (a0 a1 a2 a3 : Int) (l : List S24) : Prop := (a0 ≠ 2 ∧ (a1 ≠ 0 ∨ a2 ≠ 0)) ∨ (a0 ≠ 6 ∧ a3 ≠ 0) ∨ (a0 < 5 ∧ l.length ≠ 0)
def lst1 (f : S24 → Int) : List S24 → Int
  | [x] => if f x = 0 then (if x.f0 = 1 then 0 else if x.f0 = 2 then 0 else 8) else f x
  | _ => 2
def flt : Nat → S24 → Int
  | 0, _ => 0
  | n + 1, t => if t.f0 < 1 ∨ 6 < t.f0 then 14 else if unus t.f0 t.f1 t.f2 t.f3 t.f4 then 2
    else if t.f0 = 2 then (if t.f1 < -1000 ∨ t.f1 > t.f2 ∨ t.f2 > 1000 then 1 else 0)
    else if t.f0 = 5 then (if t.f4.length < 2 ∨ t.f4.length > 4 then 1 else fl1 (flt n) t.f4)
    else if t.f0 = 6 then (if t.f3 < 1 ∨ t.f3 > 4 then 1 else lst1 (flt n) t.f4)
    else 0
theorem Ju {a : Int} (h : ¬ (a < 1 ∨ 6 < a)) : a = 1 ∨ a = 2 ∨ a = 3 ∨ a = 4 ∨ a = 5 ∨ a = 6 := by omega
theorem N9 {a0 a1 a2 a3 : Int} {l : List S24} (h : ¬ (a0 < 1 ∨ 6 < a0)) : gD.f a0 a1 a2 a3 l = some (decide (unus a0 a1 a2 a3 l)) := by
  unfold gD.f unus
  rcases Ju h with rfl | rfl | rfl | rfl | rfl | rfl <;> by_cases h1 : a1 = 0 <;> by_cases h2 : a2 = 0 <;> by_cases h3 : a3 = 0 <;> by_cases h4 : l = [] <;> simp [h1, h2, h3, h4]
theorem fault_l0 (n : Nat) (l : List S24) (hl : l.length ≤ 1000) (ih : ∀ t ∈ l, Ev (at_ aN.f t) (flt n t)) :
    ∀ (d i : Nat), i + d = l.length → Ev (fun k => aN.l0 k l l.length i) (fl1 (flt n) (l.drop i)) := by
  intro d
  induction d with
  | zero =>
    intro i hi
    refine ⟨1, fun k hk => ?_⟩
    obtain ⟨k, rfl⟩ : ∃ j, k = j + 1 := ⟨k - 1, by omega⟩
    simp only [aN.l0]
    rw [if_neg (by omega), List.drop_eq_nil_of_le (by omega)]; rfl
  | succ d IH =>
    intro i hi
    have hlt : i < l.length := by omega
    obtain ⟨K1, e1⟩ := ih l[i] (List.getElem_mem hlt)
    obtain ⟨K2, e2⟩ := IH (i + 1) (by omega)
    refine ⟨max K1 K2 + 1, fun k hk => ?_⟩
    obtain ⟨k, rfl⟩ : ∃ j, k = j + 1 := ⟨k - 1, by omega⟩
    have e1' := e1 k (by omega)
    have e2' := e2 k (by omega)
    unfold at_ at e1'
    dsimp only at e1' e2'
    simp only [aN.l0]
    rw [if_pos (by omega), if_pos (by omega), if_pos (by omega), rdT hlt, e1', Option.bind_some, iP (by omega), e2', List.drop_eq_getElem_cons hlt]
    simp only [fl1]
    repeat' split
    all_goals rfl
theorem OE (n : Nat) : ∀ (t : S24), n ≤ 1000 → Bd n t → Ev (at_ aN.f t) (flt n t) := by
  induction n with
  | zero => intro t _ h; exact h.elim
  | succ n ih =>
    intro t hn hb
    obtain ⟨a0, a1, a2, a3, l⟩ := t
    have hl : l.length ≤ 1000 := hb.1
    by_cases hk : a0 < 1 ∨ 6 < a0
    · refine ⟨2, fun k hk2 => ?_⟩
      obtain ⟨k, rfl⟩ : ∃ j, k = j + 2 := ⟨k - 2, by omega⟩
      simp only [at_, aN.f, flt]
      rw [if_pos hk]
      split
      · simp only [aN.j0, if_true]
      · rw [show decide (a0 > 6) = true from by simp; omega]; simp only [aN.j0, if_true]
    · have hj : ∀ k, at_ aN.f ⟨a0, a1, a2, a3, l⟩ (k + 2) = aN.j0 (k + 1) false a0 a1 a2 a3 l := by
        intro k
        simp only [at_, aN.f]
        rw [if_neg (by omega), show decide (a0 > 6) = false from by simp; omega]
      by_cases hu : unus a0 a1 a2 a3 l
      · refine ⟨2, fun k hk2 => ?_⟩
        obtain ⟨k, rfl⟩ : ∃ j, k = j + 2 := ⟨k - 2, by omega⟩
        rw [hj]
        simp only [aN.j0]
        rw [N9 hk, decide_eq_true hu]
        simp only [flt, if_neg hk, if_pos hu]; rfl
      · have hj0 : ∀ k, at_ aN.f ⟨a0, a1, a2, a3, l⟩ (k + 2) = (if a0 = 2 then (if a1 < (-1000) then (some 1) else (if a1 > a2 then (some 1) else (if a2 > 1000 then (some 1) else (some 0)))) else (if a0 = 5 then (if (l.length : Int) < 2 then (aN.j1 k true a0 a1 a2 a3 l) else (aN.j1 k (decide ((l.length : Int) > 4)) a0 a1 a2 a3 l)) else (if a0 = 6 then (if a3 < 1 then (aN.j3 k true a0 a1 a2 a3 l) else (aN.j3 k (decide (a3 > 4)) a0 a1 a2 a3 l)) else (some 0)))) := by
          intro k
          rw [hj]
          simp only [aN.j0]
          rw [N9 hk, decide_eq_false hu]; rfl
        have hs : flt (n + 1) ⟨a0, a1, a2, a3, l⟩ = (if a0 = 2 then (if a1 < -1000 ∨ a1 > a2 ∨ a2 > 1000 then 1 else 0) else if a0 = 5 then (if l.length < 2 ∨ l.length > 4 then 1 else fl1 (flt n) l) else if a0 = 6 then (if a3 < 1 ∨ a3 > 4 then 1 else lst1 (flt n) l) else 0) := by
          simp only [flt, if_neg hk, if_neg hu]
        rw [hs]
        by_cases k2 : a0 = 2
        · refine ⟨2, fun k hk2 => ?_⟩
          obtain ⟨k, rfl⟩ : ∃ j, k = j + 2 := ⟨k - 2, by omega⟩
          rw [hj0, if_pos k2, if_pos k2]
          by_cases c1 : a1 < -1000
          · rw [if_pos c1, if_pos (by omega)]
          · by_cases c2 : a1 > a2
            · rw [if_neg c1, if_pos c2, if_pos (by omega)]
            · by_cases c3 : a2 > 1000
              · rw [if_neg c1, if_neg c2, if_pos c3, if_pos (by omega)]
              · rw [if_neg c1, if_neg c2, if_neg c3, if_neg (by omega)]
        · by_cases k5 : a0 = 5
          · by_cases c : l.length < 2 ∨ l.length > 4
            · refine ⟨3, fun k hk2 => ?_⟩
              obtain ⟨k, rfl⟩ : ∃ j, k = j + 3 := ⟨k - 3, by omega⟩
              rw [hj0, if_neg k2, if_neg k2, if_pos k5, if_pos k5, if_pos c]
              split
              · simp only [aN.j1, if_true]
              · rw [show decide ((l.length : Int) > 4) = true from by simp; omega]; simp only [aN.j1, if_true]
            · obtain ⟨K, e⟩ := fault_l0 n l hl (fun x hx => ih x (by omega) (hb.2 x hx)) l.length 0 (by omega)
              refine ⟨K + 3, fun k hk2 => ?_⟩
              obtain ⟨k, rfl⟩ : ∃ j, k = j + 3 := ⟨k - 3, by omega⟩
              rw [hj0, if_neg k2, if_neg k2, if_pos k5, if_pos k5, if_neg c, if_neg (by omega), show decide ((l.length : Int) > 4) = false from by simp; omega]
              have e' := e k (by omega)
              dsimp only at e'
              simp only [aN.j1]
              rw [if_neg (by decide)]
              exact e'
          · by_cases k6 : a0 = 6
            · by_cases c : a3 < 1 ∨ a3 > 4
              · refine ⟨3, fun k hk2 => ?_⟩
                obtain ⟨k, rfl⟩ : ∃ j, k = j + 3 := ⟨k - 3, by omega⟩
                rw [hj0, if_neg k2, if_neg k2, if_neg k5, if_neg k5, if_pos k6, if_pos k6, if_pos c]
                split
                · simp only [aN.j3, if_true]
                · rw [show decide (a3 > 4) = true from by simp; omega]; simp only [aN.j3, if_true]
              · have hj3 : ∀ k, at_ aN.f ⟨a0, a1, a2, a3, l⟩ (k + 3) = aN.j3 (k + 1) false a0 a1 a2 a3 l := by
                  intro k
                  rw [hj0, if_neg k2, if_neg k5, if_pos k6, if_neg (by omega), show decide (a3 > 4) = false from by simp; omega]
                rw [if_neg k2, if_neg k5, if_pos k6, if_neg c]
                match l, hl, hb, hj3 with
                | [x], hl, hb, hj3 =>
                  obtain ⟨K, e⟩ := ih x (by omega) (hb.2 x List.mem_cons_self)
                  refine ⟨K + 3, fun k hk2 => ?_⟩
                  obtain ⟨k, rfl⟩ : ∃ j, k = j + 3 := ⟨k - 3, by omega⟩
                  have e' := e k (by omega)
                  unfold at_ at e'
                  rw [hj3]
                  simp only [aN.j3]
                  rw [if_neg (by decide), if_pos (by simp), if_pos (by simp), rdT0 (by simp), List.getElem_cons_zero, e', Option.bind_some]
                  simp only [lst1]
                  repeat' split
                  all_goals rfl
                | [], hl, hb, hj3 =>
                  refine ⟨3, fun k hk2 => ?_⟩
                  obtain ⟨k, rfl⟩ : ∃ j, k = j + 3 := ⟨k - 3, by omega⟩
                  rw [hj3]; simp only [aN.j3]; rfl
                | x :: y :: l, hl, hb, hj3 =>
                  refine ⟨3, fun k hk2 => ?_⟩
                  obtain ⟨k, rfl⟩ : ∃ j, k = j + 3 := ⟨k - 3, by omega⟩
                  rw [hj3]; simp only [aN.j3]
                  rw [if_neg (by decide), if_neg (by simp; omega)]; rfl
            · refine ⟨2, fun k hk2 => ?_⟩
              obtain ⟨k, rfl⟩ : ∃ j, k = j + 2 := ⟨k - 2, by omega⟩
              rw [hj0]
              simp only [if_neg k2, if_neg k5, if_neg k6]
theorem wrong_j0 {a0 a1 a2 a3 : Int} {l : List S24} (k : Nat) (h : ¬ (a0 < 1 ∨ 6 < a0)) : aC.j0 (k + 1) a0 false a0 a1 a2 a3 l = aC.j1 k a0 (decide (unus a0 a1 a2 a3 l)) a0 a1 a2 a3 l := by
  unfold unus
  simp only [aC.j0]
  rcases Ju h with rfl | rfl | rfl | rfl | rfl | rfl <;> by_cases h1 : a1 = 0 <;> by_cases h2 : a2 = 0 <;> by_cases h3 : a3 = 0 <;> by_cases h4 : l = [] <;> simp [h1, h2, h3, h4] <;> (congr 1; cases l <;> simp_all <;> omega)
theorem wrong_l0 (n : Nat) (l : List S24) (hl : l.length ≤ 1000) (a0 a1 a2 a3 : Int) (ih : ∀ t ∈ l, Ev (at_ aC.f t) (flt n t)) :
    ∀ (d i : Nat), i + d = l.length → Ev (fun k => aC.l0 k i a0 a1 a2 a3 l) (fl1 (flt n) (l.drop i)) := by
  intro d
  induction d with
  | zero =>
    intro i hi
    refine ⟨1, fun k hk => ?_⟩
    obtain ⟨k, rfl⟩ : ∃ j, k = j + 1 := ⟨k - 1, by omega⟩
    simp only [aC.l0]
    rw [if_neg (by omega), List.drop_eq_nil_of_le (by omega)]; rfl
  | succ d IH =>
    intro i hi
    have hlt : i < l.length := by omega
    obtain ⟨K1, e1⟩ := ih l[i] (List.getElem_mem hlt)
    obtain ⟨K2, e2⟩ := IH (i + 1) (by omega)
    refine ⟨max K1 K2 + 1, fun k hk => ?_⟩
    obtain ⟨k, rfl⟩ : ∃ j, k = j + 1 := ⟨k - 1, by omega⟩
    have e1' := e1 k (by omega)
    have e2' := e2 k (by omega)
    unfold at_ at e1'
    dsimp only at e1' e2'
    simp only [aC.l0]
    rw [if_pos (by omega), if_pos (by omega), rdT hlt, e1', Option.bind_some, iP (by omega), e2', List.drop_eq_getElem_cons hlt]
    simp only [fl1]
    repeat' split
    all_goals rfl
theorem OG (n : Nat) : ∀ (t : S24), n ≤ 1000 → Bd n t → Ev (at_ aC.f t) (flt n t) := by
  induction n with
  | zero => intro t _ h; exact h.elim
  | succ n ih =>
    intro t hn hb
    obtain ⟨a0, a1, a2, a3, l⟩ := t
    have hl : l.length ≤ 1000 := hb.1
    by_cases hk : a0 < 1 ∨ 6 < a0
    · refine ⟨2, fun k hk2 => ?_⟩
      obtain ⟨k, rfl⟩ : ∃ j, k = j + 2 := ⟨k - 2, by omega⟩
      simp only [at_, aC.f, flt]
      rw [if_pos hk]
      split
      · simp only [aC.j0, if_true]
      · rw [show decide (a0 > 6) = true from by simp; omega]; simp only [aC.j0, if_true]
    · have hj : ∀ k, at_ aC.f ⟨a0, a1, a2, a3, l⟩ (k + 2) = aC.j1 k a0 (decide (unus a0 a1 a2 a3 l)) a0 a1 a2 a3 l := by
        intro k
        simp only [at_, aC.f]
        rw [if_neg (by omega), show decide (a0 > 6) = false from by simp; omega, wrong_j0 k hk]
      by_cases hu : unus a0 a1 a2 a3 l
      · refine ⟨3, fun k hk2 => ?_⟩
        obtain ⟨k, rfl⟩ : ∃ j, k = j + 3 := ⟨k - 3, by omega⟩
        rw [hj, decide_eq_true hu]
        simp only [aC.j1, flt, if_neg hk, if_pos hu, if_true]
      · have hj0 : ∀ k, at_ aC.f ⟨a0, a1, a2, a3, l⟩ (k + 3) = (if a0 = 2 then (if a1 < (-1000) then (some 1) else (if a1 > a2 then (some 1) else (if a2 > 1000 then (some 1) else (some 0)))) else (if a0 = 5 then (if (l.length : Int) < 2 then (aC.j2 k true a0 a1 a2 a3 l) else (aC.j2 k (decide ((l.length : Int) > 4)) a0 a1 a2 a3 l)) else (if a0 = 6 then (if a3 < 1 then (aC.j4 k true a0 a1 a2 a3 l) else (aC.j4 k (decide (a3 > 4)) a0 a1 a2 a3 l)) else (some 0)))) := by
          intro k
          rw [hj, decide_eq_false hu]
          simp only [aC.j1]
          rw [if_neg (by decide)]
        have hs : flt (n + 1) ⟨a0, a1, a2, a3, l⟩ = (if a0 = 2 then (if a1 < -1000 ∨ a1 > a2 ∨ a2 > 1000 then 1 else 0) else if a0 = 5 then (if l.length < 2 ∨ l.length > 4 then 1 else fl1 (flt n) l) else if a0 = 6 then (if a3 < 1 ∨ a3 > 4 then 1 else lst1 (flt n) l) else 0) := by
          simp only [flt, if_neg hk, if_neg hu]
        rw [hs]
        by_cases k2 : a0 = 2
        · refine ⟨3, fun k hk2 => ?_⟩
          obtain ⟨k, rfl⟩ : ∃ j, k = j + 3 := ⟨k - 3, by omega⟩
          rw [hj0, if_pos k2, if_pos k2]
          by_cases c1 : a1 < -1000
          · rw [if_pos c1, if_pos (by omega)]
          · by_cases c2 : a1 > a2
            · rw [if_neg c1, if_pos c2, if_pos (by omega)]
            · by_cases c3 : a2 > 1000
              · rw [if_neg c1, if_neg c2, if_pos c3, if_pos (by omega)]
              · rw [if_neg c1, if_neg c2, if_neg c3, if_neg (by omega)]
        · by_cases k5 : a0 = 5
          · by_cases c : l.length < 2 ∨ l.length > 4
            · refine ⟨4, fun k hk2 => ?_⟩
              obtain ⟨k, rfl⟩ : ∃ j, k = j + 4 := ⟨k - 4, by omega⟩
              rw [hj0, if_neg k2, if_neg k2, if_pos k5, if_pos k5, if_pos c]
              split
              · simp only [aC.j2, if_true]
              · rw [show decide ((l.length : Int) > 4) = true from by simp; omega]; simp only [aC.j2, if_true]
            · obtain ⟨K, e⟩ := wrong_l0 n l hl a0 a1 a2 a3 (fun x hx => ih x (by omega) (hb.2 x hx)) l.length 0 (by omega)
              refine ⟨K + 4, fun k hk2 => ?_⟩
              obtain ⟨k, rfl⟩ : ∃ j, k = j + 4 := ⟨k - 4, by omega⟩
              rw [hj0, if_neg k2, if_neg k2, if_pos k5, if_pos k5, if_neg c, if_neg (by omega), show decide ((l.length : Int) > 4) = false from by simp; omega]
              have e' := e k (by omega)
              dsimp only at e'
              simp only [aC.j2]
              rw [if_neg (by decide)]
              exact e'
          · by_cases k6 : a0 = 6
            · by_cases c : a3 < 1 ∨ a3 > 4
              · refine ⟨4, fun k hk2 => ?_⟩
                obtain ⟨k, rfl⟩ : ∃ j, k = j + 4 := ⟨k - 4, by omega⟩
                rw [hj0, if_neg k2, if_neg k2, if_neg k5, if_neg k5, if_pos k6, if_pos k6, if_pos c]
                split
                · simp only [aC.j4, if_true]
                · rw [show decide (a3 > 4) = true from by simp; omega]; simp only [aC.j4, if_true]
              · have hj3 : ∀ k, at_ aC.f ⟨a0, a1, a2, a3, l⟩ (k + 4) = aC.j4 (k + 1) false a0 a1 a2 a3 l := by
                  intro k
                  rw [hj0, if_neg k2, if_neg k5, if_pos k6, if_neg (by omega), show decide (a3 > 4) = false from by simp; omega]
                rw [if_neg k2, if_neg k5, if_pos k6, if_neg c]
                match l, hl, hb, hj3 with
                | [x], hl, hb, hj3 =>
                  obtain ⟨K, e⟩ := ih x (by omega) (hb.2 x List.mem_cons_self)
                  refine ⟨K + 4, fun k hk2 => ?_⟩
                  obtain ⟨k, rfl⟩ : ∃ j, k = j + 4 := ⟨k - 4, by omega⟩
                  have e' := e k (by omega)
                  unfold at_ at e'
                  rw [hj3]
                  simp only [aC.j4]
                  rw [if_neg (by decide), if_pos (by simp), if_pos (by simp), rdT0 (by simp), List.getElem_cons_zero, e', Option.bind_some]
                  simp only [lst1]
                  repeat' split
                  all_goals rfl
                | [], hl, hb, hj3 =>
                  refine ⟨4, fun k hk2 => ?_⟩
                  obtain ⟨k, rfl⟩ : ∃ j, k = j + 4 := ⟨k - 4, by omega⟩
                  rw [hj3]; simp only [aC.j4]; rfl
                | x :: y :: l, hl, hb, hj3 =>
                  refine ⟨4, fun k hk2 => ?_⟩
                  obtain ⟨k, rfl⟩ : ∃ j, k = j + 4 := ⟨k - 4, by omega⟩
                  rw [hj3]; simp only [aC.j4]
                  rw [if_neg (by decide), if_neg (by simp; omega)]; rfl
            · refine ⟨3, fun k hk2 => ?_⟩
              obtain ⟨k, rfl⟩ : ∃ j, k = j + 3 := ⟨k - 3, by omega⟩
              rw [hj0]
              simp only [if_neg k2, if_neg k5, if_neg k6]

end Go.Proofs.YtggelekooacmnaaDoor.Pure
set_option linter.unusedVariables false
set_option linter.unusedSimpArgs false
namespace Go.Proofs.YtggelekooacmnaaDoor.Pure
open Go.RowKit Go.Proofs.YtggelekooacmnaaDoor.Q Go.Proofs.YtggelekooacmnaaDoorW.aU Go.Proofs.YtggelekooacmnaaDoorW.bD Go.Proofs.YtggelekooacmnaaDoorW.bH
-- valid types, their parts, Validate
inductive Vt : Nat → S24 → Prop
  | bool (n : Nat) : Vt (n + 1) ⟨1, 0, 0, 0, []⟩
  | int (n : Nat) (lo hi : Int) (h1 : -1000 ≤ lo) (h2 : lo ≤ hi) (h3 : hi ≤ 1000) : Vt (n + 1) ⟨2, lo, hi, 0, []⟩
  | nat (n : Nat) : Vt (n + 1) ⟨3, 0, 0, 0, []⟩
  | real (n : Nat) : Vt (n + 1) ⟨4, 0, 0, 0, []⟩
  | tup (n : Nat) (l : List S24) (h1 : 2 ≤ l.length) (h2 : l.length ≤ 4) (h3 : ∀ x ∈ l, Vt n x) (h4 : ∀ x ∈ l, x.f0 ≠ 3 ∧ x.f0 ≠ 4) : Vt (n + 1) ⟨5, 0, 0, 0, l⟩
  | lst (n : Nat) (m : Int) (x : S24) (h1 : 1 ≤ m) (h2 : m ≤ 4) (h3 : Vt n x) (h4 : x.f0 = 1 ∨ x.f0 = 2) : Vt (n + 1) ⟨6, 0, 0, m, [x]⟩
theorem Vt.bd {n : Nat} : ∀ {t : S24}, Vt n t → Bd n t := by
  induction n with
  | zero => intro t h; cases h
  | succ n ih =>
    intro t h
    cases h with
    | bool => exact ⟨by simp, by simp⟩
    | int _ lo hi h1 h2 h3 => exact ⟨by simp, by simp⟩
    | nat => exact ⟨by simp, by simp⟩
    | real => exact ⟨by simp, by simp⟩
    | tup _ l h1 h2 h3 h4 => exact ⟨by show l.length ≤ 1000; omega, fun x hx => ih (h3 x hx)⟩
    | lst _ m x h1 h2 h3 h4 => exact ⟨by simp, fun y hy => by simp at hy; subst hy; exact ih h3⟩
theorem Jv {f : S24 → Int} : ∀ {l : List S24}, fl1 f l = 0 ↔ ∀ x ∈ l, f x = 0 ∧ x.f0 ≠ 3 ∧ x.f0 ≠ 4
  | [] => by simp [fl1]
  | x :: l => by
    simp only [fl1, List.forall_mem_cons]
    by_cases h : f x = 0
    · by_cases h3 : x.f0 = 3
      · simp [h, h3]
      · by_cases h4 : x.f0 = 4
        · simp [h, h4]
        · simp only [h, h3, h4, if_true, if_false, true_and, not_false_eq_true, ne_eq, Jv]
    · simp [h]
theorem flt_vt (n : Nat) : ∀ {t : S24}, Bd n t → flt n t = 0 → Vt n t := by
  induction n with
  | zero => intro t h; exact h.elim
  | succ n ih =>
    intro t hb h
    obtain ⟨a0, a1, a2, a3, l⟩ := t
    simp only [flt] at h
    by_cases hk : a0 < 1 ∨ 6 < a0
    · rw [if_pos hk] at h; omega
    · rw [if_neg hk] at h
      by_cases hu : unus a0 a1 a2 a3 l
      · rw [if_pos hu] at h; omega
      · rw [if_neg hu] at h
        unfold unus at hu
        have hnil : a0 < 5 → l = [] := fun h5 => List.eq_nil_of_length_eq_zero (by omega)
        rcases Ju hk with rfl | rfl | rfl | rfl | rfl | rfl
        · obtain rfl := hnil (by omega)
          obtain rfl : a1 = 0 := by omega
          obtain rfl : a2 = 0 := by omega
          obtain rfl : a3 = 0 := by omega
          exact .bool _
        · obtain rfl := hnil (by omega)
          obtain rfl : a3 = 0 := by omega
          simp at h
          exact .int _ _ _ (by omega) (by omega) (by omega)
        · obtain rfl := hnil (by omega)
          obtain rfl : a1 = 0 := by omega
          obtain rfl : a2 = 0 := by omega
          obtain rfl : a3 = 0 := by omega
          exact .nat _
        · obtain rfl := hnil (by omega)
          obtain rfl : a1 = 0 := by omega
          obtain rfl : a2 = 0 := by omega
          obtain rfl : a3 = 0 := by omega
          exact .real _
        · obtain rfl : a1 = 0 := by omega
          obtain rfl : a2 = 0 := by omega
          obtain rfl : a3 = 0 := by omega
          rw [if_neg (by omega), if_pos rfl] at h
          by_cases hc : l.length < 2 ∨ l.length > 4
          · rw [if_pos hc] at h; omega
          · rw [if_neg hc, Jv] at h
            exact .tup _ _ (by omega) (by omega) (fun x hx => ih (hb.2 x hx) (h x hx).1) (fun x hx => (h x hx).2)
        · obtain rfl : a1 = 0 := by omega
          obtain rfl : a2 = 0 := by omega
          rw [if_neg (by omega), if_neg (by omega), if_pos rfl] at h
          by_cases hc : a3 < 1 ∨ a3 > 4
          · rw [if_pos hc] at h; omega
          · rw [if_neg hc] at h
            match l, hb, h with
            | [x], hb, h =>
              simp only [lst1] at h
              by_cases hx : flt n x = 0
              · rw [if_pos hx] at h
                refine .lst _ _ _ (by omega) (by omega) (ih (hb.2 x List.mem_cons_self) hx) ?_
                by_cases h1 : x.f0 = 1
                · exact .inl h1
                · by_cases h2 : x.f0 = 2
                  · exact .inr h2
                  · simp [h1, h2] at h
              · rw [if_neg hx] at h; exact absurd h hx
            | [], _, h => simp [lst1] at h
            | _ :: _ :: _, _, h => simp [lst1] at h
theorem vt_flt (n : Nat) : ∀ {t : S24}, Vt n t → flt n t = 0 := by
  induction n with
  | zero => intro t h; cases h
  | succ n ih =>
    intro t h
    cases h with
    | bool => simp [flt]
    | int _ lo hi h1 h2 h3 =>
      simp only [flt]
      rw [if_neg (by omega), if_neg (by simp), if_pos trivial, if_neg (by omega)]
    | nat => simp [flt]
    | real => simp [flt]
    | tup _ l h1 h2 h3 h4 =>
      simp only [flt]
      rw [if_neg (by omega), if_neg (by simp), if_neg (by omega), if_pos trivial, if_neg (by omega), Jv]
      exact fun x hx => ⟨ih (h3 x hx), h4 x hx⟩
    | lst _ m x h1 h2 h3 h4 =>
      simp only [flt]
      rw [if_neg (by omega), if_neg (by simp), if_neg (by omega), if_neg (by omega), if_pos trivial, if_neg (by omega)]
      simp only [lst1]
      rw [if_pos (ih h3)]
      rcases h4 with h4 | h4 <;> simp [h4]
theorem vt_dep (n : Nat) : ∀ {t : S24}, Vt n t → ∀ m, dep m t ≤ n := by
  induction n with
  | zero => intro t h; cases h
  | succ n ih =>
    intro t h m
    cases m with
    | zero => simp [dep]; omega
    | succ m =>
      simp only [dep]
      have : mxl (dep m) t.f4 0 ≤ n := by
        refine OB (fun x hx => ?_) (by omega)
        cases h with
        | bool => simp at hx
        | int _ lo hi h1 h2 h3 => simp at hx
        | nat => simp at hx
        | real => simp at hx
        | tup _ l h1 h2 h3 h4 => exact ih (h3 x hx) m
        | lst _ m' y h1 h2 h3 h4 => simp at hx; subst hx; exact ih h3 m
      omega
theorem NP {f : S24 → Int} : ∀ {l : List S24} {m : Int} {x : S24}, x ∈ l → f x ≤ mxl f l m
  | y :: l, m, x, h => by
    simp only [mxl]
    rcases List.mem_cons.1 h with rfl | h
    · exact Int.le_trans mx_ge.2 (GV f l _)
    · exact NP h
theorem vt_low (n : Nat) : ∀ {t : S24} (d : Nat), Vt n t → dep n t ≤ d → Vt d t := by
  induction n with
  | zero => intro t d h; cases h
  | succ n ih =>
    intro t d h hd
    simp only [dep] at hd
    have h0 := GV (dep n) t.f4 0
    obtain ⟨d, rfl⟩ : ∃ e, d = e + 1 := ⟨d - 1, by omega⟩
    cases h with
    | bool => exact .bool _
    | int _ lo hi h1 h2 h3 => exact .int _ _ _ h1 h2 h3
    | nat => exact .nat _
    | real => exact .real _
    | tup _ l h1 h2 h3 h4 => exact .tup _ _ h1 h2 (fun x hx => ih d (h3 x hx) (by have := NP (f := dep n) (m := 0) hx; simp only at hd; omega)) h4
    | lst _ m x h1 h2 h3 h4 => exact .lst _ _ _ h1 h2 (ih d h3 (by have := NP (f := dep n) (m := 0) (x := x) (l := [x]) List.mem_cons_self; simp only at hd; omega)) h4
def prt : Nat → S24 → List S41
  | 0, _ => []
  | n + 1, t => if t.f0 = 1 then [⟨1, 0, 1⟩] else if t.f0 = 2 then [⟨2, t.f1, t.f2⟩] else if t.f0 = 3 ∨ t.f0 = 4 then [⟨t.f0, 0, 0⟩]
    else if t.f0 = 6 then ⟨2, 0, t.f3⟩ :: (List.replicate t.f3.toNat (prt n (ag t.f4 0))).flatten else (t.f4.map (prt n)).flatten
theorem flat_len {l : List S24} {f : S24 → List S41} {c : Nat} (h : ∀ x ∈ l, (f x).length ≤ c) : (l.map f).flatten.length ≤ l.length * c := by
  induction l with
  | nil => simp
  | cons x l ih =>
    have h1 := h x List.mem_cons_self
    have h2 := ih (fun y hy => h y (List.mem_cons_of_mem x hy))
    simp only [List.map_cons, List.flatten_cons, List.length_append, List.length_cons, Nat.add_mul]
    omega
theorem RY {α : Type} (m : Nat) (l : List α) : (List.replicate m l).flatten.length = m * l.length := by simp
theorem rd1 (x : S24) : ag [x] 0 = x := by simp [ag]
theorem NQ (n : Nat) : ∀ {t : S24}, Vt n t → (prt n t).length ≤ 5 ^ n ∧ 1 ≤ (prt n t).length := by
  induction n with
  | zero => intro t h; cases h
  | succ n ih =>
    intro t h
    have hp : 1 ≤ 5 ^ n := Nat.pos_of_ne_zero (by simp)
    have h5 : 5 ^ (n + 1) = 5 ^ n * 5 := Nat.pow_succ ..
    cases h with
    | bool => simp [prt]; omega
    | int _ lo hi h1 h2 h3 => simp [prt]; omega
    | nat => simp [prt]; omega
    | real => simp [prt]; omega
    | tup _ l h1 h2 h3 h4 =>
      have e : prt (n + 1) ⟨5, 0, 0, 0, l⟩ = (l.map (prt n)).flatten := by simp [prt]
      rw [e]
      have hl := flat_len (fun x hx => (ih (h3 x hx)).1)
      have : l.length * 5 ^ n ≤ 4 * 5 ^ n := Nat.mul_le_mul_right _ h2
      refine ⟨by omega, ?_⟩
      match l, h1, h3 with
      | x :: l, _, h3 =>
        have := (ih (h3 x List.mem_cons_self)).2
        simp only [List.map_cons, List.flatten_cons, List.length_append]; omega
    | lst _ m x h1 h2 h3 h4 =>
      have e : prt (n + 1) ⟨6, 0, 0, m, [x]⟩ = ⟨2, 0, m⟩ :: (List.replicate m.toNat (prt n x)).flatten := by simp [prt, rd1]
      have e1 : (prt n x).length = 1 := by
        cases h3 with
        | bool => simp [prt]
        | int _ lo hi h1 h2 h3 => simp [prt]
        | nat => simp at h4
        | real => simp at h4
        | tup _ l _ _ _ _ => simp at h4
        | lst _ m x _ _ _ _ => simp at h4
      rw [e, List.length_cons, RY, e1]
      omega

end Go.Proofs.YtggelekooacmnaaDoor.Pure
set_option linter.unusedVariables false
set_option linter.unusedSimpArgs false
namespace Go.Proofs.YtggelekooacmnaaDoor.Pure
open Go.RowKit Go.Proofs.YtggelekooacmnaaDoor.Q Go.Proofs.YtggelekooacmnaaDoorW.aU Go.Proofs.YtggelekooacmnaaDoorW.bD Go.Proofs.YtggelekooacmnaaDoorW.bH
-- width, Parts, Validate
theorem wid_l0 (n : Nat) (l : List S24) (hl : l.length ≤ 4) (B : Nat) (hB : B ≤ 10000000) (ih : ∀ t ∈ l, Ev (at_ bP.f t) ((prt n t).length : Int) ∧ (prt n t).length ≤ B) :
    ∀ (d i m : Nat), m ≤ i * B → i + d = l.length → Ev (fun k => bP.l0 k m l l.length i) ((m + ((l.drop i).map (prt n)).flatten.length : Nat) : Int) := by
  intro d
  induction d with
  | zero =>
    intro i m h0 hi
    refine ⟨1, fun k hk => ?_⟩
    obtain ⟨k, rfl⟩ : ∃ j, k = j + 1 := ⟨k - 1, by omega⟩
    simp only [bP.l0]
    rw [if_neg (by omega), List.drop_eq_nil_of_le (by omega)]; rfl
  | succ d IH =>
    intro i m h0 hi
    have hlt : i < l.length := by omega
    obtain ⟨⟨K1, e1⟩, hb⟩ := ih l[i] (List.getElem_mem hlt)
    have hm : m + (prt n l[i]).length ≤ (i + 1) * B := by rw [Nat.add_mul]; omega
    have hm2 : (i + 1) * B ≤ 4 * B := Nat.mul_le_mul_right _ (by omega)
    obtain ⟨K2, e2⟩ := IH (i + 1) (m + (prt n l[i]).length) hm (by omega)
    refine ⟨max K1 K2 + 1, fun k hk => ?_⟩
    obtain ⟨k, rfl⟩ : ∃ j, k = j + 1 := ⟨k - 1, by omega⟩
    have e1' := e1 k (by omega)
    have e2' := e2 k (by omega)
    unfold at_ at e1'
    dsimp only at e1' e2'
    simp only [bP.l0]
    have ew : wrap64 ((m : Int) + ((prt n l[i]).length : Int)) = ((m + (prt n l[i]).length : Nat) : Int) := by unfold wrap64; omega
    rw [if_pos (by omega), if_pos (by omega), if_pos (by omega), rdT hlt, e1', Option.bind_some, iP (by omega), ew, e2', List.drop_eq_getElem_cons hlt]
    simp only [List.map_cons, List.flatten_cons, List.length_append, Nat.add_assoc]
theorem OH {n : Nat} {x : S24} (h3 : Vt n x) (h4 : x.f0 = 1 ∨ x.f0 = 2) : (prt n x).length = 1 := by
  cases h3 with
  | bool => simp [prt]
  | int _ lo hi h1 h2 h3 => simp [prt]
  | nat => simp at h4
  | real => simp at h4
  | tup _ l _ _ _ _ => simp at h4
  | lst _ m x _ _ _ _ => simp at h4
theorem prt5 (n : Nat) (a1 a2 a3 : Int) (l : List S24) : prt (n + 1) ⟨5, a1, a2, a3, l⟩ = (l.map (prt n)).flatten := by simp [prt]
theorem prt6 (n : Nat) (a1 a2 m : Int) (x : S24) : prt (n + 1) ⟨6, a1, a2, m, [x]⟩ = ⟨2, 0, m⟩ :: (List.replicate m.toNat (prt n x)).flatten := by simp [prt, rd1]
theorem pow5 {n : Nat} (h : n ≤ 9) : 5 ^ n ≤ 5 ^ 9 := Nat.pow_le_pow_right (by omega) h
theorem OI (n : Nat) : ∀ {t : S24}, n ≤ 10 → Vt n t → Ev (at_ bP.f t) ((prt n t).length : Int) := by
  induction n with
  | zero => intro t _ h; cases h
  | succ n ih =>
    intro t hn h
    have one : ∀ a0 a1 a2 a3 : Int, ∀ l, a0 ≠ 5 → a0 ≠ 6 → Ev (at_ bP.f ⟨a0, a1, a2, a3, l⟩) (1 : Int) := by
      intro a0 a1 a2 a3 l h5 h6
      refine ⟨1, fun k hk => ?_⟩
      obtain ⟨k, rfl⟩ : ∃ j, k = j + 1 := ⟨k - 1, by omega⟩
      simp only [at_, bP.f, if_neg h5, if_neg h6]
    cases h with
    | bool => exact one _ _ _ _ _ (by decide) (by decide)
    | int _ lo hi h1 h2 h3 => exact one _ _ _ _ _ (by decide) (by decide)
    | nat => exact one _ _ _ _ _ (by decide) (by decide)
    | real => exact one _ _ _ _ _ (by decide) (by decide)
    | tup _ l h1 h2 h3 h4 =>
      have hp := pow5 (show n ≤ 9 by omega)
      obtain ⟨K, e⟩ := wid_l0 n l h2 (5 ^ n) (by omega) (fun x hx => ⟨ih (by omega) (h3 x hx), (NQ n (h3 x hx)).1⟩) l.length 0 0 (by omega) (by omega)
      rw [prt5]
      refine ⟨K + 1, fun k hk => ?_⟩
      obtain ⟨k, rfl⟩ : ∃ j, k = j + 1 := ⟨k - 1, by omega⟩
      have e' := e k (by omega)
      simp only [at_, bP.f, if_pos]
      simpa using e'
    | lst _ m x h1 h2 h3 h4 =>
      obtain ⟨K, e⟩ := ih (by omega) h3
      have e1 := OH h3 h4
      rw [prt6, List.length_cons, RY, e1]
      refine ⟨K + 1, fun k hk => ?_⟩
      obtain ⟨k, rfl⟩ : ∃ j, k = j + 1 := ⟨k - 1, by omega⟩
      have e' := e k (by omega)
      unfold at_ at e'
      simp only [at_, bP.f]
      rw [if_neg (by decide), if_pos trivial, if_pos (by simp), rd1, e', Option.bind_some, e1]
      have : wrap64 (1 + wrap64 (m * ((1 : Nat) : Int))) = ((m.toNat * 1 + 1 : Nat) : Int) := by unfold wrap64; omega
      rw [this]
theorem Parts_l0 (n : Nat) (x : S24) (a0 a1 a2 m : Int) (hm : m ≤ 4) (ih : Ev (at_ aT.f x) (prt n x)) (hx : (prt n x).length = 1) :
    ∀ (d i : Nat) (o : List S41), o.length ≤ i + 1 → (i : Int) + d = m → Ev (fun k => aT.l0 k o i a0 a1 a2 m [x]) (o ++ (List.replicate d (prt n x)).flatten) := by
  intro d
  induction d with
  | zero =>
    intro i o ho hi
    refine ⟨1, fun k hk => ?_⟩
    obtain ⟨k, rfl⟩ : ∃ j, k = j + 1 := ⟨k - 1, by omega⟩
    simp only [aT.l0]
    rw [if_neg (by omega)]; simp
  | succ d IH =>
    intro i o ho hi
    obtain ⟨K1, e1⟩ := ih
    obtain ⟨K2, e2⟩ := IH (i + 1) (o ++ prt n x) (by rw [List.length_append]; omega) (by omega)
    refine ⟨max K1 K2 + 1, fun k hk => ?_⟩
    obtain ⟨k, rfl⟩ : ∃ j, k = j + 1 := ⟨k - 1, by omega⟩
    have e1' := e1 k (by omega)
    have e2' := e2 k (by omega)
    unfold at_ at e1'
    dsimp only at e1' e2'
    simp only [aT.l0]
    rw [if_pos (by omega), if_pos (by simp), rd1, e1', Option.bind_some, if_pos (by omega), iP (by omega), e2', List.append_assoc]
    simp only [List.replicate_succ, List.flatten_cons]
theorem Parts_l1 (n : Nat) (l : List S24) (hl : l.length ≤ 4) (a0 a1 a2 a3 : Int) (B : Nat) (hB : B ≤ 10000000) (ih : ∀ t ∈ l, Ev (at_ aT.f t) (prt n t) ∧ (prt n t).length ≤ B) :
    ∀ (d i : Nat) (o : List S41), o.length ≤ i * B → i + d = l.length → Ev (fun k => aT.l1 k o i a0 a1 a2 a3 l) (o ++ ((l.drop i).map (prt n)).flatten) := by
  intro d
  induction d with
  | zero =>
    intro i o ho hi
    refine ⟨1, fun k hk => ?_⟩
    obtain ⟨k, rfl⟩ : ∃ j, k = j + 1 := ⟨k - 1, by omega⟩
    simp only [aT.l1]
    rw [if_neg (by omega), List.drop_eq_nil_of_le (by omega)]; simp
  | succ d IH =>
    intro i o ho hi
    have hlt : i < l.length := by omega
    obtain ⟨⟨K1, e1⟩, hb⟩ := ih l[i] (List.getElem_mem hlt)
    have hm : (o ++ prt n l[i]).length ≤ (i + 1) * B := by rw [List.length_append, Nat.add_mul]; omega
    have hm2 : (i + 1) * B ≤ 4 * B := Nat.mul_le_mul_right _ (by omega)
    obtain ⟨K2, e2⟩ := IH (i + 1) (o ++ prt n l[i]) hm (by omega)
    refine ⟨max K1 K2 + 1, fun k hk => ?_⟩
    obtain ⟨k, rfl⟩ : ∃ j, k = j + 1 := ⟨k - 1, by omega⟩
    have e1' := e1 k (by omega)
    have e2' := e2 k (by omega)
    unfold at_ at e1'
    dsimp only at e1' e2'
    simp only [aT.l1]
    rw [List.length_append] at hm
    rw [if_pos (by omega), if_pos (by omega), rdT hlt, e1', Option.bind_some, if_pos (by omega), iP (by omega), e2', List.append_assoc, List.drop_eq_getElem_cons hlt]
    simp only [List.map_cons, List.flatten_cons]
theorem Jw (n : Nat) : ∀ {t : S24}, n ≤ 10 → Vt n t → Ev (at_ aT.f t) (prt n t) := by
  induction n with
  | zero => intro t _ h; cases h
  | succ n ih =>
    intro t hn h
    cases h with
    | bool =>
      refine ⟨2, fun k hk => ?_⟩
      obtain ⟨k, rfl⟩ : ∃ j, k = j + 2 := ⟨k - 2, by omega⟩
      simp [at_, aT.f, prt]
    | int _ lo hi h1 h2 h3 =>
      refine ⟨2, fun k hk => ?_⟩
      obtain ⟨k, rfl⟩ : ∃ j, k = j + 2 := ⟨k - 2, by omega⟩
      simp [at_, aT.f, prt]
    | nat =>
      refine ⟨2, fun k hk => ?_⟩
      obtain ⟨k, rfl⟩ : ∃ j, k = j + 2 := ⟨k - 2, by omega⟩
      simp [at_, aT.f, aT.j0, prt]
    | real =>
      refine ⟨2, fun k hk => ?_⟩
      obtain ⟨k, rfl⟩ : ∃ j, k = j + 2 := ⟨k - 2, by omega⟩
      simp [at_, aT.f, aT.j0, prt]
    | tup _ l h1 h2 h3 h4 =>
      have hp := pow5 (show n ≤ 9 by omega)
      obtain ⟨K, e⟩ := Parts_l1 n l h2 5 0 0 0 (5 ^ n) (by omega) (fun x hx => ⟨ih (by omega) (h3 x hx), (NQ n (h3 x hx)).1⟩) l.length 0 [] (by simp) (by omega)
      rw [prt5]
      refine ⟨K + 2, fun k hk => ?_⟩
      obtain ⟨k, rfl⟩ : ∃ j, k = j + 2 := ⟨k - 2, by omega⟩
      have e' := e k (by omega)
      simp [at_, aT.f, aT.j0]
      simpa using e'
    | lst _ m x h1 h2 h3 h4 =>
      have e1 := OH h3 h4
      obtain ⟨K, e⟩ := Parts_l0 n x 6 0 0 m h2 (ih (by omega) h3) e1 m.toNat 0 [⟨2, 0, m⟩] (by simp) (by omega)
      rw [prt6]
      refine ⟨K + 2, fun k hk => ?_⟩
      obtain ⟨k, rfl⟩ : ∃ j, k = j + 2 := ⟨k - 2, by omega⟩
      have e' := e k (by omega)
      simp [at_, aT.f, aT.j0]
      simpa using e'
/-- Validate, of whatever type within the bounds: program and reference agree; and what is valid. -/
theorem OZ {n : Nat} {t : S24} (hn : n ≤ 1000) (hb : Bd n t) : ∃ e, Ev (at_ bO.f t) e ∧ Ev (at_ bE.f t) e ∧ (e = 0 → Vt 10 t ∧ (prt 10 t).length ≤ 24) := by
  obtain ⟨K1, e1⟩ := OC n t hn hb
  obtain ⟨K2, e2⟩ := OE n t hn hb
  obtain ⟨K3, e3⟩ := OD n t 11 hn (by omega) (by omega) hb
  obtain ⟨K4, e4⟩ := OG n t hn hb
  unfold at_ at e1 e2 e4
  dsimp only at e3
  by_cases hd : dep n t > 10
  · refine ⟨9, ⟨K1, fun k hk => ?_⟩, ⟨K3, fun k hk => ?_⟩, fun h => absurd h (by decide)⟩
    · simp only [at_, bO.f]
      rw [e1 k hk, Option.bind_some, if_pos hd]
    · simp only [at_, bE.f]
      rw [e3 k hk, Option.bind_some, if_pos (by omega)]
  · by_cases hf : flt n t = 0
    · have hv := vt_low n 10 (flt_vt n hb hf) (by omega)
      obtain ⟨K5, e5⟩ := OI 10 (by omega) hv
      obtain ⟨K6, e6⟩ := Jw 10 (by omega) hv
      unfold at_ at e5 e6
      refine ⟨if (prt 10 t).length > 24 then 9 else 0, ⟨K1 + K2 + K5, fun k hk => ?_⟩, ⟨K3 + K4 + K6, fun k hk => ?_⟩, fun h => ⟨hv, ?_⟩⟩
      · simp only [at_, bO.f]
        rw [e1 k (by omega), Option.bind_some, if_neg hd, e2 k (by omega), Option.bind_some, if_pos hf, e5 k (by omega), Option.bind_some]
        split <;> split <;> first | rfl | omega
      · simp only [at_, bE.f]
        rw [e3 k (by omega), Option.bind_some, if_neg (by omega), e4 k (by omega), Option.bind_some, if_pos hf, e6 k (by omega), Option.bind_some]
        split <;> split <;> first | rfl | omega
      · split at h <;> omega
    · refine ⟨flt n t, ⟨K1 + K2, fun k hk => ?_⟩, ⟨K3 + K4, fun k hk => ?_⟩, fun h => absurd h hf⟩
      · simp only [at_, bO.f]
        rw [e1 k (by omega), Option.bind_some, if_neg hd, e2 k (by omega), Option.bind_some, if_neg hf]
      · simp only [at_, bE.f]
        rw [e3 k (by omega), Option.bind_some, if_neg (by omega), e4 k (by omega), Option.bind_some, if_neg hf]
theorem Jr {t : S24} (hv : Vt 10 t) (hl : (prt 10 t).length ≤ 24) : Ev (at_ bO.f t) 0 ∧ Ev (at_ bE.f t) 0 := by
  obtain ⟨K1, e1⟩ := OC 10 t (by omega) hv.bd
  obtain ⟨K2, e2⟩ := OE 10 t (by omega) hv.bd
  obtain ⟨K3, e3⟩ := OD 10 t 11 (by omega) (by omega) (by omega) hv.bd
  obtain ⟨K4, e4⟩ := OG 10 t (by omega) hv.bd
  obtain ⟨K5, e5⟩ := OI 10 (by omega) hv
  obtain ⟨K6, e6⟩ := Jw 10 (by omega) hv
  unfold at_ at e1 e2 e4 e5 e6
  dsimp only at e3
  have hd := vt_dep 10 hv 10
  have hf := vt_flt 10 hv
  refine ⟨⟨K1 + K2 + K5, fun k hk => ?_⟩, ⟨K3 + K4 + K6, fun k hk => ?_⟩⟩
  · simp only [at_, bO.f]
    rw [e1 k (by omega), Option.bind_some, if_neg (by omega), e2 k (by omega), Option.bind_some, if_pos hf, e5 k (by omega), Option.bind_some, if_neg (by omega)]
  · simp only [at_, bE.f]
    rw [e3 k (by omega), Option.bind_some, if_neg (by omega), e4 k (by omega), Option.bind_some, if_pos hf, e6 k (by omega), Option.bind_some, if_neg (by omega)]

end Go.Proofs.YtggelekooacmnaaDoor.Pure
set_option linter.unusedVariables false
set_option linter.unusedSimpArgs false
namespace Go.Proofs.YtggelekooacmnaaDoor.Pure
open Go.RowKit Go.Proofs.YtggelekooacmnaaDoor.Q Go.Proofs.YtggelekooacmnaaDoorW.aU Go.Proofs.YtggelekooacmnaaDoorW.bD Go.Proofs.YtggelekooacmnaaDoorW.bH
theorem cells_l0 (n : Nat) (x : S24) (a0 a1 a2 m : Int) (hm : m ≤ 4) (ih : Ev (at_ aX.f x) (prt n x)) (hx : (prt n x).length = 1) :
    ∀ (d i : Nat) (o : List S41), o.length ≤ i + 1 → (i : Int) + d = m → Ev (fun k => aX.l0 k o m i a0 a1 a2 m [x]) (o ++ (List.replicate d (prt n x)).flatten) := by
  intro d
  induction d with
  | zero =>
    intro i o ho hi
    refine ⟨1, fun k hk => ?_⟩
    obtain ⟨k, rfl⟩ : ∃ j, k = j + 1 := ⟨k - 1, by omega⟩
    simp only [aX.l0]
    rw [if_neg (by omega)]; simp
  | succ d IH =>
    intro i o ho hi
    obtain ⟨K1, e1⟩ := ih
    obtain ⟨K2, e2⟩ := IH (i + 1) (o ++ prt n x) (by rw [List.length_append]; omega) (by omega)
    refine ⟨max K1 K2 + 1, fun k hk => ?_⟩
    obtain ⟨k, rfl⟩ : ∃ j, k = j + 1 := ⟨k - 1, by omega⟩
    have e1' := e1 k (by omega)
    have e2' := e2 k (by omega)
    unfold at_ at e1'
    dsimp only at e1' e2'
    simp only [aX.l0]
    rw [if_pos (by omega), if_pos (by simp), rd1, e1', Option.bind_some, if_pos (by omega), iP (by omega), e2', List.append_assoc]
    simp only [List.replicate_succ, List.flatten_cons]
theorem cells_l1 (n : Nat) (l : List S24) (hl : l.length ≤ 4) (a0 a1 a2 a3 : Int) (B : Nat) (hB : B ≤ 10000000) (ih : ∀ t ∈ l, Ev (at_ aX.f t) (prt n t) ∧ (prt n t).length ≤ B) :
    ∀ (d i : Nat) (o : List S41), o.length ≤ i * B → i + d = l.length → Ev (fun k => aX.l1 k o l l.length i) (o ++ ((l.drop i).map (prt n)).flatten) := by
  intro d
  induction d with
  | zero =>
    intro i o ho hi
    refine ⟨1, fun k hk => ?_⟩
    obtain ⟨k, rfl⟩ : ∃ j, k = j + 1 := ⟨k - 1, by omega⟩
    simp only [aX.l1]
    rw [if_neg (by omega), List.drop_eq_nil_of_le (by omega)]; simp
  | succ d IH =>
    intro i o ho hi
    have hlt : i < l.length := by omega
    obtain ⟨⟨K1, e1⟩, hb⟩ := ih l[i] (List.getElem_mem hlt)
    have hm : (o ++ prt n l[i]).length ≤ (i + 1) * B := by rw [List.length_append, Nat.add_mul]; omega
    have hm2 : (i + 1) * B ≤ 4 * B := Nat.mul_le_mul_right _ (by omega)
    obtain ⟨K2, e2⟩ := IH (i + 1) (o ++ prt n l[i]) hm (by omega)
    refine ⟨max K1 K2 + 1, fun k hk => ?_⟩
    obtain ⟨k, rfl⟩ : ∃ j, k = j + 1 := ⟨k - 1, by omega⟩
    have e1' := e1 k (by omega)
    have e2' := e2 k (by omega)
    unfold at_ at e1'
    dsimp only at e1' e2'
    simp only [aX.l1]
    rw [List.length_append] at hm
    rw [if_pos (by omega), if_pos (by omega), if_pos (by omega), rdT hlt, e1', Option.bind_some, if_pos (by omega), iP (by omega), e2', List.append_assoc, List.drop_eq_getElem_cons hlt]
    simp only [List.map_cons, List.flatten_cons]
theorem cells_ev (n : Nat) : ∀ {t : S24}, n ≤ 10 → Vt n t → Ev (at_ aX.f t) (prt n t) := by
  induction n with
  | zero => intro t _ h; cases h
  | succ n ih =>
    intro t hn h
    cases h with
    | bool =>
      refine ⟨2, fun k hk => ?_⟩
      obtain ⟨k, rfl⟩ : ∃ j, k = j + 2 := ⟨k - 2, by omega⟩
      simp [at_, aX.f, aX.j0, prt]
    | int _ lo hi h1 h2 h3 =>
      refine ⟨2, fun k hk => ?_⟩
      obtain ⟨k, rfl⟩ : ∃ j, k = j + 2 := ⟨k - 2, by omega⟩
      simp [at_, aX.f, aX.j0, prt]
    | nat =>
      refine ⟨2, fun k hk => ?_⟩
      obtain ⟨k, rfl⟩ : ∃ j, k = j + 2 := ⟨k - 2, by omega⟩
      simp [at_, aX.f, aX.j0, prt]
    | real =>
      refine ⟨2, fun k hk => ?_⟩
      obtain ⟨k, rfl⟩ : ∃ j, k = j + 2 := ⟨k - 2, by omega⟩
      simp [at_, aX.f, aX.j0, prt]
    | tup _ l h1 h2 h3 h4 =>
      have hp := pow5 (show n ≤ 9 by omega)
      obtain ⟨K, e⟩ := cells_l1 n l h2 5 0 0 0 (5 ^ n) (by omega) (fun x hx => ⟨ih (by omega) (h3 x hx), (NQ n (h3 x hx)).1⟩) l.length 0 [] (by simp) (by omega)
      rw [prt5]
      refine ⟨K + 2, fun k hk => ?_⟩
      obtain ⟨k, rfl⟩ : ∃ j, k = j + 2 := ⟨k - 2, by omega⟩
      have e' := e k (by omega)
      simp [at_, aX.f, aX.j0]
      simpa using e'
    | lst _ m x h1 h2 h3 h4 =>
      have e1 := OH h3 h4
      obtain ⟨K, e⟩ := cells_l0 n x 6 0 0 m h2 (ih (by omega) h3) e1 m.toNat 0 [⟨2, 0, m⟩] (by simp) (by omega)
      rw [prt6]
      refine ⟨K + 2, fun k hk => ?_⟩
      obtain ⟨k, rfl⟩ : ∃ j, k = j + 2 := ⟨k - 2, by omega⟩
      have e' := e k (by omega)
      simp [at_, aX.f, aX.j0]
      simpa using e'
end Go.Proofs.YtggelekooacmnaaDoor.Pure
set_option linter.unusedVariables false
set_option linter.unusedSimpArgs false
namespace Go.Proofs.YtggelekooacmnaaDoor.Pure
open Go.RowKit Go.Proofs.YtggelekooacmnaaDoor.Q Go.Proofs.YtggelekooacmnaaDoorW.aU Go.Proofs.YtggelekooacmnaaDoorW.bD Go.Proofs.YtggelekooacmnaaDoorW.bH
def mst (a b : Int) : Int := mn (wrap64 (a * b)) 1073741825
def prd (f : S24 → Int) : List S24 → Int → Int
  | [], m => m
  | x :: l, m => prd f l (mst m (f x))
def pws (s : Int) : Nat → Int → Int → Int
  | 0, n, _ => n
  | d + 1, n, p => pws s d (mn (wrap64 (n + mst p s)) 1073741825) (mst p s)
def siz : Nat → S24 → Int
  | 0, _ => 0
  | n + 1, t => if t.f0 = 5 then prd (siz n) t.f4 1 else if t.f0 = 6 then pws (siz n (ag t.f4 0)) t.f3.toNat 1 1 else if t.f0 = 1 then 2 else t.f2 - t.f1 + 1
theorem size_l0 (n : Nat) (l : List S24) (hl : l.length ≤ 4) (ih : ∀ t ∈ l, Ev (at_ types_size.f t) (siz n t)) :
    ∀ (d i : Nat) (m : Int), i + d = l.length → Ev (fun k => types_size.l0 k m l l.length i) (prd (siz n) (l.drop i) m) := by
  intro d
  induction d with
  | zero =>
    intro i m hi
    refine ⟨1, fun k hk => ?_⟩
    obtain ⟨k, rfl⟩ : ∃ j, k = j + 1 := ⟨k - 1, by omega⟩
    simp only [types_size.l0]
    rw [if_neg (by omega), List.drop_eq_nil_of_le (by omega)]; rfl
  | succ d IH =>
    intro i m hi
    have hlt : i < l.length := by omega
    obtain ⟨K1, e1⟩ := ih l[i] (List.getElem_mem hlt)
    obtain ⟨K2, e2⟩ := IH (i + 1) (mst m (siz n l[i])) (by omega)
    refine ⟨max K1 K2 + 1, fun k hk => ?_⟩
    obtain ⟨k, rfl⟩ : ∃ j, k = j + 1 := ⟨k - 1, by omega⟩
    have e1' := e1 k (by omega)
    have e2' := e2 k (by omega)
    unfold at_ at e1'
    unfold mst at e2'
    dsimp only at e1' e2'
    simp only [types_size.l0]
    rw [if_pos (by omega), if_pos (by omega), if_pos (by omega), rdT hlt, e1', Option.bind_some, iP (by omega), e2', List.drop_eq_getElem_cons hlt]
    rfl
theorem count_l1 (n : Nat) (l : List S24) (hl : l.length ≤ 4) (a0 a1 a2 a3 : Int) (ih : ∀ t ∈ l, Ev (at_ bq.f t) (siz n t)) :
    ∀ (d i : Nat) (m : Int), i + d = l.length → Ev (fun k => bq.l1 k m i a0 a1 a2 a3 l) (prd (siz n) (l.drop i) m) := by
  intro d
  induction d with
  | zero =>
    intro i m hi
    refine ⟨1, fun k hk => ?_⟩
    obtain ⟨k, rfl⟩ : ∃ j, k = j + 1 := ⟨k - 1, by omega⟩
    simp only [bq.l1]
    rw [if_neg (by omega), List.drop_eq_nil_of_le (by omega)]; rfl
  | succ d IH =>
    intro i m hi
    have hlt : i < l.length := by omega
    obtain ⟨K1, e1⟩ := ih l[i] (List.getElem_mem hlt)
    obtain ⟨K2, e2⟩ := IH (i + 1) (mst m (siz n l[i])) (by omega)
    refine ⟨max K1 K2 + 1, fun k hk => ?_⟩
    obtain ⟨k, rfl⟩ : ∃ j, k = j + 1 := ⟨k - 1, by omega⟩
    have e1' := e1 k (by omega)
    have e2' := e2 k (by omega)
    unfold at_ at e1'
    unfold mst at e2'
    dsimp only at e1' e2'
    simp only [bq.l1]
    rw [if_pos (by omega), if_pos (by omega), rdT hlt, e1', Option.bind_some, iP (by omega), e2', List.drop_eq_getElem_cons hlt]
    rfl
theorem size_l1 (s : Int) (m : Nat) (hm : m ≤ 4) : ∀ (d i : Nat) (n p : Int), i + d = m → Ev (fun k => types_size.l1 k n p s m i) (pws s d n p) := by
  intro d
  induction d with
  | zero =>
    intro i n p hi
    refine ⟨1, fun k hk => ?_⟩
    obtain ⟨k, rfl⟩ : ∃ j, k = j + 1 := ⟨k - 1, by omega⟩
    simp only [types_size.l1]
    rw [if_neg (by omega)]; rfl
  | succ d IH =>
    intro i n p hi
    obtain ⟨K2, e2⟩ := IH (i + 1) (mn (wrap64 (n + mst p s)) 1073741825) (mst p s) (by omega)
    refine ⟨K2 + 1, fun k hk => ?_⟩
    obtain ⟨k, rfl⟩ : ∃ j, k = j + 1 := ⟨k - 1, by omega⟩
    have e2' := e2 k (by omega)
    unfold mst at e2'
    dsimp only at e2'
    simp only [types_size.l1]
    rw [if_pos (by omega), iP (by omega), e2']
    rfl
theorem count_l0 (s a0 a1 a2 : Int) (l : List S24) (m : Nat) (hm : m ≤ 4) : ∀ (d i : Nat) (n p : Int), i + d = m → Ev (fun k => bq.l0 k s p n i a0 a1 a2 m l) (pws s d n p) := by
  intro d
  induction d with
  | zero =>
    intro i n p hi
    refine ⟨1, fun k hk => ?_⟩
    obtain ⟨k, rfl⟩ : ∃ j, k = j + 1 := ⟨k - 1, by omega⟩
    simp only [bq.l0]
    rw [if_neg (by omega)]; rfl
  | succ d IH =>
    intro i n p hi
    obtain ⟨K2, e2⟩ := IH (i + 1) (mn (wrap64 (n + mst p s)) 1073741825) (mst p s) (by omega)
    refine ⟨K2 + 1, fun k hk => ?_⟩
    obtain ⟨k, rfl⟩ : ∃ j, k = j + 1 := ⟨k - 1, by omega⟩
    have e2' := e2 k (by omega)
    unfold mst at e2'
    dsimp only at e2'
    simp only [bq.l0]
    rw [if_pos (by omega), iP (by omega), e2']
    rfl
theorem size_ev (n : Nat) : ∀ {t : S24}, n ≤ 10 → Vt n t → t.f0 ≠ 3 → t.f0 ≠ 4 → Ev (at_ types_size.f t) (siz n t) ∧ Ev (at_ bq.f t) (siz n t) := by
  induction n with
  | zero => intro t _ h; cases h
  | succ n ih =>
    intro t hn h h3 h4
    cases h with
    | bool =>
      refine ⟨⟨3, fun k hk => ?_⟩, ⟨3, fun k hk => ?_⟩⟩ <;> obtain ⟨k, rfl⟩ : ∃ j, k = j + 3 := ⟨k - 3, by omega⟩
      · simp [at_, types_size.f, aX.f, aX.j0, jL.f, dH, siz]
      · simp [at_, bq.f, siz]
    | int _ lo hi h1 h2 h3 =>
      have e : wrap64 (wrap64 (hi - lo) + 1) = hi - lo + 1 := by rw [FU (n := hi - lo) (by omega) (by omega), FU (by omega) (by omega)]
      refine ⟨⟨3, fun k hk => ?_⟩, ⟨3, fun k hk => ?_⟩⟩ <;> obtain ⟨k, rfl⟩ : ∃ j, k = j + 3 := ⟨k - 3, by omega⟩
      · simp [at_, types_size.f, aX.f, aX.j0, jL.f, dH, siz, e]
      · simp [at_, bq.f, siz, e]
    | nat => exact absurd rfl h3
    | real => exact absurd rfl h4
    | tup _ l g1 g2 g3 g4 =>
      obtain ⟨K1, e1⟩ := size_l0 n l g2 (fun x hx => (ih (by omega) (g3 x hx) (g4 x hx).1 (g4 x hx).2).1) l.length 0 1 (by omega)
      obtain ⟨K2, e2⟩ := count_l1 n l g2 5 0 0 0 (fun x hx => (ih (by omega) (g3 x hx) (g4 x hx).1 (g4 x hx).2).2) l.length 0 1 (by omega)
      have es : siz (n + 1) ⟨5, 0, 0, 0, l⟩ = prd (siz n) l 1 := by simp only [siz]; rw [if_pos trivial]
      rw [es]
      dsimp only at e1 e2
      refine ⟨⟨K1 + 1, fun k hk => ?_⟩, ⟨K2 + 1, fun k hk => ?_⟩⟩ <;> obtain ⟨k, rfl⟩ : ∃ j, k = j + 1 := ⟨k - 1, by omega⟩
      · have e := e1 k (by omega)
        simp only [at_, types_size.f]
        rw [if_pos trivial, show (0 : Int) = ((0 : Nat) : Int) from rfl, e]; rfl
      · have e := e2 k (by omega)
        simp only [at_, bq.f]
        rw [if_neg (by decide), if_neg (by decide), if_neg (by decide), show (bq.l1 k 1 0 5 0 0 0 l) = _ from e]; rfl
    | lst _ m x g1 g2 g3 g4 =>
      obtain ⟨i1, i2⟩ := ih (by omega) g3 (by omega) (by omega)
      obtain ⟨K3, e3⟩ := i1
      obtain ⟨K4, e4⟩ := i2
      obtain ⟨M, rfl⟩ : ∃ M : Nat, m = M := ⟨m.toNat, by omega⟩
      obtain ⟨K1, e1⟩ := size_l1 (siz n x) M (by omega) M 0 1 1 (by omega)
      obtain ⟨K2, e2⟩ := count_l0 (siz n x) 6 0 0 [x] M (by omega) M 0 1 1 (by omega)
      have es : siz (n + 1) ⟨6, 0, 0, (M : Int), [x]⟩ = pws (siz n x) M 1 1 := by simp only [siz]; rw [if_neg (by decide), if_pos trivial, rd1]; rfl
      rw [es]
      unfold at_ at e3 e4
      dsimp only at e1 e2
      refine ⟨⟨K1 + K3 + 1, fun k hk => ?_⟩, ⟨K2 + K4 + 1, fun k hk => ?_⟩⟩ <;> obtain ⟨k, rfl⟩ : ∃ j, k = j + 1 := ⟨k - 1, by omega⟩
      · have e := e1 k (by omega)
        simp only [at_, types_size.f]
        rw [if_neg (by decide), if_pos trivial, if_pos (by simp), rd1, e3 k (by omega), Option.bind_some]
        exact e
      · have e := e2 k (by omega)
        simp only [at_, bq.f]
        rw [if_neg (by decide), if_neg (by decide), if_pos trivial, if_pos (by simp), rd1, e4 k (by omega), Option.bind_some]
        exact e
end Go.Proofs.YtggelekooacmnaaDoor.Pure
