/- Lemmas for: mo -/
import Derived.Test.YtggelekooacmnaaDoorTb2
import Derived.Test.YtggelekooacmnaaDoorTb3
import Derived.Test.YtggelekooacmnaaDoorTb5
namespace Go.Proofs.YtggelekooacmnaaDoor.Q
open Go.RowKit Go.Proofs.YtggelekooacmnaaDoorW.bg Go.Proofs.YtggelekooacmnaaDoorW.bW Go.Proofs.YtggelekooacmnaaDoorW.dh
attribute [local go_sem] fE fF gy gz eO eP fG fH   -- for this text's walks alone
set_option linter.unusedVariables false
set_option linter.unusedSimpArgs false

/-! ### dX: function 8 -/
def dX.f (k : Nat) (l0 : List Int) : Option (Bool) := (mf.f l0).bind fun AY => ((aG.f k AY.1 AY.2.1 AY.2.2 3).bind fun jw => ((bP.f k AY.1 jw.2.2.2.2.2.1 jw.2.2.2.2.2.2 3).bind fun jy => ((bP.f k AY.1 jy.2.2.2.2.2.1 jy.2.2.2.2.2.2 2).bind fun kF => ((dQ.f AY.1 kF.2.2.2.2.2.1 kF.2.2.2.2.2.2 0 5).bind fun Q0 => ((aJ.f k jw.1 jw.2.1 jw.2.2.1 jw.2.2.2.1 jw.2.2.2.2.1).bind fun t712 => (if t712 = true then ((aJ.f k jy.1 jy.2.1 jy.2.2.1 jy.2.2.2.1 jy.2.2.2.2.1).bind fun Jl => (if Jl = true then ((aJ.f k kF.1 kF.2.1 kF.2.2.1 kF.2.2.2.1 kF.2.2.2.2.1).bind fun EX => (if EX = true then ((aJ.f k 5 0 0 0 (([(⟨jy.1, jy.2.1, jy.2.2.1, jy.2.2.2.1, jy.2.2.2.2.1⟩ : S24), (⟨kF.1, kF.2.1, kF.2.2.1, kF.2.2.2.1, kF.2.2.2.2.1⟩ : S24), (⟨jw.1, jw.2.1, jw.2.2.1, jw.2.2.2.1, jw.2.2.2.2.1⟩ : S24)] : List (S24)))).bind fun BH => (if BH = true then ((aJ.f k 6 0 0 Q0.1 (([(⟨kF.1, kF.2.1, kF.2.2.1, kF.2.2.2.1, kF.2.2.2.2.1⟩ : S24)] : List (S24)))).bind fun zm => (if zm = true then ((kR.f jw.1 jw.2.1 jw.2.2.1 jw.2.2.2.1 jw.2.2.2.2.1 jy.1 jy.2.1 jy.2.2.1 jy.2.2.2.1 jy.2.2.2.2.1).bind fun qM => ((aT.f k jw.1 jw.2.1 jw.2.2.1 jw.2.2.2.1 jw.2.2.2.2.1 jy.1 jy.2.1 jy.2.2.1 jy.2.2.2.1 jy.2.2.2.2.1).bind fun qN => (if (qM == qN) = true then ((fT.f k).bind fun xV => (some xV)) else (some false)))) else (some false))) else (some false))) else (some false))) else (some false))) else (some false)))))))
def dX.T5 : Bool × List (List Nat × List Nat) := (true, [([], []), ([0], [0]), ([1, 1], [1]), ([2], [2]), ([3, 2, 2], [2, 3]), ([2, 4], [2, 4]), ([5, 4], [5]), ([6], [6]), ([7, 6, 6], [6, 7]), ([6, 8], [6, 8]), ([9, 8], [9]), ([10], [10]), ([11, 10, 10], [10, 11]), ([10, 12], [10, 12]), ([13, 12], [13]), ([14], [14]), ([15, 14, 14], [14, 15]), ([14, 16], [14, 16]), ([17, 16], [17]), ([18], [18]), ([18], [18]), ([19, 20, 18, 18], [18, 19, 20]), ([18], [18]), ([18], [18]), ([22, 23, 21, 18], [18, 22, 23]), ([21, 24, 18], [18, 21, 24]), ([18, 25], [18, 25]), ([26, 24], [26]), ([27, 27], [27]), ([27, 28], [27, 28]), ([29, 28, 0, 1, 2, 3, 4, 5, 6, 7, 8, 9, 10, 11, 12, 13, 14, 15, 16, 17, 18, 19, 20, 21, 22, 23, 24, 25, 26, 27, 28, 29], [29])])
def dX.B5 : List Nat := [0, 1, 3, 7, 15, 31, 63, 127, 255, 511, 1023, 2047, 4095, 8191, 16383, 32767, 65535, 131071, 262143, 524287, 524287, 2097151, 524287, 524287, 16777215, 33554431, 67108863, 134217727, 268435455, 536870911, 1073741823]
theorem dX.tab5 : l8 .any (opsOf Tryd.f8 5) = dX.T5 := by kernel_rfl
theorem dX.Py : nQ dX.T5.2 dX.B5 = true := by kernel_rfl
set_option maxHeartbeats 8000000 in
set_option maxRecDepth 100000 in
theorem dX.calls (k : Nat) (A0 : Option Addr) (c0 : Nat) (l0 : List Int) (r : Bool) (w : World) (hr0 : Kd.C (Kd.int .i64) w A0 l0.length l0) (hc0 : l0.length ≤ c0) (h : dX.f k l0 = some r) (htab : vw w.heap.size w) (hrt : r = true) :
  Calls Tryd.prog 8 #[.slice A0 l0.length c0] w fun e w' => e = .returned (.bool r) ∧ Below w.heap.size w w' := by
 have ui := aa.mk htab; clear htab; have qb := Tryd.underlying24; have HR0 := aa.mk hr0; have HC0 := aa.mk hc0; clear hr0 hc0; have HB := aa.mk (Below.refl w.heap.size w); have H : ((mf.f l0).bind fun AY => ((aG.f k AY.1 AY.2.1 AY.2.2 3).bind fun jw => ((bP.f k AY.1 jw.2.2.2.2.2.1 jw.2.2.2.2.2.2 3).bind fun jy => ((bP.f k AY.1 jy.2.2.2.2.2.1 jy.2.2.2.2.2.2 2).bind fun kF => ((dQ.f AY.1 kF.2.2.2.2.2.1 kF.2.2.2.2.2.2 0 5).bind fun Q0 => ((aJ.f k jw.1 jw.2.1 jw.2.2.1 jw.2.2.2.1 jw.2.2.2.2.1).bind fun t712 => (if t712 = true then ((aJ.f k jy.1 jy.2.1 jy.2.2.1 jy.2.2.2.1 jy.2.2.2.2.1).bind fun Jl => (if Jl = true then ((aJ.f k kF.1 kF.2.1 kF.2.2.1 kF.2.2.2.1 kF.2.2.2.2.1).bind fun EX => (if EX = true then ((aJ.f k 5 0 0 0 (([(⟨jy.1, jy.2.1, jy.2.2.1, jy.2.2.2.1, jy.2.2.2.2.1⟩ : S24), (⟨kF.1, kF.2.1, kF.2.2.1, kF.2.2.2.1, kF.2.2.2.2.1⟩ : S24), (⟨jw.1, jw.2.1, jw.2.2.1, jw.2.2.2.1, jw.2.2.2.2.1⟩ : S24)] : List (S24)))).bind fun BH => (if BH = true then ((aJ.f k 6 0 0 Q0.1 (([(⟨kF.1, kF.2.1, kF.2.2.1, kF.2.2.2.1, kF.2.2.2.2.1⟩ : S24)] : List (S24)))).bind fun zm => (if zm = true then ((kR.f jw.1 jw.2.1 jw.2.2.1 jw.2.2.2.1 jw.2.2.2.2.1 jy.1 jy.2.1 jy.2.2.1 jy.2.2.2.1 jy.2.2.2.2.1).bind fun qM => ((aT.f k jw.1 jw.2.1 jw.2.2.1 jw.2.2.2.1 jw.2.2.2.2.1 jy.1 jy.2.1 jy.2.2.1 jy.2.2.2.1 jy.2.2.2.2.1).bind fun qN => (if (qM == qN) = true then ((fT.f k).bind fun xV => (some xV)) else (some false)))) else (some false))) else (some false))) else (some false))) else (some false))) else (some false)))))))) = some r := h; clear h; replace H := Option.bind_eq_some_iff.mp H; obtain ⟨⟨kG, t668, t669⟩, A20, H⟩ := H; (try dsimp only at H)
 have A2 := aa.mk A20; clear A20; replace H := Option.bind_eq_some_iff.mp H; obtain ⟨⟨iT, iU, iV, iW, cu, t678, t679⟩, A30, H⟩ := H; (try dsimp only at H)
 have A3 := aa.mk A30; clear A30; replace H := Option.bind_eq_some_iff.mp H; obtain ⟨⟨iX, iY, iZ, ja, cB, t687, t688⟩, A40, H⟩ := H; (try dsimp only at H)
 have A4 := aa.mk A40; clear A40; replace H := Option.bind_eq_some_iff.mp H; obtain ⟨⟨gU, gV, gW, gX, dn, pG, pI⟩, A50, H⟩ := H; (try dsimp only at H)
 have A5 := aa.mk A50; clear A50; obtain ⟨cZ, Q3⟩ : ∃ y_ : List (S24), y_ = (([(⟨iX, iY, iZ, ja, cB⟩ : S24), (⟨gU, gV, gW, gX, dn⟩ : S24), (⟨iT, iU, iV, iW, cu⟩ : S24)] : List (S24))) := ⟨_, rfl⟩; replace H : ((dQ.f kG pG pI 0 5).bind fun Q0 => ((aJ.f k iT iU iV iW cu).bind fun t712 => (if t712 = true then ((aJ.f k iX iY iZ ja cB).bind fun Jl => (if Jl = true then ((aJ.f k gU gV gW gX dn).bind fun EX => (if EX = true then ((aJ.f k 5 0 0 0 cZ).bind fun BH => (if BH = true then ((aJ.f k 6 0 0 Q0.1 (([(⟨gU, gV, gW, gX, dn⟩ : S24)] : List (S24)))).bind fun zm => (if zm = true then ((kR.f iT iU iV iW cu iX iY iZ ja cB).bind fun qM => ((aT.f k iT iU iV iW cu iX iY iZ ja cB).bind fun qN => (if (qM == qN) = true then ((fT.f k).bind fun xV => (some xV)) else (some false)))) else (some false))) else (some false))) else (some false))) else (some false))) else (some false)))) = some r := by first | (rw [Q3]; with_reducible exact H) | (have H2_ := (Option.bind_some _ _).symm.trans H; rw [Q3]; with_reducible exact H2_) | (have H2_ := (Option.bind_some _ _).symm.trans H; with_reducible exact H2_) | with_reducible exact H | (rw [Q3]; exact H) | exact H
 have Ny701 := aa.mk Q3; clear Q3; replace H := Option.bind_eq_some_iff.mp H; obtain ⟨⟨lN, zn, zo⟩, A60, H⟩ := H; (try dsimp only at H)
 have A6 := aa.mk A60; clear A60; obtain ⟨ku, Q4⟩ : ∃ y_ : List (S24), y_ = (([(⟨gU, gV, gW, gX, dn⟩ : S24)] : List (S24))) := ⟨_, rfl⟩; replace H : ((aJ.f k iT iU iV iW cu).bind fun t712 => (if t712 = true then ((aJ.f k iX iY iZ ja cB).bind fun Jl => (if Jl = true then ((aJ.f k gU gV gW gX dn).bind fun EX => (if EX = true then ((aJ.f k 5 0 0 0 cZ).bind fun BH => (if BH = true then ((aJ.f k 6 0 0 lN ku).bind fun zm => (if zm = true then ((kR.f iT iU iV iW cu iX iY iZ ja cB).bind fun qM => ((aT.f k iT iU iV iW cu iX iY iZ ja cB).bind fun qN => (if (qM == qN) = true then ((fT.f k).bind fun xV => (some xV)) else (some false)))) else (some false))) else (some false))) else (some false))) else (some false))) else (some false))) = some r := by first | (rw [Q4]; with_reducible exact H) | (have H2_ := (Option.bind_some _ _).symm.trans H; rw [Q4]; with_reducible exact H2_) | (have H2_ := (Option.bind_some _ _).symm.trans H; with_reducible exact H2_) | with_reducible exact H | (rw [Q4]; exact H) | exact H
 have JW := aa.mk Q4; clear Q4; replace H := Option.bind_eq_some_iff.mp H; obtain ⟨t712, A70, H⟩ := H; (try dsimp only at H)
 have A7 := aa.mk A70; clear A70; by_cases c8 : t712 = true
 ·subst c8; have H1 : ((aJ.f k iX iY iZ ja cB).bind fun Jl => (if Jl = true then ((aJ.f k gU gV gW gX dn).bind fun EX => (if EX = true then ((aJ.f k 5 0 0 0 cZ).bind fun BH => (if BH = true then ((aJ.f k 6 0 0 lN ku).bind fun zm => (if zm = true then ((kR.f iT iU iV iW cu iX iY iZ ja cB).bind fun qM => ((aT.f k iT iU iV iW cu iX iY iZ ja cB).bind fun qN => (if (qM == qN) = true then ((fT.f k).bind fun xV => (some xV)) else (some false)))) else (some false))) else (some false))) else (some false))) else (some false))) = some r := by rw [if_pos rfl] at H; exact H
  clear H; have H := H1; clear H1; replace H := Option.bind_eq_some_iff.mp H; obtain ⟨Jl, A90, H⟩ := H; (try dsimp only at H)
  have A9 := aa.mk A90; clear A90; by_cases c10 : Jl = true
  ·subst c10; have H1 : ((aJ.f k gU gV gW gX dn).bind fun EX => (if EX = true then ((aJ.f k 5 0 0 0 cZ).bind fun BH => (if BH = true then ((aJ.f k 6 0 0 lN ku).bind fun zm => (if zm = true then ((kR.f iT iU iV iW cu iX iY iZ ja cB).bind fun qM => ((aT.f k iT iU iV iW cu iX iY iZ ja cB).bind fun qN => (if (qM == qN) = true then ((fT.f k).bind fun xV => (some xV)) else (some false)))) else (some false))) else (some false))) else (some false))) = some r := by rw [if_pos rfl] at H; exact H
   clear H; have H := H1; clear H1; replace H := Option.bind_eq_some_iff.mp H; obtain ⟨EX, A110, H⟩ := H; (try dsimp only at H)
   have A11 := aa.mk A110; clear A110; by_cases c12 : EX = true
   ·subst c12; have H1 : ((aJ.f k 5 0 0 0 cZ).bind fun BH => (if BH = true then ((aJ.f k 6 0 0 lN ku).bind fun zm => (if zm = true then ((kR.f iT iU iV iW cu iX iY iZ ja cB).bind fun qM => ((aT.f k iT iU iV iW cu iX iY iZ ja cB).bind fun qN => (if (qM == qN) = true then ((fT.f k).bind fun xV => (some xV)) else (some false)))) else (some false))) else (some false))) = some r := by rw [if_pos rfl] at H; exact H
    clear H; have H := H1; clear H1; replace H := Option.bind_eq_some_iff.mp H; obtain ⟨BH, A130, H⟩ := H; (try dsimp only at H)
    have A13 := aa.mk A130; clear A130; by_cases c14 : BH = true
    ·subst c14; have H1 : ((aJ.f k 6 0 0 lN ku).bind fun zm => (if zm = true then ((kR.f iT iU iV iW cu iX iY iZ ja cB).bind fun qM => ((aT.f k iT iU iV iW cu iX iY iZ ja cB).bind fun qN => (if (qM == qN) = true then ((fT.f k).bind fun xV => (some xV)) else (some false)))) else (some false))) = some r := by rw [if_pos rfl] at H; exact H
     clear H; have H := H1; clear H1; replace H := Option.bind_eq_some_iff.mp H; obtain ⟨zm, A150, H⟩ := H; (try dsimp only at H)
     have A15 := aa.mk A150; clear A150; by_cases c16 : zm = true
     ·subst c16; have H1 : ((kR.f iT iU iV iW cu iX iY iZ ja cB).bind fun qM => ((aT.f k iT iU iV iW cu iX iY iZ ja cB).bind fun qN => (if (qM == qN) = true then ((fT.f k).bind fun xV => (some xV)) else (some false)))) = some r := by rw [if_pos rfl] at H; exact H
      clear H; have H := H1; clear H1; replace H := Option.bind_eq_some_iff.mp H; obtain ⟨qM, A170, H⟩ := H; (try dsimp only at H)
      have A17 := aa.mk A170; clear A170; replace H := Option.bind_eq_some_iff.mp H; obtain ⟨qN, A180, H⟩ := H; (try dsimp only at H)
      have A18 := aa.mk A180; clear A180; by_cases c19 : (qM == qN) = true
      ·rw [if_pos c19] at H; have Fq : (qM == qN) = true := c19; (try (have Gp : decide (qM = qN) = true := by simpa using c19))
       (try (have c19b2 : (qM == qN) = true := by simpa using c19))
       clear c19; replace H := Option.bind_eq_some_iff.mp H; obtain ⟨xV, A200, H⟩ := H; (try dsimp only at H)
       have A20 := aa.mk A200; clear A200; obtain rfl := Option.some.inj H; go_enter Tryd.func8, Tryd.ntmps8; try go_wp2_with (first | ((with_reducible refine aC (f := 14) rfl ?_); refine aX (some 10) rfl rfl Tryd.func14 (by kernel_rfl) rfl #[.slice A0 l0.length c0] rfl mp_ ?_; (with_reducible refine (mf.calls _ _ l0 kG t668 t669 w _ ?ay ?az ?iB A2.out).mono ?_); (case ay => exact bl_); (case az => exact HR0.out); (case iB => exact HC0.out); rintro e w21 ⟨bI, rfl, hi, hb, hb2⟩; refine ⟨_, rfl, ?_⟩; have gI := aa.mk (hi); replace HB := aa.mk (hb); (try clear hb); (try clear hb2); (try clear hk); (try clear hi)) | ((with_reducible refine aC (f := 15) rfl ?_); refine aX (some 12) rfl rfl Tryd.func15 (by kernel_rfl) rfl #[.pointer (some ⟨bI, 0, none⟩), .int .i64 3] rfl mp_ ?_; (with_reducible refine (aG.calls k bI kG t668 t669 3 iT iU iV iW cu t678 t679 w _ ?ay ?az A3.out).mono ?_); (case ay => repeat (first | (with_reducible first | exact gI.out | apply aD.alloc | apply aD.drewN | apply aD.drew | apply aD.sG | apply aD.sH) | exact gI.out)); (case az => repeat (first | (with_reducible first | exact HB.out | apply bS | apply bO | apply bQ | refine ed ?_ (aD.ge gI.out)) | exact HB.out)); rintro e w22 ⟨v676, rfl, ho0, hi, hb, hk⟩; refine ⟨_, rfl, ?_⟩; have dS := aa.mk (Kd.kW (Kd.aM (ok' := fun k_ => k_ ≠ bI) ho0 (fun k_ hk_ => (aD.fresh si_ k_ hk_))) (ax bl_)); replace HB := aa.mk (hb); replace gI := aa.mk (hi); (try clear hb); (try clear hb2); (try clear hk); (try clear hi); (try clear ho0)) | ((with_reducible refine aC (f := 27) rfl ?_); refine aX (some 14) rfl rfl Tryd.func27 (by kernel_rfl) rfl #[.pointer (some ⟨bI, 0, none⟩), .int .i64 3] rfl mp_ ?_; (with_reducible refine (bP.calls k bI kG t678 t679 3 iX iY iZ ja cB t687 t688 w _ ?ay ?az A4.out).mono ?_); (case ay => repeat (first | (with_reducible first | exact gI.out | apply aD.alloc | apply aD.drewN | apply aD.drew | apply aD.sG | apply aD.sH) | exact gI.out)); (case az => repeat (first | (with_reducible first | exact HB.out | apply bS | apply bO | apply bQ | refine ed ?_ (aD.ge gI.out)) | exact HB.out)); rintro e w23 ⟨v685, rfl, ho0, hi, hb, hk⟩; refine ⟨_, rfl, ?_⟩; have ek := aa.mk (Kd.kW (Kd.aM (ok' := fun k_ => some k_ ≠ (v676 : Value).ownBlock ∧ k_ ≠ bI) ho0 (fun k_ hk_ => ⟨(Kd.fresh' (Kd.xH (pN_ dS.out)) k_ hk_), (aD.fresh si_ k_ hk_)⟩)) (ax bl_)); replace dS := aa.mk (Kd.aM (Kd.J8 (Kd.J7 (Kd.aM (ok := fun k_ => k_ ≠ bI) (pN_ dS.out) (fun k_ hk_ => (⟨hk_, hk_⟩ : _ ∧ k_ ≠ bI))) hk) (by first | exact Kd.iq ho0 | exact Kd.cO ho0 | exact Kd.iq (Kd.S_N ho0))) (fun _ h_ => h_.1)); replace HB := aa.mk (hb); replace gI := aa.mk (hi); (try clear hb); (try clear hb2); (try clear hk); (try clear hi); (try clear ho0)) | ((with_reducible refine aC (f := 27) rfl ?_); refine aX (some 16) rfl rfl Tryd.func27 (by kernel_rfl) rfl #[.pointer (some ⟨bI, 0, none⟩), .int .i64 2] rfl mp_ ?_; (with_reducible refine (bP.calls k bI kG t687 t688 2 gU gV gW gX dn pG pI w _ ?ay ?az A5.out).mono ?_); (case ay => repeat (first | (with_reducible first | exact gI.out | apply aD.alloc | apply aD.drewN | apply aD.drew | apply aD.sG | apply aD.sH) | exact gI.out)); (case az => repeat (first | (with_reducible first | exact HB.out | apply bS | apply bO | apply bQ | refine ed ?_ (aD.ge gI.out)) | exact HB.out)); rintro e w24 ⟨v694, rfl, ho0, hi, hb, hk⟩; refine ⟨_, rfl, ?_⟩; have eB := aa.mk (Kd.kW (Kd.aM (ok' := fun k_ => some k_ ≠ (v676 : Value).ownBlock ∧ some k_ ≠ (v685 : Value).ownBlock ∧ k_ ≠ bI) ho0 (fun k_ hk_ => ⟨(Kd.fresh' (Kd.xH (pN_ dS.out)) k_ hk_), (Kd.fresh' (Kd.xH (pN_ ek.out)) k_ hk_), (aD.fresh si_ k_ hk_)⟩)) (ax bl_)); replace dS := aa.mk (Kd.aM (Kd.J8 (Kd.J7 (Kd.aM (ok := fun k_ => (k_ ≠ bI ∧ some k_ ≠ (v685 : Value).ownBlock)) (pN_ dS.out) (fun k_ hk_ => (⟨hk_, hk_.1⟩ : _ ∧ k_ ≠ bI))) hk) (by first | exact Kd.iq ho0 | exact Kd.cO ho0 | exact Kd.iq (Kd.S_N ho0))) (fun _ h_ => h_.1)); replace ek := aa.mk (Kd.aM (Kd.J8 (Kd.J7 (Kd.aM (ok := fun k_ => (some k_ ≠ (v676 : Value).ownBlock ∧ k_ ≠ bI)) (pN_ ek.out) (fun k_ hk_ => (⟨hk_, hk_.2⟩ : _ ∧ k_ ≠ bI))) hk) (by first | exact Kd.iq ho0 | exact Kd.cO ho0 | exact Kd.iq (Kd.S_N ho0))) (fun _ h_ => h_.1)); replace HB := aa.mk (hb); replace gI := aa.mk (hi); (try clear hb); (try clear hb2); (try clear hk); (try clear hi); (try clear ho0)) | ((with_reducible refine aU (N := 4) rfl ?_); refine aY ?hg (N := 4) ?hd (cs := #[.int .i64 0, .int .i64 0, .int .i64 0, .int .i64 0, .slice none 0 0]) (t := 24) ?hr ?_; (case hd => rfl); (case hg => rfl); (case hr => first | (go_simp; done) | (go_simp; rfl)); intro bD hg w25 aK hb; have dw := aa.mk (aK); have GW698 : aa (w.heap.size ≤ bD) := gw_ hg (ax bl_); have GE698 := GW698; have FJ := aa.mk ((by rw [hg]; exact Nat.ne_of_lt (aD.lt (show aD w _ bI kG pG pI from si_)) : bI ≠ bD)); have FL := aa.mk ((by rw [hg]; exact Nat.ne_of_gt (aD.lt (show aD w _ bI kG pG pI from si_)) : bD ≠ bI)); replace dS := aa.mk (Kd.dF (Kd.gT (pN_ dS.out) bD (Nat.le_of_eq hg.symm)) hb); replace ek := aa.mk (Kd.dF (Kd.gT (pN_ ek.out) bD (Nat.le_of_eq hg.symm)) hb); replace eB := aa.mk (Kd.dF (Kd.gT (pN_ eB.out) bD (Nat.le_of_eq hg.symm)) hb); replace gI := aa.mk (aD.below si_ hb); replace HB := aa.mk (ai bl_ hb); clear hb aK hg) | ((with_reducible refine aU (N := 5) rfl ?_); refine aY ?hg (N := 5) ?hd (cs := #[.int .i64 0, .int .i64 0, .int .i64 0, .int .i64 0, .slice none 0 0]) (t := 24) ?hr ?_; (case hd => rfl); (case hg => rfl); (case hr => first | (go_simp; done) | (go_simp; rfl)); intro bE hg w26 aK hb; have dB := aa.mk (aK); have GW699 : aa (w.heap.size ≤ bE) := gw_ hg (ax bl_); have GE699 := GW699; have YN := nl_ dw hg; have YO := ng_ dw hg; have FM := aa.mk ((by rw [hg]; exact Nat.ne_of_lt (aD.lt (show aD w _ bI kG pG pI from si_)) : bI ≠ bE)); have FN := aa.mk ((by rw [hg]; exact Nat.ne_of_gt (aD.lt (show aD w _ bI kG pG pI from si_)) : bE ≠ bI)); replace dS := aa.mk (Kd.dF (Kd.gT (pN_ dS.out) bE (Nat.le_of_eq hg.symm)) hb); replace ek := aa.mk (Kd.dF (Kd.gT (pN_ ek.out) bE (Nat.le_of_eq hg.symm)) hb); replace eB := aa.mk (Kd.dF (Kd.gT (pN_ eB.out) bE (Nat.le_of_eq hg.symm)) hb); replace gI := aa.mk (aD.below si_ hb); replace dw := kb_ dw hb; replace HB := aa.mk (ai bl_ hb); clear hb aK hg) | ((with_reducible refine aU (N := 6) rfl ?_); refine aY ?hg (N := 6) ?hd (cs := #[.int .i64 0, .int .i64 0, .int .i64 0, .int .i64 0, .slice none 0 0]) (t := 24) ?hr ?_; (case hd => rfl); (case hg => rfl); (case hr => first | (go_simp; done) | (go_simp; rfl)); intro aN hg w27 aK hb; have bN := aa.mk (aK); have GW700 : aa (w.heap.size ≤ aN) := gw_ hg (ax bl_); have GE700 := GW700; have YP := nl_ dw hg; have YQ := ng_ dw hg; have YR := nl_ dB hg; have YS := ng_ dB hg; have FO := aa.mk ((by rw [hg]; exact Nat.ne_of_lt (aD.lt (show aD w _ bI kG pG pI from si_)) : bI ≠ aN)); have FP := aa.mk ((by rw [hg]; exact Nat.ne_of_gt (aD.lt (show aD w _ bI kG pG pI from si_)) : aN ≠ bI)); replace dS := aa.mk (Kd.dF (Kd.gT (pN_ dS.out) aN (Nat.le_of_eq hg.symm)) hb); replace ek := aa.mk (Kd.dF (Kd.gT (pN_ ek.out) aN (Nat.le_of_eq hg.symm)) hb); replace eB := aa.mk (Kd.dF (Kd.gT (pN_ eB.out) aN (Nat.le_of_eq hg.symm)) hb); replace gI := aa.mk (aD.below si_ hb); replace dw := kb_ dw hb; replace dB := kb_ dB hb; replace HB := aa.mk (ai bl_ hb); clear hb aK hg; have hnb28 := YN.out; have hnc28 := YO.out; have hnb29 := YP.out; have hnc29 := YQ.out; have hnb30 := FL.out; have hnc30 := FJ.out; obtain ⟨zy, zz, zA, BZ, Ca, zB, zC, zD, Cb, Cc⟩ := bz dw.out; obtain ⟨dK, dI, eo32⟩ := Kd.jS dS.out; subst eo32) | ((with_reducible refine sF (t := 24) (p := 4) rfl ?_); refine qO (t := 24) (p := 4) (v := ?vo_w33) (w1 := (((((w27.setCell ⟨bD, 0, none⟩ (.int .i64 iT)).setCell ⟨bD, 1, none⟩ (.int .i64 iU)).setCell ⟨bD, 2, none⟩ (.int .i64 iV)).setCell ⟨bD, 3, none⟩ (.int .i64 iW)).setCell ⟨bD, 4, none⟩ (.slice dK cu.length dI))) ?hg ?ho ?hn ?hr ?_; (case ho => rfl); (case hg => rfl); (case hn => rfl); (case hr => first | (go_simp; done) | (go_simp; rfl)); intro w33 hw; replace dS : aa (Kd.N k24 24 w33 w.heap.size (fun k_ => some k_ ≠ (v685 : Value).ownBlock ∧ some k_ ≠ (v694 : Value).ownBlock ∧ k_ ≠ bI ∧ k_ ≠ bD ∧ k_ ≠ bE ∧ k_ ≠ aN) (.slice dK cu.length dI) cu) := ⟨(by rw [hw]; exact (by (with_reducible repeat (first | apply Kd.dL | apply Kd.dM | apply Kd.dO)); exact Kd.aM (Kd.bH (p := ⟨bD, 4, none⟩) (Kd.bH (p := ⟨bD, 3, none⟩) (Kd.bH (p := ⟨bD, 2, none⟩) (Kd.bH (p := ⟨bD, 1, none⟩) (Kd.bH (p := ⟨bD, 0, none⟩) (Kd.aM dS.out (fun k_ hk => (⟨hk, by first | exact hk.1.1.2 | exact hk.1 | exact hk.2 | exact hk.1.1 | exact hk.1.2⟩ : _ ∧ k_ ≠ bD))) (fun _ hk => hk.2) (.int .i64 iT)) (fun _ hk => hk.2) (.int .i64 iU)) (fun _ hk => hk.2) (.int .i64 iV)) (fun _ hk => hk.2) (.int .i64 iW)) (fun _ hk => hk.2) (.slice dK cu.length dI)) (fun _ hk => ⟨hk.1.1.1.1.1.2, ⟨hk.1.1.1.1.2, ⟨hk.1.1.1.1.1.1, ⟨hk.1.1.1.2, ⟨hk.1.1.2, hk.1.2⟩⟩⟩⟩⟩)))⟩; replace ek : aa (Kd.N k24 24 w33 w.heap.size (fun k_ => some k_ ≠ (.slice dK cu.length dI : Value).ownBlock ∧ some k_ ≠ (v694 : Value).ownBlock ∧ k_ ≠ bI ∧ k_ ≠ bD ∧ k_ ≠ bE ∧ k_ ≠ aN) v685 cB) := ⟨(by rw [hw]; exact (by (with_reducible repeat (first | apply Kd.dL | apply Kd.dM | apply Kd.dO)); exact Kd.aM (Kd.bH (p := ⟨bD, 4, none⟩) (Kd.bH (p := ⟨bD, 3, none⟩) (Kd.bH (p := ⟨bD, 2, none⟩) (Kd.bH (p := ⟨bD, 1, none⟩) (Kd.bH (p := ⟨bD, 0, none⟩) (Kd.aM ek.out (fun k_ hk => (⟨hk, by first | exact hk.1.1.2 | exact hk.1 | exact hk.2 | exact hk.1.1 | exact hk.1.2⟩ : _ ∧ k_ ≠ bD))) (fun _ hk => hk.2) (.int .i64 iT)) (fun _ hk => hk.2) (.int .i64 iU)) (fun _ hk => hk.2) (.int .i64 iV)) (fun _ hk => hk.2) (.int .i64 iW)) (fun _ hk => hk.2) (.slice dK cu.length dI)) (fun _ hk => ⟨hk.1.1.1.1.1.1, ⟨hk.1.1.1.1.2, ⟨hk.1.1.1.1.1.2, ⟨hk.1.1.1.2, ⟨hk.1.1.2, hk.1.2⟩⟩⟩⟩⟩)))⟩; replace eB : aa (Kd.N k24 24 w33 w.heap.size (fun k_ => some k_ ≠ (.slice dK cu.length dI : Value).ownBlock ∧ some k_ ≠ (v685 : Value).ownBlock ∧ k_ ≠ bI ∧ k_ ≠ bD ∧ k_ ≠ bE ∧ k_ ≠ aN) v694 dn) := ⟨(by rw [hw]; exact (by (with_reducible repeat (first | apply Kd.dL | apply Kd.dM | apply Kd.dO)); exact Kd.aM (Kd.bH (p := ⟨bD, 4, none⟩) (Kd.bH (p := ⟨bD, 3, none⟩) (Kd.bH (p := ⟨bD, 2, none⟩) (Kd.bH (p := ⟨bD, 1, none⟩) (Kd.bH (p := ⟨bD, 0, none⟩) (Kd.aM eB.out (fun k_ hk => (⟨hk, by first | exact hk.1.1.2 | exact hk.1 | exact hk.2 | exact hk.1.1 | exact hk.1.2⟩ : _ ∧ k_ ≠ bD))) (fun _ hk => hk.2) (.int .i64 iT)) (fun _ hk => hk.2) (.int .i64 iU)) (fun _ hk => hk.2) (.int .i64 iV)) (fun _ hk => hk.2) (.int .i64 iW)) (fun _ hk => hk.2) (.slice dK cu.length dI)) (fun _ hk => ⟨hk.1.1.1.1.1, ⟨hk.1.1.1.1.2.1, ⟨hk.1.1.1.1.2.2, ⟨hk.1.1.1.2, ⟨hk.1.1.2, hk.1.2⟩⟩⟩⟩⟩)))⟩; replace dw : aa (w33.heap[bD]? = some (.cells #[.int .i64 iT, .int .i64 iU, .int .i64 iV, .int .i64 iW, .slice dK cu.length dI] 24 (0, 0))) := ⟨(by rw [hw]; exact b5_)⟩; replace dB : aa (w33.heap[bE]? = some (.cells #[.int .i64 0, .int .i64 0, .int .i64 0, .int .i64 0, .slice none 0 0] 24 (0, 0))) := ⟨(by rw [hw]; exact b5_)⟩; replace bN : aa (w33.heap[aN]? = some (.cells #[.int .i64 0, .int .i64 0, .int .i64 0, .int .i64 0, .slice none 0 0] 24 (0, 0))) := ⟨(by rw [hw]; exact b5_)⟩; replace gI : aa (aD w w33 bI kG pG pI) := ⟨(by rw [hw]; exact si_)⟩; replace HB : aa (Below w.heap.size w w33) := ⟨(by rw [hw]; exact bl_)⟩; clear hw; have hnb34 := YR.out; have hnc34 := YS.out; have hnb35 := FN.out; have hnc35 := FM.out; obtain ⟨Hm, Ho, Hq, Hr, Ht, Hu, Hw, Hy, Hz, HV⟩ := bz dB.out; obtain ⟨dU, dV, eo37⟩ := Kd.jS ek.out; subst eo37) | ((with_reducible refine sF (t := 24) (p := 5) rfl ?_); refine qO (t := 24) (p := 5) (v := ?vo_w38) (w1 := (((((w33.setCell ⟨bE, 0, none⟩ (.int .i64 iX)).setCell ⟨bE, 1, none⟩ (.int .i64 iY)).setCell ⟨bE, 2, none⟩ (.int .i64 iZ)).setCell ⟨bE, 3, none⟩ (.int .i64 ja)).setCell ⟨bE, 4, none⟩ (.slice dU cB.length dV))) ?hg ?ho ?hn ?hr ?_; (case ho => rfl); (case hg => rfl); (case hn => rfl); (case hr => first | (go_simp; done) | (go_simp; rfl)); intro w38 hw; replace dS : aa (Kd.N k24 24 w38 w.heap.size (fun k_ => some k_ ≠ (.slice dU cB.length dV : Value).ownBlock ∧ some k_ ≠ (v694 : Value).ownBlock ∧ k_ ≠ bI ∧ k_ ≠ bD ∧ k_ ≠ bE ∧ k_ ≠ aN) (.slice dK cu.length dI) cu) := ⟨(by rw [hw]; exact (by (with_reducible repeat (first | apply Kd.dL | apply Kd.dM | apply Kd.dO)); exact Kd.aM (Kd.bH (p := ⟨bE, 4, none⟩) (Kd.bH (p := ⟨bE, 3, none⟩) (Kd.bH (p := ⟨bE, 2, none⟩) (Kd.bH (p := ⟨bE, 1, none⟩) (Kd.bH (p := ⟨bE, 0, none⟩) (Kd.aM dS.out (fun k_ hk => (⟨hk, by first | exact hk.2.2.2.2.1 | exact hk.1 | exact hk.2 | exact hk.1.1 | exact hk.1.2⟩ : _ ∧ k_ ≠ bE))) (fun _ hk => hk.2) (.int .i64 iX)) (fun _ hk => hk.2) (.int .i64 iY)) (fun _ hk => hk.2) (.int .i64 iZ)) (fun _ hk => hk.2) (.int .i64 ja)) (fun _ hk => hk.2) (.slice dU cB.length dV)) (fun _ hk => ⟨hk.1.1, ⟨hk.1.2.1, ⟨hk.1.2.2.1, ⟨hk.1.2.2.2.1, ⟨hk.1.2.2.2.2.1, hk.1.2.2.2.2.2⟩⟩⟩⟩⟩)))⟩; replace ek : aa (Kd.N k24 24 w38 w.heap.size (fun k_ => some k_ ≠ (.slice dK cu.length dI : Value).ownBlock ∧ some k_ ≠ (v694 : Value).ownBlock ∧ k_ ≠ bI ∧ k_ ≠ bD ∧ k_ ≠ bE ∧ k_ ≠ aN) (.slice dU cB.length dV) cB) := ⟨(by rw [hw]; exact (by (with_reducible repeat (first | apply Kd.dL | apply Kd.dM | apply Kd.dO)); exact Kd.aM (Kd.bH (p := ⟨bE, 4, none⟩) (Kd.bH (p := ⟨bE, 3, none⟩) (Kd.bH (p := ⟨bE, 2, none⟩) (Kd.bH (p := ⟨bE, 1, none⟩) (Kd.bH (p := ⟨bE, 0, none⟩) (Kd.aM ek.out (fun k_ hk => (⟨hk, by first | exact hk.2.2.2.2.1 | exact hk.1 | exact hk.2 | exact hk.1.1 | exact hk.1.2⟩ : _ ∧ k_ ≠ bE))) (fun _ hk => hk.2) (.int .i64 iX)) (fun _ hk => hk.2) (.int .i64 iY)) (fun _ hk => hk.2) (.int .i64 iZ)) (fun _ hk => hk.2) (.int .i64 ja)) (fun _ hk => hk.2) (.slice dU cB.length dV)) (fun _ hk => ⟨hk.1.1, ⟨hk.1.2.1, ⟨hk.1.2.2.1, ⟨hk.1.2.2.2.1, ⟨hk.1.2.2.2.2.1, hk.1.2.2.2.2.2⟩⟩⟩⟩⟩)))⟩; replace eB : aa (Kd.N k24 24 w38 w.heap.size (fun k_ => some k_ ≠ (.slice dK cu.length dI : Value).ownBlock ∧ some k_ ≠ (.slice dU cB.length dV : Value).ownBlock ∧ k_ ≠ bI ∧ k_ ≠ bD ∧ k_ ≠ bE ∧ k_ ≠ aN) v694 dn) := ⟨(by rw [hw]; exact (by (with_reducible repeat (first | apply Kd.dL | apply Kd.dM | apply Kd.dO)); exact Kd.aM (Kd.bH (p := ⟨bE, 4, none⟩) (Kd.bH (p := ⟨bE, 3, none⟩) (Kd.bH (p := ⟨bE, 2, none⟩) (Kd.bH (p := ⟨bE, 1, none⟩) (Kd.bH (p := ⟨bE, 0, none⟩) (Kd.aM eB.out (fun k_ hk => (⟨hk, by first | exact hk.2.2.2.2.1 | exact hk.1 | exact hk.2 | exact hk.1.1 | exact hk.1.2⟩ : _ ∧ k_ ≠ bE))) (fun _ hk => hk.2) (.int .i64 iX)) (fun _ hk => hk.2) (.int .i64 iY)) (fun _ hk => hk.2) (.int .i64 iZ)) (fun _ hk => hk.2) (.int .i64 ja)) (fun _ hk => hk.2) (.slice dU cB.length dV)) (fun _ hk => ⟨hk.1.1, ⟨hk.1.2.1, ⟨hk.1.2.2.1, ⟨hk.1.2.2.2.1, ⟨hk.1.2.2.2.2.1, hk.1.2.2.2.2.2⟩⟩⟩⟩⟩)))⟩; replace dw : aa (w38.heap[bD]? = some (.cells #[.int .i64 iT, .int .i64 iU, .int .i64 iV, .int .i64 iW, .slice dK cu.length dI] 24 (0, 0))) := ⟨(by rw [hw]; exact b5_)⟩; replace dB : aa (w38.heap[bE]? = some (.cells #[.int .i64 iX, .int .i64 iY, .int .i64 iZ, .int .i64 ja, .slice dU cB.length dV] 24 (0, 0))) := ⟨(by rw [hw]; exact b5_)⟩; replace bN : aa (w38.heap[aN]? = some (.cells #[.int .i64 0, .int .i64 0, .int .i64 0, .int .i64 0, .slice none 0 0] 24 (0, 0))) := ⟨(by rw [hw]; exact b5_)⟩; replace gI : aa (aD w w38 bI kG pG pI) := ⟨(by rw [hw]; exact si_)⟩; replace HB : aa (Below w.heap.size w w38) := ⟨(by rw [hw]; exact bl_)⟩; clear hw; have hnb39 := FP.out; have hnc39 := FO.out; obtain ⟨Sg, Si, Sj, Sk, Sl, Sm, Sn, Sq, Sr, Su⟩ := bz bN.out; obtain ⟨eU, eX, eo41⟩ := Kd.jS eB.out; subst eo41) | ((with_reducible refine sF (t := 24) (p := 6) rfl ?_); refine qO (t := 24) (p := 6) (v := ?vo_w42) (w1 := (((((w38.setCell ⟨aN, 0, none⟩ (.int .i64 gU)).setCell ⟨aN, 1, none⟩ (.int .i64 gV)).setCell ⟨aN, 2, none⟩ (.int .i64 gW)).setCell ⟨aN, 3, none⟩ (.int .i64 gX)).setCell ⟨aN, 4, none⟩ (.slice eU dn.length eX))) ?hg ?ho ?hn ?hr ?_; (case ho => rfl); (case hg => rfl); (case hn => rfl); (case hr => first | (go_simp; done) | (go_simp; rfl)); intro w42 hw; replace dS : aa (Kd.N k24 24 w42 w.heap.size (fun k_ => some k_ ≠ (.slice dU cB.length dV : Value).ownBlock ∧ some k_ ≠ (.slice eU dn.length eX : Value).ownBlock ∧ k_ ≠ bI ∧ k_ ≠ bD ∧ k_ ≠ bE ∧ k_ ≠ aN) (.slice dK cu.length dI) cu) := ⟨(by rw [hw]; exact (by (with_reducible repeat (first | apply Kd.dL | apply Kd.dM | apply Kd.dO)); exact Kd.aM (Kd.bH (p := ⟨aN, 4, none⟩) (Kd.bH (p := ⟨aN, 3, none⟩) (Kd.bH (p := ⟨aN, 2, none⟩) (Kd.bH (p := ⟨aN, 1, none⟩) (Kd.bH (p := ⟨aN, 0, none⟩) (Kd.aM dS.out (fun k_ hk => (⟨hk, by first | exact hk.2.2.2.2.2 | exact hk.1 | exact hk.2 | exact hk.1.1 | exact hk.1.2⟩ : _ ∧ k_ ≠ aN))) (fun _ hk => hk.2) (.int .i64 gU)) (fun _ hk => hk.2) (.int .i64 gV)) (fun _ hk => hk.2) (.int .i64 gW)) (fun _ hk => hk.2) (.int .i64 gX)) (fun _ hk => hk.2) (.slice eU dn.length eX)) (fun _ hk => ⟨hk.1.1, ⟨hk.1.2.1, ⟨hk.1.2.2.1, ⟨hk.1.2.2.2.1, ⟨hk.1.2.2.2.2.1, hk.1.2.2.2.2.2⟩⟩⟩⟩⟩)))⟩; replace ek : aa (Kd.N k24 24 w42 w.heap.size (fun k_ => some k_ ≠ (.slice dK cu.length dI : Value).ownBlock ∧ some k_ ≠ (.slice eU dn.length eX : Value).ownBlock ∧ k_ ≠ bI ∧ k_ ≠ bD ∧ k_ ≠ bE ∧ k_ ≠ aN) (.slice dU cB.length dV) cB) := ⟨(by rw [hw]; exact (by (with_reducible repeat (first | apply Kd.dL | apply Kd.dM | apply Kd.dO)); exact Kd.aM (Kd.bH (p := ⟨aN, 4, none⟩) (Kd.bH (p := ⟨aN, 3, none⟩) (Kd.bH (p := ⟨aN, 2, none⟩) (Kd.bH (p := ⟨aN, 1, none⟩) (Kd.bH (p := ⟨aN, 0, none⟩) (Kd.aM ek.out (fun k_ hk => (⟨hk, by first | exact hk.2.2.2.2.2 | exact hk.1 | exact hk.2 | exact hk.1.1 | exact hk.1.2⟩ : _ ∧ k_ ≠ aN))) (fun _ hk => hk.2) (.int .i64 gU)) (fun _ hk => hk.2) (.int .i64 gV)) (fun _ hk => hk.2) (.int .i64 gW)) (fun _ hk => hk.2) (.int .i64 gX)) (fun _ hk => hk.2) (.slice eU dn.length eX)) (fun _ hk => ⟨hk.1.1, ⟨hk.1.2.1, ⟨hk.1.2.2.1, ⟨hk.1.2.2.2.1, ⟨hk.1.2.2.2.2.1, hk.1.2.2.2.2.2⟩⟩⟩⟩⟩)))⟩; replace eB : aa (Kd.N k24 24 w42 w.heap.size (fun k_ => some k_ ≠ (.slice dK cu.length dI : Value).ownBlock ∧ some k_ ≠ (.slice dU cB.length dV : Value).ownBlock ∧ k_ ≠ bI ∧ k_ ≠ bD ∧ k_ ≠ bE ∧ k_ ≠ aN) (.slice eU dn.length eX) dn) := ⟨(by rw [hw]; exact (by (with_reducible repeat (first | apply Kd.dL | apply Kd.dM | apply Kd.dO)); exact Kd.aM (Kd.bH (p := ⟨aN, 4, none⟩) (Kd.bH (p := ⟨aN, 3, none⟩) (Kd.bH (p := ⟨aN, 2, none⟩) (Kd.bH (p := ⟨aN, 1, none⟩) (Kd.bH (p := ⟨aN, 0, none⟩) (Kd.aM eB.out (fun k_ hk => (⟨hk, by first | exact hk.2.2.2.2.2 | exact hk.1 | exact hk.2 | exact hk.1.1 | exact hk.1.2⟩ : _ ∧ k_ ≠ aN))) (fun _ hk => hk.2) (.int .i64 gU)) (fun _ hk => hk.2) (.int .i64 gV)) (fun _ hk => hk.2) (.int .i64 gW)) (fun _ hk => hk.2) (.int .i64 gX)) (fun _ hk => hk.2) (.slice eU dn.length eX)) (fun _ hk => ⟨hk.1.1, ⟨hk.1.2.1, ⟨hk.1.2.2.1, ⟨hk.1.2.2.2.1, ⟨hk.1.2.2.2.2.1, hk.1.2.2.2.2.2⟩⟩⟩⟩⟩)))⟩; replace dw : aa (w42.heap[bD]? = some (.cells #[.int .i64 iT, .int .i64 iU, .int .i64 iV, .int .i64 iW, .slice dK cu.length dI] 24 (0, 0))) := ⟨(by rw [hw]; exact b5_)⟩; replace dB : aa (w42.heap[bE]? = some (.cells #[.int .i64 iX, .int .i64 iY, .int .i64 iZ, .int .i64 ja, .slice dU cB.length dV] 24 (0, 0))) := ⟨(by rw [hw]; exact b5_)⟩; replace bN : aa (w42.heap[aN]? = some (.cells #[.int .i64 gU, .int .i64 gV, .int .i64 gW, .int .i64 gX, .slice eU dn.length eX] 24 (0, 0))) := ⟨(by rw [hw]; exact b5_)⟩; replace gI : aa (aD w w42 bI kG pG pI) := ⟨(by rw [hw]; exact si_)⟩; replace HB : aa (Below w.heap.size w w42) := ⟨(by rw [hw]; exact bl_)⟩; clear hw; obtain ⟨HZ, H5, H6, H7, H8, H9, Ia, Ib, Ic, Ie⟩ := bz dB.out; obtain ⟨NC, ND, NF, Wo, Wp, NG, NH, NI, Wq, Ws⟩ := bz bN.out; obtain ⟨VK, VL, VM, VN, VO, VP, VQ, VR, VS, VT⟩ := bz dw.out) | ((with_reducible refine aU (N := 20) rfl ?_); refine Kd.N_lit k24 _ 24 ?hg (N' := 20) ?hd (xs := ([(⟨iX, iY, iZ, ja, cB⟩ : S24), (⟨gU, gV, gW, gX, dn⟩ : S24), (⟨iT, iU, iV, iW, cu⟩ : S24)] : List (S24))) (inner := [.int .i64 iX, .int .i64 iY, .int .i64 iZ, .int .i64 ja, .slice dU cB.length dV, .int .i64 gU, .int .i64 gV, .int .i64 gW, .int .i64 gX, .slice eU dn.length eX, .int .i64 iT, .int .i64 iU, .int .i64 iV, .int .i64 iW, .slice dK cu.length dI]) (ok := (fun k_ => k_ ≠ bD ∧ k_ ≠ bE ∧ k_ ≠ aN ∧ k_ ≠ bI)) (okp := (fun k_ => k_ ≠ bD ∧ k_ ≠ bE ∧ k_ ≠ aN ∧ k_ ≠ bI)) ?hr ?hp (fun _ hk => hk) ((show ∀ k_, w42.heap.size ≤ k_ → (fun k_ => k_ ≠ bD ∧ k_ ≠ bE ∧ k_ ≠ aN ∧ k_ ≠ bI) k_ from fun k_ hk => ⟨Kd.iH (g := bD) (o := .cells #[.int .i64 iT, .int .i64 iU, .int .i64 iV, .int .i64 iW, .slice dK cu.length dI] 24 (0, 0)) bk_ k_ hk, Kd.iH (g := bE) (o := .cells #[.int .i64 iX, .int .i64 iY, .int .i64 iZ, .int .i64 ja, .slice dU cB.length dV] 24 (0, 0)) bk_ k_ hk, Kd.iH (g := aN) (o := .cells #[.int .i64 gU, .int .i64 gV, .int .i64 gW, .int .i64 gX, .slice eU dn.length eX] 24 (0, 0)) bk_ k_ hk, aD.fresh si_ k_ hk⟩) _ (Nat.le_refl _)) (Below.refl _ _) (Nat.le_refl _) (by simp) ?_; (case hd => rfl); (case hg => rfl); (case hr => first | (go_simp; done) | (go_simp; rfl)); (case hp => exact (dN.c5 (show Kd.FK k24 _ _ (⟨iX, iY, iZ, ja, cB⟩ : S24) [.int .i64 iX, .int .i64 iY, .int .i64 iZ, .int .i64 ja, .slice dU cB.length dV] from (vS _ _ (⟨iX, iY, iZ, ja, cB⟩ : S24) (Kd.iL (Kd.aM (ok' := (fun k_ => k_ ≠ bD ∧ k_ ≠ bE ∧ k_ ≠ aN ∧ k_ ≠ bI)) (ek.out) (fun k_ hk => ⟨hk.2.2.2.1, ⟨hk.2.2.2.2.1, ⟨hk.2.2.2.2.2, hk.2.2.1⟩⟩⟩))).2.1 (Kd.N_F (Kd.aM (ok' := (fun k_ => k_ ≠ bD ∧ k_ ≠ bE ∧ k_ ≠ aN ∧ k_ ≠ bI)) (ek.out) (fun k_ hk => ⟨hk.2.2.2.1, ⟨hk.2.2.2.2.1, ⟨hk.2.2.2.2.2, hk.2.2.1⟩⟩⟩))))) (dN.c5 (show Kd.FK k24 _ _ (⟨gU, gV, gW, gX, dn⟩ : S24) [.int .i64 gU, .int .i64 gV, .int .i64 gW, .int .i64 gX, .slice eU dn.length eX] from (vS _ _ (⟨gU, gV, gW, gX, dn⟩ : S24) (Kd.iL (Kd.aM (ok' := (fun k_ => k_ ≠ bD ∧ k_ ≠ bE ∧ k_ ≠ aN ∧ k_ ≠ bI)) (eB.out) (fun k_ hk => ⟨hk.2.2.2.1, ⟨hk.2.2.2.2.1, ⟨hk.2.2.2.2.2, hk.2.2.1⟩⟩⟩))).2.1 (Kd.N_F (Kd.aM (ok' := (fun k_ => k_ ≠ bD ∧ k_ ≠ bE ∧ k_ ≠ aN ∧ k_ ≠ bI)) (eB.out) (fun k_ hk => ⟨hk.2.2.2.1, ⟨hk.2.2.2.2.1, ⟨hk.2.2.2.2.2, hk.2.2.1⟩⟩⟩))))) (dN.c5 (show Kd.FK k24 _ _ (⟨iT, iU, iV, iW, cu⟩ : S24) [.int .i64 iT, .int .i64 iU, .int .i64 iV, .int .i64 iW, .slice dK cu.length dI] from (vS _ _ (⟨iT, iU, iV, iW, cu⟩ : S24) (Kd.iL (Kd.aM (ok' := (fun k_ => k_ ≠ bD ∧ k_ ≠ bE ∧ k_ ≠ aN ∧ k_ ≠ bI)) (dS.out) (fun k_ hk => ⟨hk.2.2.2.1, ⟨hk.2.2.2.2.1, ⟨hk.2.2.2.2.2, hk.2.2.1⟩⟩⟩))).2.1 (Kd.N_F (Kd.aM (ok' := (fun k_ => k_ ≠ bD ∧ k_ ≠ bE ∧ k_ ≠ aN ∧ k_ ≠ bI)) (dS.out) (fun k_ hk => ⟨hk.2.2.2.1, ⟨hk.2.2.2.2.1, ⟨hk.2.2.2.2.2, hk.2.2.1⟩⟩⟩))))) (dN.none _ _))))); intro v702 w46 vI hb hg_ ig; clear hg_ ig; (first | rw [← Ny701.out] at vI | (simp only [Int.reduceToNat] at vI; rw [← Ny701.out] at vI)); have fQ := aa.mk (Kd.kW vI (ax bl_)); replace dS := aa.mk (Kd.jT (pN_ dS.out) (by first | exact Kd.iq vI | exact Kd.cO vI | exact Kd.iq (Kd.S_N vI)) hb); replace ek := aa.mk (Kd.jT (pN_ ek.out) (by first | exact Kd.iq vI | exact Kd.cO vI | exact Kd.iq (Kd.S_N vI)) hb); replace eB := aa.mk (Kd.jT (pN_ eB.out) (by first | exact Kd.iq vI | exact Kd.cO vI | exact Kd.iq (Kd.S_N vI)) hb); replace gI := aa.mk (aD.below si_ hb); replace dw := kb_ dw hb; replace dB := kb_ dB hb; replace bN := kb_ bN hb; replace HB := aa.mk (ai bl_ hb); clear hb vI; obtain ⟨dC, dD, eo48⟩ := Kd.jS fQ.out; subst eo48) | ((with_reducible refine aU (N := 7) rfl ?_); refine aY ?hg (N := 7) ?hd (cs := #[.int .i64 0, .int .i64 0, .int .i64 0, .int .i64 0, .slice none 0 0]) (t := 24) ?hr ?_; (case hd => rfl); (case hg => rfl); (case hr => first | (go_simp; done) | (go_simp; rfl)); intro aW hg w49 aK hb; have dR := aa.mk (aK); have GW704 : aa (w.heap.size ≤ aW) := gw_ hg (ax bl_); have GE704 := GW704; have Df := nl_ dw hg; have YT := ng_ dw hg; have Dg := nl_ dB hg; have YU := ng_ dB hg; have Dh := nl_ bN hg; have YV := ng_ bN hg; have FQ := aa.mk ((by rw [hg]; exact Nat.ne_of_lt (aD.lt (show aD w _ bI kG pG pI from si_)) : bI ≠ aW)); have FR := aa.mk ((by rw [hg]; exact Nat.ne_of_gt (aD.lt (show aD w _ bI kG pG pI from si_)) : aW ≠ bI)); replace dS := aa.mk (Kd.dF (Kd.gT (pN_ dS.out) aW (Nat.le_of_eq hg.symm)) hb); replace ek := aa.mk (Kd.dF (Kd.gT (pN_ ek.out) aW (Nat.le_of_eq hg.symm)) hb); replace eB := aa.mk (Kd.dF (Kd.gT (pN_ eB.out) aW (Nat.le_of_eq hg.symm)) hb); replace fQ := aa.mk (Kd.dF (Kd.gT (pN_ fQ.out) aW (Nat.le_of_eq hg.symm)) hb); replace gI := aa.mk (aD.below si_ hb); replace dw := kb_ dw hb; replace dB := kb_ dB hb; replace bN := kb_ bN hb; replace HB := aa.mk (ai bl_ hb); clear hb aK hg; have hnb50 := YT.out; have hnc50 := Df.out; have hnb51 := YU.out; have hnc51 := Dg.out; have hnb52 := YV.out; have hnc52 := Dh.out; have hnb53 := FR.out; have hnc53 := FQ.out; obtain ⟨Kv, Kw, Ky, Kz, KA, KC, KD, KE, KF, KG⟩ := bz dR.out))
       have n0_ : aa (Kd.N k24 24 (((((w49.setCell ⟨aW, 0, none⟩ (.int .i64 5)).setCell ⟨aW, 1, none⟩ (.int .i64 0)).setCell ⟨aW, 2, none⟩ (.int .i64 0)).setCell ⟨aW, 3, none⟩ (.int .i64 0)).setCell ⟨aW, 4, none⟩ (.slice dC cZ.length dD)) w.heap.size (fun k_ => some k_ ≠ (.slice dU cB.length dV : Value).ownBlock ∧ some k_ ≠ (.slice eU dn.length eX : Value).ownBlock ∧ some k_ ≠ (.slice dC cZ.length dD : Value).ownBlock ∧ k_ ≠ bI ∧ k_ ≠ bD ∧ k_ ≠ bE ∧ k_ ≠ aN ∧ k_ ≠ aW) (.slice dK cu.length dI) cu) := ⟨by (with_reducible repeat (first | apply Kd.dL | apply Kd.dM | apply Kd.dO)); exact Kd.aM (Kd.bH (p := ⟨aW, 4, none⟩) (Kd.bH (p := ⟨aW, 3, none⟩) (Kd.bH (p := ⟨aW, 2, none⟩) (Kd.bH (p := ⟨aW, 1, none⟩) (Kd.bH (p := ⟨aW, 0, none⟩) (Kd.aM dS.out (fun k_ hk => (⟨hk, by first | exact hk.2 | exact hk.1 | exact hk.2 | exact hk.1.1 | exact hk.1.2⟩ : _ ∧ k_ ≠ aW))) (fun _ hk => hk.2) (.int .i64 5)) (fun _ hk => hk.2) (.int .i64 0)) (fun _ hk => hk.2) (.int .i64 0)) (fun _ hk => hk.2) (.int .i64 0)) (fun _ hk => hk.2) (.slice dC cZ.length dD)) (fun _ hk => ⟨hk.1.1.1.1, ⟨hk.1.1.1.2.1, ⟨hk.1.1.2, ⟨hk.1.1.1.2.2.1, ⟨hk.1.1.1.2.2.2.1, ⟨hk.1.1.1.2.2.2.2.1, ⟨hk.1.1.1.2.2.2.2.2, hk.1.2⟩⟩⟩⟩⟩⟩⟩)⟩; have n1_ : aa (Kd.N k24 24 (((((w49.setCell ⟨aW, 0, none⟩ (.int .i64 5)).setCell ⟨aW, 1, none⟩ (.int .i64 0)).setCell ⟨aW, 2, none⟩ (.int .i64 0)).setCell ⟨aW, 3, none⟩ (.int .i64 0)).setCell ⟨aW, 4, none⟩ (.slice dC cZ.length dD)) w.heap.size (fun k_ => some k_ ≠ (.slice dK cu.length dI : Value).ownBlock ∧ some k_ ≠ (.slice eU dn.length eX : Value).ownBlock ∧ some k_ ≠ (.slice dC cZ.length dD : Value).ownBlock ∧ k_ ≠ bI ∧ k_ ≠ bD ∧ k_ ≠ bE ∧ k_ ≠ aN ∧ k_ ≠ aW) (.slice dU cB.length dV) cB) := ⟨by (with_reducible repeat (first | apply Kd.dL | apply Kd.dM | apply Kd.dO)); exact Kd.aM (Kd.bH (p := ⟨aW, 4, none⟩) (Kd.bH (p := ⟨aW, 3, none⟩) (Kd.bH (p := ⟨aW, 2, none⟩) (Kd.bH (p := ⟨aW, 1, none⟩) (Kd.bH (p := ⟨aW, 0, none⟩) (Kd.aM ek.out (fun k_ hk => (⟨hk, by first | exact hk.2 | exact hk.1 | exact hk.2 | exact hk.1.1 | exact hk.1.2⟩ : _ ∧ k_ ≠ aW))) (fun _ hk => hk.2) (.int .i64 5)) (fun _ hk => hk.2) (.int .i64 0)) (fun _ hk => hk.2) (.int .i64 0)) (fun _ hk => hk.2) (.int .i64 0)) (fun _ hk => hk.2) (.slice dC cZ.length dD)) (fun _ hk => ⟨hk.1.1.1.1, ⟨hk.1.1.1.2.1, ⟨hk.1.1.2, ⟨hk.1.1.1.2.2.1, ⟨hk.1.1.1.2.2.2.1, ⟨hk.1.1.1.2.2.2.2.1, ⟨hk.1.1.1.2.2.2.2.2, hk.1.2⟩⟩⟩⟩⟩⟩⟩)⟩; have n2_ : aa (Kd.N k24 24 (((((w49.setCell ⟨aW, 0, none⟩ (.int .i64 5)).setCell ⟨aW, 1, none⟩ (.int .i64 0)).setCell ⟨aW, 2, none⟩ (.int .i64 0)).setCell ⟨aW, 3, none⟩ (.int .i64 0)).setCell ⟨aW, 4, none⟩ (.slice dC cZ.length dD)) w.heap.size (fun k_ => some k_ ≠ (.slice dK cu.length dI : Value).ownBlock ∧ some k_ ≠ (.slice dU cB.length dV : Value).ownBlock ∧ some k_ ≠ (.slice dC cZ.length dD : Value).ownBlock ∧ k_ ≠ bI ∧ k_ ≠ bD ∧ k_ ≠ bE ∧ k_ ≠ aN ∧ k_ ≠ aW) (.slice eU dn.length eX) dn) := ⟨by (with_reducible repeat (first | apply Kd.dL | apply Kd.dM | apply Kd.dO)); exact Kd.aM (Kd.bH (p := ⟨aW, 4, none⟩) (Kd.bH (p := ⟨aW, 3, none⟩) (Kd.bH (p := ⟨aW, 2, none⟩) (Kd.bH (p := ⟨aW, 1, none⟩) (Kd.bH (p := ⟨aW, 0, none⟩) (Kd.aM eB.out (fun k_ hk => (⟨hk, by first | exact hk.2 | exact hk.1 | exact hk.2 | exact hk.1.1 | exact hk.1.2⟩ : _ ∧ k_ ≠ aW))) (fun _ hk => hk.2) (.int .i64 5)) (fun _ hk => hk.2) (.int .i64 0)) (fun _ hk => hk.2) (.int .i64 0)) (fun _ hk => hk.2) (.int .i64 0)) (fun _ hk => hk.2) (.slice dC cZ.length dD)) (fun _ hk => ⟨hk.1.1.1.1, ⟨hk.1.1.1.2.1, ⟨hk.1.1.2, ⟨hk.1.1.1.2.2.1, ⟨hk.1.1.1.2.2.2.1, ⟨hk.1.1.1.2.2.2.2.1, ⟨hk.1.1.1.2.2.2.2.2, hk.1.2⟩⟩⟩⟩⟩⟩⟩)⟩
       have n3_ : aa (Kd.N k24 24 (((((w49.setCell ⟨aW, 0, none⟩ (.int .i64 5)).setCell ⟨aW, 1, none⟩ (.int .i64 0)).setCell ⟨aW, 2, none⟩ (.int .i64 0)).setCell ⟨aW, 3, none⟩ (.int .i64 0)).setCell ⟨aW, 4, none⟩ (.slice dC cZ.length dD)) w.heap.size (fun k_ => k_ ≠ bD ∧ k_ ≠ bE ∧ k_ ≠ aN ∧ k_ ≠ bI ∧ k_ ≠ aW) (.slice dC cZ.length dD) cZ) := ⟨by (with_reducible repeat (first | apply Kd.dL | apply Kd.dM | apply Kd.dO)); exact Kd.aM (Kd.bH (p := ⟨aW, 4, none⟩) (Kd.bH (p := ⟨aW, 3, none⟩) (Kd.bH (p := ⟨aW, 2, none⟩) (Kd.bH (p := ⟨aW, 1, none⟩) (Kd.bH (p := ⟨aW, 0, none⟩) (Kd.aM fQ.out (fun k_ hk => (⟨hk, by first | exact hk.2 | exact hk.1 | exact hk.2 | exact hk.1.1 | exact hk.1.2⟩ : _ ∧ k_ ≠ aW))) (fun _ hk => hk.2) (.int .i64 5)) (fun _ hk => hk.2) (.int .i64 0)) (fun _ hk => hk.2) (.int .i64 0)) (fun _ hk => hk.2) (.int .i64 0)) (fun _ hk => hk.2) (.slice dC cZ.length dD)) (fun _ hk => ⟨hk.1.1.1, ⟨hk.1.1.2.1, ⟨hk.1.1.2.2.1, ⟨hk.1.1.2.2.2, hk.1.2⟩⟩⟩⟩)⟩; have n4_ : aa ((((((w49.setCell ⟨aW, 0, none⟩ (.int .i64 5)).setCell ⟨aW, 1, none⟩ (.int .i64 0)).setCell ⟨aW, 2, none⟩ (.int .i64 0)).setCell ⟨aW, 3, none⟩ (.int .i64 0)).setCell ⟨aW, 4, none⟩ (.slice dC cZ.length dD)).heap[bD]? = some (.cells #[.int .i64 iT, .int .i64 iU, .int .i64 iV, .int .i64 iW, .slice dK cu.length dI] 24 (0, 0))) := ⟨by (with_reducible repeat (first | refine bL ?_ _ | refine bC ?_ | refine bF ?_ _)); refine gp ?_ Df.out _; (with_reducible repeat (first | refine bL ?_ _ | refine bC ?_ | refine bF ?_ _)); refine gp ?_ Df.out _; (with_reducible repeat (first | refine bL ?_ _ | refine bC ?_ | refine bF ?_ _)); refine gp ?_ Df.out _; (with_reducible repeat (first | refine bL ?_ _ | refine bC ?_ | refine bF ?_ _)); refine gp ?_ Df.out _; (with_reducible repeat (first | refine bL ?_ _ | refine bC ?_ | refine bF ?_ _)); refine gp ?_ Df.out _; (with_reducible repeat (first | refine bL ?_ _ | refine bC ?_ | refine bF ?_ _)); exact dw.out⟩; have n5_ : aa ((((((w49.setCell ⟨aW, 0, none⟩ (.int .i64 5)).setCell ⟨aW, 1, none⟩ (.int .i64 0)).setCell ⟨aW, 2, none⟩ (.int .i64 0)).setCell ⟨aW, 3, none⟩ (.int .i64 0)).setCell ⟨aW, 4, none⟩ (.slice dC cZ.length dD)).heap[bE]? = some (.cells #[.int .i64 iX, .int .i64 iY, .int .i64 iZ, .int .i64 ja, .slice dU cB.length dV] 24 (0, 0))) := ⟨by (with_reducible repeat (first | refine bL ?_ _ | refine bC ?_ | refine bF ?_ _)); refine gp ?_ Dg.out _; (with_reducible repeat (first | refine bL ?_ _ | refine bC ?_ | refine bF ?_ _)); refine gp ?_ Dg.out _; (with_reducible repeat (first | refine bL ?_ _ | refine bC ?_ | refine bF ?_ _)); refine gp ?_ Dg.out _; (with_reducible repeat (first | refine bL ?_ _ | refine bC ?_ | refine bF ?_ _)); refine gp ?_ Dg.out _; (with_reducible repeat (first | refine bL ?_ _ | refine bC ?_ | refine bF ?_ _)); refine gp ?_ Dg.out _; (with_reducible repeat (first | refine bL ?_ _ | refine bC ?_ | refine bF ?_ _)); exact dB.out⟩
       have n6_ : aa ((((((w49.setCell ⟨aW, 0, none⟩ (.int .i64 5)).setCell ⟨aW, 1, none⟩ (.int .i64 0)).setCell ⟨aW, 2, none⟩ (.int .i64 0)).setCell ⟨aW, 3, none⟩ (.int .i64 0)).setCell ⟨aW, 4, none⟩ (.slice dC cZ.length dD)).heap[aN]? = some (.cells #[.int .i64 gU, .int .i64 gV, .int .i64 gW, .int .i64 gX, .slice eU dn.length eX] 24 (0, 0))) := ⟨by (with_reducible repeat (first | refine bL ?_ _ | refine bC ?_ | refine bF ?_ _)); refine gp ?_ Dh.out _; (with_reducible repeat (first | refine bL ?_ _ | refine bC ?_ | refine bF ?_ _)); refine gp ?_ Dh.out _; (with_reducible repeat (first | refine bL ?_ _ | refine bC ?_ | refine bF ?_ _)); refine gp ?_ Dh.out _; (with_reducible repeat (first | refine bL ?_ _ | refine bC ?_ | refine bF ?_ _)); refine gp ?_ Dh.out _; (with_reducible repeat (first | refine bL ?_ _ | refine bC ?_ | refine bF ?_ _)); refine gp ?_ Dh.out _; (with_reducible repeat (first | refine bL ?_ _ | refine bC ?_ | refine bF ?_ _)); exact bN.out⟩; have n7_ : aa ((((((w49.setCell ⟨aW, 0, none⟩ (.int .i64 5)).setCell ⟨aW, 1, none⟩ (.int .i64 0)).setCell ⟨aW, 2, none⟩ (.int .i64 0)).setCell ⟨aW, 3, none⟩ (.int .i64 0)).setCell ⟨aW, 4, none⟩ (.slice dC cZ.length dD)).heap[aW]? = some (.cells #[.int .i64 5, .int .i64 0, .int .i64 0, .int .i64 0, .slice dC cZ.length dD] 24 (0, 0))) := ⟨by (with_reducible repeat (first | refine bL ?_ _ | refine bC ?_ | refine bF ?_ _)); refine iP (cs := #[.int .i64 5, .int .i64 0, .int .i64 0, .int .i64 0, .slice none 0 0]) ?_ 4 _ rfl; (with_reducible repeat (first | refine bL ?_ _ | refine bC ?_ | refine bF ?_ _)); refine iP (cs := #[.int .i64 5, .int .i64 0, .int .i64 0, .int .i64 0, .slice none 0 0]) ?_ 3 _ rfl; (with_reducible repeat (first | refine bL ?_ _ | refine bC ?_ | refine bF ?_ _)); refine iP (cs := #[.int .i64 5, .int .i64 0, .int .i64 0, .int .i64 0, .slice none 0 0]) ?_ 2 _ rfl; (with_reducible repeat (first | refine bL ?_ _ | refine bC ?_ | refine bF ?_ _)); refine iP (cs := #[.int .i64 5, .int .i64 0, .int .i64 0, .int .i64 0, .slice none 0 0]) ?_ 1 _ rfl; (with_reducible repeat (first | refine bL ?_ _ | refine bC ?_ | refine bF ?_ _)); refine iP (cs := #[.int .i64 0, .int .i64 0, .int .i64 0, .int .i64 0, .slice none 0 0]) ?_ 0 _ rfl; (with_reducible repeat (first | refine bL ?_ _ | refine bC ?_ | refine bF ?_ _)); exact dR.out⟩; have n8_ : aa (aD w (((((w49.setCell ⟨aW, 0, none⟩ (.int .i64 5)).setCell ⟨aW, 1, none⟩ (.int .i64 0)).setCell ⟨aW, 2, none⟩ (.int .i64 0)).setCell ⟨aW, 3, none⟩ (.int .i64 0)).setCell ⟨aW, 4, none⟩ (.slice dC cZ.length dD)) bI kG pG pI) := ⟨si_⟩
       have n9_ : aa (Below w.heap.size w (((((w49.setCell ⟨aW, 0, none⟩ (.int .i64 5)).setCell ⟨aW, 1, none⟩ (.int .i64 0)).setCell ⟨aW, 2, none⟩ (.int .i64 0)).setCell ⟨aW, 3, none⟩ (.int .i64 0)).setCell ⟨aW, 4, none⟩ (.slice dC cZ.length dD))) := ⟨bl_⟩; (try clear dS)
       (try clear ek)
       (try clear eB)
       (try clear fQ)
       (try clear dw)
       (try clear dB)
       (try clear bN)
       (try clear dR)
       (try clear gI)
       (try clear HB)
       generalize (((((w49.setCell ⟨aW, 0, none⟩ (.int .i64 5)).setCell ⟨aW, 1, none⟩ (.int .i64 0)).setCell ⟨aW, 2, none⟩ (.int .i64 0)).setCell ⟨aW, 3, none⟩ (.int .i64 0)).setCell ⟨aW, 4, none⟩ (.slice dC cZ.length dD)) = w55 at n0_ n1_ n2_ n3_ n4_ n5_ n6_ n7_ n8_ n9_ ⊢
       have dS := n0_; have ek := n1_; have eB := n2_; have fQ := n3_; have dw := n4_; have dB := n5_; have bN := n6_; have dR := n7_; have gI := n8_; have HB := n9_; clear n0_ n1_ n2_ n3_ n4_ n5_ n6_ n7_ n8_ n9_; replace dS := aa.mk (Kd.dO dS.out); replace ek := aa.mk (Kd.dO ek.out); replace eB := aa.mk (Kd.dO eB.out); replace fQ := aa.mk (Kd.dO fQ.out); replace dw := aa.mk (bC dw.out); replace dB := aa.mk (bC dB.out); replace bN := aa.mk (bC bN.out); replace dR := aa.mk (bC dR.out); replace gI := aa.mk (aD.drew gI.out); replace HB := aa.mk (bQ HB.out); refine sD (n := 7) (S := fun w' => w'.cell? ⟨aN, 0, none⟩ = some (.int .i64 gU) ∧ w'.cell? ⟨aN, 1, none⟩ = some (.int .i64 gV) ∧ w'.cell? ⟨aN, 2, none⟩ = some (.int .i64 gW) ∧ w'.cell? ⟨aN, 3, none⟩ = some (.int .i64 gX) ∧ w'.cell? ⟨aN, 4, none⟩ = some (.slice eU dn.length eX)) (ds := []) #[false, false, false, false, false, false, false] (by kernel_rfl) rfl rfl ⟨(ag bN.out 0).trans rfl, (ag bN.out 1).trans rfl, (ag bN.out 2).trans rfl, (ag bN.out 3).trans rfl, (ag bN.out 4).trans rfl⟩ (fun hHeld => ?_)
       generalize w55.drew = w56 at dS ek eB fQ dw dB bN dR gI HB hHeld ⊢
       refine LB (i := 0) (N := some 22) (v := ?_) (a' := ?_) #[true, false, false, false, false, false, false] rfl rfl (by kernel_rfl) (fun _ _ _ h => h) (Or.inl ⟨by rfl, ?_⟩) ?_ ?_
       rotate_left
       ·intro w'; go_simp; with_reducible rfl
       rotate_left
       ·simp only [Act.put, List.setIfInBounds_toArray, List.set_cons_zero, List.set_cons_succ, eT, fA]; rfl
       refine OU (i := 2) (N := some 24) (v := ?_) (a' := ?_) #[true, false, true, false, false, false, false] rfl rfl (by kernel_rfl) (fun _ _ _ h => h) (Or.inl ⟨by rfl, ?_⟩) hHeld ?_ ?_
       rotate_left
       ·rintro w' ⟨s0, s1, s2, s3, s4⟩
        go_simp; with_reducible rfl
       rotate_left
       ·simp only [Act.put, List.setIfInBounds_toArray, List.set_cons_zero, List.set_cons_succ, eT, fA]; rfl
       refine LC (σ := Value × Nat) 1 #[true, true, true, true, true, true, false] (fun s_ => [(23, .int .i64 lN), (25, s_.1), (8, .pointer (some ⟨s_.2, 0, none⟩)), (26, .agg #[.int .i64 6, .int .i64 0, .int .i64 0, .int .i64 lN, s_.1])]) (fun s_ w' => (w'.cell? ⟨aN, 0, none⟩ = some (.int .i64 gU) ∧ w'.cell? ⟨aN, 1, none⟩ = some (.int .i64 gV) ∧ w'.cell? ⟨aN, 2, none⟩ = some (.int .i64 gW) ∧ w'.cell? ⟨aN, 3, none⟩ = some (.int .i64 gX) ∧ w'.cell? ⟨aN, 4, none⟩ = some (.slice eU dn.length eX)) ∧ (Kd.N k24 24 w' w.heap.size (fun k_ => some k_ ≠ (.slice dU cB.length dV : Value).ownBlock ∧ some k_ ≠ (.slice eU dn.length eX : Value).ownBlock ∧ some k_ ≠ (.slice dC cZ.length dD : Value).ownBlock ∧ some k_ ≠ (s_.1 : Value).ownBlock ∧ k_ ≠ bI ∧ k_ ≠ bD ∧ k_ ≠ bE ∧ k_ ≠ aN ∧ k_ ≠ aW ∧ k_ ≠ s_.2) (.slice dK cu.length dI) cu) ∧ (Kd.N k24 24 w' w.heap.size (fun k_ => some k_ ≠ (.slice dK cu.length dI : Value).ownBlock ∧ some k_ ≠ (.slice eU dn.length eX : Value).ownBlock ∧ some k_ ≠ (.slice dC cZ.length dD : Value).ownBlock ∧ some k_ ≠ (s_.1 : Value).ownBlock ∧ k_ ≠ bI ∧ k_ ≠ bD ∧ k_ ≠ bE ∧ k_ ≠ aN ∧ k_ ≠ aW ∧ k_ ≠ s_.2) (.slice dU cB.length dV) cB) ∧ (Kd.N k24 24 w' w.heap.size (fun k_ => some k_ ≠ (.slice dK cu.length dI : Value).ownBlock ∧ some k_ ≠ (.slice dU cB.length dV : Value).ownBlock ∧ some k_ ≠ (.slice dC cZ.length dD : Value).ownBlock ∧ some k_ ≠ (s_.1 : Value).ownBlock ∧ k_ ≠ bI ∧ k_ ≠ bD ∧ k_ ≠ bE ∧ k_ ≠ aN ∧ k_ ≠ aW ∧ k_ ≠ s_.2) (.slice eU dn.length eX) dn) ∧ (Kd.N k24 24 w' w.heap.size (fun k_ => some k_ ≠ (s_.1 : Value).ownBlock ∧ k_ ≠ bI ∧ k_ ≠ bD ∧ k_ ≠ bE ∧ k_ ≠ aN ∧ k_ ≠ aW ∧ k_ ≠ s_.2) (.slice dC cZ.length dD) cZ) ∧ (Kd.N k24 24 w' w.heap.size (fun k_ => some k_ ≠ (.slice dK cu.length dI : Value).ownBlock ∧ some k_ ≠ (.slice dU cB.length dV : Value).ownBlock ∧ some k_ ≠ (.slice dC cZ.length dD : Value).ownBlock ∧ k_ ≠ bI ∧ k_ ≠ bD ∧ k_ ≠ bE ∧ k_ ≠ aN ∧ k_ ≠ aW ∧ k_ ≠ s_.2) s_.1 ku) ∧ (w'.heap[bD]? = some (.cells #[.int .i64 iT, .int .i64 iU, .int .i64 iV, .int .i64 iW, .slice dK cu.length dI] 24 (0, 0))) ∧ (w'.heap[bE]? = some (.cells #[.int .i64 iX, .int .i64 iY, .int .i64 iZ, .int .i64 ja, .slice dU cB.length dV] 24 (0, 0))) ∧ (w'.heap[aN]? = some (.cells #[.int .i64 gU, .int .i64 gV, .int .i64 gW, .int .i64 gX, .slice eU dn.length eX] 24 (0, 0))) ∧ (w'.heap[aW]? = some (.cells #[.int .i64 5, .int .i64 0, .int .i64 0, .int .i64 0, .slice dC cZ.length dD] 24 (0, 0))) ∧ (w'.heap[s_.2]? = some (.cells #[.int .i64 0, .int .i64 0, .int .i64 0, .int .i64 0, .slice none 0 0] 24 (0, 0))) ∧ (w.heap.size ≤ s_.2) ∧ (w.heap.size ≤ s_.2) ∧ (bI ≠ s_.2) ∧ (s_.2 ≠ bI) ∧ (bD ≠ s_.2) ∧ (s_.2 ≠ bD) ∧ (bE ≠ s_.2) ∧ (s_.2 ≠ bE) ∧ (aN ≠ s_.2) ∧ (s_.2 ≠ aN) ∧ (aW ≠ s_.2) ∧ (s_.2 ≠ aW) ∧ (aD w w' bI kG zn zo) ∧ (Below w.heap.size w w')) ?_ ?_
       rotate_left
       ·intro TF; refine LC (σ := Value) 2 #[true, true, true, true, true, false, false] (fun s_ => [(23, .int .i64 lN), (25, s_), (26, .agg #[.int .i64 6, .int .i64 0, .int .i64 0, .int .i64 lN, s_])]) (fun s_ w' => (w'.cell? ⟨aN, 0, none⟩ = some (.int .i64 gU) ∧ w'.cell? ⟨aN, 1, none⟩ = some (.int .i64 gV) ∧ w'.cell? ⟨aN, 2, none⟩ = some (.int .i64 gW) ∧ w'.cell? ⟨aN, 3, none⟩ = some (.int .i64 gX) ∧ w'.cell? ⟨aN, 4, none⟩ = some (.slice eU dn.length eX)) ∧ (Kd.N k24 24 w' w.heap.size (fun k_ => some k_ ≠ (.slice dU cB.length dV : Value).ownBlock ∧ some k_ ≠ (.slice eU dn.length eX : Value).ownBlock ∧ some k_ ≠ (.slice dC cZ.length dD : Value).ownBlock ∧ some k_ ≠ (s_ : Value).ownBlock ∧ k_ ≠ bI ∧ k_ ≠ bD ∧ k_ ≠ bE ∧ k_ ≠ aN ∧ k_ ≠ aW) (.slice dK cu.length dI) cu) ∧ (Kd.N k24 24 w' w.heap.size (fun k_ => some k_ ≠ (.slice dK cu.length dI : Value).ownBlock ∧ some k_ ≠ (.slice eU dn.length eX : Value).ownBlock ∧ some k_ ≠ (.slice dC cZ.length dD : Value).ownBlock ∧ some k_ ≠ (s_ : Value).ownBlock ∧ k_ ≠ bI ∧ k_ ≠ bD ∧ k_ ≠ bE ∧ k_ ≠ aN ∧ k_ ≠ aW) (.slice dU cB.length dV) cB) ∧ (Kd.N k24 24 w' w.heap.size (fun k_ => some k_ ≠ (.slice dK cu.length dI : Value).ownBlock ∧ some k_ ≠ (.slice dU cB.length dV : Value).ownBlock ∧ some k_ ≠ (.slice dC cZ.length dD : Value).ownBlock ∧ some k_ ≠ (s_ : Value).ownBlock ∧ k_ ≠ bI ∧ k_ ≠ bD ∧ k_ ≠ bE ∧ k_ ≠ aN ∧ k_ ≠ aW) (.slice eU dn.length eX) dn) ∧ (Kd.N k24 24 w' w.heap.size (fun k_ => some k_ ≠ (s_ : Value).ownBlock ∧ k_ ≠ bI ∧ k_ ≠ bD ∧ k_ ≠ bE ∧ k_ ≠ aN ∧ k_ ≠ aW) (.slice dC cZ.length dD) cZ) ∧ (Kd.N k24 24 w' w.heap.size (fun k_ => some k_ ≠ (.slice dK cu.length dI : Value).ownBlock ∧ some k_ ≠ (.slice dU cB.length dV : Value).ownBlock ∧ some k_ ≠ (.slice dC cZ.length dD : Value).ownBlock ∧ k_ ≠ bI ∧ k_ ≠ bD ∧ k_ ≠ bE ∧ k_ ≠ aN ∧ k_ ≠ aW) s_ ku) ∧ (w'.heap[bD]? = some (.cells #[.int .i64 iT, .int .i64 iU, .int .i64 iV, .int .i64 iW, .slice dK cu.length dI] 24 (0, 0))) ∧ (w'.heap[bE]? = some (.cells #[.int .i64 iX, .int .i64 iY, .int .i64 iZ, .int .i64 ja, .slice dU cB.length dV] 24 (0, 0))) ∧ (w'.heap[aN]? = some (.cells #[.int .i64 gU, .int .i64 gV, .int .i64 gW, .int .i64 gX, .slice eU dn.length eX] 24 (0, 0))) ∧ (w'.heap[aW]? = some (.cells #[.int .i64 5, .int .i64 0, .int .i64 0, .int .i64 0, .slice dC cZ.length dD] 24 (0, 0))) ∧ (aD w w' bI kG zn zo) ∧ (Below w.heap.size w w')) ?_ ?_
        rotate_left
        ·intro hJ1_3; refine LC (σ := Nat) 3 #[true, true, true, false, false, true, false] (fun s_ => [(23, .int .i64 lN), (8, .pointer (some ⟨s_, 0, none⟩))]) (fun s_ w' => (w'.cell? ⟨aN, 0, none⟩ = some (.int .i64 gU) ∧ w'.cell? ⟨aN, 1, none⟩ = some (.int .i64 gV) ∧ w'.cell? ⟨aN, 2, none⟩ = some (.int .i64 gW) ∧ w'.cell? ⟨aN, 3, none⟩ = some (.int .i64 gX) ∧ w'.cell? ⟨aN, 4, none⟩ = some (.slice eU dn.length eX)) ∧ (Kd.N k24 24 w' w.heap.size (fun k_ => some k_ ≠ (.slice dU cB.length dV : Value).ownBlock ∧ some k_ ≠ (.slice eU dn.length eX : Value).ownBlock ∧ some k_ ≠ (.slice dC cZ.length dD : Value).ownBlock ∧ k_ ≠ bI ∧ k_ ≠ bD ∧ k_ ≠ bE ∧ k_ ≠ aN ∧ k_ ≠ aW ∧ k_ ≠ s_) (.slice dK cu.length dI) cu) ∧ (Kd.N k24 24 w' w.heap.size (fun k_ => some k_ ≠ (.slice dK cu.length dI : Value).ownBlock ∧ some k_ ≠ (.slice eU dn.length eX : Value).ownBlock ∧ some k_ ≠ (.slice dC cZ.length dD : Value).ownBlock ∧ k_ ≠ bI ∧ k_ ≠ bD ∧ k_ ≠ bE ∧ k_ ≠ aN ∧ k_ ≠ aW ∧ k_ ≠ s_) (.slice dU cB.length dV) cB) ∧ (Kd.N k24 24 w' w.heap.size (fun k_ => some k_ ≠ (.slice dK cu.length dI : Value).ownBlock ∧ some k_ ≠ (.slice dU cB.length dV : Value).ownBlock ∧ some k_ ≠ (.slice dC cZ.length dD : Value).ownBlock ∧ k_ ≠ bI ∧ k_ ≠ bD ∧ k_ ≠ bE ∧ k_ ≠ aN ∧ k_ ≠ aW ∧ k_ ≠ s_) (.slice eU dn.length eX) dn) ∧ (Kd.N k24 24 w' w.heap.size (fun k_ => k_ ≠ bI ∧ k_ ≠ bD ∧ k_ ≠ bE ∧ k_ ≠ aN ∧ k_ ≠ aW ∧ k_ ≠ s_) (.slice dC cZ.length dD) cZ) ∧ (w'.heap[bD]? = some (.cells #[.int .i64 iT, .int .i64 iU, .int .i64 iV, .int .i64 iW, .slice dK cu.length dI] 24 (0, 0))) ∧ (w'.heap[bE]? = some (.cells #[.int .i64 iX, .int .i64 iY, .int .i64 iZ, .int .i64 ja, .slice dU cB.length dV] 24 (0, 0))) ∧ (w'.heap[aN]? = some (.cells #[.int .i64 gU, .int .i64 gV, .int .i64 gW, .int .i64 gX, .slice eU dn.length eX] 24 (0, 0))) ∧ (w'.heap[aW]? = some (.cells #[.int .i64 5, .int .i64 0, .int .i64 0, .int .i64 0, .slice dC cZ.length dD] 24 (0, 0))) ∧ (w'.heap[s_]? = some (.cells #[.int .i64 0, .int .i64 0, .int .i64 0, .int .i64 0, .slice none 0 0] 24 (0, 0))) ∧ (w.heap.size ≤ s_) ∧ (w.heap.size ≤ s_) ∧ (bI ≠ s_) ∧ (s_ ≠ bI) ∧ (bD ≠ s_) ∧ (s_ ≠ bD) ∧ (bE ≠ s_) ∧ (s_ ≠ bE) ∧ (aN ≠ s_) ∧ (s_ ≠ aN) ∧ (aW ≠ s_) ∧ (s_ ≠ aW) ∧ (aD w w' bI kG zn zo) ∧ (Below w.heap.size w w')) ?_ ?_
         rotate_left
         ·intro hJ1_5; refine LC (σ := Value × Nat) 3 #[true, false, true, true, false, true, false] (fun s_ => [(25, s_.1), (8, .pointer (some ⟨s_.2, 0, none⟩))]) (fun s_ w' => (w'.cell? ⟨aN, 0, none⟩ = some (.int .i64 gU) ∧ w'.cell? ⟨aN, 1, none⟩ = some (.int .i64 gV) ∧ w'.cell? ⟨aN, 2, none⟩ = some (.int .i64 gW) ∧ w'.cell? ⟨aN, 3, none⟩ = some (.int .i64 gX) ∧ w'.cell? ⟨aN, 4, none⟩ = some (.slice eU dn.length eX)) ∧ (Kd.N k24 24 w' w.heap.size (fun k_ => some k_ ≠ (.slice dU cB.length dV : Value).ownBlock ∧ some k_ ≠ (.slice eU dn.length eX : Value).ownBlock ∧ some k_ ≠ (.slice dC cZ.length dD : Value).ownBlock ∧ some k_ ≠ (s_.1 : Value).ownBlock ∧ k_ ≠ bI ∧ k_ ≠ bD ∧ k_ ≠ bE ∧ k_ ≠ aN ∧ k_ ≠ aW ∧ k_ ≠ s_.2) (.slice dK cu.length dI) cu) ∧ (Kd.N k24 24 w' w.heap.size (fun k_ => some k_ ≠ (.slice dK cu.length dI : Value).ownBlock ∧ some k_ ≠ (.slice eU dn.length eX : Value).ownBlock ∧ some k_ ≠ (.slice dC cZ.length dD : Value).ownBlock ∧ some k_ ≠ (s_.1 : Value).ownBlock ∧ k_ ≠ bI ∧ k_ ≠ bD ∧ k_ ≠ bE ∧ k_ ≠ aN ∧ k_ ≠ aW ∧ k_ ≠ s_.2) (.slice dU cB.length dV) cB) ∧ (Kd.N k24 24 w' w.heap.size (fun k_ => some k_ ≠ (.slice dK cu.length dI : Value).ownBlock ∧ some k_ ≠ (.slice dU cB.length dV : Value).ownBlock ∧ some k_ ≠ (.slice dC cZ.length dD : Value).ownBlock ∧ some k_ ≠ (s_.1 : Value).ownBlock ∧ k_ ≠ bI ∧ k_ ≠ bD ∧ k_ ≠ bE ∧ k_ ≠ aN ∧ k_ ≠ aW ∧ k_ ≠ s_.2) (.slice eU dn.length eX) dn) ∧ (Kd.N k24 24 w' w.heap.size (fun k_ => some k_ ≠ (s_.1 : Value).ownBlock ∧ k_ ≠ bI ∧ k_ ≠ bD ∧ k_ ≠ bE ∧ k_ ≠ aN ∧ k_ ≠ aW ∧ k_ ≠ s_.2) (.slice dC cZ.length dD) cZ) ∧ (Kd.N k24 24 w' w.heap.size (fun k_ => some k_ ≠ (.slice dK cu.length dI : Value).ownBlock ∧ some k_ ≠ (.slice dU cB.length dV : Value).ownBlock ∧ some k_ ≠ (.slice dC cZ.length dD : Value).ownBlock ∧ k_ ≠ bI ∧ k_ ≠ bD ∧ k_ ≠ bE ∧ k_ ≠ aN ∧ k_ ≠ aW ∧ k_ ≠ s_.2) s_.1 ku) ∧ (w'.heap[bD]? = some (.cells #[.int .i64 iT, .int .i64 iU, .int .i64 iV, .int .i64 iW, .slice dK cu.length dI] 24 (0, 0))) ∧ (w'.heap[bE]? = some (.cells #[.int .i64 iX, .int .i64 iY, .int .i64 iZ, .int .i64 ja, .slice dU cB.length dV] 24 (0, 0))) ∧ (w'.heap[aN]? = some (.cells #[.int .i64 gU, .int .i64 gV, .int .i64 gW, .int .i64 gX, .slice eU dn.length eX] 24 (0, 0))) ∧ (w'.heap[aW]? = some (.cells #[.int .i64 5, .int .i64 0, .int .i64 0, .int .i64 0, .slice dC cZ.length dD] 24 (0, 0))) ∧ (w'.heap[s_.2]? = some (.cells #[.int .i64 0, .int .i64 0, .int .i64 0, .int .i64 0, .slice none 0 0] 24 (0, 0))) ∧ (w.heap.size ≤ s_.2) ∧ (w.heap.size ≤ s_.2) ∧ (bI ≠ s_.2) ∧ (s_.2 ≠ bI) ∧ (bD ≠ s_.2) ∧ (s_.2 ≠ bD) ∧ (bE ≠ s_.2) ∧ (s_.2 ≠ bE) ∧ (aN ≠ s_.2) ∧ (s_.2 ≠ aN) ∧ (aW ≠ s_.2) ∧ (s_.2 ≠ aW) ∧ (aD w w' bI kG pG pI) ∧ (Below w.heap.size w w')) ?_ ?_
          rotate_left
          ·intro hJ3_5; refine LC (σ := Unit) 4 #[true, true, true, false, false, false, false] (fun s_ => [(23, .int .i64 lN)]) (fun s_ w' => (w'.cell? ⟨aN, 0, none⟩ = some (.int .i64 gU) ∧ w'.cell? ⟨aN, 1, none⟩ = some (.int .i64 gV) ∧ w'.cell? ⟨aN, 2, none⟩ = some (.int .i64 gW) ∧ w'.cell? ⟨aN, 3, none⟩ = some (.int .i64 gX) ∧ w'.cell? ⟨aN, 4, none⟩ = some (.slice eU dn.length eX)) ∧ (Kd.N k24 24 w' w.heap.size (fun k_ => some k_ ≠ (.slice dU cB.length dV : Value).ownBlock ∧ some k_ ≠ (.slice eU dn.length eX : Value).ownBlock ∧ some k_ ≠ (.slice dC cZ.length dD : Value).ownBlock ∧ k_ ≠ bI ∧ k_ ≠ bD ∧ k_ ≠ bE ∧ k_ ≠ aN ∧ k_ ≠ aW) (.slice dK cu.length dI) cu) ∧ (Kd.N k24 24 w' w.heap.size (fun k_ => some k_ ≠ (.slice dK cu.length dI : Value).ownBlock ∧ some k_ ≠ (.slice eU dn.length eX : Value).ownBlock ∧ some k_ ≠ (.slice dC cZ.length dD : Value).ownBlock ∧ k_ ≠ bI ∧ k_ ≠ bD ∧ k_ ≠ bE ∧ k_ ≠ aN ∧ k_ ≠ aW) (.slice dU cB.length dV) cB) ∧ (Kd.N k24 24 w' w.heap.size (fun k_ => some k_ ≠ (.slice dK cu.length dI : Value).ownBlock ∧ some k_ ≠ (.slice dU cB.length dV : Value).ownBlock ∧ some k_ ≠ (.slice dC cZ.length dD : Value).ownBlock ∧ k_ ≠ bI ∧ k_ ≠ bD ∧ k_ ≠ bE ∧ k_ ≠ aN ∧ k_ ≠ aW) (.slice eU dn.length eX) dn) ∧ (Kd.N k24 24 w' w.heap.size (fun k_ => k_ ≠ bI ∧ k_ ≠ bD ∧ k_ ≠ bE ∧ k_ ≠ aN ∧ k_ ≠ aW) (.slice dC cZ.length dD) cZ) ∧ (w'.heap[bD]? = some (.cells #[.int .i64 iT, .int .i64 iU, .int .i64 iV, .int .i64 iW, .slice dK cu.length dI] 24 (0, 0))) ∧ (w'.heap[bE]? = some (.cells #[.int .i64 iX, .int .i64 iY, .int .i64 iZ, .int .i64 ja, .slice dU cB.length dV] 24 (0, 0))) ∧ (w'.heap[aN]? = some (.cells #[.int .i64 gU, .int .i64 gV, .int .i64 gW, .int .i64 gX, .slice eU dn.length eX] 24 (0, 0))) ∧ (w'.heap[aW]? = some (.cells #[.int .i64 5, .int .i64 0, .int .i64 0, .int .i64 0, .slice dC cZ.length dD] 24 (0, 0))) ∧ (aD w w' bI kG zn zo) ∧ (Below w.heap.size w w')) ?_ ?_
           rotate_left
           ·intro hJ1; refine LC (σ := Value) 4 #[true, false, true, true, false, false, false] (fun s_ => [(25, s_)]) (fun s_ w' => (w'.cell? ⟨aN, 0, none⟩ = some (.int .i64 gU) ∧ w'.cell? ⟨aN, 1, none⟩ = some (.int .i64 gV) ∧ w'.cell? ⟨aN, 2, none⟩ = some (.int .i64 gW) ∧ w'.cell? ⟨aN, 3, none⟩ = some (.int .i64 gX) ∧ w'.cell? ⟨aN, 4, none⟩ = some (.slice eU dn.length eX)) ∧ (Kd.N k24 24 w' w.heap.size (fun k_ => some k_ ≠ (.slice dU cB.length dV : Value).ownBlock ∧ some k_ ≠ (.slice eU dn.length eX : Value).ownBlock ∧ some k_ ≠ (.slice dC cZ.length dD : Value).ownBlock ∧ some k_ ≠ (s_ : Value).ownBlock ∧ k_ ≠ bI ∧ k_ ≠ bD ∧ k_ ≠ bE ∧ k_ ≠ aN ∧ k_ ≠ aW) (.slice dK cu.length dI) cu) ∧ (Kd.N k24 24 w' w.heap.size (fun k_ => some k_ ≠ (.slice dK cu.length dI : Value).ownBlock ∧ some k_ ≠ (.slice eU dn.length eX : Value).ownBlock ∧ some k_ ≠ (.slice dC cZ.length dD : Value).ownBlock ∧ some k_ ≠ (s_ : Value).ownBlock ∧ k_ ≠ bI ∧ k_ ≠ bD ∧ k_ ≠ bE ∧ k_ ≠ aN ∧ k_ ≠ aW) (.slice dU cB.length dV) cB) ∧ (Kd.N k24 24 w' w.heap.size (fun k_ => some k_ ≠ (.slice dK cu.length dI : Value).ownBlock ∧ some k_ ≠ (.slice dU cB.length dV : Value).ownBlock ∧ some k_ ≠ (.slice dC cZ.length dD : Value).ownBlock ∧ some k_ ≠ (s_ : Value).ownBlock ∧ k_ ≠ bI ∧ k_ ≠ bD ∧ k_ ≠ bE ∧ k_ ≠ aN ∧ k_ ≠ aW) (.slice eU dn.length eX) dn) ∧ (Kd.N k24 24 w' w.heap.size (fun k_ => some k_ ≠ (s_ : Value).ownBlock ∧ k_ ≠ bI ∧ k_ ≠ bD ∧ k_ ≠ bE ∧ k_ ≠ aN ∧ k_ ≠ aW) (.slice dC cZ.length dD) cZ) ∧ (Kd.N k24 24 w' w.heap.size (fun k_ => some k_ ≠ (.slice dK cu.length dI : Value).ownBlock ∧ some k_ ≠ (.slice dU cB.length dV : Value).ownBlock ∧ some k_ ≠ (.slice dC cZ.length dD : Value).ownBlock ∧ k_ ≠ bI ∧ k_ ≠ bD ∧ k_ ≠ bE ∧ k_ ≠ aN ∧ k_ ≠ aW) s_ ku) ∧ (w'.heap[bD]? = some (.cells #[.int .i64 iT, .int .i64 iU, .int .i64 iV, .int .i64 iW, .slice dK cu.length dI] 24 (0, 0))) ∧ (w'.heap[bE]? = some (.cells #[.int .i64 iX, .int .i64 iY, .int .i64 iZ, .int .i64 ja, .slice dU cB.length dV] 24 (0, 0))) ∧ (w'.heap[aN]? = some (.cells #[.int .i64 gU, .int .i64 gV, .int .i64 gW, .int .i64 gX, .slice eU dn.length eX] 24 (0, 0))) ∧ (w'.heap[aW]? = some (.cells #[.int .i64 5, .int .i64 0, .int .i64 0, .int .i64 0, .slice dC cZ.length dD] 24 (0, 0))) ∧ (aD w w' bI kG pG pI) ∧ (Below w.heap.size w w')) ?_ ?_
            rotate_left
            ·intro hJ3; refine LC (σ := Nat) 4 #[true, false, true, false, false, true, false] (fun s_ => [(8, .pointer (some ⟨s_, 0, none⟩))]) (fun s_ w' => (w'.cell? ⟨aN, 0, none⟩ = some (.int .i64 gU) ∧ w'.cell? ⟨aN, 1, none⟩ = some (.int .i64 gV) ∧ w'.cell? ⟨aN, 2, none⟩ = some (.int .i64 gW) ∧ w'.cell? ⟨aN, 3, none⟩ = some (.int .i64 gX) ∧ w'.cell? ⟨aN, 4, none⟩ = some (.slice eU dn.length eX)) ∧ (Kd.N k24 24 w' w.heap.size (fun k_ => some k_ ≠ (.slice dU cB.length dV : Value).ownBlock ∧ some k_ ≠ (.slice eU dn.length eX : Value).ownBlock ∧ some k_ ≠ (.slice dC cZ.length dD : Value).ownBlock ∧ k_ ≠ bI ∧ k_ ≠ bD ∧ k_ ≠ bE ∧ k_ ≠ aN ∧ k_ ≠ aW ∧ k_ ≠ s_) (.slice dK cu.length dI) cu) ∧ (Kd.N k24 24 w' w.heap.size (fun k_ => some k_ ≠ (.slice dK cu.length dI : Value).ownBlock ∧ some k_ ≠ (.slice eU dn.length eX : Value).ownBlock ∧ some k_ ≠ (.slice dC cZ.length dD : Value).ownBlock ∧ k_ ≠ bI ∧ k_ ≠ bD ∧ k_ ≠ bE ∧ k_ ≠ aN ∧ k_ ≠ aW ∧ k_ ≠ s_) (.slice dU cB.length dV) cB) ∧ (Kd.N k24 24 w' w.heap.size (fun k_ => some k_ ≠ (.slice dK cu.length dI : Value).ownBlock ∧ some k_ ≠ (.slice dU cB.length dV : Value).ownBlock ∧ some k_ ≠ (.slice dC cZ.length dD : Value).ownBlock ∧ k_ ≠ bI ∧ k_ ≠ bD ∧ k_ ≠ bE ∧ k_ ≠ aN ∧ k_ ≠ aW ∧ k_ ≠ s_) (.slice eU dn.length eX) dn) ∧ (Kd.N k24 24 w' w.heap.size (fun k_ => k_ ≠ bI ∧ k_ ≠ bD ∧ k_ ≠ bE ∧ k_ ≠ aN ∧ k_ ≠ aW ∧ k_ ≠ s_) (.slice dC cZ.length dD) cZ) ∧ (w'.heap[bD]? = some (.cells #[.int .i64 iT, .int .i64 iU, .int .i64 iV, .int .i64 iW, .slice dK cu.length dI] 24 (0, 0))) ∧ (w'.heap[bE]? = some (.cells #[.int .i64 iX, .int .i64 iY, .int .i64 iZ, .int .i64 ja, .slice dU cB.length dV] 24 (0, 0))) ∧ (w'.heap[aN]? = some (.cells #[.int .i64 gU, .int .i64 gV, .int .i64 gW, .int .i64 gX, .slice eU dn.length eX] 24 (0, 0))) ∧ (w'.heap[aW]? = some (.cells #[.int .i64 5, .int .i64 0, .int .i64 0, .int .i64 0, .slice dC cZ.length dD] 24 (0, 0))) ∧ (w'.heap[s_]? = some (.cells #[.int .i64 0, .int .i64 0, .int .i64 0, .int .i64 0, .slice none 0 0] 24 (0, 0))) ∧ (w.heap.size ≤ s_) ∧ (w.heap.size ≤ s_) ∧ (bI ≠ s_) ∧ (s_ ≠ bI) ∧ (bD ≠ s_) ∧ (s_ ≠ bD) ∧ (bE ≠ s_) ∧ (s_ ≠ bE) ∧ (aN ≠ s_) ∧ (s_ ≠ aN) ∧ (aW ≠ s_) ∧ (s_ ≠ aW) ∧ (aD w w' bI kG pG pI) ∧ (Below w.heap.size w w')) ?_ ?_
             rotate_left
             ·intro hJ5; refine three_ (i := 1) (j := 3) (k := 5) (Ni := some 23) (Nj := some 25) (Nk := some 8) #[true, true, true, false, false, false, false] #[true, false, true, true, false, false, false] #[true, false, true, false, false, true, false] rfl rfl rfl rfl rfl rfl (by kernel_rfl) (by decide) (by decide) (by decide) (fun K hK => ?_) (fun K hK => ?_) (fun K hK => ?_)
              ·skip
               refine kY Tryd.func17 (by kernel_rfl) rfl #[.pointer (some ⟨bI, 0, none⟩), .int .i64 0, .int .i64 5] (by rfl) rfl rfl mp_ ?_
               with_reducible refine (dQ.calls bI kG pG pI 0 5 lN zn zo w _ ?ay ?az A6.out).mono ?_
               (case ay => repeat (first | (with_reducible first | exact gI.out | apply aD.alloc | apply aD.drewN | apply aD.drew | apply aD.sG | apply aD.sH | refine aD.far ?_ FJ.out _ | refine aD.far ?_ FM.out _ | refine aD.far ?_ FO.out _ | refine aD.far ?_ FQ.out _) | exact gI.out))
               (case az => repeat (first | (with_reducible first | exact HB.out | apply bS | apply bO | apply bQ | refine ed ?_ (aD.ge gI.out) | refine ed ?_ GE698.out | refine ed ?_ GE699.out | refine ed ?_ GE700.out | refine ed ?_ GE704.out) | exact HB.out))
               rintro e w57 ⟨rfl, hi, hb, hk⟩
               refine ⟨_, rfl, ?_⟩
               replace dS := aa.mk (Kd.aM (Kd.jI (Kd.aM (ok := fun k_ => (some k_ ≠ (.slice dU cB.length dV : Value).ownBlock ∧ (some k_ ≠ (.slice eU dn.length eX : Value).ownBlock ∧ (some k_ ≠ (.slice dC cZ.length dD : Value).ownBlock ∧ (k_ ≠ bI ∧ (k_ ≠ bD ∧ (k_ ≠ bE ∧ (k_ ≠ aN ∧ k_ ≠ aW)))))))) (pN_ dS.out) (fun k_ hk_ => (⟨hk_, hk_.2.2.2.1⟩ : _ ∧ k_ ≠ bI))) hk (fun _ h => h.2)) (fun _ h => h.1)); replace ek := aa.mk (Kd.aM (Kd.jI (Kd.aM (ok := fun k_ => (some k_ ≠ (.slice dK cu.length dI : Value).ownBlock ∧ (some k_ ≠ (.slice eU dn.length eX : Value).ownBlock ∧ (some k_ ≠ (.slice dC cZ.length dD : Value).ownBlock ∧ (k_ ≠ bI ∧ (k_ ≠ bD ∧ (k_ ≠ bE ∧ (k_ ≠ aN ∧ k_ ≠ aW)))))))) (pN_ ek.out) (fun k_ hk_ => (⟨hk_, hk_.2.2.2.1⟩ : _ ∧ k_ ≠ bI))) hk (fun _ h => h.2)) (fun _ h => h.1)); replace eB := aa.mk (Kd.aM (Kd.jI (Kd.aM (ok := fun k_ => (some k_ ≠ (.slice dK cu.length dI : Value).ownBlock ∧ (some k_ ≠ (.slice dU cB.length dV : Value).ownBlock ∧ (some k_ ≠ (.slice dC cZ.length dD : Value).ownBlock ∧ (k_ ≠ bI ∧ (k_ ≠ bD ∧ (k_ ≠ bE ∧ (k_ ≠ aN ∧ k_ ≠ aW)))))))) (pN_ eB.out) (fun k_ hk_ => (⟨hk_, hk_.2.2.2.1⟩ : _ ∧ k_ ≠ bI))) hk (fun _ h => h.2)) (fun _ h => h.1)); replace dw := aa.mk (aI.blk hk (g' := bD) (o := .cells #[.int .i64 iT, .int .i64 iU, .int .i64 iV, .int .i64 iW, .slice dK cu.length dI] 24 (0, 0)) bk_ FL.out (by simp)); replace dB := aa.mk (aI.blk hk (g' := bE) (o := .cells #[.int .i64 iX, .int .i64 iY, .int .i64 iZ, .int .i64 ja, .slice dU cB.length dV] 24 (0, 0)) bk_ FN.out (by simp)); replace bN := aa.mk (aI.blk hk (g' := aN) (o := .cells #[.int .i64 gU, .int .i64 gV, .int .i64 gW, .int .i64 gX, .slice eU dn.length eX] 24 (0, 0)) bk_ FP.out (by simp)); replace fQ := aa.mk (Kd.aM (Kd.jI (Kd.aM (ok := fun k_ => (k_ ≠ bD ∧ (k_ ≠ bE ∧ (k_ ≠ aN ∧ (k_ ≠ bI ∧ k_ ≠ aW))))) (pN_ fQ.out) (fun k_ hk_ => (⟨hk_, hk_.2.2.2.1⟩ : _ ∧ k_ ≠ bI))) hk (fun _ h => h.2)) (fun _ h => h.1)); replace dR := aa.mk (aI.blk hk (g' := aW) (o := .cells #[.int .i64 5, .int .i64 0, .int .i64 0, .int .i64 0, .slice dC cZ.length dD] 24 (0, 0)) bk_ FR.out (by simp)); replace HB := aa.mk (hb); replace gI := aa.mk (hi); (try clear hb)
               (try clear hb2)
               (try clear hk)
               (try clear hi)
               refine hK.out _ _ ⟨(ag bN.out 0).trans rfl, (ag bN.out 1).trans rfl, (ag bN.out 2).trans rfl, (ag bN.out 3).trans rfl, (ag bN.out 4).trans rfl⟩ (fun hHeld => ?_)
               clear hK K; refine ic (a' := ?_) ?_ ?_
               rotate_left
               ·show Act.put _ (some 23) _ = _
                simp only [Act.put, List.setIfInBounds_toArray, List.set_cons_zero, List.set_cons_succ, eT, fA]; rfl
               exact ic (by first | (simp only [jH, Act.put, List.setIfInBounds_toArray, List.set_cons_zero, List.set_cons_succ]; done) | (simp only [jH, Act.put, List.setIfInBounds_toArray, List.set_cons_zero, List.set_cons_succ]; rfl)) (hJ1 () _ ⟨hHeld, (pN_ dS.out), (pN_ ek.out), (pN_ eB.out), (by (with_reducible repeat (first | apply Kd.dL | apply Kd.dM | apply Kd.dO)); exact Kd.aM fQ.out (fun _ hk => ⟨hk.2.2.2.1, ⟨hk.1, ⟨hk.2.1, ⟨hk.2.2.1, hk.2.2.2.2⟩⟩⟩⟩)), bk_, bk_, bk_, bk_, si_, bl_⟩)
              ·skip
               refine Kd.Gd k24 _ 24 ?hg (N' := 25) ?hd (xs := ([(⟨gU, gV, gW, gX, dn⟩ : S24)] : List (S24))) (inner := [.int .i64 gU, .int .i64 gV, .int .i64 gW, .int .i64 gX, .slice eU dn.length eX]) (ok := (fun k_ => some k_ ≠ (.slice dK cu.length dI : Value).ownBlock ∧ some k_ ≠ (.slice dU cB.length dV : Value).ownBlock ∧ some k_ ≠ (.slice dC cZ.length dD : Value).ownBlock ∧ k_ ≠ bD ∧ k_ ≠ bE ∧ k_ ≠ aN ∧ k_ ≠ aW ∧ k_ ≠ bI)) (okp := (fun k_ => some k_ ≠ (.slice dK cu.length dI : Value).ownBlock ∧ some k_ ≠ (.slice dU cB.length dV : Value).ownBlock ∧ some k_ ≠ (.slice dC cZ.length dD : Value).ownBlock ∧ k_ ≠ bD ∧ k_ ≠ bE ∧ k_ ≠ aN ∧ k_ ≠ aW ∧ k_ ≠ bI)) ?hr ?hp (fun _ hk => hk) ((show ∀ k_, w56.heap.size ≤ k_ → (fun k_ => some k_ ≠ (.slice dK cu.length dI : Value).ownBlock ∧ some k_ ≠ (.slice dU cB.length dV : Value).ownBlock ∧ some k_ ≠ (.slice dC cZ.length dD : Value).ownBlock ∧ k_ ≠ bD ∧ k_ ≠ bE ∧ k_ ≠ aN ∧ k_ ≠ aW ∧ k_ ≠ bI) k_ from fun k_ hk => ⟨Kd.fresh' (Kd.xH (pN_ dS.out)) k_ hk, Kd.fresh' (Kd.xH (pN_ ek.out)) k_ hk, Kd.fresh' (Kd.xH (pN_ fQ.out)) k_ hk, Kd.iH (g := bD) (o := .cells #[.int .i64 iT, .int .i64 iU, .int .i64 iV, .int .i64 iW, .slice dK cu.length dI] 24 (0, 0)) bk_ k_ hk, Kd.iH (g := bE) (o := .cells #[.int .i64 iX, .int .i64 iY, .int .i64 iZ, .int .i64 ja, .slice dU cB.length dV] 24 (0, 0)) bk_ k_ hk, Kd.iH (g := aN) (o := .cells #[.int .i64 gU, .int .i64 gV, .int .i64 gW, .int .i64 gX, .slice eU dn.length eX] 24 (0, 0)) bk_ k_ hk, Kd.iH (g := aW) (o := .cells #[.int .i64 5, .int .i64 0, .int .i64 0, .int .i64 0, .slice dC cZ.length dD] 24 (0, 0)) bk_ k_ hk, aD.fresh si_ k_ hk⟩) _ (Nat.le_refl _)) (Below.refl _ _) (Nat.le_refl _) (by simp) ?_; (case hd => rfl); (case hg => rfl); (case hr => first | (go_simp; done) | (go_simp; rfl)); (case hp => exact (dN.c5 (show Kd.FK k24 _ _ (⟨gU, gV, gW, gX, dn⟩ : S24) [.int .i64 gU, .int .i64 gV, .int .i64 gW, .int .i64 gX, .slice eU dn.length eX] from (vS _ _ (⟨gU, gV, gW, gX, dn⟩ : S24) (Kd.iL (Kd.aM (ok' := (fun k_ => some k_ ≠ (.slice dK cu.length dI : Value).ownBlock ∧ some k_ ≠ (.slice dU cB.length dV : Value).ownBlock ∧ some k_ ≠ (.slice dC cZ.length dD : Value).ownBlock ∧ k_ ≠ bD ∧ k_ ≠ bE ∧ k_ ≠ aN ∧ k_ ≠ aW ∧ k_ ≠ bI)) (eB.out) (fun k_ hk => ⟨hk.1, ⟨hk.2.1, ⟨hk.2.2.1, ⟨hk.2.2.2.2.1, ⟨hk.2.2.2.2.2.1, ⟨hk.2.2.2.2.2.2.1, ⟨hk.2.2.2.2.2.2.2, hk.2.2.2.1⟩⟩⟩⟩⟩⟩⟩))).2.1 (Kd.N_F (Kd.aM (ok' := (fun k_ => some k_ ≠ (.slice dK cu.length dI : Value).ownBlock ∧ some k_ ≠ (.slice dU cB.length dV : Value).ownBlock ∧ some k_ ≠ (.slice dC cZ.length dD : Value).ownBlock ∧ k_ ≠ bD ∧ k_ ≠ bE ∧ k_ ≠ aN ∧ k_ ≠ aW ∧ k_ ≠ bI)) (eB.out) (fun k_ hk => ⟨hk.1, ⟨hk.2.1, ⟨hk.2.2.1, ⟨hk.2.2.2.2.1, ⟨hk.2.2.2.2.2.1, ⟨hk.2.2.2.2.2.2.1, ⟨hk.2.2.2.2.2.2.2, hk.2.2.2.1⟩⟩⟩⟩⟩⟩⟩))))) (dN.none _ _)))
               intro lQ w57 zq hb hg_ ig; clear hg_ ig; (first | rw [← JW.out] at zq | (simp only [Int.reduceToNat] at zq; rw [← JW.out] at zq))
               have iJ := aa.mk (Kd.kW zq (ax bl_)); replace dS := aa.mk (Kd.jT (pN_ dS.out) (by first | exact Kd.iq zq | exact Kd.cO zq | exact Kd.iq (Kd.S_N zq)) hb); replace ek := aa.mk (Kd.jT (pN_ ek.out) (by first | exact Kd.iq zq | exact Kd.cO zq | exact Kd.iq (Kd.S_N zq)) hb); replace eB := aa.mk (Kd.jT (pN_ eB.out) (by first | exact Kd.iq zq | exact Kd.cO zq | exact Kd.iq (Kd.S_N zq)) hb); replace fQ := aa.mk (Kd.jT (pN_ fQ.out) (by first | exact Kd.iq zq | exact Kd.cO zq | exact Kd.iq (Kd.S_N zq)) hb); replace gI := aa.mk (aD.below si_ hb); replace dw := kb_ dw hb; replace dB := kb_ dB hb; replace bN := kb_ bN hb; replace dR := kb_ dR hb; replace HB := aa.mk (ai bl_ hb); clear hb zq; refine hK.out _ _ ⟨(ag bN.out 0).trans rfl, (ag bN.out 1).trans rfl, (ag bN.out 2).trans rfl, (ag bN.out 3).trans rfl, (ag bN.out 4).trans rfl⟩ (fun hHeld => ?_)
               clear hK K; refine ic (a' := ?_) ?_ ?_
               rotate_left
               ·show Act.put _ (some 25) _ = _
                simp only [Act.put, List.setIfInBounds_toArray, List.set_cons_zero, List.set_cons_succ, eT, fA]; rfl
               exact ic (by first | (simp only [jH, Act.put, List.setIfInBounds_toArray, List.set_cons_zero, List.set_cons_succ]; done) | (simp only [jH, Act.put, List.setIfInBounds_toArray, List.set_cons_zero, List.set_cons_succ]; rfl)) (hJ3 (lQ) _ ⟨hHeld, (by (with_reducible repeat (first | apply Kd.dL | apply Kd.dM | apply Kd.dO)); exact Kd.aM dS.out (fun _ hk => ⟨hk.1.1, ⟨hk.1.2.1, ⟨hk.1.2.2.1, ⟨hk.2, ⟨hk.1.2.2.2.1, ⟨hk.1.2.2.2.2.1, ⟨hk.1.2.2.2.2.2.1, ⟨hk.1.2.2.2.2.2.2.1, hk.1.2.2.2.2.2.2.2⟩⟩⟩⟩⟩⟩⟩⟩)), (by (with_reducible repeat (first | apply Kd.dL | apply Kd.dM | apply Kd.dO)); exact Kd.aM ek.out (fun _ hk => ⟨hk.1.1, ⟨hk.1.2.1, ⟨hk.1.2.2.1, ⟨hk.2, ⟨hk.1.2.2.2.1, ⟨hk.1.2.2.2.2.1, ⟨hk.1.2.2.2.2.2.1, ⟨hk.1.2.2.2.2.2.2.1, hk.1.2.2.2.2.2.2.2⟩⟩⟩⟩⟩⟩⟩⟩)), (by (with_reducible repeat (first | apply Kd.dL | apply Kd.dM | apply Kd.dO)); exact Kd.aM eB.out (fun _ hk => ⟨hk.1.1, ⟨hk.1.2.1, ⟨hk.1.2.2.1, ⟨hk.2, ⟨hk.1.2.2.2.1, ⟨hk.1.2.2.2.2.1, ⟨hk.1.2.2.2.2.2.1, ⟨hk.1.2.2.2.2.2.2.1, hk.1.2.2.2.2.2.2.2⟩⟩⟩⟩⟩⟩⟩⟩)), (by (with_reducible repeat (first | apply Kd.dL | apply Kd.dM | apply Kd.dO)); exact Kd.aM fQ.out (fun _ hk => ⟨hk.2, ⟨hk.1.2.2.2.1, ⟨hk.1.1, ⟨hk.1.2.1, ⟨hk.1.2.2.1, hk.1.2.2.2.2⟩⟩⟩⟩⟩)), (by (with_reducible repeat (first | apply Kd.dL | apply Kd.dM | apply Kd.dO)); exact Kd.aM iJ.out (fun _ hk => ⟨hk.1, ⟨hk.2.1, ⟨hk.2.2.1, ⟨hk.2.2.2.2.2.2.2, ⟨hk.2.2.2.1, ⟨hk.2.2.2.2.1, ⟨hk.2.2.2.2.2.1, hk.2.2.2.2.2.2.1⟩⟩⟩⟩⟩⟩⟩)), bk_, bk_, bk_, bk_, si_, bl_⟩)
              ·skip
               refine LA ?hg (N := 8) ?hd (cs := #[.int .i64 0, .int .i64 0, .int .i64 0, .int .i64 0, .slice none 0 0]) (t := 24) ?hr ?_; (case hd => rfl); (case hg => rfl); (case hr => first | (go_simp; done) | (go_simp; rfl))
               intro aQ hg w57 aK hb; have fq := aa.mk (aK); have sV : aa (w.heap.size ≤ aQ) := gw_ hg (ax bl_); have vF := sV; have jo := nl_ dw hg; have jZ := ng_ dw hg; have jq := nl_ dB hg; have j5 := ng_ dB hg; have fo := nl_ bN hg; have j6 := ng_ bN hg; have jr := nl_ dR hg; have kg := ng_ dR hg; have kU := aa.mk ((by rw [hg]; exact Nat.ne_of_lt (aD.lt (show aD w _ bI kG pG pI from si_)) : bI ≠ aQ)); have kV := aa.mk ((by rw [hg]; exact Nat.ne_of_gt (aD.lt (show aD w _ bI kG pG pI from si_)) : aQ ≠ bI)); replace dS := aa.mk (Kd.dF (Kd.gT (pN_ dS.out) aQ (Nat.le_of_eq hg.symm)) hb); replace ek := aa.mk (Kd.dF (Kd.gT (pN_ ek.out) aQ (Nat.le_of_eq hg.symm)) hb); replace eB := aa.mk (Kd.dF (Kd.gT (pN_ eB.out) aQ (Nat.le_of_eq hg.symm)) hb); replace fQ := aa.mk (Kd.dF (Kd.gT (pN_ fQ.out) aQ (Nat.le_of_eq hg.symm)) hb); replace gI := aa.mk (aD.below si_ hb); replace dw := kb_ dw hb; replace dB := kb_ dB hb; replace bN := kb_ bN hb; replace dR := kb_ dR hb; replace HB := aa.mk (ai bl_ hb); clear hb aK hg; refine hK.out _ _ ⟨(ag bN.out 0).trans rfl, (ag bN.out 1).trans rfl, (ag bN.out 2).trans rfl, (ag bN.out 3).trans rfl, (ag bN.out 4).trans rfl⟩ (fun hHeld => ?_)
               clear hK K; refine ic (a' := ?_) ?_ ?_
               rotate_left
               ·show Act.put _ (some 8) _ = _
                simp only [Act.put, List.setIfInBounds_toArray, List.set_cons_zero, List.set_cons_succ, eT, fA]; rfl
               exact ic (by first | (simp only [jH, Act.put, List.setIfInBounds_toArray, List.set_cons_zero, List.set_cons_succ]; done) | (simp only [jH, Act.put, List.setIfInBounds_toArray, List.set_cons_zero, List.set_cons_succ]; rfl)) (hJ5 (aQ) _ ⟨hHeld, (by (with_reducible repeat (first | apply Kd.dL | apply Kd.dM | apply Kd.dO)); exact Kd.aM dS.out (fun _ hk => ⟨hk.1.1, ⟨hk.1.2.1, ⟨hk.1.2.2.1, ⟨hk.1.2.2.2.1, ⟨hk.1.2.2.2.2.1, ⟨hk.1.2.2.2.2.2.1, ⟨hk.1.2.2.2.2.2.2.1, ⟨hk.1.2.2.2.2.2.2.2, hk.2⟩⟩⟩⟩⟩⟩⟩⟩)), (by (with_reducible repeat (first | apply Kd.dL | apply Kd.dM | apply Kd.dO)); exact Kd.aM ek.out (fun _ hk => ⟨hk.1.1, ⟨hk.1.2.1, ⟨hk.1.2.2.1, ⟨hk.1.2.2.2.1, ⟨hk.1.2.2.2.2.1, ⟨hk.1.2.2.2.2.2.1, ⟨hk.1.2.2.2.2.2.2.1, ⟨hk.1.2.2.2.2.2.2.2, hk.2⟩⟩⟩⟩⟩⟩⟩⟩)), (by (with_reducible repeat (first | apply Kd.dL | apply Kd.dM | apply Kd.dO)); exact Kd.aM eB.out (fun _ hk => ⟨hk.1.1, ⟨hk.1.2.1, ⟨hk.1.2.2.1, ⟨hk.1.2.2.2.1, ⟨hk.1.2.2.2.2.1, ⟨hk.1.2.2.2.2.2.1, ⟨hk.1.2.2.2.2.2.2.1, ⟨hk.1.2.2.2.2.2.2.2, hk.2⟩⟩⟩⟩⟩⟩⟩⟩)), (by (with_reducible repeat (first | apply Kd.dL | apply Kd.dM | apply Kd.dO)); exact Kd.aM fQ.out (fun _ hk => ⟨hk.1.2.2.2.1, ⟨hk.1.1, ⟨hk.1.2.1, ⟨hk.1.2.2.1, ⟨hk.1.2.2.2.2, hk.2⟩⟩⟩⟩⟩)), bk_, bk_, bk_, bk_, bk_, sV.out, vF.out, kU.out, kV.out, jo.out, jZ.out, jq.out, j5.out, fo.out, j6.out, jr.out, kg.out, si_, bl_⟩)
             ·skip
              rintro aQ w58 ⟨hS_, h0_, h1_, h2_, h3_, h4_, h5_, h6_, h7_, h8_, h9_, zt, Jm, Jn, Jo, Jp, Jq, Jr, Js, Jt, Ju, Jv, Jw, Jy⟩
              have fq : aa (w58.heap[aQ]? = some (.cells #[.int .i64 0, .int .i64 0, .int .i64 0, .int .i64 0, .slice none 0 0] 24 (0, 0))) := ⟨h8_⟩; have sV : aa (w.heap.size ≤ aQ) := ⟨h9_⟩; have vF : aa (w.heap.size ≤ aQ) := ⟨zt⟩; have kU : aa (bI ≠ aQ) := ⟨Jm⟩; have kV : aa (aQ ≠ bI) := ⟨Jn⟩; have jo : aa (bD ≠ aQ) := ⟨Jo⟩; have jZ : aa (aQ ≠ bD) := ⟨Jp⟩; have jq : aa (bE ≠ aQ) := ⟨Jq⟩; have j5 : aa (aQ ≠ bE) := ⟨Jr⟩; have fo : aa (aN ≠ aQ) := ⟨Js⟩; have j6 : aa (aQ ≠ aN) := ⟨Jt⟩; have jr : aa (aW ≠ aQ) := ⟨Ju⟩; have kg : aa (aQ ≠ aW) := ⟨Jv⟩; replace dS : aa (Kd.N k24 24 w58 w.heap.size (fun k_ => some k_ ≠ (.slice dU cB.length dV : Value).ownBlock ∧ some k_ ≠ (.slice eU dn.length eX : Value).ownBlock ∧ some k_ ≠ (.slice dC cZ.length dD : Value).ownBlock ∧ k_ ≠ bI ∧ k_ ≠ bD ∧ k_ ≠ bE ∧ k_ ≠ aN ∧ k_ ≠ aW ∧ k_ ≠ aQ) (.slice dK cu.length dI) cu) := ⟨h0_⟩; replace ek : aa (Kd.N k24 24 w58 w.heap.size (fun k_ => some k_ ≠ (.slice dK cu.length dI : Value).ownBlock ∧ some k_ ≠ (.slice eU dn.length eX : Value).ownBlock ∧ some k_ ≠ (.slice dC cZ.length dD : Value).ownBlock ∧ k_ ≠ bI ∧ k_ ≠ bD ∧ k_ ≠ bE ∧ k_ ≠ aN ∧ k_ ≠ aW ∧ k_ ≠ aQ) (.slice dU cB.length dV) cB) := ⟨h1_⟩; replace eB : aa (Kd.N k24 24 w58 w.heap.size (fun k_ => some k_ ≠ (.slice dK cu.length dI : Value).ownBlock ∧ some k_ ≠ (.slice dU cB.length dV : Value).ownBlock ∧ some k_ ≠ (.slice dC cZ.length dD : Value).ownBlock ∧ k_ ≠ bI ∧ k_ ≠ bD ∧ k_ ≠ bE ∧ k_ ≠ aN ∧ k_ ≠ aW ∧ k_ ≠ aQ) (.slice eU dn.length eX) dn) := ⟨h2_⟩; replace fQ : aa (Kd.N k24 24 w58 w.heap.size (fun k_ => k_ ≠ bI ∧ k_ ≠ bD ∧ k_ ≠ bE ∧ k_ ≠ aN ∧ k_ ≠ aW ∧ k_ ≠ aQ) (.slice dC cZ.length dD) cZ) := ⟨h3_⟩; replace dw : aa (w58.heap[bD]? = some (.cells #[.int .i64 iT, .int .i64 iU, .int .i64 iV, .int .i64 iW, .slice dK cu.length dI] 24 (0, 0))) := ⟨h4_⟩; replace dB : aa (w58.heap[bE]? = some (.cells #[.int .i64 iX, .int .i64 iY, .int .i64 iZ, .int .i64 ja, .slice dU cB.length dV] 24 (0, 0))) := ⟨h5_⟩; replace bN : aa (w58.heap[aN]? = some (.cells #[.int .i64 gU, .int .i64 gV, .int .i64 gW, .int .i64 gX, .slice eU dn.length eX] 24 (0, 0))) := ⟨h6_⟩; replace dR : aa (w58.heap[aW]? = some (.cells #[.int .i64 5, .int .i64 0, .int .i64 0, .int .i64 0, .slice dC cZ.length dD] 24 (0, 0))) := ⟨h7_⟩; replace gI : aa (aD w w58 bI kG pG pI) := ⟨Jw⟩; replace HB : aa (Below w.heap.size w w58) := ⟨Jy⟩; clear h0_ h1_ h2_ h3_ h4_ h5_ h6_ h7_ h8_ h9_ zt Jm Jn Jo Jp Jq Jr Js Jt Ju Jv Jw Jy; have hHeld : w58.cell? ⟨aN, 0, none⟩ = some (.int .i64 gU) ∧ w58.cell? ⟨aN, 1, none⟩ = some (.int .i64 gV) ∧ w58.cell? ⟨aN, 2, none⟩ = some (.int .i64 gW) ∧ w58.cell? ⟨aN, 3, none⟩ = some (.int .i64 gX) ∧ w58.cell? ⟨aN, 4, none⟩ = some (.slice eU dn.length eX) := hS_
              refine ic (a' := ?_) ?_ ?_
              rotate_left
              ·simp only [jH, Act.put, List.setIfInBounds_toArray, List.set_cons_zero, List.set_cons_succ]; rfl
              refine two_ (i := 1) (j := 3) (Ni := some 23) (Nj := some 25) #[true, true, true, false, false, true, false] #[true, false, true, true, false, true, false] rfl rfl rfl rfl (by kernel_rfl) (by decide) (by decide) (fun K hK => ?_) (fun K hK => ?_)
              ·skip
               refine kY Tryd.func17 (by kernel_rfl) rfl #[.pointer (some ⟨bI, 0, none⟩), .int .i64 0, .int .i64 5] (by rfl) rfl rfl mp_ ?_
               with_reducible refine (dQ.calls bI kG pG pI 0 5 lN zn zo w _ ?ay ?az A6.out).mono ?_
               (case ay => repeat (first | (with_reducible first | exact gI.out | apply aD.alloc | apply aD.drewN | apply aD.drew | apply aD.sG | apply aD.sH | refine aD.far ?_ FJ.out _ | refine aD.far ?_ FM.out _ | refine aD.far ?_ FO.out _ | refine aD.far ?_ FQ.out _ | refine aD.far ?_ kU.out _) | exact gI.out))
               (case az => repeat (first | (with_reducible first | exact HB.out | apply bS | apply bO | apply bQ | refine ed ?_ (aD.ge gI.out) | refine ed ?_ GE698.out | refine ed ?_ GE699.out | refine ed ?_ GE700.out | refine ed ?_ GE704.out | refine ed ?_ vF.out) | exact HB.out))
               rintro e w59 ⟨rfl, hi, hb, hk⟩
               refine ⟨_, rfl, ?_⟩
               replace dS := aa.mk (Kd.aM (Kd.jI (Kd.aM (ok := fun k_ => (some k_ ≠ (.slice dU cB.length dV : Value).ownBlock ∧ (some k_ ≠ (.slice eU dn.length eX : Value).ownBlock ∧ (some k_ ≠ (.slice dC cZ.length dD : Value).ownBlock ∧ (k_ ≠ bI ∧ (k_ ≠ bD ∧ (k_ ≠ bE ∧ (k_ ≠ aN ∧ (k_ ≠ aW ∧ k_ ≠ aQ))))))))) (pN_ dS.out) (fun k_ hk_ => (⟨hk_, hk_.2.2.2.1⟩ : _ ∧ k_ ≠ bI))) hk (fun _ h => h.2)) (fun _ h => h.1)); replace ek := aa.mk (Kd.aM (Kd.jI (Kd.aM (ok := fun k_ => (some k_ ≠ (.slice dK cu.length dI : Value).ownBlock ∧ (some k_ ≠ (.slice eU dn.length eX : Value).ownBlock ∧ (some k_ ≠ (.slice dC cZ.length dD : Value).ownBlock ∧ (k_ ≠ bI ∧ (k_ ≠ bD ∧ (k_ ≠ bE ∧ (k_ ≠ aN ∧ (k_ ≠ aW ∧ k_ ≠ aQ))))))))) (pN_ ek.out) (fun k_ hk_ => (⟨hk_, hk_.2.2.2.1⟩ : _ ∧ k_ ≠ bI))) hk (fun _ h => h.2)) (fun _ h => h.1)); replace eB := aa.mk (Kd.aM (Kd.jI (Kd.aM (ok := fun k_ => (some k_ ≠ (.slice dK cu.length dI : Value).ownBlock ∧ (some k_ ≠ (.slice dU cB.length dV : Value).ownBlock ∧ (some k_ ≠ (.slice dC cZ.length dD : Value).ownBlock ∧ (k_ ≠ bI ∧ (k_ ≠ bD ∧ (k_ ≠ bE ∧ (k_ ≠ aN ∧ (k_ ≠ aW ∧ k_ ≠ aQ))))))))) (pN_ eB.out) (fun k_ hk_ => (⟨hk_, hk_.2.2.2.1⟩ : _ ∧ k_ ≠ bI))) hk (fun _ h => h.2)) (fun _ h => h.1)); replace dw := aa.mk (aI.blk hk (g' := bD) (o := .cells #[.int .i64 iT, .int .i64 iU, .int .i64 iV, .int .i64 iW, .slice dK cu.length dI] 24 (0, 0)) bk_ FL.out (by simp)); replace dB := aa.mk (aI.blk hk (g' := bE) (o := .cells #[.int .i64 iX, .int .i64 iY, .int .i64 iZ, .int .i64 ja, .slice dU cB.length dV] 24 (0, 0)) bk_ FN.out (by simp)); replace bN := aa.mk (aI.blk hk (g' := aN) (o := .cells #[.int .i64 gU, .int .i64 gV, .int .i64 gW, .int .i64 gX, .slice eU dn.length eX] 24 (0, 0)) bk_ FP.out (by simp)); replace fQ := aa.mk (Kd.aM (Kd.jI (Kd.aM (ok := fun k_ => (k_ ≠ bI ∧ (k_ ≠ bD ∧ (k_ ≠ bE ∧ (k_ ≠ aN ∧ (k_ ≠ aW ∧ k_ ≠ aQ)))))) (pN_ fQ.out) (fun k_ hk_ => (⟨hk_, hk_.1⟩ : _ ∧ k_ ≠ bI))) hk (fun _ h => h.2)) (fun _ h => h.1)); replace dR := aa.mk (aI.blk hk (g' := aW) (o := .cells #[.int .i64 5, .int .i64 0, .int .i64 0, .int .i64 0, .slice dC cZ.length dD] 24 (0, 0)) bk_ FR.out (by simp)); replace fq := aa.mk (aI.blk hk (g' := aQ) (o := .cells #[.int .i64 0, .int .i64 0, .int .i64 0, .int .i64 0, .slice none 0 0] 24 (0, 0)) bk_ kV.out (by simp)); replace HB := aa.mk (hb); replace gI := aa.mk (hi); (try clear hb)
               (try clear hb2)
               (try clear hk)
               (try clear hi)
               refine hK.out _ _ ⟨(ag bN.out 0).trans rfl, (ag bN.out 1).trans rfl, (ag bN.out 2).trans rfl, (ag bN.out 3).trans rfl, (ag bN.out 4).trans rfl⟩ (fun hHeld => ?_)
               clear hK K; refine ic (a' := ?_) ?_ ?_
               rotate_left
               ·show Act.put _ (some 23) _ = _
                simp only [Act.put, List.setIfInBounds_toArray, List.set_cons_zero, List.set_cons_succ, eT, fA]; rfl
               exact ic (by first | (simp only [jH, Act.put, List.setIfInBounds_toArray, List.set_cons_zero, List.set_cons_succ]; done) | (simp only [jH, Act.put, List.setIfInBounds_toArray, List.set_cons_zero, List.set_cons_succ]; rfl)) (hJ1_5 (aQ) _ ⟨hHeld, (pN_ dS.out), (pN_ ek.out), (pN_ eB.out), (pN_ fQ.out), bk_, bk_, bk_, bk_, bk_, sV.out, vF.out, kU.out, kV.out, jo.out, jZ.out, jq.out, j5.out, fo.out, j6.out, jr.out, kg.out, si_, bl_⟩)
              ·skip
               refine Kd.Gd k24 _ 24 ?hg (N' := 25) ?hd (xs := ([(⟨gU, gV, gW, gX, dn⟩ : S24)] : List (S24))) (inner := [.int .i64 gU, .int .i64 gV, .int .i64 gW, .int .i64 gX, .slice eU dn.length eX]) (ok := (fun k_ => some k_ ≠ (.slice dK cu.length dI : Value).ownBlock ∧ some k_ ≠ (.slice dU cB.length dV : Value).ownBlock ∧ some k_ ≠ (.slice dC cZ.length dD : Value).ownBlock ∧ k_ ≠ bD ∧ k_ ≠ bE ∧ k_ ≠ aN ∧ k_ ≠ aW ∧ k_ ≠ aQ ∧ k_ ≠ bI)) (okp := (fun k_ => some k_ ≠ (.slice dK cu.length dI : Value).ownBlock ∧ some k_ ≠ (.slice dU cB.length dV : Value).ownBlock ∧ some k_ ≠ (.slice dC cZ.length dD : Value).ownBlock ∧ k_ ≠ bD ∧ k_ ≠ bE ∧ k_ ≠ aN ∧ k_ ≠ aW ∧ k_ ≠ aQ ∧ k_ ≠ bI)) ?hr ?hp (fun _ hk => hk) ((show ∀ k_, w58.heap.size ≤ k_ → (fun k_ => some k_ ≠ (.slice dK cu.length dI : Value).ownBlock ∧ some k_ ≠ (.slice dU cB.length dV : Value).ownBlock ∧ some k_ ≠ (.slice dC cZ.length dD : Value).ownBlock ∧ k_ ≠ bD ∧ k_ ≠ bE ∧ k_ ≠ aN ∧ k_ ≠ aW ∧ k_ ≠ aQ ∧ k_ ≠ bI) k_ from fun k_ hk => ⟨Kd.fresh' (Kd.xH (pN_ dS.out)) k_ hk, Kd.fresh' (Kd.xH (pN_ ek.out)) k_ hk, Kd.fresh' (Kd.xH (pN_ fQ.out)) k_ hk, Kd.iH (g := bD) (o := .cells #[.int .i64 iT, .int .i64 iU, .int .i64 iV, .int .i64 iW, .slice dK cu.length dI] 24 (0, 0)) bk_ k_ hk, Kd.iH (g := bE) (o := .cells #[.int .i64 iX, .int .i64 iY, .int .i64 iZ, .int .i64 ja, .slice dU cB.length dV] 24 (0, 0)) bk_ k_ hk, Kd.iH (g := aN) (o := .cells #[.int .i64 gU, .int .i64 gV, .int .i64 gW, .int .i64 gX, .slice eU dn.length eX] 24 (0, 0)) bk_ k_ hk, Kd.iH (g := aW) (o := .cells #[.int .i64 5, .int .i64 0, .int .i64 0, .int .i64 0, .slice dC cZ.length dD] 24 (0, 0)) bk_ k_ hk, Kd.iH (g := aQ) (o := .cells #[.int .i64 0, .int .i64 0, .int .i64 0, .int .i64 0, .slice none 0 0] 24 (0, 0)) bk_ k_ hk, aD.fresh si_ k_ hk⟩) _ (Nat.le_refl _)) (Below.refl _ _) (Nat.le_refl _) (by simp) ?_; (case hd => rfl); (case hg => rfl); (case hr => first | (go_simp; done) | (go_simp; rfl)); (case hp => exact (dN.c5 (show Kd.FK k24 _ _ (⟨gU, gV, gW, gX, dn⟩ : S24) [.int .i64 gU, .int .i64 gV, .int .i64 gW, .int .i64 gX, .slice eU dn.length eX] from (vS _ _ (⟨gU, gV, gW, gX, dn⟩ : S24) (Kd.iL (Kd.aM (ok' := (fun k_ => some k_ ≠ (.slice dK cu.length dI : Value).ownBlock ∧ some k_ ≠ (.slice dU cB.length dV : Value).ownBlock ∧ some k_ ≠ (.slice dC cZ.length dD : Value).ownBlock ∧ k_ ≠ bD ∧ k_ ≠ bE ∧ k_ ≠ aN ∧ k_ ≠ aW ∧ k_ ≠ aQ ∧ k_ ≠ bI)) (eB.out) (fun k_ hk => ⟨hk.1, ⟨hk.2.1, ⟨hk.2.2.1, ⟨hk.2.2.2.2.1, ⟨hk.2.2.2.2.2.1, ⟨hk.2.2.2.2.2.2.1, ⟨hk.2.2.2.2.2.2.2.1, ⟨hk.2.2.2.2.2.2.2.2, hk.2.2.2.1⟩⟩⟩⟩⟩⟩⟩⟩))).2.1 (Kd.N_F (Kd.aM (ok' := (fun k_ => some k_ ≠ (.slice dK cu.length dI : Value).ownBlock ∧ some k_ ≠ (.slice dU cB.length dV : Value).ownBlock ∧ some k_ ≠ (.slice dC cZ.length dD : Value).ownBlock ∧ k_ ≠ bD ∧ k_ ≠ bE ∧ k_ ≠ aN ∧ k_ ≠ aW ∧ k_ ≠ aQ ∧ k_ ≠ bI)) (eB.out) (fun k_ hk => ⟨hk.1, ⟨hk.2.1, ⟨hk.2.2.1, ⟨hk.2.2.2.2.1, ⟨hk.2.2.2.2.2.1, ⟨hk.2.2.2.2.2.2.1, ⟨hk.2.2.2.2.2.2.2.1, ⟨hk.2.2.2.2.2.2.2.2, hk.2.2.2.1⟩⟩⟩⟩⟩⟩⟩⟩))))) (dN.none _ _)))
               intro lQ w59 mh hb hg_ ig; clear hg_ ig; (first | rw [← JW.out] at mh | (simp only [Int.reduceToNat] at mh; rw [← JW.out] at mh))
               have iJ := aa.mk (Kd.kW mh (ax bl_)); replace dS := aa.mk (Kd.jT (pN_ dS.out) (by first | exact Kd.iq mh | exact Kd.cO mh | exact Kd.iq (Kd.S_N mh)) hb); replace ek := aa.mk (Kd.jT (pN_ ek.out) (by first | exact Kd.iq mh | exact Kd.cO mh | exact Kd.iq (Kd.S_N mh)) hb); replace eB := aa.mk (Kd.jT (pN_ eB.out) (by first | exact Kd.iq mh | exact Kd.cO mh | exact Kd.iq (Kd.S_N mh)) hb); replace fQ := aa.mk (Kd.jT (pN_ fQ.out) (by first | exact Kd.iq mh | exact Kd.cO mh | exact Kd.iq (Kd.S_N mh)) hb); replace gI := aa.mk (aD.below si_ hb); replace dw := kb_ dw hb; replace dB := kb_ dB hb; replace bN := kb_ bN hb; replace dR := kb_ dR hb; replace fq := kb_ fq hb; replace HB := aa.mk (ai bl_ hb); clear hb mh; refine hK.out _ _ ⟨(ag bN.out 0).trans rfl, (ag bN.out 1).trans rfl, (ag bN.out 2).trans rfl, (ag bN.out 3).trans rfl, (ag bN.out 4).trans rfl⟩ (fun hHeld => ?_)
               clear hK K; refine ic (a' := ?_) ?_ ?_
               rotate_left
               ·show Act.put _ (some 25) _ = _
                simp only [Act.put, List.setIfInBounds_toArray, List.set_cons_zero, List.set_cons_succ, eT, fA]; rfl
               exact ic (by first | (simp only [jH, Act.put, List.setIfInBounds_toArray, List.set_cons_zero, List.set_cons_succ]; done) | (simp only [jH, Act.put, List.setIfInBounds_toArray, List.set_cons_zero, List.set_cons_succ]; rfl)) (hJ3_5 (lQ, aQ) _ ⟨hHeld, (by (with_reducible repeat (first | apply Kd.dL | apply Kd.dM | apply Kd.dO)); exact Kd.aM dS.out (fun _ hk => ⟨hk.1.1, ⟨hk.1.2.1, ⟨hk.1.2.2.1, ⟨hk.2, ⟨hk.1.2.2.2.1, ⟨hk.1.2.2.2.2.1, ⟨hk.1.2.2.2.2.2.1, ⟨hk.1.2.2.2.2.2.2.1, ⟨hk.1.2.2.2.2.2.2.2.1, hk.1.2.2.2.2.2.2.2.2⟩⟩⟩⟩⟩⟩⟩⟩⟩)), (by (with_reducible repeat (first | apply Kd.dL | apply Kd.dM | apply Kd.dO)); exact Kd.aM ek.out (fun _ hk => ⟨hk.1.1, ⟨hk.1.2.1, ⟨hk.1.2.2.1, ⟨hk.2, ⟨hk.1.2.2.2.1, ⟨hk.1.2.2.2.2.1, ⟨hk.1.2.2.2.2.2.1, ⟨hk.1.2.2.2.2.2.2.1, ⟨hk.1.2.2.2.2.2.2.2.1, hk.1.2.2.2.2.2.2.2.2⟩⟩⟩⟩⟩⟩⟩⟩⟩)), (by (with_reducible repeat (first | apply Kd.dL | apply Kd.dM | apply Kd.dO)); exact Kd.aM eB.out (fun _ hk => ⟨hk.1.1, ⟨hk.1.2.1, ⟨hk.1.2.2.1, ⟨hk.2, ⟨hk.1.2.2.2.1, ⟨hk.1.2.2.2.2.1, ⟨hk.1.2.2.2.2.2.1, ⟨hk.1.2.2.2.2.2.2.1, ⟨hk.1.2.2.2.2.2.2.2.1, hk.1.2.2.2.2.2.2.2.2⟩⟩⟩⟩⟩⟩⟩⟩⟩)), (by (with_reducible repeat (first | apply Kd.dL | apply Kd.dM | apply Kd.dO)); exact Kd.aM fQ.out (fun _ hk => ⟨hk.2, ⟨hk.1.1, ⟨hk.1.2.1, ⟨hk.1.2.2.1, ⟨hk.1.2.2.2.1, ⟨hk.1.2.2.2.2.1, hk.1.2.2.2.2.2⟩⟩⟩⟩⟩⟩)), (by (with_reducible repeat (first | apply Kd.dL | apply Kd.dM | apply Kd.dO)); exact Kd.aM iJ.out (fun _ hk => ⟨hk.1, ⟨hk.2.1, ⟨hk.2.2.1, ⟨hk.2.2.2.2.2.2.2.2, ⟨hk.2.2.2.1, ⟨hk.2.2.2.2.1, ⟨hk.2.2.2.2.2.1, ⟨hk.2.2.2.2.2.2.1, hk.2.2.2.2.2.2.2.1⟩⟩⟩⟩⟩⟩⟩⟩)), bk_, bk_, bk_, bk_, bk_, sV.out, vF.out, kU.out, kV.out, jo.out, jZ.out, jq.out, j5.out, fo.out, j6.out, jr.out, kg.out, si_, bl_⟩)
            ·skip
             rintro lQ w59 ⟨hS_, h0_, h1_, h2_, h3_, h4_, h5_, h6_, h7_, h8_, h9_, zt⟩
             have iJ : aa (Kd.N k24 24 w59 w.heap.size (fun k_ => some k_ ≠ (.slice dK cu.length dI : Value).ownBlock ∧ some k_ ≠ (.slice dU cB.length dV : Value).ownBlock ∧ some k_ ≠ (.slice dC cZ.length dD : Value).ownBlock ∧ k_ ≠ bI ∧ k_ ≠ bD ∧ k_ ≠ bE ∧ k_ ≠ aN ∧ k_ ≠ aW) lQ ku) := ⟨h4_⟩; replace dS : aa (Kd.N k24 24 w59 w.heap.size (fun k_ => some k_ ≠ (.slice dU cB.length dV : Value).ownBlock ∧ some k_ ≠ (.slice eU dn.length eX : Value).ownBlock ∧ some k_ ≠ (.slice dC cZ.length dD : Value).ownBlock ∧ some k_ ≠ (lQ : Value).ownBlock ∧ k_ ≠ bI ∧ k_ ≠ bD ∧ k_ ≠ bE ∧ k_ ≠ aN ∧ k_ ≠ aW) (.slice dK cu.length dI) cu) := ⟨h0_⟩; replace ek : aa (Kd.N k24 24 w59 w.heap.size (fun k_ => some k_ ≠ (.slice dK cu.length dI : Value).ownBlock ∧ some k_ ≠ (.slice eU dn.length eX : Value).ownBlock ∧ some k_ ≠ (.slice dC cZ.length dD : Value).ownBlock ∧ some k_ ≠ (lQ : Value).ownBlock ∧ k_ ≠ bI ∧ k_ ≠ bD ∧ k_ ≠ bE ∧ k_ ≠ aN ∧ k_ ≠ aW) (.slice dU cB.length dV) cB) := ⟨h1_⟩; replace eB : aa (Kd.N k24 24 w59 w.heap.size (fun k_ => some k_ ≠ (.slice dK cu.length dI : Value).ownBlock ∧ some k_ ≠ (.slice dU cB.length dV : Value).ownBlock ∧ some k_ ≠ (.slice dC cZ.length dD : Value).ownBlock ∧ some k_ ≠ (lQ : Value).ownBlock ∧ k_ ≠ bI ∧ k_ ≠ bD ∧ k_ ≠ bE ∧ k_ ≠ aN ∧ k_ ≠ aW) (.slice eU dn.length eX) dn) := ⟨h2_⟩; replace fQ : aa (Kd.N k24 24 w59 w.heap.size (fun k_ => some k_ ≠ (lQ : Value).ownBlock ∧ k_ ≠ bI ∧ k_ ≠ bD ∧ k_ ≠ bE ∧ k_ ≠ aN ∧ k_ ≠ aW) (.slice dC cZ.length dD) cZ) := ⟨h3_⟩; replace dw : aa (w59.heap[bD]? = some (.cells #[.int .i64 iT, .int .i64 iU, .int .i64 iV, .int .i64 iW, .slice dK cu.length dI] 24 (0, 0))) := ⟨h5_⟩; replace dB : aa (w59.heap[bE]? = some (.cells #[.int .i64 iX, .int .i64 iY, .int .i64 iZ, .int .i64 ja, .slice dU cB.length dV] 24 (0, 0))) := ⟨h6_⟩; replace bN : aa (w59.heap[aN]? = some (.cells #[.int .i64 gU, .int .i64 gV, .int .i64 gW, .int .i64 gX, .slice eU dn.length eX] 24 (0, 0))) := ⟨h7_⟩; replace dR : aa (w59.heap[aW]? = some (.cells #[.int .i64 5, .int .i64 0, .int .i64 0, .int .i64 0, .slice dC cZ.length dD] 24 (0, 0))) := ⟨h8_⟩; replace gI : aa (aD w w59 bI kG pG pI) := ⟨h9_⟩; replace HB : aa (Below w.heap.size w w59) := ⟨zt⟩; clear h0_ h1_ h2_ h3_ h4_ h5_ h6_ h7_ h8_ h9_ zt; have hHeld : w59.cell? ⟨aN, 0, none⟩ = some (.int .i64 gU) ∧ w59.cell? ⟨aN, 1, none⟩ = some (.int .i64 gV) ∧ w59.cell? ⟨aN, 2, none⟩ = some (.int .i64 gW) ∧ w59.cell? ⟨aN, 3, none⟩ = some (.int .i64 gX) ∧ w59.cell? ⟨aN, 4, none⟩ = some (.slice eU dn.length eX) := hS_; refine ic (a' := ?_) ?_ ?_
             rotate_left
             ·simp only [jH, Act.put, List.setIfInBounds_toArray, List.set_cons_zero, List.set_cons_succ]; rfl
             refine two_ (i := 1) (j := 5) (Ni := some 23) (Nj := some 8) #[true, true, true, true, false, false, false] #[true, false, true, true, false, true, false] rfl rfl rfl rfl (by kernel_rfl) (by decide) (by decide) (fun K hK => ?_) (fun K hK => ?_)
             ·skip
              refine kY Tryd.func17 (by kernel_rfl) rfl #[.pointer (some ⟨bI, 0, none⟩), .int .i64 0, .int .i64 5] (by rfl) rfl rfl mp_ ?_
              with_reducible refine (dQ.calls bI kG pG pI 0 5 lN zn zo w _ ?ay ?az A6.out).mono ?_
              (case ay => repeat (first | (with_reducible first | exact gI.out | apply aD.alloc | apply aD.drewN | apply aD.drew | apply aD.sG | apply aD.sH | refine aD.far ?_ FJ.out _ | refine aD.far ?_ FM.out _ | refine aD.far ?_ FO.out _ | refine aD.far ?_ FQ.out _) | exact gI.out))
              (case az => repeat (first | (with_reducible first | exact HB.out | apply bS | apply bO | apply bQ | refine ed ?_ (aD.ge gI.out) | refine ed ?_ GE698.out | refine ed ?_ GE699.out | refine ed ?_ GE700.out | refine ed ?_ GE704.out) | exact HB.out))
              rintro e w60 ⟨rfl, hi, hb, hk⟩
              refine ⟨_, rfl, ?_⟩
              replace dS := aa.mk (Kd.aM (Kd.jI (Kd.aM (ok := fun k_ => (some k_ ≠ (.slice dU cB.length dV : Value).ownBlock ∧ (some k_ ≠ (.slice eU dn.length eX : Value).ownBlock ∧ (some k_ ≠ (.slice dC cZ.length dD : Value).ownBlock ∧ (some k_ ≠ (lQ : Value).ownBlock ∧ (k_ ≠ bI ∧ (k_ ≠ bD ∧ (k_ ≠ bE ∧ (k_ ≠ aN ∧ k_ ≠ aW))))))))) (pN_ dS.out) (fun k_ hk_ => (⟨hk_, hk_.2.2.2.2.1⟩ : _ ∧ k_ ≠ bI))) hk (fun _ h => h.2)) (fun _ h => h.1)); replace ek := aa.mk (Kd.aM (Kd.jI (Kd.aM (ok := fun k_ => (some k_ ≠ (.slice dK cu.length dI : Value).ownBlock ∧ (some k_ ≠ (.slice eU dn.length eX : Value).ownBlock ∧ (some k_ ≠ (.slice dC cZ.length dD : Value).ownBlock ∧ (some k_ ≠ (lQ : Value).ownBlock ∧ (k_ ≠ bI ∧ (k_ ≠ bD ∧ (k_ ≠ bE ∧ (k_ ≠ aN ∧ k_ ≠ aW))))))))) (pN_ ek.out) (fun k_ hk_ => (⟨hk_, hk_.2.2.2.2.1⟩ : _ ∧ k_ ≠ bI))) hk (fun _ h => h.2)) (fun _ h => h.1)); replace eB := aa.mk (Kd.aM (Kd.jI (Kd.aM (ok := fun k_ => (some k_ ≠ (.slice dK cu.length dI : Value).ownBlock ∧ (some k_ ≠ (.slice dU cB.length dV : Value).ownBlock ∧ (some k_ ≠ (.slice dC cZ.length dD : Value).ownBlock ∧ (some k_ ≠ (lQ : Value).ownBlock ∧ (k_ ≠ bI ∧ (k_ ≠ bD ∧ (k_ ≠ bE ∧ (k_ ≠ aN ∧ k_ ≠ aW))))))))) (pN_ eB.out) (fun k_ hk_ => (⟨hk_, hk_.2.2.2.2.1⟩ : _ ∧ k_ ≠ bI))) hk (fun _ h => h.2)) (fun _ h => h.1)); replace dw := aa.mk (aI.blk hk (g' := bD) (o := .cells #[.int .i64 iT, .int .i64 iU, .int .i64 iV, .int .i64 iW, .slice dK cu.length dI] 24 (0, 0)) bk_ FL.out (by simp)); replace dB := aa.mk (aI.blk hk (g' := bE) (o := .cells #[.int .i64 iX, .int .i64 iY, .int .i64 iZ, .int .i64 ja, .slice dU cB.length dV] 24 (0, 0)) bk_ FN.out (by simp)); replace bN := aa.mk (aI.blk hk (g' := aN) (o := .cells #[.int .i64 gU, .int .i64 gV, .int .i64 gW, .int .i64 gX, .slice eU dn.length eX] 24 (0, 0)) bk_ FP.out (by simp)); replace fQ := aa.mk (Kd.aM (Kd.jI (Kd.aM (ok := fun k_ => (some k_ ≠ (lQ : Value).ownBlock ∧ (k_ ≠ bI ∧ (k_ ≠ bD ∧ (k_ ≠ bE ∧ (k_ ≠ aN ∧ k_ ≠ aW)))))) (pN_ fQ.out) (fun k_ hk_ => (⟨hk_, hk_.2.1⟩ : _ ∧ k_ ≠ bI))) hk (fun _ h => h.2)) (fun _ h => h.1)); replace dR := aa.mk (aI.blk hk (g' := aW) (o := .cells #[.int .i64 5, .int .i64 0, .int .i64 0, .int .i64 0, .slice dC cZ.length dD] 24 (0, 0)) bk_ FR.out (by simp)); replace iJ := aa.mk (Kd.aM (Kd.jI (Kd.aM (ok := fun k_ => (some k_ ≠ (.slice dK cu.length dI : Value).ownBlock ∧ (some k_ ≠ (.slice dU cB.length dV : Value).ownBlock ∧ (some k_ ≠ (.slice dC cZ.length dD : Value).ownBlock ∧ (k_ ≠ bI ∧ (k_ ≠ bD ∧ (k_ ≠ bE ∧ (k_ ≠ aN ∧ k_ ≠ aW)))))))) (pN_ iJ.out) (fun k_ hk_ => (⟨hk_, hk_.2.2.2.1⟩ : _ ∧ k_ ≠ bI))) hk (fun _ h => h.2)) (fun _ h => h.1))
              replace HB := aa.mk (hb); replace gI := aa.mk (hi); (try clear hb)
              (try clear hb2)
              (try clear hk)
              (try clear hi)
              obtain ⟨DK, DL, eo61⟩ := Kd.jS iJ.out; (first | subst eo61 | (injection eo61 with f1_ f2_ f3_; have f4_ := f1_.symm; have f5_ := f3_.symm; clear f1_ f2_ f3_; subst f4_; subst f5_))
              refine hK.out _ _ ⟨(ag bN.out 0).trans rfl, (ag bN.out 1).trans rfl, (ag bN.out 2).trans rfl, (ag bN.out 3).trans rfl, (ag bN.out 4).trans rfl⟩ (fun hHeld => ?_)
              clear hK K; refine ic (a' := ?_) ?_ ?_
              rotate_left
              ·show Act.put _ (some 23) _ = _
               simp only [Act.put, List.setIfInBounds_toArray, List.set_cons_zero, List.set_cons_succ, eT, fA]; rfl
              refine LB (i := 4) (N := some 26) (v := ?_) (a' := ?_) #[true, true, true, true, true, false, false] rfl rfl (by kernel_rfl) (fun _ _ _ h => h) (Or.inl ⟨by rfl, ?_⟩) ?_ ?_
              rotate_left
              ·intro w'; go_simp; with_reducible rfl
              rotate_left
              ·simp only [Act.put, List.setIfInBounds_toArray, List.set_cons_zero, List.set_cons_succ, eT, fA]; rfl
              exact ic (by first | (simp only [jH, Act.put, List.setIfInBounds_toArray, List.set_cons_zero, List.set_cons_succ]; done) | (simp only [jH, Act.put, List.setIfInBounds_toArray, List.set_cons_zero, List.set_cons_succ]; rfl)) (hJ1_3 (.slice DK ku.length DL) _ ⟨hHeld, (pN_ dS.out), (pN_ ek.out), (pN_ eB.out), (pN_ fQ.out), (pN_ iJ.out), bk_, bk_, bk_, bk_, si_, bl_⟩)
             ·skip
              refine LA ?hg (N := 8) ?hd (cs := #[.int .i64 0, .int .i64 0, .int .i64 0, .int .i64 0, .slice none 0 0]) (t := 24) ?hr ?_; (case hd => rfl); (case hg => rfl); (case hr => first | (go_simp; done) | (go_simp; rfl))
              intro aQ hg w60 aK hb; have fq := aa.mk (aK); have sV : aa (w.heap.size ≤ aQ) := gw_ hg (ax bl_); have vF := sV; have jo := nl_ dw hg; have jZ := ng_ dw hg; have jq := nl_ dB hg; have j5 := ng_ dB hg; have fo := nl_ bN hg; have j6 := ng_ bN hg; have jr := nl_ dR hg; have kg := ng_ dR hg; have kU := aa.mk ((by rw [hg]; exact Nat.ne_of_lt (aD.lt (show aD w _ bI kG pG pI from si_)) : bI ≠ aQ)); have kV := aa.mk ((by rw [hg]; exact Nat.ne_of_gt (aD.lt (show aD w _ bI kG pG pI from si_)) : aQ ≠ bI)); replace dS := aa.mk (Kd.dF (Kd.gT (pN_ dS.out) aQ (Nat.le_of_eq hg.symm)) hb); replace ek := aa.mk (Kd.dF (Kd.gT (pN_ ek.out) aQ (Nat.le_of_eq hg.symm)) hb); replace eB := aa.mk (Kd.dF (Kd.gT (pN_ eB.out) aQ (Nat.le_of_eq hg.symm)) hb); replace fQ := aa.mk (Kd.dF (Kd.gT (pN_ fQ.out) aQ (Nat.le_of_eq hg.symm)) hb); replace iJ := aa.mk (Kd.dF (Kd.gT (pN_ iJ.out) aQ (Nat.le_of_eq hg.symm)) hb); replace gI := aa.mk (aD.below si_ hb); replace dw := kb_ dw hb; replace dB := kb_ dB hb; replace bN := kb_ bN hb; replace dR := kb_ dR hb; replace HB := aa.mk (ai bl_ hb); clear hb aK hg; refine hK.out _ _ ⟨(ag bN.out 0).trans rfl, (ag bN.out 1).trans rfl, (ag bN.out 2).trans rfl, (ag bN.out 3).trans rfl, (ag bN.out 4).trans rfl⟩ (fun hHeld => ?_)
              clear hK K; refine ic (a' := ?_) ?_ ?_
              rotate_left
              ·show Act.put _ (some 8) _ = _
               simp only [Act.put, List.setIfInBounds_toArray, List.set_cons_zero, List.set_cons_succ, eT, fA]; rfl
              exact ic (by first | (simp only [jH, Act.put, List.setIfInBounds_toArray, List.set_cons_zero, List.set_cons_succ]; done) | (simp only [jH, Act.put, List.setIfInBounds_toArray, List.set_cons_zero, List.set_cons_succ]; rfl)) (hJ3_5 (lQ, aQ) _ ⟨hHeld, (by (with_reducible repeat (first | apply Kd.dL | apply Kd.dM | apply Kd.dO)); exact Kd.aM dS.out (fun _ hk => ⟨hk.1.1, ⟨hk.1.2.1, ⟨hk.1.2.2.1, ⟨hk.1.2.2.2.1, ⟨hk.1.2.2.2.2.1, ⟨hk.1.2.2.2.2.2.1, ⟨hk.1.2.2.2.2.2.2.1, ⟨hk.1.2.2.2.2.2.2.2.1, ⟨hk.1.2.2.2.2.2.2.2.2, hk.2⟩⟩⟩⟩⟩⟩⟩⟩⟩)), (by (with_reducible repeat (first | apply Kd.dL | apply Kd.dM | apply Kd.dO)); exact Kd.aM ek.out (fun _ hk => ⟨hk.1.1, ⟨hk.1.2.1, ⟨hk.1.2.2.1, ⟨hk.1.2.2.2.1, ⟨hk.1.2.2.2.2.1, ⟨hk.1.2.2.2.2.2.1, ⟨hk.1.2.2.2.2.2.2.1, ⟨hk.1.2.2.2.2.2.2.2.1, ⟨hk.1.2.2.2.2.2.2.2.2, hk.2⟩⟩⟩⟩⟩⟩⟩⟩⟩)), (by (with_reducible repeat (first | apply Kd.dL | apply Kd.dM | apply Kd.dO)); exact Kd.aM eB.out (fun _ hk => ⟨hk.1.1, ⟨hk.1.2.1, ⟨hk.1.2.2.1, ⟨hk.1.2.2.2.1, ⟨hk.1.2.2.2.2.1, ⟨hk.1.2.2.2.2.2.1, ⟨hk.1.2.2.2.2.2.2.1, ⟨hk.1.2.2.2.2.2.2.2.1, ⟨hk.1.2.2.2.2.2.2.2.2, hk.2⟩⟩⟩⟩⟩⟩⟩⟩⟩)), (by (with_reducible repeat (first | apply Kd.dL | apply Kd.dM | apply Kd.dO)); exact Kd.aM fQ.out (fun _ hk => ⟨hk.1.1, ⟨hk.1.2.1, ⟨hk.1.2.2.1, ⟨hk.1.2.2.2.1, ⟨hk.1.2.2.2.2.1, ⟨hk.1.2.2.2.2.2, hk.2⟩⟩⟩⟩⟩⟩)), (by (with_reducible repeat (first | apply Kd.dL | apply Kd.dM | apply Kd.dO)); exact Kd.aM iJ.out (fun _ hk => ⟨hk.1.1, ⟨hk.1.2.1, ⟨hk.1.2.2.1, ⟨hk.1.2.2.2.1, ⟨hk.1.2.2.2.2.1, ⟨hk.1.2.2.2.2.2.1, ⟨hk.1.2.2.2.2.2.2.1, ⟨hk.1.2.2.2.2.2.2.2, hk.2⟩⟩⟩⟩⟩⟩⟩⟩)), bk_, bk_, bk_, bk_, bk_, sV.out, vF.out, kU.out, kV.out, jo.out, jZ.out, jq.out, j5.out, fo.out, j6.out, jr.out, kg.out, si_, bl_⟩)
           ·skip
            rintro _ w58 ⟨hS_, h0_, h1_, h2_, h3_, h4_, h5_, h6_, h7_, h8_, h9_⟩
            replace dS : aa (Kd.N k24 24 w58 w.heap.size (fun k_ => some k_ ≠ (.slice dU cB.length dV : Value).ownBlock ∧ some k_ ≠ (.slice eU dn.length eX : Value).ownBlock ∧ some k_ ≠ (.slice dC cZ.length dD : Value).ownBlock ∧ k_ ≠ bI ∧ k_ ≠ bD ∧ k_ ≠ bE ∧ k_ ≠ aN ∧ k_ ≠ aW) (.slice dK cu.length dI) cu) := ⟨h0_⟩; replace ek : aa (Kd.N k24 24 w58 w.heap.size (fun k_ => some k_ ≠ (.slice dK cu.length dI : Value).ownBlock ∧ some k_ ≠ (.slice eU dn.length eX : Value).ownBlock ∧ some k_ ≠ (.slice dC cZ.length dD : Value).ownBlock ∧ k_ ≠ bI ∧ k_ ≠ bD ∧ k_ ≠ bE ∧ k_ ≠ aN ∧ k_ ≠ aW) (.slice dU cB.length dV) cB) := ⟨h1_⟩; replace eB : aa (Kd.N k24 24 w58 w.heap.size (fun k_ => some k_ ≠ (.slice dK cu.length dI : Value).ownBlock ∧ some k_ ≠ (.slice dU cB.length dV : Value).ownBlock ∧ some k_ ≠ (.slice dC cZ.length dD : Value).ownBlock ∧ k_ ≠ bI ∧ k_ ≠ bD ∧ k_ ≠ bE ∧ k_ ≠ aN ∧ k_ ≠ aW) (.slice eU dn.length eX) dn) := ⟨h2_⟩; replace fQ : aa (Kd.N k24 24 w58 w.heap.size (fun k_ => k_ ≠ bI ∧ k_ ≠ bD ∧ k_ ≠ bE ∧ k_ ≠ aN ∧ k_ ≠ aW) (.slice dC cZ.length dD) cZ) := ⟨h3_⟩; replace dw : aa (w58.heap[bD]? = some (.cells #[.int .i64 iT, .int .i64 iU, .int .i64 iV, .int .i64 iW, .slice dK cu.length dI] 24 (0, 0))) := ⟨h4_⟩; replace dB : aa (w58.heap[bE]? = some (.cells #[.int .i64 iX, .int .i64 iY, .int .i64 iZ, .int .i64 ja, .slice dU cB.length dV] 24 (0, 0))) := ⟨h5_⟩; replace bN : aa (w58.heap[aN]? = some (.cells #[.int .i64 gU, .int .i64 gV, .int .i64 gW, .int .i64 gX, .slice eU dn.length eX] 24 (0, 0))) := ⟨h6_⟩; replace dR : aa (w58.heap[aW]? = some (.cells #[.int .i64 5, .int .i64 0, .int .i64 0, .int .i64 0, .slice dC cZ.length dD] 24 (0, 0))) := ⟨h7_⟩; replace gI : aa (aD w w58 bI kG zn zo) := ⟨h8_⟩; replace HB : aa (Below w.heap.size w w58) := ⟨h9_⟩; clear h0_ h1_ h2_ h3_ h4_ h5_ h6_ h7_ h8_ h9_; have hHeld : w58.cell? ⟨aN, 0, none⟩ = some (.int .i64 gU) ∧ w58.cell? ⟨aN, 1, none⟩ = some (.int .i64 gV) ∧ w58.cell? ⟨aN, 2, none⟩ = some (.int .i64 gW) ∧ w58.cell? ⟨aN, 3, none⟩ = some (.int .i64 gX) ∧ w58.cell? ⟨aN, 4, none⟩ = some (.slice eU dn.length eX) := hS_; refine ic (a' := ?_) ?_ ?_
            rotate_left
            ·simp only [jH, Act.put, List.setIfInBounds_toArray, List.set_cons_zero, List.set_cons_succ]; rfl
            refine two_ (i := 3) (j := 5) (Ni := some 25) (Nj := some 8) #[true, true, true, true, false, false, false] #[true, true, true, false, false, true, false] rfl rfl rfl rfl (by kernel_rfl) (by decide) (by decide) (fun K hK => ?_) (fun K hK => ?_)
            ·skip
             refine Kd.Gd k24 _ 24 ?hg (N' := 25) ?hd (xs := ([(⟨gU, gV, gW, gX, dn⟩ : S24)] : List (S24))) (inner := [.int .i64 gU, .int .i64 gV, .int .i64 gW, .int .i64 gX, .slice eU dn.length eX]) (ok := (fun k_ => some k_ ≠ (.slice dK cu.length dI : Value).ownBlock ∧ some k_ ≠ (.slice dU cB.length dV : Value).ownBlock ∧ some k_ ≠ (.slice dC cZ.length dD : Value).ownBlock ∧ k_ ≠ bD ∧ k_ ≠ bE ∧ k_ ≠ aN ∧ k_ ≠ aW ∧ k_ ≠ bI)) (okp := (fun k_ => some k_ ≠ (.slice dK cu.length dI : Value).ownBlock ∧ some k_ ≠ (.slice dU cB.length dV : Value).ownBlock ∧ some k_ ≠ (.slice dC cZ.length dD : Value).ownBlock ∧ k_ ≠ bD ∧ k_ ≠ bE ∧ k_ ≠ aN ∧ k_ ≠ aW ∧ k_ ≠ bI)) ?hr ?hp (fun _ hk => hk) ((show ∀ k_, w58.heap.size ≤ k_ → (fun k_ => some k_ ≠ (.slice dK cu.length dI : Value).ownBlock ∧ some k_ ≠ (.slice dU cB.length dV : Value).ownBlock ∧ some k_ ≠ (.slice dC cZ.length dD : Value).ownBlock ∧ k_ ≠ bD ∧ k_ ≠ bE ∧ k_ ≠ aN ∧ k_ ≠ aW ∧ k_ ≠ bI) k_ from fun k_ hk => ⟨Kd.fresh' (Kd.xH (pN_ dS.out)) k_ hk, Kd.fresh' (Kd.xH (pN_ ek.out)) k_ hk, Kd.fresh' (Kd.xH (pN_ fQ.out)) k_ hk, Kd.iH (g := bD) (o := .cells #[.int .i64 iT, .int .i64 iU, .int .i64 iV, .int .i64 iW, .slice dK cu.length dI] 24 (0, 0)) bk_ k_ hk, Kd.iH (g := bE) (o := .cells #[.int .i64 iX, .int .i64 iY, .int .i64 iZ, .int .i64 ja, .slice dU cB.length dV] 24 (0, 0)) bk_ k_ hk, Kd.iH (g := aN) (o := .cells #[.int .i64 gU, .int .i64 gV, .int .i64 gW, .int .i64 gX, .slice eU dn.length eX] 24 (0, 0)) bk_ k_ hk, Kd.iH (g := aW) (o := .cells #[.int .i64 5, .int .i64 0, .int .i64 0, .int .i64 0, .slice dC cZ.length dD] 24 (0, 0)) bk_ k_ hk, aD.fresh si_ k_ hk⟩) _ (Nat.le_refl _)) (Below.refl _ _) (Nat.le_refl _) (by simp) ?_; (case hd => rfl); (case hg => rfl); (case hr => first | (go_simp; done) | (go_simp; rfl)); (case hp => exact (dN.c5 (show Kd.FK k24 _ _ (⟨gU, gV, gW, gX, dn⟩ : S24) [.int .i64 gU, .int .i64 gV, .int .i64 gW, .int .i64 gX, .slice eU dn.length eX] from (vS _ _ (⟨gU, gV, gW, gX, dn⟩ : S24) (Kd.iL (Kd.aM (ok' := (fun k_ => some k_ ≠ (.slice dK cu.length dI : Value).ownBlock ∧ some k_ ≠ (.slice dU cB.length dV : Value).ownBlock ∧ some k_ ≠ (.slice dC cZ.length dD : Value).ownBlock ∧ k_ ≠ bD ∧ k_ ≠ bE ∧ k_ ≠ aN ∧ k_ ≠ aW ∧ k_ ≠ bI)) (eB.out) (fun k_ hk => ⟨hk.1, ⟨hk.2.1, ⟨hk.2.2.1, ⟨hk.2.2.2.2.1, ⟨hk.2.2.2.2.2.1, ⟨hk.2.2.2.2.2.2.1, ⟨hk.2.2.2.2.2.2.2, hk.2.2.2.1⟩⟩⟩⟩⟩⟩⟩))).2.1 (Kd.N_F (Kd.aM (ok' := (fun k_ => some k_ ≠ (.slice dK cu.length dI : Value).ownBlock ∧ some k_ ≠ (.slice dU cB.length dV : Value).ownBlock ∧ some k_ ≠ (.slice dC cZ.length dD : Value).ownBlock ∧ k_ ≠ bD ∧ k_ ≠ bE ∧ k_ ≠ aN ∧ k_ ≠ aW ∧ k_ ≠ bI)) (eB.out) (fun k_ hk => ⟨hk.1, ⟨hk.2.1, ⟨hk.2.2.1, ⟨hk.2.2.2.2.1, ⟨hk.2.2.2.2.2.1, ⟨hk.2.2.2.2.2.2.1, ⟨hk.2.2.2.2.2.2.2, hk.2.2.2.1⟩⟩⟩⟩⟩⟩⟩))))) (dN.none _ _)))
             intro lQ w59 mh hb hg_ ig; clear hg_ ig; (first | rw [← JW.out] at mh | (simp only [Int.reduceToNat] at mh; rw [← JW.out] at mh))
             have iJ := aa.mk (Kd.kW mh (ax bl_)); replace dS := aa.mk (Kd.jT (pN_ dS.out) (by first | exact Kd.iq mh | exact Kd.cO mh | exact Kd.iq (Kd.S_N mh)) hb); replace ek := aa.mk (Kd.jT (pN_ ek.out) (by first | exact Kd.iq mh | exact Kd.cO mh | exact Kd.iq (Kd.S_N mh)) hb); replace eB := aa.mk (Kd.jT (pN_ eB.out) (by first | exact Kd.iq mh | exact Kd.cO mh | exact Kd.iq (Kd.S_N mh)) hb); replace fQ := aa.mk (Kd.jT (pN_ fQ.out) (by first | exact Kd.iq mh | exact Kd.cO mh | exact Kd.iq (Kd.S_N mh)) hb); replace gI := aa.mk (aD.below si_ hb); replace dw := kb_ dw hb; replace dB := kb_ dB hb; replace bN := kb_ bN hb; replace dR := kb_ dR hb; replace HB := aa.mk (ai bl_ hb); clear hb mh; obtain ⟨DK, DL, eo61⟩ := Kd.jS iJ.out; (first | subst eo61 | (injection eo61 with f1_ f2_ f3_; have f4_ := f1_.symm; have f5_ := f3_.symm; clear f1_ f2_ f3_; subst f4_; subst f5_))
             refine hK.out _ _ ⟨(ag bN.out 0).trans rfl, (ag bN.out 1).trans rfl, (ag bN.out 2).trans rfl, (ag bN.out 3).trans rfl, (ag bN.out 4).trans rfl⟩ (fun hHeld => ?_)
             clear hK K; refine ic (a' := ?_) ?_ ?_
             rotate_left
             ·show Act.put _ (some 25) _ = _
              simp only [Act.put, List.setIfInBounds_toArray, List.set_cons_zero, List.set_cons_succ, eT, fA]; rfl
             refine LB (i := 4) (N := some 26) (v := ?_) (a' := ?_) #[true, true, true, true, true, false, false] rfl rfl (by kernel_rfl) (fun _ _ _ h => h) (Or.inl ⟨by rfl, ?_⟩) ?_ ?_
             rotate_left
             ·intro w'; go_simp; with_reducible rfl
             rotate_left
             ·simp only [Act.put, List.setIfInBounds_toArray, List.set_cons_zero, List.set_cons_succ, eT, fA]; rfl
             exact ic (by first | (simp only [jH, Act.put, List.setIfInBounds_toArray, List.set_cons_zero, List.set_cons_succ]; done) | (simp only [jH, Act.put, List.setIfInBounds_toArray, List.set_cons_zero, List.set_cons_succ]; rfl)) (hJ1_3 (.slice DK ku.length DL) _ ⟨hHeld, (by (with_reducible repeat (first | apply Kd.dL | apply Kd.dM | apply Kd.dO)); exact Kd.aM dS.out (fun _ hk => ⟨hk.1.1, ⟨hk.1.2.1, ⟨hk.1.2.2.1, ⟨hk.2, ⟨hk.1.2.2.2.1, ⟨hk.1.2.2.2.2.1, ⟨hk.1.2.2.2.2.2.1, ⟨hk.1.2.2.2.2.2.2.1, hk.1.2.2.2.2.2.2.2⟩⟩⟩⟩⟩⟩⟩⟩)), (by (with_reducible repeat (first | apply Kd.dL | apply Kd.dM | apply Kd.dO)); exact Kd.aM ek.out (fun _ hk => ⟨hk.1.1, ⟨hk.1.2.1, ⟨hk.1.2.2.1, ⟨hk.2, ⟨hk.1.2.2.2.1, ⟨hk.1.2.2.2.2.1, ⟨hk.1.2.2.2.2.2.1, ⟨hk.1.2.2.2.2.2.2.1, hk.1.2.2.2.2.2.2.2⟩⟩⟩⟩⟩⟩⟩⟩)), (by (with_reducible repeat (first | apply Kd.dL | apply Kd.dM | apply Kd.dO)); exact Kd.aM eB.out (fun _ hk => ⟨hk.1.1, ⟨hk.1.2.1, ⟨hk.1.2.2.1, ⟨hk.2, ⟨hk.1.2.2.2.1, ⟨hk.1.2.2.2.2.1, ⟨hk.1.2.2.2.2.2.1, ⟨hk.1.2.2.2.2.2.2.1, hk.1.2.2.2.2.2.2.2⟩⟩⟩⟩⟩⟩⟩⟩)), (by (with_reducible repeat (first | apply Kd.dL | apply Kd.dM | apply Kd.dO)); exact Kd.aM fQ.out (fun _ hk => ⟨hk.2, ⟨hk.1.1, ⟨hk.1.2.1, ⟨hk.1.2.2.1, ⟨hk.1.2.2.2.1, hk.1.2.2.2.2⟩⟩⟩⟩⟩)), (by (with_reducible repeat (first | apply Kd.dL | apply Kd.dM | apply Kd.dO)); exact Kd.aM iJ.out (fun _ hk => ⟨hk.1, ⟨hk.2.1, ⟨hk.2.2.1, ⟨hk.2.2.2.2.2.2.2, ⟨hk.2.2.2.1, ⟨hk.2.2.2.2.1, ⟨hk.2.2.2.2.2.1, hk.2.2.2.2.2.2.1⟩⟩⟩⟩⟩⟩⟩)), bk_, bk_, bk_, bk_, si_, bl_⟩)
            ·skip
             refine LA ?hg (N := 8) ?hd (cs := #[.int .i64 0, .int .i64 0, .int .i64 0, .int .i64 0, .slice none 0 0]) (t := 24) ?hr ?_; (case hd => rfl); (case hg => rfl); (case hr => first | (go_simp; done) | (go_simp; rfl))
             intro aQ hg w59 aK hb; have fq := aa.mk (aK); have sV : aa (w.heap.size ≤ aQ) := gw_ hg (ax bl_); have vF := sV; have jo := nl_ dw hg; have jZ := ng_ dw hg; have jq := nl_ dB hg; have j5 := ng_ dB hg; have fo := nl_ bN hg; have j6 := ng_ bN hg; have jr := nl_ dR hg; have kg := ng_ dR hg; have kU := aa.mk ((by rw [hg]; exact Nat.ne_of_lt (aD.lt (show aD w _ bI kG zn zo from si_)) : bI ≠ aQ)); have kV := aa.mk ((by rw [hg]; exact Nat.ne_of_gt (aD.lt (show aD w _ bI kG zn zo from si_)) : aQ ≠ bI)); replace dS := aa.mk (Kd.dF (Kd.gT (pN_ dS.out) aQ (Nat.le_of_eq hg.symm)) hb); replace ek := aa.mk (Kd.dF (Kd.gT (pN_ ek.out) aQ (Nat.le_of_eq hg.symm)) hb); replace eB := aa.mk (Kd.dF (Kd.gT (pN_ eB.out) aQ (Nat.le_of_eq hg.symm)) hb); replace fQ := aa.mk (Kd.dF (Kd.gT (pN_ fQ.out) aQ (Nat.le_of_eq hg.symm)) hb); replace gI := aa.mk (aD.below si_ hb); replace dw := kb_ dw hb; replace dB := kb_ dB hb; replace bN := kb_ bN hb; replace dR := kb_ dR hb; replace HB := aa.mk (ai bl_ hb); clear hb aK hg; refine hK.out _ _ ⟨(ag bN.out 0).trans rfl, (ag bN.out 1).trans rfl, (ag bN.out 2).trans rfl, (ag bN.out 3).trans rfl, (ag bN.out 4).trans rfl⟩ (fun hHeld => ?_)
             clear hK K; refine ic (a' := ?_) ?_ ?_
             rotate_left
             ·show Act.put _ (some 8) _ = _
              simp only [Act.put, List.setIfInBounds_toArray, List.set_cons_zero, List.set_cons_succ, eT, fA]; rfl
             exact ic (by first | (simp only [jH, Act.put, List.setIfInBounds_toArray, List.set_cons_zero, List.set_cons_succ]; done) | (simp only [jH, Act.put, List.setIfInBounds_toArray, List.set_cons_zero, List.set_cons_succ]; rfl)) (hJ1_5 (aQ) _ ⟨hHeld, (by (with_reducible repeat (first | apply Kd.dL | apply Kd.dM | apply Kd.dO)); exact Kd.aM dS.out (fun _ hk => ⟨hk.1.1, ⟨hk.1.2.1, ⟨hk.1.2.2.1, ⟨hk.1.2.2.2.1, ⟨hk.1.2.2.2.2.1, ⟨hk.1.2.2.2.2.2.1, ⟨hk.1.2.2.2.2.2.2.1, ⟨hk.1.2.2.2.2.2.2.2, hk.2⟩⟩⟩⟩⟩⟩⟩⟩)), (by (with_reducible repeat (first | apply Kd.dL | apply Kd.dM | apply Kd.dO)); exact Kd.aM ek.out (fun _ hk => ⟨hk.1.1, ⟨hk.1.2.1, ⟨hk.1.2.2.1, ⟨hk.1.2.2.2.1, ⟨hk.1.2.2.2.2.1, ⟨hk.1.2.2.2.2.2.1, ⟨hk.1.2.2.2.2.2.2.1, ⟨hk.1.2.2.2.2.2.2.2, hk.2⟩⟩⟩⟩⟩⟩⟩⟩)), (by (with_reducible repeat (first | apply Kd.dL | apply Kd.dM | apply Kd.dO)); exact Kd.aM eB.out (fun _ hk => ⟨hk.1.1, ⟨hk.1.2.1, ⟨hk.1.2.2.1, ⟨hk.1.2.2.2.1, ⟨hk.1.2.2.2.2.1, ⟨hk.1.2.2.2.2.2.1, ⟨hk.1.2.2.2.2.2.2.1, ⟨hk.1.2.2.2.2.2.2.2, hk.2⟩⟩⟩⟩⟩⟩⟩⟩)), (by (with_reducible repeat (first | apply Kd.dL | apply Kd.dM | apply Kd.dO)); exact Kd.aM fQ.out (fun _ hk => ⟨hk.1.1, ⟨hk.1.2.1, ⟨hk.1.2.2.1, ⟨hk.1.2.2.2.1, ⟨hk.1.2.2.2.2, hk.2⟩⟩⟩⟩⟩)), bk_, bk_, bk_, bk_, bk_, sV.out, vF.out, kU.out, kV.out, jo.out, jZ.out, jq.out, j5.out, fo.out, j6.out, jr.out, kg.out, si_, bl_⟩)
          ·skip
           rintro ⟨lQ, aQ⟩ w60 ⟨hS_, h0_, h1_, h2_, h3_, h4_, h5_, h6_, h7_, h8_, h9_, zt, Jm, Jn, Jo, Jp, Jq, Jr, Js, Jt, Ju, Jv, Jw, Jy, h23_⟩
           have iJ : aa (Kd.N k24 24 w60 w.heap.size (fun k_ => some k_ ≠ (.slice dK cu.length dI : Value).ownBlock ∧ some k_ ≠ (.slice dU cB.length dV : Value).ownBlock ∧ some k_ ≠ (.slice dC cZ.length dD : Value).ownBlock ∧ k_ ≠ bI ∧ k_ ≠ bD ∧ k_ ≠ bE ∧ k_ ≠ aN ∧ k_ ≠ aW ∧ k_ ≠ aQ) lQ ku) := ⟨h4_⟩; have fq : aa (w60.heap[aQ]? = some (.cells #[.int .i64 0, .int .i64 0, .int .i64 0, .int .i64 0, .slice none 0 0] 24 (0, 0))) := ⟨h9_⟩; have sV : aa (w.heap.size ≤ aQ) := ⟨zt⟩; have vF : aa (w.heap.size ≤ aQ) := ⟨Jm⟩; have kU : aa (bI ≠ aQ) := ⟨Jn⟩; have kV : aa (aQ ≠ bI) := ⟨Jo⟩; have jo : aa (bD ≠ aQ) := ⟨Jp⟩; have jZ : aa (aQ ≠ bD) := ⟨Jq⟩; have jq : aa (bE ≠ aQ) := ⟨Jr⟩; have j5 : aa (aQ ≠ bE) := ⟨Js⟩; have fo : aa (aN ≠ aQ) := ⟨Jt⟩; have j6 : aa (aQ ≠ aN) := ⟨Ju⟩; have jr : aa (aW ≠ aQ) := ⟨Jv⟩; have kg : aa (aQ ≠ aW) := ⟨Jw⟩; replace dS : aa (Kd.N k24 24 w60 w.heap.size (fun k_ => some k_ ≠ (.slice dU cB.length dV : Value).ownBlock ∧ some k_ ≠ (.slice eU dn.length eX : Value).ownBlock ∧ some k_ ≠ (.slice dC cZ.length dD : Value).ownBlock ∧ some k_ ≠ (lQ : Value).ownBlock ∧ k_ ≠ bI ∧ k_ ≠ bD ∧ k_ ≠ bE ∧ k_ ≠ aN ∧ k_ ≠ aW ∧ k_ ≠ aQ) (.slice dK cu.length dI) cu) := ⟨h0_⟩; replace ek : aa (Kd.N k24 24 w60 w.heap.size (fun k_ => some k_ ≠ (.slice dK cu.length dI : Value).ownBlock ∧ some k_ ≠ (.slice eU dn.length eX : Value).ownBlock ∧ some k_ ≠ (.slice dC cZ.length dD : Value).ownBlock ∧ some k_ ≠ (lQ : Value).ownBlock ∧ k_ ≠ bI ∧ k_ ≠ bD ∧ k_ ≠ bE ∧ k_ ≠ aN ∧ k_ ≠ aW ∧ k_ ≠ aQ) (.slice dU cB.length dV) cB) := ⟨h1_⟩; replace eB : aa (Kd.N k24 24 w60 w.heap.size (fun k_ => some k_ ≠ (.slice dK cu.length dI : Value).ownBlock ∧ some k_ ≠ (.slice dU cB.length dV : Value).ownBlock ∧ some k_ ≠ (.slice dC cZ.length dD : Value).ownBlock ∧ some k_ ≠ (lQ : Value).ownBlock ∧ k_ ≠ bI ∧ k_ ≠ bD ∧ k_ ≠ bE ∧ k_ ≠ aN ∧ k_ ≠ aW ∧ k_ ≠ aQ) (.slice eU dn.length eX) dn) := ⟨h2_⟩; replace fQ : aa (Kd.N k24 24 w60 w.heap.size (fun k_ => some k_ ≠ (lQ : Value).ownBlock ∧ k_ ≠ bI ∧ k_ ≠ bD ∧ k_ ≠ bE ∧ k_ ≠ aN ∧ k_ ≠ aW ∧ k_ ≠ aQ) (.slice dC cZ.length dD) cZ) := ⟨h3_⟩; replace dw : aa (w60.heap[bD]? = some (.cells #[.int .i64 iT, .int .i64 iU, .int .i64 iV, .int .i64 iW, .slice dK cu.length dI] 24 (0, 0))) := ⟨h5_⟩; replace dB : aa (w60.heap[bE]? = some (.cells #[.int .i64 iX, .int .i64 iY, .int .i64 iZ, .int .i64 ja, .slice dU cB.length dV] 24 (0, 0))) := ⟨h6_⟩; replace bN : aa (w60.heap[aN]? = some (.cells #[.int .i64 gU, .int .i64 gV, .int .i64 gW, .int .i64 gX, .slice eU dn.length eX] 24 (0, 0))) := ⟨h7_⟩
           replace dR : aa (w60.heap[aW]? = some (.cells #[.int .i64 5, .int .i64 0, .int .i64 0, .int .i64 0, .slice dC cZ.length dD] 24 (0, 0))) := ⟨h8_⟩; replace gI : aa (aD w w60 bI kG pG pI) := ⟨Jy⟩; replace HB : aa (Below w.heap.size w w60) := ⟨h23_⟩; clear h0_ h1_ h2_ h3_ h4_ h5_ h6_ h7_ h8_ h9_ zt Jm Jn Jo Jp Jq Jr Js Jt Ju Jv Jw Jy h23_; have hHeld : w60.cell? ⟨aN, 0, none⟩ = some (.int .i64 gU) ∧ w60.cell? ⟨aN, 1, none⟩ = some (.int .i64 gV) ∧ w60.cell? ⟨aN, 2, none⟩ = some (.int .i64 gW) ∧ w60.cell? ⟨aN, 3, none⟩ = some (.int .i64 gX) ∧ w60.cell? ⟨aN, 4, none⟩ = some (.slice eU dn.length eX) := hS_; refine ic (a' := ?_) ?_ ?_
           rotate_left
           ·simp only [jH, Act.put, List.setIfInBounds_toArray, List.set_cons_zero, List.set_cons_succ]; rfl
           refine l7 (i := 1) (N := some 23) #[true, true, true, true, false, true, false] rfl rfl (by kernel_rfl) (by decide) (fun K hK => ?_)
           refine kY Tryd.func17 (by kernel_rfl) rfl #[.pointer (some ⟨bI, 0, none⟩), .int .i64 0, .int .i64 5] (by rfl) rfl rfl mp_ ?_
           with_reducible refine (dQ.calls bI kG pG pI 0 5 lN zn zo w _ ?ay ?az A6.out).mono ?_
           (case ay => repeat (first | (with_reducible first | exact gI.out | apply aD.alloc | apply aD.drewN | apply aD.drew | apply aD.sG | apply aD.sH | refine aD.far ?_ FJ.out _ | refine aD.far ?_ FM.out _ | refine aD.far ?_ FO.out _ | refine aD.far ?_ FQ.out _ | refine aD.far ?_ kU.out _) | exact gI.out))
           (case az => repeat (first | (with_reducible first | exact HB.out | apply bS | apply bO | apply bQ | refine ed ?_ (aD.ge gI.out) | refine ed ?_ GE698.out | refine ed ?_ GE699.out | refine ed ?_ GE700.out | refine ed ?_ GE704.out | refine ed ?_ vF.out) | exact HB.out))
           rintro e w61 ⟨rfl, hi, hb, hk⟩
           refine ⟨_, rfl, ?_⟩
           replace dS := aa.mk (Kd.aM (Kd.jI (Kd.aM (ok := fun k_ => (some k_ ≠ (.slice dU cB.length dV : Value).ownBlock ∧ (some k_ ≠ (.slice eU dn.length eX : Value).ownBlock ∧ (some k_ ≠ (.slice dC cZ.length dD : Value).ownBlock ∧ (some k_ ≠ (lQ : Value).ownBlock ∧ (k_ ≠ bI ∧ (k_ ≠ bD ∧ (k_ ≠ bE ∧ (k_ ≠ aN ∧ (k_ ≠ aW ∧ k_ ≠ aQ)))))))))) (pN_ dS.out) (fun k_ hk_ => (⟨hk_, hk_.2.2.2.2.1⟩ : _ ∧ k_ ≠ bI))) hk (fun _ h => h.2)) (fun _ h => h.1)); replace ek := aa.mk (Kd.aM (Kd.jI (Kd.aM (ok := fun k_ => (some k_ ≠ (.slice dK cu.length dI : Value).ownBlock ∧ (some k_ ≠ (.slice eU dn.length eX : Value).ownBlock ∧ (some k_ ≠ (.slice dC cZ.length dD : Value).ownBlock ∧ (some k_ ≠ (lQ : Value).ownBlock ∧ (k_ ≠ bI ∧ (k_ ≠ bD ∧ (k_ ≠ bE ∧ (k_ ≠ aN ∧ (k_ ≠ aW ∧ k_ ≠ aQ)))))))))) (pN_ ek.out) (fun k_ hk_ => (⟨hk_, hk_.2.2.2.2.1⟩ : _ ∧ k_ ≠ bI))) hk (fun _ h => h.2)) (fun _ h => h.1)); replace eB := aa.mk (Kd.aM (Kd.jI (Kd.aM (ok := fun k_ => (some k_ ≠ (.slice dK cu.length dI : Value).ownBlock ∧ (some k_ ≠ (.slice dU cB.length dV : Value).ownBlock ∧ (some k_ ≠ (.slice dC cZ.length dD : Value).ownBlock ∧ (some k_ ≠ (lQ : Value).ownBlock ∧ (k_ ≠ bI ∧ (k_ ≠ bD ∧ (k_ ≠ bE ∧ (k_ ≠ aN ∧ (k_ ≠ aW ∧ k_ ≠ aQ)))))))))) (pN_ eB.out) (fun k_ hk_ => (⟨hk_, hk_.2.2.2.2.1⟩ : _ ∧ k_ ≠ bI))) hk (fun _ h => h.2)) (fun _ h => h.1)); replace dw := aa.mk (aI.blk hk (g' := bD) (o := .cells #[.int .i64 iT, .int .i64 iU, .int .i64 iV, .int .i64 iW, .slice dK cu.length dI] 24 (0, 0)) bk_ FL.out (by simp)); replace dB := aa.mk (aI.blk hk (g' := bE) (o := .cells #[.int .i64 iX, .int .i64 iY, .int .i64 iZ, .int .i64 ja, .slice dU cB.length dV] 24 (0, 0)) bk_ FN.out (by simp)); replace bN := aa.mk (aI.blk hk (g' := aN) (o := .cells #[.int .i64 gU, .int .i64 gV, .int .i64 gW, .int .i64 gX, .slice eU dn.length eX] 24 (0, 0)) bk_ FP.out (by simp)); replace fQ := aa.mk (Kd.aM (Kd.jI (Kd.aM (ok := fun k_ => (some k_ ≠ (lQ : Value).ownBlock ∧ (k_ ≠ bI ∧ (k_ ≠ bD ∧ (k_ ≠ bE ∧ (k_ ≠ aN ∧ (k_ ≠ aW ∧ k_ ≠ aQ))))))) (pN_ fQ.out) (fun k_ hk_ => (⟨hk_, hk_.2.1⟩ : _ ∧ k_ ≠ bI))) hk (fun _ h => h.2)) (fun _ h => h.1)); replace dR := aa.mk (aI.blk hk (g' := aW) (o := .cells #[.int .i64 5, .int .i64 0, .int .i64 0, .int .i64 0, .slice dC cZ.length dD] 24 (0, 0)) bk_ FR.out (by simp)); replace iJ := aa.mk (Kd.aM (Kd.jI (Kd.aM (ok := fun k_ => (some k_ ≠ (.slice dK cu.length dI : Value).ownBlock ∧ (some k_ ≠ (.slice dU cB.length dV : Value).ownBlock ∧ (some k_ ≠ (.slice dC cZ.length dD : Value).ownBlock ∧ (k_ ≠ bI ∧ (k_ ≠ bD ∧ (k_ ≠ bE ∧ (k_ ≠ aN ∧ (k_ ≠ aW ∧ k_ ≠ aQ))))))))) (pN_ iJ.out) (fun k_ hk_ => (⟨hk_, hk_.2.2.2.1⟩ : _ ∧ k_ ≠ bI))) hk (fun _ h => h.2)) (fun _ h => h.1))
           replace fq := aa.mk (aI.blk hk (g' := aQ) (o := .cells #[.int .i64 0, .int .i64 0, .int .i64 0, .int .i64 0, .slice none 0 0] 24 (0, 0)) bk_ kV.out (by simp)); replace HB := aa.mk (hb); replace gI := aa.mk (hi); (try clear hb)
           (try clear hb2)
           (try clear hk)
           (try clear hi)
           obtain ⟨Ao62, co62, eo62⟩ := Kd.jS iJ.out; (first | subst eo62 | (injection eo62 with f1_ f2_ f3_; have f4_ := f1_.symm; have f5_ := f3_.symm; clear f1_ f2_ f3_; subst f4_; subst f5_))
           refine hK.out _ _ ⟨(ag bN.out 0).trans rfl, (ag bN.out 1).trans rfl, (ag bN.out 2).trans rfl, (ag bN.out 3).trans rfl, (ag bN.out 4).trans rfl⟩ (fun hHeld => ?_)
           clear hK K; refine ic (a' := ?_) ?_ ?_
           rotate_left
           ·show Act.put _ (some 23) _ = _
            simp only [Act.put, List.setIfInBounds_toArray, List.set_cons_zero, List.set_cons_succ, eT, fA]; rfl
           refine LB (i := 4) (N := some 26) (v := ?_) (a' := ?_) #[true, true, true, true, true, true, false] rfl rfl (by kernel_rfl) (fun _ _ _ h => h) (Or.inl ⟨by rfl, ?_⟩) ?_ ?_
           rotate_left
           ·intro w'; go_simp; with_reducible rfl
           rotate_left
           ·simp only [Act.put, List.setIfInBounds_toArray, List.set_cons_zero, List.set_cons_succ, eT, fA]; rfl
           exact ic (by first | (simp only [jH, Act.put, List.setIfInBounds_toArray, List.set_cons_zero, List.set_cons_succ]; done) | (simp only [jH, Act.put, List.setIfInBounds_toArray, List.set_cons_zero, List.set_cons_succ]; rfl)) (TF (.slice Ao62 ku.length co62, aQ) _ ⟨hHeld, (pN_ dS.out), (pN_ ek.out), (pN_ eB.out), (pN_ fQ.out), (pN_ iJ.out), bk_, bk_, bk_, bk_, bk_, sV.out, vF.out, kU.out, kV.out, jo.out, jZ.out, jq.out, j5.out, fo.out, j6.out, jr.out, kg.out, si_, bl_⟩)
         ·skip
          rintro aQ w59 ⟨hS_, h0_, h1_, h2_, h3_, h4_, h5_, h6_, h7_, h8_, h9_, zt, Jm, Jn, Jo, Jp, Jq, Jr, Js, Jt, Ju, Jv, Jw, Jy⟩
          have fq : aa (w59.heap[aQ]? = some (.cells #[.int .i64 0, .int .i64 0, .int .i64 0, .int .i64 0, .slice none 0 0] 24 (0, 0))) := ⟨h8_⟩; have sV : aa (w.heap.size ≤ aQ) := ⟨h9_⟩; have vF : aa (w.heap.size ≤ aQ) := ⟨zt⟩; have kU : aa (bI ≠ aQ) := ⟨Jm⟩; have kV : aa (aQ ≠ bI) := ⟨Jn⟩; have jo : aa (bD ≠ aQ) := ⟨Jo⟩; have jZ : aa (aQ ≠ bD) := ⟨Jp⟩; have jq : aa (bE ≠ aQ) := ⟨Jq⟩; have j5 : aa (aQ ≠ bE) := ⟨Jr⟩; have fo : aa (aN ≠ aQ) := ⟨Js⟩; have j6 : aa (aQ ≠ aN) := ⟨Jt⟩; have jr : aa (aW ≠ aQ) := ⟨Ju⟩; have kg : aa (aQ ≠ aW) := ⟨Jv⟩; replace dS : aa (Kd.N k24 24 w59 w.heap.size (fun k_ => some k_ ≠ (.slice dU cB.length dV : Value).ownBlock ∧ some k_ ≠ (.slice eU dn.length eX : Value).ownBlock ∧ some k_ ≠ (.slice dC cZ.length dD : Value).ownBlock ∧ k_ ≠ bI ∧ k_ ≠ bD ∧ k_ ≠ bE ∧ k_ ≠ aN ∧ k_ ≠ aW ∧ k_ ≠ aQ) (.slice dK cu.length dI) cu) := ⟨h0_⟩; replace ek : aa (Kd.N k24 24 w59 w.heap.size (fun k_ => some k_ ≠ (.slice dK cu.length dI : Value).ownBlock ∧ some k_ ≠ (.slice eU dn.length eX : Value).ownBlock ∧ some k_ ≠ (.slice dC cZ.length dD : Value).ownBlock ∧ k_ ≠ bI ∧ k_ ≠ bD ∧ k_ ≠ bE ∧ k_ ≠ aN ∧ k_ ≠ aW ∧ k_ ≠ aQ) (.slice dU cB.length dV) cB) := ⟨h1_⟩; replace eB : aa (Kd.N k24 24 w59 w.heap.size (fun k_ => some k_ ≠ (.slice dK cu.length dI : Value).ownBlock ∧ some k_ ≠ (.slice dU cB.length dV : Value).ownBlock ∧ some k_ ≠ (.slice dC cZ.length dD : Value).ownBlock ∧ k_ ≠ bI ∧ k_ ≠ bD ∧ k_ ≠ bE ∧ k_ ≠ aN ∧ k_ ≠ aW ∧ k_ ≠ aQ) (.slice eU dn.length eX) dn) := ⟨h2_⟩; replace fQ : aa (Kd.N k24 24 w59 w.heap.size (fun k_ => k_ ≠ bI ∧ k_ ≠ bD ∧ k_ ≠ bE ∧ k_ ≠ aN ∧ k_ ≠ aW ∧ k_ ≠ aQ) (.slice dC cZ.length dD) cZ) := ⟨h3_⟩; replace dw : aa (w59.heap[bD]? = some (.cells #[.int .i64 iT, .int .i64 iU, .int .i64 iV, .int .i64 iW, .slice dK cu.length dI] 24 (0, 0))) := ⟨h4_⟩; replace dB : aa (w59.heap[bE]? = some (.cells #[.int .i64 iX, .int .i64 iY, .int .i64 iZ, .int .i64 ja, .slice dU cB.length dV] 24 (0, 0))) := ⟨h5_⟩; replace bN : aa (w59.heap[aN]? = some (.cells #[.int .i64 gU, .int .i64 gV, .int .i64 gW, .int .i64 gX, .slice eU dn.length eX] 24 (0, 0))) := ⟨h6_⟩; replace dR : aa (w59.heap[aW]? = some (.cells #[.int .i64 5, .int .i64 0, .int .i64 0, .int .i64 0, .slice dC cZ.length dD] 24 (0, 0))) := ⟨h7_⟩; replace gI : aa (aD w w59 bI kG zn zo) := ⟨Jw⟩; replace HB : aa (Below w.heap.size w w59) := ⟨Jy⟩; clear h0_ h1_ h2_ h3_ h4_ h5_ h6_ h7_ h8_ h9_ zt Jm Jn Jo Jp Jq Jr Js Jt Ju Jv Jw Jy; have hHeld : w59.cell? ⟨aN, 0, none⟩ = some (.int .i64 gU) ∧ w59.cell? ⟨aN, 1, none⟩ = some (.int .i64 gV) ∧ w59.cell? ⟨aN, 2, none⟩ = some (.int .i64 gW) ∧ w59.cell? ⟨aN, 3, none⟩ = some (.int .i64 gX) ∧ w59.cell? ⟨aN, 4, none⟩ = some (.slice eU dn.length eX) := hS_
          refine ic (a' := ?_) ?_ ?_
          rotate_left
          ·simp only [jH, Act.put, List.setIfInBounds_toArray, List.set_cons_zero, List.set_cons_succ]; rfl
          refine l7 (i := 3) (N := some 25) #[true, true, true, true, false, true, false] rfl rfl (by kernel_rfl) (by decide) (fun K hK => ?_)
          refine Kd.Gd k24 _ 24 ?hg (N' := 25) ?hd (xs := ([(⟨gU, gV, gW, gX, dn⟩ : S24)] : List (S24))) (inner := [.int .i64 gU, .int .i64 gV, .int .i64 gW, .int .i64 gX, .slice eU dn.length eX]) (ok := (fun k_ => some k_ ≠ (.slice dK cu.length dI : Value).ownBlock ∧ some k_ ≠ (.slice dU cB.length dV : Value).ownBlock ∧ some k_ ≠ (.slice dC cZ.length dD : Value).ownBlock ∧ k_ ≠ bD ∧ k_ ≠ bE ∧ k_ ≠ aN ∧ k_ ≠ aW ∧ k_ ≠ aQ ∧ k_ ≠ bI)) (okp := (fun k_ => some k_ ≠ (.slice dK cu.length dI : Value).ownBlock ∧ some k_ ≠ (.slice dU cB.length dV : Value).ownBlock ∧ some k_ ≠ (.slice dC cZ.length dD : Value).ownBlock ∧ k_ ≠ bD ∧ k_ ≠ bE ∧ k_ ≠ aN ∧ k_ ≠ aW ∧ k_ ≠ aQ ∧ k_ ≠ bI)) ?hr ?hp (fun _ hk => hk) ((show ∀ k_, w59.heap.size ≤ k_ → (fun k_ => some k_ ≠ (.slice dK cu.length dI : Value).ownBlock ∧ some k_ ≠ (.slice dU cB.length dV : Value).ownBlock ∧ some k_ ≠ (.slice dC cZ.length dD : Value).ownBlock ∧ k_ ≠ bD ∧ k_ ≠ bE ∧ k_ ≠ aN ∧ k_ ≠ aW ∧ k_ ≠ aQ ∧ k_ ≠ bI) k_ from fun k_ hk => ⟨Kd.fresh' (Kd.xH (pN_ dS.out)) k_ hk, Kd.fresh' (Kd.xH (pN_ ek.out)) k_ hk, Kd.fresh' (Kd.xH (pN_ fQ.out)) k_ hk, Kd.iH (g := bD) (o := .cells #[.int .i64 iT, .int .i64 iU, .int .i64 iV, .int .i64 iW, .slice dK cu.length dI] 24 (0, 0)) bk_ k_ hk, Kd.iH (g := bE) (o := .cells #[.int .i64 iX, .int .i64 iY, .int .i64 iZ, .int .i64 ja, .slice dU cB.length dV] 24 (0, 0)) bk_ k_ hk, Kd.iH (g := aN) (o := .cells #[.int .i64 gU, .int .i64 gV, .int .i64 gW, .int .i64 gX, .slice eU dn.length eX] 24 (0, 0)) bk_ k_ hk, Kd.iH (g := aW) (o := .cells #[.int .i64 5, .int .i64 0, .int .i64 0, .int .i64 0, .slice dC cZ.length dD] 24 (0, 0)) bk_ k_ hk, Kd.iH (g := aQ) (o := .cells #[.int .i64 0, .int .i64 0, .int .i64 0, .int .i64 0, .slice none 0 0] 24 (0, 0)) bk_ k_ hk, aD.fresh si_ k_ hk⟩) _ (Nat.le_refl _)) (Below.refl _ _) (Nat.le_refl _) (by simp) ?_; (case hd => rfl); (case hg => rfl); (case hr => first | (go_simp; done) | (go_simp; rfl)); (case hp => exact (dN.c5 (show Kd.FK k24 _ _ (⟨gU, gV, gW, gX, dn⟩ : S24) [.int .i64 gU, .int .i64 gV, .int .i64 gW, .int .i64 gX, .slice eU dn.length eX] from (vS _ _ (⟨gU, gV, gW, gX, dn⟩ : S24) (Kd.iL (Kd.aM (ok' := (fun k_ => some k_ ≠ (.slice dK cu.length dI : Value).ownBlock ∧ some k_ ≠ (.slice dU cB.length dV : Value).ownBlock ∧ some k_ ≠ (.slice dC cZ.length dD : Value).ownBlock ∧ k_ ≠ bD ∧ k_ ≠ bE ∧ k_ ≠ aN ∧ k_ ≠ aW ∧ k_ ≠ aQ ∧ k_ ≠ bI)) (eB.out) (fun k_ hk => ⟨hk.1, ⟨hk.2.1, ⟨hk.2.2.1, ⟨hk.2.2.2.2.1, ⟨hk.2.2.2.2.2.1, ⟨hk.2.2.2.2.2.2.1, ⟨hk.2.2.2.2.2.2.2.1, ⟨hk.2.2.2.2.2.2.2.2, hk.2.2.2.1⟩⟩⟩⟩⟩⟩⟩⟩))).2.1 (Kd.N_F (Kd.aM (ok' := (fun k_ => some k_ ≠ (.slice dK cu.length dI : Value).ownBlock ∧ some k_ ≠ (.slice dU cB.length dV : Value).ownBlock ∧ some k_ ≠ (.slice dC cZ.length dD : Value).ownBlock ∧ k_ ≠ bD ∧ k_ ≠ bE ∧ k_ ≠ aN ∧ k_ ≠ aW ∧ k_ ≠ aQ ∧ k_ ≠ bI)) (eB.out) (fun k_ hk => ⟨hk.1, ⟨hk.2.1, ⟨hk.2.2.1, ⟨hk.2.2.2.2.1, ⟨hk.2.2.2.2.2.1, ⟨hk.2.2.2.2.2.2.1, ⟨hk.2.2.2.2.2.2.2.1, ⟨hk.2.2.2.2.2.2.2.2, hk.2.2.2.1⟩⟩⟩⟩⟩⟩⟩⟩))))) (dN.none _ _)))
          intro lQ w60 zu hb hg_ ig; clear hg_ ig; (first | rw [← JW.out] at zu | (simp only [Int.reduceToNat] at zu; rw [← JW.out] at zu))
          have iJ := aa.mk (Kd.kW zu (ax bl_)); replace dS := aa.mk (Kd.jT (pN_ dS.out) (by first | exact Kd.iq zu | exact Kd.cO zu | exact Kd.iq (Kd.S_N zu)) hb); replace ek := aa.mk (Kd.jT (pN_ ek.out) (by first | exact Kd.iq zu | exact Kd.cO zu | exact Kd.iq (Kd.S_N zu)) hb); replace eB := aa.mk (Kd.jT (pN_ eB.out) (by first | exact Kd.iq zu | exact Kd.cO zu | exact Kd.iq (Kd.S_N zu)) hb); replace fQ := aa.mk (Kd.jT (pN_ fQ.out) (by first | exact Kd.iq zu | exact Kd.cO zu | exact Kd.iq (Kd.S_N zu)) hb); replace gI := aa.mk (aD.below si_ hb); replace dw := kb_ dw hb; replace dB := kb_ dB hb; replace bN := kb_ bN hb; replace dR := kb_ dR hb; replace fq := kb_ fq hb; replace HB := aa.mk (ai bl_ hb); clear hb zu; obtain ⟨Ao62, co62, eo62⟩ := Kd.jS iJ.out; (first | subst eo62 | (injection eo62 with f1_ f2_ f3_; have f4_ := f1_.symm; have f5_ := f3_.symm; clear f1_ f2_ f3_; subst f4_; subst f5_))
          refine hK.out _ _ ⟨(ag bN.out 0).trans rfl, (ag bN.out 1).trans rfl, (ag bN.out 2).trans rfl, (ag bN.out 3).trans rfl, (ag bN.out 4).trans rfl⟩ (fun hHeld => ?_)
          clear hK K; refine ic (a' := ?_) ?_ ?_
          rotate_left
          ·show Act.put _ (some 25) _ = _
           simp only [Act.put, List.setIfInBounds_toArray, List.set_cons_zero, List.set_cons_succ, eT, fA]; rfl
          refine LB (i := 4) (N := some 26) (v := ?_) (a' := ?_) #[true, true, true, true, true, true, false] rfl rfl (by kernel_rfl) (fun _ _ _ h => h) (Or.inl ⟨by rfl, ?_⟩) ?_ ?_
          rotate_left
          ·intro w'; go_simp; with_reducible rfl
          rotate_left
          ·simp only [Act.put, List.setIfInBounds_toArray, List.set_cons_zero, List.set_cons_succ, eT, fA]; rfl
          exact ic (by first | (simp only [jH, Act.put, List.setIfInBounds_toArray, List.set_cons_zero, List.set_cons_succ]; done) | (simp only [jH, Act.put, List.setIfInBounds_toArray, List.set_cons_zero, List.set_cons_succ]; rfl)) (TF (.slice Ao62 ku.length co62, aQ) _ ⟨hHeld, (by (with_reducible repeat (first | apply Kd.dL | apply Kd.dM | apply Kd.dO)); exact Kd.aM dS.out (fun _ hk => ⟨hk.1.1, ⟨hk.1.2.1, ⟨hk.1.2.2.1, ⟨hk.2, ⟨hk.1.2.2.2.1, ⟨hk.1.2.2.2.2.1, ⟨hk.1.2.2.2.2.2.1, ⟨hk.1.2.2.2.2.2.2.1, ⟨hk.1.2.2.2.2.2.2.2.1, hk.1.2.2.2.2.2.2.2.2⟩⟩⟩⟩⟩⟩⟩⟩⟩)), (by (with_reducible repeat (first | apply Kd.dL | apply Kd.dM | apply Kd.dO)); exact Kd.aM ek.out (fun _ hk => ⟨hk.1.1, ⟨hk.1.2.1, ⟨hk.1.2.2.1, ⟨hk.2, ⟨hk.1.2.2.2.1, ⟨hk.1.2.2.2.2.1, ⟨hk.1.2.2.2.2.2.1, ⟨hk.1.2.2.2.2.2.2.1, ⟨hk.1.2.2.2.2.2.2.2.1, hk.1.2.2.2.2.2.2.2.2⟩⟩⟩⟩⟩⟩⟩⟩⟩)), (by (with_reducible repeat (first | apply Kd.dL | apply Kd.dM | apply Kd.dO)); exact Kd.aM eB.out (fun _ hk => ⟨hk.1.1, ⟨hk.1.2.1, ⟨hk.1.2.2.1, ⟨hk.2, ⟨hk.1.2.2.2.1, ⟨hk.1.2.2.2.2.1, ⟨hk.1.2.2.2.2.2.1, ⟨hk.1.2.2.2.2.2.2.1, ⟨hk.1.2.2.2.2.2.2.2.1, hk.1.2.2.2.2.2.2.2.2⟩⟩⟩⟩⟩⟩⟩⟩⟩)), (by (with_reducible repeat (first | apply Kd.dL | apply Kd.dM | apply Kd.dO)); exact Kd.aM fQ.out (fun _ hk => ⟨hk.2, ⟨hk.1.1, ⟨hk.1.2.1, ⟨hk.1.2.2.1, ⟨hk.1.2.2.2.1, ⟨hk.1.2.2.2.2.1, hk.1.2.2.2.2.2⟩⟩⟩⟩⟩⟩)), (by (with_reducible repeat (first | apply Kd.dL | apply Kd.dM | apply Kd.dO)); exact Kd.aM iJ.out (fun _ hk => ⟨hk.1, ⟨hk.2.1, ⟨hk.2.2.1, ⟨hk.2.2.2.2.2.2.2.2, ⟨hk.2.2.2.1, ⟨hk.2.2.2.2.1, ⟨hk.2.2.2.2.2.1, ⟨hk.2.2.2.2.2.2.1, hk.2.2.2.2.2.2.2.1⟩⟩⟩⟩⟩⟩⟩⟩)), bk_, bk_, bk_, bk_, bk_, sV.out, vF.out, kU.out, kV.out, jo.out, jZ.out, jq.out, j5.out, fo.out, j6.out, jr.out, kg.out, si_, bl_⟩)
        ·skip
         rintro lQ w61 ⟨hS_, h0_, h1_, h2_, h3_, h4_, h5_, h6_, h7_, h8_, h9_, zt⟩
         have iJ : aa (Kd.N k24 24 w61 w.heap.size (fun k_ => some k_ ≠ (.slice dK cu.length dI : Value).ownBlock ∧ some k_ ≠ (.slice dU cB.length dV : Value).ownBlock ∧ some k_ ≠ (.slice dC cZ.length dD : Value).ownBlock ∧ k_ ≠ bI ∧ k_ ≠ bD ∧ k_ ≠ bE ∧ k_ ≠ aN ∧ k_ ≠ aW) lQ ku) := ⟨h4_⟩; replace dS : aa (Kd.N k24 24 w61 w.heap.size (fun k_ => some k_ ≠ (.slice dU cB.length dV : Value).ownBlock ∧ some k_ ≠ (.slice eU dn.length eX : Value).ownBlock ∧ some k_ ≠ (.slice dC cZ.length dD : Value).ownBlock ∧ some k_ ≠ (lQ : Value).ownBlock ∧ k_ ≠ bI ∧ k_ ≠ bD ∧ k_ ≠ bE ∧ k_ ≠ aN ∧ k_ ≠ aW) (.slice dK cu.length dI) cu) := ⟨h0_⟩; replace ek : aa (Kd.N k24 24 w61 w.heap.size (fun k_ => some k_ ≠ (.slice dK cu.length dI : Value).ownBlock ∧ some k_ ≠ (.slice eU dn.length eX : Value).ownBlock ∧ some k_ ≠ (.slice dC cZ.length dD : Value).ownBlock ∧ some k_ ≠ (lQ : Value).ownBlock ∧ k_ ≠ bI ∧ k_ ≠ bD ∧ k_ ≠ bE ∧ k_ ≠ aN ∧ k_ ≠ aW) (.slice dU cB.length dV) cB) := ⟨h1_⟩; replace eB : aa (Kd.N k24 24 w61 w.heap.size (fun k_ => some k_ ≠ (.slice dK cu.length dI : Value).ownBlock ∧ some k_ ≠ (.slice dU cB.length dV : Value).ownBlock ∧ some k_ ≠ (.slice dC cZ.length dD : Value).ownBlock ∧ some k_ ≠ (lQ : Value).ownBlock ∧ k_ ≠ bI ∧ k_ ≠ bD ∧ k_ ≠ bE ∧ k_ ≠ aN ∧ k_ ≠ aW) (.slice eU dn.length eX) dn) := ⟨h2_⟩; replace fQ : aa (Kd.N k24 24 w61 w.heap.size (fun k_ => some k_ ≠ (lQ : Value).ownBlock ∧ k_ ≠ bI ∧ k_ ≠ bD ∧ k_ ≠ bE ∧ k_ ≠ aN ∧ k_ ≠ aW) (.slice dC cZ.length dD) cZ) := ⟨h3_⟩; replace dw : aa (w61.heap[bD]? = some (.cells #[.int .i64 iT, .int .i64 iU, .int .i64 iV, .int .i64 iW, .slice dK cu.length dI] 24 (0, 0))) := ⟨h5_⟩; replace dB : aa (w61.heap[bE]? = some (.cells #[.int .i64 iX, .int .i64 iY, .int .i64 iZ, .int .i64 ja, .slice dU cB.length dV] 24 (0, 0))) := ⟨h6_⟩; replace bN : aa (w61.heap[aN]? = some (.cells #[.int .i64 gU, .int .i64 gV, .int .i64 gW, .int .i64 gX, .slice eU dn.length eX] 24 (0, 0))) := ⟨h7_⟩; replace dR : aa (w61.heap[aW]? = some (.cells #[.int .i64 5, .int .i64 0, .int .i64 0, .int .i64 0, .slice dC cZ.length dD] 24 (0, 0))) := ⟨h8_⟩; replace gI : aa (aD w w61 bI kG zn zo) := ⟨h9_⟩; replace HB : aa (Below w.heap.size w w61) := ⟨zt⟩; clear h0_ h1_ h2_ h3_ h4_ h5_ h6_ h7_ h8_ h9_ zt; have hHeld : w61.cell? ⟨aN, 0, none⟩ = some (.int .i64 gU) ∧ w61.cell? ⟨aN, 1, none⟩ = some (.int .i64 gV) ∧ w61.cell? ⟨aN, 2, none⟩ = some (.int .i64 gW) ∧ w61.cell? ⟨aN, 3, none⟩ = some (.int .i64 gX) ∧ w61.cell? ⟨aN, 4, none⟩ = some (.slice eU dn.length eX) := hS_; obtain ⟨Ao62, co62, eo62⟩ := Kd.jS iJ.out; (first | subst eo62 | (injection eo62 with f1_ f2_ f3_; have f4_ := f1_.symm; have f5_ := f3_.symm; clear f1_ f2_ f3_; subst f4_; subst f5_))
         refine ic (a' := ?_) ?_ ?_
         rotate_left
         ·simp only [jH, Act.put, List.setIfInBounds_toArray, List.set_cons_zero, List.set_cons_succ]; rfl
         refine l7 (i := 5) (N := some 8) #[true, true, true, true, true, true, false] rfl rfl (by kernel_rfl) (by decide) (fun K hK => ?_)
         refine LA ?hg (N := 8) ?hd (cs := #[.int .i64 0, .int .i64 0, .int .i64 0, .int .i64 0, .slice none 0 0]) (t := 24) ?hr ?_; (case hd => rfl); (case hg => rfl); (case hr => first | (go_simp; done) | (go_simp; rfl))
         intro aQ hg w63 aK hb; have fq := aa.mk (aK); have sV : aa (w.heap.size ≤ aQ) := gw_ hg (ax bl_); have vF := sV; have jo := nl_ dw hg; have jZ := ng_ dw hg; have jq := nl_ dB hg; have j5 := ng_ dB hg; have fo := nl_ bN hg; have j6 := ng_ bN hg; have jr := nl_ dR hg; have kg := ng_ dR hg; have kU := aa.mk ((by rw [hg]; exact Nat.ne_of_lt (aD.lt (show aD w _ bI kG zn zo from si_)) : bI ≠ aQ)); have kV := aa.mk ((by rw [hg]; exact Nat.ne_of_gt (aD.lt (show aD w _ bI kG zn zo from si_)) : aQ ≠ bI)); replace dS := aa.mk (Kd.dF (Kd.gT (pN_ dS.out) aQ (Nat.le_of_eq hg.symm)) hb); replace ek := aa.mk (Kd.dF (Kd.gT (pN_ ek.out) aQ (Nat.le_of_eq hg.symm)) hb); replace eB := aa.mk (Kd.dF (Kd.gT (pN_ eB.out) aQ (Nat.le_of_eq hg.symm)) hb); replace fQ := aa.mk (Kd.dF (Kd.gT (pN_ fQ.out) aQ (Nat.le_of_eq hg.symm)) hb); replace iJ := aa.mk (Kd.dF (Kd.gT (pN_ iJ.out) aQ (Nat.le_of_eq hg.symm)) hb); replace gI := aa.mk (aD.below si_ hb); replace dw := kb_ dw hb; replace dB := kb_ dB hb; replace bN := kb_ bN hb; replace dR := kb_ dR hb; replace HB := aa.mk (ai bl_ hb); clear hb aK hg; refine hK.out _ _ ⟨(ag bN.out 0).trans rfl, (ag bN.out 1).trans rfl, (ag bN.out 2).trans rfl, (ag bN.out 3).trans rfl, (ag bN.out 4).trans rfl⟩ (fun hHeld => ?_)
         clear hK K; refine ic (a' := ?_) ?_ ?_
         rotate_left
         ·show Act.put _ (some 8) _ = _
          simp only [Act.put, List.setIfInBounds_toArray, List.set_cons_zero, List.set_cons_succ, eT, fA]; rfl
         exact ic (by first | (simp only [jH, Act.put, List.setIfInBounds_toArray, List.set_cons_zero, List.set_cons_succ]; done) | (simp only [jH, Act.put, List.setIfInBounds_toArray, List.set_cons_zero, List.set_cons_succ]; rfl)) (TF (.slice Ao62 ku.length co62, aQ) _ ⟨hHeld, (by (with_reducible repeat (first | apply Kd.dL | apply Kd.dM | apply Kd.dO)); exact Kd.aM dS.out (fun _ hk => ⟨hk.1.1, ⟨hk.1.2.1, ⟨hk.1.2.2.1, ⟨hk.1.2.2.2.1, ⟨hk.1.2.2.2.2.1, ⟨hk.1.2.2.2.2.2.1, ⟨hk.1.2.2.2.2.2.2.1, ⟨hk.1.2.2.2.2.2.2.2.1, ⟨hk.1.2.2.2.2.2.2.2.2, hk.2⟩⟩⟩⟩⟩⟩⟩⟩⟩)), (by (with_reducible repeat (first | apply Kd.dL | apply Kd.dM | apply Kd.dO)); exact Kd.aM ek.out (fun _ hk => ⟨hk.1.1, ⟨hk.1.2.1, ⟨hk.1.2.2.1, ⟨hk.1.2.2.2.1, ⟨hk.1.2.2.2.2.1, ⟨hk.1.2.2.2.2.2.1, ⟨hk.1.2.2.2.2.2.2.1, ⟨hk.1.2.2.2.2.2.2.2.1, ⟨hk.1.2.2.2.2.2.2.2.2, hk.2⟩⟩⟩⟩⟩⟩⟩⟩⟩)), (by (with_reducible repeat (first | apply Kd.dL | apply Kd.dM | apply Kd.dO)); exact Kd.aM eB.out (fun _ hk => ⟨hk.1.1, ⟨hk.1.2.1, ⟨hk.1.2.2.1, ⟨hk.1.2.2.2.1, ⟨hk.1.2.2.2.2.1, ⟨hk.1.2.2.2.2.2.1, ⟨hk.1.2.2.2.2.2.2.1, ⟨hk.1.2.2.2.2.2.2.2.1, ⟨hk.1.2.2.2.2.2.2.2.2, hk.2⟩⟩⟩⟩⟩⟩⟩⟩⟩)), (by (with_reducible repeat (first | apply Kd.dL | apply Kd.dM | apply Kd.dO)); exact Kd.aM fQ.out (fun _ hk => ⟨hk.1.1, ⟨hk.1.2.1, ⟨hk.1.2.2.1, ⟨hk.1.2.2.2.1, ⟨hk.1.2.2.2.2.1, ⟨hk.1.2.2.2.2.2, hk.2⟩⟩⟩⟩⟩⟩)), (by (with_reducible repeat (first | apply Kd.dL | apply Kd.dM | apply Kd.dO)); exact Kd.aM iJ.out (fun _ hk => ⟨hk.1.1, ⟨hk.1.2.1, ⟨hk.1.2.2.1, ⟨hk.1.2.2.2.1, ⟨hk.1.2.2.2.2.1, ⟨hk.1.2.2.2.2.2.1, ⟨hk.1.2.2.2.2.2.2.1, ⟨hk.1.2.2.2.2.2.2.2, hk.2⟩⟩⟩⟩⟩⟩⟩⟩)), bk_, bk_, bk_, bk_, bk_, sV.out, vF.out, kU.out, kV.out, jo.out, jZ.out, jq.out, j5.out, fo.out, j6.out, jr.out, kg.out, si_, bl_⟩)
       rintro ⟨lQ, aQ⟩ w62 ⟨hS_, h0_, h1_, h2_, h3_, h4_, h5_, h6_, h7_, h8_, h9_, zt, Jm, Jn, Jo, Jp, Jq, Jr, Js, Jt, Ju, Jv, Jw, Jy, h23_⟩
       have iJ : aa (Kd.N k24 24 w62 w.heap.size (fun k_ => some k_ ≠ (.slice dK cu.length dI : Value).ownBlock ∧ some k_ ≠ (.slice dU cB.length dV : Value).ownBlock ∧ some k_ ≠ (.slice dC cZ.length dD : Value).ownBlock ∧ k_ ≠ bI ∧ k_ ≠ bD ∧ k_ ≠ bE ∧ k_ ≠ aN ∧ k_ ≠ aW ∧ k_ ≠ aQ) lQ ku) := ⟨h4_⟩; have fq : aa (w62.heap[aQ]? = some (.cells #[.int .i64 0, .int .i64 0, .int .i64 0, .int .i64 0, .slice none 0 0] 24 (0, 0))) := ⟨h9_⟩; have sV : aa (w.heap.size ≤ aQ) := ⟨zt⟩; have vF : aa (w.heap.size ≤ aQ) := ⟨Jm⟩; have kU : aa (bI ≠ aQ) := ⟨Jn⟩; have kV : aa (aQ ≠ bI) := ⟨Jo⟩; have jo : aa (bD ≠ aQ) := ⟨Jp⟩; have jZ : aa (aQ ≠ bD) := ⟨Jq⟩; have jq : aa (bE ≠ aQ) := ⟨Jr⟩; have j5 : aa (aQ ≠ bE) := ⟨Js⟩; have fo : aa (aN ≠ aQ) := ⟨Jt⟩; have j6 : aa (aQ ≠ aN) := ⟨Ju⟩; have jr : aa (aW ≠ aQ) := ⟨Jv⟩; have kg : aa (aQ ≠ aW) := ⟨Jw⟩; replace dS : aa (Kd.N k24 24 w62 w.heap.size (fun k_ => some k_ ≠ (.slice dU cB.length dV : Value).ownBlock ∧ some k_ ≠ (.slice eU dn.length eX : Value).ownBlock ∧ some k_ ≠ (.slice dC cZ.length dD : Value).ownBlock ∧ some k_ ≠ (lQ : Value).ownBlock ∧ k_ ≠ bI ∧ k_ ≠ bD ∧ k_ ≠ bE ∧ k_ ≠ aN ∧ k_ ≠ aW ∧ k_ ≠ aQ) (.slice dK cu.length dI) cu) := ⟨h0_⟩; replace ek : aa (Kd.N k24 24 w62 w.heap.size (fun k_ => some k_ ≠ (.slice dK cu.length dI : Value).ownBlock ∧ some k_ ≠ (.slice eU dn.length eX : Value).ownBlock ∧ some k_ ≠ (.slice dC cZ.length dD : Value).ownBlock ∧ some k_ ≠ (lQ : Value).ownBlock ∧ k_ ≠ bI ∧ k_ ≠ bD ∧ k_ ≠ bE ∧ k_ ≠ aN ∧ k_ ≠ aW ∧ k_ ≠ aQ) (.slice dU cB.length dV) cB) := ⟨h1_⟩; replace eB : aa (Kd.N k24 24 w62 w.heap.size (fun k_ => some k_ ≠ (.slice dK cu.length dI : Value).ownBlock ∧ some k_ ≠ (.slice dU cB.length dV : Value).ownBlock ∧ some k_ ≠ (.slice dC cZ.length dD : Value).ownBlock ∧ some k_ ≠ (lQ : Value).ownBlock ∧ k_ ≠ bI ∧ k_ ≠ bD ∧ k_ ≠ bE ∧ k_ ≠ aN ∧ k_ ≠ aW ∧ k_ ≠ aQ) (.slice eU dn.length eX) dn) := ⟨h2_⟩; replace fQ : aa (Kd.N k24 24 w62 w.heap.size (fun k_ => some k_ ≠ (lQ : Value).ownBlock ∧ k_ ≠ bI ∧ k_ ≠ bD ∧ k_ ≠ bE ∧ k_ ≠ aN ∧ k_ ≠ aW ∧ k_ ≠ aQ) (.slice dC cZ.length dD) cZ) := ⟨h3_⟩; replace dw : aa (w62.heap[bD]? = some (.cells #[.int .i64 iT, .int .i64 iU, .int .i64 iV, .int .i64 iW, .slice dK cu.length dI] 24 (0, 0))) := ⟨h5_⟩; replace dB : aa (w62.heap[bE]? = some (.cells #[.int .i64 iX, .int .i64 iY, .int .i64 iZ, .int .i64 ja, .slice dU cB.length dV] 24 (0, 0))) := ⟨h6_⟩; replace bN : aa (w62.heap[aN]? = some (.cells #[.int .i64 gU, .int .i64 gV, .int .i64 gW, .int .i64 gX, .slice eU dn.length eX] 24 (0, 0))) := ⟨h7_⟩
       replace dR : aa (w62.heap[aW]? = some (.cells #[.int .i64 5, .int .i64 0, .int .i64 0, .int .i64 0, .slice dC cZ.length dD] 24 (0, 0))) := ⟨h8_⟩; replace gI : aa (aD w w62 bI kG zn zo) := ⟨Jy⟩; replace HB : aa (Below w.heap.size w w62) := ⟨h23_⟩; clear h0_ h1_ h2_ h3_ h4_ h5_ h6_ h7_ h8_ h9_ zt Jm Jn Jo Jp Jq Jr Js Jt Ju Jv Jw Jy h23_; have hHeld : w62.cell? ⟨aN, 0, none⟩ = some (.int .i64 gU) ∧ w62.cell? ⟨aN, 1, none⟩ = some (.int .i64 gV) ∧ w62.cell? ⟨aN, 2, none⟩ = some (.int .i64 gW) ∧ w62.cell? ⟨aN, 3, none⟩ = some (.int .i64 gX) ∧ w62.cell? ⟨aN, 4, none⟩ = some (.slice eU dn.length eX) := hS_; obtain ⟨rq, ru, eo63⟩ := Kd.jS iJ.out; (first | subst eo63 | (injection eo63 with f1_ f2_ f3_; have f4_ := f1_.symm; have f5_ := f3_.symm; clear f1_ f2_ f3_; subst f4_; subst f5_))
       refine ic (a' := ?_) ?_ ?_
       rotate_left
       ·simp only [jH, Act.put, List.setIfInBounds_toArray, List.set_cons_zero, List.set_cons_succ]; rfl
       refine l7 (i := 6) (N := none) #[true, true, true, true, true, true, true] rfl rfl (by kernel_rfl) (by decide) (fun K hK => ?_)
       have hs64 : w62.cell? ⟨aQ, 0, none⟩ = some (.int .i64 0) := (ag fq.out 0).trans rfl; have hfs64 := gm fq.out 0; have hns64_0 := jo.out; have hns64_1 := jq.out; have hns64_2 := fo.out; have hns64_3 := jr.out; have hms64_0 := jZ.out; have hms64_1 := j5.out; have hms64_2 := j6.out; have hms64_3 := kg.out; have hs65 : w62.cell? ⟨aQ, 1, none⟩ = some (.int .i64 0) := (ag fq.out 1).trans rfl; have hfs65 := gm fq.out 1; have hns65_0 := jo.out; have hns65_1 := jq.out; have hns65_2 := fo.out; have hns65_3 := jr.out; have hms65_0 := jZ.out; have hms65_1 := j5.out; have hms65_2 := j6.out; have hms65_3 := kg.out; have hs66 : w62.cell? ⟨aQ, 2, none⟩ = some (.int .i64 0) := (ag fq.out 2).trans rfl; have hfs66 := gm fq.out 2; have hns66_0 := jo.out; have hns66_1 := jq.out; have hns66_2 := fo.out; have hns66_3 := jr.out; have hms66_0 := jZ.out; have hms66_1 := j5.out; have hms66_2 := j6.out; have hms66_3 := kg.out; have hs67 : w62.cell? ⟨aQ, 3, none⟩ = some (.int .i64 0) := (ag fq.out 3).trans rfl; have hfs67 := gm fq.out 3; have hns67_0 := jo.out; have hns67_1 := jq.out; have hns67_2 := fo.out; have hns67_3 := jr.out; have hms67_0 := jZ.out; have hms67_1 := j5.out; have hms67_2 := j6.out; have hms67_3 := kg.out; have hs68 : w62.cell? ⟨aQ, 4, none⟩ = some (.slice none 0 0) := (ag fq.out 4).trans rfl; have hfs68 := gm fq.out 4; have hns68_0 := jo.out; have hns68_1 := jq.out; have hns68_2 := fo.out; have hns68_3 := jr.out; have hms68_0 := jZ.out; have hms68_1 := j5.out; have hms68_2 := j6.out; have hms68_3 := kg.out; refine MZ (w1 := ?_) (by rfl) rfl ?_ ?_
       rotate_left
       ·go_simp; rfl
       refine hK.out _ _ ⟨((cell_far (p := ⟨aQ, _, none⟩) fo.out _).trans (((cell_far (p := ⟨aQ, _, none⟩) fo.out _).trans (((cell_far (p := ⟨aQ, _, none⟩) fo.out _).trans (((cell_far (p := ⟨aQ, _, none⟩) fo.out _).trans (((cell_far (p := ⟨aQ, _, none⟩) fo.out _).trans (hHeld.1)))))))))), ((cell_far (p := ⟨aQ, _, none⟩) fo.out _).trans (((cell_far (p := ⟨aQ, _, none⟩) fo.out _).trans (((cell_far (p := ⟨aQ, _, none⟩) fo.out _).trans (((cell_far (p := ⟨aQ, _, none⟩) fo.out _).trans (((cell_far (p := ⟨aQ, _, none⟩) fo.out _).trans (hHeld.2.1)))))))))), ((cell_far (p := ⟨aQ, _, none⟩) fo.out _).trans (((cell_far (p := ⟨aQ, _, none⟩) fo.out _).trans (((cell_far (p := ⟨aQ, _, none⟩) fo.out _).trans (((cell_far (p := ⟨aQ, _, none⟩) fo.out _).trans (((cell_far (p := ⟨aQ, _, none⟩) fo.out _).trans (hHeld.2.2.1)))))))))), ((cell_far (p := ⟨aQ, _, none⟩) fo.out _).trans (((cell_far (p := ⟨aQ, _, none⟩) fo.out _).trans (((cell_far (p := ⟨aQ, _, none⟩) fo.out _).trans (((cell_far (p := ⟨aQ, _, none⟩) fo.out _).trans (((cell_far (p := ⟨aQ, _, none⟩) fo.out _).trans (hHeld.2.2.2.1)))))))))), ((cell_far (p := ⟨aQ, _, none⟩) fo.out _).trans (((cell_far (p := ⟨aQ, _, none⟩) fo.out _).trans (((cell_far (p := ⟨aQ, _, none⟩) fo.out _).trans (((cell_far (p := ⟨aQ, _, none⟩) fo.out _).trans (((cell_far (p := ⟨aQ, _, none⟩) fo.out _).trans (hHeld.2.2.2.2))))))))))⟩ (fun hHeld => ?_)
       clear hK K; refine vJ (by kernel_rfl) ?_
       try go_wp2
       have n0_ : aa (Kd.N k24 24 (((((w62.setCell ⟨aQ, 0, none⟩ (.int .i64 6)).setCell ⟨aQ, 1, none⟩ (.int .i64 0)).setCell ⟨aQ, 2, none⟩ (.int .i64 0)).setCell ⟨aQ, 3, none⟩ (.int .i64 lN)).setCell ⟨aQ, 4, none⟩ (.slice rq ku.length ru)) w.heap.size (fun k_ => some k_ ≠ (.slice dU cB.length dV : Value).ownBlock ∧ some k_ ≠ (.slice eU dn.length eX : Value).ownBlock ∧ some k_ ≠ (.slice dC cZ.length dD : Value).ownBlock ∧ some k_ ≠ (.slice rq ku.length ru : Value).ownBlock ∧ k_ ≠ bI ∧ k_ ≠ bD ∧ k_ ≠ bE ∧ k_ ≠ aN ∧ k_ ≠ aW ∧ k_ ≠ aQ) (.slice dK cu.length dI) cu) := ⟨by (with_reducible repeat (first | apply Kd.dL | apply Kd.dM | apply Kd.dO)); exact Kd.aM (Kd.bH (p := ⟨aQ, 4, none⟩) (Kd.bH (p := ⟨aQ, 3, none⟩) (Kd.bH (p := ⟨aQ, 2, none⟩) (Kd.bH (p := ⟨aQ, 1, none⟩) (Kd.bH (p := ⟨aQ, 0, none⟩) (Kd.aM dS.out (fun k_ hk => (⟨hk, by first | exact hk.2.2.2.2.2.2.2.2.2 | exact hk.1 | exact hk.2 | exact hk.1.1 | exact hk.1.2⟩ : _ ∧ k_ ≠ aQ))) (fun _ hk => hk.2) (.int .i64 6)) (fun _ hk => hk.2) (.int .i64 0)) (fun _ hk => hk.2) (.int .i64 0)) (fun _ hk => hk.2) (.int .i64 lN)) (fun _ hk => hk.2) (.slice rq ku.length ru)) (fun _ hk => ⟨hk.1.1, ⟨hk.1.2.1, ⟨hk.1.2.2.1, ⟨hk.1.2.2.2.1, ⟨hk.1.2.2.2.2.1, ⟨hk.1.2.2.2.2.2.1, ⟨hk.1.2.2.2.2.2.2.1, ⟨hk.1.2.2.2.2.2.2.2.1, ⟨hk.1.2.2.2.2.2.2.2.2.1, hk.1.2.2.2.2.2.2.2.2.2⟩⟩⟩⟩⟩⟩⟩⟩⟩)⟩; have n1_ : aa (Kd.N k24 24 (((((w62.setCell ⟨aQ, 0, none⟩ (.int .i64 6)).setCell ⟨aQ, 1, none⟩ (.int .i64 0)).setCell ⟨aQ, 2, none⟩ (.int .i64 0)).setCell ⟨aQ, 3, none⟩ (.int .i64 lN)).setCell ⟨aQ, 4, none⟩ (.slice rq ku.length ru)) w.heap.size (fun k_ => some k_ ≠ (.slice dK cu.length dI : Value).ownBlock ∧ some k_ ≠ (.slice eU dn.length eX : Value).ownBlock ∧ some k_ ≠ (.slice dC cZ.length dD : Value).ownBlock ∧ some k_ ≠ (.slice rq ku.length ru : Value).ownBlock ∧ k_ ≠ bI ∧ k_ ≠ bD ∧ k_ ≠ bE ∧ k_ ≠ aN ∧ k_ ≠ aW ∧ k_ ≠ aQ) (.slice dU cB.length dV) cB) := ⟨by (with_reducible repeat (first | apply Kd.dL | apply Kd.dM | apply Kd.dO)); exact Kd.aM (Kd.bH (p := ⟨aQ, 4, none⟩) (Kd.bH (p := ⟨aQ, 3, none⟩) (Kd.bH (p := ⟨aQ, 2, none⟩) (Kd.bH (p := ⟨aQ, 1, none⟩) (Kd.bH (p := ⟨aQ, 0, none⟩) (Kd.aM ek.out (fun k_ hk => (⟨hk, by first | exact hk.2.2.2.2.2.2.2.2.2 | exact hk.1 | exact hk.2 | exact hk.1.1 | exact hk.1.2⟩ : _ ∧ k_ ≠ aQ))) (fun _ hk => hk.2) (.int .i64 6)) (fun _ hk => hk.2) (.int .i64 0)) (fun _ hk => hk.2) (.int .i64 0)) (fun _ hk => hk.2) (.int .i64 lN)) (fun _ hk => hk.2) (.slice rq ku.length ru)) (fun _ hk => ⟨hk.1.1, ⟨hk.1.2.1, ⟨hk.1.2.2.1, ⟨hk.1.2.2.2.1, ⟨hk.1.2.2.2.2.1, ⟨hk.1.2.2.2.2.2.1, ⟨hk.1.2.2.2.2.2.2.1, ⟨hk.1.2.2.2.2.2.2.2.1, ⟨hk.1.2.2.2.2.2.2.2.2.1, hk.1.2.2.2.2.2.2.2.2.2⟩⟩⟩⟩⟩⟩⟩⟩⟩)⟩; have n2_ : aa (Kd.N k24 24 (((((w62.setCell ⟨aQ, 0, none⟩ (.int .i64 6)).setCell ⟨aQ, 1, none⟩ (.int .i64 0)).setCell ⟨aQ, 2, none⟩ (.int .i64 0)).setCell ⟨aQ, 3, none⟩ (.int .i64 lN)).setCell ⟨aQ, 4, none⟩ (.slice rq ku.length ru)) w.heap.size (fun k_ => some k_ ≠ (.slice dK cu.length dI : Value).ownBlock ∧ some k_ ≠ (.slice dU cB.length dV : Value).ownBlock ∧ some k_ ≠ (.slice dC cZ.length dD : Value).ownBlock ∧ some k_ ≠ (.slice rq ku.length ru : Value).ownBlock ∧ k_ ≠ bI ∧ k_ ≠ bD ∧ k_ ≠ bE ∧ k_ ≠ aN ∧ k_ ≠ aW ∧ k_ ≠ aQ) (.slice eU dn.length eX) dn) := ⟨by (with_reducible repeat (first | apply Kd.dL | apply Kd.dM | apply Kd.dO)); exact Kd.aM (Kd.bH (p := ⟨aQ, 4, none⟩) (Kd.bH (p := ⟨aQ, 3, none⟩) (Kd.bH (p := ⟨aQ, 2, none⟩) (Kd.bH (p := ⟨aQ, 1, none⟩) (Kd.bH (p := ⟨aQ, 0, none⟩) (Kd.aM eB.out (fun k_ hk => (⟨hk, by first | exact hk.2.2.2.2.2.2.2.2.2 | exact hk.1 | exact hk.2 | exact hk.1.1 | exact hk.1.2⟩ : _ ∧ k_ ≠ aQ))) (fun _ hk => hk.2) (.int .i64 6)) (fun _ hk => hk.2) (.int .i64 0)) (fun _ hk => hk.2) (.int .i64 0)) (fun _ hk => hk.2) (.int .i64 lN)) (fun _ hk => hk.2) (.slice rq ku.length ru)) (fun _ hk => ⟨hk.1.1, ⟨hk.1.2.1, ⟨hk.1.2.2.1, ⟨hk.1.2.2.2.1, ⟨hk.1.2.2.2.2.1, ⟨hk.1.2.2.2.2.2.1, ⟨hk.1.2.2.2.2.2.2.1, ⟨hk.1.2.2.2.2.2.2.2.1, ⟨hk.1.2.2.2.2.2.2.2.2.1, hk.1.2.2.2.2.2.2.2.2.2⟩⟩⟩⟩⟩⟩⟩⟩⟩)⟩
       have n3_ : aa (Kd.N k24 24 (((((w62.setCell ⟨aQ, 0, none⟩ (.int .i64 6)).setCell ⟨aQ, 1, none⟩ (.int .i64 0)).setCell ⟨aQ, 2, none⟩ (.int .i64 0)).setCell ⟨aQ, 3, none⟩ (.int .i64 lN)).setCell ⟨aQ, 4, none⟩ (.slice rq ku.length ru)) w.heap.size (fun k_ => some k_ ≠ (.slice rq ku.length ru : Value).ownBlock ∧ k_ ≠ bI ∧ k_ ≠ bD ∧ k_ ≠ bE ∧ k_ ≠ aN ∧ k_ ≠ aW ∧ k_ ≠ aQ) (.slice dC cZ.length dD) cZ) := ⟨by (with_reducible repeat (first | apply Kd.dL | apply Kd.dM | apply Kd.dO)); exact Kd.aM (Kd.bH (p := ⟨aQ, 4, none⟩) (Kd.bH (p := ⟨aQ, 3, none⟩) (Kd.bH (p := ⟨aQ, 2, none⟩) (Kd.bH (p := ⟨aQ, 1, none⟩) (Kd.bH (p := ⟨aQ, 0, none⟩) (Kd.aM fQ.out (fun k_ hk => (⟨hk, by first | exact hk.2.2.2.2.2.2 | exact hk.1 | exact hk.2 | exact hk.1.1 | exact hk.1.2⟩ : _ ∧ k_ ≠ aQ))) (fun _ hk => hk.2) (.int .i64 6)) (fun _ hk => hk.2) (.int .i64 0)) (fun _ hk => hk.2) (.int .i64 0)) (fun _ hk => hk.2) (.int .i64 lN)) (fun _ hk => hk.2) (.slice rq ku.length ru)) (fun _ hk => ⟨hk.1.1, ⟨hk.1.2.1, ⟨hk.1.2.2.1, ⟨hk.1.2.2.2.1, ⟨hk.1.2.2.2.2.1, ⟨hk.1.2.2.2.2.2.1, hk.1.2.2.2.2.2.2⟩⟩⟩⟩⟩⟩)⟩; have n4_ : aa (Kd.N k24 24 (((((w62.setCell ⟨aQ, 0, none⟩ (.int .i64 6)).setCell ⟨aQ, 1, none⟩ (.int .i64 0)).setCell ⟨aQ, 2, none⟩ (.int .i64 0)).setCell ⟨aQ, 3, none⟩ (.int .i64 lN)).setCell ⟨aQ, 4, none⟩ (.slice rq ku.length ru)) w.heap.size (fun k_ => some k_ ≠ (.slice dK cu.length dI : Value).ownBlock ∧ some k_ ≠ (.slice dU cB.length dV : Value).ownBlock ∧ some k_ ≠ (.slice dC cZ.length dD : Value).ownBlock ∧ k_ ≠ bI ∧ k_ ≠ bD ∧ k_ ≠ bE ∧ k_ ≠ aN ∧ k_ ≠ aW ∧ k_ ≠ aQ) (.slice rq ku.length ru) ku) := ⟨by (with_reducible repeat (first | apply Kd.dL | apply Kd.dM | apply Kd.dO)); exact Kd.aM (Kd.bH (p := ⟨aQ, 4, none⟩) (Kd.bH (p := ⟨aQ, 3, none⟩) (Kd.bH (p := ⟨aQ, 2, none⟩) (Kd.bH (p := ⟨aQ, 1, none⟩) (Kd.bH (p := ⟨aQ, 0, none⟩) (Kd.aM iJ.out (fun k_ hk => (⟨hk, by first | exact hk.2.2.2.2.2.2.2.2 | exact hk.1 | exact hk.2 | exact hk.1.1 | exact hk.1.2⟩ : _ ∧ k_ ≠ aQ))) (fun _ hk => hk.2) (.int .i64 6)) (fun _ hk => hk.2) (.int .i64 0)) (fun _ hk => hk.2) (.int .i64 0)) (fun _ hk => hk.2) (.int .i64 lN)) (fun _ hk => hk.2) (.slice rq ku.length ru)) (fun _ hk => ⟨hk.1.1, ⟨hk.1.2.1, ⟨hk.1.2.2.1, ⟨hk.1.2.2.2.1, ⟨hk.1.2.2.2.2.1, ⟨hk.1.2.2.2.2.2.1, ⟨hk.1.2.2.2.2.2.2.1, ⟨hk.1.2.2.2.2.2.2.2.1, hk.1.2.2.2.2.2.2.2.2⟩⟩⟩⟩⟩⟩⟩⟩)⟩; have n5_ : aa ((((((w62.setCell ⟨aQ, 0, none⟩ (.int .i64 6)).setCell ⟨aQ, 1, none⟩ (.int .i64 0)).setCell ⟨aQ, 2, none⟩ (.int .i64 0)).setCell ⟨aQ, 3, none⟩ (.int .i64 lN)).setCell ⟨aQ, 4, none⟩ (.slice rq ku.length ru)).heap[bD]? = some (.cells #[.int .i64 iT, .int .i64 iU, .int .i64 iV, .int .i64 iW, .slice dK cu.length dI] 24 (0, 0))) := ⟨by (with_reducible repeat (first | refine bL ?_ _ | refine bC ?_ | refine bF ?_ _)); refine gp ?_ jo.out _; (with_reducible repeat (first | refine bL ?_ _ | refine bC ?_ | refine bF ?_ _)); refine gp ?_ jo.out _; (with_reducible repeat (first | refine bL ?_ _ | refine bC ?_ | refine bF ?_ _)); refine gp ?_ jo.out _; (with_reducible repeat (first | refine bL ?_ _ | refine bC ?_ | refine bF ?_ _)); refine gp ?_ jo.out _; (with_reducible repeat (first | refine bL ?_ _ | refine bC ?_ | refine bF ?_ _)); refine gp ?_ jo.out _; (with_reducible repeat (first | refine bL ?_ _ | refine bC ?_ | refine bF ?_ _)); exact dw.out⟩
       have n6_ : aa ((((((w62.setCell ⟨aQ, 0, none⟩ (.int .i64 6)).setCell ⟨aQ, 1, none⟩ (.int .i64 0)).setCell ⟨aQ, 2, none⟩ (.int .i64 0)).setCell ⟨aQ, 3, none⟩ (.int .i64 lN)).setCell ⟨aQ, 4, none⟩ (.slice rq ku.length ru)).heap[bE]? = some (.cells #[.int .i64 iX, .int .i64 iY, .int .i64 iZ, .int .i64 ja, .slice dU cB.length dV] 24 (0, 0))) := ⟨by (with_reducible repeat (first | refine bL ?_ _ | refine bC ?_ | refine bF ?_ _)); refine gp ?_ jq.out _; (with_reducible repeat (first | refine bL ?_ _ | refine bC ?_ | refine bF ?_ _)); refine gp ?_ jq.out _; (with_reducible repeat (first | refine bL ?_ _ | refine bC ?_ | refine bF ?_ _)); refine gp ?_ jq.out _; (with_reducible repeat (first | refine bL ?_ _ | refine bC ?_ | refine bF ?_ _)); refine gp ?_ jq.out _; (with_reducible repeat (first | refine bL ?_ _ | refine bC ?_ | refine bF ?_ _)); refine gp ?_ jq.out _; (with_reducible repeat (first | refine bL ?_ _ | refine bC ?_ | refine bF ?_ _)); exact dB.out⟩; have n7_ : aa ((((((w62.setCell ⟨aQ, 0, none⟩ (.int .i64 6)).setCell ⟨aQ, 1, none⟩ (.int .i64 0)).setCell ⟨aQ, 2, none⟩ (.int .i64 0)).setCell ⟨aQ, 3, none⟩ (.int .i64 lN)).setCell ⟨aQ, 4, none⟩ (.slice rq ku.length ru)).heap[aN]? = some (.cells #[.int .i64 gU, .int .i64 gV, .int .i64 gW, .int .i64 gX, .slice eU dn.length eX] 24 (0, 0))) := ⟨by (with_reducible repeat (first | refine bL ?_ _ | refine bC ?_ | refine bF ?_ _)); refine gp ?_ fo.out _; (with_reducible repeat (first | refine bL ?_ _ | refine bC ?_ | refine bF ?_ _)); refine gp ?_ fo.out _; (with_reducible repeat (first | refine bL ?_ _ | refine bC ?_ | refine bF ?_ _)); refine gp ?_ fo.out _; (with_reducible repeat (first | refine bL ?_ _ | refine bC ?_ | refine bF ?_ _)); refine gp ?_ fo.out _; (with_reducible repeat (first | refine bL ?_ _ | refine bC ?_ | refine bF ?_ _)); refine gp ?_ fo.out _; (with_reducible repeat (first | refine bL ?_ _ | refine bC ?_ | refine bF ?_ _)); exact bN.out⟩; have n8_ : aa ((((((w62.setCell ⟨aQ, 0, none⟩ (.int .i64 6)).setCell ⟨aQ, 1, none⟩ (.int .i64 0)).setCell ⟨aQ, 2, none⟩ (.int .i64 0)).setCell ⟨aQ, 3, none⟩ (.int .i64 lN)).setCell ⟨aQ, 4, none⟩ (.slice rq ku.length ru)).heap[aW]? = some (.cells #[.int .i64 5, .int .i64 0, .int .i64 0, .int .i64 0, .slice dC cZ.length dD] 24 (0, 0))) := ⟨by (with_reducible repeat (first | refine bL ?_ _ | refine bC ?_ | refine bF ?_ _)); refine gp ?_ jr.out _; (with_reducible repeat (first | refine bL ?_ _ | refine bC ?_ | refine bF ?_ _)); refine gp ?_ jr.out _; (with_reducible repeat (first | refine bL ?_ _ | refine bC ?_ | refine bF ?_ _)); refine gp ?_ jr.out _; (with_reducible repeat (first | refine bL ?_ _ | refine bC ?_ | refine bF ?_ _)); refine gp ?_ jr.out _; (with_reducible repeat (first | refine bL ?_ _ | refine bC ?_ | refine bF ?_ _)); refine gp ?_ jr.out _; (with_reducible repeat (first | refine bL ?_ _ | refine bC ?_ | refine bF ?_ _)); exact dR.out⟩
       have n9_ : aa ((((((w62.setCell ⟨aQ, 0, none⟩ (.int .i64 6)).setCell ⟨aQ, 1, none⟩ (.int .i64 0)).setCell ⟨aQ, 2, none⟩ (.int .i64 0)).setCell ⟨aQ, 3, none⟩ (.int .i64 lN)).setCell ⟨aQ, 4, none⟩ (.slice rq ku.length ru)).heap[aQ]? = some (.cells #[.int .i64 6, .int .i64 0, .int .i64 0, .int .i64 lN, .slice rq ku.length ru] 24 (0, 0))) := ⟨by (with_reducible repeat (first | refine bL ?_ _ | refine bC ?_ | refine bF ?_ _)); refine iP (cs := #[.int .i64 6, .int .i64 0, .int .i64 0, .int .i64 lN, .slice none 0 0]) ?_ 4 _ rfl; (with_reducible repeat (first | refine bL ?_ _ | refine bC ?_ | refine bF ?_ _)); refine iP (cs := #[.int .i64 6, .int .i64 0, .int .i64 0, .int .i64 0, .slice none 0 0]) ?_ 3 _ rfl; (with_reducible repeat (first | refine bL ?_ _ | refine bC ?_ | refine bF ?_ _)); refine iP (cs := #[.int .i64 6, .int .i64 0, .int .i64 0, .int .i64 0, .slice none 0 0]) ?_ 2 _ rfl; (with_reducible repeat (first | refine bL ?_ _ | refine bC ?_ | refine bF ?_ _)); refine iP (cs := #[.int .i64 6, .int .i64 0, .int .i64 0, .int .i64 0, .slice none 0 0]) ?_ 1 _ rfl; (with_reducible repeat (first | refine bL ?_ _ | refine bC ?_ | refine bF ?_ _)); refine iP (cs := #[.int .i64 0, .int .i64 0, .int .i64 0, .int .i64 0, .slice none 0 0]) ?_ 0 _ rfl; (with_reducible repeat (first | refine bL ?_ _ | refine bC ?_ | refine bF ?_ _)); exact fq.out⟩; have n10_ : aa (aD w (((((w62.setCell ⟨aQ, 0, none⟩ (.int .i64 6)).setCell ⟨aQ, 1, none⟩ (.int .i64 0)).setCell ⟨aQ, 2, none⟩ (.int .i64 0)).setCell ⟨aQ, 3, none⟩ (.int .i64 lN)).setCell ⟨aQ, 4, none⟩ (.slice rq ku.length ru)) bI kG zn zo) := ⟨si_⟩; have n11_ : aa (Below w.heap.size w (((((w62.setCell ⟨aQ, 0, none⟩ (.int .i64 6)).setCell ⟨aQ, 1, none⟩ (.int .i64 0)).setCell ⟨aQ, 2, none⟩ (.int .i64 0)).setCell ⟨aQ, 3, none⟩ (.int .i64 lN)).setCell ⟨aQ, 4, none⟩ (.slice rq ku.length ru))) := ⟨bl_⟩; (try clear dS)
       (try clear ek)
       (try clear eB)
       (try clear fQ)
       (try clear iJ)
       (try clear dw)
       (try clear dB)
       (try clear bN)
       (try clear dR)
       (try clear fq)
       (try clear gI)
       (try clear HB)
       generalize (((((w62.setCell ⟨aQ, 0, none⟩ (.int .i64 6)).setCell ⟨aQ, 1, none⟩ (.int .i64 0)).setCell ⟨aQ, 2, none⟩ (.int .i64 0)).setCell ⟨aQ, 3, none⟩ (.int .i64 lN)).setCell ⟨aQ, 4, none⟩ (.slice rq ku.length ru)) = w69 at n0_ n1_ n2_ n3_ n4_ n5_ n6_ n7_ n8_ n9_ n10_ n11_ ⊢
       have dS := n0_; have ek := n1_; have eB := n2_; have fQ := n3_; have iJ := n4_; have dw := n5_; have dB := n6_; have bN := n7_; have dR := n8_; have fq := n9_; have gI := n10_; have HB := n11_; clear n0_ n1_ n2_ n3_ n4_ n5_ n6_ n7_ n8_ n9_ n10_ n11_; replace dS := aa.mk (Kd.dO dS.out); replace ek := aa.mk (Kd.dO ek.out); replace eB := aa.mk (Kd.dO eB.out); replace fQ := aa.mk (Kd.dO fQ.out); replace iJ := aa.mk (Kd.dO iJ.out); replace dw := aa.mk (bC dw.out); replace dB := aa.mk (bC dB.out); replace bN := aa.mk (bC bN.out); replace dR := aa.mk (bC dR.out); replace fq := aa.mk (bC fq.out); replace gI := aa.mk (aD.drew gI.out); replace HB := aa.mk (bQ HB.out); refine sD (n := 31) (S := fun w' => w'.cell? ⟨bD, 0, none⟩ = some (.int .i64 iT) ∧ w'.cell? ⟨bD, 1, none⟩ = some (.int .i64 iU) ∧ w'.cell? ⟨bD, 2, none⟩ = some (.int .i64 iV) ∧ w'.cell? ⟨bD, 3, none⟩ = some (.int .i64 iW) ∧ w'.cell? ⟨bD, 4, none⟩ = some (.slice dK cu.length dI) ∧ w'.cell? ⟨bE, 0, none⟩ = some (.int .i64 iX) ∧ w'.cell? ⟨bE, 1, none⟩ = some (.int .i64 iY) ∧ w'.cell? ⟨bE, 2, none⟩ = some (.int .i64 iZ) ∧ w'.cell? ⟨bE, 3, none⟩ = some (.int .i64 ja) ∧ w'.cell? ⟨bE, 4, none⟩ = some (.slice dU cB.length dV) ∧ w'.cell? ⟨aN, 0, none⟩ = some (.int .i64 gU) ∧ w'.cell? ⟨aN, 1, none⟩ = some (.int .i64 gV) ∧ w'.cell? ⟨aN, 2, none⟩ = some (.int .i64 gW) ∧ w'.cell? ⟨aN, 3, none⟩ = some (.int .i64 gX) ∧ w'.cell? ⟨aN, 4, none⟩ = some (.slice eU dn.length eX) ∧ w'.cell? ⟨aW, 0, none⟩ = some (.int .i64 5) ∧ w'.cell? ⟨aW, 1, none⟩ = some (.int .i64 0) ∧ w'.cell? ⟨aW, 2, none⟩ = some (.int .i64 0) ∧ w'.cell? ⟨aW, 3, none⟩ = some (.int .i64 0) ∧ w'.cell? ⟨aW, 4, none⟩ = some (.slice dC cZ.length dD) ∧ w'.cell? ⟨aQ, 0, none⟩ = some (.int .i64 6) ∧ w'.cell? ⟨aQ, 1, none⟩ = some (.int .i64 0) ∧ w'.cell? ⟨aQ, 2, none⟩ = some (.int .i64 0) ∧ w'.cell? ⟨aQ, 3, none⟩ = some (.int .i64 lN) ∧ w'.cell? ⟨aQ, 4, none⟩ = some (.slice rq ku.length ru)) (ds := []) #[false, false, false, false, false, false, false, false, false, false, false, false, false, false, false, false, false, false, false, false, false, false, false, false, false, false, false, false, false, false, false] (by kernel_rfl) rfl rfl ⟨(ag dw.out 0).trans rfl, (ag dw.out 1).trans rfl, (ag dw.out 2).trans rfl, (ag dw.out 3).trans rfl, (ag dw.out 4).trans rfl, (ag dB.out 0).trans rfl, (ag dB.out 1).trans rfl, (ag dB.out 2).trans rfl, (ag dB.out 3).trans rfl, (ag dB.out 4).trans rfl, (ag bN.out 0).trans rfl, (ag bN.out 1).trans rfl, (ag bN.out 2).trans rfl, (ag bN.out 3).trans rfl, (ag bN.out 4).trans rfl, (ag dR.out 0).trans rfl, (ag dR.out 1).trans rfl, (ag dR.out 2).trans rfl, (ag dR.out 3).trans rfl, (ag dR.out 4).trans rfl, (ag fq.out 0).trans rfl, (ag fq.out 1).trans rfl, (ag fq.out 2).trans rfl, (ag fq.out 3).trans rfl, (ag fq.out 4).trans rfl⟩ (fun hHeld => ?_); refine l9 dX.tab5 dX.Py (fun HT_ HW_ => ?_)
       generalize w69.drew = w70 at dS ek eB fQ iJ dw dB bN dR fq gI HB hHeld ⊢
       refine ta_ HT_ HW_ 0 27 (bm 31 1) hHeld ?_
       refine l7 (i := 1) (N := some 28) #[true, true, false, false, false, false, false, false, false, false, false, false, false, false, false, false, false, false, false, false, false, false, false, false, false, false, false, false, false, false, false] rfl rfl (jD HT_.out (by kernel_rfl)) (by decide) (fun K hK => ?_)
       refine kY Tryd.func26 (by kernel_rfl) rfl #[.agg #[.int .i64 iT, .int .i64 iU, .int .i64 iV, .int .i64 iW, .slice dK cu.length dI]] (by rfl) rfl rfl mp_ ?_
       with_reducible refine (aJ.calls k iT iU iV iW _ _ cu true _ ?ay ?az A7.out ?tab).mono ?_
       (case tab => exact yL ui.out bl_)
       (case ay => exact cb_ ((Kd.iL dS.out).2.2))
       (case az => exact (Kd.iL dS.out).2.1)
       rintro e w71 ⟨rfl, hb⟩
       refine ⟨_, rfl, ?_⟩
       replace dS := aa.mk (Kd.dF (pN_ dS.out) hb); replace ek := aa.mk (Kd.dF (pN_ ek.out) hb); replace eB := aa.mk (Kd.dF (pN_ eB.out) hb); replace fQ := aa.mk (Kd.dF (pN_ fQ.out) hb); replace iJ := aa.mk (Kd.dF (pN_ iJ.out) hb); replace gI := aa.mk (aD.below si_ hb); replace dw := kb_ dw hb; replace dB := kb_ dB hb; replace bN := kb_ bN hb; replace dR := kb_ dR hb; replace fq := kb_ fq hb; replace HB := aa.mk (ai bl_ hb); (try clear hb)
       (try clear hb2)
       (try clear hk)
       (try clear hi)
       refine hK.out _ _ ⟨(ag dw.out 0).trans rfl, (ag dw.out 1).trans rfl, (ag dw.out 2).trans rfl, (ag dw.out 3).trans rfl, (ag dw.out 4).trans rfl, (ag dB.out 0).trans rfl, (ag dB.out 1).trans rfl, (ag dB.out 2).trans rfl, (ag dB.out 3).trans rfl, (ag dB.out 4).trans rfl, (ag bN.out 0).trans rfl, (ag bN.out 1).trans rfl, (ag bN.out 2).trans rfl, (ag bN.out 3).trans rfl, (ag bN.out 4).trans rfl, (ag dR.out 0).trans rfl, (ag dR.out 1).trans rfl, (ag dR.out 2).trans rfl, (ag dR.out 3).trans rfl, (ag dR.out 4).trans rfl, (ag fq.out 0).trans rfl, (ag fq.out 1).trans rfl, (ag fq.out 2).trans rfl, (ag fq.out 3).trans rfl, (ag fq.out 4).trans rfl⟩ (fun hHeld => ?_)
       clear hK K; refine ic (a' := ?_) ?_ ?_
       rotate_left
       ·show Act.put _ (some 28) _ = _
        simp only [Act.put, List.setIfInBounds_toArray, List.set_cons_zero, List.set_cons_succ, eT, fA]; rfl
       refine pu_ HT_ 2 29 (bm 31 7) ?_
       refine ta_ HT_ HW_ 3 30 (bm 31 15) hHeld ?_
       refine l7 (i := 4) (N := some 31) #[true, true, true, true, true, false, false, false, false, false, false, false, false, false, false, false, false, false, false, false, false, false, false, false, false, false, false, false, false, false, false] rfl rfl (jD HT_.out (by kernel_rfl)) (by decide) (fun K hK => ?_)
       refine kY Tryd.func26 (by kernel_rfl) rfl #[.agg #[.int .i64 iX, .int .i64 iY, .int .i64 iZ, .int .i64 ja, .slice dU cB.length dV]] (by rfl) rfl rfl mp_ ?_
       with_reducible refine (aJ.calls k iX iY iZ ja _ _ cB true _ ?ay ?az A9.out ?tab).mono ?_
       (case tab => exact yL ui.out bl_)
       (case ay => exact cb_ ((Kd.iL ek.out).2.2))
       (case az => exact (Kd.iL ek.out).2.1)
       rintro e w72 ⟨rfl, hb⟩
       refine ⟨_, rfl, ?_⟩
       replace dS := aa.mk (Kd.dF (pN_ dS.out) hb); replace ek := aa.mk (Kd.dF (pN_ ek.out) hb); replace eB := aa.mk (Kd.dF (pN_ eB.out) hb); replace fQ := aa.mk (Kd.dF (pN_ fQ.out) hb); replace iJ := aa.mk (Kd.dF (pN_ iJ.out) hb); replace gI := aa.mk (aD.below si_ hb); replace dw := kb_ dw hb; replace dB := kb_ dB hb; replace bN := kb_ bN hb; replace dR := kb_ dR hb; replace fq := kb_ fq hb; replace HB := aa.mk (ai bl_ hb); (try clear hb)
       (try clear hb2)
       (try clear hk)
       (try clear hi)
       refine hK.out _ _ ⟨(ag dw.out 0).trans rfl, (ag dw.out 1).trans rfl, (ag dw.out 2).trans rfl, (ag dw.out 3).trans rfl, (ag dw.out 4).trans rfl, (ag dB.out 0).trans rfl, (ag dB.out 1).trans rfl, (ag dB.out 2).trans rfl, (ag dB.out 3).trans rfl, (ag dB.out 4).trans rfl, (ag bN.out 0).trans rfl, (ag bN.out 1).trans rfl, (ag bN.out 2).trans rfl, (ag bN.out 3).trans rfl, (ag bN.out 4).trans rfl, (ag dR.out 0).trans rfl, (ag dR.out 1).trans rfl, (ag dR.out 2).trans rfl, (ag dR.out 3).trans rfl, (ag dR.out 4).trans rfl, (ag fq.out 0).trans rfl, (ag fq.out 1).trans rfl, (ag fq.out 2).trans rfl, (ag fq.out 3).trans rfl, (ag fq.out 4).trans rfl⟩ (fun hHeld => ?_)
       clear hK K; refine ic (a' := ?_) ?_ ?_
       rotate_left
       ·show Act.put _ (some 31) _ = _
        simp only [Act.put, List.setIfInBounds_toArray, List.set_cons_zero, List.set_cons_succ, eT, fA]; rfl
       refine pu_ HT_ 5 32 (bm 31 63) ?_
       refine pu_ HT_ 6 33 (bm 31 127) ?_
       refine ta_ HT_ HW_ 7 34 (bm 31 255) hHeld ?_
       refine l7 (i := 8) (N := some 35) #[true, true, true, true, true, true, true, true, true, false, false, false, false, false, false, false, false, false, false, false, false, false, false, false, false, false, false, false, false, false, false] rfl rfl (jD HT_.out (by kernel_rfl)) (by decide) (fun K hK => ?_)
       refine kY Tryd.func26 (by kernel_rfl) rfl #[.agg #[.int .i64 gU, .int .i64 gV, .int .i64 gW, .int .i64 gX, .slice eU dn.length eX]] (by rfl) rfl rfl mp_ ?_
       with_reducible refine (aJ.calls k gU gV gW gX _ _ dn true _ ?ay ?az A11.out ?tab).mono ?_
       (case tab => exact yL ui.out bl_)
       (case ay => exact cb_ ((Kd.iL eB.out).2.2))
       (case az => exact (Kd.iL eB.out).2.1)
       rintro e w73 ⟨rfl, hb⟩
       refine ⟨_, rfl, ?_⟩
       replace dS := aa.mk (Kd.dF (pN_ dS.out) hb); replace ek := aa.mk (Kd.dF (pN_ ek.out) hb); replace eB := aa.mk (Kd.dF (pN_ eB.out) hb); replace fQ := aa.mk (Kd.dF (pN_ fQ.out) hb); replace iJ := aa.mk (Kd.dF (pN_ iJ.out) hb); replace gI := aa.mk (aD.below si_ hb); replace dw := kb_ dw hb; replace dB := kb_ dB hb; replace bN := kb_ bN hb; replace dR := kb_ dR hb; replace fq := kb_ fq hb; replace HB := aa.mk (ai bl_ hb); (try clear hb)
       (try clear hb2)
       (try clear hk)
       (try clear hi)
       refine hK.out _ _ ⟨(ag dw.out 0).trans rfl, (ag dw.out 1).trans rfl, (ag dw.out 2).trans rfl, (ag dw.out 3).trans rfl, (ag dw.out 4).trans rfl, (ag dB.out 0).trans rfl, (ag dB.out 1).trans rfl, (ag dB.out 2).trans rfl, (ag dB.out 3).trans rfl, (ag dB.out 4).trans rfl, (ag bN.out 0).trans rfl, (ag bN.out 1).trans rfl, (ag bN.out 2).trans rfl, (ag bN.out 3).trans rfl, (ag bN.out 4).trans rfl, (ag dR.out 0).trans rfl, (ag dR.out 1).trans rfl, (ag dR.out 2).trans rfl, (ag dR.out 3).trans rfl, (ag dR.out 4).trans rfl, (ag fq.out 0).trans rfl, (ag fq.out 1).trans rfl, (ag fq.out 2).trans rfl, (ag fq.out 3).trans rfl, (ag fq.out 4).trans rfl⟩ (fun hHeld => ?_)
       clear hK K; refine ic (a' := ?_) ?_ ?_
       rotate_left
       ·show Act.put _ (some 35) _ = _
        simp only [Act.put, List.setIfInBounds_toArray, List.set_cons_zero, List.set_cons_succ, eT, fA]; rfl
       refine pu_ HT_ 9 36 (bm 31 1023) ?_
       refine pu_ HT_ 10 37 (bm 31 2047) ?_
       refine ta_ HT_ HW_ 11 38 (bm 31 4095) hHeld ?_
       refine l7 (i := 12) (N := some 39) #[true, true, true, true, true, true, true, true, true, true, true, true, true, false, false, false, false, false, false, false, false, false, false, false, false, false, false, false, false, false, false] rfl rfl (jD HT_.out (by kernel_rfl)) (by decide) (fun K hK => ?_)
       refine kY Tryd.func26 (by kernel_rfl) rfl #[.agg #[.int .i64 5, .int .i64 0, .int .i64 0, .int .i64 0, .slice dC cZ.length dD]] (by rfl) rfl rfl mp_ ?_
       with_reducible refine (aJ.calls k 5 0 0 0 _ _ cZ true _ ?ay ?az A13.out ?tab).mono ?_
       (case tab => exact yL ui.out bl_)
       (case ay => exact cb_ ((Kd.iL fQ.out).2.2))
       (case az => exact (Kd.iL fQ.out).2.1)
       rintro e w74 ⟨rfl, hb⟩
       refine ⟨_, rfl, ?_⟩
       replace dS := aa.mk (Kd.dF (pN_ dS.out) hb); replace ek := aa.mk (Kd.dF (pN_ ek.out) hb); replace eB := aa.mk (Kd.dF (pN_ eB.out) hb); replace fQ := aa.mk (Kd.dF (pN_ fQ.out) hb); replace iJ := aa.mk (Kd.dF (pN_ iJ.out) hb); replace gI := aa.mk (aD.below si_ hb); replace dw := kb_ dw hb; replace dB := kb_ dB hb; replace bN := kb_ bN hb; replace dR := kb_ dR hb; replace fq := kb_ fq hb; replace HB := aa.mk (ai bl_ hb); (try clear hb)
       (try clear hb2)
       (try clear hk)
       (try clear hi)
       refine hK.out _ _ ⟨(ag dw.out 0).trans rfl, (ag dw.out 1).trans rfl, (ag dw.out 2).trans rfl, (ag dw.out 3).trans rfl, (ag dw.out 4).trans rfl, (ag dB.out 0).trans rfl, (ag dB.out 1).trans rfl, (ag dB.out 2).trans rfl, (ag dB.out 3).trans rfl, (ag dB.out 4).trans rfl, (ag bN.out 0).trans rfl, (ag bN.out 1).trans rfl, (ag bN.out 2).trans rfl, (ag bN.out 3).trans rfl, (ag bN.out 4).trans rfl, (ag dR.out 0).trans rfl, (ag dR.out 1).trans rfl, (ag dR.out 2).trans rfl, (ag dR.out 3).trans rfl, (ag dR.out 4).trans rfl, (ag fq.out 0).trans rfl, (ag fq.out 1).trans rfl, (ag fq.out 2).trans rfl, (ag fq.out 3).trans rfl, (ag fq.out 4).trans rfl⟩ (fun hHeld => ?_)
       clear hK K; refine ic (a' := ?_) ?_ ?_
       rotate_left
       ·show Act.put _ (some 39) _ = _
        simp only [Act.put, List.setIfInBounds_toArray, List.set_cons_zero, List.set_cons_succ, eT, fA]; rfl
       refine pu_ HT_ 13 40 (bm 31 16383) ?_
       refine pu_ HT_ 14 41 (bm 31 32767) ?_
       refine ta_ HT_ HW_ 15 42 (bm 31 65535) hHeld ?_
       refine l7 (i := 16) (N := some 43) #[true, true, true, true, true, true, true, true, true, true, true, true, true, true, true, true, true, false, false, false, false, false, false, false, false, false, false, false, false, false, false] rfl rfl (jD HT_.out (by kernel_rfl)) (by decide) (fun K hK => ?_)
       refine kY Tryd.func26 (by kernel_rfl) rfl #[.agg #[.int .i64 6, .int .i64 0, .int .i64 0, .int .i64 lN, .slice rq ku.length ru]] (by rfl) rfl rfl mp_ ?_
       with_reducible refine (aJ.calls k 6 0 0 lN _ _ ku true _ ?ay ?az A15.out ?tab).mono ?_
       (case tab => exact yL ui.out bl_)
       (case ay => exact cb_ ((Kd.iL iJ.out).2.2))
       (case az => exact (Kd.iL iJ.out).2.1)
       rintro e w75 ⟨rfl, hb⟩
       refine ⟨_, rfl, ?_⟩
       replace dS := aa.mk (Kd.dF (pN_ dS.out) hb); replace ek := aa.mk (Kd.dF (pN_ ek.out) hb); replace eB := aa.mk (Kd.dF (pN_ eB.out) hb); replace fQ := aa.mk (Kd.dF (pN_ fQ.out) hb); replace iJ := aa.mk (Kd.dF (pN_ iJ.out) hb); replace gI := aa.mk (aD.below si_ hb); replace dw := kb_ dw hb; replace dB := kb_ dB hb; replace bN := kb_ bN hb; replace dR := kb_ dR hb; replace fq := kb_ fq hb; replace HB := aa.mk (ai bl_ hb); (try clear hb)
       (try clear hb2)
       (try clear hk)
       (try clear hi)
       refine hK.out _ _ ⟨(ag dw.out 0).trans rfl, (ag dw.out 1).trans rfl, (ag dw.out 2).trans rfl, (ag dw.out 3).trans rfl, (ag dw.out 4).trans rfl, (ag dB.out 0).trans rfl, (ag dB.out 1).trans rfl, (ag dB.out 2).trans rfl, (ag dB.out 3).trans rfl, (ag dB.out 4).trans rfl, (ag bN.out 0).trans rfl, (ag bN.out 1).trans rfl, (ag bN.out 2).trans rfl, (ag bN.out 3).trans rfl, (ag bN.out 4).trans rfl, (ag dR.out 0).trans rfl, (ag dR.out 1).trans rfl, (ag dR.out 2).trans rfl, (ag dR.out 3).trans rfl, (ag dR.out 4).trans rfl, (ag fq.out 0).trans rfl, (ag fq.out 1).trans rfl, (ag fq.out 2).trans rfl, (ag fq.out 3).trans rfl, (ag fq.out 4).trans rfl⟩ (fun hHeld => ?_)
       clear hK K; refine ic (a' := ?_) ?_ ?_
       rotate_left
       ·show Act.put _ (some 43) _ = _
        simp only [Act.put, List.setIfInBounds_toArray, List.set_cons_zero, List.set_cons_succ, eT, fA]; rfl
       refine pu_ HT_ 17 44 (bm 31 262143) ?_
       refine pu_ HT_ 18 45 (bm 31 524287) ?_
       refine ta_ HT_ HW_ 19 46 (bm 31 1048575) hHeld ?_
       refine ta_ HT_ HW_ 20 47 (bm 31 2097151) hHeld ?_
       refine ta_ HT_ HW_ 22 49 (bm 31 6291455) hHeld ?_
       refine ta_ HT_ HW_ 23 50 (bm 31 14680063) hHeld ?_
       refine l7 (i := 21) (N := some 48) #[true, true, true, true, true, true, true, true, true, true, true, true, true, true, true, true, true, true, true, true, true, true, true, true, false, false, false, false, false, false, false] rfl rfl (jD HT_.out (by kernel_rfl)) (by decide) (fun K hK => ?_)
       refine kY Tryd.func23 (by kernel_rfl) rfl #[.agg #[.int .i64 iT, .int .i64 iU, .int .i64 iV, .int .i64 iW, .slice dK cu.length dI], .agg #[.int .i64 iX, .int .i64 iY, .int .i64 iZ, .int .i64 ja, .slice dU cB.length dV]] (by rfl) rfl rfl mp_ ?_
       with_reducible refine (kR.calls iT iU iV iW _ _ cu iX iY iZ ja _ _ cB qM _ ?ay ?az ?iB ?iF A17.out).mono ?_
       (case ay => exact cb_ ((Kd.iL dS.out).2.2))
       (case az => exact (Kd.iL dS.out).2.1)
       (case iB => exact cb_ ((Kd.iL ek.out).2.2))
       (case iF => exact (Kd.iL ek.out).2.1)
       rintro e w76 ⟨rfl, hb⟩
       refine ⟨_, rfl, ?_⟩
       replace dS := aa.mk (Kd.dF (pN_ dS.out) hb); replace ek := aa.mk (Kd.dF (pN_ ek.out) hb); replace eB := aa.mk (Kd.dF (pN_ eB.out) hb); replace fQ := aa.mk (Kd.dF (pN_ fQ.out) hb); replace iJ := aa.mk (Kd.dF (pN_ iJ.out) hb); replace gI := aa.mk (aD.below si_ hb); replace dw := kb_ dw hb; replace dB := kb_ dB hb; replace bN := kb_ bN hb; replace dR := kb_ dR hb; replace fq := kb_ fq hb; replace HB := aa.mk (ai bl_ hb); (try clear hb)
       (try clear hb2)
       (try clear hk)
       (try clear hi)
       refine hK.out _ _ ⟨(ag dw.out 0).trans rfl, (ag dw.out 1).trans rfl, (ag dw.out 2).trans rfl, (ag dw.out 3).trans rfl, (ag dw.out 4).trans rfl, (ag dB.out 0).trans rfl, (ag dB.out 1).trans rfl, (ag dB.out 2).trans rfl, (ag dB.out 3).trans rfl, (ag dB.out 4).trans rfl, (ag bN.out 0).trans rfl, (ag bN.out 1).trans rfl, (ag bN.out 2).trans rfl, (ag bN.out 3).trans rfl, (ag bN.out 4).trans rfl, (ag dR.out 0).trans rfl, (ag dR.out 1).trans rfl, (ag dR.out 2).trans rfl, (ag dR.out 3).trans rfl, (ag dR.out 4).trans rfl, (ag fq.out 0).trans rfl, (ag fq.out 1).trans rfl, (ag fq.out 2).trans rfl, (ag fq.out 3).trans rfl, (ag fq.out 4).trans rfl⟩ (fun hHeld => ?_)
       clear hK K; refine ic (a' := ?_) ?_ ?_
       rotate_left
       ·show Act.put _ (some 48) _ = _
        simp only [Act.put, List.setIfInBounds_toArray, List.set_cons_zero, List.set_cons_succ, eT, fA]; rfl
       refine l7 (i := 24) (N := some 51) #[true, true, true, true, true, true, true, true, true, true, true, true, true, true, true, true, true, true, true, true, true, true, true, true, true, false, false, false, false, false, false] rfl rfl (jD HT_.out (by kernel_rfl)) (by decide) (fun K hK => ?_)
       refine kY Tryd.func24 (by kernel_rfl) rfl #[.agg #[.int .i64 iT, .int .i64 iU, .int .i64 iV, .int .i64 iW, .slice dK cu.length dI], .agg #[.int .i64 iX, .int .i64 iY, .int .i64 iZ, .int .i64 ja, .slice dU cB.length dV]] (by rfl) rfl rfl mp_ ?_
       with_reducible refine (aT.calls k iT iU iV iW _ _ cu iX iY iZ ja _ _ cB qN _ ?ay ?az ?iB ?iF A18.out).mono ?_
       (case ay => exact cb_ ((Kd.iL dS.out).2.2))
       (case az => exact (Kd.iL dS.out).2.1)
       (case iB => exact cb_ ((Kd.iL ek.out).2.2))
       (case iF => exact (Kd.iL ek.out).2.1)
       rintro e w77 ⟨rfl, hb⟩
       refine ⟨_, rfl, ?_⟩
       replace dS := aa.mk (Kd.dF (pN_ dS.out) hb); replace ek := aa.mk (Kd.dF (pN_ ek.out) hb); replace eB := aa.mk (Kd.dF (pN_ eB.out) hb); replace fQ := aa.mk (Kd.dF (pN_ fQ.out) hb); replace iJ := aa.mk (Kd.dF (pN_ iJ.out) hb); replace gI := aa.mk (aD.below si_ hb); replace dw := kb_ dw hb; replace dB := kb_ dB hb; replace bN := kb_ bN hb; replace dR := kb_ dR hb; replace fq := kb_ fq hb; replace HB := aa.mk (ai bl_ hb); (try clear hb)
       (try clear hb2)
       (try clear hk)
       (try clear hi)
       refine hK.out _ _ ⟨(ag dw.out 0).trans rfl, (ag dw.out 1).trans rfl, (ag dw.out 2).trans rfl, (ag dw.out 3).trans rfl, (ag dw.out 4).trans rfl, (ag dB.out 0).trans rfl, (ag dB.out 1).trans rfl, (ag dB.out 2).trans rfl, (ag dB.out 3).trans rfl, (ag dB.out 4).trans rfl, (ag bN.out 0).trans rfl, (ag bN.out 1).trans rfl, (ag bN.out 2).trans rfl, (ag bN.out 3).trans rfl, (ag bN.out 4).trans rfl, (ag dR.out 0).trans rfl, (ag dR.out 1).trans rfl, (ag dR.out 2).trans rfl, (ag dR.out 3).trans rfl, (ag dR.out 4).trans rfl, (ag fq.out 0).trans rfl, (ag fq.out 1).trans rfl, (ag fq.out 2).trans rfl, (ag fq.out 3).trans rfl, (ag fq.out 4).trans rfl⟩ (fun hHeld => ?_)
       clear hK K; refine ic (a' := ?_) ?_ ?_
       rotate_left
       ·show Act.put _ (some 51) _ = _
        simp only [Act.put, List.setIfInBounds_toArray, List.set_cons_zero, List.set_cons_succ, eT, fA]; rfl
       refine pu_ HT_ 25 52 (bm 31 67108863) ?_
       refine pu_ HT_ 26 53 (bm 31 134217727) ?_
       refine pu_ HT_ 27 54 (bm 31 268435455) ?_
       refine l7 (i := 28) (N := some 55) #[true, true, true, true, true, true, true, true, true, true, true, true, true, true, true, true, true, true, true, true, true, true, true, true, true, true, true, true, true, false, false] rfl rfl (jD HT_.out (by kernel_rfl)) (by decide) (fun K hK => ?_)
       refine kY Tryd.func13 (by kernel_rfl) rfl #[] (by rfl) rfl rfl mp_ ?_
       with_reducible refine (fT.calls k  xV _ A20.out ?tab).mono ?_
       (case tab => exact yL ui.out bl_)
       rintro e w78 ⟨rfl, hb⟩
       refine ⟨_, rfl, ?_⟩
       replace dS := aa.mk (Kd.dF (pN_ dS.out) hb); replace ek := aa.mk (Kd.dF (pN_ ek.out) hb); replace eB := aa.mk (Kd.dF (pN_ eB.out) hb); replace fQ := aa.mk (Kd.dF (pN_ fQ.out) hb); replace iJ := aa.mk (Kd.dF (pN_ iJ.out) hb); replace gI := aa.mk (aD.below si_ hb); replace dw := kb_ dw hb; replace dB := kb_ dB hb; replace bN := kb_ bN hb; replace dR := kb_ dR hb; replace fq := kb_ fq hb; replace HB := aa.mk (ai bl_ hb); (try clear hb)
       (try clear hb2)
       (try clear hk)
       (try clear hi)
       refine hK.out _ _ ⟨(ag dw.out 0).trans rfl, (ag dw.out 1).trans rfl, (ag dw.out 2).trans rfl, (ag dw.out 3).trans rfl, (ag dw.out 4).trans rfl, (ag dB.out 0).trans rfl, (ag dB.out 1).trans rfl, (ag dB.out 2).trans rfl, (ag dB.out 3).trans rfl, (ag dB.out 4).trans rfl, (ag bN.out 0).trans rfl, (ag bN.out 1).trans rfl, (ag bN.out 2).trans rfl, (ag bN.out 3).trans rfl, (ag bN.out 4).trans rfl, (ag dR.out 0).trans rfl, (ag dR.out 1).trans rfl, (ag dR.out 2).trans rfl, (ag dR.out 3).trans rfl, (ag dR.out 4).trans rfl, (ag fq.out 0).trans rfl, (ag fq.out 1).trans rfl, (ag fq.out 2).trans rfl, (ag fq.out 3).trans rfl, (ag fq.out 4).trans rfl⟩ (fun hHeld => ?_)
       clear hK K; refine ic (a' := ?_) ?_ ?_
       rotate_left
       ·show Act.put _ (some 55) _ = _
        simp only [Act.put, List.setIfInBounds_toArray, List.set_cons_zero, List.set_cons_succ, eT, fA]; rfl
       refine pu_ HT_ 29 56 (bm 31 1073741823) ?_
       refine pu_ HT_ 30 2 #[true, true, true, true, true, true, true, true, true, true, true, true, true, true, true, true, true, true, true, true, true, true, true, true, true, true, true, true, true, true, true] ?_
       refine vJ (p9 HT_.out (by kernel_rfl)) ?_
       try go_wp2
       go_ret; exact ⟨re_, bl_⟩
      ·rw [if_neg c19] at H; have Fq : (qM == qN) = false := by simpa using c19
       (try (have Gp : decide (qM = qN) = false := by simpa using c19))
       (try (have c19b2 : (qM == qN) = false := by simpa using c19))
       (try (have c19b3 : ¬ (qM = qN) := by simpa using c19))
       clear c19; exact absurd (Option.some.inj H) (by rw [hrt]; decide)
     ·replace c16 := Bool.eq_false_iff.mpr c16; subst c16; have H1 : (some false) = some r := by rw [if_neg (show ¬ (false = true) by decide)] at H; exact H
      clear H; have H := H1; clear H1; exact absurd (Option.some.inj H) (by rw [hrt]; decide)
    ·replace c14 := Bool.eq_false_iff.mpr c14; subst c14; have H1 : (some false) = some r := by rw [if_neg (show ¬ (false = true) by decide)] at H; exact H
     clear H; have H := H1; clear H1; exact absurd (Option.some.inj H) (by rw [hrt]; decide)
   ·replace c12 := Bool.eq_false_iff.mpr c12; subst c12; have H1 : (some false) = some r := by rw [if_neg (show ¬ (false = true) by decide)] at H; exact H
    clear H; have H := H1; clear H1; exact absurd (Option.some.inj H) (by rw [hrt]; decide)
  ·replace c10 := Bool.eq_false_iff.mpr c10; subst c10; have H1 : (some false) = some r := by rw [if_neg (show ¬ (false = true) by decide)] at H; exact H
   clear H; have H := H1; clear H1; exact absurd (Option.some.inj H) (by rw [hrt]; decide)
 ·replace c8 := Bool.eq_false_iff.mpr c8; subst c8; have H1 : (some false) = some r := by rw [if_neg (show ¬ (false = true) by decide)] at H; exact H
  clear H; have H := H1; clear H1; exact absurd (Option.some.inj H) (by rw [hrt]; decide)
/-- THE ONE PURE STATEMENT of dX: yours. -/
def dX.Pure : Prop := ∀ (l0 : List Int), l0.length ≤ maxLen → l0.length * 8 ≤ 140737488351232 → (∀ x ∈ l0, (Lit.int .i64 x).wf = true) → ∃ k, dX.f k l0 = some true
theorem dX.walk (P : dX.Pure) (a0 : Option Addr) (len0 cap0 : Nat) (z0 : List Int) (w : World) (htab : vw w.heap.size w) (w0 : (a0 = none ∧ len0 = 0 ∧ cap0 = 0 ∧ z0 = []) ∨ ∃ x, a0 = some x ∧ len0 ≤ cap0 ∧ cap0 ≤ maxLen ∧ z0.length = cap0 ∧ (∀ i, i < z0.length → w.cell? (x.add i) = some (.int .i64 (z0.getD i 0))) ∧ ∀ n ∈ z0, (Lit.int .i64 n).wf = true) (y0 : len0 * 8 ≤ 140737488351232) :
  Calls Tryd.prog 8 #[.slice a0 len0 cap0] w fun e w' => e = .returned (.bool true) ∧ Below w.heap.size w w' := by
 obtain ⟨l0, rfl, hr0, hm0, hw0, hc0⟩ := kN.ofRowC w0; obtain ⟨k, h⟩ := P l0 hm0 y0 hw0; refine (dX.calls k _ _ l0 true w (Kd.Ga (d := (0 : Int)) (h1 := fun _ => rfl) hr0) hc0 h htab rfl).mono ?_
 rintro e w' ⟨rfl, hd⟩
 exact ⟨rfl, hd⟩

end Go.Proofs.YtggelekooacmnaaDoor.Q
set_option linter.unusedVariables false
set_option linter.unusedSimpArgs false
namespace Go.Proofs.YtggelekooacmnaaDoor.Pure
open Go.RowKit Go.Proofs.YtggelekooacmnaaDoor.Q Go.Proofs.YtggelekooacmnaaDoorW.bg Go.Proofs.YtggelekooacmnaaDoorW.bW Go.Proofs.YtggelekooacmnaaDoorW.dh
-- plain laws on types: what the printed functions of the types come to
theorem Oy {n : Int} (h1 : -9223372036854775808 ≤ n) (h2 : n ≤ 9223372036854775807) : wrap64 n = n := by unfold wrap64; omega
theorem mi {n : Nat} (h2 : n ≤ 1000000000) : wrap64 ((n : Int) + 1) = ((n + 1 : Nat) : Int) := by unfold wrap64; omega
theorem rdT {l : List S24} {i : Nat} (h : i < l.length) : ah l (i : Int) = l[i] := by
  unfold ah; simp [List.getD, h]
theorem rdT0 {l : List S24} (h : 0 < l.length) : ah l 0 = l[0] := by
  unfold ah; simp [List.getD, h]
/-- bounded: n levels at most, each list of at most a thousand -/
def Bd : Nat → S24 → Prop
  | 0, _ => False
  | n + 1, t => t.f4.length ≤ 1000 ∧ ∀ x ∈ t.f4, Bd n x
theorem Bd.mono {n : Nat} : ∀ {t : S24}, Bd n t → Bd (n + 1) t := by
  induction n with
  | zero => intro t h; exact h.elim
  | succ n ih => intro t h; exact ⟨h.1, fun x hx => ih (h.2 x hx)⟩
/-- an evaluation of a function of types at a type -/
def at_ {α : Type} (g : Nat → Int → Int → Int → Int → List S24 → Option α) (t : S24) : Nat → Option α := fun k => g k t.f0 t.f1 t.f2 t.f3 t.f4
def mxl (f : S24 → Int) : List S24 → Int → Int
  | [], m => m
  | x :: l, m => mxl f l (mx m (f x))
def dep : Nat → S24 → Int
  | 0, _ => 0
  | n + 1, t => mxl (dep n) t.f4 0 + 1
theorem mx_le {a b c : Int} (h1 : a ≤ c) (h2 : b ≤ c) : mx a b ≤ c := by unfold mx; split <;> omega
theorem mx_ge {a b : Int} : a ≤ mx a b ∧ b ≤ mx a b := by unfold mx; split <;> omega
theorem MW (f : S24 → Int) : ∀ (l : List S24) (m : Int), m ≤ mxl f l m
  | [], m => Int.le_refl _
  | x :: l, m => Int.le_trans mx_ge.1 (MW f l _)
theorem UA {f : S24 → Int} {c : Int} : ∀ {l : List S24} {m : Int}, (∀ x ∈ l, f x ≤ c) → m ≤ c → mxl f l m ≤ c
  | [], m, _, h => h
  | x :: l, m, h, hm => UA (l := l) (fun y hy => h y (List.mem_cons_of_mem x hy)) (mx_le hm (h x List.mem_cons_self))
theorem Q5 : ∀ (n : Nat) (t : S24), 0 ≤ dep n t ∧ dep n t ≤ n
  | 0, t => by simp [dep]
  | n + 1, t => by
    have h1 := MW (dep n) t.f4 0
    have h2 := UA (f := dep n) (c := n) (l := t.f4) (m := 0) (fun x _ => (Q5 n x).2) (by omega)
    simp only [dep]; omega
theorem depth_l0 (n : Nat) (hn : n ≤ 1000) (l : List S24) (hl : l.length ≤ 1000) (ih : ∀ t ∈ l, Ev (at_ eQ.f t) (dep n t)) :
    ∀ (d i : Nat) (m : Int), 0 ≤ m → m ≤ 1000 → i + d = l.length → Ev (fun k => eQ.l0 k m l l.length i) (mxl (dep n) (l.drop i) m + 1) := by
  intro d
  induction d with
  | zero =>
    intro i m h0 h1 hi
    refine ⟨1, fun k hk => ?_⟩
    obtain ⟨k, rfl⟩ : ∃ j, k = j + 1 := ⟨k - 1, by omega⟩
    simp only [eQ.l0]
    rw [if_neg (by omega), List.drop_eq_nil_of_le (by omega), Oy (by omega) (by omega)]; rfl
  | succ d IH =>
    intro i m h0 h1 hi
    have hlt : i < l.length := by omega
    obtain ⟨K1, e1⟩ := ih l[i] (List.getElem_mem hlt)
    have hb := Q5 n l[i]
    obtain ⟨K2, e2⟩ := IH (i + 1) (mx m (dep n l[i])) (Int.le_trans h0 mx_ge.1) (mx_le h1 (by omega)) (by omega)
    refine ⟨max K1 K2 + 1, fun k hk => ?_⟩
    obtain ⟨k, rfl⟩ : ∃ j, k = j + 1 := ⟨k - 1, by omega⟩
    have e1' := e1 k (by omega)
    have e2' := e2 k (by omega)
    unfold at_ at e1'
    dsimp only at e1' e2'
    simp only [eQ.l0]
    rw [if_pos (by omega), if_pos (by omega), if_pos (by omega), rdT hlt, e1', Option.bind_some, mi (by omega), e2', List.drop_eq_getElem_cons hlt]; rfl
theorem UB (n : Nat) : ∀ (t : S24), n ≤ 1000 → Bd n t → Ev (at_ eQ.f t) (dep n t) := by
  induction n with
  | zero => intro t _ h; exact h.elim
  | succ n ih =>
    intro t hn hb
    have h := depth_l0 n (by omega) t.f4 hb.1 (fun x hx => ih x (by omega) (hb.2 x hx)) t.f4.length 0 0 (by omega) (by omega) (by omega)
    exact h.step (fun k => by simp only [at_, eQ.f]; rfl)
/-- the UO depth -/
theorem mn_eq (a b : Int) : mn a b = min a b := by unfold mn; split <;> omega
theorem mx_eq (a b : Int) : mx a b = max a b := by unfold mx; split <;> omega
theorem mxl_eq (f : S24 → Int) : ∀ (l : List S24) (m c : Int), mxl (fun x => min (f x) c) l (min m c) = min (mxl f l m) c
  | [], m, c => rfl
  | x :: l, m, c => by
    simp only [mxl]
    rw [show mx (min m c) (min (f x) c) = min (mx m (f x)) c from by simp only [mx_eq]; omega]
    exact mxl_eq f l _ c
theorem Depth_l0 (n : Nat) (hn : n ≤ 1000) (l : List S24) (hl : l.length ≤ 1000) (c a b m' : Int) (hc : 1 ≤ c) (hc' : c ≤ 1000) (ih : ∀ t ∈ l, Ev (fun k => dW.f k t.f0 t.f1 t.f2 t.f3 t.f4 c) (min (dep n t) c)) (k0 : Int) :
    ∀ (d i : Nat) (m : Int), 0 ≤ m → m ≤ c → i + d = l.length → Ev (fun k => dW.l0 k (c + 1) m i k0 a b m' l) (min (mxl (fun x => min (dep n x) c) (l.drop i) m + 1) (c + 1)) := by
  intro d
  induction d with
  | zero =>
    intro i m h0 h1 hi
    refine ⟨1, fun k hk => ?_⟩
    obtain ⟨k, rfl⟩ : ∃ j, k = j + 1 := ⟨k - 1, by omega⟩
    simp only [dW.l0]
    rw [if_neg (by omega), List.drop_eq_nil_of_le (by omega), Oy (by omega) (by omega), mn_eq]; rfl
  | succ d IH =>
    intro i m h0 h1 hi
    have hlt : i < l.length := by omega
    obtain ⟨K1, e1⟩ := ih l[i] (List.getElem_mem hlt)
    have hb := Q5 n l[i]
    obtain ⟨K2, e2⟩ := IH (i + 1) (mx m (min (dep n l[i]) c)) (Int.le_trans h0 mx_ge.1) (mx_le h1 (by omega)) (by omega)
    refine ⟨max K1 K2 + 1, fun k hk => ?_⟩
    obtain ⟨k, rfl⟩ : ∃ j, k = j + 1 := ⟨k - 1, by omega⟩
    have e1' := e1 k (by omega)
    have e2' := e2 k (by omega)
    dsimp only at e1' e2'
    have ew : wrap64 (c + 1 - 1) = c := by unfold wrap64; omega
    simp only [dW.l0]
    rw [if_pos (by omega), if_pos (by omega), rdT hlt, ew, e1', Option.bind_some, mi (by omega), e2', List.drop_eq_getElem_cons hlt]; rfl
theorem UC (n : Nat) : ∀ (t : S24) (c : Int), n ≤ 1000 → 1 ≤ c → c ≤ 1000 → Bd n t → Ev (fun k => dW.f k t.f0 t.f1 t.f2 t.f3 t.f4 c) (min (dep n t) c) := by
  induction n with
  | zero => intro t c _ _ _ h; exact h.elim
  | succ n ih =>
    intro t c hn h1 h2 hb
    by_cases hc : c = 1
    · subst hc
      have hd := Q5 n
      have hd1 : 1 ≤ dep (n + 1) t := by have := MW (dep n) t.f4 0; simp only [dep]; omega
      refine ⟨1, fun k hk => ?_⟩
      obtain ⟨k, rfl⟩ : ∃ j, k = j + 1 := ⟨k - 1, by omega⟩
      simp only [dW.f]
      rw [if_neg (by omega)]
      have : min (dep (n + 1) t) 1 = 1 := by omega
      rw [this]
      split
      · rfl
      · rw [mn_eq]; rfl
    · obtain ⟨c, rfl⟩ : ∃ e, c = e + 1 := ⟨c - 1, by omega⟩
      have h := Depth_l0 n (by omega) t.f4 hb.1 c t.f1 t.f2 t.f3 (by omega) (by omega) (fun x hx => ih x c (by omega) (by omega) (by omega) (hb.2 x hx)) t.f0 t.f4.length 0 0 (by omega) (by omega) (by omega)
      have e : min (mxl (fun x => min (dep n x) c) (t.f4.drop 0) 0 + 1) (c + 1) = min (dep (n + 1) t) (c + 1) := by
        have := mxl_eq (dep n) t.f4 0 c
        rw [show min (0 : Int) c = 0 from by omega] at this
        simp only [dep, List.drop_zero, this]; omega
      rw [← e]
      exact h.step (fun k => by simp only [dW.f]; rw [if_pos (by omega)]; rfl)

end Go.Proofs.YtggelekooacmnaaDoor.Pure
set_option linter.unusedVariables false
set_option linter.unusedSimpArgs false
namespace Go.Proofs.YtggelekooacmnaaDoor.Pure
open Go.RowKit Go.Proofs.YtggelekooacmnaaDoor.Q Go.Proofs.YtggelekooacmnaaDoorW.bg Go.Proofs.YtggelekooacmnaaDoorW.bW Go.Proofs.YtggelekooacmnaaDoorW.dh
-- faults
def fl1 (f : S24 → Int) : List S24 → Int
  | [] => 0
  | x :: l => if f x = 0 then (if x.f0 = 3 then 8 else if x.f0 = 4 then 8 else fl1 f l) else f x
abbrev unus (a0 a1 a2 a3 : Int) (l : List S24) : Prop := (a0 ≠ 2 ∧ (a1 ≠ 0 ∨ a2 ≠ 0)) ∨ (a0 ≠ 6 ∧ a3 ≠ 0) ∨ (a0 < 5 ∧ l.length ≠ 0)
def lst1 (f : S24 → Int) : List S24 → Int
  | [x] => if f x = 0 then (if x.f0 = 1 then 0 else if x.f0 = 2 then 0 else 8) else f x
  | _ => 2
def flt : Nat → S24 → Int
  | 0, _ => 0
  | n + 1, t => if t.f0 < 1 ∨ 6 < t.f0 then 14 else if unus t.f0 t.f1 t.f2 t.f3 t.f4 then 2
    else if t.f0 = 2 then (if t.f1 < -1000 ∨ t.f1 > t.f2 ∨ t.f2 > 1000 then 1 else 0)
    else if t.f0 = 5 then (if t.f4.length < 2 ∨ t.f4.length > 4 then 1 else fl1 (flt n) t.f4)
    else if t.f0 = 6 then (if t.f3 < 1 ∨ t.f3 > 4 then 1 else lst1 (flt n) t.f4)
    else 0
theorem OO {a : Int} (h : ¬ (a < 1 ∨ 6 < a)) : a = 1 ∨ a = 2 ∨ a = 3 ∨ a = 4 ∨ a = 5 ∨ a = 6 := by omega
theorem TW {a0 a1 a2 a3 : Int} {l : List S24} (h : ¬ (a0 < 1 ∨ 6 < a0)) : jV.f a0 a1 a2 a3 l = some (decide (unus a0 a1 a2 a3 l)) := by
  unfold jV.f unus
  rcases OO h with rfl | rfl | rfl | rfl | rfl | rfl <;> by_cases h1 : a1 = 0 <;> by_cases h2 : a2 = 0 <;> by_cases h3 : a3 = 0 <;> by_cases h4 : l = [] <;> simp [h1, h2, h3, h4]
theorem fault_l0 (n : Nat) (l : List S24) (hl : l.length ≤ 1000) (ih : ∀ t ∈ l, Ev (at_ bf.f t) (flt n t)) :
    ∀ (d i : Nat), i + d = l.length → Ev (fun k => bf.l0 k l l.length i) (fl1 (flt n) (l.drop i)) := by
  intro d
  induction d with
  | zero =>
    intro i hi
    refine ⟨1, fun k hk => ?_⟩
    obtain ⟨k, rfl⟩ : ∃ j, k = j + 1 := ⟨k - 1, by omega⟩
    simp only [bf.l0]
    rw [if_neg (by omega), List.drop_eq_nil_of_le (by omega)]; rfl
  | succ d IH =>
    intro i hi
    have hlt : i < l.length := by omega
    obtain ⟨K1, e1⟩ := ih l[i] (List.getElem_mem hlt)
    obtain ⟨K2, e2⟩ := IH (i + 1) (by omega)
    refine ⟨max K1 K2 + 1, fun k hk => ?_⟩
    obtain ⟨k, rfl⟩ : ∃ j, k = j + 1 := ⟨k - 1, by omega⟩
    have e1' := e1 k (by omega)
    have e2' := e2 k (by omega)
    unfold at_ at e1'
    dsimp only at e1' e2'
    simp only [bf.l0]
    rw [if_pos (by omega), if_pos (by omega), if_pos (by omega), rdT hlt, e1', Option.bind_some, mi (by omega), e2', List.drop_eq_getElem_cons hlt]
    simp only [fl1]
    repeat' split
    all_goals rfl
theorem UD (n : Nat) : ∀ (t : S24), n ≤ 1000 → Bd n t → Ev (at_ bf.f t) (flt n t) := by
  induction n with
  | zero => intro t _ h; exact h.elim
  | succ n ih =>
    intro t hn hb
    obtain ⟨a0, a1, a2, a3, l⟩ := t
    have hl : l.length ≤ 1000 := hb.1
    by_cases hk : a0 < 1 ∨ 6 < a0
    · refine ⟨2, fun k hk2 => ?_⟩
      obtain ⟨k, rfl⟩ : ∃ j, k = j + 2 := ⟨k - 2, by omega⟩
      simp only [at_, bf.f, flt]
      rw [if_pos hk]
      split
      · simp only [bf.j0, if_true]
      · rw [show decide (a0 > 6) = true from by simp; omega]; simp only [bf.j0, if_true]
    · have hj : ∀ k, at_ bf.f ⟨a0, a1, a2, a3, l⟩ (k + 2) = bf.j0 (k + 1) false a0 a1 a2 a3 l := by
        intro k
        simp only [at_, bf.f]
        rw [if_neg (by omega), show decide (a0 > 6) = false from by simp; omega]
      by_cases hu : unus a0 a1 a2 a3 l
      · refine ⟨2, fun k hk2 => ?_⟩
        obtain ⟨k, rfl⟩ : ∃ j, k = j + 2 := ⟨k - 2, by omega⟩
        rw [hj]
        simp only [bf.j0]
        rw [TW hk, decide_eq_true hu]
        simp only [flt, if_neg hk, if_pos hu]; rfl
      · have hj0 : ∀ k, at_ bf.f ⟨a0, a1, a2, a3, l⟩ (k + 2) = (if a0 = 2 then (if a1 < (-1000) then (some 1) else (if a1 > a2 then (some 1) else (if a2 > 1000 then (some 1) else (some 0)))) else (if a0 = 5 then (if (l.length : Int) < 2 then (bf.j1 k true a0 a1 a2 a3 l) else (bf.j1 k (decide ((l.length : Int) > 4)) a0 a1 a2 a3 l)) else (if a0 = 6 then (if a3 < 1 then (bf.j3 k true a0 a1 a2 a3 l) else (bf.j3 k (decide (a3 > 4)) a0 a1 a2 a3 l)) else (some 0)))) := by
          intro k
          rw [hj]
          simp only [bf.j0]
          rw [TW hk, decide_eq_false hu]; rfl
        have hs : flt (n + 1) ⟨a0, a1, a2, a3, l⟩ = (if a0 = 2 then (if a1 < -1000 ∨ a1 > a2 ∨ a2 > 1000 then 1 else 0) else if a0 = 5 then (if l.length < 2 ∨ l.length > 4 then 1 else fl1 (flt n) l) else if a0 = 6 then (if a3 < 1 ∨ a3 > 4 then 1 else lst1 (flt n) l) else 0) := by
          simp only [flt, if_neg hk, if_neg hu]
        rw [hs]
        by_cases k2 : a0 = 2
        · refine ⟨2, fun k hk2 => ?_⟩
          obtain ⟨k, rfl⟩ : ∃ j, k = j + 2 := ⟨k - 2, by omega⟩
          rw [hj0, if_pos k2, if_pos k2]
          by_cases c1 : a1 < -1000
          · rw [if_pos c1, if_pos (by omega)]
          · by_cases c2 : a1 > a2
            · rw [if_neg c1, if_pos c2, if_pos (by omega)]
            · by_cases c3 : a2 > 1000
              · rw [if_neg c1, if_neg c2, if_pos c3, if_pos (by omega)]
              · rw [if_neg c1, if_neg c2, if_neg c3, if_neg (by omega)]
        · by_cases k5 : a0 = 5
          · by_cases c : l.length < 2 ∨ l.length > 4
            · refine ⟨3, fun k hk2 => ?_⟩
              obtain ⟨k, rfl⟩ : ∃ j, k = j + 3 := ⟨k - 3, by omega⟩
              rw [hj0, if_neg k2, if_neg k2, if_pos k5, if_pos k5, if_pos c]
              split
              · simp only [bf.j1, if_true]
              · rw [show decide ((l.length : Int) > 4) = true from by simp; omega]; simp only [bf.j1, if_true]
            · obtain ⟨K, e⟩ := fault_l0 n l hl (fun x hx => ih x (by omega) (hb.2 x hx)) l.length 0 (by omega)
              refine ⟨K + 3, fun k hk2 => ?_⟩
              obtain ⟨k, rfl⟩ : ∃ j, k = j + 3 := ⟨k - 3, by omega⟩
              rw [hj0, if_neg k2, if_neg k2, if_pos k5, if_pos k5, if_neg c, if_neg (by omega), show decide ((l.length : Int) > 4) = false from by simp; omega]
              have e' := e k (by omega)
              dsimp only at e'
              simp only [bf.j1]
              rw [if_neg (by decide)]
              exact e'
          · by_cases k6 : a0 = 6
            · by_cases c : a3 < 1 ∨ a3 > 4
              · refine ⟨3, fun k hk2 => ?_⟩
                obtain ⟨k, rfl⟩ : ∃ j, k = j + 3 := ⟨k - 3, by omega⟩
                rw [hj0, if_neg k2, if_neg k2, if_neg k5, if_neg k5, if_pos k6, if_pos k6, if_pos c]
                split
                · simp only [bf.j3, if_true]
                · rw [show decide (a3 > 4) = true from by simp; omega]; simp only [bf.j3, if_true]
              · have hj3 : ∀ k, at_ bf.f ⟨a0, a1, a2, a3, l⟩ (k + 3) = bf.j3 (k + 1) false a0 a1 a2 a3 l := by
                  intro k
                  rw [hj0, if_neg k2, if_neg k5, if_pos k6, if_neg (by omega), show decide (a3 > 4) = false from by simp; omega]
                rw [if_neg k2, if_neg k5, if_pos k6, if_neg c]
                match l, hl, hb, hj3 with
                | [x], hl, hb, hj3 =>
                  obtain ⟨K, e⟩ := ih x (by omega) (hb.2 x List.mem_cons_self)
                  refine ⟨K + 3, fun k hk2 => ?_⟩
                  obtain ⟨k, rfl⟩ : ∃ j, k = j + 3 := ⟨k - 3, by omega⟩
                  have e' := e k (by omega)
                  unfold at_ at e'
                  rw [hj3]
                  simp only [bf.j3]
                  rw [if_neg (by decide), if_pos (by simp), if_pos (by simp), rdT0 (by simp), List.getElem_cons_zero, e', Option.bind_some]
                  simp only [lst1]
                  repeat' split
                  all_goals rfl
                | [], hl, hb, hj3 =>
                  refine ⟨3, fun k hk2 => ?_⟩
                  obtain ⟨k, rfl⟩ : ∃ j, k = j + 3 := ⟨k - 3, by omega⟩
                  rw [hj3]; simp only [bf.j3]; rfl
                | x :: y :: l, hl, hb, hj3 =>
                  refine ⟨3, fun k hk2 => ?_⟩
                  obtain ⟨k, rfl⟩ : ∃ j, k = j + 3 := ⟨k - 3, by omega⟩
                  rw [hj3]; simp only [bf.j3]
                  rw [if_neg (by decide), if_neg (by simp; omega)]; rfl
            · refine ⟨2, fun k hk2 => ?_⟩
              obtain ⟨k, rfl⟩ : ∃ j, k = j + 2 := ⟨k - 2, by omega⟩
              rw [hj0]
              simp only [if_neg k2, if_neg k5, if_neg k6]
theorem wrong_j0 {a0 a1 a2 a3 : Int} {l : List S24} (k : Nat) (h : ¬ (a0 < 1 ∨ 6 < a0)) : aH.j0 (k + 1) a0 false a0 a1 a2 a3 l = aH.j1 k a0 (decide (unus a0 a1 a2 a3 l)) a0 a1 a2 a3 l := by
  unfold unus
  simp only [aH.j0]
  rcases OO h with rfl | rfl | rfl | rfl | rfl | rfl <;> by_cases h1 : a1 = 0 <;> by_cases h2 : a2 = 0 <;> by_cases h3 : a3 = 0 <;> by_cases h4 : l = [] <;> simp [h1, h2, h3, h4] <;> (congr 1; cases l <;> simp_all <;> omega)
theorem wrong_l0 (n : Nat) (l : List S24) (hl : l.length ≤ 1000) (a0 a1 a2 a3 : Int) (ih : ∀ t ∈ l, Ev (at_ aH.f t) (flt n t)) :
    ∀ (d i : Nat), i + d = l.length → Ev (fun k => aH.l0 k i a0 a1 a2 a3 l) (fl1 (flt n) (l.drop i)) := by
  intro d
  induction d with
  | zero =>
    intro i hi
    refine ⟨1, fun k hk => ?_⟩
    obtain ⟨k, rfl⟩ : ∃ j, k = j + 1 := ⟨k - 1, by omega⟩
    simp only [aH.l0]
    rw [if_neg (by omega), List.drop_eq_nil_of_le (by omega)]; rfl
  | succ d IH =>
    intro i hi
    have hlt : i < l.length := by omega
    obtain ⟨K1, e1⟩ := ih l[i] (List.getElem_mem hlt)
    obtain ⟨K2, e2⟩ := IH (i + 1) (by omega)
    refine ⟨max K1 K2 + 1, fun k hk => ?_⟩
    obtain ⟨k, rfl⟩ : ∃ j, k = j + 1 := ⟨k - 1, by omega⟩
    have e1' := e1 k (by omega)
    have e2' := e2 k (by omega)
    unfold at_ at e1'
    dsimp only at e1' e2'
    simp only [aH.l0]
    rw [if_pos (by omega), if_pos (by omega), rdT hlt, e1', Option.bind_some, mi (by omega), e2', List.drop_eq_getElem_cons hlt]
    simp only [fl1]
    repeat' split
    all_goals rfl
theorem UE (n : Nat) : ∀ (t : S24), n ≤ 1000 → Bd n t → Ev (at_ aH.f t) (flt n t) := by
  induction n with
  | zero => intro t _ h; exact h.elim
  | succ n ih =>
    intro t hn hb
    obtain ⟨a0, a1, a2, a3, l⟩ := t
    have hl : l.length ≤ 1000 := hb.1
    by_cases hk : a0 < 1 ∨ 6 < a0
    · refine ⟨2, fun k hk2 => ?_⟩
      obtain ⟨k, rfl⟩ : ∃ j, k = j + 2 := ⟨k - 2, by omega⟩
      simp only [at_, aH.f, flt]
      rw [if_pos hk]
      split
      · simp only [aH.j0, if_true]
      · rw [show decide (a0 > 6) = true from by simp; omega]; simp only [aH.j0, if_true]
    · have hj : ∀ k, at_ aH.f ⟨a0, a1, a2, a3, l⟩ (k + 2) = aH.j1 k a0 (decide (unus a0 a1 a2 a3 l)) a0 a1 a2 a3 l := by
        intro k
        simp only [at_, aH.f]
        rw [if_neg (by omega), show decide (a0 > 6) = false from by simp; omega, wrong_j0 k hk]
      by_cases hu : unus a0 a1 a2 a3 l
      · refine ⟨3, fun k hk2 => ?_⟩
        obtain ⟨k, rfl⟩ : ∃ j, k = j + 3 := ⟨k - 3, by omega⟩
        rw [hj, decide_eq_true hu]
        simp only [aH.j1, flt, if_neg hk, if_pos hu, if_true]
      · have hj0 : ∀ k, at_ aH.f ⟨a0, a1, a2, a3, l⟩ (k + 3) = (if a0 = 2 then (if a1 < (-1000) then (some 1) else (if a1 > a2 then (some 1) else (if a2 > 1000 then (some 1) else (some 0)))) else (if a0 = 5 then (if (l.length : Int) < 2 then (aH.j2 k true a0 a1 a2 a3 l) else (aH.j2 k (decide ((l.length : Int) > 4)) a0 a1 a2 a3 l)) else (if a0 = 6 then (if a3 < 1 then (aH.j4 k true a0 a1 a2 a3 l) else (aH.j4 k (decide (a3 > 4)) a0 a1 a2 a3 l)) else (some 0)))) := by
          intro k
          rw [hj, decide_eq_false hu]
          simp only [aH.j1]
          rw [if_neg (by decide)]
        have hs : flt (n + 1) ⟨a0, a1, a2, a3, l⟩ = (if a0 = 2 then (if a1 < -1000 ∨ a1 > a2 ∨ a2 > 1000 then 1 else 0) else if a0 = 5 then (if l.length < 2 ∨ l.length > 4 then 1 else fl1 (flt n) l) else if a0 = 6 then (if a3 < 1 ∨ a3 > 4 then 1 else lst1 (flt n) l) else 0) := by
          simp only [flt, if_neg hk, if_neg hu]
        rw [hs]
        by_cases k2 : a0 = 2
        · refine ⟨3, fun k hk2 => ?_⟩
          obtain ⟨k, rfl⟩ : ∃ j, k = j + 3 := ⟨k - 3, by omega⟩
          rw [hj0, if_pos k2, if_pos k2]
          by_cases c1 : a1 < -1000
          · rw [if_pos c1, if_pos (by omega)]
          · by_cases c2 : a1 > a2
            · rw [if_neg c1, if_pos c2, if_pos (by omega)]
            · by_cases c3 : a2 > 1000
              · rw [if_neg c1, if_neg c2, if_pos c3, if_pos (by omega)]
              · rw [if_neg c1, if_neg c2, if_neg c3, if_neg (by omega)]
        · by_cases k5 : a0 = 5
          · by_cases c : l.length < 2 ∨ l.length > 4
            · refine ⟨4, fun k hk2 => ?_⟩
              obtain ⟨k, rfl⟩ : ∃ j, k = j + 4 := ⟨k - 4, by omega⟩
              rw [hj0, if_neg k2, if_neg k2, if_pos k5, if_pos k5, if_pos c]
              split
              · simp only [aH.j2, if_true]
              · rw [show decide ((l.length : Int) > 4) = true from by simp; omega]; simp only [aH.j2, if_true]
            · obtain ⟨K, e⟩ := wrong_l0 n l hl a0 a1 a2 a3 (fun x hx => ih x (by omega) (hb.2 x hx)) l.length 0 (by omega)
              refine ⟨K + 4, fun k hk2 => ?_⟩
              obtain ⟨k, rfl⟩ : ∃ j, k = j + 4 := ⟨k - 4, by omega⟩
              rw [hj0, if_neg k2, if_neg k2, if_pos k5, if_pos k5, if_neg c, if_neg (by omega), show decide ((l.length : Int) > 4) = false from by simp; omega]
              have e' := e k (by omega)
              dsimp only at e'
              simp only [aH.j2]
              rw [if_neg (by decide)]
              exact e'
          · by_cases k6 : a0 = 6
            · by_cases c : a3 < 1 ∨ a3 > 4
              · refine ⟨4, fun k hk2 => ?_⟩
                obtain ⟨k, rfl⟩ : ∃ j, k = j + 4 := ⟨k - 4, by omega⟩
                rw [hj0, if_neg k2, if_neg k2, if_neg k5, if_neg k5, if_pos k6, if_pos k6, if_pos c]
                split
                · simp only [aH.j4, if_true]
                · rw [show decide (a3 > 4) = true from by simp; omega]; simp only [aH.j4, if_true]
              · have hj3 : ∀ k, at_ aH.f ⟨a0, a1, a2, a3, l⟩ (k + 4) = aH.j4 (k + 1) false a0 a1 a2 a3 l := by
                  intro k
                  rw [hj0, if_neg k2, if_neg k5, if_pos k6, if_neg (by omega), show decide (a3 > 4) = false from by simp; omega]
                rw [if_neg k2, if_neg k5, if_pos k6, if_neg c]
                match l, hl, hb, hj3 with
                | [x], hl, hb, hj3 =>
                  obtain ⟨K, e⟩ := ih x (by omega) (hb.2 x List.mem_cons_self)
                  refine ⟨K + 4, fun k hk2 => ?_⟩
                  obtain ⟨k, rfl⟩ : ∃ j, k = j + 4 := ⟨k - 4, by omega⟩
                  have e' := e k (by omega)
                  unfold at_ at e'
                  rw [hj3]
                  simp only [aH.j4]
                  rw [if_neg (by decide), if_pos (by simp), if_pos (by simp), rdT0 (by simp), List.getElem_cons_zero, e', Option.bind_some]
                  simp only [lst1]
                  repeat' split
                  all_goals rfl
                | [], hl, hb, hj3 =>
                  refine ⟨4, fun k hk2 => ?_⟩
                  obtain ⟨k, rfl⟩ : ∃ j, k = j + 4 := ⟨k - 4, by omega⟩
                  rw [hj3]; simp only [aH.j4]; rfl
                | x :: y :: l, hl, hb, hj3 =>
                  refine ⟨4, fun k hk2 => ?_⟩
                  obtain ⟨k, rfl⟩ : ∃ j, k = j + 4 := ⟨k - 4, by omega⟩
                  rw [hj3]; simp only [aH.j4]
                  rw [if_neg (by decide), if_neg (by simp; omega)]; rfl
            · refine ⟨3, fun k hk2 => ?_⟩
              obtain ⟨k, rfl⟩ : ∃ j, k = j + 3 := ⟨k - 3, by omega⟩
              rw [hj0]
              simp only [if_neg k2, if_neg k5, if_neg k6]

end Go.Proofs.YtggelekooacmnaaDoor.Pure
set_option linter.unusedVariables false
set_option linter.unusedSimpArgs false
namespace Go.Proofs.YtggelekooacmnaaDoor.Pure
open Go.RowKit Go.Proofs.YtggelekooacmnaaDoor.Q Go.Proofs.YtggelekooacmnaaDoorW.bg Go.Proofs.YtggelekooacmnaaDoorW.bW Go.Proofs.YtggelekooacmnaaDoorW.dh
-- valid types, their parts, Validate
inductive Vt : Nat → S24 → Prop
  | bool (n : Nat) : Vt (n + 1) ⟨1, 0, 0, 0, []⟩
  | int (n : Nat) (lo hi : Int) (h1 : -1000 ≤ lo) (h2 : lo ≤ hi) (h3 : hi ≤ 1000) : Vt (n + 1) ⟨2, lo, hi, 0, []⟩
  | nat (n : Nat) : Vt (n + 1) ⟨3, 0, 0, 0, []⟩
  | real (n : Nat) : Vt (n + 1) ⟨4, 0, 0, 0, []⟩
  | tup (n : Nat) (l : List S24) (h1 : 2 ≤ l.length) (h2 : l.length ≤ 4) (h3 : ∀ x ∈ l, Vt n x) (h4 : ∀ x ∈ l, x.f0 ≠ 3 ∧ x.f0 ≠ 4) : Vt (n + 1) ⟨5, 0, 0, 0, l⟩
  | lst (n : Nat) (m : Int) (x : S24) (h1 : 1 ≤ m) (h2 : m ≤ 4) (h3 : Vt n x) (h4 : x.f0 = 1 ∨ x.f0 = 2) : Vt (n + 1) ⟨6, 0, 0, m, [x]⟩
theorem Vt.up {n : Nat} : ∀ {t : S24}, Vt n t → Vt (n + 1) t := by
  induction n with
  | zero => intro t h; cases h
  | succ n ih =>
    intro t h
    cases h with
    | bool => exact .bool _
    | int _ lo hi h1 h2 h3 => exact .int _ _ _ h1 h2 h3
    | nat => exact .nat _
    | real => exact .real _
    | tup _ l h1 h2 h3 h4 => exact .tup _ _ h1 h2 (fun x hx => ih (h3 x hx)) h4
    | lst _ m x h1 h2 h3 h4 => exact .lst _ _ _ h1 h2 (ih h3) h4
theorem Vt.mono {n m : Nat} (h : n ≤ m) {t : S24} (ht : Vt n t) : Vt m t := by
  induction h with
  | refl => exact ht
  | step _ ih => exact ih.up
theorem Vt.bd {n : Nat} : ∀ {t : S24}, Vt n t → Bd n t := by
  induction n with
  | zero => intro t h; cases h
  | succ n ih =>
    intro t h
    cases h with
    | bool => exact ⟨by simp, by simp⟩
    | int _ lo hi h1 h2 h3 => exact ⟨by simp, by simp⟩
    | nat => exact ⟨by simp, by simp⟩
    | real => exact ⟨by simp, by simp⟩
    | tup _ l h1 h2 h3 h4 => exact ⟨by show l.length ≤ 1000; omega, fun x hx => ih (h3 x hx)⟩
    | lst _ m x h1 h2 h3 h4 => exact ⟨by simp, fun y hy => by simp at hy; subst hy; exact ih h3⟩
theorem OP {f : S24 → Int} : ∀ {l : List S24}, fl1 f l = 0 ↔ ∀ x ∈ l, f x = 0 ∧ x.f0 ≠ 3 ∧ x.f0 ≠ 4
  | [] => by simp [fl1]
  | x :: l => by
    simp only [fl1, List.forall_mem_cons]
    by_cases h : f x = 0
    · by_cases h3 : x.f0 = 3
      · simp [h, h3]
      · by_cases h4 : x.f0 = 4
        · simp [h, h4]
        · simp only [h, h3, h4, if_true, if_false, true_and, not_false_eq_true, ne_eq, OP]
    · simp [h]
theorem flt_vt (n : Nat) : ∀ {t : S24}, Bd n t → flt n t = 0 → Vt n t := by
  induction n with
  | zero => intro t h; exact h.elim
  | succ n ih =>
    intro t hb h
    obtain ⟨a0, a1, a2, a3, l⟩ := t
    simp only [flt] at h
    by_cases hk : a0 < 1 ∨ 6 < a0
    · rw [if_pos hk] at h; omega
    · rw [if_neg hk] at h
      by_cases hu : unus a0 a1 a2 a3 l
      · rw [if_pos hu] at h; omega
      · rw [if_neg hu] at h
        unfold unus at hu
        have hnil : a0 < 5 → l = [] := fun h5 => List.eq_nil_of_length_eq_zero (by omega)
        rcases OO hk with rfl | rfl | rfl | rfl | rfl | rfl
        · obtain rfl := hnil (by omega)
          obtain rfl : a1 = 0 := by omega
          obtain rfl : a2 = 0 := by omega
          obtain rfl : a3 = 0 := by omega
          exact .bool _
        · obtain rfl := hnil (by omega)
          obtain rfl : a3 = 0 := by omega
          simp at h
          exact .int _ _ _ (by omega) (by omega) (by omega)
        · obtain rfl := hnil (by omega)
          obtain rfl : a1 = 0 := by omega
          obtain rfl : a2 = 0 := by omega
          obtain rfl : a3 = 0 := by omega
          exact .nat _
        · obtain rfl := hnil (by omega)
          obtain rfl : a1 = 0 := by omega
          obtain rfl : a2 = 0 := by omega
          obtain rfl : a3 = 0 := by omega
          exact .real _
        · obtain rfl : a1 = 0 := by omega
          obtain rfl : a2 = 0 := by omega
          obtain rfl : a3 = 0 := by omega
          rw [if_neg (by omega), if_pos rfl] at h
          by_cases hc : l.length < 2 ∨ l.length > 4
          · rw [if_pos hc] at h; omega
          · rw [if_neg hc, OP] at h
            exact .tup _ _ (by omega) (by omega) (fun x hx => ih (hb.2 x hx) (h x hx).1) (fun x hx => (h x hx).2)
        · obtain rfl : a1 = 0 := by omega
          obtain rfl : a2 = 0 := by omega
          rw [if_neg (by omega), if_neg (by omega), if_pos rfl] at h
          by_cases hc : a3 < 1 ∨ a3 > 4
          · rw [if_pos hc] at h; omega
          · rw [if_neg hc] at h
            match l, hb, h with
            | [x], hb, h =>
              simp only [lst1] at h
              by_cases hx : flt n x = 0
              · rw [if_pos hx] at h
                refine .lst _ _ _ (by omega) (by omega) (ih (hb.2 x List.mem_cons_self) hx) ?_
                by_cases h1 : x.f0 = 1
                · exact .inl h1
                · by_cases h2 : x.f0 = 2
                  · exact .inr h2
                  · simp [h1, h2] at h
              · rw [if_neg hx] at h; exact absurd h hx
            | [], _, h => simp [lst1] at h
            | _ :: _ :: _, _, h => simp [lst1] at h
theorem vt_flt (n : Nat) : ∀ {t : S24}, Vt n t → flt n t = 0 := by
  induction n with
  | zero => intro t h; cases h
  | succ n ih =>
    intro t h
    cases h with
    | bool => simp [flt]
    | int _ lo hi h1 h2 h3 =>
      simp only [flt]
      rw [if_neg (by omega), if_neg (by simp), if_pos trivial, if_neg (by omega)]
    | nat => simp [flt]
    | real => simp [flt]
    | tup _ l h1 h2 h3 h4 =>
      simp only [flt]
      rw [if_neg (by omega), if_neg (by simp), if_neg (by omega), if_pos trivial, if_neg (by omega), OP]
      exact fun x hx => ⟨ih (h3 x hx), h4 x hx⟩
    | lst _ m x h1 h2 h3 h4 =>
      simp only [flt]
      rw [if_neg (by omega), if_neg (by simp), if_neg (by omega), if_neg (by omega), if_pos trivial, if_neg (by omega)]
      simp only [lst1]
      rw [if_pos (ih h3)]
      rcases h4 with h4 | h4 <;> simp [h4]
theorem vt_dep (n : Nat) : ∀ {t : S24}, Vt n t → ∀ m, dep m t ≤ n := by
  induction n with
  | zero => intro t h; cases h
  | succ n ih =>
    intro t h m
    cases m with
    | zero => simp [dep]; omega
    | succ m =>
      simp only [dep]
      have : mxl (dep m) t.f4 0 ≤ n := by
        refine UA (fun x hx => ?_) (by omega)
        cases h with
        | bool => simp at hx
        | int _ lo hi h1 h2 h3 => simp at hx
        | nat => simp at hx
        | real => simp at hx
        | tup _ l h1 h2 h3 h4 => exact ih (h3 x hx) m
        | lst _ m' y h1 h2 h3 h4 => simp at hx; subst hx; exact ih h3 m
      omega
theorem TG {f : S24 → Int} : ∀ {l : List S24} {m : Int} {x : S24}, x ∈ l → f x ≤ mxl f l m
  | y :: l, m, x, h => by
    simp only [mxl]
    rcases List.mem_cons.1 h with rfl | h
    · exact Int.le_trans mx_ge.2 (MW f l _)
    · exact TG h
theorem vt_low (n : Nat) : ∀ {t : S24} (d : Nat), Vt n t → dep n t ≤ d → Vt d t := by
  induction n with
  | zero => intro t d h; cases h
  | succ n ih =>
    intro t d h hd
    simp only [dep] at hd
    have h0 := MW (dep n) t.f4 0
    obtain ⟨d, rfl⟩ : ∃ e, d = e + 1 := ⟨d - 1, by omega⟩
    cases h with
    | bool => exact .bool _
    | int _ lo hi h1 h2 h3 => exact .int _ _ _ h1 h2 h3
    | nat => exact .nat _
    | real => exact .real _
    | tup _ l h1 h2 h3 h4 => exact .tup _ _ h1 h2 (fun x hx => ih d (h3 x hx) (by have := TG (f := dep n) (m := 0) hx; simp only at hd; omega)) h4
    | lst _ m x h1 h2 h3 h4 => exact .lst _ _ _ h1 h2 (ih d h3 (by have := TG (f := dep n) (m := 0) (x := x) (l := [x]) List.mem_cons_self; simp only at hd; omega)) h4
def prt : Nat → S24 → List S41
  | 0, _ => []
  | n + 1, t => if t.f0 = 1 then [⟨1, 0, 1⟩] else if t.f0 = 2 then [⟨2, t.f1, t.f2⟩] else if t.f0 = 3 ∨ t.f0 = 4 then [⟨t.f0, 0, 0⟩]
    else if t.f0 = 6 then ⟨2, 0, t.f3⟩ :: (List.replicate t.f3.toNat (prt n (ah t.f4 0))).flatten else (t.f4.map (prt n)).flatten
theorem flat_len {l : List S24} {f : S24 → List S41} {c : Nat} (h : ∀ x ∈ l, (f x).length ≤ c) : (l.map f).flatten.length ≤ l.length * c := by
  induction l with
  | nil => simp
  | cons x l ih =>
    have h1 := h x List.mem_cons_self
    have h2 := ih (fun y hy => h y (List.mem_cons_of_mem x hy))
    simp only [List.map_cons, List.flatten_cons, List.length_append, List.length_cons, Nat.add_mul]
    omega
theorem X3 {α : Type} (m : Nat) (l : List α) : (List.replicate m l).flatten.length = m * l.length := by simp
theorem rd1 (x : S24) : ah [x] 0 = x := by simp [ah]
theorem TH (n : Nat) : ∀ {t : S24}, Vt n t → (prt n t).length ≤ 5 ^ n ∧ 1 ≤ (prt n t).length := by
  induction n with
  | zero => intro t h; cases h
  | succ n ih =>
    intro t h
    have hp : 1 ≤ 5 ^ n := Nat.pos_of_ne_zero (by simp)
    have h5 : 5 ^ (n + 1) = 5 ^ n * 5 := Nat.pow_succ ..
    cases h with
    | bool => simp [prt]; omega
    | int _ lo hi h1 h2 h3 => simp [prt]; omega
    | nat => simp [prt]; omega
    | real => simp [prt]; omega
    | tup _ l h1 h2 h3 h4 =>
      have e : prt (n + 1) ⟨5, 0, 0, 0, l⟩ = (l.map (prt n)).flatten := by simp [prt]
      rw [e]
      have hl := flat_len (fun x hx => (ih (h3 x hx)).1)
      have : l.length * 5 ^ n ≤ 4 * 5 ^ n := Nat.mul_le_mul_right _ h2
      refine ⟨by omega, ?_⟩
      match l, h1, h3 with
      | x :: l, _, h3 =>
        have := (ih (h3 x List.mem_cons_self)).2
        simp only [List.map_cons, List.flatten_cons, List.length_append]; omega
    | lst _ m x h1 h2 h3 h4 =>
      have e : prt (n + 1) ⟨6, 0, 0, m, [x]⟩ = ⟨2, 0, m⟩ :: (List.replicate m.toNat (prt n x)).flatten := by simp [prt, rd1]
      have e1 : (prt n x).length = 1 := by
        cases h3 with
        | bool => simp [prt]
        | int _ lo hi h1 h2 h3 => simp [prt]
        | nat => simp at h4
        | real => simp at h4
        | tup _ l _ _ _ _ => simp at h4
        | lst _ m x _ _ _ _ => simp at h4
      rw [e, List.length_cons, X3, e1]
      omega

end Go.Proofs.YtggelekooacmnaaDoor.Pure
set_option linter.unusedVariables false
set_option linter.unusedSimpArgs false
namespace Go.Proofs.YtggelekooacmnaaDoor.Pure
open Go.RowKit Go.Proofs.YtggelekooacmnaaDoor.Q Go.Proofs.YtggelekooacmnaaDoorW.bg Go.Proofs.YtggelekooacmnaaDoorW.bW Go.Proofs.YtggelekooacmnaaDoorW.dh
-- width, Parts, Validate
theorem wid_l0 (n : Nat) (l : List S24) (hl : l.length ≤ 4) (B : Nat) (hB : B ≤ 10000000) (ih : ∀ t ∈ l, Ev (at_ dG.f t) ((prt n t).length : Int) ∧ (prt n t).length ≤ B) :
    ∀ (d i m : Nat), m ≤ i * B → i + d = l.length → Ev (fun k => dG.l0 k m l l.length i) ((m + ((l.drop i).map (prt n)).flatten.length : Nat) : Int) := by
  intro d
  induction d with
  | zero =>
    intro i m h0 hi
    refine ⟨1, fun k hk => ?_⟩
    obtain ⟨k, rfl⟩ : ∃ j, k = j + 1 := ⟨k - 1, by omega⟩
    simp only [dG.l0]
    rw [if_neg (by omega), List.drop_eq_nil_of_le (by omega)]; rfl
  | succ d IH =>
    intro i m h0 hi
    have hlt : i < l.length := by omega
    obtain ⟨⟨K1, e1⟩, hb⟩ := ih l[i] (List.getElem_mem hlt)
    have hm : m + (prt n l[i]).length ≤ (i + 1) * B := by rw [Nat.add_mul]; omega
    have hm2 : (i + 1) * B ≤ 4 * B := Nat.mul_le_mul_right _ (by omega)
    obtain ⟨K2, e2⟩ := IH (i + 1) (m + (prt n l[i]).length) hm (by omega)
    refine ⟨max K1 K2 + 1, fun k hk => ?_⟩
    obtain ⟨k, rfl⟩ : ∃ j, k = j + 1 := ⟨k - 1, by omega⟩
    have e1' := e1 k (by omega)
    have e2' := e2 k (by omega)
    unfold at_ at e1'
    dsimp only at e1' e2'
    simp only [dG.l0]
    have ew : wrap64 ((m : Int) + ((prt n l[i]).length : Int)) = ((m + (prt n l[i]).length : Nat) : Int) := by unfold wrap64; omega
    rw [if_pos (by omega), if_pos (by omega), if_pos (by omega), rdT hlt, e1', Option.bind_some, mi (by omega), ew, e2', List.drop_eq_getElem_cons hlt]
    simp only [List.map_cons, List.flatten_cons, List.length_append, Nat.add_assoc]
theorem UF {n : Nat} {x : S24} (h3 : Vt n x) (h4 : x.f0 = 1 ∨ x.f0 = 2) : (prt n x).length = 1 := by
  cases h3 with
  | bool => simp [prt]
  | int _ lo hi h1 h2 h3 => simp [prt]
  | nat => simp at h4
  | real => simp at h4
  | tup _ l _ _ _ _ => simp at h4
  | lst _ m x _ _ _ _ => simp at h4
theorem prt5 (n : Nat) (a1 a2 a3 : Int) (l : List S24) : prt (n + 1) ⟨5, a1, a2, a3, l⟩ = (l.map (prt n)).flatten := by simp [prt]
theorem prt6 (n : Nat) (a1 a2 m : Int) (x : S24) : prt (n + 1) ⟨6, a1, a2, m, [x]⟩ = ⟨2, 0, m⟩ :: (List.replicate m.toNat (prt n x)).flatten := by simp [prt, rd1]
theorem pow5 {n : Nat} (h : n ≤ 9) : 5 ^ n ≤ 5 ^ 9 := Nat.pow_le_pow_right (by omega) h
theorem UG (n : Nat) : ∀ {t : S24}, n ≤ 10 → Vt n t → Ev (at_ dG.f t) ((prt n t).length : Int) := by
  induction n with
  | zero => intro t _ h; cases h
  | succ n ih =>
    intro t hn h
    have one : ∀ a0 a1 a2 a3 : Int, ∀ l, a0 ≠ 5 → a0 ≠ 6 → Ev (at_ dG.f ⟨a0, a1, a2, a3, l⟩) (1 : Int) := by
      intro a0 a1 a2 a3 l h5 h6
      refine ⟨1, fun k hk => ?_⟩
      obtain ⟨k, rfl⟩ : ∃ j, k = j + 1 := ⟨k - 1, by omega⟩
      simp only [at_, dG.f, if_neg h5, if_neg h6]
    cases h with
    | bool => exact one _ _ _ _ _ (by decide) (by decide)
    | int _ lo hi h1 h2 h3 => exact one _ _ _ _ _ (by decide) (by decide)
    | nat => exact one _ _ _ _ _ (by decide) (by decide)
    | real => exact one _ _ _ _ _ (by decide) (by decide)
    | tup _ l h1 h2 h3 h4 =>
      have hp := pow5 (show n ≤ 9 by omega)
      obtain ⟨K, e⟩ := wid_l0 n l h2 (5 ^ n) (by omega) (fun x hx => ⟨ih (by omega) (h3 x hx), (TH n (h3 x hx)).1⟩) l.length 0 0 (by omega) (by omega)
      rw [prt5]
      refine ⟨K + 1, fun k hk => ?_⟩
      obtain ⟨k, rfl⟩ : ∃ j, k = j + 1 := ⟨k - 1, by omega⟩
      have e' := e k (by omega)
      simp only [at_, dG.f, if_pos]
      simpa using e'
    | lst _ m x h1 h2 h3 h4 =>
      obtain ⟨K, e⟩ := ih (by omega) h3
      have e1 := UF h3 h4
      rw [prt6, List.length_cons, X3, e1]
      refine ⟨K + 1, fun k hk => ?_⟩
      obtain ⟨k, rfl⟩ : ∃ j, k = j + 1 := ⟨k - 1, by omega⟩
      have e' := e k (by omega)
      unfold at_ at e'
      simp only [at_, dG.f]
      rw [if_neg (by decide), if_pos trivial, if_pos (by simp), rd1, e', Option.bind_some, e1]
      have : wrap64 (1 + wrap64 (m * ((1 : Nat) : Int))) = ((m.toNat * 1 + 1 : Nat) : Int) := by unfold wrap64; omega
      rw [this]
theorem Parts_l0 (n : Nat) (x : S24) (a0 a1 a2 m : Int) (hm : m ≤ 4) (ih : Ev (at_ bq.f x) (prt n x)) (hx : (prt n x).length = 1) :
    ∀ (d i : Nat) (o : List S41), o.length ≤ i + 1 → (i : Int) + d = m → Ev (fun k => bq.l0 k o i a0 a1 a2 m [x]) (o ++ (List.replicate d (prt n x)).flatten) := by
  intro d
  induction d with
  | zero =>
    intro i o ho hi
    refine ⟨1, fun k hk => ?_⟩
    obtain ⟨k, rfl⟩ : ∃ j, k = j + 1 := ⟨k - 1, by omega⟩
    simp only [bq.l0]
    rw [if_neg (by omega)]; simp
  | succ d IH =>
    intro i o ho hi
    obtain ⟨K1, e1⟩ := ih
    obtain ⟨K2, e2⟩ := IH (i + 1) (o ++ prt n x) (by rw [List.length_append]; omega) (by omega)
    refine ⟨max K1 K2 + 1, fun k hk => ?_⟩
    obtain ⟨k, rfl⟩ : ∃ j, k = j + 1 := ⟨k - 1, by omega⟩
    have e1' := e1 k (by omega)
    have e2' := e2 k (by omega)
    unfold at_ at e1'
    dsimp only at e1' e2'
    simp only [bq.l0]
    rw [if_pos (by omega), if_pos (by simp), rd1, e1', Option.bind_some, if_pos (by omega), mi (by omega), e2', List.append_assoc]
    simp only [List.replicate_succ, List.flatten_cons]
theorem Parts_l1 (n : Nat) (l : List S24) (hl : l.length ≤ 4) (a0 a1 a2 a3 : Int) (B : Nat) (hB : B ≤ 10000000) (ih : ∀ t ∈ l, Ev (at_ bq.f t) (prt n t) ∧ (prt n t).length ≤ B) :
    ∀ (d i : Nat) (o : List S41), o.length ≤ i * B → i + d = l.length → Ev (fun k => bq.l1 k o i a0 a1 a2 a3 l) (o ++ ((l.drop i).map (prt n)).flatten) := by
  intro d
  induction d with
  | zero =>
    intro i o ho hi
    refine ⟨1, fun k hk => ?_⟩
    obtain ⟨k, rfl⟩ : ∃ j, k = j + 1 := ⟨k - 1, by omega⟩
    simp only [bq.l1]
    rw [if_neg (by omega), List.drop_eq_nil_of_le (by omega)]; simp
  | succ d IH =>
    intro i o ho hi
    have hlt : i < l.length := by omega
    obtain ⟨⟨K1, e1⟩, hb⟩ := ih l[i] (List.getElem_mem hlt)
    have hm : (o ++ prt n l[i]).length ≤ (i + 1) * B := by rw [List.length_append, Nat.add_mul]; omega
    have hm2 : (i + 1) * B ≤ 4 * B := Nat.mul_le_mul_right _ (by omega)
    obtain ⟨K2, e2⟩ := IH (i + 1) (o ++ prt n l[i]) hm (by omega)
    refine ⟨max K1 K2 + 1, fun k hk => ?_⟩
    obtain ⟨k, rfl⟩ : ∃ j, k = j + 1 := ⟨k - 1, by omega⟩
    have e1' := e1 k (by omega)
    have e2' := e2 k (by omega)
    unfold at_ at e1'
    dsimp only at e1' e2'
    simp only [bq.l1]
    rw [List.length_append] at hm
    rw [if_pos (by omega), if_pos (by omega), rdT hlt, e1', Option.bind_some, if_pos (by omega), mi (by omega), e2', List.append_assoc, List.drop_eq_getElem_cons hlt]
    simp only [List.map_cons, List.flatten_cons]
theorem OQ (n : Nat) : ∀ {t : S24}, n ≤ 10 → Vt n t → Ev (at_ bq.f t) (prt n t) := by
  induction n with
  | zero => intro t _ h; cases h
  | succ n ih =>
    intro t hn h
    cases h with
    | bool =>
      refine ⟨2, fun k hk => ?_⟩
      obtain ⟨k, rfl⟩ : ∃ j, k = j + 2 := ⟨k - 2, by omega⟩
      simp [at_, bq.f, prt]
    | int _ lo hi h1 h2 h3 =>
      refine ⟨2, fun k hk => ?_⟩
      obtain ⟨k, rfl⟩ : ∃ j, k = j + 2 := ⟨k - 2, by omega⟩
      simp [at_, bq.f, prt]
    | nat =>
      refine ⟨2, fun k hk => ?_⟩
      obtain ⟨k, rfl⟩ : ∃ j, k = j + 2 := ⟨k - 2, by omega⟩
      simp [at_, bq.f, bq.j0, prt]
    | real =>
      refine ⟨2, fun k hk => ?_⟩
      obtain ⟨k, rfl⟩ : ∃ j, k = j + 2 := ⟨k - 2, by omega⟩
      simp [at_, bq.f, bq.j0, prt]
    | tup _ l h1 h2 h3 h4 =>
      have hp := pow5 (show n ≤ 9 by omega)
      obtain ⟨K, e⟩ := Parts_l1 n l h2 5 0 0 0 (5 ^ n) (by omega) (fun x hx => ⟨ih (by omega) (h3 x hx), (TH n (h3 x hx)).1⟩) l.length 0 [] (by simp) (by omega)
      rw [prt5]
      refine ⟨K + 2, fun k hk => ?_⟩
      obtain ⟨k, rfl⟩ : ∃ j, k = j + 2 := ⟨k - 2, by omega⟩
      have e' := e k (by omega)
      simp [at_, bq.f, bq.j0]
      simpa using e'
    | lst _ m x h1 h2 h3 h4 =>
      have e1 := UF h3 h4
      obtain ⟨K, e⟩ := Parts_l0 n x 6 0 0 m h2 (ih (by omega) h3) e1 m.toNat 0 [⟨2, 0, m⟩] (by simp) (by omega)
      rw [prt6]
      refine ⟨K + 2, fun k hk => ?_⟩
      obtain ⟨k, rfl⟩ : ∃ j, k = j + 2 := ⟨k - 2, by omega⟩
      have e' := e k (by omega)
      simp [at_, bq.f, bq.j0]
      simpa using e'
/-- Validate, of whatever type within the bounds: program and reference agree; and what is valid. -/
theorem UQ {n : Nat} {t : S24} (hn : n ≤ 1000) (hb : Bd n t) : ∃ e, Ev (at_ dE.f t) e ∧ Ev (at_ bZ.f t) e ∧ (e = 0 → Vt 10 t ∧ (prt 10 t).length ≤ 24) := by
  obtain ⟨K1, e1⟩ := UB n t hn hb
  obtain ⟨K2, e2⟩ := UD n t hn hb
  obtain ⟨K3, e3⟩ := UC n t 11 hn (by omega) (by omega) hb
  obtain ⟨K4, e4⟩ := UE n t hn hb
  unfold at_ at e1 e2 e4
  dsimp only at e3
  by_cases hd : dep n t > 10
  · refine ⟨9, ⟨K1, fun k hk => ?_⟩, ⟨K3, fun k hk => ?_⟩, fun h => absurd h (by decide)⟩
    · simp only [at_, dE.f]
      rw [e1 k hk, Option.bind_some, if_pos hd]
    · simp only [at_, bZ.f]
      rw [e3 k hk, Option.bind_some, if_pos (by omega)]
  · by_cases hf : flt n t = 0
    · have hv := vt_low n 10 (flt_vt n hb hf) (by omega)
      obtain ⟨K5, e5⟩ := UG 10 (by omega) hv
      obtain ⟨K6, e6⟩ := OQ 10 (by omega) hv
      unfold at_ at e5 e6
      refine ⟨if (prt 10 t).length > 24 then 9 else 0, ⟨K1 + K2 + K5, fun k hk => ?_⟩, ⟨K3 + K4 + K6, fun k hk => ?_⟩, fun h => ⟨hv, ?_⟩⟩
      · simp only [at_, dE.f]
        rw [e1 k (by omega), Option.bind_some, if_neg hd, e2 k (by omega), Option.bind_some, if_pos hf, e5 k (by omega), Option.bind_some]
        split <;> split <;> first | rfl | omega
      · simp only [at_, bZ.f]
        rw [e3 k (by omega), Option.bind_some, if_neg (by omega), e4 k (by omega), Option.bind_some, if_pos hf, e6 k (by omega), Option.bind_some]
        split <;> split <;> first | rfl | omega
      · split at h <;> omega
    · refine ⟨flt n t, ⟨K1 + K2, fun k hk => ?_⟩, ⟨K3 + K4, fun k hk => ?_⟩, fun h => absurd h hf⟩
      · simp only [at_, dE.f]
        rw [e1 k (by omega), Option.bind_some, if_neg hd, e2 k (by omega), Option.bind_some, if_neg hf]
      · simp only [at_, bZ.f]
        rw [e3 k (by omega), Option.bind_some, if_neg (by omega), e4 k (by omega), Option.bind_some, if_neg hf]
theorem OG {t : S24} (hv : Vt 10 t) (hl : (prt 10 t).length ≤ 24) : Ev (at_ dE.f t) 0 ∧ Ev (at_ bZ.f t) 0 := by
  obtain ⟨K1, e1⟩ := UB 10 t (by omega) hv.bd
  obtain ⟨K2, e2⟩ := UD 10 t (by omega) hv.bd
  obtain ⟨K3, e3⟩ := UC 10 t 11 (by omega) (by omega) (by omega) hv.bd
  obtain ⟨K4, e4⟩ := UE 10 t (by omega) hv.bd
  obtain ⟨K5, e5⟩ := UG 10 (by omega) hv
  obtain ⟨K6, e6⟩ := OQ 10 (by omega) hv
  unfold at_ at e1 e2 e4 e5 e6
  dsimp only at e3
  have hd := vt_dep 10 hv 10
  have hf := vt_flt 10 hv
  refine ⟨⟨K1 + K2 + K5, fun k hk => ?_⟩, ⟨K3 + K4 + K6, fun k hk => ?_⟩⟩
  · simp only [at_, dE.f]
    rw [e1 k (by omega), Option.bind_some, if_neg (by omega), e2 k (by omega), Option.bind_some, if_pos hf, e5 k (by omega), Option.bind_some, if_neg (by omega)]
  · simp only [at_, bZ.f]
    rw [e3 k (by omega), Option.bind_some, if_neg (by omega), e4 k (by omega), Option.bind_some, if_pos hf, e6 k (by omega), Option.bind_some, if_neg (by omega)]

end Go.Proofs.YtggelekooacmnaaDoor.Pure
set_option linter.unusedVariables false
set_option linter.unusedSimpArgs false
namespace Go.Proofs.YtggelekooacmnaaDoor.Pure
open Go.RowKit Go.Proofs.YtggelekooacmnaaDoor.Q Go.Proofs.YtggelekooacmnaaDoorW.bg Go.Proofs.YtggelekooacmnaaDoorW.bW Go.Proofs.YtggelekooacmnaaDoorW.dh
theorem Gx (x : S24) : (⟨x.f0, x.f1, x.f2, x.f3, x.f4⟩ : S24) = x := by cases x; rfl

-- the reader of numbers, and the types that are built
/-- a reader's state -/
structure Rs (l : List Int) (at0 : Int) : Prop where
  len : l.length ≤ 1000
  lo : 0 ≤ at0
  hi : at0 ≤ l.length
theorem raw_ok {l : List Int} {p s : Int} (h : Rs l p) : ∃ x p', jR.f l p s = some (x, p', s) ∧ Rs l p' := by
  obtain ⟨h1, h2, h3⟩ := h
  unfold jR.f
  by_cases c : p ≥ (l.length : Int)
  · exact ⟨0, p, by rw [if_pos c], ⟨h1, h2, h3⟩⟩
  · have e : wrap64 (p + 1) = p + 1 := by unfold wrap64; omega
    have e2 : wrap64 (p + 1 - 1) = p := by unfold wrap64; omega
    rw [if_neg c, e, e2, if_pos h2, if_pos (by omega)]
    exact ⟨_, _, rfl, ⟨h1, by omega, by omega⟩⟩
theorem tmod_bd (x a : Int) (ha : 0 < a) : -a < Int.tmod x a ∧ Int.tmod x a < a := by
  have h1 := Int.tmod_lt_of_pos x ha
  have h2 := Int.tmod_lt_of_pos (-x) ha
  rw [Int.neg_tmod] at h2
  omega
theorem N_ok {l : List Int} {p s a : Int} (h : Rs l p) (ha : a ≤ 1000000) : ∃ x p', dA.f l p s a = some (x, p', s) ∧ Rs l p' ∧ 0 ≤ x ∧ (1 ≤ a → x < a) ∧ (a < 1 → x = 0) := by
  unfold dA.f
  by_cases c : a < 1
  · exact ⟨0, p, by rw [if_pos c], h, by omega, by omega, fun _ => rfl⟩
  · obtain ⟨x, p', e, h'⟩ := raw_ok (s := s) h
    have hb := tmod_bd x a (by omega)
    rw [if_neg c, e, Option.bind_some, if_neg (by omega)]
    dsimp only
    by_cases c2 : Int.tmod x a < 0
    · have ew : wrap64 (Int.tmod x a + a) = Int.tmod x a + a := by unfold wrap64; omega
      rw [if_pos c2, ew]
      exact ⟨_, _, rfl, h', by omega, by omega, by omega⟩
    · rw [if_neg c2]
      exact ⟨_, _, rfl, h', by omega, by omega, by omega⟩
theorem EY {l : List Int} {p s lo hi : Int} (h : Rs l p) (h1 : -100000 ≤ lo) (h2 : lo ≤ hi) (h3 : hi ≤ 100000) : ∃ x p', dQ.f l p s lo hi = some (x, p', s) ∧ Rs l p' ∧ lo ≤ x ∧ x ≤ hi := by
  unfold dQ.f
  have e : wrap64 (wrap64 (hi - lo) + 1) = hi - lo + 1 := by unfold wrap64; omega
  obtain ⟨x, p', e1, h', hx0, hx1, _⟩ := N_ok (s := s) (a := hi - lo + 1) h (by omega)
  have hx := hx1 (by omega)
  have ew : wrap64 (lo + x) = lo + x := by unfold wrap64; omega
  rw [e, e1, Option.bind_some]
  dsimp only
  rw [ew]
  exact ⟨_, _, rfl, h', by omega, by omega⟩
theorem New_ok (l : List Int) : mf.f l = some (l.take 1000, 0, 0) ∧ Rs (l.take 1000) 0 := by
  unfold mf.f
  refine ⟨?_, ⟨by rw [List.length_take]; omega, by omega, by omega⟩⟩
  by_cases c : (l.length : Int) > 1000
  · rw [if_pos c, if_pos (by omega)]
  · rw [if_neg c, List.take_of_length_le (by omega)]
/-- the types that are built, at most d deep -/
inductive Gt : Nat → S24 → Prop
  | bool (d : Nat) : Gt (d + 1) ⟨1, 0, 0, 0, []⟩
  | int (d : Nat) (lo hi : Int) (h1 : -2 ≤ lo) (h2 : lo ≤ hi) (h3 : hi ≤ lo + 3) (h4 : lo ≤ 3) : Gt (d + 1) ⟨2, lo, hi, 0, []⟩
  | tup (d : Nat) (l : List S24) (h1 : 2 ≤ l.length) (h2 : l.length ≤ 3) (h3 : ∀ x ∈ l, Gt d x) : Gt (d + 1) ⟨5, 0, 0, 0, l⟩
  | lst (d : Nat) (m : Int) (x : S24) (h1 : 1 ≤ m) (h2 : m ≤ 2) (h3 : Gt 1 x) (h4 : x.f0 = 1 ∨ x.f0 = 2) (h5 : 1 ≤ d) : Gt (d + 1) ⟨6, 0, 0, m, [x]⟩
theorem Gt.kind {d : Nat} {t : S24} (h : Gt d t) : t.f0 ≠ 3 ∧ t.f0 ≠ 4 ∧ 1 ≤ t.f0 ∧ t.f0 ≤ 6 := by cases h <;> simp
theorem Gt.vt {d : Nat} : ∀ {t : S24}, Gt d t → Vt d t := by
  induction d with
  | zero => intro t h; cases h
  | succ d ih =>
    intro t h
    cases h with
    | bool => exact .bool _
    | int _ lo hi h1 h2 h3 h4 => exact .int _ _ _ (by omega) h2 (by omega)
    | tup _ l h1 h2 h3 => exact .tup _ _ h1 (by omega) (fun x hx => ih (h3 x hx)) (fun x hx => ⟨(h3 x hx).kind.1, (h3 x hx).kind.2.1⟩)
    | lst _ m x h1 h2 h3 h4 h5 =>
      refine .lst _ _ _ h1 (by omega) (Vt.mono h5 ?_) h4
      cases h3 with
      | bool => exact .bool _
      | int _ lo hi h1 h2 h3 h4 => exact .int _ _ _ (by omega) h2 (by omega)
      | tup _ l h1 h2 h3 => simp at h4
      | lst _ m x h1 h2 h3 h4 h5 => omega
theorem Type_l0 (d : Nat) (hd : d ≤ 100) (l : List Int) (s : Int) (ih : ∀ p, Rs l p → ∃ t p', Ev (fun k => aG.f k l p s d) (t.f0, t.f1, t.f2, t.f3, t.f4, p', s) ∧ Gt d t ∧ Rs l p') :
    ∀ (c : Nat) (p : Int) (o : List S24), c ≤ 3 → o.length + c ≤ 3 → Rs l p → (∀ x ∈ o, Gt d x) → ∃ o' p', Ev (fun k => aG.l0 k (d + 1 : Nat) c l p s 5 0 0 0 o) (5, 0, 0, 0, o', p', s) ∧ o'.length = o.length + c ∧ (∀ x ∈ o', Gt d x) ∧ Rs l p' := by
  intro c
  induction c with
  | zero =>
    intro p o hc ho hr hg
    refine ⟨o, p, ⟨1, fun k hk => ?_⟩, by omega, hg, hr⟩
    obtain ⟨k, rfl⟩ : ∃ j, k = j + 1 := ⟨k - 1, by omega⟩
    simp only [aG.l0]
    rw [if_neg (by omega)]
  | succ c IH =>
    intro p o hc ho hr hg
    obtain ⟨t, p1, ⟨K1, e1⟩, g1, hr1⟩ := ih p hr
    obtain ⟨o', p', ⟨K2, e2⟩, hl, hg', hr'⟩ := IH p1 (o ++ [t]) (by omega) (by rw [List.length_append, List.length_singleton]; omega) hr1 (by
      intro x hx
      rcases List.mem_append.1 hx with hx | hx
      · exact hg x hx
      · rw [List.mem_singleton] at hx; rw [hx]; exact g1)
    refine ⟨o', p', ⟨max K1 K2 + 1, fun k hk => ?_⟩, by rw [hl, List.length_append, List.length_singleton]; omega, hg', hr'⟩
    obtain ⟨k, rfl⟩ : ∃ j, k = j + 1 := ⟨k - 1, by omega⟩
    have e1' := e1 k (by omega)
    have e2' := e2 k (by omega)
    dsimp only at e1' e2'
    have ew : wrap64 (((d + 1 : Nat) : Int) - 1) = (d : Int) := by unfold wrap64; omega
    have ec : wrap64 (((c + 1 : Nat) : Int) - 1) = (c : Int) := by unfold wrap64; omega
    simp only [aG.l0]
    rw [if_pos (by omega), ew, e1', Option.bind_some]
    dsimp only
    rw [if_pos (by omega), ec, Gx, e2']
theorem TI (d : Nat) : ∀ {l : List Int} {p s : Int}, 1 ≤ d → d ≤ 100 → Rs l p → ∃ t p', Ev (fun k => aG.f k l p s d) (t.f0, t.f1, t.f2, t.f3, t.f4, p', s) ∧ Gt d t ∧ Rs l p' := by
  induction d with
  | zero => intro l p s h; omega
  | succ d ih =>
    intro l p s h1 h2 hr
    obtain ⟨k1, p1, e1, hr1, b1, b1', _⟩ := N_ok (s := s) (a := 6) hr (by omega)
    have b1' := b1' (by omega)
    have leaf : ∀ (kd q : Int), Rs l q → 0 ≤ kd → kd < 3 → ∃ t p', (∃ K, ∀ k, K ≤ k → aG.j0 k ((d + 1 : Nat) : Int) kd l q s = some (t.f0, t.f1, t.f2, t.f3, t.f4, p', s)) ∧ Gt (d + 1) t ∧ Rs l p' := by
      intro kd q hq c0 c3
      by_cases c : kd = 0
      · refine ⟨⟨1, 0, 0, 0, []⟩, q, ⟨1, fun k hk => ?_⟩, .bool _, hq⟩
        obtain ⟨k, rfl⟩ : ∃ j, k = j + 1 := ⟨k - 1, by omega⟩
        simp only [aG.j0]
        rw [if_pos c]
      · obtain ⟨lo, q1, e2, hq1, l1, l2⟩ := EY (s := s) (lo := -2) (hi := 3) hq (by omega) (by omega) (by omega)
        obtain ⟨w, q2, e3, hq2, w1, w2, _⟩ := N_ok (s := s) (a := 4) hq1 (by omega)
        have w2 := w2 (by omega)
        have ew : wrap64 (lo + w) = lo + w := by unfold wrap64; omega
        refine ⟨⟨2, lo, lo + w, 0, []⟩, q2, ⟨2, fun k hk => ?_⟩, .int _ _ _ l1 (by omega) (by omega) (by omega), hq2⟩
        obtain ⟨k, rfl⟩ : ∃ j, k = j + 2 := ⟨k - 2, by omega⟩
        simp only [aG.j0]
        rw [if_neg c]
        have hb : ∀ b, b = true → aG.j1 (k + 1) ((d + 1 : Nat) : Int) kd b l q s = some (2, lo, lo + w, 0, [], q2, s) := by
          intro b hb
          simp only [aG.j1]
          rw [if_pos hb, e2, Option.bind_some]
          dsimp only
          rw [e3, Option.bind_some]
          dsimp only
          rw [ew]
        by_cases c1 : kd = 1
        · rw [if_pos c1]; exact hb _ (by rw [c1]; rfl)
        · rw [if_neg c1]; exact hb _ (by rw [show kd = 2 from by omega]; rfl)
    by_cases hd : d = 0
    · subst hd
      obtain ⟨k2, p2, e2, hr2, b2, b2', _⟩ := N_ok (s := s) (a := 3) hr1 (by omega)
      have b2' := b2' (by omega)
      obtain ⟨t, p', ⟨K, e⟩, g, hr'⟩ := leaf k2 p2 hr2 b2 b2'
      refine ⟨t, p', ⟨K + 1, fun k hk => ?_⟩, g, hr'⟩
      obtain ⟨k, rfl⟩ : ∃ j, k = j + 1 := ⟨k - 1, by omega⟩
      simp only [aG.f]
      rw [e1, Option.bind_some, if_pos (by omega)]
      dsimp only
      rw [e2, Option.bind_some]
      exact e k (by omega)
    · have hf : ∀ k, aG.f (k + 1) l p s ((d + 1 : Nat) : Int) = aG.j0 k ((d + 1 : Nat) : Int) k1 l p1 s := by
        intro k
        simp only [aG.f]
        rw [e1, Option.bind_some, if_neg (by omega)]
      by_cases c3 : k1 < 3
      · obtain ⟨t, p', ⟨K, e⟩, g, hr'⟩ := leaf k1 p1 hr1 b1 c3
        refine ⟨t, p', ⟨K + 1, fun k hk => ?_⟩, g, hr'⟩
        obtain ⟨k, rfl⟩ : ∃ j, k = j + 1 := ⟨k - 1, by omega⟩
        show aG.f (k + 1) l p s ((d + 1 : Nat) : Int) = _
        rw [hf]
        exact e k (by omega)
      · have hj : ∀ k, aG.f (k + 3) l p s ((d + 1 : Nat) : Int) = (if k1 = 3 then aG.j2 k ((d + 1 : Nat) : Int) true l p1 s else aG.j2 k ((d + 1 : Nat) : Int) (k1 == 4) l p1 s) := by
          intro k
          rw [hf]
          simp only [aG.j0]
          rw [if_neg (by omega), if_neg (by omega), show (k1 == 2) = false from by simp; omega]
          simp only [aG.j1]
          rw [if_neg (by decide)]
          by_cases c : k1 = 3
          · rw [if_pos c, if_pos c, c]; rfl
          · rw [if_neg c, if_neg c]
        by_cases c4 : k1 = 3 ∨ k1 = 4
        · obtain ⟨c, p2, e2, hr2, g1, g2⟩ := EY (s := s) (lo := 2) (hi := 3) hr1 (by omega) (by omega) (by omega)
          obtain ⟨o', p', ⟨K, e⟩, hl, hg, hr'⟩ := Type_l0 d (by omega) l s (fun p hp => ih (by omega) (by omega) hp) c.toNat p2 [] (by omega) (by simp; omega) hr2 (by simp)
          refine ⟨⟨5, 0, 0, 0, o'⟩, p', ⟨K + 4, fun k hk => ?_⟩, .tup _ _ (by simp at hl; omega) (by simp at hl; omega) hg, hr'⟩
          obtain ⟨k, rfl⟩ : ∃ j, k = j + 4 := ⟨k - 4, by omega⟩
          show aG.f (k + 1 + 3) l p s ((d + 1 : Nat) : Int) = _
          have hb : ∀ b, b = true → aG.j2 (k + 1) ((d + 1 : Nat) : Int) b l p1 s = some (5, 0, 0, 0, o', p', s) := by
            intro b hb
            have e' := e k (by omega)
            dsimp only at e'
            simp only [aG.j2]
            rw [if_pos hb, e2, Option.bind_some]
            dsimp only
            rw [show c = (c.toNat : Int) from by omega]
            exact e'
          rw [hj]
          by_cases c : k1 = 3
          · rw [if_pos c]; exact hb _ rfl
          · rw [if_neg c]; exact hb _ (by rw [show k1 = 4 from by omega]; rfl)
        · obtain ⟨m, p2, e2, hr2, g1, g2⟩ := EY (s := s) (lo := 1) (hi := 2) hr1 (by omega) (by omega) (by omega)
          have h1t : ∃ x p', Ev (fun k => aG.f k l p2 s 1) (x.f0, x.f1, x.f2, x.f3, x.f4, p', s) ∧ Gt 1 x ∧ Rs l p' := by
            obtain ⟨k3, p3, e3, hr3, b3, b3', _⟩ := N_ok (s := s) (a := 6) hr2 (by omega)
            obtain ⟨k4, p4, e4, hr4, b4, b4', _⟩ := N_ok (s := s) (a := 3) hr3 (by omega)
            have b4' := b4' (by omega)
            have fin : ∃ x p', (∃ K, ∀ k, K ≤ k → aG.j0 k 1 k4 l p4 s = some (x.f0, x.f1, x.f2, x.f3, x.f4, p', s)) ∧ Gt 1 x ∧ Rs l p' := by
              by_cases c : k4 = 0
              · refine ⟨⟨1, 0, 0, 0, []⟩, p4, ⟨1, fun k hk => ?_⟩, .bool _, hr4⟩
                obtain ⟨k, rfl⟩ : ∃ j, k = j + 1 := ⟨k - 1, by omega⟩
                simp only [aG.j0]
                rw [if_pos c]
              · obtain ⟨lo, q1, e5, hq1, l1, l2⟩ := EY (s := s) (lo := -2) (hi := 3) hr4 (by omega) (by omega) (by omega)
                obtain ⟨w, q2, e6, hq2, w1, w2, _⟩ := N_ok (s := s) (a := 4) hq1 (by omega)
                have w2 := w2 (by omega)
                have ew : wrap64 (lo + w) = lo + w := by unfold wrap64; omega
                refine ⟨⟨2, lo, lo + w, 0, []⟩, q2, ⟨2, fun k hk => ?_⟩, .int _ _ _ l1 (by omega) (by omega) (by omega), hq2⟩
                obtain ⟨k, rfl⟩ : ∃ j, k = j + 2 := ⟨k - 2, by omega⟩
                simp only [aG.j0]
                rw [if_neg c]
                have hb : ∀ b, b = true → aG.j1 (k + 1) 1 k4 b l p4 s = some (2, lo, lo + w, 0, [], q2, s) := by
                  intro b hb
                  simp only [aG.j1]
                  rw [if_pos hb, e5, Option.bind_some]
                  dsimp only
                  rw [e6, Option.bind_some]
                  dsimp only
                  rw [ew]
                by_cases c1 : k4 = 1
                · rw [if_pos c1]; exact hb _ (by rw [c1]; rfl)
                · rw [if_neg c1]; exact hb _ (by rw [show k4 = 2 from by omega]; rfl)
            obtain ⟨x, p', ⟨K, e⟩, g, hr'⟩ := fin
            refine ⟨x, p', ⟨K + 1, fun k hk => ?_⟩, g, hr'⟩
            obtain ⟨k, rfl⟩ : ∃ j, k = j + 1 := ⟨k - 1, by omega⟩
            simp only [aG.f]
            rw [e3, Option.bind_some, if_pos (by omega)]
            dsimp only
            rw [e4, Option.bind_some]
            exact e k (by omega)
          obtain ⟨x, p', ⟨K, e⟩, g, hr'⟩ := h1t
          have hk12 : x.f0 = 1 ∨ x.f0 = 2 := by
            cases g with
            | bool => exact .inl rfl
            | int => exact .inr rfl
            | tup _ l h1 h2 h3 =>
              match l, h1, h3 with
              | y :: _, _, h3 => exact nomatch h3 y List.mem_cons_self
            | lst _ _ _ _ _ _ _ h5 => omega
          refine ⟨⟨6, 0, 0, m, [x]⟩, p', ⟨K + 4, fun k hk => ?_⟩, .lst _ _ _ g1 g2 g hk12 (by omega), hr'⟩
          obtain ⟨k, rfl⟩ : ∃ j, k = j + 4 := ⟨k - 4, by omega⟩
          have e' := e (k) (by omega)
          dsimp only at e'
          show aG.f (k + 1 + 3) l p s ((d + 1 : Nat) : Int) = _
          rw [hj, if_neg (by omega), show (k1 == 4) = false from by simp; omega]
          simp only [aG.j2]
          rw [if_neg (by decide), e2, Option.bind_some]
          dsimp only
          rw [e', Option.bind_some]
          dsimp only
          rw [Gx]

theorem Oz {l : List Int} {p s : Int} {ys : List Int} (h : Rs l p) (h1 : 1 ≤ ys.length) (h2 : ys.length ≤ 1000) : ∃ x p', eY.f l p s ys = some (x, p', s) ∧ Rs l p' ∧ x ∈ ys := by
  unfold eY.f
  obtain ⟨x, p', e1, h', hx0, hx1, _⟩ := N_ok (s := s) (a := (ys.length : Int)) h (by omega)
  have hx := hx1 (by omega)
  rw [e1, Option.bind_some]
  dsimp only
  rw [if_pos hx0, if_pos hx]
  refine ⟨_, _, rfl, h', ?_⟩
  have hlt : x.toNat < ys.length := by omega
  have : rd ys x = ys[x.toNat] := by simp [rd, List.getD, hlt]
  rw [this]; exact List.getElem_mem hlt

end Go.Proofs.YtggelekooacmnaaDoor.Pure
set_option linter.unusedVariables false
set_option linter.unusedSimpArgs false
namespace Go.Proofs.YtggelekooacmnaaDoor.Pure
open Go.RowKit Go.Proofs.YtggelekooacmnaaDoor.Q Go.Proofs.YtggelekooacmnaaDoorW.bg Go.Proofs.YtggelekooacmnaaDoorW.bW Go.Proofs.YtggelekooacmnaaDoorW.dh
theorem Vt.len {n : Nat} {t : S24} (h : Vt n t) : t.f4.length ≤ 4 := by
  cases h <;> simp
  assumption
theorem X4 (d : Nat) : ∀ {l : List Int} {p s : Int}, 1 ≤ d → d ≤ 100 → Rs l p → ∃ t p', Ev (fun k => bP.f k l p s d) (t.f0, t.f1, t.f2, t.f3, t.f4, p', s) ∧ Bd (d + 1) t ∧ Rs l p' := by
  induction d with
  | zero => intro l p s h; omega
  | succ d ih =>
    intro l p s _ hd hr
    obtain ⟨t, p1, ⟨K1, e1⟩, g1, r1⟩ := TI (d + 1) (s := s) (by omega) (by omega) hr
    obtain ⟨x, p2, e2, r2, x0, x1, _⟩ := N_ok (s := s) (a := 10) r1 (by omega)
    have hlen := g1.vt.len
    have hin : ∀ y ∈ t.f4, Bd (d + 1) y := fun y hy => (g1.vt.bd.2 y hy).mono
    dsimp only at e1
    by_cases c0 : x = 0
    · obtain ⟨y, p3, e3, r3, _, _⟩ := EY (s := s) (lo := 0) (hi := 7) r2 (by omega) (by omega) (by omega)
      refine ⟨⟨y, t.f1, t.f2, t.f3, t.f4⟩, p3, ⟨K1 + 1, fun k hk => ?_⟩, ⟨by show t.f4.length ≤ 1000; omega, hin⟩, r3⟩
      obtain ⟨k, rfl⟩ : ∃ j, k = j + 1 := ⟨k - 1, by omega⟩
      simp only [bP.f]
      rw [e1 k (by omega), Option.bind_some]; dsimp only
      rw [e2, Option.bind_some]; dsimp only
      rw [if_pos c0, e3, Option.bind_some]
    by_cases c1 : x = 1
    · obtain ⟨y, p3, e3, r3, _⟩ := Oz (s := s) (ys := [-1000, -1001, 0, 5]) r2 (by simp) (by simp)
      refine ⟨⟨t.f0, y, t.f2, t.f3, t.f4⟩, p3, ⟨K1 + 1, fun k hk => ?_⟩, ⟨by show t.f4.length ≤ 1000; omega, hin⟩, r3⟩
      obtain ⟨k, rfl⟩ : ∃ j, k = j + 1 := ⟨k - 1, by omega⟩
      simp only [bP.f]
      rw [e1 k (by omega), Option.bind_some]; dsimp only
      rw [e2, Option.bind_some]; dsimp only
      rw [if_neg c0, if_pos c1, e3, Option.bind_some]
    by_cases c2 : x = 2
    · obtain ⟨y, p3, e3, r3, _⟩ := Oz (s := s) (ys := [1000, 1001, 0, -5]) r2 (by simp) (by simp)
      refine ⟨⟨t.f0, t.f1, y, t.f3, t.f4⟩, p3, ⟨K1 + 1, fun k hk => ?_⟩, ⟨by show t.f4.length ≤ 1000; omega, hin⟩, r3⟩
      obtain ⟨k, rfl⟩ : ∃ j, k = j + 1 := ⟨k - 1, by omega⟩
      simp only [bP.f]
      rw [e1 k (by omega), Option.bind_some]; dsimp only
      rw [e2, Option.bind_some]; dsimp only
      rw [if_neg c0, if_neg c1, if_pos c2, e3, Option.bind_some]
    by_cases c3 : x = 3
    · obtain ⟨y, p3, e3, r3, _⟩ := Oz (s := s) (ys := [0, 4, 5]) r2 (by simp) (by simp)
      refine ⟨⟨t.f0, t.f1, t.f2, y, t.f4⟩, p3, ⟨K1 + 1, fun k hk => ?_⟩, ⟨by show t.f4.length ≤ 1000; omega, hin⟩, r3⟩
      obtain ⟨k, rfl⟩ : ∃ j, k = j + 1 := ⟨k - 1, by omega⟩
      simp only [bP.f]
      rw [e1 k (by omega), Option.bind_some]; dsimp only
      rw [e2, Option.bind_some]; dsimp only
      rw [if_neg c0, if_neg c1, if_neg c2, if_pos c3, e3, Option.bind_some]
    by_cases c4 : x = 4
    · obtain ⟨y, p3, ⟨K3, e3⟩, g3, r3⟩ := TI 1 (s := s) (by omega) (by omega) r2
      dsimp only at e3
      simp only [Int.natCast_one, Int.cast_ofNat_Int] at e3
      have hy : Bd (d + 1) y := (Vt.mono (by omega) g3.vt : Vt (d + 1) y).bd
      refine ⟨⟨t.f0, t.f1, t.f2, t.f3, t.f4 ++ [y]⟩, p3, ⟨K1 + K3 + 1, fun k hk => ?_⟩, ⟨by show (t.f4 ++ [y]).length ≤ 1000; simp only [List.length_append, List.length_cons, List.length_nil]; omega, fun z hz => ?_⟩, r3⟩
      · obtain ⟨k, rfl⟩ : ∃ j, k = j + 1 := ⟨k - 1, by omega⟩
        simp only [bP.f]
        rw [e1 k (by omega), Option.bind_some]; dsimp only
        rw [e2, Option.bind_some]; dsimp only
        rw [if_neg c0, if_neg c1, if_neg c2, if_neg c3, if_pos c4, e3 k (by omega), Option.bind_some]; dsimp only
        rw [if_pos (by omega)]
        rw [Gx]
      · rcases List.mem_append.1 hz with h | h
        · exact hin z h
        · rw [List.mem_singleton.1 h]; exact hy
    by_cases c5 : x = 5
    · by_cases h0 : (t.f4.length : Int) > 0
      · obtain ⟨y, p3, e3, r3, y0, y1, _⟩ := N_ok (s := s) (a := (t.f4.length : Int)) r2 (by omega)
        have y1' := y1 (by omega)
        have hd1 : 1 ≤ d := by
          cases g1 with
          | bool => simp at h0
          | int => simp at h0
          | tup _ l' a1 a2 a3 =>
            cases l' with
            | nil => simp at a1
            | cons z l' => have := a3 z List.mem_cons_self; cases this <;> omega
          | lst _ m z a1 a2 a3 a4 a5 => exact a5
        obtain ⟨z, p4, ⟨K4, e4⟩, b4, r4⟩ := ih (s := s) hd1 (by omega) r3
        dsimp only at e4
        have hw : wrap64 (((d + 1 : Nat) : Int) - 1) = (d : Int) := by unfold wrap64; omega
        refine ⟨⟨t.f0, t.f1, t.f2, t.f3, t.f4.set y.toNat z⟩, p4, ⟨K1 + K4 + 1, fun k hk => ?_⟩, ⟨by show (t.f4.set y.toNat z).length ≤ 1000; rw [List.length_set]; omega, fun v hv => ?_⟩, r4⟩
        · obtain ⟨k, rfl⟩ : ∃ j, k = j + 1 := ⟨k - 1, by omega⟩
          simp only [bP.f]
          rw [e1 k (by omega), Option.bind_some]; dsimp only
          rw [e2, Option.bind_some]; dsimp only
          rw [if_neg c0, if_neg c1, if_neg c2, if_neg c3, if_neg c4, if_pos c5, if_pos h0, e3, Option.bind_some]; dsimp only
          rw [hw, e4 k (by omega), Option.bind_some]; dsimp only
          rw [if_pos y0, if_pos y1']
          rw [Gx]
        · rcases List.mem_or_eq_of_mem_set hv with h | h
          · exact hin v h
          · rw [h]; exact b4
      · refine ⟨t, p2, ⟨K1 + 1, fun k hk => ?_⟩, g1.vt.bd.mono, r2⟩
        obtain ⟨k, rfl⟩ : ∃ j, k = j + 1 := ⟨k - 1, by omega⟩
        simp only [bP.f]
        rw [e1 k (by omega), Option.bind_some]; dsimp only
        rw [e2, Option.bind_some]; dsimp only
        rw [if_neg c0, if_neg c1, if_neg c2, if_neg c3, if_neg c4, if_pos c5, if_neg h0]
    by_cases c6 : x = 6
    · obtain ⟨y, p3, e3, r3, _⟩ := Oz (s := s) (ys := [3, 4]) r2 (by simp) (by simp)
      refine ⟨⟨y, 0, 0, 0, []⟩, p3, ⟨K1 + 1, fun k hk => ?_⟩, ⟨by simp, by simp⟩, r3⟩
      obtain ⟨k, rfl⟩ : ∃ j, k = j + 1 := ⟨k - 1, by omega⟩
      simp only [bP.f]
      rw [e1 k (by omega), Option.bind_some]; dsimp only
      rw [e2, Option.bind_some]; dsimp only
      rw [if_neg c0, if_neg c1, if_neg c2, if_neg c3, if_neg c4, if_neg c5, if_pos c6, e3, Option.bind_some]
    · refine ⟨t, p2, ⟨K1 + 1, fun k hk => ?_⟩, g1.vt.bd.mono, r2⟩
      obtain ⟨k, rfl⟩ : ∃ j, k = j + 1 := ⟨k - 1, by omega⟩
      simp only [bP.f]
      rw [e1 k (by omega), Option.bind_some]; dsimp only
      rw [e2, Option.bind_some]; dsimp only
      rw [if_neg c0, if_neg c1, if_neg c2, if_neg c3, if_neg c4, if_neg c5, if_neg c6]
end Go.Proofs.YtggelekooacmnaaDoor.Pure
