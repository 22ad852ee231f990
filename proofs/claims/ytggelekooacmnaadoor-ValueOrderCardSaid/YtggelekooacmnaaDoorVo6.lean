/- Lemmas for: FC that mh is true for every list of numbers: the order of values is total and transitive, and equal values have the same text. -/
import Derived.Lib.ItoaLen
import Derived.Lib.Join
import Derived.Lib.Strings
import Derived.Test.YtggelekooacmnaaDoorVo2
import Derived.Test.YtggelekooacmnaaDoorVo3
import Derived.Test.YtggelekooacmnaaDoorVo5
namespace Go.Proofs.YtggelekooacmnaaDoor.Q
open Go.RowKit Go.Proofs.YtggelekooacmnaaDoorW.bg Go.Proofs.YtggelekooacmnaaDoorW.bP Go.Proofs.YtggelekooacmnaaDoorW.bX
attribute [local go_sem] ek eu fw fA dH dI eB eD   -- for this text's walks alone
set_option linter.unusedVariables false
set_option linter.unusedSimpArgs false

/-! ### eU: function 58 -/
def eU.f (k : Nat) (ai : Int) (az : Int) (aA : Int) (ay : Int) (af : List (S24)) (l1 : List Int) : Option (Int × (List (S51)) × Int) := (ed.f k ai az aA ay af).bind fun ug => (if ug = 0 then ((bI.f k ai az aA ay af l1).bind fun kX => (if kX.2.2.2 = true then (if (kX.2.2.1.length : Int) = 0 then ((iQ.f ai az aA ay af kX.1 kX.2.1).bind fun uh => (if uh = 0 then ((aM.f k ai az aA ay af kX.1 kX.2.1).bind fun qa => ((bL.f k qa l1).bind fun yV => (if yV = true then (some (kX.1, kX.2.1, 0)) else (some (0, ([] : List (S51)), 2))))) else (some (0, ([] : List (S51)), 2)))) else (some (0, ([] : List (S51)), 2))) else (some (0, ([] : List (S51)), 2)))) else (some (0, ([] : List (S51)), ug)))
theorem eU.mono : ∀ a0 a1 a2 a3 a4 a5 k, LeO (eU.f k a0 a1 a2 a3 a4 a5) (eU.f (k + 1) a0 a1 a2 a3 a4 a5) := by
 intro a0 a1 a2 a3 a4 a5 k; unfold eU.f
 repeat' first
   | (with_reducible exact bL.mono _ _ _)
   | (with_reducible exact ed.mono _ _ _ _ _ _)
   | (with_reducible exact aM.mono _ _ _ _ _ _ _ _)
   | (with_reducible exact bI.mono _ _ _ _ _ _ _)
   | (with_reducible exact LeO.refl _)
   | (with_reducible exact LeO.none _)
   | (with_reducible refine LeO.ite ?_ ?_)
   | (with_reducible refine LeO.bind ?_ (fun _ => ?_))
   | exact bL.mono _ _ _
   | exact ed.mono _ _ _ _ _ _
   | exact aM.mono _ _ _ _ _ _ _ _
   | exact bI.mono _ _ _ _ _ _ _
   | exact LeO.none _
   | refine LeO.ite ?_ ?_
   | refine LeO.bind ?_ (fun _ => ?_)
set_option maxHeartbeats 8000000 in
set_option maxRecDepth 100000 in
theorem eU.calls (k : Nat) (ai : Int) (az : Int) (aA : Int) (ay : Int) (bq : Option Addr) (bf : Nat) (af : List (S24)) (A1 : Option Addr) (c1 : Nat) (l1 : List Int) (r1 : Int) (r2 : List (S51)) (r3 : Int) (w : World) (dX : Kd.C k24 w bq af.length af) (dY : af.length ≤ bf) (hr1 : Kd.C (Kd.int .i64) w A1 l1.length l1) (hc1 : l1.length ≤ c1) (h : eU.f k ai az aA ay af l1 = some (r1, r2, r3)) :
  Calls Tryd.prog 58 #[.agg #[.int .i64 ai, .int .i64 az, .int .i64 aA, .int .i64 ay, .slice bq af.length bf], .slice A1 l1.length c1] w fun e w' => ∃ v1_ : Value, e = .returned (.tuple #[.agg #[.int .i64 r1, v1_], .int .i64 r3]) ∧ Kd.R k51 51 w' w.heap.size (fun _ => True) v1_ r2 ∧ Below w.heap.size w w' := by
 have ou := Tryd.underlying24; have zh := Tryd.underlying51; have bV := aa.mk dX; have dz := aa.mk dY; clear dX dY; have HR1 := aa.mk hr1; have HC1 := aa.mk hc1; clear hr1 hc1; have HB := aa.mk (Below.refl w.heap.size w); have H : ((ed.f k ai az aA ay af).bind fun ug => (if ug = 0 then ((bI.f k ai az aA ay af l1).bind fun kX => (if kX.2.2.2 = true then (if (kX.2.2.1.length : Int) = 0 then ((iQ.f ai az aA ay af kX.1 kX.2.1).bind fun uh => (if uh = 0 then ((aM.f k ai az aA ay af kX.1 kX.2.1).bind fun qa => ((bL.f k qa l1).bind fun yV => (if yV = true then (some (kX.1, kX.2.1, 0)) else (some (0, ([] : List (S51)), 2))))) else (some (0, ([] : List (S51)), 2)))) else (some (0, ([] : List (S51)), 2))) else (some (0, ([] : List (S51)), 2)))) else (some (0, ([] : List (S51)), ug)))) = some (r1, r2, r3) := h; clear h; replace H := Option.bind_eq_some_iff.mp H; obtain ⟨ug, A30, H⟩ := H; replace H : (if ug = 0 then ((bI.f k ai az aA ay af l1).bind fun kX => (if kX.2.2.2 = true then (if (kX.2.2.1.length : Int) = 0 then ((iQ.f ai az aA ay af kX.1 kX.2.1).bind fun uh => (if uh = 0 then ((aM.f k ai az aA ay af kX.1 kX.2.1).bind fun qa => ((bL.f k qa l1).bind fun yV => (if yV = true then (some (kX.1, kX.2.1, 0)) else (some (0, ([] : List (S51)), 2))))) else (some (0, ([] : List (S51)), 2)))) else (some (0, ([] : List (S51)), 2))) else (some (0, ([] : List (S51)), 2)))) else (some (0, ([] : List (S51)), ug))) = some (r1, r2, r3) := H; have A3 := aa.mk A30; clear A30; by_cases c4 : ug = 0
 ·rw [if_pos c4] at H; have kM : (ug == 0) = true := beq_iff_eq.mpr c4; have yS : (ug != 0) = false := bne_eq_false_iff_eq.mpr c4; clear c4; replace H := Option.bind_eq_some_iff.mp H; obtain ⟨⟨ji, iP, wH, t532⟩, A50, H⟩ := H; replace H : (if t532 = true then (if (wH.length : Int) = 0 then ((iQ.f ai az aA ay af ji iP).bind fun uh => (if uh = 0 then ((aM.f k ai az aA ay af ji iP).bind fun qa => ((bL.f k qa l1).bind fun yV => (if yV = true then (some (ji, iP, 0)) else (some (0, ([] : List (S51)), 2))))) else (some (0, ([] : List (S51)), 2)))) else (some (0, ([] : List (S51)), 2))) else (some (0, ([] : List (S51)), 2))) = some (r1, r2, r3) := H; have A5 := aa.mk A50; clear A50; by_cases c6 : t532 = true
  ·subst c6; have H1 : (if (wH.length : Int) = 0 then ((iQ.f ai az aA ay af ji iP).bind fun uh => (if uh = 0 then ((aM.f k ai az aA ay af ji iP).bind fun qa => ((bL.f k qa l1).bind fun yV => (if yV = true then (some (ji, iP, 0)) else (some (0, ([] : List (S51)), 2))))) else (some (0, ([] : List (S51)), 2)))) else (some (0, ([] : List (S51)), 2))) = some (r1, r2, r3) := by rw [if_pos rfl] at H; exact H
   clear H; have H := H1; clear H1; by_cases c7 : (wH.length : Int) = 0
   ·rw [if_pos c7] at H; have p9 : ((wH.length : Int) == 0) = true := beq_iff_eq.mpr c7; have c7b1 : ((wH.length : Int) != 0) = false := bne_eq_false_iff_eq.mpr c7; clear c7; replace H := Option.bind_eq_some_iff.mp H; obtain ⟨uh, A80, H⟩ := H; replace H : (if uh = 0 then ((aM.f k ai az aA ay af ji iP).bind fun qa => ((bL.f k qa l1).bind fun yV => (if yV = true then (some (ji, iP, 0)) else (some (0, ([] : List (S51)), 2))))) else (some (0, ([] : List (S51)), 2))) = some (r1, r2, r3) := H; have A8 := aa.mk A80; clear A80; by_cases c9 : uh = 0
    ·rw [if_pos c9] at H; have vQ : (uh == 0) = true := beq_iff_eq.mpr c9; have F3 : (uh != 0) = false := bne_eq_false_iff_eq.mpr c9; clear c9; replace H := Option.bind_eq_some_iff.mp H; obtain ⟨qa, A100, H⟩ := H; replace H : ((bL.f k qa l1).bind fun yV => (if yV = true then (some (ji, iP, 0)) else (some (0, ([] : List (S51)), 2)))) = some (r1, r2, r3) := H; have A10 := aa.mk A100; clear A100; replace H := Option.bind_eq_some_iff.mp H; obtain ⟨yV, A110, H⟩ := H; replace H : (if yV = true then (some (ji, iP, 0)) else (some (0, ([] : List (S51)), 2))) = some (r1, r2, r3) := H; have A11 := aa.mk A110; clear A110; by_cases c12 : yV = true
     ·subst c12; have H1 : (some (ji, iP, 0)) = some (r1, r2, r3) := by rw [if_pos rfl] at H; exact H
      clear H; have H := H1; clear H1; simp only [Option.some.injEq, Prod.mk.injEq] at H; obtain ⟨rfl, rfl, rfl⟩ := H; go_enter Tryd.func58, Tryd.ntmps58; go_wp2_with (first | ((with_reducible refine aY (N := 2) rfl ?_); (try (refine bY (by rfl) ?_; dsimp only)); refine aZ ?hg (N := 2) ?hd (cs := #[.int .i64 ai, .int .i64 az, .int .i64 aA, .int .i64 ay, .slice bq af.length bf]) (t := 24) ?hr ?_; (case hd => rfl); (case hg => rfl); (case hr => first | (go_simp; done) | (go_simp; rfl)); intro kG hg w13 aK hb; have cO := aa.mk (aK); have om : aa (w.heap.size ≤ kG) := gw_ hg (aG bl_); have Qb := om; replace HB := aa.mk (au bl_ hb); clear hb aK hg) | ((with_reducible refine aY (N := 4) rfl ?_); (try (refine bY (by rfl) ?_; dsimp only)); refine aZ ?hg (N := 4) ?hd (cs := #[.int .i64 0, .slice none 0 0]) (t := 51) ?hr ?_; (case hd => rfl); (case hg => rfl); (case hr => first | (go_simp; done) | (go_simp; rfl)); intro gL hg w14 aK hb; have dR := aa.mk (aK); have oo : aa (w.heap.size ≤ gL) := gw_ hg (aG bl_); have Qc := oo; have oC := nl_ cO hg; have oD := ng_ cO hg; replace cO := kb_ cO hb; replace HB := aa.mk (au bl_ hb); clear hb aK hg; have hnb15 := oC.out; have hnc15 := oD.out; obtain ⟨pO, pQ, qF, qG, qH, pR, pU, qI, qJ, qK⟩ := bF cO.out) | ((with_reducible refine aN (f := 76) rfl ?_); refine bJ (some 11) rfl rfl Tryd.func76 (by kernel_rfl) rfl #[.agg #[.int .i64 ai, .int .i64 az, .int .i64 aA, .int .i64 ay, .slice bq af.length bf]] rfl mp_ ?_; (with_reducible refine (ed.calls k ai az aA ay _ _ af ug _ ?aQ ?aT A3.out).mono ?_); (case aQ => exact cb_ (Kd.bA bV.out HB.out)); (case aT => exact dz.out); rintro e w17 ⟨rfl, hb⟩; refine ⟨_, rfl, ?_⟩; replace cO := kb_ cO hb; replace dR := kb_ dR hb; replace HB := aa.mk (au bl_ hb); (try clear hb); (try clear hb2); (try clear hk); (try clear hi); obtain ⟨lT, lU, qz, qA, qB, lV, lW, qC, qD, qE⟩ := bF cO.out) | ((with_reducible refine aN (f := 77) rfl ?_); refine bJ (some 19) rfl rfl Tryd.func77 (by kernel_rfl) rfl #[.agg #[.int .i64 ai, .int .i64 az, .int .i64 aA, .int .i64 ay, .slice bq af.length bf], .slice A1 l1.length c1] rfl mp_ ?_; (with_reducible refine (bI.calls k ai az aA ay (fun k_ => k_ < w.heap.size) _ _ af (fun k_ => k_ < w.heap.size) _ _ l1 ji iP wH true _ ?aQ ?aT A5.out).mono ?_); (case aQ => exact Kd.yJ dz.out (Kd.ng (Kd.C_F Bw bV.out) bl_)); (case aT => exact Kd.yJ HC1.out (Kd.ng (Kd.C_F (Kd.mZ .i64) HR1.out) bl_)); rintro e w19 ⟨v527, v530, rfl, ho0, ho1, hb⟩; refine ⟨_, rfl, ?_⟩; have gU := aa.mk (Kd.dJ (Kd.oU (Kd.bQ (ok' := fun k_ => True) ho0 (fun _ hk_ => trivial)) (g := gL) (o := .cells #[.int .i64 0, .slice none 0 0] 51 (0, 0)) bk_) (aG bl_)); have jv := aa.mk (Kd.uC (Kd.dU (ok' := fun k_ => some k_ ≠ (v527 : Value).ownBlock ∧ k_ ≠ kG ∧ k_ ≠ gL) ho1 (fun k_ hk_ => ⟨hk_.2, Or.elim hk_.1 (fun hs_ => Or.elim hs_ (fun hs_ => fun e_ => Nat.not_le.2 hs_ (by rw [e_]; exact om.out)) (fun hs_ => fun e_ => Nat.not_le.2 hs_ (by rw [e_]; exact om.out))) (fun hn_ => (Kd.fP (g := kG) (o := .cells #[.int .i64 ai, .int .i64 az, .int .i64 aA, .int .i64 ay, .slice bq af.length bf] 24 (0, 0)) bk_ k_ hn_)), Or.elim hk_.1 (fun hs_ => Or.elim hs_ (fun hs_ => fun e_ => Nat.not_le.2 hs_ (by rw [e_]; exact oo.out)) (fun hs_ => fun e_ => Nat.not_le.2 hs_ (by rw [e_]; exact oo.out))) (fun hn_ => (Kd.fP (g := gL) (o := .cells #[.int .i64 0, .slice none 0 0] 51 (0, 0)) bk_ k_ hn_))⟩)) (aG bl_)); replace cO := kb_ cO hb; replace dR := kb_ dR hb; replace HB := aa.mk (au bl_ hb); (try clear hb); (try clear hb2); (try clear hk); (try clear hi); (try clear ho0); (try clear ho1)) | ((with_reducible refine aY (N := 7) rfl ?_); (try (refine bY (by rfl) ?_; dsimp only)); refine aZ ?hg (N := 7) ?hd (cs := #[.int .i64 0, .slice none 0 0]) (t := 51) ?hr ?_; (case hd => rfl); (case hg => rfl); (case hr => first | (go_simp; done) | (go_simp; rfl)); intro fq hg w20 aK hb; have mg := aa.mk (aK); have D9 : aa (w.heap.size ≤ fq) := gw_ hg (aG bl_); have GE533 := D9; have kK := nl_ cO hg; have rM := ng_ cO hg; have jb := nl_ dR hg; have rO := ng_ dR hg; replace gU := aa.mk (Kd.cB (Kd.jV (pR_ gU.out) fq (Nat.le_of_eq hg.symm)) hb); replace jv := aa.mk (Kd.gz (Kd.gV (pV_ jv.out) fq (Nat.le_of_eq hg.symm)) hb); replace cO := kb_ cO hb; replace dR := kb_ dR hb; replace HB := aa.mk (au bl_ hb); clear hb aK hg; have hnb21 := rM.out; have hnc21 := kK.out; have hnb22 := rO.out; have hnc22 := jb.out; obtain ⟨hcz23_0, hcz23_1, hfz23_0, hfz23_1⟩ := eQ mg.out; obtain ⟨DF, BB, eo24⟩ := Kd.dG gU.out; subst eo24; obtain ⟨Ao25, co25, eo25⟩ := Kd.si jv.out; subst eo25; obtain ⟨EC, ED, EE, EF, EG, EH, EI, EJ, EK, EL⟩ := bF cO.out) | (go_at_call 78; (with_reducible refine (iQ.calls ai az aA ay _ _ af ji _ _ iP uh _ ?aQ ?aT ?dK ?dL A8.out).mono ?_); (case aQ => exact Kd.bA bV.out bl_); (case aT => exact dz.out); (case dK => refine (Kd.cK (e := 51) (base := w.heap.size) (ok := fun k_ => ((True ∧ k_ ≠ gL) ∧ k_ ≠ fq)) (n := iP.length) (c := BB) ?_).2.2; exact (by (with_reducible repeat (first | apply Kd.dN | apply Kd.dO | apply Kd.dP)); exact (Kd.bQ (Kd.dD (p := ⟨fq, 1, none⟩) (Kd.dD (p := ⟨fq, 0, none⟩) (Kd.bQ gU.out (fun k_ hk => (⟨hk, by first | exact hk.2 | exact hk.1 | exact hk.2 | exact hk.1.1 | exact hk.1.2⟩ : _ ∧ k_ ≠ fq))) (fun _ hk => hk.2) (.int .i64 ji)) (fun _ hk => hk.2) (.slice DF iP.length BB)) (fun _ h_ => h_.1)))); (case dL => exact (Kd.cK gU.out).2.1); rintro e w27 ⟨rfl, hb⟩; replace gU := aa.mk (Kd.cB (by (with_reducible repeat (first | apply Kd.dN | apply Kd.dO | apply Kd.dP)); exact (Kd.bQ (Kd.dD (p := ⟨fq, 1, none⟩) (Kd.dD (p := ⟨fq, 0, none⟩) (Kd.bQ gU.out (fun k_ hk => (⟨hk, by first | exact hk.2 | exact hk.1 | exact hk.2 | exact hk.1.1 | exact hk.1.2⟩ : _ ∧ k_ ≠ fq))) (fun _ hk => hk.2) (.int .i64 ji)) (fun _ hk => hk.2) (.slice DF iP.length BB)) (fun _ h_ => h_.1))) hb); replace jv := aa.mk (Kd.gz (by (with_reducible repeat (first | apply Kd.iF | apply Kd.iG | apply Kd.iY)); exact (Kd.dU (Kd.jq (p := ⟨fq, 1, none⟩) (Kd.jq (p := ⟨fq, 0, none⟩) (Kd.dU jv.out (fun k_ hk => (⟨hk, by first | exact hk.2 | exact hk.1 | exact hk.2 | exact hk.1.1 | exact hk.1.2⟩ : _ ∧ k_ ≠ fq))) (fun _ hk => hk.2) (.int .i64 ji)) (fun _ hk => hk.2) (.slice DF iP.length BB)) (fun _ h_ => h_.1))) hb); replace cO := aa.mk (gy (g := kG) (o := .cells #[.int .i64 ai, .int .i64 az, .int .i64 aA, .int .i64 ay, .slice bq af.length bf] 24 (0, 0)) (by (with_reducible repeat (first | refine aj ?_ _ | refine ak ?_ | refine ah ?_ _)); refine bM ?_ kK.out _; (with_reducible repeat (first | refine aj ?_ _ | refine ak ?_ | refine ah ?_ _)); refine bM ?_ kK.out _; (with_reducible repeat (first | refine aj ?_ _ | refine ak ?_ | refine ah ?_ _)); exact cO.out) hb); replace dR := aa.mk (gy (g := gL) (o := .cells #[.int .i64 0, .slice none 0 0] 51 (0, 0)) (by (with_reducible repeat (first | refine aj ?_ _ | refine ak ?_ | refine ah ?_ _)); refine bM ?_ jb.out _; (with_reducible repeat (first | refine aj ?_ _ | refine ak ?_ | refine ah ?_ _)); refine bM ?_ jb.out _; (with_reducible repeat (first | refine aj ?_ _ | refine ak ?_ | refine ah ?_ _)); exact dR.out) hb); replace mg := aa.mk (gy (g := fq) (o := .cells #[.int .i64 ji, .slice DF iP.length BB] 51 (0, 0)) (by (with_reducible repeat (first | refine aj ?_ _ | refine ak ?_ | refine ah ?_ _)); refine bn (cs := #[.int .i64 ji, .slice none 0 0]) ?_ 1 _ rfl; (with_reducible repeat (first | refine aj ?_ _ | refine ak ?_ | refine ah ?_ _)); refine bn (cs := #[.int .i64 0, .slice none 0 0]) ?_ 0 _ rfl; (with_reducible repeat (first | refine aj ?_ _ | refine ak ?_ | refine ah ?_ _)); exact mg.out) hb); replace HB := aa.mk (au bl_ hb); (try clear hb); (try clear hb2); (try clear hk); (try clear hi); obtain ⟨l6, l7, mJ, mK, mM, l8, l9, mO, mP, mQ⟩ := bF cO.out; obtain ⟨nE, nG, nH, nI⟩ := eQ mg.out) | (go_at_call 75; (with_reducible refine (aM.calls k ai az aA ay _ _ af ji _ _ iP qa _ ?aQ ?aT ?dK ?dL A10.out).mono ?_); (case aQ => exact cb_ (Kd.bA bV.out HB.out)); (case aT => exact dz.out); (case dK => exact cb_ ((Kd.cK gU.out).2.2)); (case dL => exact (Kd.cK gU.out).2.1); rintro e w30 ⟨v536, rfl, ho0, hb⟩; have Bg := aa.mk (Kd.dJ ho0 (aG bl_)); replace gU := aa.mk (Kd.cB (pR_ gU.out) hb); replace jv := aa.mk (Kd.vM (pV_ jv.out) (Kd.iI ho0) hb); replace cO := kb_ cO hb; replace dR := kb_ dR hb; replace mg := kb_ mg hb; replace HB := aa.mk (au bl_ hb); (try clear hb); (try clear hb2); (try clear hk); (try clear hi); (try clear ho0); obtain ⟨Ao31, co31, eo31⟩ := Kd.dG Bg.out; subst eo31) | (go_at_call 79; (with_reducible refine (bL.calls k _ _ qa _ _ l1 true _ ?aQ ?aT ?dK ?dL A11.out).mono ?_); (case aQ => exact cb_ ((Kd.cK Bg.out).2.2)); (case aT => exact (Kd.cK Bg.out).2.1); (case dK => exact cb_ (Kd.bA HR1.out HB.out)); (case dL => exact HC1.out); rintro e w' ⟨rfl, ⟨nd, rfl⟩⟩; (try (rw [OA w30]; generalize hq_ : World.drewN w30 _ = w30; replace gU : aa (Kd.R k51 51 w30 w.heap.size (fun k_ => k_ ≠ gL ∧ k_ ≠ fq) (.slice DF iP.length BB) iP) := ⟨by rw [← hq_]; exact (by (with_reducible repeat (first | apply Kd.dN | apply Kd.dO | apply Kd.dP)); exact Kd.bQ gU.out (fun _ hk => ⟨hk.1.2, hk.2⟩))⟩; replace jv : aa (Kd.V (Kd.int .i64) 3 w30 w.heap.size (fun k_ => some k_ ≠ (.slice DF iP.length BB : Value).ownBlock ∧ some k_ ≠ (.slice Ao31 qa.length co31 : Value).ownBlock ∧ k_ ≠ kG ∧ k_ ≠ gL ∧ k_ ≠ fq) (.slice Ao25 wH.length co25) wH) := ⟨by rw [← hq_]; exact (by (with_reducible repeat (first | apply Kd.iF | apply Kd.iG | apply Kd.iY)); exact Kd.dU jv.out (fun _ hk => ⟨hk.1.1.1, ⟨hk.2, ⟨hk.1.1.2.1, ⟨hk.1.1.2.2, hk.1.2⟩⟩⟩⟩))⟩; replace Bg : aa (Kd.R (Kd.int .i64) 3 w30 w.heap.size (fun _ => True) (.slice Ao31 qa.length co31) qa) := ⟨by rw [← hq_]; exact (pR_ Bg.out)⟩; replace cO : aa (w30.heap[kG]? = some (.cells #[.int .i64 ai, .int .i64 az, .int .i64 aA, .int .i64 ay, .slice bq af.length bf] 24 (0, 0))) := ⟨by rw [← hq_]; exact bk_⟩; replace dR : aa (w30.heap[gL]? = some (.cells #[.int .i64 0, .slice none 0 0] 51 (0, 0))) := ⟨by rw [← hq_]; exact bk_⟩; replace mg : aa (w30.heap[fq]? = some (.cells #[.int .i64 ji, .slice DF iP.length BB] 51 (0, 0))) := ⟨by rw [← hq_]; exact bk_⟩; replace HB : aa (Below w.heap.size w w30) := ⟨by rw [← hq_]; exact bl_⟩; clear hq_)); obtain ⟨sG, sH, sI, sJ⟩ := eQ mg.out; obtain ⟨Em, En, Eo, Ep⟩ := eQ dR.out))
      refine bodyPost_ret (wN rfl _ _ gL 51 #[.int .i64 ji, .slice DF iP.length BB] (0, 0) _ rfl (by (with_reducible repeat (first | refine aj ?_ _ | refine ak ?_ | refine ah ?_ _)); refine bn (cs := #[.int .i64 ji, .slice none 0 0]) ?_ 1 _ rfl; (with_reducible repeat (first | refine aj ?_ _ | refine ak ?_ | refine ah ?_ _)); refine bn (cs := #[.int .i64 0, .slice none 0 0]) ?_ 0 _ rfl; (with_reducible repeat (first | refine aj ?_ _ | refine ak ?_ | refine ah ?_ _)); exact dR.out) Tryd.underlying51 rfl (by kernel_rfl)) rfl ?_
      exact ⟨_, re_, by (with_reducible repeat (first | apply Kd.dN | apply Kd.dO | apply Kd.dP)); exact Kd.bQ (Kd.dD (p := ⟨gL, 1, none⟩) (Kd.dD (p := ⟨gL, 0, none⟩) (Kd.bQ gU.out (fun k_ hk => (⟨hk, by first | exact hk.1.2 | exact hk.1 | exact hk.2 | exact hk.1.1 | exact hk.1.2⟩ : _ ∧ k_ ≠ gL))) (fun _ hk => hk.2) (.int .i64 ji)) (fun _ hk => hk.2) (.slice DF iP.length BB)) (fun _ hk => trivial), bl_⟩
     ·replace c12 := Bool.eq_false_iff.mpr c12; subst c12; have H1 : (some (0, ([] : List (S51)), 2)) = some (r1, r2, r3) := by rw [if_neg (show ¬ (false = true) by decide)] at H; exact H
      clear H; have H := H1; clear H1; simp only [Option.some.injEq, Prod.mk.injEq] at H; obtain ⟨rfl, rfl, rfl⟩ := H; go_enter Tryd.func58, Tryd.ntmps58; go_wp2_with (first | ((with_reducible refine aY (N := 2) rfl ?_); (try (refine bY (by rfl) ?_; dsimp only)); refine aZ ?hg (N := 2) ?hd (cs := #[.int .i64 ai, .int .i64 az, .int .i64 aA, .int .i64 ay, .slice bq af.length bf]) (t := 24) ?hr ?_; (case hd => rfl); (case hg => rfl); (case hr => first | (go_simp; done) | (go_simp; rfl)); intro kG hg w34 aK hb; have cO := aa.mk (aK); have om : aa (w.heap.size ≤ kG) := gw_ hg (aG bl_); have Qb := om; replace HB := aa.mk (au bl_ hb); clear hb aK hg) | ((with_reducible refine aY (N := 4) rfl ?_); (try (refine bY (by rfl) ?_; dsimp only)); refine aZ ?hg (N := 4) ?hd (cs := #[.int .i64 0, .slice none 0 0]) (t := 51) ?hr ?_; (case hd => rfl); (case hg => rfl); (case hr => first | (go_simp; done) | (go_simp; rfl)); intro gL hg w35 aK hb; have dR := aa.mk (aK); have oo : aa (w.heap.size ≤ gL) := gw_ hg (aG bl_); have Qc := oo; have oC := nl_ cO hg; have oD := ng_ cO hg; replace cO := kb_ cO hb; replace HB := aa.mk (au bl_ hb); clear hb aK hg; have hnb36 := oC.out; have hnc36 := oD.out; obtain ⟨xE, xG, xH, xI, xJ, xK, xL, xM, xN, xO⟩ := bF cO.out) | ((with_reducible refine aN (f := 76) rfl ?_); refine bJ (some 11) rfl rfl Tryd.func76 (by kernel_rfl) rfl #[.agg #[.int .i64 ai, .int .i64 az, .int .i64 aA, .int .i64 ay, .slice bq af.length bf]] rfl mp_ ?_; (with_reducible refine (ed.calls k ai az aA ay _ _ af ug _ ?aQ ?aT A3.out).mono ?_); (case aQ => exact cb_ (Kd.bA bV.out HB.out)); (case aT => exact dz.out); rintro e w38 ⟨rfl, hb⟩; refine ⟨_, rfl, ?_⟩; replace cO := kb_ cO hb; replace dR := kb_ dR hb; replace HB := aa.mk (au bl_ hb); (try clear hb); (try clear hb2); (try clear hk); (try clear hi); obtain ⟨hcz39_0, hcz39_1, hcz39_2, hcz39_3, hcz39_4, hfz39_0, hfz39_1, hfz39_2, hfz39_3, hfz39_4⟩ := bF cO.out) | ((with_reducible refine aN (f := 77) rfl ?_); refine bJ (some 19) rfl rfl Tryd.func77 (by kernel_rfl) rfl #[.agg #[.int .i64 ai, .int .i64 az, .int .i64 aA, .int .i64 ay, .slice bq af.length bf], .slice A1 l1.length c1] rfl mp_ ?_; (with_reducible refine (bI.calls k ai az aA ay (fun k_ => k_ < w.heap.size) _ _ af (fun k_ => k_ < w.heap.size) _ _ l1 ji iP wH true _ ?aQ ?aT A5.out).mono ?_); (case aQ => exact Kd.yJ dz.out (Kd.ng (Kd.C_F Bw bV.out) bl_)); (case aT => exact Kd.yJ HC1.out (Kd.ng (Kd.C_F (Kd.mZ .i64) HR1.out) bl_)); rintro e w40 ⟨v527, v530, rfl, ho0, ho1, hb⟩; refine ⟨_, rfl, ?_⟩; have gU := aa.mk (Kd.dJ (Kd.oU (Kd.bQ (ok' := fun k_ => True) ho0 (fun _ hk_ => trivial)) (g := gL) (o := .cells #[.int .i64 0, .slice none 0 0] 51 (0, 0)) bk_) (aG bl_)); have jv := aa.mk (Kd.uC (Kd.dU (ok' := fun k_ => some k_ ≠ (v527 : Value).ownBlock ∧ k_ ≠ kG ∧ k_ ≠ gL) ho1 (fun k_ hk_ => ⟨hk_.2, Or.elim hk_.1 (fun hs_ => Or.elim hs_ (fun hs_ => fun e_ => Nat.not_le.2 hs_ (by rw [e_]; exact om.out)) (fun hs_ => fun e_ => Nat.not_le.2 hs_ (by rw [e_]; exact om.out))) (fun hn_ => (Kd.fP (g := kG) (o := .cells #[.int .i64 ai, .int .i64 az, .int .i64 aA, .int .i64 ay, .slice bq af.length bf] 24 (0, 0)) bk_ k_ hn_)), Or.elim hk_.1 (fun hs_ => Or.elim hs_ (fun hs_ => fun e_ => Nat.not_le.2 hs_ (by rw [e_]; exact oo.out)) (fun hs_ => fun e_ => Nat.not_le.2 hs_ (by rw [e_]; exact oo.out))) (fun hn_ => (Kd.fP (g := gL) (o := .cells #[.int .i64 0, .slice none 0 0] 51 (0, 0)) bk_ k_ hn_))⟩)) (aG bl_)); replace cO := kb_ cO hb; replace dR := kb_ dR hb; replace HB := aa.mk (au bl_ hb); (try clear hb); (try clear hb2); (try clear hk); (try clear hi); (try clear ho0); (try clear ho1)) | ((with_reducible refine aY (N := 7) rfl ?_); (try (refine bY (by rfl) ?_; dsimp only)); refine aZ ?hg (N := 7) ?hd (cs := #[.int .i64 0, .slice none 0 0]) (t := 51) ?hr ?_; (case hd => rfl); (case hg => rfl); (case hr => first | (go_simp; done) | (go_simp; rfl)); intro fq hg w41 aK hb; have mg := aa.mk (aK); have D9 : aa (w.heap.size ≤ fq) := gw_ hg (aG bl_); have GE533 := D9; have kK := nl_ cO hg; have rM := ng_ cO hg; have jb := nl_ dR hg; have rO := ng_ dR hg; replace gU := aa.mk (Kd.cB (Kd.jV (pR_ gU.out) fq (Nat.le_of_eq hg.symm)) hb); replace jv := aa.mk (Kd.gz (Kd.gV (pV_ jv.out) fq (Nat.le_of_eq hg.symm)) hb); replace cO := kb_ cO hb; replace dR := kb_ dR hb; replace HB := aa.mk (au bl_ hb); clear hb aK hg; have hnb42 := rM.out; have hnc42 := kK.out; have hnb43 := rO.out; have hnc43 := jb.out; obtain ⟨Xf, Xg, Xh, Xi⟩ := eQ mg.out; obtain ⟨Gi, DR, eo45⟩ := Kd.dG gU.out; subst eo45; obtain ⟨Ao46, co46, eo46⟩ := Kd.si jv.out; subst eo46; obtain ⟨hcz47_0, hcz47_1, hcz47_2, hcz47_3, hcz47_4, hfz47_0, hfz47_1, hfz47_2, hfz47_3, hfz47_4⟩ := bF cO.out) | (go_at_call 78; (with_reducible refine (iQ.calls ai az aA ay _ _ af ji _ _ iP uh _ ?aQ ?aT ?dK ?dL A8.out).mono ?_); (case aQ => exact Kd.bA bV.out bl_); (case aT => exact dz.out); (case dK => refine (Kd.cK (e := 51) (base := w.heap.size) (ok := fun k_ => ((True ∧ k_ ≠ gL) ∧ k_ ≠ fq)) (n := iP.length) (c := DR) ?_).2.2; exact (by (with_reducible repeat (first | apply Kd.dN | apply Kd.dO | apply Kd.dP)); exact (Kd.bQ (Kd.dD (p := ⟨fq, 1, none⟩) (Kd.dD (p := ⟨fq, 0, none⟩) (Kd.bQ gU.out (fun k_ hk => (⟨hk, by first | exact hk.2 | exact hk.1 | exact hk.2 | exact hk.1.1 | exact hk.1.2⟩ : _ ∧ k_ ≠ fq))) (fun _ hk => hk.2) (.int .i64 ji)) (fun _ hk => hk.2) (.slice Gi iP.length DR)) (fun _ h_ => h_.1)))); (case dL => exact (Kd.cK gU.out).2.1); rintro e w48 ⟨rfl, hb⟩; replace gU := aa.mk (Kd.cB (by (with_reducible repeat (first | apply Kd.dN | apply Kd.dO | apply Kd.dP)); exact (Kd.bQ (Kd.dD (p := ⟨fq, 1, none⟩) (Kd.dD (p := ⟨fq, 0, none⟩) (Kd.bQ gU.out (fun k_ hk => (⟨hk, by first | exact hk.2 | exact hk.1 | exact hk.2 | exact hk.1.1 | exact hk.1.2⟩ : _ ∧ k_ ≠ fq))) (fun _ hk => hk.2) (.int .i64 ji)) (fun _ hk => hk.2) (.slice Gi iP.length DR)) (fun _ h_ => h_.1))) hb); replace jv := aa.mk (Kd.gz (by (with_reducible repeat (first | apply Kd.iF | apply Kd.iG | apply Kd.iY)); exact (Kd.dU (Kd.jq (p := ⟨fq, 1, none⟩) (Kd.jq (p := ⟨fq, 0, none⟩) (Kd.dU jv.out (fun k_ hk => (⟨hk, by first | exact hk.2 | exact hk.1 | exact hk.2 | exact hk.1.1 | exact hk.1.2⟩ : _ ∧ k_ ≠ fq))) (fun _ hk => hk.2) (.int .i64 ji)) (fun _ hk => hk.2) (.slice Gi iP.length DR)) (fun _ h_ => h_.1))) hb); replace cO := aa.mk (gy (g := kG) (o := .cells #[.int .i64 ai, .int .i64 az, .int .i64 aA, .int .i64 ay, .slice bq af.length bf] 24 (0, 0)) (by (with_reducible repeat (first | refine aj ?_ _ | refine ak ?_ | refine ah ?_ _)); refine bM ?_ kK.out _; (with_reducible repeat (first | refine aj ?_ _ | refine ak ?_ | refine ah ?_ _)); refine bM ?_ kK.out _; (with_reducible repeat (first | refine aj ?_ _ | refine ak ?_ | refine ah ?_ _)); exact cO.out) hb); replace dR := aa.mk (gy (g := gL) (o := .cells #[.int .i64 0, .slice none 0 0] 51 (0, 0)) (by (with_reducible repeat (first | refine aj ?_ _ | refine ak ?_ | refine ah ?_ _)); refine bM ?_ jb.out _; (with_reducible repeat (first | refine aj ?_ _ | refine ak ?_ | refine ah ?_ _)); refine bM ?_ jb.out _; (with_reducible repeat (first | refine aj ?_ _ | refine ak ?_ | refine ah ?_ _)); exact dR.out) hb); replace mg := aa.mk (gy (g := fq) (o := .cells #[.int .i64 ji, .slice Gi iP.length DR] 51 (0, 0)) (by (with_reducible repeat (first | refine aj ?_ _ | refine ak ?_ | refine ah ?_ _)); refine bn (cs := #[.int .i64 ji, .slice none 0 0]) ?_ 1 _ rfl; (with_reducible repeat (first | refine aj ?_ _ | refine ak ?_ | refine ah ?_ _)); refine bn (cs := #[.int .i64 0, .slice none 0 0]) ?_ 0 _ rfl; (with_reducible repeat (first | refine aj ?_ _ | refine ak ?_ | refine ah ?_ _)); exact mg.out) hb); replace HB := aa.mk (au bl_ hb); (try clear hb); (try clear hb2); (try clear hk); (try clear hi); obtain ⟨MO, MP, MQ, MR, MS, MU, MV, MW, MX, MZ⟩ := bF cO.out; obtain ⟨IM, IP, IQ, IU⟩ := eQ mg.out) | (go_at_call 75; (with_reducible refine (aM.calls k ai az aA ay _ _ af ji _ _ iP qa _ ?aQ ?aT ?dK ?dL A10.out).mono ?_); (case aQ => exact cb_ (Kd.bA bV.out HB.out)); (case aT => exact dz.out); (case dK => exact cb_ ((Kd.cK gU.out).2.2)); (case dL => exact (Kd.cK gU.out).2.1); rintro e w51 ⟨v536, rfl, ho0, hb⟩; have Bg := aa.mk (Kd.dJ ho0 (aG bl_)); replace gU := aa.mk (Kd.cB (pR_ gU.out) hb); replace jv := aa.mk (Kd.vM (pV_ jv.out) (Kd.iI ho0) hb); replace cO := kb_ cO hb; replace dR := kb_ dR hb; replace mg := kb_ mg hb; replace HB := aa.mk (au bl_ hb); (try clear hb); (try clear hb2); (try clear hk); (try clear hi); (try clear ho0); obtain ⟨Ao52, co52, eo52⟩ := Kd.dG Bg.out; subst eo52) | (go_at_call 79; (with_reducible refine (bL.calls k _ _ qa _ _ l1 false _ ?aQ ?aT ?dK ?dL A11.out).mono ?_); (case aQ => exact cb_ ((Kd.cK Bg.out).2.2)); (case aT => exact (Kd.cK Bg.out).2.1); (case dK => exact cb_ (Kd.bA HR1.out HB.out)); (case dL => exact HC1.out); rintro e w' ⟨rfl, ⟨nd, rfl⟩⟩; (try (rw [OA w51]; generalize hq_ : World.drewN w51 _ = w51; replace gU : aa (Kd.R k51 51 w51 w.heap.size (fun k_ => k_ ≠ gL ∧ k_ ≠ fq) (.slice Gi iP.length DR) iP) := ⟨by rw [← hq_]; exact (by (with_reducible repeat (first | apply Kd.dN | apply Kd.dO | apply Kd.dP)); exact Kd.bQ gU.out (fun _ hk => ⟨hk.1.2, hk.2⟩))⟩; replace jv : aa (Kd.V (Kd.int .i64) 3 w51 w.heap.size (fun k_ => some k_ ≠ (.slice Gi iP.length DR : Value).ownBlock ∧ some k_ ≠ (.slice Ao52 qa.length co52 : Value).ownBlock ∧ k_ ≠ kG ∧ k_ ≠ gL ∧ k_ ≠ fq) (.slice Ao46 wH.length co46) wH) := ⟨by rw [← hq_]; exact (by (with_reducible repeat (first | apply Kd.iF | apply Kd.iG | apply Kd.iY)); exact Kd.dU jv.out (fun _ hk => ⟨hk.1.1.1, ⟨hk.2, ⟨hk.1.1.2.1, ⟨hk.1.1.2.2, hk.1.2⟩⟩⟩⟩))⟩; replace Bg : aa (Kd.R (Kd.int .i64) 3 w51 w.heap.size (fun _ => True) (.slice Ao52 qa.length co52) qa) := ⟨by rw [← hq_]; exact (pR_ Bg.out)⟩; replace cO : aa (w51.heap[kG]? = some (.cells #[.int .i64 ai, .int .i64 az, .int .i64 aA, .int .i64 ay, .slice bq af.length bf] 24 (0, 0))) := ⟨by rw [← hq_]; exact bk_⟩; replace dR : aa (w51.heap[gL]? = some (.cells #[.int .i64 0, .slice none 0 0] 51 (0, 0))) := ⟨by rw [← hq_]; exact bk_⟩; replace mg : aa (w51.heap[fq]? = some (.cells #[.int .i64 ji, .slice Gi iP.length DR] 51 (0, 0))) := ⟨by rw [← hq_]; exact bk_⟩; replace HB : aa (Below w.heap.size w w51) := ⟨by rw [← hq_]; exact bl_⟩; clear hq_)); obtain ⟨hcz53_0, hcz53_1, hfz53_0, hfz53_1⟩ := eQ dR.out))
      refine bodyPost_ret (wN rfl _ _ gL 51 #[.int .i64 0, .slice none 0 0] (0, 0) _ rfl (by (with_reducible repeat (first | refine aj ?_ _ | refine ak ?_ | refine ah ?_ _)); refine bn (cs := #[.int .i64 0, .slice none 0 0]) ?_ 1 _ rfl; (with_reducible repeat (first | refine aj ?_ _ | refine ak ?_ | refine ah ?_ _)); refine bn (cs := #[.int .i64 0, .slice none 0 0]) ?_ 0 _ rfl; (with_reducible repeat (first | refine aj ?_ _ | refine ak ?_ | refine ah ?_ _)); exact dR.out) Tryd.underlying51 rfl (by kernel_rfl)) rfl ?_
      exact ⟨_, re_, by first | exact Kd.gZ _ _ _ _ _ | exact Kd.jD _ _ _ _ _ | exact Kd.iR _ _ _ _ _ | exact Kd.jB _ _ _ _ _ | exact Kd.jC _ _ _ _ _, bl_⟩
    ·rw [if_neg c9] at H; have vQ : (uh == 0) = false := beq_eq_false_iff_ne.mpr c9; have F3 : (uh != 0) = true := bne_iff_ne.mpr c9; simp only [Option.some.injEq, Prod.mk.injEq] at H; obtain ⟨rfl, rfl, rfl⟩ := H; go_enter Tryd.func58, Tryd.ntmps58; go_wp2_with (first | ((with_reducible refine aY (N := 2) rfl ?_); (try (refine bY (by rfl) ?_; dsimp only)); refine aZ ?hg (N := 2) ?hd (cs := #[.int .i64 ai, .int .i64 az, .int .i64 aA, .int .i64 ay, .slice bq af.length bf]) (t := 24) ?hr ?_; (case hd => rfl); (case hg => rfl); (case hr => first | (go_simp; done) | (go_simp; rfl)); intro kG hg w54 aK hb; have cO := aa.mk (aK); have om : aa (w.heap.size ≤ kG) := gw_ hg (aG bl_); have Qb := om; replace HB := aa.mk (au bl_ hb); clear hb aK hg) | ((with_reducible refine aY (N := 4) rfl ?_); (try (refine bY (by rfl) ?_; dsimp only)); refine aZ ?hg (N := 4) ?hd (cs := #[.int .i64 0, .slice none 0 0]) (t := 51) ?hr ?_; (case hd => rfl); (case hg => rfl); (case hr => first | (go_simp; done) | (go_simp; rfl)); intro gL hg w55 aK hb; have dR := aa.mk (aK); have oo : aa (w.heap.size ≤ gL) := gw_ hg (aG bl_); have Qc := oo; have oC := nl_ cO hg; have oD := ng_ cO hg; replace cO := kb_ cO hb; replace HB := aa.mk (au bl_ hb); clear hb aK hg; have hnb56 := oC.out; have hnc56 := oD.out; obtain ⟨LZ, L6, L8, L9, Ma, Mc, Md, Me, Mf, Mg⟩ := bF cO.out) | ((with_reducible refine aN (f := 76) rfl ?_); refine bJ (some 11) rfl rfl Tryd.func76 (by kernel_rfl) rfl #[.agg #[.int .i64 ai, .int .i64 az, .int .i64 aA, .int .i64 ay, .slice bq af.length bf]] rfl mp_ ?_; (with_reducible refine (ed.calls k ai az aA ay _ _ af ug _ ?aQ ?aT A3.out).mono ?_); (case aQ => exact cb_ (Kd.bA bV.out HB.out)); (case aT => exact dz.out); rintro e w58 ⟨rfl, hb⟩; refine ⟨_, rfl, ?_⟩; replace cO := kb_ cO hb; replace dR := kb_ dR hb; replace HB := aa.mk (au bl_ hb); (try clear hb); (try clear hb2); (try clear hk); (try clear hi); obtain ⟨Ia, Ib, Mh, Mi, Mj, Ic, Ie, Mk, Ml, Mm⟩ := bF cO.out) | ((with_reducible refine aN (f := 77) rfl ?_); refine bJ (some 19) rfl rfl Tryd.func77 (by kernel_rfl) rfl #[.agg #[.int .i64 ai, .int .i64 az, .int .i64 aA, .int .i64 ay, .slice bq af.length bf], .slice A1 l1.length c1] rfl mp_ ?_; (with_reducible refine (bI.calls k ai az aA ay (fun k_ => k_ < w.heap.size) _ _ af (fun k_ => k_ < w.heap.size) _ _ l1 ji iP wH true _ ?aQ ?aT A5.out).mono ?_); (case aQ => exact Kd.yJ dz.out (Kd.ng (Kd.C_F Bw bV.out) bl_)); (case aT => exact Kd.yJ HC1.out (Kd.ng (Kd.C_F (Kd.mZ .i64) HR1.out) bl_)); rintro e w60 ⟨v527, v530, rfl, ho0, ho1, hb⟩; refine ⟨_, rfl, ?_⟩; have gU := aa.mk (Kd.dJ (Kd.oU (Kd.bQ (ok' := fun k_ => True) ho0 (fun _ hk_ => trivial)) (g := gL) (o := .cells #[.int .i64 0, .slice none 0 0] 51 (0, 0)) bk_) (aG bl_)); have jv := aa.mk (Kd.uC (Kd.dU (ok' := fun k_ => some k_ ≠ (v527 : Value).ownBlock ∧ k_ ≠ kG ∧ k_ ≠ gL) ho1 (fun k_ hk_ => ⟨hk_.2, Or.elim hk_.1 (fun hs_ => Or.elim hs_ (fun hs_ => fun e_ => Nat.not_le.2 hs_ (by rw [e_]; exact om.out)) (fun hs_ => fun e_ => Nat.not_le.2 hs_ (by rw [e_]; exact om.out))) (fun hn_ => (Kd.fP (g := kG) (o := .cells #[.int .i64 ai, .int .i64 az, .int .i64 aA, .int .i64 ay, .slice bq af.length bf] 24 (0, 0)) bk_ k_ hn_)), Or.elim hk_.1 (fun hs_ => Or.elim hs_ (fun hs_ => fun e_ => Nat.not_le.2 hs_ (by rw [e_]; exact oo.out)) (fun hs_ => fun e_ => Nat.not_le.2 hs_ (by rw [e_]; exact oo.out))) (fun hn_ => (Kd.fP (g := gL) (o := .cells #[.int .i64 0, .slice none 0 0] 51 (0, 0)) bk_ k_ hn_))⟩)) (aG bl_)); replace cO := kb_ cO hb; replace dR := kb_ dR hb; replace HB := aa.mk (au bl_ hb); (try clear hb); (try clear hb2); (try clear hk); (try clear hi); (try clear ho0); (try clear ho1)) | ((with_reducible refine aY (N := 7) rfl ?_); (try (refine bY (by rfl) ?_; dsimp only)); refine aZ ?hg (N := 7) ?hd (cs := #[.int .i64 0, .slice none 0 0]) (t := 51) ?hr ?_; (case hd => rfl); (case hg => rfl); (case hr => first | (go_simp; done) | (go_simp; rfl)); intro fq hg w61 aK hb; have mg := aa.mk (aK); have D9 : aa (w.heap.size ≤ fq) := gw_ hg (aG bl_); have GE533 := D9; have kK := nl_ cO hg; have rM := ng_ cO hg; have jb := nl_ dR hg; have rO := ng_ dR hg; replace gU := aa.mk (Kd.cB (Kd.jV (pR_ gU.out) fq (Nat.le_of_eq hg.symm)) hb); replace jv := aa.mk (Kd.gz (Kd.gV (pV_ jv.out) fq (Nat.le_of_eq hg.symm)) hb); replace cO := kb_ cO hb; replace dR := kb_ dR hb; replace HB := aa.mk (au bl_ hb); clear hb aK hg; have hnb62 := rM.out; have hnc62 := kK.out; have hnb63 := rO.out; have hnc63 := jb.out; obtain ⟨hcz64_0, hcz64_1, hfz64_0, hfz64_1⟩ := eQ mg.out; obtain ⟨Ao65, co65, eo65⟩ := Kd.dG gU.out; subst eo65; obtain ⟨Ao66, co66, eo66⟩ := Kd.si jv.out; subst eo66; obtain ⟨V6, V7, V8, V9, Wd, We, Wh, Wi, Wj, Wl⟩ := bF cO.out) | (go_at_call 78; (with_reducible refine (iQ.calls ai az aA ay _ _ af ji _ _ iP uh _ ?aQ ?aT ?dK ?dL A8.out).mono ?_); (case aQ => exact Kd.bA bV.out bl_); (case aT => exact dz.out); (case dK => refine (Kd.cK (e := 51) (base := w.heap.size) (ok := fun k_ => ((True ∧ k_ ≠ gL) ∧ k_ ≠ fq)) (n := iP.length) (c := co65) ?_).2.2; exact (by (with_reducible repeat (first | apply Kd.dN | apply Kd.dO | apply Kd.dP)); exact (Kd.bQ (Kd.dD (p := ⟨fq, 1, none⟩) (Kd.dD (p := ⟨fq, 0, none⟩) (Kd.bQ gU.out (fun k_ hk => (⟨hk, by first | exact hk.2 | exact hk.1 | exact hk.2 | exact hk.1.1 | exact hk.1.2⟩ : _ ∧ k_ ≠ fq))) (fun _ hk => hk.2) (.int .i64 ji)) (fun _ hk => hk.2) (.slice Ao65 iP.length co65)) (fun _ h_ => h_.1)))); (case dL => exact (Kd.cK gU.out).2.1); rintro e w68 ⟨rfl, hb⟩; replace gU := aa.mk (Kd.cB (by (with_reducible repeat (first | apply Kd.dN | apply Kd.dO | apply Kd.dP)); exact (Kd.bQ (Kd.dD (p := ⟨fq, 1, none⟩) (Kd.dD (p := ⟨fq, 0, none⟩) (Kd.bQ gU.out (fun k_ hk => (⟨hk, by first | exact hk.2 | exact hk.1 | exact hk.2 | exact hk.1.1 | exact hk.1.2⟩ : _ ∧ k_ ≠ fq))) (fun _ hk => hk.2) (.int .i64 ji)) (fun _ hk => hk.2) (.slice Ao65 iP.length co65)) (fun _ h_ => h_.1))) hb); replace jv := aa.mk (Kd.gz (by (with_reducible repeat (first | apply Kd.iF | apply Kd.iG | apply Kd.iY)); exact (Kd.dU (Kd.jq (p := ⟨fq, 1, none⟩) (Kd.jq (p := ⟨fq, 0, none⟩) (Kd.dU jv.out (fun k_ hk => (⟨hk, by first | exact hk.2 | exact hk.1 | exact hk.2 | exact hk.1.1 | exact hk.1.2⟩ : _ ∧ k_ ≠ fq))) (fun _ hk => hk.2) (.int .i64 ji)) (fun _ hk => hk.2) (.slice Ao65 iP.length co65)) (fun _ h_ => h_.1))) hb); replace cO := aa.mk (gy (g := kG) (o := .cells #[.int .i64 ai, .int .i64 az, .int .i64 aA, .int .i64 ay, .slice bq af.length bf] 24 (0, 0)) (by (with_reducible repeat (first | refine aj ?_ _ | refine ak ?_ | refine ah ?_ _)); refine bM ?_ kK.out _; (with_reducible repeat (first | refine aj ?_ _ | refine ak ?_ | refine ah ?_ _)); refine bM ?_ kK.out _; (with_reducible repeat (first | refine aj ?_ _ | refine ak ?_ | refine ah ?_ _)); exact cO.out) hb); replace dR := aa.mk (gy (g := gL) (o := .cells #[.int .i64 0, .slice none 0 0] 51 (0, 0)) (by (with_reducible repeat (first | refine aj ?_ _ | refine ak ?_ | refine ah ?_ _)); refine bM ?_ jb.out _; (with_reducible repeat (first | refine aj ?_ _ | refine ak ?_ | refine ah ?_ _)); refine bM ?_ jb.out _; (with_reducible repeat (first | refine aj ?_ _ | refine ak ?_ | refine ah ?_ _)); exact dR.out) hb); replace mg := aa.mk (gy (g := fq) (o := .cells #[.int .i64 ji, .slice Ao65 iP.length co65] 51 (0, 0)) (by (with_reducible repeat (first | refine aj ?_ _ | refine ak ?_ | refine ah ?_ _)); refine bn (cs := #[.int .i64 ji, .slice none 0 0]) ?_ 1 _ rfl; (with_reducible repeat (first | refine aj ?_ _ | refine ak ?_ | refine ah ?_ _)); refine bn (cs := #[.int .i64 0, .slice none 0 0]) ?_ 0 _ rfl; (with_reducible repeat (first | refine aj ?_ _ | refine ak ?_ | refine ah ?_ _)); exact mg.out) hb); replace HB := aa.mk (au bl_ hb); (try clear hb); (try clear hb2); (try clear hk); (try clear hi); obtain ⟨Q6, Q7, Q8, Q9⟩ := eQ dR.out))
     refine bodyPost_ret (wN rfl _ _ gL 51 #[.int .i64 0, .slice none 0 0] (0, 0) _ rfl (by (with_reducible repeat (first | refine aj ?_ _ | refine ak ?_ | refine ah ?_ _)); refine bn (cs := #[.int .i64 0, .slice none 0 0]) ?_ 1 _ rfl; (with_reducible repeat (first | refine aj ?_ _ | refine ak ?_ | refine ah ?_ _)); refine bn (cs := #[.int .i64 0, .slice none 0 0]) ?_ 0 _ rfl; (with_reducible repeat (first | refine aj ?_ _ | refine ak ?_ | refine ah ?_ _)); exact dR.out) Tryd.underlying51 rfl (by kernel_rfl)) rfl ?_
     exact ⟨_, re_, by first | exact Kd.gZ _ _ _ _ _ | exact Kd.jD _ _ _ _ _ | exact Kd.iR _ _ _ _ _ | exact Kd.jB _ _ _ _ _ | exact Kd.jC _ _ _ _ _, bl_⟩
   ·rw [if_neg c7] at H; have p9 : ((wH.length : Int) == 0) = false := beq_eq_false_iff_ne.mpr c7; have c7b1 : ((wH.length : Int) != 0) = true := bne_iff_ne.mpr c7; have c7b2 : ¬ (wH = []) := fun h_ => c7 (by rw [h_]; rfl)
    simp only [Option.some.injEq, Prod.mk.injEq] at H; obtain ⟨rfl, rfl, rfl⟩ := H; go_enter Tryd.func58, Tryd.ntmps58; go_wp2_with (first | ((with_reducible refine aY (N := 2) rfl ?_); (try (refine bY (by rfl) ?_; dsimp only)); refine aZ ?hg (N := 2) ?hd (cs := #[.int .i64 ai, .int .i64 az, .int .i64 aA, .int .i64 ay, .slice bq af.length bf]) (t := 24) ?hr ?_; (case hd => rfl); (case hg => rfl); (case hr => first | (go_simp; done) | (go_simp; rfl)); intro kG hg w70 aK hb; have cO := aa.mk (aK); have om : aa (w.heap.size ≤ kG) := gw_ hg (aG bl_); have Qb := om; replace HB := aa.mk (au bl_ hb); clear hb aK hg) | ((with_reducible refine aY (N := 4) rfl ?_); (try (refine bY (by rfl) ?_; dsimp only)); refine aZ ?hg (N := 4) ?hd (cs := #[.int .i64 0, .slice none 0 0]) (t := 51) ?hr ?_; (case hd => rfl); (case hg => rfl); (case hr => first | (go_simp; done) | (go_simp; rfl)); intro gL hg w71 aK hb; have dR := aa.mk (aK); have oo : aa (w.heap.size ≤ gL) := gw_ hg (aG bl_); have Qc := oo; have oC := nl_ cO hg; have oD := ng_ cO hg; replace cO := kb_ cO hb; replace HB := aa.mk (au bl_ hb); clear hb aK hg; have hnb72 := oC.out; have hnc72 := oD.out; obtain ⟨U6, U7, hcz73_2, hcz73_3, hcz73_4, U8, U9, hfz73_2, hfz73_3, hfz73_4⟩ := bF cO.out) | ((with_reducible refine aN (f := 76) rfl ?_); refine bJ (some 11) rfl rfl Tryd.func76 (by kernel_rfl) rfl #[.agg #[.int .i64 ai, .int .i64 az, .int .i64 aA, .int .i64 ay, .slice bq af.length bf]] rfl mp_ ?_; (with_reducible refine (ed.calls k ai az aA ay _ _ af ug _ ?aQ ?aT A3.out).mono ?_); (case aQ => exact cb_ (Kd.bA bV.out HB.out)); (case aT => exact dz.out); rintro e w74 ⟨rfl, hb⟩; refine ⟨_, rfl, ?_⟩; replace cO := kb_ cO hb; replace dR := kb_ dR hb; replace HB := aa.mk (au bl_ hb); (try clear hb); (try clear hb2); (try clear hk); (try clear hi); obtain ⟨hcz75_0, hcz75_1, hcz75_2, hcz75_3, hcz75_4, hfz75_0, hfz75_1, hfz75_2, hfz75_3, hfz75_4⟩ := bF cO.out) | ((with_reducible refine aN (f := 77) rfl ?_); refine bJ (some 19) rfl rfl Tryd.func77 (by kernel_rfl) rfl #[.agg #[.int .i64 ai, .int .i64 az, .int .i64 aA, .int .i64 ay, .slice bq af.length bf], .slice A1 l1.length c1] rfl mp_ ?_; (with_reducible refine (bI.calls k ai az aA ay (fun k_ => k_ < w.heap.size) _ _ af (fun k_ => k_ < w.heap.size) _ _ l1 ji iP wH true _ ?aQ ?aT A5.out).mono ?_); (case aQ => exact Kd.yJ dz.out (Kd.ng (Kd.C_F Bw bV.out) bl_)); (case aT => exact Kd.yJ HC1.out (Kd.ng (Kd.C_F (Kd.mZ .i64) HR1.out) bl_)); rintro e w76 ⟨v527, v530, rfl, ho0, ho1, hb⟩; refine ⟨_, rfl, ?_⟩; have gU := aa.mk (Kd.dJ (Kd.oU (Kd.bQ (ok' := fun k_ => True) ho0 (fun _ hk_ => trivial)) (g := gL) (o := .cells #[.int .i64 0, .slice none 0 0] 51 (0, 0)) bk_) (aG bl_)); have jv := aa.mk (Kd.uC (Kd.dU (ok' := fun k_ => some k_ ≠ (v527 : Value).ownBlock ∧ k_ ≠ kG ∧ k_ ≠ gL) ho1 (fun k_ hk_ => ⟨hk_.2, Or.elim hk_.1 (fun hs_ => Or.elim hs_ (fun hs_ => fun e_ => Nat.not_le.2 hs_ (by rw [e_]; exact om.out)) (fun hs_ => fun e_ => Nat.not_le.2 hs_ (by rw [e_]; exact om.out))) (fun hn_ => (Kd.fP (g := kG) (o := .cells #[.int .i64 ai, .int .i64 az, .int .i64 aA, .int .i64 ay, .slice bq af.length bf] 24 (0, 0)) bk_ k_ hn_)), Or.elim hk_.1 (fun hs_ => Or.elim hs_ (fun hs_ => fun e_ => Nat.not_le.2 hs_ (by rw [e_]; exact oo.out)) (fun hs_ => fun e_ => Nat.not_le.2 hs_ (by rw [e_]; exact oo.out))) (fun hn_ => (Kd.fP (g := gL) (o := .cells #[.int .i64 0, .slice none 0 0] 51 (0, 0)) bk_ k_ hn_))⟩)) (aG bl_)); replace cO := kb_ cO hb; replace dR := kb_ dR hb; replace HB := aa.mk (au bl_ hb); (try clear hb); (try clear hb2); (try clear hk); (try clear hi); (try clear ho0); (try clear ho1)) | ((with_reducible refine aY (N := 7) rfl ?_); (try (refine bY (by rfl) ?_; dsimp only)); refine aZ ?hg (N := 7) ?hd (cs := #[.int .i64 0, .slice none 0 0]) (t := 51) ?hr ?_; (case hd => rfl); (case hg => rfl); (case hr => first | (go_simp; done) | (go_simp; rfl)); intro fq hg w77 aK hb; have mg := aa.mk (aK); have D9 : aa (w.heap.size ≤ fq) := gw_ hg (aG bl_); have GE533 := D9; have kK := nl_ cO hg; have rM := ng_ cO hg; have jb := nl_ dR hg; have rO := ng_ dR hg; replace gU := aa.mk (Kd.cB (Kd.jV (pR_ gU.out) fq (Nat.le_of_eq hg.symm)) hb); replace jv := aa.mk (Kd.gz (Kd.gV (pV_ jv.out) fq (Nat.le_of_eq hg.symm)) hb); replace cO := kb_ cO hb; replace dR := kb_ dR hb; replace HB := aa.mk (au bl_ hb); clear hb aK hg; have hnb78 := rM.out; have hnc78 := kK.out; have hnb79 := rO.out; have hnc79 := jb.out; obtain ⟨Vy, Vz, VA, VB⟩ := eQ mg.out; obtain ⟨Ao81, co81, eo81⟩ := Kd.dG gU.out; subst eo81; obtain ⟨Ao82, co82, eo82⟩ := Kd.si jv.out; subst eo82; obtain ⟨hcz83_0, hcz83_1, hfz83_0, hfz83_1⟩ := eQ dR.out))
    refine bodyPost_ret (wN rfl _ _ gL 51 #[.int .i64 0, .slice none 0 0] (0, 0) _ rfl (by (with_reducible repeat (first | refine aj ?_ _ | refine ak ?_ | refine ah ?_ _)); refine bn (cs := #[.int .i64 0, .slice none 0 0]) ?_ 1 _ rfl; (with_reducible repeat (first | refine aj ?_ _ | refine ak ?_ | refine ah ?_ _)); refine bn (cs := #[.int .i64 0, .slice none 0 0]) ?_ 0 _ rfl; (with_reducible repeat (first | refine aj ?_ _ | refine ak ?_ | refine ah ?_ _)); refine bM ?_ jb.out _; (with_reducible repeat (first | refine aj ?_ _ | refine ak ?_ | refine ah ?_ _)); refine bM ?_ jb.out _; (with_reducible repeat (first | refine aj ?_ _ | refine ak ?_ | refine ah ?_ _)); exact dR.out) Tryd.underlying51 rfl (by kernel_rfl)) rfl ?_
    exact ⟨_, re_, by first | exact Kd.gZ _ _ _ _ _ | exact Kd.jD _ _ _ _ _ | exact Kd.iR _ _ _ _ _ | exact Kd.jB _ _ _ _ _ | exact Kd.jC _ _ _ _ _, bl_⟩
  ·replace c6 := Bool.eq_false_iff.mpr c6; subst c6; have H1 : (some (0, ([] : List (S51)), 2)) = some (r1, r2, r3) := by rw [if_neg (show ¬ (false = true) by decide)] at H; exact H
   clear H; have H := H1; clear H1; simp only [Option.some.injEq, Prod.mk.injEq] at H; obtain ⟨rfl, rfl, rfl⟩ := H; go_enter Tryd.func58, Tryd.ntmps58; go_wp2_with (first | ((with_reducible refine aY (N := 2) rfl ?_); (try (refine bY (by rfl) ?_; dsimp only)); refine aZ ?hg (N := 2) ?hd (cs := #[.int .i64 ai, .int .i64 az, .int .i64 aA, .int .i64 ay, .slice bq af.length bf]) (t := 24) ?hr ?_; (case hd => rfl); (case hg => rfl); (case hr => first | (go_simp; done) | (go_simp; rfl)); intro kG hg w84 aK hb; have cO := aa.mk (aK); have om : aa (w.heap.size ≤ kG) := gw_ hg (aG bl_); have Qb := om; replace HB := aa.mk (au bl_ hb); clear hb aK hg) | ((with_reducible refine aY (N := 4) rfl ?_); (try (refine bY (by rfl) ?_; dsimp only)); refine aZ ?hg (N := 4) ?hd (cs := #[.int .i64 0, .slice none 0 0]) (t := 51) ?hr ?_; (case hd => rfl); (case hg => rfl); (case hr => first | (go_simp; done) | (go_simp; rfl)); intro gL hg w85 aK hb; have dR := aa.mk (aK); have oo : aa (w.heap.size ≤ gL) := gw_ hg (aG bl_); have Qc := oo; have oC := nl_ cO hg; have oD := ng_ cO hg; replace cO := kb_ cO hb; replace HB := aa.mk (au bl_ hb); clear hb aK hg; have hnb86 := oC.out; have hnc86 := oD.out; obtain ⟨hcz87_0, hcz87_1, hcz87_2, hcz87_3, hcz87_4, hfz87_0, hfz87_1, hfz87_2, hfz87_3, hfz87_4⟩ := bF cO.out) | ((with_reducible refine aN (f := 76) rfl ?_); refine bJ (some 11) rfl rfl Tryd.func76 (by kernel_rfl) rfl #[.agg #[.int .i64 ai, .int .i64 az, .int .i64 aA, .int .i64 ay, .slice bq af.length bf]] rfl mp_ ?_; (with_reducible refine (ed.calls k ai az aA ay _ _ af ug _ ?aQ ?aT A3.out).mono ?_); (case aQ => exact cb_ (Kd.bA bV.out HB.out)); (case aT => exact dz.out); rintro e w88 ⟨rfl, hb⟩; refine ⟨_, rfl, ?_⟩; replace cO := kb_ cO hb; replace dR := kb_ dR hb; replace HB := aa.mk (au bl_ hb); (try clear hb); (try clear hb2); (try clear hk); (try clear hi); obtain ⟨hcz89_0, hcz89_1, hcz89_2, hcz89_3, hcz89_4, hfz89_0, hfz89_1, hfz89_2, hfz89_3, hfz89_4⟩ := bF cO.out) | ((with_reducible refine aN (f := 77) rfl ?_); refine bJ (some 19) rfl rfl Tryd.func77 (by kernel_rfl) rfl #[.agg #[.int .i64 ai, .int .i64 az, .int .i64 aA, .int .i64 ay, .slice bq af.length bf], .slice A1 l1.length c1] rfl mp_ ?_; (with_reducible refine (bI.calls k ai az aA ay (fun k_ => k_ < w.heap.size) _ _ af (fun k_ => k_ < w.heap.size) _ _ l1 ji iP wH false _ ?aQ ?aT A5.out).mono ?_); (case aQ => exact Kd.yJ dz.out (Kd.ng (Kd.C_F Bw bV.out) bl_)); (case aT => exact Kd.yJ HC1.out (Kd.ng (Kd.C_F (Kd.mZ .i64) HR1.out) bl_)); rintro e w90 ⟨v527, v530, rfl, ho0, ho1, hb⟩; refine ⟨_, rfl, ?_⟩; have gU := aa.mk (Kd.dJ (Kd.oU (Kd.bQ (ok' := fun k_ => True) ho0 (fun _ hk_ => trivial)) (g := gL) (o := .cells #[.int .i64 0, .slice none 0 0] 51 (0, 0)) bk_) (aG bl_)); have jv := aa.mk (Kd.uC (Kd.dU (ok' := fun k_ => some k_ ≠ (v527 : Value).ownBlock ∧ k_ ≠ kG ∧ k_ ≠ gL) ho1 (fun k_ hk_ => ⟨hk_.2, Or.elim hk_.1 (fun hs_ => Or.elim hs_ (fun hs_ => fun e_ => Nat.not_le.2 hs_ (by rw [e_]; exact om.out)) (fun hs_ => fun e_ => Nat.not_le.2 hs_ (by rw [e_]; exact om.out))) (fun hn_ => (Kd.fP (g := kG) (o := .cells #[.int .i64 ai, .int .i64 az, .int .i64 aA, .int .i64 ay, .slice bq af.length bf] 24 (0, 0)) bk_ k_ hn_)), Or.elim hk_.1 (fun hs_ => Or.elim hs_ (fun hs_ => fun e_ => Nat.not_le.2 hs_ (by rw [e_]; exact oo.out)) (fun hs_ => fun e_ => Nat.not_le.2 hs_ (by rw [e_]; exact oo.out))) (fun hn_ => (Kd.fP (g := gL) (o := .cells #[.int .i64 0, .slice none 0 0] 51 (0, 0)) bk_ k_ hn_))⟩)) (aG bl_)); replace cO := kb_ cO hb; replace dR := kb_ dR hb; replace HB := aa.mk (au bl_ hb); (try clear hb); (try clear hb2); (try clear hk); (try clear hi); (try clear ho0); (try clear ho1)) | ((with_reducible refine aY (N := 7) rfl ?_); (try (refine bY (by rfl) ?_; dsimp only)); refine aZ ?hg (N := 7) ?hd (cs := #[.int .i64 0, .slice none 0 0]) (t := 51) ?hr ?_; (case hd => rfl); (case hg => rfl); (case hr => first | (go_simp; done) | (go_simp; rfl)); intro fq hg w91 aK hb; have mg := aa.mk (aK); have D9 : aa (w.heap.size ≤ fq) := gw_ hg (aG bl_); have GE533 := D9; have kK := nl_ cO hg; have rM := ng_ cO hg; have jb := nl_ dR hg; have rO := ng_ dR hg; replace gU := aa.mk (Kd.cB (Kd.jV (pR_ gU.out) fq (Nat.le_of_eq hg.symm)) hb); replace jv := aa.mk (Kd.gz (Kd.gV (pV_ jv.out) fq (Nat.le_of_eq hg.symm)) hb); replace cO := kb_ cO hb; replace dR := kb_ dR hb; replace HB := aa.mk (au bl_ hb); clear hb aK hg; have hnb92 := rM.out; have hnc92 := kK.out; have hnb93 := rO.out; have hnc93 := jb.out; obtain ⟨hcz94_0, hcz94_1, hfz94_0, hfz94_1⟩ := eQ mg.out; obtain ⟨Ao95, co95, eo95⟩ := Kd.dG gU.out; subst eo95; obtain ⟨hcz96_0, hcz96_1, hfz96_0, hfz96_1⟩ := eQ dR.out))
   refine bodyPost_ret (wN rfl _ _ gL 51 #[.int .i64 0, .slice none 0 0] (0, 0) _ rfl (by (with_reducible repeat (first | refine aj ?_ _ | refine ak ?_ | refine ah ?_ _)); refine bn (cs := #[.int .i64 0, .slice none 0 0]) ?_ 1 _ rfl; (with_reducible repeat (first | refine aj ?_ _ | refine ak ?_ | refine ah ?_ _)); refine bn (cs := #[.int .i64 0, .slice none 0 0]) ?_ 0 _ rfl; (with_reducible repeat (first | refine aj ?_ _ | refine ak ?_ | refine ah ?_ _)); refine bM ?_ jb.out _; (with_reducible repeat (first | refine aj ?_ _ | refine ak ?_ | refine ah ?_ _)); refine bM ?_ jb.out _; (with_reducible repeat (first | refine aj ?_ _ | refine ak ?_ | refine ah ?_ _)); exact dR.out) Tryd.underlying51 rfl (by kernel_rfl)) rfl ?_
   exact ⟨_, re_, by first | exact Kd.gZ _ _ _ _ _ | exact Kd.jD _ _ _ _ _ | exact Kd.iR _ _ _ _ _ | exact Kd.jB _ _ _ _ _ | exact Kd.jC _ _ _ _ _, bl_⟩
 ·rw [if_neg c4] at H; have kM : (ug == 0) = false := beq_eq_false_iff_ne.mpr c4; have yS : (ug != 0) = true := bne_iff_ne.mpr c4; simp only [Option.some.injEq, Prod.mk.injEq] at H; obtain ⟨rfl, rfl, rfl⟩ := H; go_enter Tryd.func58, Tryd.ntmps58; go_wp2_with (first | ((with_reducible refine aY (N := 2) rfl ?_); (try (refine bY (by rfl) ?_; dsimp only)); refine aZ ?hg (N := 2) ?hd (cs := #[.int .i64 ai, .int .i64 az, .int .i64 aA, .int .i64 ay, .slice bq af.length bf]) (t := 24) ?hr ?_; (case hd => rfl); (case hg => rfl); (case hr => first | (go_simp; done) | (go_simp; rfl)); intro kG hg w97 aK hb; have cO := aa.mk (aK); have om : aa (w.heap.size ≤ kG) := gw_ hg (aG bl_); have Qb := om; replace HB := aa.mk (au bl_ hb); clear hb aK hg) | ((with_reducible refine aY (N := 4) rfl ?_); (try (refine bY (by rfl) ?_; dsimp only)); refine aZ ?hg (N := 4) ?hd (cs := #[.int .i64 0, .slice none 0 0]) (t := 51) ?hr ?_; (case hd => rfl); (case hg => rfl); (case hr => first | (go_simp; done) | (go_simp; rfl)); intro gL hg w98 aK hb; have dR := aa.mk (aK); have oo : aa (w.heap.size ≤ gL) := gw_ hg (aG bl_); have Qc := oo; have oC := nl_ cO hg; have oD := ng_ cO hg; replace cO := kb_ cO hb; replace HB := aa.mk (au bl_ hb); clear hb aK hg; have hnb99 := oC.out; have hnc99 := oD.out; obtain ⟨hcz100_0, hcz100_1, hcz100_2, hcz100_3, hcz100_4, hfz100_0, hfz100_1, hfz100_2, hfz100_3, hfz100_4⟩ := bF cO.out) | ((with_reducible refine aN (f := 76) rfl ?_); refine bJ (some 11) rfl rfl Tryd.func76 (by kernel_rfl) rfl #[.agg #[.int .i64 ai, .int .i64 az, .int .i64 aA, .int .i64 ay, .slice bq af.length bf]] rfl mp_ ?_; (with_reducible refine (ed.calls k ai az aA ay _ _ af ug _ ?aQ ?aT A3.out).mono ?_); (case aQ => exact cb_ (Kd.bA bV.out HB.out)); (case aT => exact dz.out); rintro e w101 ⟨rfl, hb⟩; refine ⟨_, rfl, ?_⟩; replace cO := kb_ cO hb; replace dR := kb_ dR hb; replace HB := aa.mk (au bl_ hb); (try clear hb); (try clear hb2); (try clear hk); (try clear hi); obtain ⟨hcz102_0, hcz102_1, hfz102_0, hfz102_1⟩ := eQ dR.out))
  refine bodyPost_ret (wN rfl _ _ gL 51 #[.int .i64 0, .slice none 0 0] (0, 0) _ rfl (by (with_reducible repeat (first | refine aj ?_ _ | refine ak ?_ | refine ah ?_ _)); refine bn (cs := #[.int .i64 0, .slice none 0 0]) ?_ 1 _ rfl; (with_reducible repeat (first | refine aj ?_ _ | refine ak ?_ | refine ah ?_ _)); refine bn (cs := #[.int .i64 0, .slice none 0 0]) ?_ 0 _ rfl; (with_reducible repeat (first | refine aj ?_ _ | refine ak ?_ | refine ah ?_ _)); exact dR.out) Tryd.underlying51 rfl (by kernel_rfl)) rfl ?_
  exact ⟨_, re_, by first | exact Kd.gZ _ _ _ _ _ | exact Kd.jD _ _ _ _ _ | exact Kd.iR _ _ _ _ _ | exact Kd.jB _ _ _ _ _ | exact Kd.jC _ _ _ _ _, bl_⟩

end Go.Proofs.YtggelekooacmnaaDoor.Q
set_option linter.unusedVariables false
set_option linter.unusedSimpArgs false
namespace Go.Proofs.YtggelekooacmnaaDoor.Pure
open Go.RowKit Go.Proofs.YtggelekooacmnaaDoor.Q Go.Proofs.YtggelekooacmnaaDoorW.bg Go.Proofs.YtggelekooacmnaaDoorW.bP Go.Proofs.YtggelekooacmnaaDoorW.bX
-- read, Yb on the cells of a value
theorem SS {t : S24} (h5 : t.f0 ≠ 5) (h6 : t.f0 ≠ 6) (c : Int) (rest : List Int) : Ev (fun k => bI.f k t.f0 t.f1 t.f2 t.f3 t.f4 (c :: rest)) (c, [], rest, true) := by
  refine ⟨1, fun k hk => ?_⟩
  obtain ⟨k, rfl⟩ : ∃ j, k = j + 1 := ⟨k - 1, by omega⟩
  simp only [bI.f, if_neg h5, if_neg h6]
  rw [if_neg (by simp; omega), if_pos (by simp), if_pos (by simp; omega)]
  simp [rd]
theorem read_l0t (n : Nat) (ts : List S24) (vs : List S51) (hl : ts.length = vs.length) (h4 : ts.length ≤ 4) (rest : List Int)
    (ih : ∀ (i : Nat) (h : i < ts.length) (h' : i < vs.length) (r : List Int), (cel n ts[i] vs[i]).length + r.length ≤ 100000000 → Ev (fun k => bI.f k (ts[i]).f0 (ts[i]).f1 (ts[i]).f2 (ts[i]).f3 (ts[i]).f4 (cel n ts[i] vs[i] ++ r)) ((vs[i]).f0, (vs[i]).f1, r, true)) :
    ∀ (d i : Nat) (o : List S51), o.length ≤ i → i + d = vs.length → (rR (cel n) (ts.drop i) (vs.drop i)).length + rest.length ≤ 100000000 → Ev (fun k => bI.l0 k (rR (cel n) (ts.drop i) (vs.drop i) ++ rest) ts.length ts.length i 5 0 0 0 ts 0 o) (0, o ++ vs.drop i, rest, true) := by
  intro d
  induction d with
  | zero =>
    intro i o ho hi hq
    refine ⟨1, fun k hk => ?_⟩
    obtain ⟨k, rfl⟩ : ∃ j, k = j + 1 := ⟨k - 1, by omega⟩
    simp only [bI.l0]
    rw [if_neg (by omega), if_neg (by decide), List.drop_eq_nil_of_le (show vs.length ≤ i by omega), List.drop_eq_nil_of_le (show ts.length ≤ i by omega)]; simp [rR]
  | succ d IH =>
    intro i o ho hi hq
    have hlt : i < vs.length := by omega
    have hlt' : i < ts.length := by omega
    rw [List.drop_eq_getElem_cons hlt, List.drop_eq_getElem_cons hlt', rR, List.length_append] at hq
    obtain ⟨K1, e1⟩ := ih i hlt' hlt (rR (cel n) (ts.drop (i + 1)) (vs.drop (i + 1)) ++ rest) (by rw [List.length_append]; omega)
    obtain ⟨K2, e2⟩ := IH (i + 1) (o ++ [vs[i]]) (by rw [List.length_append, List.length_singleton]; omega) (by omega) (by omega)
    refine ⟨max K1 K2 + 1, fun k hk => ?_⟩
    obtain ⟨k, rfl⟩ : ∃ j, k = j + 1 := ⟨k - 1, by omega⟩
    have e1' := e1 k (by omega)
    have e2' := e2 k (by omega)
    dsimp only at e1' e2'
    have ec : rR (cel n) (ts.drop i) (vs.drop i) ++ rest = cel n ts[i] vs[i] ++ (rR (cel n) (ts.drop (i + 1)) (vs.drop (i + 1)) ++ rest) := by
      rw [List.drop_eq_getElem_cons hlt, List.drop_eq_getElem_cons hlt', rR, List.append_assoc]
    simp only [bI.l0]
    rw [if_pos (by omega), NK hlt', Option.bind_some, ec, e1', Option.bind_some]
    dsimp only
    rw [if_pos rfl, if_pos (by omega), jE (by omega), etaV, e2', List.append_assoc, List.drop_eq_getElem_cons hlt]
    rfl
theorem read_l0l (n : Nat) (x : S24) (m : Int) (hs : x.f0 = 1 ∨ x.f0 = 2) (vs : List S51) (hv : ∀ v ∈ vs, v.f1 = []) (h4 : vs.length ≤ 4) (hm : (vs.length : Int) ≤ m) (hm2 : m ≤ 4) (tail : List Int) (ht : m.toNat - vs.length ≤ tail.length) (hb : tail.length ≤ 1000000000) :
    ∀ (d i : Nat) (o : List S51), o.length ≤ i → i + d = vs.length → Ev (fun k => bI.l0 k ((vs.drop i).map (fun y => y.f0) ++ tail) vs.length vs.length i 6 0 0 m [x] 0 o) (0, o ++ vs.drop i, tail.drop (m.toNat - vs.length), true) := by
  intro d
  induction d with
  | zero =>
    intro i o ho hi
    refine ⟨1, fun k hk => ?_⟩
    obtain ⟨k, rfl⟩ : ∃ j, k = j + 1 := ⟨k - 1, by omega⟩
    have hw : wrap64 (m - (vs.length : Int)) = ((m.toNat - vs.length : Nat) : Int) := by unfold wrap64; omega
    simp only [bI.l0]
    rw [if_neg (by omega), if_pos trivial, List.drop_eq_nil_of_le (show vs.length ≤ i by omega), hw]
    simp only [List.map_nil, List.nil_append, List.append_nil]
    rw [if_neg (by omega), if_pos (by omega), if_pos (by omega)]
    simp
  | succ d IH =>
    intro i o ho hi
    have hlt : i < vs.length := by omega
    obtain ⟨K1, e1⟩ := SS (t := x) (by omega) (by omega) vs[i].f0 ((vs.drop (i + 1)).map (fun y => y.f0) ++ tail)
    obtain ⟨K2, e2⟩ := IH (i + 1) (o ++ [vs[i]]) (by rw [List.length_append, List.length_singleton]; omega) (by omega)
    refine ⟨max K1 K2 + 1, fun k hk => ?_⟩
    obtain ⟨k, rfl⟩ : ∃ j, k = j + 1 := ⟨k - 1, by omega⟩
    have e1' := e1 k (by omega)
    have e2' := e2 k (by omega)
    dsimp only at e1' e2'
    have ec : (vs.drop i).map (fun y => y.f0) ++ tail = vs[i].f0 :: ((vs.drop (i + 1)).map (fun y => y.f0) ++ tail) := by
      rw [List.drop_eq_getElem_cons hlt]; rfl
    have hv' : (⟨vs[i].f0, []⟩ : S51) = vs[i] := by
      have := hv vs[i] (List.getElem_mem hlt)
      rw [← this, etaV]
    simp only [bI.l0]
    rw [if_pos (by omega), NL, Option.bind_some, ec, e1', Option.bind_some]
    dsimp only
    rw [if_pos rfl, if_pos (by omega), jE (by omega), hv', e2', List.append_assoc, List.drop_eq_getElem_cons hlt]
    rfl
theorem read_ev (n : Nat) : ∀ {t : S24} {v : S51}, n ≤ 10 → Vt n t → chk n t v = 0 → ∀ rest : List Int, (cel n t v).length + rest.length ≤ 100000000 → Ev (fun k => bI.f k t.f0 t.f1 t.f2 t.f3 t.f4 (cel n t v ++ rest)) (v.f0, v.f1, rest, true) := by
  induction n with
  | zero => intro t v _ h; cases h
  | succ n ih =>
    intro t v hn h hc rest hrest
    have hlen := M0 (n + 1) h hc
    have hpos := (ET (n + 1) h).2
    have leaf : t.f0 ≠ 5 → t.f0 ≠ 6 → Ev (fun k => bI.f k t.f0 t.f1 t.f2 t.f3 t.f4 (cel (n + 1) t v ++ rest)) (v.f0, v.f1, rest, true) := by
      intro h5 h6
      rw [show cel (n + 1) t v = [v.f0] from by simp [cel, h5, h6], (oP h5 h6 hc).1]
      exact SS h5 h6 v.f0 rest
    cases h with
    | bool => exact leaf (by decide) (by decide)
    | int _ lo hi h1 h2 h3 => exact leaf (by simp) (by simp)
    | nat => exact leaf (by decide) (by decide)
    | real => exact leaf (by decide) (by decide)
    | tup _ l h1 h2 h3 h4 =>
      obtain ⟨hz, hl, ha⟩ := yc hc
      have ec : cel (n + 1) ⟨5, 0, 0, 0, l⟩ v = rR (cel n) l v.f1 := by simp [cel]
      rw [ec] at hlen hrest ⊢
      have hb : ∀ (i : Nat) (h : i < l.length) (h' : i < v.f1.length) (r : List Int), (cel n l[i] v.f1[i]).length + r.length ≤ 100000000 → Ev (fun k => bI.f k (l[i]).f0 (l[i]).f1 (l[i]).f2 (l[i]).f3 (l[i]).f4 (cel n l[i] v.f1[i] ++ r)) ((v.f1[i]).f0, (v.f1[i]).f1, r, true) := fun i h h' r hr => ih (by omega) (h3 _ (List.getElem_mem h)) (ha i h h') r hr
      obtain ⟨K, e⟩ := read_l0t n l v.f1 hl.symm h2 rest hb v.f1.length 0 [] (by simp) (by omega) (by simpa using hrest)
      refine ⟨K + 2, fun k hk => ?_⟩
      obtain ⟨k, rfl⟩ : ∃ j, k = j + 2 := ⟨k - 2, by omega⟩
      have e' := e k (by omega)
      simp only [bI.f]
      rw [if_neg (by rw [List.length_append]; omega), if_pos trivial]
      simp only [bI.j0]
      rw [hz]
      simpa using e'
    | lst _ m x h1 h2 h3 h4 =>
      obtain ⟨hz, hl, ha⟩ := yf hc
      have ec : cel (n + 1) ⟨6, 0, 0, m, [x]⟩ v = (v.f1.length : Int) :: (v.f1.map (fun x => x.f0) ++ List.replicate (m.toNat - v.f1.length) (zr x)) := by simp [cel, rd1]
      rw [ec] at hlen hrest ⊢
      have hv : ∀ y ∈ v.f1, y.f1 = [] := by
        intro y hy
        have hq := ha y hy
        cases n with
        | zero => cases h3
        | succ n => exact (oP (by omega) (by omega) hq).1
      simp only [List.length_cons, List.length_append, List.length_map, List.length_replicate] at hrest
      obtain ⟨K, e⟩ := read_l0l n x m h4 v.f1 hv (by omega) hl h2 (List.replicate (m.toNat - v.f1.length) (zr x) ++ rest) (by simp) (by simp; omega) v.f1.length 0 [] (by simp) (by omega)
      refine ⟨K + 2, fun k hk => ?_⟩
      obtain ⟨k, rfl⟩ : ∃ j, k = j + 2 := ⟨k - 2, by omega⟩
      have e' := e k (by omega)
      have hr0 : rd ((v.f1.length : Int) :: (v.f1.map (fun x => x.f0) ++ List.replicate (m.toNat - v.f1.length) (zr x)) ++ rest) 0 = v.f1.length := by simp [rd]
      simp only [bI.f]
      rw [if_neg (by simp; omega), if_neg (by decide), if_pos trivial, if_pos (by simp; omega), hr0, if_neg (by omega), if_neg (by omega), if_pos (by simp; omega)]
      simp only [bI.j0]
      rw [hz]
      simpa using e'
theorem Qd {t : S24} (hv : Vt 10 t) (hl : (prt 10 t).length ≤ 24) (h4 : t.f0 ≠ 4) : Ev (at_ ed.f t) 0 ∧ Ev (at_ fe.f t) 0 := by
  obtain ⟨⟨K1, e1⟩, ⟨K2, e2⟩⟩ := UA hv hl
  unfold at_ at e1 e2
  refine ⟨⟨K1, fun k hk => ?_⟩, ⟨K2, fun k hk => ?_⟩⟩
  · simp only [at_, ed.f]
    rw [e1 k hk, Option.bind_some, if_pos rfl, if_neg h4]
  · simp only [at_, fe.f]
    rw [e2 k hk, Option.bind_some, if_pos rfl, if_neg h4]
theorem Od {t : S24} {v : S51} {m : Nat} (hv : Vt 10 t) (hl : (prt 10 t).length ≤ 24) (h4 : t.f0 ≠ 4) (hb : Bv m v) (hm : 10 ≤ m) : Ev (at2 gJ.f t v) (chk 10 t v) ∧ Ev (at2 gG.f t v) (chk 10 t v) := by
  obtain ⟨⟨K1, e1⟩, ⟨K2, e2⟩⟩ := Qd hv hl h4
  obtain ⟨K3, e3⟩ := TW 10 hv h4 hb hm
  obtain ⟨K4, e4⟩ := X6 10 hv h4 hb hm
  unfold at_ at e1 e2
  dsimp only [at2] at e3 e4
  refine ⟨⟨K1 + K3, fun k hk => ?_⟩, ⟨K2 + K4, fun k hk => ?_⟩⟩
  · simp only [at2, gJ.f]
    rw [e1 k (by omega), Option.bind_some, if_pos rfl, e3 k (by omega), Option.bind_some]
  · simp only [at2, gG.f]
    rw [e2 k (by omega), Option.bind_some, if_pos rfl, e4 k (by omega), Option.bind_some]
theorem Qe {t : S24} {v : S51} {m : Nat} (hv : Vt 10 t) (hl : (prt 10 t).length ≤ 24) (h4 : t.f0 ≠ 4) (hb : Bv m v) (hm : 10 ≤ m) (hc : chk 10 t v = 0) : Ev (at2 dC.f t v) (cel 10 t v, 0) := by
  obtain ⟨⟨K1, e1⟩, _⟩ := Od hv hl h4 hb hm
  obtain ⟨K2, e2⟩ := PW 10 (by omega) hv hb hm hc
  dsimp only [at2] at e1 e2
  refine ⟨K1 + K2, fun k hk => ?_⟩
  simp only [at2, dC.f]
  rw [e1 k (by omega), Option.bind_some, if_pos hc, e2 k (by omega), Option.bind_some]
theorem Unflatten_ev {t : S24} {v : S51} {m : Nat} (hv : Vt 10 t) (hl : (prt 10 t).length ≤ 24) (h4 : t.f0 ≠ 4) (hb : Bv m v) (hm : 10 ≤ m) (hc : chk 10 t v = 0) :
    Ev (fun k => eU.f k t.f0 t.f1 t.f2 t.f3 t.f4 (cel 10 t v)) (v.f0, v.f1, 0) := by
  obtain ⟨⟨K1, e1⟩, _⟩ := Qd hv hl h4
  have hcl := M0 10 hv hc
  obtain ⟨K2, e2⟩ := read_ev 10 (by omega) hv hc [] (by simp; omega)
  obtain ⟨K3, e3⟩ := TW 10 hv h4 hb hm
  obtain ⟨K4, e4⟩ := PW 10 (by omega) hv hb hm hc
  obtain ⟨K5, e5⟩ := equal_ev (cel 10 t v) (cel 10 t v) (by omega)
  unfold at_ at e1
  dsimp only [at2] at e2 e3 e4 e5
  simp only [List.append_nil, decide_true] at e2 e5
  refine ⟨K1 + K2 + K3 + K4 + K5, fun k hk => ?_⟩
  simp only [eU.f]
  rw [e1 k (by omega), Option.bind_some, if_pos rfl, e2 k (by omega), Option.bind_some, if_pos rfl]
  rw [if_pos (by simp), e3 k (by omega), Option.bind_some, if_pos hc, e4 k (by omega), Option.bind_some, e5 k (by omega), Option.bind_some, if_pos rfl]

end Go.Proofs.YtggelekooacmnaaDoor.Pure
namespace Go.Proofs.YtggelekooacmnaaDoor.Q
open Go.RowKit Go.Proofs.YtggelekooacmnaaDoorW.bg Go.Proofs.YtggelekooacmnaaDoorW.bP Go.Proofs.YtggelekooacmnaaDoorW.bX
attribute [local go_sem] ek eu fw fA dH dI eB eD   -- for this text's walks alone
set_option linter.unusedVariables false
set_option linter.unusedSimpArgs false

/-! ### ax: function 15 -/
mutual
def ax.j0 : Nat → Int → Int → List Int → Int → Int → Option (Int × Int × Int × Int × (List (S24)) × Int × Int)
 | 0, _, _, _, _, _ => none
 | k + 1, x1, x5, x1000, mW, mX => if x5 = 0 then (some (1, 0, 0, 0, ([] : List (S24)), mW, mX)) else (if x5 = 1 then (ax.j1 k x1 x5 (x5 == 1) x1000 mW mX) else (ax.j1 k x1 x5 (x5 == 2) x1000 mW mX))
def ax.j1 : Nat → Int → Int → Bool → List Int → Int → Int → Option (Int × Int × Int × Int × (List (S24)) × Int × Int)
 | 0, _, _, _, _, _, _ => none
 | k + 1, x1, x15, x19, x1000, mW, mX => if x19 = true then ((dA.f x1000 mW mX (-2) 3).bind fun Ea => ((bS.f x1000 Ea.2.1 Ea.2.2 4).bind fun Bh => (some (2, Ea.1, wrap64 (Ea.1 + Bh.1), 0, ([] : List (S24)), Bh.2.1, Bh.2.2)))) else (if x15 = 3 then (ax.j2 k x1 (x15 == 3) x1000 mW mX) else (ax.j2 k x1 (x15 == 4) x1000 mW mX))
def ax.j2 : Nat → Int → Bool → List Int → Int → Int → Option (Int × Int × Int × Int × (List (S24)) × Int × Int)
 | 0, _, _, _, _, _ => none
 | k + 1, x1, x30, x1000, mW, mX => if x30 = true then ((dA.f x1000 mW mX 2 3).bind fun JK => (ax.l0 k x1 JK.1 x1000 JK.2.1 JK.2.2 5 0 0 0 ([] : List (S24)))) else ((dA.f x1000 mW mX 1 2).bind fun JL => ((ax.f k x1000 JL.2.1 JL.2.2 1).bind fun mD => (some (6, 0, 0, JL.1, (([(⟨mD.1, mD.2.1, mD.2.2.1, mD.2.2.2.1, mD.2.2.2.2.1⟩ : S24)] : List (S24))), mD.2.2.2.2.2.1, mD.2.2.2.2.2.2))))
def ax.l0 : Nat → Int → Int → List Int → Int → Int → Int → Int → Int → Int → List (S24) → Option (Int × Int × Int × Int × (List (S24)) × Int × Int)
 | 0, _, _, _, _, _, _, _, _, _, _ => none
 | k + 1, x1, x8, x1000, mW, mX, Xj, Xk, Xl, Xm, Sb => if x8 > 0 then ((ax.f k x1000 mW mX (wrap64 (x1 - 1))).bind fun JM => (if Sb.length < 2513169434916 then (ax.l0 k x1 (wrap64 (x8 - 1)) x1000 JM.2.2.2.2.2.1 JM.2.2.2.2.2.2 Xj Xk Xl Xm (Sb ++ [(⟨JM.1, JM.2.1, JM.2.2.1, JM.2.2.2.1, JM.2.2.2.2.1⟩ : S24)])) else (none))) else (some (Xj, Xk, Xl, Xm, Sb, mW, mX))
def ax.f : Nat → List Int → Int → Int → Int → Option (Int × Int × Int × Int × (List (S24)) × Int × Int)
 | 0, _, _, _, _ => none
 | k + 1, bT, dZ, fJ, a1 => (bS.f bT dZ fJ 6).bind fun Bi => (if a1 ≤ 1 then ((bS.f bT Bi.2.1 Bi.2.2 3).bind fun Bj => (ax.j0 k a1 Bj.1 bT Bj.2.1 Bj.2.2)) else (ax.j0 k a1 Bi.1 bT Bi.2.1 Bi.2.2))
end
theorem ax.fH : ∀ k, (∀ y0 y1 y2 y3, LeO (ax.f k y0 y1 y2 y3) (ax.f (k + 1) y0 y1 y2 y3)) ∧ (∀ y0 y1 y2 y3 y4, LeO (ax.j0 k y0 y1 y2 y3 y4) (ax.j0 (k + 1) y0 y1 y2 y3 y4)) ∧ (∀ y0 y1 y2 y3 y4 y5, LeO (ax.j1 k y0 y1 y2 y3 y4 y5) (ax.j1 (k + 1) y0 y1 y2 y3 y4 y5)) ∧ (∀ y0 y1 y2 y3 y4, LeO (ax.j2 k y0 y1 y2 y3 y4) (ax.j2 (k + 1) y0 y1 y2 y3 y4)) ∧ (∀ y0 y1 y2 y3 y4 y5 y6 y7 y8 y9, LeO (ax.l0 k y0 y1 y2 y3 y4 y5 y6 y7 y8 y9) (ax.l0 (k + 1) y0 y1 y2 y3 y4 y5 y6 y7 y8 y9))
 | 0 => ⟨fun _ _ _ _ r h => by simp [ax.f] at h, fun _ _ _ _ _ r h => by simp [ax.j0] at h, fun _ _ _ _ _ _ r h => by simp [ax.j1] at h, fun _ _ _ _ _ r h => by simp [ax.j2] at h, fun _ _ _ _ _ _ _ _ _ _ r h => by simp [ax.l0] at h⟩
 | k + 1 => by
  obtain ⟨ih0, ih1, ih2, ih3, ih4⟩ := ax.fH k; refine ⟨?_, ?_, ?_, ?_, ?_⟩
  ·intro y0 y1 y2 y3; unfold ax.f; repeat' first
   | (with_reducible exact ih0 _ _ _ _)
   | (with_reducible exact ih1 _ _ _ _ _)
   | (with_reducible exact ih2 _ _ _ _ _ _)
   | (with_reducible exact ih3 _ _ _ _ _)
   | (with_reducible exact ih4 _ _ _ _ _ _ _ _ _ _)
   | (with_reducible exact LeO.refl _)
   | (with_reducible exact LeO.none _)
   | (with_reducible refine LeO.ite ?_ ?_)
   | (with_reducible refine LeO.bind ?_ (fun _ => ?_))
   | exact ih0 _ _ _ _
   | exact ih1 _ _ _ _ _
   | exact ih2 _ _ _ _ _ _
   | exact ih3 _ _ _ _ _
   | exact ih4 _ _ _ _ _ _ _ _ _ _
   | exact LeO.none _
   | refine LeO.ite ?_ ?_
   | refine LeO.bind ?_ (fun _ => ?_)
  ·intro y0 y1 y2 y3 y4; unfold ax.j0; repeat' first
   | (with_reducible exact ih0 _ _ _ _)
   | (with_reducible exact ih1 _ _ _ _ _)
   | (with_reducible exact ih2 _ _ _ _ _ _)
   | (with_reducible exact ih3 _ _ _ _ _)
   | (with_reducible exact ih4 _ _ _ _ _ _ _ _ _ _)
   | (with_reducible exact LeO.refl _)
   | (with_reducible exact LeO.none _)
   | (with_reducible refine LeO.ite ?_ ?_)
   | (with_reducible refine LeO.bind ?_ (fun _ => ?_))
   | exact ih0 _ _ _ _
   | exact ih1 _ _ _ _ _
   | exact ih2 _ _ _ _ _ _
   | exact ih3 _ _ _ _ _
   | exact ih4 _ _ _ _ _ _ _ _ _ _
   | exact LeO.none _
   | refine LeO.ite ?_ ?_
   | refine LeO.bind ?_ (fun _ => ?_)
  ·intro y0 y1 y2 y3 y4 y5; unfold ax.j1; repeat' first
   | (with_reducible exact ih0 _ _ _ _)
   | (with_reducible exact ih1 _ _ _ _ _)
   | (with_reducible exact ih2 _ _ _ _ _ _)
   | (with_reducible exact ih3 _ _ _ _ _)
   | (with_reducible exact ih4 _ _ _ _ _ _ _ _ _ _)
   | (with_reducible exact LeO.refl _)
   | (with_reducible exact LeO.none _)
   | (with_reducible refine LeO.ite ?_ ?_)
   | (with_reducible refine LeO.bind ?_ (fun _ => ?_))
   | exact ih0 _ _ _ _
   | exact ih1 _ _ _ _ _
   | exact ih2 _ _ _ _ _ _
   | exact ih3 _ _ _ _ _
   | exact ih4 _ _ _ _ _ _ _ _ _ _
   | exact LeO.none _
   | refine LeO.ite ?_ ?_
   | refine LeO.bind ?_ (fun _ => ?_)
  ·intro y0 y1 y2 y3 y4; unfold ax.j2; repeat' first
   | (with_reducible exact ih0 _ _ _ _)
   | (with_reducible exact ih1 _ _ _ _ _)
   | (with_reducible exact ih2 _ _ _ _ _ _)
   | (with_reducible exact ih3 _ _ _ _ _)
   | (with_reducible exact ih4 _ _ _ _ _ _ _ _ _ _)
   | (with_reducible exact LeO.refl _)
   | (with_reducible exact LeO.none _)
   | (with_reducible refine LeO.ite ?_ ?_)
   | (with_reducible refine LeO.bind ?_ (fun _ => ?_))
   | exact ih0 _ _ _ _
   | exact ih1 _ _ _ _ _
   | exact ih2 _ _ _ _ _ _
   | exact ih3 _ _ _ _ _
   | exact ih4 _ _ _ _ _ _ _ _ _ _
   | exact LeO.none _
   | refine LeO.ite ?_ ?_
   | refine LeO.bind ?_ (fun _ => ?_)
  ·intro y0 y1 y2 y3 y4 y5 y6 y7 y8 y9; unfold ax.l0; repeat' first
   | (with_reducible exact ih0 _ _ _ _)
   | (with_reducible exact ih1 _ _ _ _ _)
   | (with_reducible exact ih2 _ _ _ _ _ _)
   | (with_reducible exact ih3 _ _ _ _ _)
   | (with_reducible exact ih4 _ _ _ _ _ _ _ _ _ _)
   | (with_reducible exact LeO.refl _)
   | (with_reducible exact LeO.none _)
   | (with_reducible refine LeO.ite ?_ ?_)
   | (with_reducible refine LeO.bind ?_ (fun _ => ?_))
   | exact ih0 _ _ _ _
   | exact ih1 _ _ _ _ _
   | exact ih2 _ _ _ _ _ _
   | exact ih3 _ _ _ _ _
   | exact ih4 _ _ _ _ _ _ _ _ _ _
   | exact LeO.none _
   | refine LeO.ite ?_ ?_
   | refine LeO.bind ?_ (fun _ => ?_)
theorem ax.mono : ∀ a0 a1 a2 a3 k, LeO (ax.f k a0 a1 a2 a3) (ax.f (k + 1) a0 a1 a2 a3) := by
 intro a0 a1 a2 a3 k; obtain ⟨ih0, ih1, ih2, ih3, ih4⟩ := ax.fH k; exact ih0 a0 a1 a2 a3
def ax.T17 : Bool × List (List Nat × List Nat) := (true, [([], []), ([0], [0]), ([], []), ([], []), ([3], [3]), ([2, 4], [2, 4]), ([5], [5]), ([1, 6, 5], [1, 6]), ([0, 1, 2, 3, 4, 5, 6, 7], []), ([8, 7, 7, 0, 1, 2, 3, 4, 5, 6, 7], [7, 8])])
def ax.B17 : List Nat := [0, 1, 0, 0, 8, 28, 60, 127, 255, 511]
theorem ax.tab17 : kJ .any (opsOf Tryd.f15 17) = ax.T17 := by kernel_rfl
theorem ax.bits17 : lJ ax.T17.2 ax.B17 = true := by kernel_rfl
set_option maxHeartbeats 8000000 in
set_option maxRecDepth 100000 in
theorem ax.calls (k : Nat) : ∀ (g : Nat) (bT : List Int) (dZ : Int) (fJ : Int) (a1 : Int) (r1 : Int) (r2 : Int) (r3 : Int) (r4 : Int) (r5 : List (S24)) (r6 : Int) (r7 : Int) (w0 w : World) (hI : aH w0 w g bT dZ fJ) (hB : Below w0.heap.size w0 w) (h : ax.f k bT dZ fJ a1 = some (r1, r2, r3, r4, r5, r6, r7)),
  Calls Tryd.prog 15 #[.pointer (some ⟨g, 0, none⟩), .int .i64 a1] w fun e w' => ∃ v4_ : Value, e = .returned (.agg #[.int .i64 r1, .int .i64 r2, .int .i64 r3, .int .i64 r4, v4_]) ∧ Kd.N k24 24 w' w.heap.size (fun k_ => (w.heap.size ≤ k_)) v4_ r5 ∧ aH w0 w' g bT r6 r7 ∧ Below w0.heap.size w0 w' ∧ aI w w' g none := by
 induction k using Nat.strongRecOn with
 | _ k ih =>
 intro g bT dZ fJ a1 r1 r2 r3 r4 r5 r6 r7 w0 w hI hB h; cases k with
 | zero => exact absurd h (by simp [ax.f])
 | succ k =>
 simp only [ax.f] at h; have ou := Tryd.underlying24; have HI0 := aa.mk hI; have HK := aa.mk (aI.refl w g none); have HL := aa.mk hB.size; clear hI; have HW0 := aa.mk hB.size; have HB := aa.mk hB; clear hB; have H : ((bS.f bT dZ fJ 6).bind fun Bi => (if a1 ≤ 1 then ((bS.f bT Bi.2.1 Bi.2.2 3).bind fun Bj => (ax.j0 k a1 Bj.1 bT Bj.2.1 Bj.2.2)) else (ax.j0 k a1 Bi.1 bT Bi.2.1 Bi.2.2))) = some (r1, r2, r3, r4, r5, r6, r7) := h; clear h; replace H := Option.bind_eq_some_iff.mp H; obtain ⟨⟨t223, t224, t225⟩, A30, H⟩ := H; replace H : (if a1 ≤ 1 then ((bS.f bT t224 t225 3).bind fun Bj => (ax.j0 k a1 Bj.1 bT Bj.2.1 Bj.2.2)) else (ax.j0 k a1 t223 bT t224 t225)) = some (r1, r2, r3, r4, r5, r6, r7) := H; have A3 := aa.mk A30; clear A30; have HC4 := aa.mk H; clear H; go_enter Tryd.func15, Tryd.ntmps15; go_upto_if 12 with (first | ((with_reducible refine aY (N := 4) rfl ?_); refine aZ ?hg (N := 4) ?hd (cs := #[.int .i64 0, .int .i64 0, .int .i64 0, .int .i64 0, .slice none 0 0]) (t := 24) ?hr ?_; (case hd => rfl); (case hg => rfl); (case hr => first | (go_simp; done) | (go_simp; rfl)); intro gp hg w5 aK hb; have jw := aa.mk (aK); have je := aa.mk ((by rw [hg]; exact (gP (w := w) (g := g) (row := none) (by repeat (first | (with_reducible first | exact HK.out | apply aI.dF | apply bu | apply bD | apply bz) | exact HK.out))) : w.heap.size ≤ gp)); have GM := aa.mk ((Nat.le_trans HW0.out (by rw [hg]; exact (gP (w := w) (g := g) (row := none) (by repeat (first | (with_reducible first | exact HK.out | apply aI.dF | apply bu | apply bD | apply bz) | exact HK.out))) : w.heap.size ≤ gp) : w0.heap.size ≤ gp)); have rC := aa.mk ((by rw [hg]; exact Nat.ne_of_lt (aH.lt (show aH w0 _ g bT dZ fJ from si_)) : g ≠ gp)); have rD := aa.mk ((by rw [hg]; exact Nat.ne_of_gt (aH.lt (show aH w0 _ g bT dZ fJ from si_)) : gp ≠ g)); replace HI0 := aa.mk (aH.below si_ hb); replace HK := aa.mk (aI.trans (by repeat (first | (with_reducible first | exact HK.out | apply aI.dF | apply bu | apply bD | apply bz) | exact HK.out)) (aI.of_below hb g none) (.inl rfl)); replace HB := aa.mk (au bl_ hb); clear hb aK hg) | ((with_reducible refine aN (f := 20) rfl ?_); refine bJ (some 10) rfl rfl Tryd.func20 (by kernel_rfl) rfl #[.pointer (some ⟨g, 0, none⟩), .int .i64 6] rfl mp_ ?_; (with_reducible refine (bS.calls g bT dZ fJ 6 t223 t224 t225 w0 _ ?aQ ?aT A3.out).mono ?_); (case aQ => repeat (first | (with_reducible first | exact HI0.out | apply aH.alloc | apply aH.drewN | apply aH.drew | apply aH.jI | apply aH.jJ | refine aH.far ?_ rC.out _) | exact HI0.out)); (case aT => repeat (first | (with_reducible first | exact HB.out | apply cz | apply bN | apply bU | refine bR ?_ (aH.ge HI0.out) | refine bR ?_ GM.out) | exact HB.out)); rintro e w6 ⟨rfl, hi, hb, hk⟩; refine ⟨_, rfl, ?_⟩; replace jw := aa.mk (aI.blk hk (g' := gp) (o := .cells #[.int .i64 0, .int .i64 0, .int .i64 0, .int .i64 0, .slice none 0 0] 24 (0, 0)) bk_ rD.out (by simp)); replace HK := aa.mk (aI.trans (by repeat (first | (with_reducible first | exact HK.out | apply aI.dF | apply bu | apply bD | apply bz | refine aX ?_ je.out _) | exact HK.out)) hk (.inl rfl)); replace HB := aa.mk (hb); replace HI0 := aa.mk (hi); (try clear hb); (try clear hb2); (try clear hk); (try clear hi)))
 (try simp only [Act.put, List.setIfInBounds_toArray, List.set_cons_zero, List.set_cons_succ])
 go_cut [5] (fun v5 wc => ∃ (kq : Nat) (oF : Int) (ma : Int) (mf : Int), v5 = .int .i64 oF ∧ aa (ax.j0 kq a1 oF bT ma mf = some (r1, r2, r3, r4, r5, r6, r7)) ∧ aa (kq ≤ k) ∧ aa (wc.heap[gp]? = some (.cells #[.int .i64 0, .int .i64 0, .int .i64 0, .int .i64 0, (.slice none 0 0)] 24 (0, 0))) ∧ aa (aH w0 wc g bT ma mf) ∧ aa (aI w wc g none) ∧ aa (Below w0.heap.size w0 wc))
 case first =>
  have H := HC4.out; clear HC4; by_cases c7 : a1 ≤ 1
  ·rw [if_pos c7] at H; have p9 : decide (a1 ≤ 1) = true := decide_eq_true c7; clear c7; (first | rw [p9] | (simp only [eT, eY]; rw [p9]) | skip)
   replace H := Option.bind_eq_some_iff.mp H; obtain ⟨⟨t226, t227, t228⟩, A80, H⟩ := H; replace H : (ax.j0 k a1 t226 bT t227 t228) = some (r1, r2, r3, r4, r5, r6, r7) := H; have A8 := aa.mk A80; clear A80; have H' := aa.mk H; clear H; go_wp2_with (first | ((with_reducible refine aN (f := 20) rfl ?_); refine bJ (some 14) rfl rfl Tryd.func20 (by kernel_rfl) rfl #[.pointer (some ⟨g, 0, none⟩), .int .i64 3] rfl mp_ ?_; (with_reducible refine (bS.calls g bT t224 t225 3 t226 t227 t228 w0 _ ?aQ ?aT A8.out).mono ?_); (case aQ => repeat (first | (with_reducible first | exact HI0.out | apply aH.alloc | apply aH.drewN | apply aH.drew | apply aH.jI | apply aH.jJ | refine aH.far ?_ rC.out _) | exact HI0.out)); (case aT => repeat (first | (with_reducible first | exact HB.out | apply cz | apply bN | apply bU | refine bR ?_ (aH.ge HI0.out) | refine bR ?_ GM.out) | exact HB.out)); rintro e w9 ⟨rfl, hi, hb, hk⟩; refine ⟨_, rfl, ?_⟩; replace jw := aa.mk (aI.blk hk (g' := gp) (o := .cells #[.int .i64 0, .int .i64 0, .int .i64 0, .int .i64 0, .slice none 0 0] 24 (0, 0)) bk_ rD.out (by simp)); replace HK := aa.mk (aI.trans (by repeat (first | (with_reducible first | exact HK.out | apply aI.dF | apply bu | apply bD | apply bz | refine aX ?_ je.out _) | exact HK.out)) hk (.inl rfl)); replace HB := aa.mk (hb); replace HI0 := aa.mk (hi); (try clear hb); (try clear hb2); (try clear hk); (try clear hi)))
   go_meet
   case rel => exact ⟨_, (t226), (t227), (t228), rs_, H', ⟨by first | omega | exact Nat.le_refl _⟩, ⟨bk_⟩, ⟨si_⟩, ⟨by repeat (first | (with_reducible first | exact HK.out | apply aI.dF | apply bu | apply bD | apply bz | refine aX ?_ je.out _) | exact HK.out)⟩, ⟨bl_⟩⟩
  ·rw [if_neg c7] at H; have p9 : decide (a1 ≤ 1) = false := decide_eq_false c7; clear c7; (first | rw [p9] | (simp only [eT, eY]; rw [p9]) | skip)
   have H' := aa.mk H; clear H; go_wp2; go_meet
   case rel => exact ⟨_, (t223), (t224), (t225), rs_, H', ⟨by first | omega | exact Nat.le_refl _⟩, ⟨bk_⟩, ⟨si_⟩, ⟨by repeat (first | (with_reducible first | exact HK.out | apply aI.dF | apply bu | apply bD | apply bz | refine aX ?_ je.out _) | exact HK.out)⟩, ⟨bl_⟩⟩
 case rest =>
  clear HC4; (try clear c1); (try clear c2); (try clear p2); (try clear c7); (try clear p9); obtain ⟨kq, oF, ma, mf, rfl, HA, HJ3, jw, HI0, HK, HB⟩ := hcut; cases kq with
  | zero => exact absurd HA.out (by simp [ax.j0])
  | succ kj3 =>
   have H := HA.out; clear HA; simp only [ax.j0] at H; by_cases c10 : oF = 0
   ·rw [if_pos c10] at H; have oI : (oF == 0) = true := beq_iff_eq.mpr c10; have GI : (oF != 0) = false := bne_eq_false_iff_eq.mpr c10; clear c10; simp only [Option.some.injEq, Prod.mk.injEq] at H; obtain ⟨rfl, rfl, rfl, rfl, rfl, rfl, rfl⟩ := H; have hnb11 := rD.out; have hnc11 := rC.out; obtain ⟨lX, lY, u7, vk, vo, lZ, l5, vv, vw, vz⟩ := bF jw.out; go_wp2; refine bodyPost_ret (results_cell_row rfl _ _ gp 24 #[.int .i64 1, .int .i64 0, .int .i64 0, .int .i64 0, .slice none 0 0] (0, 0) _ rfl (by (with_reducible repeat (first | refine aj ?_ _ | refine ak ?_ | refine ah ?_ _)); refine bn (cs := #[.int .i64 1, .int .i64 0, .int .i64 0, .int .i64 0, .slice none 0 0]) ?_ 4 _ rfl; (with_reducible repeat (first | refine aj ?_ _ | refine ak ?_ | refine ah ?_ _)); refine bn (cs := #[.int .i64 1, .int .i64 0, .int .i64 0, .int .i64 0, .slice none 0 0]) ?_ 3 _ rfl; (with_reducible repeat (first | refine aj ?_ _ | refine ak ?_ | refine ah ?_ _)); refine bn (cs := #[.int .i64 1, .int .i64 0, .int .i64 0, .int .i64 0, .slice none 0 0]) ?_ 2 _ rfl; (with_reducible repeat (first | refine aj ?_ _ | refine ak ?_ | refine ah ?_ _)); refine bn (cs := #[.int .i64 1, .int .i64 0, .int .i64 0, .int .i64 0, .slice none 0 0]) ?_ 1 _ rfl; (with_reducible repeat (first | refine aj ?_ _ | refine ak ?_ | refine ah ?_ _)); refine bn (cs := #[.int .i64 0, .int .i64 0, .int .i64 0, .int .i64 0, .slice none 0 0]) ?_ 0 _ rfl; (with_reducible repeat (first | refine aj ?_ _ | refine ak ?_ | refine ah ?_ _)); exact jw.out) Tryd.underlying24 rfl (by kernel_rfl)) rfl ?_
    exact ⟨_, re_, by first | exact Kd.gZ _ _ _ _ _ | exact Kd.jD _ _ _ _ _ | exact Kd.iR _ _ _ _ _ | exact Kd.jB _ _ _ _ _ | exact Kd.jC _ _ _ _ _, si_, bl_, by repeat (first | (with_reducible first | exact HK.out | apply aI.dF | apply bu | apply bD | apply bz | refine aX ?_ je.out _) | exact HK.out)⟩
   ·rw [if_neg c10] at H; have oI : (oF == 0) = false := beq_eq_false_iff_ne.mpr c10; have GI : (oF != 0) = true := bne_iff_ne.mpr c10; have HC13 := aa.mk H; clear H; go_upto_if 19 with (fail)
    go_cut [19] (fun v19 wc => ∃ (kq : Nat) (Qf : Bool), v19 = .bool Qf ∧ aa (ax.j1 kq a1 oF Qf bT ma mf = some (r1, r2, r3, r4, r5, r6, r7)) ∧ aa (kq ≤ kj3) ∧ aa (wc.heap[gp]? = some (.cells #[.int .i64 0, .int .i64 0, .int .i64 0, .int .i64 0, (.slice none 0 0)] 24 (0, 0))) ∧ aa (aH w0 wc g bT ma mf) ∧ aa (aI w wc g none) ∧ aa (Below w0.heap.size w0 wc))
    case first =>
     have H := HC13.out; clear HC13; by_cases c14 : oF = 1
     ·rw [if_pos c14] at H; have rW : (oF == 1) = true := beq_iff_eq.mpr c14; have CW : (oF != 1) = false := bne_eq_false_iff_eq.mpr c14; clear c14; (first | rw [rW] | (simp only [eT, eY]; rw [rW]) | skip)
      have H' := aa.mk H; clear H; go_wp2; go_meet
      case rel => exact ⟨_, ((oF == 1)), rs_, H', ⟨by have := HJ3.out; first | omega | exact Nat.le_refl _⟩, ⟨bk_⟩, ⟨si_⟩, ⟨by repeat (first | (with_reducible first | exact HK.out | apply aI.dF | apply bu | apply bD | apply bz | refine aX ?_ je.out _) | exact HK.out)⟩, ⟨bl_⟩⟩
     ·rw [if_neg c14] at H; have rW : (oF == 1) = false := beq_eq_false_iff_ne.mpr c14; have CW : (oF != 1) = true := bne_iff_ne.mpr c14; (first | rw [rW] | (simp only [eT, eY]; rw [rW]) | skip)
      have H' := aa.mk H; clear H; go_wp2; go_meet
      case rel => exact ⟨_, ((oF == 2)), rs_, H', ⟨by have := HJ3.out; first | omega | exact Nat.le_refl _⟩, ⟨bk_⟩, ⟨si_⟩, ⟨by repeat (first | (with_reducible first | exact HK.out | apply aI.dF | apply bu | apply bD | apply bz | refine aX ?_ je.out _) | exact HK.out)⟩, ⟨bl_⟩⟩
    case rest =>
     clear HC13; (try clear c1); (try clear c2); (try clear p2); (try clear c7); (try clear p9); (try clear c10); (try clear oI); (try clear GI); (try clear c11); (try clear c14); (try clear rW); (try clear CW); (try clear lX lY u7 vk vo lZ l5 vv vw vz); (try clear p2); obtain ⟨kq, Qf, rfl, HA, HJ12, jw, HI0, HK, HB⟩ := hcut; cases kq with
     | zero => exact absurd HA.out (by simp [ax.j1])
     | succ kj12 =>
      have H := HA.out; clear HA; simp only [ax.j1] at H; by_cases c15 : Qf = true
      ·subst c15; have H1 : ((dA.f bT ma mf (-2) 3).bind fun Ea => ((bS.f bT Ea.2.1 Ea.2.2 4).bind fun Bh => (some (2, Ea.1, wrap64 (Ea.1 + Bh.1), 0, ([] : List (S24)), Bh.2.1, Bh.2.2)))) = some (r1, r2, r3, r4, r5, r6, r7) := by rw [if_pos rfl] at H; exact H
       clear H; have H := H1; clear H1; replace H := Option.bind_eq_some_iff.mp H; obtain ⟨⟨t229, t230, t231⟩, A160, H⟩ := H; replace H : ((bS.f bT t230 t231 4).bind fun Bh => (some (2, t229, wrap64 (t229 + Bh.1), 0, ([] : List (S24)), Bh.2.1, Bh.2.2))) = some (r1, r2, r3, r4, r5, r6, r7) := H; have A16 := aa.mk A160; clear A160; replace H := Option.bind_eq_some_iff.mp H; obtain ⟨⟨t232, t233, t234⟩, A170, H⟩ := H; replace H : (some (2, t229, wrap64 (t229 + t232), 0, ([] : List (S24)), t233, t234)) = some (r1, r2, r3, r4, r5, r6, r7) := H; have A17 := aa.mk A170; clear A170; simp only [Option.some.injEq, Prod.mk.injEq] at H; obtain ⟨rfl, rfl, rfl, rfl, rfl, rfl, rfl⟩ := H; go_wp2_with (first | ((with_reducible refine aN (f := 17) rfl ?_); refine bJ (some 23) rfl rfl Tryd.func17 (by kernel_rfl) rfl #[.pointer (some ⟨g, 0, none⟩), .int .i64 (-2), .int .i64 3] rfl mp_ ?_; (with_reducible refine (dA.calls g bT ma mf (-2) 3 t229 t230 t231 w0 _ ?aQ ?aT A16.out).mono ?_); (case aQ => repeat (first | (with_reducible first | exact HI0.out | apply aH.alloc | apply aH.drewN | apply aH.drew | apply aH.jI | apply aH.jJ | refine aH.far ?_ rC.out _) | exact HI0.out)); (case aT => repeat (first | (with_reducible first | exact HB.out | apply cz | apply bN | apply bU | refine bR ?_ (aH.ge HI0.out) | refine bR ?_ GM.out) | exact HB.out)); rintro e w18 ⟨rfl, hi, hb, hk⟩; refine ⟨_, rfl, ?_⟩; replace jw := aa.mk (aI.blk hk (g' := gp) (o := .cells #[.int .i64 0, .int .i64 0, .int .i64 0, .int .i64 0, .slice none 0 0] 24 (0, 0)) bk_ rD.out (by simp)); replace HK := aa.mk (aI.trans (by repeat (first | (with_reducible first | exact HK.out | apply aI.dF | apply bu | apply bD | apply bz | refine aX ?_ je.out _) | exact HK.out)) hk (.inl rfl)); replace HB := aa.mk (hb); replace HI0 := aa.mk (hi); (try clear hb); (try clear hb2); (try clear hk); (try clear hi)) | ((with_reducible refine aN (f := 20) rfl ?_); refine bJ (some 27) rfl rfl Tryd.func20 (by kernel_rfl) rfl #[.pointer (some ⟨g, 0, none⟩), .int .i64 4] rfl mp_ ?_; (with_reducible refine (bS.calls g bT t230 t231 4 t232 t233 t234 w0 _ ?aQ ?aT A17.out).mono ?_); (case aQ => repeat (first | (with_reducible first | exact HI0.out | apply aH.alloc | apply aH.drewN | apply aH.drew | apply aH.jI | apply aH.jJ | refine aH.far ?_ rC.out _) | exact HI0.out)); (case aT => repeat (first | (with_reducible first | exact HB.out | apply cz | apply bN | apply bU | refine bR ?_ (aH.ge HI0.out) | refine bR ?_ GM.out) | exact HB.out)); rintro e w19 ⟨rfl, hi, hb, hk⟩; refine ⟨_, rfl, ?_⟩; replace jw := aa.mk (aI.blk hk (g' := gp) (o := .cells #[.int .i64 0, .int .i64 0, .int .i64 0, .int .i64 0, .slice none 0 0] 24 (0, 0)) bk_ rD.out (by simp)); replace HK := aa.mk (aI.trans (by repeat (first | (with_reducible first | exact HK.out | apply aI.dF | apply bu | apply bD | apply bz | refine aX ?_ je.out _) | exact HK.out)) hk (.inl rfl)); replace HB := aa.mk (hb); replace HI0 := aa.mk (hi); (try clear hb); (try clear hb2); (try clear hk); (try clear hi); have hnb20 := rD.out; have hnc20 := rC.out; obtain ⟨qQ, qR, qU, qV, qW, qX, qY, qZ, q9, rf⟩ := bF jw.out))
       refine bodyPost_ret (results_cell_row rfl _ _ gp 24 #[.int .i64 2, .int .i64 t229, .int .i64 (wrap64 (t229 + t232)), .int .i64 0, .slice none 0 0] (0, 0) _ rfl (by (with_reducible repeat (first | refine aj ?_ _ | refine ak ?_ | refine ah ?_ _)); refine bn (cs := #[.int .i64 2, .int .i64 t229, .int .i64 (wrap64 (t229 + t232)), .int .i64 0, .slice none 0 0]) ?_ 4 _ rfl; (with_reducible repeat (first | refine aj ?_ _ | refine ak ?_ | refine ah ?_ _)); refine bn (cs := #[.int .i64 2, .int .i64 t229, .int .i64 (wrap64 (t229 + t232)), .int .i64 0, .slice none 0 0]) ?_ 3 _ rfl; (with_reducible repeat (first | refine aj ?_ _ | refine ak ?_ | refine ah ?_ _)); refine bn (cs := #[.int .i64 2, .int .i64 t229, .int .i64 0, .int .i64 0, .slice none 0 0]) ?_ 2 _ rfl; (with_reducible repeat (first | refine aj ?_ _ | refine ak ?_ | refine ah ?_ _)); refine bn (cs := #[.int .i64 2, .int .i64 0, .int .i64 0, .int .i64 0, .slice none 0 0]) ?_ 1 _ rfl; (with_reducible repeat (first | refine aj ?_ _ | refine ak ?_ | refine ah ?_ _)); refine bn (cs := #[.int .i64 0, .int .i64 0, .int .i64 0, .int .i64 0, .slice none 0 0]) ?_ 0 _ rfl; (with_reducible repeat (first | refine aj ?_ _ | refine ak ?_ | refine ah ?_ _)); exact jw.out) Tryd.underlying24 rfl (by kernel_rfl)) rfl ?_
       exact ⟨_, re_, by first | exact Kd.gZ _ _ _ _ _ | exact Kd.jD _ _ _ _ _ | exact Kd.iR _ _ _ _ _ | exact Kd.jB _ _ _ _ _ | exact Kd.jC _ _ _ _ _, si_, bl_, by repeat (first | (with_reducible first | exact HK.out | apply aI.dF | apply bu | apply bD | apply bz | refine aX ?_ je.out _) | exact HK.out)⟩
      ·replace c15 := Bool.eq_false_iff.mpr c15; subst c15; have H1 : (if oF = 3 then (ax.j2 kj12 a1 (oF == 3) bT ma mf) else (ax.j2 kj12 a1 (oF == 4) bT ma mf)) = some (r1, r2, r3, r4, r5, r6, r7) := by rw [if_neg (show ¬ (false = true) by decide)] at H; exact H
       clear H; have H := H1; clear H1; have HC22 := aa.mk H; clear H; go_upto_if 30 with (fail)
       go_cut [30] (fun v30 wc => ∃ (kq : Nat) (Qg : Bool), v30 = .bool Qg ∧ aa (ax.j2 kq a1 Qg bT ma mf = some (r1, r2, r3, r4, r5, r6, r7)) ∧ aa (kq ≤ kj12) ∧ aa (wc.heap[gp]? = some (.cells #[.int .i64 0, .int .i64 0, .int .i64 0, .int .i64 0, (.slice none 0 0)] 24 (0, 0))) ∧ aa (aH w0 wc g bT ma mf) ∧ aa (aI w wc g none) ∧ aa (Below w0.heap.size w0 wc))
       case first =>
        have H := HC22.out; clear HC22; by_cases c23 : oF = 3
        ·rw [if_pos c23] at H; have rX : (oF == 3) = true := beq_iff_eq.mpr c23; have AJ : (oF != 3) = false := bne_eq_false_iff_eq.mpr c23; clear c23; (first | rw [rX] | (simp only [eT, eY]; rw [rX]) | skip)
         have H' := aa.mk H; clear H; go_wp2; go_meet
         case rel => exact ⟨_, ((oF == 3)), rs_, H', ⟨by have := HJ3.out; have := HJ12.out; first | omega | exact Nat.le_refl _⟩, ⟨bk_⟩, ⟨si_⟩, ⟨by repeat (first | (with_reducible first | exact HK.out | apply aI.dF | apply bu | apply bD | apply bz | refine aX ?_ je.out _) | exact HK.out)⟩, ⟨bl_⟩⟩
        ·rw [if_neg c23] at H; have rX : (oF == 3) = false := beq_eq_false_iff_ne.mpr c23; have AJ : (oF != 3) = true := bne_iff_ne.mpr c23; (first | rw [rX] | (simp only [eT, eY]; rw [rX]) | skip)
         have H' := aa.mk H; clear H; go_wp2; go_meet
         case rel => exact ⟨_, ((oF == 4)), rs_, H', ⟨by have := HJ3.out; have := HJ12.out; first | omega | exact Nat.le_refl _⟩, ⟨bk_⟩, ⟨si_⟩, ⟨by repeat (first | (with_reducible first | exact HK.out | apply aI.dF | apply bu | apply bD | apply bz | refine aX ?_ je.out _) | exact HK.out)⟩, ⟨bl_⟩⟩
       case rest =>
        clear HC22; (try clear c1); (try clear c2); (try clear p2); (try clear p6); (try clear c7); (try clear p9); (try clear c10); (try clear oI); (try clear GI); (try clear c11); (try clear c14); (try clear rW); (try clear CW); (try clear c15); (try clear c17); (try clear c20); (try clear c23); (try clear rX); (try clear AJ); (try clear lX lY u7 vk vo lZ l5 vv vw vz); (try clear qQ qR qU qV qW qX qY qZ q9 rf); (try clear p2); obtain ⟨kq, Qg, rfl, HA, HJ21, jw, HI0, HK, HB⟩ := hcut; cases kq with
        | zero => exact absurd HA.out (by simp [ax.j2])
        | succ kj21 =>
         have H := HA.out; clear HA; simp only [ax.j2] at H; by_cases c24 : Qg = true
         ·subst c24; have H1 : ((dA.f bT ma mf 2 3).bind fun JK => (ax.l0 kj21 a1 JK.1 bT JK.2.1 JK.2.2 5 0 0 0 ([] : List (S24)))) = some (r1, r2, r3, r4, r5, r6, r7) := by rw [if_pos rfl] at H; exact H
          clear H; have H := H1; clear H1; replace H := Option.bind_eq_some_iff.mp H; obtain ⟨⟨t236, t237, t238⟩, A250, H⟩ := H; replace H : (ax.l0 kj21 a1 t236 bT t237 t238 5 0 0 0 ([] : List (S24))) = some (r1, r2, r3, r4, r5, r6, r7) := H; have A25 := aa.mk A250; clear A250; have H' := aa.mk H; clear H; go_wp2_with (first | ((with_reducible refine aY (N := 7) rfl ?_); refine aZ ?hg (N := 7) ?hd (cs := #[.int .i64 0, .int .i64 0, .int .i64 0, .int .i64 0, .slice none 0 0]) (t := 24) ?hr ?_; (case hd => rfl); (case hg => rfl); (case hr => first | (go_simp; done) | (go_simp; rfl)); intro kY hg w26 aK hb; have jf := aa.mk (aK); have Dc := aa.mk ((by rw [hg]; exact (gP (w := w) (g := g) (row := none) (by repeat (first | (with_reducible first | exact HK.out | apply aI.dF | apply bu | apply bD | apply bz | refine aX ?_ je.out _) | exact HK.out))) : w.heap.size ≤ kY)); have GE235 := aa.mk ((Nat.le_trans HW0.out (by rw [hg]; exact (gP (w := w) (g := g) (row := none) (by repeat (first | (with_reducible first | exact HK.out | apply aI.dF | apply bu | apply bD | apply bz | refine aX ?_ je.out _) | exact HK.out))) : w.heap.size ≤ kY) : w0.heap.size ≤ kY)); have rP := nl_ jw hg; have KG := ng_ jw hg; have Nh := aa.mk ((by rw [hg]; exact Nat.ne_of_lt (aH.lt (show aH w0 _ g bT ma mf from si_)) : g ≠ kY)); have Ni := aa.mk ((by rw [hg]; exact Nat.ne_of_gt (aH.lt (show aH w0 _ g bT ma mf from si_)) : kY ≠ g)); replace jw := kb_ jw hb; replace HI0 := aa.mk (aH.below si_ hb); replace HK := aa.mk (aI.trans (by repeat (first | (with_reducible first | exact HK.out | apply aI.dF | apply bu | apply bD | apply bz | refine aX ?_ je.out _) | exact HK.out)) (aI.of_below hb g none) (.inl rfl)); replace HB := aa.mk (au bl_ hb); clear hb aK hg; have Js := KG.out; have Jt := rP.out; have hnb28 := Ni.out; have hnc28 := Nh.out; obtain ⟨nE, nG, uE, uF, uG, nH, nI, uH, uI, uJ⟩ := bF jf.out) | ((with_reducible refine aN (f := 17) rfl ?_); refine bJ (some 35) rfl rfl Tryd.func17 (by kernel_rfl) rfl #[.pointer (some ⟨g, 0, none⟩), .int .i64 2, .int .i64 3] rfl mp_ ?_; (with_reducible refine (dA.calls g bT ma mf 2 3 t236 t237 t238 w0 _ ?aQ ?aT A25.out).mono ?_); (case aQ => repeat (first | (with_reducible first | exact HI0.out | apply aH.alloc | apply aH.drewN | apply aH.drew | apply aH.jI | apply aH.jJ | refine aH.far ?_ rC.out _ | refine aH.far ?_ Nh.out _) | exact HI0.out)); (case aT => repeat (first | (with_reducible first | exact HB.out | apply cz | apply bN | apply bU | refine bR ?_ (aH.ge HI0.out) | refine bR ?_ GM.out | refine bR ?_ GE235.out) | exact HB.out)); rintro e w30 ⟨rfl, hi, hb, hk⟩; refine ⟨_, rfl, ?_⟩; replace jw := aa.mk (aI.blk hk (g' := gp) (o := .cells #[.int .i64 0, .int .i64 0, .int .i64 0, .int .i64 0, .slice none 0 0] 24 (0, 0)) (by (with_reducible repeat (first | refine aj ?_ _ | refine ak ?_ | refine ah ?_ _)); refine bM ?_ rP.out _; (with_reducible repeat (first | refine aj ?_ _ | refine ak ?_ | refine ah ?_ _)); refine bM ?_ rP.out _; (with_reducible repeat (first | refine aj ?_ _ | refine ak ?_ | refine ah ?_ _)); refine bM ?_ rP.out _; (with_reducible repeat (first | refine aj ?_ _ | refine ak ?_ | refine ah ?_ _)); refine bM ?_ rP.out _; (with_reducible repeat (first | refine aj ?_ _ | refine ak ?_ | refine ah ?_ _)); refine bM ?_ rP.out _; (with_reducible repeat (first | refine aj ?_ _ | refine ak ?_ | refine ah ?_ _)); exact jw.out) rD.out (by simp)); replace jf := aa.mk (aI.blk hk (g' := kY) (o := .cells #[.int .i64 5, .int .i64 0, .int .i64 0, .int .i64 0, .slice none 0 0] 24 (0, 0)) (by (with_reducible repeat (first | refine aj ?_ _ | refine ak ?_ | refine ah ?_ _)); refine bn (cs := #[.int .i64 5, .int .i64 0, .int .i64 0, .int .i64 0, .slice none 0 0]) ?_ 4 _ rfl; (with_reducible repeat (first | refine aj ?_ _ | refine ak ?_ | refine ah ?_ _)); refine bn (cs := #[.int .i64 5, .int .i64 0, .int .i64 0, .int .i64 0, .slice none 0 0]) ?_ 3 _ rfl; (with_reducible repeat (first | refine aj ?_ _ | refine ak ?_ | refine ah ?_ _)); refine bn (cs := #[.int .i64 5, .int .i64 0, .int .i64 0, .int .i64 0, .slice none 0 0]) ?_ 2 _ rfl; (with_reducible repeat (first | refine aj ?_ _ | refine ak ?_ | refine ah ?_ _)); refine bn (cs := #[.int .i64 5, .int .i64 0, .int .i64 0, .int .i64 0, .slice none 0 0]) ?_ 1 _ rfl; (with_reducible repeat (first | refine aj ?_ _ | refine ak ?_ | refine ah ?_ _)); refine bn (cs := #[.int .i64 0, .int .i64 0, .int .i64 0, .int .i64 0, .slice none 0 0]) ?_ 0 _ rfl; (with_reducible repeat (first | refine aj ?_ _ | refine ak ?_ | refine ah ?_ _)); exact jf.out) Ni.out (by simp)); replace HK := aa.mk (aI.trans (by repeat (first | (with_reducible first | exact HK.out | apply aI.dF | apply bu | apply bD | apply bz | refine aX ?_ je.out _ | refine aX ?_ Dc.out _) | exact HK.out)) hk (.inl rfl)); replace HB := aa.mk (hb); replace HI0 := aa.mk (hi); (try clear hb); (try clear hb2); (try clear hk); (try clear hi)))
          go_loopg [8] kj21 (fun kq v8 w' => ∃ (x8_4 : Int) (Nj : Int) (Nk : Int) (pE : List (S24)) (nU : Value), v8 = .int .i64 x8_4 ∧ aa (ax.l0 kq a1 x8_4 bT Nj Nk 5 0 0 0 pE = some (r1, r2, r3, r4, r5, r6, r7)) ∧ aa (kq ≤ kj21) ∧ aa (Kd.N k24 24 w' w.heap.size (fun k_ => (w.heap.size ≤ k_) ∧ k_ ≠ gp ∧ k_ ≠ kY ∧ k_ ≠ g) nU pE) ∧ aa (w'.heap[gp]? = some (.cells #[.int .i64 0, .int .i64 0, .int .i64 0, .int .i64 0, (.slice none 0 0)] 24 (0, 0))) ∧ aa (w'.heap[kY]? = some (.cells #[.int .i64 5, .int .i64 0, .int .i64 0, .int .i64 0, nU] 24 (0, 0))) ∧ aa (aH w0 w' g bT Nj Nk) ∧ aa (aI w w' g none) ∧ aa (Below w0.heap.size w0 w'))
          case atStart => exact ⟨(t236), (t237), (t238), (([] : List (S24))), (.slice none 0 0), rs_, H', ⟨Nat.le_refl _⟩, ⟨by first | exact Kd.gZ _ _ _ _ _ | exact Kd.jD _ _ _ _ _ | exact Kd.iR _ _ _ _ _ | exact Kd.jB _ _ _ _ _ | exact Kd.jC _ _ _ _ _⟩, ⟨bk_⟩, ⟨bk_⟩, ⟨si_⟩, ⟨by repeat (first | (with_reducible first | exact HK.out | apply aI.dF | apply bu | apply bD | apply bz | refine aX ?_ je.out _ | refine aX ?_ Dc.out _) | exact HK.out)⟩, ⟨bl_⟩⟩
          case round =>
           clear H'; (try clear c1); (try clear c2); (try clear p2); (try clear p6); (try clear c7); (try clear p9); (try clear c10); (try clear oI); (try clear GI); (try clear c11); (try clear c14); (try clear rW); (try clear CW); (try clear c15); (try clear c17); (try clear c20); (try clear c23); (try clear rX); (try clear AJ); (try clear c24); (try clear c27); (try clear c28); (try clear lX lY u7 vk vo lZ l5 vv vw vz); (try clear qQ qR qU qV qW qX qY qZ q9 rf); (try clear nE nG uE uF uG nH nI uH uI uJ); (try clear p2); (try clear p6); obtain ⟨x8_4, Nj, Nk, pE, nU, rfl, HA, HK4, kZ, jw, jf, HI0, HK, HB⟩ := hrel; cases gk with
           | zero => exact absurd HA.out (by simp [ax.l0])
           | succ k4 =>
            have H := HA.out; clear HA; simp only [ax.l0] at H; by_cases c31 : x8_4 > 0
            ·rw [if_pos c31] at H; have D7 : decide (0 < x8_4) = true := decide_eq_true c31; clear c31; replace H := Option.bind_eq_some_iff.mp H; obtain ⟨⟨t239, t240, t241, t242, t243, t246, t247⟩, A320, H⟩ := H; replace H : (if pE.length < 2513169434916 then (ax.l0 k4 a1 (wrap64 (x8_4 - 1)) bT t246 t247 5 0 0 0 (pE ++ [(⟨t239, t240, t241, t242, t243⟩ : S24)])) else (none)) = some (r1, r2, r3, r4, r5, r6, r7) := H; have A32 := aa.mk A320; clear A320; by_cases c33 : pE.length < 2513169434916
             ·rw [if_pos c33] at H; have LMc33 := aa.mk c33; clear c33; obtain ⟨y248, Qh⟩ : ∃ y_ : List (S24), y_ = (pE ++ [(⟨t239, t240, t241, t242, t243⟩ : S24)]) := ⟨_, rfl⟩; replace H : (ax.l0 k4 a1 (wrap64 (x8_4 - 1)) bT t246 t247 5 0 0 0 y248) = some (r1, r2, r3, r4, r5, r6, r7) := by first | (rw [Qh]; with_reducible exact H) | (have H2_ := (Option.bind_some _ _).symm.trans H; rw [Qh]; with_reducible exact H2_) | (have H2_ := (Option.bind_some _ _).symm.trans H; with_reducible exact H2_) | with_reducible exact H | (rw [Qh]; exact H) | exact H
              have Ny248 := aa.mk Qh; clear Qh; have H' := aa.mk H; clear H; try go_wp2
              replace kZ := aa.mk (Kd.FI kZ.out); replace jw := aa.mk (ak jw.out); replace jf := aa.mk (ak jf.out); replace HI0 := aa.mk (aH.drew HI0.out); replace HK := aa.mk (bD HK.out); replace HB := aa.mk (bU HB.out); refine r9 (n := 10) (S := fun w' => w'.cell? ⟨kY, 0, none⟩ = some (.int .i64 5) ∧ w'.cell? ⟨kY, 1, none⟩ = some (.int .i64 0) ∧ w'.cell? ⟨kY, 2, none⟩ = some (.int .i64 0) ∧ w'.cell? ⟨kY, 3, none⟩ = some (.int .i64 0) ∧ w'.cell? ⟨kY, 4, none⟩ = some (nU)) (ds := [9]) #[false, false, false, false, false, false, false, false, false, false] (by kernel_rfl) rfl rfl ⟨(aC jf.out 0).trans rfl, (aC jf.out 1).trans rfl, (aC jf.out 2).trans rfl, (aC jf.out 3).trans rfl, (aC jf.out 4).trans rfl⟩ (fun hHeld => ?_); refine lK ax.tab17 ax.bits17 (fun HT_ HW_ => ?_)
              generalize wr.drew = w34 at kZ jw jf HI0 HK HB hHeld ⊢
              refine pu_ HT_ 0 40 (bm 10 1) ?_
              refine pu_ HT_ 2 42 (bm 10 5) ?_
              refine pu_ HT_ 3 43 (bm 10 13) ?_
              refine pu_ HT_ 4 44 (bm 10 29) ?_
              refine ta_ HT_ HW_ 1 41 (bm 10 31) hHeld ?_
              refine oL (i := 5) (N := some 45) #[true, true, true, true, true, true, false, false, false, false] rfl rfl (iy HT_.out (by kernel_rfl)) (by decide) (fun K hK => ?_)
              refine tQ Tryd.func15 (by kernel_rfl) rfl #[.pointer (some ⟨g, 0, none⟩), .int .i64 (wrap64 (a1 - 1))] (by rfl) rfl rfl mp_ ?_
              with_reducible refine (ih k4 (by have := HJ3.out; have := HJ12.out; have := HJ21.out; have := HK4.out; omega) g bT Nj Nk (wrap64 (a1 - 1)) t239 t240 t241 t242 t243 t246 t247 w0 _ ?aQ ?aT A32.out).mono ?_
              (case aQ => repeat (first | (with_reducible first | exact HI0.out | apply aH.alloc | apply aH.drewN | apply aH.drew | apply aH.jI | apply aH.jJ | refine aH.far ?_ rC.out _ | refine aH.far ?_ Nh.out _) | exact HI0.out))
              (case aT => repeat (first | (with_reducible first | exact HB.out | apply cz | apply bN | apply bU | refine bR ?_ (aH.ge HI0.out) | refine bR ?_ GM.out | refine bR ?_ GE235.out) | exact HB.out))
              rintro e w35 ⟨v244, rfl, ho0, hi, hb, hk⟩
              refine ⟨_, rfl, ?_⟩
              have HO245 := aa.mk (Kd.GY (Kd.ll (ok' := fun k_ => (w.heap.size ≤ k_) ∧ some k_ ≠ (nU : Value).ownBlock ∧ k_ ≠ gp ∧ k_ ≠ kY ∧ k_ ≠ g) ho0 (fun k_ hk_ => ⟨(Nat.le_trans (gP (w := w) (g := g) (row := none) (by repeat (first | (with_reducible first | exact HK.out | apply aI.dF | apply bu | apply bD | apply bz | refine aX ?_ je.out _ | refine aX ?_ Dc.out _) | exact HK.out))) hk_), (Kd.fresh' (Kd.N_lt (pN_ kZ.out)) k_ hk_), (Kd.fP (g := gp) (o := .cells #[.int .i64 0, .int .i64 0, .int .i64 0, .int .i64 0, .slice none 0 0] 24 (0, 0)) bk_ k_ hk_), (Kd.fP (g := kY) (o := .cells #[.int .i64 5, .int .i64 0, .int .i64 0, .int .i64 0, nU] 24 (0, 0)) bk_ k_ hk_), (aH.fresh si_ k_ hk_)⟩)) (gP (w := w) (g := g) (row := none) (by repeat (first | (with_reducible first | exact HK.out | apply aI.dF | apply bu | apply bD | apply bz | refine aX ?_ je.out _ | refine aX ?_ Dc.out _) | exact HK.out)))); replace kZ := aa.mk (Kd.ll (Kd.N_told (Kd.N_oldK (Kd.ll (ok := fun k_ => (((w.heap.size ≤ k_)) ∧ (k_ ≠ gp ∧ (k_ ≠ kY ∧ k_ ≠ g)))) (pN_ kZ.out) (fun k_ hk_ => (⟨hk_, hk_.2.2.2⟩ : _ ∧ k_ ≠ g))) hk) (by first | exact Kd.N_base ho0 | exact Kd.iI ho0 | exact Kd.N_base (Kd.S_N ho0))) (fun _ h_ => h_.1)); replace jw := aa.mk (aI.blk hk (g' := gp) (o := .cells #[.int .i64 0, .int .i64 0, .int .i64 0, .int .i64 0, .slice none 0 0] 24 (0, 0)) bk_ rD.out (by simp)); replace jf := aa.mk (aI.blk hk (g' := kY) (o := .cells #[.int .i64 5, .int .i64 0, .int .i64 0, .int .i64 0, nU] 24 (0, 0)) bk_ Ni.out (by simp)); replace HK := aa.mk (aI.trans (by repeat (first | (with_reducible first | exact HK.out | apply aI.dF | apply bu | apply bD | apply bz | refine aX ?_ je.out _ | refine aX ?_ Dc.out _) | exact HK.out)) hk (.inl rfl)); replace HB := aa.mk (hb); replace HI0 := aa.mk (hi); (try clear hb)
              (try clear hb2)
              (try clear hk)
              (try clear hi)
              (try clear ho0)
              obtain ⟨Ao37, co37, eo37⟩ := Kd.Bu HO245.out; (first | subst eo37 | (injection eo37 with f1_ f2_ f3_; have f4_ := f1_.symm; have f5_ := f3_.symm; clear f1_ f2_ f3_; subst f4_; subst f5_))
              refine hK.out _ _ ⟨(aC jf.out 0).trans rfl, (aC jf.out 1).trans rfl, (aC jf.out 2).trans rfl, (aC jf.out 3).trans rfl, (aC jf.out 4).trans rfl⟩ (fun hHeld => ?_)
              clear hK K; refine kS (a' := ?_) ?_ ?_
              rotate_left
              ·show Act.put _ (some 45) _ = _
               simp only [Act.put, List.setIfInBounds_toArray, List.set_cons_zero, List.set_cons_succ, eT, eY]; rfl
              refine oL (i := 6) (N := some 46) #[true, true, true, true, true, true, true, false, false, false] rfl rfl (iy HT_.out (by kernel_rfl)) (by decide) (fun K hK => ?_)
              refine FE (w1 := ?_) (v := ?_) (by rfl) rfl ?_ ?_
              rotate_left 2
              ·go_simp; constructor
               ·rfl
               ·rfl
              refine hK.out _ _ ⟨(aC (ah jf.out _) 0).trans rfl, (aC (ah jf.out _) 1).trans rfl, (aC (ah jf.out _) 2).trans rfl, (aC (ah jf.out _) 3).trans rfl, (aC (ah jf.out _) 4).trans rfl⟩ (fun hHeld => ?_)
              clear hK K; refine kS (a' := ?_) ?_ ?_
              rotate_left
              ·show Act.put _ (some 46) _ = _
               simp only [Act.put, List.setIfInBounds_toArray, List.set_cons_zero, List.set_cons_succ, eT, eY]; rfl
              refine oL (i := 7) (N := some 47) #[true, true, true, true, true, true, true, true, false, false] rfl rfl (iy HT_.out (by kernel_rfl)) (by decide) (fun K hK => ?_)
              refine Kd.Tf k24 w.heap.size (by rfl) (.tmp 41) (.tmp 46) 22 24 (.agg #[(.int .i64 0), (.int .i64 0), (.int .i64 0), (.int .i64 0), (.slice none 0 0)]) 56 rfl Tryd.underlying22 info24 rfl (by decide) (by omega) nU pE (⟨t239, t240, t241, t242, t243⟩ : S24) [.int .i64 t239, .int .i64 t240, .int .i64 t241, .int .i64 t242, .slice Ao37 t243.length co37] (fun k_ => (w.heap.size ≤ k_) ∧ k_ ≠ gp ∧ k_ ≠ kY ∧ k_ ≠ g) (fun k_ => ((fun k_ => (w.heap.size ≤ k_) ∧ k_ ≠ gp ∧ k_ ≠ kY ∧ k_ ≠ g)) k_ ∧ some k_ ≠ (nU : Value).ownBlock) rfl rfl ?aP (fun _ hk => hk) ?aF ?aO (Below.refl _ _) ?aS ?aL ?_
              (case aP => exact (UQ _ _ (⟨t239, t240, t241, t242, t243⟩ : S24) (Kd.ni (Kd.ll (ok' := (fun k_ => ((fun k_ => (w.heap.size ≤ k_) ∧ k_ ≠ gp ∧ k_ ≠ kY ∧ k_ ≠ g)) k_ ∧ some k_ ≠ (nU : Value).ownBlock)) (HO245.out) (fun k_ hk => ⟨⟨hk.1, ⟨hk.2.2.1, ⟨hk.2.2.2.1, hk.2.2.2.2⟩⟩⟩, hk.2.1⟩))).2.1 (Kd.N_F (Kd.ll (ok' := (fun k_ => ((fun k_ => (w.heap.size ≤ k_) ∧ k_ ≠ gp ∧ k_ ≠ kY ∧ k_ ≠ g)) k_ ∧ some k_ ≠ (nU : Value).ownBlock)) (HO245.out) (fun k_ hk => ⟨⟨hk.1, ⟨hk.2.2.1, ⟨hk.2.2.2.1, hk.2.2.2.2⟩⟩⟩, hk.2.1⟩)))))
              (case aF => exact (fun k_ hk => ⟨(Nat.le_trans (gP (w := w) (g := g) (row := none) (by repeat (first | (with_reducible first | exact HK.out | apply aI.dF | apply bu | apply bD | apply bz | refine aX ?_ je.out _ | refine aX ?_ Dc.out _) | exact HK.out))) hk), Kd.fP (g := gp) (o := .cells #[.int .i64 0, .int .i64 0, .int .i64 0, .int .i64 0, .slice none 0 0] 24 (0, 0)) bk_ k_ hk, Kd.fP (g := kY) (o := .cells #[.int .i64 5, .int .i64 0, .int .i64 0, .int .i64 0, nU] 24 (0, 0)) bk_ k_ hk, aH.fresh si_ k_ hk⟩))
              (case aO => exact (by (with_reducible repeat (first | apply Kd.Bt | apply Kd.GZ | apply Kd.FI)); exact Kd.ll kZ.out (fun _ hk => ⟨hk.1.1, ⟨hk.1.2.1, ⟨hk.1.2.2.1, hk.1.2.2.2⟩⟩⟩)))
              (case aS => exact (gP (w := w) (g := g) (row := none) (by repeat (first | (with_reducible first | exact HK.out | apply aI.dF | apply bu | apply bD | apply bz | refine aX ?_ je.out _ | refine aX ?_ Dc.out _) | exact HK.out))))
              (case aL => have := LMc33.out; omega)
              intro v249 w36 ho hb hg hat; rw [← Ny248.out] at ho; have HO250 := aa.mk (ho); replace jw := aa.mk (fG (g := gp) (o := .cells #[.int .i64 0, .int .i64 0, .int .i64 0, .int .i64 0, .slice none 0 0] 24 (0, 0)) bk_ hg (Kd.N_away kZ.out (fun _ hk => hk.1.2.1))); replace jf := aa.mk (fG (g := kY) (o := .cells #[.int .i64 5, .int .i64 0, .int .i64 0, .int .i64 0, nU] 24 (0, 0)) bk_ hg (Kd.N_away kZ.out (fun _ hk => hk.1.2.2.1))); replace HI0 := aa.mk (aH.grown si_ hg (aH.own_neN HI0.out kZ.out (by decide))); replace HB := aa.mk (vI bl_ HL.out hb); replace HK := aa.mk (aI.trans (by repeat (first | (with_reducible first | exact HK.out | apply aI.dF | apply bu | apply bD | apply bz | refine aX ?_ je.out _ | refine aX ?_ Dc.out _) | exact HK.out)) (aI.zg hg g) (Kd.N_base2 kZ.out)); clear kZ HO245; clear ho hb hg hat; obtain ⟨Ao38, co38, eo38⟩ := Kd.Bu HO250.out; (first | subst eo38 | (injection eo38 with f1_ f2_ f3_; have f4_ := f1_.symm; have f5_ := f3_.symm; clear f1_ f2_ f3_; subst f4_; subst f5_))
              refine hK.out _ _ ⟨(aC jf.out 0).trans rfl, (aC jf.out 1).trans rfl, (aC jf.out 2).trans rfl, (aC jf.out 3).trans rfl, (aC jf.out 4).trans rfl⟩ (fun hHeld => ?_)
              clear hK K; refine kS (a' := ?_) ?_ ?_
              rotate_left
              ·show Act.put _ (some 47) _ = _
               simp only [Act.put, List.setIfInBounds_toArray, List.set_cons_zero, List.set_cons_succ, eT, eY]; rfl
              refine pu_ HT_ 8 48 (bm 10 511) ?_
              refine Gu (i := 9) (N := none) #[true, true, true, true, true, true, true, true, true, true] rfl rfl (iy HT_.out (by kernel_rfl)) (by decide) (fun K hK => ?_)
              have hs39 : w36.cell? ⟨kY, 4, none⟩ = some (nU) := (aC jf.out 4).trans rfl; have hfs39 := dW jf.out 4; have hns39_0 := rP.out; have hms39_0 := KG.out; refine CO (w1 := ?_) (by rfl) rfl ?_ ?_
              rotate_left
              ·go_simp; rfl
              refine hK.out _ _ ?_
              clear hK K; refine wP (pF HT_.out (by kernel_rfl)) ?_
              try go_wp2
              go_roundg k4
              case measure => have := HJ3.out; have := HJ12.out; have := HJ21.out; have := HK4.out; omega
              case rel => exact ⟨(wrap64 (x8_4 - 1)), (t246), (t247), (y248), (.slice Ao38 y248.length co38), rs_, H', ⟨by have := HJ3.out; have := HJ12.out; have := HJ21.out; have := HK4.out; omega⟩, ⟨by (with_reducible repeat (first | apply Kd.Bt | apply Kd.GZ | apply Kd.FI)); exact Kd.ll (Kd.wQ (p := ⟨kY, 4, none⟩) (Kd.ll HO250.out (fun k_ hk => (⟨hk, by first | exact hk.2.2.1 | exact hk.1 | exact hk.2 | exact hk.1.1 | exact hk.1.2⟩ : _ ∧ k_ ≠ kY))) (fun _ hk => hk.2) (.slice Ao38 y248.length co38)) (fun _ hk => ⟨hk.1.1, ⟨hk.1.2.1, ⟨hk.1.2.2.1, hk.1.2.2.2⟩⟩⟩)⟩, ⟨by (with_reducible repeat (first | refine aj ?_ _ | refine ak ?_ | refine ah ?_ _)); refine bM ?_ rP.out _; (with_reducible repeat (first | refine aj ?_ _ | refine ak ?_ | refine ah ?_ _)); exact jw.out⟩, ⟨by (with_reducible repeat (first | refine aj ?_ _ | refine ak ?_ | refine ah ?_ _)); refine bn (cs := #[.int .i64 5, .int .i64 0, .int .i64 0, .int .i64 0, nU]) ?_ 4 _ rfl; (with_reducible repeat (first | refine aj ?_ _ | refine ak ?_ | refine ah ?_ _)); exact jf.out⟩, ⟨si_⟩, ⟨by repeat (first | (with_reducible first | exact HK.out | apply aI.dF | apply bu | apply bD | apply bz | refine aX ?_ je.out _ | refine aX ?_ Dc.out _) | exact HK.out)⟩, ⟨bl_⟩⟩
             ·rw [if_neg c33] at H; exact absurd H (by simp)
            ·rw [if_neg c31] at H; have D7 : decide (0 < x8_4) = false := decide_eq_false c31; clear c31; simp only [Option.some.injEq, Prod.mk.injEq] at H; obtain ⟨rfl, rfl, rfl, rfl, rfl, rfl, rfl⟩ := H; have hnb40 := KG.out; have hnc40 := rP.out; have hnb41 := Ni.out; have hnc41 := Nh.out; obtain ⟨zY, zZ, Ms, Mt, Mv, z8, Aa, Mw, Mx, MB⟩ := bF jf.out; have hnb43 := rD.out; have hnc43 := rC.out; obtain ⟨Xf, Xg, hcz44_2, hcz44_3, hcz44_4, Xh, Xi, hfz44_2, hfz44_3, hfz44_4⟩ := bF jw.out; obtain ⟨Gi, DR, eo45⟩ := Kd.Bu kZ.out; subst eo45; go_wp2; refine bodyPost_ret (results_cell_row rfl _ _ gp 24 #[.int .i64 5, .int .i64 0, .int .i64 0, .int .i64 0, .slice Gi pE.length DR] (0, 0) _ rfl (by (with_reducible repeat (first | refine aj ?_ _ | refine ak ?_ | refine ah ?_ _)); refine bn (cs := #[.int .i64 5, .int .i64 0, .int .i64 0, .int .i64 0, .slice none 0 0]) ?_ 4 _ rfl; (with_reducible repeat (first | refine aj ?_ _ | refine ak ?_ | refine ah ?_ _)); refine bn (cs := #[.int .i64 5, .int .i64 0, .int .i64 0, .int .i64 0, .slice none 0 0]) ?_ 3 _ rfl; (with_reducible repeat (first | refine aj ?_ _ | refine ak ?_ | refine ah ?_ _)); refine bn (cs := #[.int .i64 5, .int .i64 0, .int .i64 0, .int .i64 0, .slice none 0 0]) ?_ 2 _ rfl; (with_reducible repeat (first | refine aj ?_ _ | refine ak ?_ | refine ah ?_ _)); refine bn (cs := #[.int .i64 5, .int .i64 0, .int .i64 0, .int .i64 0, .slice none 0 0]) ?_ 1 _ rfl; (with_reducible repeat (first | refine aj ?_ _ | refine ak ?_ | refine ah ?_ _)); refine bn (cs := #[.int .i64 0, .int .i64 0, .int .i64 0, .int .i64 0, .slice none 0 0]) ?_ 0 _ rfl; (with_reducible repeat (first | refine aj ?_ _ | refine ak ?_ | refine ah ?_ _)); exact jw.out) Tryd.underlying24 rfl (by kernel_rfl)) rfl ?_
             exact ⟨_, re_, by (with_reducible repeat (first | apply Kd.Bt | apply Kd.GZ | apply Kd.FI)); exact Kd.ll (Kd.wQ (p := ⟨gp, 4, none⟩) (Kd.wQ (p := ⟨gp, 3, none⟩) (Kd.wQ (p := ⟨gp, 2, none⟩) (Kd.wQ (p := ⟨gp, 1, none⟩) (Kd.wQ (p := ⟨gp, 0, none⟩) (Kd.ll kZ.out (fun k_ hk => (⟨hk, by first | exact hk.2.1 | exact hk.1 | exact hk.2 | exact hk.1.1 | exact hk.1.2⟩ : _ ∧ k_ ≠ gp))) (fun _ hk => hk.2) (.int .i64 5)) (fun _ hk => hk.2) (.int .i64 0)) (fun _ hk => hk.2) (.int .i64 0)) (fun _ hk => hk.2) (.int .i64 0)) (fun _ hk => hk.2) (.slice Gi pE.length DR)) (fun _ hk => hk.1.1), si_, bl_, by repeat (first | (with_reducible first | exact HK.out | apply aI.dF | apply bu | apply bD | apply bz | refine aX ?_ je.out _ | refine aX ?_ Dc.out _) | exact HK.out)⟩
         ·replace c24 := Bool.eq_false_iff.mpr c24; subst c24; have H1 : ((dA.f bT ma mf 1 2).bind fun JL => ((ax.f kj21 bT JL.2.1 JL.2.2 1).bind fun mD => (some (6, 0, 0, JL.1, (([(⟨mD.1, mD.2.1, mD.2.2.1, mD.2.2.2.1, mD.2.2.2.2.1⟩ : S24)] : List (S24))), mD.2.2.2.2.2.1, mD.2.2.2.2.2.2)))) = some (r1, r2, r3, r4, r5, r6, r7) := by rw [if_neg (show ¬ (false = true) by decide)] at H; exact H
          clear H; have H := H1; clear H1; replace H := Option.bind_eq_some_iff.mp H; obtain ⟨⟨t251, t252, t253⟩, A460, H⟩ := H; replace H : ((ax.f kj21 bT t252 t253 1).bind fun mD => (some (6, 0, 0, t251, (([(⟨mD.1, mD.2.1, mD.2.2.1, mD.2.2.2.1, mD.2.2.2.2.1⟩ : S24)] : List (S24))), mD.2.2.2.2.2.1, mD.2.2.2.2.2.2))) = some (r1, r2, r3, r4, r5, r6, r7) := H; have A46 := aa.mk A460; clear A460; replace H := Option.bind_eq_some_iff.mp H; obtain ⟨⟨t254, t255, t256, t257, t258, t261, t262⟩, A470, H⟩ := H; replace H : (some (6, 0, 0, t251, (([(⟨t254, t255, t256, t257, t258⟩ : S24)] : List (S24))), t261, t262)) = some (r1, r2, r3, r4, r5, r6, r7) := H; have A47 := aa.mk A470; clear A470; obtain ⟨y263, Qi⟩ : ∃ y_ : List (S24), y_ = (([(⟨t254, t255, t256, t257, t258⟩ : S24)] : List (S24))) := ⟨_, rfl⟩; replace H : (some (6, 0, 0, t251, y263, t261, t262)) = some (r1, r2, r3, r4, r5, r6, r7) := by first | (rw [Qi]; with_reducible exact H) | (have H2_ := (Option.bind_some _ _).symm.trans H; rw [Qi]; with_reducible exact H2_) | (have H2_ := (Option.bind_some _ _).symm.trans H; with_reducible exact H2_) | with_reducible exact H | (rw [Qi]; exact H) | exact H
          have Ny263 := aa.mk Qi; clear Qi; simp only [Option.some.injEq, Prod.mk.injEq] at H; obtain ⟨rfl, rfl, rfl, rfl, rfl, rfl, rfl⟩ := H; go_wp2_with (first | ((with_reducible refine aN (f := 17) rfl ?_); refine bJ (some 51) rfl rfl Tryd.func17 (by kernel_rfl) rfl #[.pointer (some ⟨g, 0, none⟩), .int .i64 1, .int .i64 2] rfl mp_ ?_; (with_reducible refine (dA.calls g bT ma mf 1 2 t251 t252 t253 w0 _ ?aQ ?aT A46.out).mono ?_); (case aQ => repeat (first | (with_reducible first | exact HI0.out | apply aH.alloc | apply aH.drewN | apply aH.drew | apply aH.jI | apply aH.jJ | refine aH.far ?_ rC.out _) | exact HI0.out)); (case aT => repeat (first | (with_reducible first | exact HB.out | apply cz | apply bN | apply bU | refine bR ?_ (aH.ge HI0.out) | refine bR ?_ GM.out) | exact HB.out)); rintro e w48 ⟨rfl, hi, hb, hk⟩; refine ⟨_, rfl, ?_⟩; replace jw := aa.mk (aI.blk hk (g' := gp) (o := .cells #[.int .i64 0, .int .i64 0, .int .i64 0, .int .i64 0, .slice none 0 0] 24 (0, 0)) bk_ rD.out (by simp)); replace HK := aa.mk (aI.trans (by repeat (first | (with_reducible first | exact HK.out | apply aI.dF | apply bu | apply bD | apply bz | refine aX ?_ je.out _) | exact HK.out)) hk (.inl rfl)); replace HB := aa.mk (hb); replace HI0 := aa.mk (hi); (try clear hb); (try clear hb2); (try clear hk); (try clear hi)) | ((with_reducible refine aN (f := 15) rfl ?_); refine bJ (some 53) rfl rfl Tryd.func15 (by kernel_rfl) rfl #[.pointer (some ⟨g, 0, none⟩), .int .i64 1] rfl mp_ ?_; (with_reducible refine (ih kj21 (by have := HJ3.out; have := HJ12.out; have := HJ21.out; omega) g bT t252 t253 1 t254 t255 t256 t257 t258 t261 t262 w0 _ ?aQ ?aT A47.out).mono ?_); (case aQ => repeat (first | (with_reducible first | exact HI0.out | apply aH.alloc | apply aH.drewN | apply aH.drew | apply aH.jI | apply aH.jJ | refine aH.far ?_ rC.out _) | exact HI0.out)); (case aT => repeat (first | (with_reducible first | exact HB.out | apply cz | apply bN | apply bU | refine bR ?_ (aH.ge HI0.out) | refine bR ?_ GM.out) | exact HB.out)); rintro e w49 ⟨v259, rfl, ho0, hi, hb, hk⟩; refine ⟨_, rfl, ?_⟩; have HO260 := aa.mk (Kd.GY (Kd.ll (ok' := fun k_ => (w.heap.size ≤ k_) ∧ k_ ≠ gp ∧ k_ ≠ g) ho0 (fun k_ hk_ => ⟨(Nat.le_trans (gP (w := w) (g := g) (row := none) (by repeat (first | (with_reducible first | exact HK.out | apply aI.dF | apply bu | apply bD | apply bz | refine aX ?_ je.out _) | exact HK.out))) hk_), (Kd.fP (g := gp) (o := .cells #[.int .i64 0, .int .i64 0, .int .i64 0, .int .i64 0, .slice none 0 0] 24 (0, 0)) bk_ k_ hk_), (aH.fresh si_ k_ hk_)⟩)) (gP (w := w) (g := g) (row := none) (by repeat (first | (with_reducible first | exact HK.out | apply aI.dF | apply bu | apply bD | apply bz | refine aX ?_ je.out _) | exact HK.out)))); replace jw := aa.mk (aI.blk hk (g' := gp) (o := .cells #[.int .i64 0, .int .i64 0, .int .i64 0, .int .i64 0, .slice none 0 0] 24 (0, 0)) bk_ rD.out (by simp)); replace HK := aa.mk (aI.trans (by repeat (first | (with_reducible first | exact HK.out | apply aI.dF | apply bu | apply bD | apply bz | refine aX ?_ je.out _) | exact HK.out)) hk (.inl rfl)); replace HB := aa.mk (hb); replace HI0 := aa.mk (hi); (try clear hb); (try clear hb2); (try clear hk); (try clear hi); (try clear ho0); obtain ⟨Ao50, co50, eo50⟩ := Kd.Bu HO260.out; subst eo50) | ((with_reducible refine aY (N := 54) rfl ?_); refine Kd.N_lit k24 _ 24 ?hg (N' := 54) ?hd (xs := ([(⟨t254, t255, t256, t257, t258⟩ : S24)] : List (S24))) (inner := [.int .i64 t254, .int .i64 t255, .int .i64 t256, .int .i64 t257, .slice Ao50 t258.length co50]) (ok := (fun k_ => (w.heap.size ≤ k_) ∧ k_ ≠ gp ∧ k_ ≠ g)) (okp := (fun k_ => (w.heap.size ≤ k_) ∧ k_ ≠ gp ∧ k_ ≠ g)) ?hr ?hp (fun _ hk => hk) ((show ∀ k_, w49.heap.size ≤ k_ → (fun k_ => (w.heap.size ≤ k_) ∧ k_ ≠ gp ∧ k_ ≠ g) k_ from fun k_ hk => ⟨(Nat.le_trans (gP (w := w) (g := g) (row := none) (by repeat (first | (with_reducible first | exact HK.out | apply aI.dF | apply bu | apply bD | apply bz | refine aX ?_ je.out _) | exact HK.out))) hk), Kd.fP (g := gp) (o := .cells #[.int .i64 0, .int .i64 0, .int .i64 0, .int .i64 0, .slice none 0 0] 24 (0, 0)) bk_ k_ hk, aH.fresh si_ k_ hk⟩) _ (Nat.le_refl _)) (Below.refl _ _) (Nat.le_refl _) (by simp) ?_; (case hd => rfl); (case hg => rfl); (case hr => first | (go_simp; done) | (go_simp; rfl)); (case hp => exact (dm.c5 (show Kd.FK k24 _ _ (⟨t254, t255, t256, t257, t258⟩ : S24) [.int .i64 t254, .int .i64 t255, .int .i64 t256, .int .i64 t257, .slice Ao50 t258.length co50] from (UQ _ _ (⟨t254, t255, t256, t257, t258⟩ : S24) (Kd.ni (Kd.ll (ok' := (fun k_ => (w.heap.size ≤ k_) ∧ k_ ≠ gp ∧ k_ ≠ g)) (HO260.out) (fun k_ hk => ⟨hk.1, ⟨hk.2.1, hk.2.2⟩⟩))).2.1 (Kd.N_F (Kd.ll (ok' := (fun k_ => (w.heap.size ≤ k_) ∧ k_ ≠ gp ∧ k_ ≠ g)) (HO260.out) (fun k_ hk => ⟨hk.1, ⟨hk.2.1, hk.2.2⟩⟩))))) (dm.none _ _))); intro v264 w51 Gj hb hg_ iL; clear hg_ iL; (first | rw [← Ny263.out] at Gj | (simp only [Int.reduceToNat] at Gj; rw [← Ny263.out] at Gj)); have HO265 := aa.mk (Kd.GY Gj (gP (w := w) (g := g) (row := none) (by repeat (first | (with_reducible first | exact HK.out | apply aI.dF | apply bu | apply bD | apply bz | refine aX ?_ je.out _) | exact HK.out)))); replace jw := kb_ jw hb; replace HI0 := aa.mk (aH.below si_ hb); replace HK := aa.mk (aI.trans (by repeat (first | (with_reducible first | exact HK.out | apply aI.dF | apply bu | apply bD | apply bz | refine aX ?_ je.out _) | exact HK.out)) (aI.of_below hb g none) (.inl rfl)); replace HB := aa.mk (au bl_ hb); clear HO260; clear hb Gj; obtain ⟨Ao53, co53, eo53⟩ := Kd.Bu HO265.out; subst eo53; have hnb54 := rD.out; have hnc54 := rC.out; obtain ⟨La, Lb, QY, QZ, Q0, Lc, Ld, Q3, Q4, Q5⟩ := bF jw.out))
          refine bodyPost_ret (results_cell_row rfl _ _ gp 24 #[.int .i64 6, .int .i64 0, .int .i64 0, .int .i64 t251, .slice Ao53 y263.length co53] (0, 0) _ rfl (by (with_reducible repeat (first | refine aj ?_ _ | refine ak ?_ | refine ah ?_ _)); refine bn (cs := #[.int .i64 6, .int .i64 0, .int .i64 0, .int .i64 t251, .slice none 0 0]) ?_ 4 _ rfl; (with_reducible repeat (first | refine aj ?_ _ | refine ak ?_ | refine ah ?_ _)); refine bn (cs := #[.int .i64 6, .int .i64 0, .int .i64 0, .int .i64 0, .slice none 0 0]) ?_ 3 _ rfl; (with_reducible repeat (first | refine aj ?_ _ | refine ak ?_ | refine ah ?_ _)); refine bn (cs := #[.int .i64 6, .int .i64 0, .int .i64 0, .int .i64 0, .slice none 0 0]) ?_ 2 _ rfl; (with_reducible repeat (first | refine aj ?_ _ | refine ak ?_ | refine ah ?_ _)); refine bn (cs := #[.int .i64 6, .int .i64 0, .int .i64 0, .int .i64 0, .slice none 0 0]) ?_ 1 _ rfl; (with_reducible repeat (first | refine aj ?_ _ | refine ak ?_ | refine ah ?_ _)); refine bn (cs := #[.int .i64 0, .int .i64 0, .int .i64 0, .int .i64 0, .slice none 0 0]) ?_ 0 _ rfl; (with_reducible repeat (first | refine aj ?_ _ | refine ak ?_ | refine ah ?_ _)); exact jw.out) Tryd.underlying24 rfl (by kernel_rfl)) rfl ?_
          exact ⟨_, re_, by (with_reducible repeat (first | apply Kd.Bt | apply Kd.GZ | apply Kd.FI)); exact Kd.ll (Kd.wQ (p := ⟨gp, 4, none⟩) (Kd.wQ (p := ⟨gp, 3, none⟩) (Kd.wQ (p := ⟨gp, 2, none⟩) (Kd.wQ (p := ⟨gp, 1, none⟩) (Kd.wQ (p := ⟨gp, 0, none⟩) (Kd.ll HO265.out (fun k_ hk => (⟨hk, by first | exact hk.2.1 | exact hk.1 | exact hk.2 | exact hk.1.1 | exact hk.1.2⟩ : _ ∧ k_ ≠ gp))) (fun _ hk => hk.2) (.int .i64 6)) (fun _ hk => hk.2) (.int .i64 0)) (fun _ hk => hk.2) (.int .i64 0)) (fun _ hk => hk.2) (.int .i64 t251)) (fun _ hk => hk.2) (.slice Ao53 y263.length co53)) (fun _ hk => hk.1.1), si_, bl_, by repeat (first | (with_reducible first | exact HK.out | apply aI.dF | apply bu | apply bD | apply bz | refine aX ?_ je.out _) | exact HK.out)⟩

end Go.Proofs.YtggelekooacmnaaDoor.Q
set_option linter.unusedVariables false
set_option linter.unusedSimpArgs false
namespace Go.Proofs.YtggelekooacmnaaDoor.Pure
open Go.RowKit Go.Proofs.YtggelekooacmnaaDoor.Q Go.Proofs.YtggelekooacmnaaDoorW.bg Go.Proofs.YtggelekooacmnaaDoorW.bP Go.Proofs.YtggelekooacmnaaDoorW.bX
-- the reader of numbers, and the types that are built
/-- a reader's state -/
structure Rs (l : List Int) (at0 : Int) : Prop where
  len : l.length ≤ 1000
  lo : 0 ≤ at0
  hi : at0 ≤ l.length
theorem raw_ok {l : List Int} {p s : Int} (h : Rs l p) : ∃ x p', iA.f l p s = some (x, p', s) ∧ Rs l p' := by
  obtain ⟨h1, h2, h3⟩ := h
  unfold iA.f
  by_cases c : p ≥ (l.length : Int)
  · exact ⟨0, p, by rw [if_pos c], ⟨h1, h2, h3⟩⟩
  · have e : wrap64 (p + 1) = p + 1 := by unfold wrap64; omega
    have e2 : wrap64 (p + 1 - 1) = p := by unfold wrap64; omega
    rw [if_neg c, e, e2, if_pos h2, if_pos (by omega)]
    exact ⟨_, _, rfl, ⟨h1, by omega, by omega⟩⟩
theorem tmod_bd (x a : Int) (ha : 0 < a) : -a < Int.tmod x a ∧ Int.tmod x a < a := by
  have h1 := Int.tmod_lt_of_pos x ha
  have h2 := Int.tmod_lt_of_pos (-x) ha
  rw [Int.neg_tmod] at h2
  omega
theorem CK {l : List Int} {p s a : Int} (h : Rs l p) (ha : a ≤ 1000000) : ∃ x p', bS.f l p s a = some (x, p', s) ∧ Rs l p' ∧ 0 ≤ x ∧ (1 ≤ a → x < a) ∧ (a < 1 → x = 0) := by
  unfold bS.f
  by_cases c : a < 1
  · exact ⟨0, p, by rw [if_pos c], h, by omega, by omega, fun _ => rfl⟩
  · obtain ⟨x, p', e, h'⟩ := raw_ok (s := s) h
    have hb := tmod_bd x a (by omega)
    rw [if_neg c, e, Option.bind_some, if_neg (by omega)]
    dsimp only
    by_cases c2 : Int.tmod x a < 0
    · have ew : wrap64 (Int.tmod x a + a) = Int.tmod x a + a := by unfold wrap64; omega
      rw [if_pos c2, ew]
      exact ⟨_, _, rfl, h', by omega, by omega, by omega⟩
    · rw [if_neg c2]
      exact ⟨_, _, rfl, h', by omega, by omega, by omega⟩
theorem Gl {l : List Int} {p s lo hi : Int} (h : Rs l p) (h1 : -100000 ≤ lo) (h2 : lo ≤ hi) (h3 : hi ≤ 100000) : ∃ x p', dA.f l p s lo hi = some (x, p', s) ∧ Rs l p' ∧ lo ≤ x ∧ x ≤ hi := by
  unfold dA.f
  have e : wrap64 (wrap64 (hi - lo) + 1) = hi - lo + 1 := by unfold wrap64; omega
  obtain ⟨x, p', e1, h', hx0, hx1, _⟩ := CK (s := s) (a := hi - lo + 1) h (by omega)
  have hx := hx1 (by omega)
  have ew : wrap64 (lo + x) = lo + x := by unfold wrap64; omega
  rw [e, e1, Option.bind_some]
  dsimp only
  rw [ew]
  exact ⟨_, _, rfl, h', by omega, by omega⟩
theorem New_ok (l : List Int) : nk.f l = some (l.take 1000, 0, 0) ∧ Rs (l.take 1000) 0 := by
  unfold nk.f
  refine ⟨?_, ⟨by rw [List.length_take]; omega, by omega, by omega⟩⟩
  by_cases c : (l.length : Int) > 1000
  · rw [if_pos c, if_pos (by omega)]
  · rw [if_neg c, List.take_of_length_le (by omega)]
/-- the types that are built, at most d deep -/
inductive Gt : Nat → S24 → Prop
  | bool (d : Nat) : Gt (d + 1) ⟨1, 0, 0, 0, []⟩
  | int (d : Nat) (lo hi : Int) (h1 : -2 ≤ lo) (h2 : lo ≤ hi) (h3 : hi ≤ lo + 3) (h4 : lo ≤ 3) : Gt (d + 1) ⟨2, lo, hi, 0, []⟩
  | tup (d : Nat) (l : List S24) (h1 : 2 ≤ l.length) (h2 : l.length ≤ 3) (h3 : ∀ x ∈ l, Gt d x) : Gt (d + 1) ⟨5, 0, 0, 0, l⟩
  | lst (d : Nat) (m : Int) (x : S24) (h1 : 1 ≤ m) (h2 : m ≤ 2) (h3 : Gt 1 x) (h4 : x.f0 = 1 ∨ x.f0 = 2) (h5 : 1 ≤ d) : Gt (d + 1) ⟨6, 0, 0, m, [x]⟩
theorem Gt.kind {d : Nat} {t : S24} (h : Gt d t) : t.f0 ≠ 3 ∧ t.f0 ≠ 4 ∧ 1 ≤ t.f0 ∧ t.f0 ≤ 6 := by cases h <;> simp
theorem Gt.vt {d : Nat} : ∀ {t : S24}, Gt d t → Vt d t := by
  induction d with
  | zero => intro t h; cases h
  | succ d ih =>
    intro t h
    cases h with
    | bool => exact .bool _
    | int _ lo hi h1 h2 h3 h4 => exact .int _ _ _ (by omega) h2 (by omega)
    | tup _ l h1 h2 h3 => exact .tup _ _ h1 (by omega) (fun x hx => ih (h3 x hx)) (fun x hx => ⟨(h3 x hx).kind.1, (h3 x hx).kind.2.1⟩)
    | lst _ m x h1 h2 h3 h4 h5 =>
      refine .lst _ _ _ h1 (by omega) (Vt.mono h5 ?_) h4
      cases h3 with
      | bool => exact .bool _
      | int _ lo hi h1 h2 h3 h4 => exact .int _ _ _ (by omega) h2 (by omega)
      | tup _ l h1 h2 h3 => simp at h4
      | lst _ m x h1 h2 h3 h4 h5 => omega
theorem Gt.ET {d : Nat} : ∀ {t : S24} {n : Nat}, Gt d t → d ≤ n → (prt n t).length ≤ 3 ^ (d - 1) := by
  induction d with
  | zero => intro t n h; cases h
  | succ d ih =>
    intro t n h hn
    obtain ⟨n, rfl⟩ : ∃ e, n = e + 1 := ⟨n - 1, by omega⟩
    have hp : 1 ≤ 3 ^ (d + 1 - 1) := Nat.pos_of_ne_zero (by simp)
    cases h with
    | bool => simpa [prt] using hp
    | int _ lo hi h1 h2 h3 h4 => simpa [prt] using hp
    | tup _ l h1 h2 h3 =>
      rw [prt5]
      have hl := TT (f := prt n) (fun x hx => ih (h3 x hx) (show d ≤ n by omega))
      obtain ⟨d, rfl⟩ : ∃ e, d = e + 1 := by
        match l, h1, h3 with
        | x :: _, _, h3 => exact ⟨d - 1, by have := h3 x List.mem_cons_self; cases d with
            | zero => cases this
            | succ d => omega⟩
      have h5 : 3 ^ (d + 1 + 1 - 1) = 3 ^ (d + 1 - 1) * 3 := Nat.pow_succ ..
      have : l.length * 3 ^ (d + 1 - 1) ≤ 3 * 3 ^ (d + 1 - 1) := Nat.mul_le_mul_right _ h2
      omega
    | lst _ m x h1 h2 h3 h4 h5 =>
      have hv : Vt n x := Vt.mono (by omega) h3.vt
      rw [prt6, List.length_cons, ML, Pt hv h4]
      have : 3 ^ 1 ≤ 3 ^ (d + 1 - 1) := Nat.pow_le_pow_right (by omega) (by omega)
      omega
theorem Type_l0 (d : Nat) (hd : d ≤ 100) (l : List Int) (s : Int) (ih : ∀ p, Rs l p → ∃ t p', Ev (fun k => ax.f k l p s d) (t.f0, t.f1, t.f2, t.f3, t.f4, p', s) ∧ Gt d t ∧ Rs l p') :
    ∀ (c : Nat) (p : Int) (o : List S24), c ≤ 3 → o.length + c ≤ 3 → Rs l p → (∀ x ∈ o, Gt d x) → ∃ o' p', Ev (fun k => ax.l0 k (d + 1 : Nat) c l p s 5 0 0 0 o) (5, 0, 0, 0, o', p', s) ∧ o'.length = o.length + c ∧ (∀ x ∈ o', Gt d x) ∧ Rs l p' := by
  intro c
  induction c with
  | zero =>
    intro p o hc ho hr hg
    refine ⟨o, p, ⟨1, fun k hk => ?_⟩, by omega, hg, hr⟩
    obtain ⟨k, rfl⟩ : ∃ j, k = j + 1 := ⟨k - 1, by omega⟩
    simp only [ax.l0]
    rw [if_neg (by omega)]
  | succ c IH =>
    intro p o hc ho hr hg
    obtain ⟨t, p1, ⟨K1, e1⟩, g1, hr1⟩ := ih p hr
    obtain ⟨o', p', ⟨K2, e2⟩, hl, hg', hr'⟩ := IH p1 (o ++ [t]) (by omega) (by rw [List.length_append, List.length_singleton]; omega) hr1 (by
      intro x hx
      rcases List.mem_append.1 hx with hx | hx
      · exact hg x hx
      · rw [List.mem_singleton] at hx; rw [hx]; exact g1)
    refine ⟨o', p', ⟨max K1 K2 + 1, fun k hk => ?_⟩, by rw [hl, List.length_append, List.length_singleton]; omega, hg', hr'⟩
    obtain ⟨k, rfl⟩ : ∃ j, k = j + 1 := ⟨k - 1, by omega⟩
    have e1' := e1 k (by omega)
    have e2' := e2 k (by omega)
    dsimp only at e1' e2'
    have ew : wrap64 (((d + 1 : Nat) : Int) - 1) = (d : Int) := by unfold wrap64; omega
    have ec : wrap64 (((c + 1 : Nat) : Int) - 1) = (c : Int) := by unfold wrap64; omega
    simp only [ax.l0]
    rw [if_pos (by omega), ew, e1', Option.bind_some]
    dsimp only
    rw [if_pos (by omega), ec, eta_s, e2']
theorem Type_ev (d : Nat) : ∀ {l : List Int} {p s : Int}, 1 ≤ d → d ≤ 100 → Rs l p → ∃ t p', Ev (fun k => ax.f k l p s d) (t.f0, t.f1, t.f2, t.f3, t.f4, p', s) ∧ Gt d t ∧ Rs l p' := by
  induction d with
  | zero => intro l p s h; omega
  | succ d ih =>
    intro l p s h1 h2 hr
    obtain ⟨k1, p1, e1, hr1, b1, b1', _⟩ := CK (s := s) (a := 6) hr (by omega)
    have b1' := b1' (by omega)
    have leaf : ∀ (kd q : Int), Rs l q → 0 ≤ kd → kd < 3 → ∃ t p', (∃ K, ∀ k, K ≤ k → ax.j0 k ((d + 1 : Nat) : Int) kd l q s = some (t.f0, t.f1, t.f2, t.f3, t.f4, p', s)) ∧ Gt (d + 1) t ∧ Rs l p' := by
      intro kd q hq c0 c3
      by_cases c : kd = 0
      · refine ⟨⟨1, 0, 0, 0, []⟩, q, ⟨1, fun k hk => ?_⟩, .bool _, hq⟩
        obtain ⟨k, rfl⟩ : ∃ j, k = j + 1 := ⟨k - 1, by omega⟩
        simp only [ax.j0]
        rw [if_pos c]
      · obtain ⟨lo, q1, e2, hq1, l1, l2⟩ := Gl (s := s) (lo := -2) (hi := 3) hq (by omega) (by omega) (by omega)
        obtain ⟨w, q2, e3, hq2, w1, w2, _⟩ := CK (s := s) (a := 4) hq1 (by omega)
        have w2 := w2 (by omega)
        have ew : wrap64 (lo + w) = lo + w := by unfold wrap64; omega
        refine ⟨⟨2, lo, lo + w, 0, []⟩, q2, ⟨2, fun k hk => ?_⟩, .int _ _ _ l1 (by omega) (by omega) (by omega), hq2⟩
        obtain ⟨k, rfl⟩ : ∃ j, k = j + 2 := ⟨k - 2, by omega⟩
        simp only [ax.j0]
        rw [if_neg c]
        have hb : ∀ b, b = true → ax.j1 (k + 1) ((d + 1 : Nat) : Int) kd b l q s = some (2, lo, lo + w, 0, [], q2, s) := by
          intro b hb
          simp only [ax.j1]
          rw [if_pos hb, e2, Option.bind_some]
          dsimp only
          rw [e3, Option.bind_some]
          dsimp only
          rw [ew]
        by_cases c1 : kd = 1
        · rw [if_pos c1]; exact hb _ (by rw [c1]; rfl)
        · rw [if_neg c1]; exact hb _ (by rw [show kd = 2 from by omega]; rfl)
    by_cases hd : d = 0
    · subst hd
      obtain ⟨k2, p2, e2, hr2, b2, b2', _⟩ := CK (s := s) (a := 3) hr1 (by omega)
      have b2' := b2' (by omega)
      obtain ⟨t, p', ⟨K, e⟩, g, hr'⟩ := leaf k2 p2 hr2 b2 b2'
      refine ⟨t, p', ⟨K + 1, fun k hk => ?_⟩, g, hr'⟩
      obtain ⟨k, rfl⟩ : ∃ j, k = j + 1 := ⟨k - 1, by omega⟩
      simp only [ax.f]
      rw [e1, Option.bind_some, if_pos (by omega)]
      dsimp only
      rw [e2, Option.bind_some]
      exact e k (by omega)
    · have hf : ∀ k, ax.f (k + 1) l p s ((d + 1 : Nat) : Int) = ax.j0 k ((d + 1 : Nat) : Int) k1 l p1 s := by
        intro k
        simp only [ax.f]
        rw [e1, Option.bind_some, if_neg (by omega)]
      by_cases c3 : k1 < 3
      · obtain ⟨t, p', ⟨K, e⟩, g, hr'⟩ := leaf k1 p1 hr1 b1 c3
        refine ⟨t, p', ⟨K + 1, fun k hk => ?_⟩, g, hr'⟩
        obtain ⟨k, rfl⟩ : ∃ j, k = j + 1 := ⟨k - 1, by omega⟩
        show ax.f (k + 1) l p s ((d + 1 : Nat) : Int) = _
        rw [hf]
        exact e k (by omega)
      · have hj : ∀ k, ax.f (k + 3) l p s ((d + 1 : Nat) : Int) = (if k1 = 3 then ax.j2 k ((d + 1 : Nat) : Int) true l p1 s else ax.j2 k ((d + 1 : Nat) : Int) (k1 == 4) l p1 s) := by
          intro k
          rw [hf]
          simp only [ax.j0]
          rw [if_neg (by omega), if_neg (by omega), show (k1 == 2) = false from by simp; omega]
          simp only [ax.j1]
          rw [if_neg (by decide)]
          by_cases c : k1 = 3
          · rw [if_pos c, if_pos c, c]; rfl
          · rw [if_neg c, if_neg c]
        by_cases c4 : k1 = 3 ∨ k1 = 4
        · obtain ⟨c, p2, e2, hr2, g1, g2⟩ := Gl (s := s) (lo := 2) (hi := 3) hr1 (by omega) (by omega) (by omega)
          obtain ⟨o', p', ⟨K, e⟩, hl, hg, hr'⟩ := Type_l0 d (by omega) l s (fun p hp => ih (by omega) (by omega) hp) c.toNat p2 [] (by omega) (by simp; omega) hr2 (by simp)
          refine ⟨⟨5, 0, 0, 0, o'⟩, p', ⟨K + 4, fun k hk => ?_⟩, .tup _ _ (by simp at hl; omega) (by simp at hl; omega) hg, hr'⟩
          obtain ⟨k, rfl⟩ : ∃ j, k = j + 4 := ⟨k - 4, by omega⟩
          show ax.f (k + 1 + 3) l p s ((d + 1 : Nat) : Int) = _
          have hb : ∀ b, b = true → ax.j2 (k + 1) ((d + 1 : Nat) : Int) b l p1 s = some (5, 0, 0, 0, o', p', s) := by
            intro b hb
            have e' := e k (by omega)
            dsimp only at e'
            simp only [ax.j2]
            rw [if_pos hb, e2, Option.bind_some]
            dsimp only
            rw [show c = (c.toNat : Int) from by omega]
            exact e'
          rw [hj]
          by_cases c : k1 = 3
          · rw [if_pos c]; exact hb _ rfl
          · rw [if_neg c]; exact hb _ (by rw [show k1 = 4 from by omega]; rfl)
        · obtain ⟨m, p2, e2, hr2, g1, g2⟩ := Gl (s := s) (lo := 1) (hi := 2) hr1 (by omega) (by omega) (by omega)
          have h1t : ∃ x p', Ev (fun k => ax.f k l p2 s 1) (x.f0, x.f1, x.f2, x.f3, x.f4, p', s) ∧ Gt 1 x ∧ Rs l p' := by
            obtain ⟨k3, p3, e3, hr3, b3, b3', _⟩ := CK (s := s) (a := 6) hr2 (by omega)
            obtain ⟨k4, p4, e4, hr4, b4, b4', _⟩ := CK (s := s) (a := 3) hr3 (by omega)
            have b4' := b4' (by omega)
            have fin : ∃ x p', (∃ K, ∀ k, K ≤ k → ax.j0 k 1 k4 l p4 s = some (x.f0, x.f1, x.f2, x.f3, x.f4, p', s)) ∧ Gt 1 x ∧ Rs l p' := by
              by_cases c : k4 = 0
              · refine ⟨⟨1, 0, 0, 0, []⟩, p4, ⟨1, fun k hk => ?_⟩, .bool _, hr4⟩
                obtain ⟨k, rfl⟩ : ∃ j, k = j + 1 := ⟨k - 1, by omega⟩
                simp only [ax.j0]
                rw [if_pos c]
              · obtain ⟨lo, q1, e5, hq1, l1, l2⟩ := Gl (s := s) (lo := -2) (hi := 3) hr4 (by omega) (by omega) (by omega)
                obtain ⟨w, q2, e6, hq2, w1, w2, _⟩ := CK (s := s) (a := 4) hq1 (by omega)
                have w2 := w2 (by omega)
                have ew : wrap64 (lo + w) = lo + w := by unfold wrap64; omega
                refine ⟨⟨2, lo, lo + w, 0, []⟩, q2, ⟨2, fun k hk => ?_⟩, .int _ _ _ l1 (by omega) (by omega) (by omega), hq2⟩
                obtain ⟨k, rfl⟩ : ∃ j, k = j + 2 := ⟨k - 2, by omega⟩
                simp only [ax.j0]
                rw [if_neg c]
                have hb : ∀ b, b = true → ax.j1 (k + 1) 1 k4 b l p4 s = some (2, lo, lo + w, 0, [], q2, s) := by
                  intro b hb
                  simp only [ax.j1]
                  rw [if_pos hb, e5, Option.bind_some]
                  dsimp only
                  rw [e6, Option.bind_some]
                  dsimp only
                  rw [ew]
                by_cases c1 : k4 = 1
                · rw [if_pos c1]; exact hb _ (by rw [c1]; rfl)
                · rw [if_neg c1]; exact hb _ (by rw [show k4 = 2 from by omega]; rfl)
            obtain ⟨x, p', ⟨K, e⟩, g, hr'⟩ := fin
            refine ⟨x, p', ⟨K + 1, fun k hk => ?_⟩, g, hr'⟩
            obtain ⟨k, rfl⟩ : ∃ j, k = j + 1 := ⟨k - 1, by omega⟩
            simp only [ax.f]
            rw [e3, Option.bind_some, if_pos (by omega)]
            dsimp only
            rw [e4, Option.bind_some]
            exact e k (by omega)
          obtain ⟨x, p', ⟨K, e⟩, g, hr'⟩ := h1t
          have hk12 : x.f0 = 1 ∨ x.f0 = 2 := by
            cases g with
            | bool => exact .inl rfl
            | int => exact .inr rfl
            | tup _ l h1 h2 h3 =>
              match l, h1, h3 with
              | y :: _, _, h3 => exact nomatch h3 y List.mem_cons_self
            | lst _ _ _ _ _ _ _ h5 => omega
          refine ⟨⟨6, 0, 0, m, [x]⟩, p', ⟨K + 4, fun k hk => ?_⟩, .lst _ _ _ g1 g2 g hk12 (by omega), hr'⟩
          obtain ⟨k, rfl⟩ : ∃ j, k = j + 4 := ⟨k - 4, by omega⟩
          have e' := e (k) (by omega)
          dsimp only at e'
          show ax.f (k + 1 + 3) l p s ((d + 1 : Nat) : Int) = _
          rw [hj, if_neg (by omega), show (k1 == 4) = false from by simp; omega]
          simp only [ax.j2]
          rw [if_neg (by decide), e2, Option.bind_some]
          dsimp only
          rw [e', Option.bind_some]
          dsimp only
          rw [eta_s]

end Go.Proofs.YtggelekooacmnaaDoor.Pure
set_option linter.unusedVariables false
set_option linter.unusedSimpArgs false
namespace Go.Proofs.YtggelekooacmnaaDoor.Pure
open Go.RowKit Go.Proofs.YtggelekooacmnaaDoor.Q Go.Proofs.YtggelekooacmnaaDoorW.bg Go.Proofs.YtggelekooacmnaaDoorW.bP Go.Proofs.YtggelekooacmnaaDoorW.bX
theorem Pick_ok {l : List Int} {p s : Int} {ys : List Int} (h : Rs l p) (h1 : 1 ≤ ys.length) (h2 : ys.length ≤ 1000) : ∃ x p', ib.f l p s ys = some (x, p', s) ∧ Rs l p' ∧ x ∈ ys := by
  unfold ib.f
  obtain ⟨x, p', e1, h', hx0, hx1, _⟩ := CK (s := s) (a := (ys.length : Int)) h (by omega)
  have hx := hx1 (by omega)
  rw [e1, Option.bind_some]
  dsimp only
  rw [if_pos hx0, if_pos hx]
  refine ⟨_, _, rfl, h', ?_⟩
  have hlt : x.toNat < ys.length := by omega
  have : rd ys x = ys[x.toNat] := by simp [rd, List.getD, hlt]
  rw [this]; exact List.getElem_mem hlt

-- a value that is drawn
theorem Bv.up {m : Nat} : ∀ {v : S51}, Bv m v → Bv (m + 1) v := by
  induction m with
  | zero => intro v h; exact h.elim
  | succ m ih => intro v h; exact ⟨h.1, fun x hx => ih (h.2 x hx)⟩
theorem Bv.mono {m k : Nat} (h : m ≤ k) {v : S51} (hv : Bv m v) : Bv k v := by
  induction h with
  | refl => exact hv
  | step _ ih => exact ih.up
theorem Fx {l : List Int} {p s x : Int} (vs : List S51) (n : Nat) (hr : Rs l p) (hl : vs.length ≤ 100) (hv : ∀ v ∈ vs, Bv (n + 1) v) :
    ∃ (r : S51) (p' : Int), Ev (fun k => aD.j2 k l p s x vs) (r.f0, r.f1, p', s) ∧ Bv (n + 2) r ∧ r.f1.length ≤ vs.length + 1 ∧ Rs l p' := by
  obtain ⟨c, p1, e1, hr1, b1, b2, _⟩ := CK (s := s) (a := 24) hr (by omega)
  by_cases c0 : c = 0
  · obtain ⟨y, p2, e2, hr2, _⟩ := Pick_ok (s := s) (ys := [-1, 1, 1000]) hr1 (by simp) (by simp)
    refine ⟨⟨wrap64 (x + y), vs⟩, p2, ⟨1, fun k hk => ?_⟩, ⟨by show vs.length ≤ 1000; omega, hv⟩, by simp, hr2⟩
    obtain ⟨k, rfl⟩ : ∃ j, k = j + 1 := ⟨k - 1, by omega⟩
    simp only [aD.j2]
    rw [e1, Option.bind_some]
    dsimp only
    rw [if_pos c0, e2, Option.bind_some]
  · by_cases c1 : c = 1
    · refine ⟨⟨x, vs ++ [⟨0, []⟩]⟩, p1, ⟨1, fun k hk => ?_⟩, ⟨by simp; omega, fun v hv' => ?_⟩, by simp, hr1⟩
      · obtain ⟨k, rfl⟩ : ∃ j, k = j + 1 := ⟨k - 1, by omega⟩
        simp only [aD.j2]
        rw [e1, Option.bind_some]
        dsimp only
        rw [if_neg c0, if_pos c1, if_pos (by simp; omega), Option.bind_some, if_pos (by simp; omega)]
        simp
      · simp at hv'
        rcases hv' with hv' | rfl
        · exact hv v hv'
        · exact ⟨by simp, by simp⟩
    · refine ⟨⟨x, vs⟩, p1, ⟨1, fun k hk => ?_⟩, ⟨by show vs.length ≤ 1000; omega, hv⟩, by simp, hr1⟩
      obtain ⟨k, rfl⟩ : ∃ j, k = j + 1 := ⟨k - 1, by omega⟩
      simp only [aD.j2]
      rw [e1, Option.bind_some]
      dsimp only
      rw [if_neg c0, if_neg c1]
abbrev smf (l : List Int) (p s : Int) (t : S24) : Nat → Option (Int × List S51 × Int × Int) := fun k => aD.f k l p s t.f0 t.f1 t.f2 t.f3 t.f4
theorem some_l0 (n : Nat) (ts : List S24) (h4 : ts.length ≤ 4) (l : List Int) (s a0 a1 a2 a3 : Int)
    (ih : ∀ t ∈ ts, ∀ p, Rs l p → ∃ (r : S51) (p' : Int), Ev (smf l p s t) (r.f0, r.f1, p', s) ∧ Bv (n + 1) r ∧ Rs l p') :
    ∀ (d i : Nat) (p : Int) (o : List S51), i + d = ts.length → o.length ≤ i → Rs l p → (∀ v ∈ o, Bv (n + 1) v) →
    ∃ (r : S51) (p' : Int), Ev (fun k => aD.l0 k i l p s a0 a1 a2 a3 ts 0 o) (r.f0, r.f1, p', s) ∧ Bv (n + 2) r ∧ Rs l p' := by
  intro d
  induction d with
  | zero =>
    intro i p o hi ho hr hv
    obtain ⟨r, p', ⟨K, e⟩, hb, _, hr'⟩ := Fx (s := s) (x := 0) o n hr (by omega) hv
    refine ⟨r, p', ⟨K + 1, fun k hk => ?_⟩, hb, hr'⟩
    obtain ⟨k, rfl⟩ : ∃ j, k = j + 1 := ⟨k - 1, by omega⟩
    simp only [aD.l0]
    rw [if_neg (by omega)]
    exact e k (by omega)
  | succ d IH =>
    intro i p o hi ho hr hv
    have hlt : i < ts.length := by omega
    obtain ⟨v, p1, ⟨K1, e1⟩, hb1, hr1⟩ := ih ts[i] (List.getElem_mem hlt) p hr
    obtain ⟨r, p', ⟨K2, e2⟩, hb, hr'⟩ := IH (i + 1) p1 (o ++ [v]) (by omega) (by rw [List.length_append, List.length_singleton]; omega) hr1 (by
      intro y hy
      rcases List.mem_append.1 hy with hy | hy
      · exact hv y hy
      · rw [List.mem_singleton] at hy; rw [hy]; exact hb1)
    refine ⟨r, p', ⟨max K1 K2 + 1, fun k hk => ?_⟩, hb, hr'⟩
    obtain ⟨k, rfl⟩ : ∃ j, k = j + 1 := ⟨k - 1, by omega⟩
    have e1' := e1 k (by omega)
    have e2' := e2 k (by omega)
    dsimp only [smf] at e1' e2'
    simp only [aD.l0]
    rw [if_pos (by omega), if_pos (by omega), rdT hlt, e1', Option.bind_some]
    dsimp only
    rw [if_pos (by omega), jE (by omega), etaV, e2']
theorem some_l1 (n : Nat) (x : S24) (l : List Int) (s a0 a1 a2 a3 : Int)
    (ih : ∀ p, Rs l p → ∃ (r : S51) (p' : Int), Ev (smf l p s x) (r.f0, r.f1, p', s) ∧ Bv (n + 1) r ∧ Rs l p') :
    ∀ (c : Nat) (p : Int) (o : List S51), o.length + c ≤ 10 → Rs l p → (∀ v ∈ o, Bv (n + 1) v) →
    ∃ (r : S51) (p' : Int), Ev (fun k => aD.l1 k c l p s a0 a1 a2 a3 [x] 0 o) (r.f0, r.f1, p', s) ∧ Bv (n + 2) r ∧ Rs l p' := by
  intro c
  induction c with
  | zero =>
    intro p o ho hr hv
    obtain ⟨r, p', ⟨K, e⟩, hb, _, hr'⟩ := Fx (s := s) (x := 0) o n hr (by omega) hv
    refine ⟨r, p', ⟨K + 1, fun k hk => ?_⟩, hb, hr'⟩
    obtain ⟨k, rfl⟩ : ∃ j, k = j + 1 := ⟨k - 1, by omega⟩
    simp only [aD.l1]
    rw [if_neg (by omega)]
    exact e k (by omega)
  | succ c IH =>
    intro p o ho hr hv
    obtain ⟨v, p1, ⟨K1, e1⟩, hb1, hr1⟩ := ih p hr
    obtain ⟨r, p', ⟨K2, e2⟩, hb, hr'⟩ := IH p1 (o ++ [v]) (by rw [List.length_append, List.length_singleton]; omega) hr1 (by
      intro y hy
      rcases List.mem_append.1 hy with hy | hy
      · exact hv y hy
      · rw [List.mem_singleton] at hy; rw [hy]; exact hb1)
    refine ⟨r, p', ⟨max K1 K2 + 1, fun k hk => ?_⟩, hb, hr'⟩
    obtain ⟨k, rfl⟩ : ∃ j, k = j + 1 := ⟨k - 1, by omega⟩
    have e1' := e1 k (by omega)
    have e2' := e2 k (by omega)
    dsimp only [smf] at e1' e2'
    have ec : wrap64 (((c + 1 : Nat) : Int) - 1) = (c : Int) := by unfold wrap64; omega
    simp only [aD.l1]
    rw [if_pos (by omega), if_pos (by simp), if_pos (by simp), rd1, e1', Option.bind_some]
    dsimp only
    rw [if_pos (by omega), ec, etaV, e2']
theorem Sc (n : Nat) : ∀ {t : S24} {l : List Int} {p s : Int}, Vt n t → Rs l p → ∃ (r : S51) (p' : Int), Ev (smf l p s t) (r.f0, r.f1, p', s) ∧ Bv (n + 1) r ∧ Rs l p' := by
  induction n with
  | zero => intro t l p s h; cases h
  | succ n ih =>
    intro t l p s h hr
    cases h with
    | bool =>
      obtain ⟨x, p1, e1, hr1, _⟩ := CK (s := s) (a := 2) hr (by omega)
      obtain ⟨r, p', ⟨K, e⟩, hb, _, hr'⟩ := Fx (s := s) (x := x) [] n hr1 (by simp) (by simp)
      refine ⟨r, p', ⟨K + 1, fun k hk => ?_⟩, hb, hr'⟩
      obtain ⟨k, rfl⟩ : ∃ j, k = j + 1 := ⟨k - 1, by omega⟩
      simp only [smf, aD.f]
      rw [if_neg (by decide), if_neg (by decide), if_pos trivial, e1, Option.bind_some]
      exact e k (by omega)
    | int _ lo hi h1 h2 h3 =>
      have em : mn hi (wrap64 (lo + 5)) = min hi (lo + 5) := by rw [mn_eq]; unfold wrap64; omega
      obtain ⟨x, p1, e1, hr1, _⟩ := Gl (s := s) (lo := lo) (hi := min hi (lo + 5)) hr (by omega) (by omega) (by omega)
      obtain ⟨r, p', ⟨K, e⟩, hb, _, hr'⟩ := Fx (s := s) (x := x) [] n hr1 (by simp) (by simp)
      refine ⟨r, p', ⟨K + 1, fun k hk => ?_⟩, hb, hr'⟩
      obtain ⟨k, rfl⟩ : ∃ j, k = j + 1 := ⟨k - 1, by omega⟩
      simp only [smf, aD.f]
      rw [if_neg (by decide), if_neg (by decide), if_neg (by decide), if_pos trivial, em, e1, Option.bind_some]
      exact e k (by omega)
    | nat =>
      obtain ⟨x, p1, e1, hr1, _⟩ := CK (s := s) (a := 4) hr (by omega)
      obtain ⟨r, p', ⟨K, e⟩, hb, _, hr'⟩ := Fx (s := s) (x := x) [] n hr1 (by simp) (by simp)
      refine ⟨r, p', ⟨K + 1, fun k hk => ?_⟩, hb, hr'⟩
      obtain ⟨k, rfl⟩ : ∃ j, k = j + 1 := ⟨k - 1, by omega⟩
      simp only [smf, aD.f]
      rw [if_neg (by decide), if_neg (by decide), if_neg (by decide), if_neg (by decide), e1, Option.bind_some]
      exact e k (by omega)
    | real =>
      obtain ⟨x, p1, e1, hr1, _⟩ := CK (s := s) (a := 4) hr (by omega)
      obtain ⟨r, p', ⟨K, e⟩, hb, _, hr'⟩ := Fx (s := s) (x := x) [] n hr1 (by simp) (by simp)
      refine ⟨r, p', ⟨K + 1, fun k hk => ?_⟩, hb, hr'⟩
      obtain ⟨k, rfl⟩ : ∃ j, k = j + 1 := ⟨k - 1, by omega⟩
      simp only [smf, aD.f]
      rw [if_neg (by decide), if_neg (by decide), if_neg (by decide), if_neg (by decide), e1, Option.bind_some]
      exact e k (by omega)
    | tup _ ts h1 h2 h3 h4 =>
      obtain ⟨r, p', ⟨K, e⟩, hb, hr'⟩ := some_l0 n ts h2 l s 5 0 0 0 (fun t ht p hp => ih (h3 t ht) hp) ts.length 0 p [] (by omega) (by simp) hr (by simp)
      refine ⟨r, p', ⟨K + 1, fun k hk => ?_⟩, hb, hr'⟩
      obtain ⟨k, rfl⟩ : ∃ j, k = j + 1 := ⟨k - 1, by omega⟩
      simp only [smf, aD.f]
      rw [if_pos trivial]
      exact e k (by omega)
    | lst _ m x h1 h2 h3 h4 =>
      have em : wrap64 (m + 1) = m + 1 := by unfold wrap64; omega
      obtain ⟨c, p1, e1, hr1, b1, b2, _⟩ := CK (s := s) (a := m + 1) hr (by omega)
      have b2 := b2 (by omega)
      obtain ⟨r, p', ⟨K, e⟩, hb, hr'⟩ := some_l1 n x l s 6 0 0 m (fun p hp => ih h3 hp) c.toNat p1 [] (by simp; omega) hr1 (by simp)
      refine ⟨r, p', ⟨K + 1, fun k hk => ?_⟩, hb, hr'⟩
      obtain ⟨k, rfl⟩ : ∃ j, k = j + 1 := ⟨k - 1, by omega⟩
      have e' := e k (by omega)
      dsimp only at e'
      simp only [smf, aD.f]
      rw [if_neg (by decide), if_pos trivial, em, e1, Option.bind_some]
      dsimp only
      rw [show c = (c.toNat : Int) from by omega]
      exact e'

end Go.Proofs.YtggelekooacmnaaDoor.Pure
set_option linter.unusedVariables false
set_option linter.unusedSimpArgs false
namespace Go.Proofs.YtggelekooacmnaaDoor.Pure
open Go.RowKit Go.Proofs.YtggelekooacmnaaDoor.Q Go.Proofs.YtggelekooacmnaaDoorW.bg Go.Proofs.YtggelekooacmnaaDoorW.bP Go.Proofs.YtggelekooacmnaaDoorW.bX
-- texts of types: one text, one type
theorem Oe (p : UInt8 → Bool) : ∀ (l l' r r' : List UInt8), (∀ x ∈ l, p x = true) → (∀ x ∈ l', p x = true) → (∀ x, r.head? = some x → p x = false) → (∀ x, r'.head? = some x → p x = false) → l ++ r = l' ++ r' → l = l' ∧ r = r'
  | [], [], r, r', _, _, _, _, h => ⟨rfl, h⟩
  | [], y :: l', r, r', _, h2, h3, _, h => by
    have : r.head? = some y := by rw [List.nil_append] at h; rw [h]; rfl
    have h5 := h3 y this
    rw [h2 y List.mem_cons_self] at h5; cases h5
  | x :: l, [], r, r', h1, _, _, h4, h => by
    have : r'.head? = some x := by rw [List.nil_append] at h; rw [← h]; rfl
    have h5 := h4 x this
    rw [h1 x List.mem_cons_self] at h5; cases h5
  | x :: l, y :: l', r, r', h1, h2, h3, h4, h => by
    simp only [List.cons_append, List.cons.injEq] at h
    obtain ⟨rfl, h⟩ := h
    obtain ⟨rfl, hr⟩ := Oe p l l' r r' (fun x hx => h1 x (List.mem_cons_of_mem _ hx)) (fun x hx => h2 x (List.mem_cons_of_mem _ hx)) h3 h4 h
    exact ⟨rfl, hr⟩
def valD (l : List UInt8) : Nat := l.foldl (fun a d => a * 10 + (d.toNat - 48)) 0
theorem Yc (l : List UInt8) (d : UInt8) : valD (l ++ [d]) = valD l * 10 + (d.toNat - 48) := by simp [valD]
theorem De {i : Nat} (h : i < 10) : (UInt8.ofNat (48 + i)).toNat = 48 + i := by
  rw [UInt8.toNat_ofNat']; exact Nat.mod_eq_of_lt (by omega)
theorem JN (u : Nat) : valD (Go.Lib.decDigits u) = u := by
  induction u using Nat.strongRecOn with
  | _ u ih =>
    by_cases h : u < 10
    · rw [Go.Lib.decDigits, dif_pos h]
      show (0 * 10 + ((UInt8.ofNat (48 + u)).toNat - 48)) = u
      rw [De h]; omega
    · rw [Go.Lib.decDigits, dif_neg h, Yc, ih (u / 10) (by omega), De (by omega)]; omega
theorem JO (u : Nat) : ∀ x ∈ Go.Lib.decDigits u, 48 ≤ x.toNat ∧ x.toNat ≤ 57 := by
  induction u using Nat.strongRecOn with
  | _ u ih =>
    intro x hx
    by_cases h : u < 10
    · rw [Go.Lib.decDigits, dif_pos h, List.mem_singleton] at hx
      subst hx; rw [De h]; omega
    · rw [Go.Lib.decDigits, dif_neg h, List.mem_append, List.mem_singleton] at hx
      rcases hx with hx | rfl
      · exact ih (u / 10) (by omega) x hx
      · rw [De (by omega)]; omega
theorem TZ {a b : Int} (h : Go.Lib.itoa a = Go.Lib.itoa b) : a = b := by
  unfold Go.Lib.itoa at h
  have no45 : ∀ u l, (45 : UInt8) :: l ≠ Go.Lib.decDigits u := by
    intro u l e
    have := JO u 45 (by rw [← e]; exact List.mem_cons_self)
    have h45 : (45 : UInt8).toNat = 45 := rfl
    omega
  by_cases ha : a < 0 <;> by_cases hb : b < 0
  · rw [if_pos ha, if_pos hb] at h
    have := congrArg valD (List.cons.inj h).2
    rw [JN, JN] at this; omega
  · rw [if_pos ha, if_neg hb] at h; exact absurd h (no45 _ _)
  · rw [if_neg ha, if_pos hb] at h; exact absurd h.symm (no45 _ _)
  · rw [if_neg ha, if_neg hb] at h
    have := congrArg valD h
    rw [JN, JN] at this; omega
/-- a numeral's bytes -/
def isNum (x : UInt8) : Bool := x == 45 || decide (48 ≤ x.toNat ∧ x.toNat ≤ 57)
theorem Gm (a : Int) : ∀ x ∈ Go.Lib.itoa a, isNum x = true := by
  intro x hx
  unfold Go.Lib.itoa at hx
  unfold isNum
  split at hx
  · rcases List.mem_cons.1 hx with h | h
    · subst h; rfl
    · rw [decide_eq_true (JO _ _ h)]; simp
  · rw [decide_eq_true (JO _ _ hx)]; simp
theorem KH {a b : Int} {c d : UInt8} {r r' : List UInt8} (hc : isNum c = false) (hd : isNum d = false) (h : Go.Lib.itoa a ++ c :: r = Go.Lib.itoa b ++ d :: r') : a = b ∧ c = d ∧ r = r' := by
  obtain ⟨h1, h2⟩ := Oe isNum _ _ _ _ (Gm a) (Gm b) (by intro x hx; simp at hx; rw [← hx]; exact hc) (by intro x hx; simp at hx; rw [← hx]; exact hd) h
  injection h2 with h2 h3
  exact ⟨TZ h1, h2, h3⟩
/-- texts with ', ' between them -/
def jG : List (List UInt8) → List UInt8
  | [] => []
  | [x] => x
  | x :: y :: l => x ++ 44 :: 32 :: jG (y :: l)
/-- a type's text -/
def txT : Nat → S24 → List UInt8
  | 0, _ => []
  | n + 1, t => if t.f0 = 1 then [98, 111, 111, 108] else if t.f0 = 2 then 105 :: 110 :: 116 :: 91 :: (Go.Lib.itoa t.f1 ++ 44 :: 32 :: (Go.Lib.itoa t.f2 ++ [93])) else if t.f0 = 3 then [110, 97, 116] else if t.f0 = 4 then [114, 101, 97, 108]
    else if t.f0 = 6 then 108 :: 105 :: 115 :: 116 :: 91 :: (Go.Lib.itoa t.f3 ++ 93 :: 32 :: txT n (ag t.f4 0)) else 40 :: (jG (t.f4.map (txT n)) ++ [41])
theorem Ua {α : Type} {f : α → List UInt8} {P : α → Prop} (ih : ∀ {x y : α} (r r' : List UInt8), P x → P y → f x ++ r = f y ++ r' → x = y ∧ r = r') (e : UInt8) (he : e ≠ 44) : ∀ (l l' : List α), l ≠ [] → l' ≠ [] → (∀ x ∈ l, P x) → (∀ x ∈ l', P x) → ∀ r r', jG (l.map f) ++ e :: r = jG (l'.map f) ++ e :: r' → l = l' ∧ r = r'
  | [], _, h, _, _, _, _, _, _ => absurd rfl h
  | _, [], _, h, _, _, _, _, _ => absurd rfl h
  | [x], [y], _, _, hx, hy, r, r', h => by
    simp only [List.map_cons, List.map_nil, jG] at h
    obtain ⟨h1, h2⟩ := ih _ _ (hx x List.mem_cons_self) (hy y List.mem_cons_self) h
    injection h2 with _ h2
    exact ⟨by rw [h1], h2⟩
  | [x], y :: z :: l', _, _, hx, hy, r, r', h => by
    simp only [List.map_cons, List.map_nil, jG, List.append_assoc, List.cons_append] at h
    obtain ⟨_, h2⟩ := ih _ _ (hx x List.mem_cons_self) (hy y List.mem_cons_self) h
    injection h2 with h2 _
    exact absurd h2 he
  | x :: w :: l, [y], _, _, hx, hy, r, r', h => by
    simp only [List.map_cons, List.map_nil, jG, List.append_assoc, List.cons_append] at h
    obtain ⟨_, h2⟩ := ih _ _ (hx x List.mem_cons_self) (hy y List.mem_cons_self) h
    injection h2 with h2 _
    exact absurd h2.symm he
  | x :: w :: l, y :: z :: l', _, _, hx, hy, r, r', h => by
    simp only [List.map_cons, jG, List.append_assoc, List.cons_append] at h
    obtain ⟨h1, h2⟩ := ih _ _ (hx x List.mem_cons_self) (hy y List.mem_cons_self) h
    injection h2 with _ h2
    injection h2 with _ h2
    obtain ⟨h3, h4⟩ := Ua ih e he (w :: l) (z :: l') (by simp) (by simp) (fun a ha => hx a (List.mem_cons_of_mem _ ha)) (fun a ha => hy a (List.mem_cons_of_mem _ ha)) r r' h2
    exact ⟨by rw [h1, h3], h4⟩
theorem txT_inj (n : Nat) : ∀ {t u : S24} (r r' : List UInt8), Vt n t → Vt n u → txT n t ++ r = txT n u ++ r' → t = u ∧ r = r' := by
  induction n with
  | zero => intro t u r r' h; cases h
  | succ n ih =>
    intro t u r r' ht hu h
    have n44 : isNum 44 = false := by decide
    have n93 : isNum 93 = false := by decide
    cases ht with
    | bool => cases hu <;> simp [txT] at h <;> exact ⟨rfl, h⟩
    | nat => cases hu <;> simp [txT] at h <;> exact ⟨rfl, h⟩
    | real => cases hu <;> simp [txT] at h <;> exact ⟨rfl, h⟩
    | int _ lo hi h1 h2 h3 =>
      cases hu with
      | int _ lo' hi' g1 g2 g3 =>
        simp only [txT] at h
        rw [if_neg (by omega), if_pos trivial, if_neg (by omega), if_pos trivial] at h
        simp only [List.cons_append, List.append_assoc, List.cons.injEq, true_and] at h
        obtain ⟨e1, _, e2⟩ := KH n44 n44 h
        injection e2 with _ e2
        obtain ⟨e3, _, e4⟩ := KH n93 n93 e2
        subst e1; subst e3
        exact ⟨rfl, by simpa using e4⟩
      | bool => simp [txT] at h
      | nat => simp [txT] at h
      | real => simp [txT] at h
      | tup => simp [txT] at h
      | lst => simp [txT] at h
    | lst _ m x h1 h2 h3 h4 =>
      cases hu with
      | lst _ m' x' g1 g2 g3 g4 =>
        simp only [txT] at h
        rw [if_neg (by omega), if_neg (by omega), if_neg (by omega), if_neg (by omega), if_pos trivial, if_neg (by omega), if_neg (by omega), if_neg (by omega), if_neg (by omega), if_pos trivial] at h
        simp only [List.cons_append, List.append_assoc, List.cons.injEq, true_and] at h
        obtain ⟨e1, _, e2⟩ := KH n93 n93 h
        injection e2 with _ e2
        obtain ⟨e3, e4⟩ := ih r r' (show Vt n (ag [x] 0) from h3) (show Vt n (ag [x'] 0) from g3) e2
        have e5 : x = x' := e3
        subst e1; subst e5
        exact ⟨rfl, e4⟩
      | bool => simp [txT] at h
      | int => simp [txT] at h
      | nat => simp [txT] at h
      | real => simp [txT] at h
      | tup => simp [txT] at h
    | tup _ l h1 h2 h3 h4 =>
      cases hu with
      | tup _ l' g1 g2 g3 g4 =>
        simp only [txT] at h
        rw [if_neg (by omega), if_neg (by omega), if_neg (by omega), if_neg (by omega), if_neg (by omega), if_neg (by omega), if_neg (by omega), if_neg (by omega), if_neg (by omega), if_neg (by omega)] at h
        simp only [List.cons_append, List.append_assoc, List.cons.injEq, true_and, List.nil_append] at h
        obtain ⟨e1, e2⟩ := Ua (P := Vt n) (fun r r' hx hy => ih r r' hx hy) 41 (by decide) l l' (by intro e; rw [e] at h1; simp at h1) (by intro e; rw [e] at g1; simp at g1) h3 g3 r r' h
        subst e1
        exact ⟨rfl, e2⟩
      | bool => simp [txT] at h
      | int => simp [txT] at h
      | nat => simp [txT] at h
      | real => simp [txT] at h
      | lst => simp [txT] at h

-- values: one text, one value; one list of cells, one value
theorem txT_at {n : Nat} {x : S24} : ag [x] 0 = x := by unfold ag; rfl
/-- a value's text -/
def txV : Nat → S24 → S51 → List UInt8
  | 0, _, _ => []
  | n + 1, t, v => if t.f0 = 5 then 40 :: (jG (List.zipWith (txV n) t.f4 v.f1) ++ [41]) else if t.f0 = 6 then 91 :: (jG (v.f1.map (txV n (ag t.f4 0))) ++ [93])
    else if t.f0 = 1 then (if v.f0 = 1 then [116, 114, 117, 101] else [102, 97, 108, 115, 101]) else Go.Lib.itoa v.f0
/-- what may stand behind a value's text -/
def Stop (r : List UInt8) : Prop := ∀ x, r.head? = some x → isNum x = false
theorem mU {c : UInt8} {r : List UInt8} (h : isNum c = false) : Stop (c :: r) := by intro x hx; simp at hx; rw [← hx]; exact h
theorem SV {a b : Int} {r r' : List UInt8} (h1 : Stop r) (h2 : Stop r') (h : Go.Lib.itoa a ++ r = Go.Lib.itoa b ++ r') : a = b ∧ r = r' := by
  obtain ⟨h3, h4⟩ := Oe isNum _ _ _ _ (Gm a) (Gm b) h1 h2 h
  exact ⟨TZ h3, h4⟩
theorem zip_inj {f : S24 → S51 → List UInt8} {P : S24 → S51 → Prop} (e : UInt8) (he : e ≠ 44) (hn : isNum e = false) : ∀ (ts : List S24) (vs ws : List S51), vs.length = ts.length → ws.length = ts.length → ts ≠ [] →
    (∀ t ∈ ts, ∀ {x y : S51} (r r' : List UInt8), P t x → P t y → Stop r → Stop r' → f t x ++ r = f t y ++ r' → x = y ∧ r = r') → (∀ (i : Nat) (h : i < ts.length) (h' : i < vs.length), P ts[i] vs[i]) → (∀ (i : Nat) (h : i < ts.length) (h' : i < ws.length), P ts[i] ws[i]) →
    ∀ r r', jG (List.zipWith f ts vs) ++ e :: r = jG (List.zipWith f ts ws) ++ e :: r' → vs = ws ∧ r = r'
  | [], _, _, _, _, h, _, _, _, _, _, _ => absurd rfl h
  | [t], [x], [y], _, _, _, ih, hx, hy, r, r', h => by
    simp only [List.zipWith_cons_cons, List.zipWith_nil_left, jG] at h
    obtain ⟨h1, h2⟩ := ih t List.mem_cons_self _ _ (hx 0 (by simp) (by simp)) (hy 0 (by simp) (by simp)) (mU hn) (mU hn) h
    injection h2 with _ h2
    have h1 : x = y := h1
    exact ⟨by rw [h1], h2⟩
  | t :: u :: ts, x :: w :: vs, y :: z :: ws, l1, l2, _, ih, hx, hy, r, r', h => by
    simp only [List.zipWith_cons_cons, jG, List.append_assoc, List.cons_append] at h
    obtain ⟨h1, h2⟩ := ih t List.mem_cons_self _ _ (hx 0 (by simp) (by simp)) (hy 0 (by simp) (by simp)) (mU (by decide)) (mU (by decide)) h
    injection h2 with _ h2
    injection h2 with _ h2
    obtain ⟨h3, h4⟩ := zip_inj e he hn (u :: ts) (w :: vs) (z :: ws) (by simpa using l1) (by simpa using l2) (by simp) (fun q hq => ih q (List.mem_cons_of_mem _ hq)) (fun i h h' => hx (i + 1) (by simpa using h) (by simpa using h')) (fun i h h' => hy (i + 1) (by simpa using h) (by simpa using h')) r r' (by simpa only [List.zipWith_cons_cons] using h2)
    have h1 : x = y := h1
    exact ⟨by rw [h1, h3], h4⟩
  | [t], [], _, h, _, _, _, _, _, _, _, _ => by simp at h
  | [t], _ :: _ :: _, _, h, _, _, _, _, _, _, _, _ => by simp at h
  | [t], [_], [], _, h, _, _, _, _, _, _, _ => by simp at h
  | [t], [_], _ :: _ :: _, _, h, _, _, _, _, _, _, _ => by simp at h
  | t :: u :: ts, [], _, h, _, _, _, _, _, _, _, _ => by simp at h
  | t :: u :: ts, [_], _, h, _, _, _, _, _, _, _, _ => by simp at h
  | t :: u :: ts, _ :: _ :: _, [], _, h, _, _, _, _, _, _, _ => by simp at h
  | t :: u :: ts, _ :: _ :: _, [_], _, h, _, _, _, _, _, _, _ => by simp at h
theorem map_inj {f : S51 → List UInt8} {P : S51 → Prop} (e : UInt8) (he : e ≠ 44) (hn : isNum e = false) (hs : ∀ x, P x → ∃ c r, f x = c :: r ∧ c ≠ e) (ih : ∀ {x y : S51} (r r' : List UInt8), P x → P y → Stop r → Stop r' → f x ++ r = f y ++ r' → x = y ∧ r = r') : ∀ (vs ws : List S51), (∀ x ∈ vs, P x) → (∀ x ∈ ws, P x) →
    ∀ r r', jG (vs.map f) ++ e :: r = jG (ws.map f) ++ e :: r' → vs = ws ∧ r = r'
  | [], [], _, _, r, r', h => by
    simp only [List.map_nil, jG, List.nil_append, List.cons.injEq, true_and] at h
    exact ⟨rfl, h⟩
  | [], y :: ws, _, hy, r, r', h => by
    obtain ⟨c, q, h1, h2⟩ := hs y (hy y List.mem_cons_self)
    exfalso
    cases ws with
    | nil =>
      simp only [List.map_cons, List.map_nil, jG, h1, List.nil_append, List.cons_append, List.cons.injEq] at h
      exact h2 h.1.symm
    | cons z ws =>
      simp only [List.map_cons, List.map_nil, jG, h1, List.nil_append, List.cons_append, List.cons.injEq] at h
      exact h2 h.1.symm
  | x :: vs, [], hx, _, r, r', h => by
    obtain ⟨c, q, h1, h2⟩ := hs x (hx x List.mem_cons_self)
    exfalso
    cases vs with
    | nil =>
      simp only [List.map_cons, List.map_nil, jG, h1, List.nil_append, List.cons_append, List.cons.injEq] at h
      exact h2 h.1
    | cons z vs =>
      simp only [List.map_cons, List.map_nil, jG, h1, List.nil_append, List.cons_append, List.cons.injEq] at h
      exact h2 h.1
  | [x], [y], hx, hy, r, r', h => by
    simp only [List.map_cons, List.map_nil, jG] at h
    obtain ⟨h1, h2⟩ := ih _ _ (hx x List.mem_cons_self) (hy y List.mem_cons_self) (mU hn) (mU hn) h
    injection h2 with _ h2
    exact ⟨by rw [h1], h2⟩
  | [x], y :: z :: ws, hx, hy, r, r', h => by
    simp only [List.map_cons, List.map_nil, jG, List.append_assoc, List.cons_append] at h
    obtain ⟨_, h2⟩ := ih _ _ (hx x List.mem_cons_self) (hy y List.mem_cons_self) (mU hn) (mU (by decide)) h
    injection h2 with h2 _
    exact absurd h2 he
  | x :: w :: vs, [y], hx, hy, r, r', h => by
    simp only [List.map_cons, List.map_nil, jG, List.append_assoc, List.cons_append] at h
    obtain ⟨_, h2⟩ := ih _ _ (hx x List.mem_cons_self) (hy y List.mem_cons_self) (mU (by decide)) (mU hn) h
    injection h2 with h2 _
    exact absurd h2.symm he
  | x :: w :: vs, y :: z :: ws, hx, hy, r, r', h => by
    simp only [List.map_cons, jG, List.append_assoc, List.cons_append] at h
    obtain ⟨h1, h2⟩ := ih _ _ (hx x List.mem_cons_self) (hy y List.mem_cons_self) (mU (by decide)) (mU (by decide)) h
    injection h2 with _ h2
    injection h2 with _ h2
    obtain ⟨h3, h4⟩ := map_inj e he hn hs ih (w :: vs) (z :: ws) (fun a ha => hx a (List.mem_cons_of_mem _ ha)) (fun a ha => hy a (List.mem_cons_of_mem _ ha)) r r' (by simpa only [List.map_cons] using h2)
    exact ⟨by rw [h1, h3], h4⟩
theorem dec_ne (u : Nat) : Go.Lib.decDigits u ≠ [] := by
  intro e
  rw [Go.Lib.decDigits] at e
  split at e <;> simp at e
theorem Yd (a : Int) : ∃ c r, Go.Lib.itoa a = c :: r ∧ isNum c = true := by
  have hne : Go.Lib.itoa a ≠ [] := by
    unfold Go.Lib.itoa
    split
    · simp
    · exact dec_ne _
  obtain ⟨c, r, e⟩ := List.exists_cons_of_ne_nil hne
  exact ⟨c, r, e, Gm a c (by rw [e]; exact List.mem_cons_self)⟩
theorem veq {v w : S51} (h0 : v.f0 = w.f0) (h1 : v.f1 = w.f1) : v = w := by cases v; cases w; simp only at h0 h1; rw [h0, h1]
/-- a leaf's text -/
theorem Ub {n : Nat} {x : S24} (h4 : x.f0 = 1 ∨ x.f0 = 2) {v w : S51} (hv : chk (n + 1) x v = 0) (hw : chk (n + 1) x w = 0) {r r' : List UInt8} (h1 : Stop r) (h2 : Stop r') (h : txV (n + 1) x v ++ r = txV (n + 1) x w ++ r') : v = w ∧ r = r' := by
  obtain ⟨a1, a2, _, _⟩ := oP (by omega) (by omega) hv
  obtain ⟨b1, b2, _, _⟩ := oP (by omega) (by omega) hw
  have h5 : ¬ x.f0 = 5 := by omega
  have h6 : ¬ x.f0 = 6 := by omega
  simp only [txV, if_neg h5, if_neg h6] at h
  rcases h4 with h4 | h4
  · simp only [if_pos h4] at h
    have c1 := a2 h4
    have c2 := b2 h4
    by_cases d1 : v.f0 = 1 <;> by_cases d2 : w.f0 = 1
    · rw [if_pos d1, if_pos d2] at h
      exact ⟨veq (by omega) (a1.trans b1.symm), by simpa using h⟩
    · rw [if_pos d1, if_neg d2] at h; simp at h
    · rw [if_neg d1, if_pos d2] at h; simp at h
    · rw [if_neg d1, if_neg d2] at h
      exact ⟨veq (by omega) (a1.trans b1.symm), by simpa using h⟩
  · have h7 : ¬ x.f0 = 1 := by omega
    simp only [if_neg h7] at h
    obtain ⟨e1, e2⟩ := SV h1 h2 h
    exact ⟨veq e1 (a1.trans b1.symm), e2⟩
theorem txV_inj (n : Nat) : ∀ {t : S24} {v w : S51} (r r' : List UInt8), Vt n t → t.f0 ≠ 4 → chk n t v = 0 → chk n t w = 0 → Stop r → Stop r' → txV n t v ++ r = txV n t w ++ r' → v = w ∧ r = r' := by
  induction n with
  | zero => intro t v w r r' h; cases h
  | succ n ih =>
    intro t v w r r' ht ht4 hv hw h1 h2 h
    cases ht with
    | bool => exact Ub (.inl rfl) hv hw h1 h2 h
    | int _ lo hi g1 g2 g3 => exact Ub (.inr rfl) hv hw h1 h2 h
    | nat =>
      obtain ⟨a1, _⟩ := oP (by simp) (by simp) hv
      obtain ⟨b1, _⟩ := oP (by simp) (by simp) hw
      simp [txV] at h
      obtain ⟨e1, e2⟩ := SV h1 h2 h
      exact ⟨veq e1 (a1.trans b1.symm), e2⟩
    | real => exact absurd rfl ht4
    | tup _ l g1 g2 g3 g4 =>
      obtain ⟨a0, a1, a2⟩ := yc hv
      obtain ⟨b0, b1, b2⟩ := yc hw
      simp only [txV] at h
      rw [if_pos trivial, if_pos trivial] at h
      simp only [List.cons_append, List.append_assoc, List.cons.injEq, true_and, List.nil_append] at h
      obtain ⟨e1, e2⟩ := zip_inj (P := fun t x => chk n t x = 0) 41 (by decide) (by decide) l v.f1 w.f1 a1 b1 (by intro e; rw [e] at g1; simp at g1) (fun t ht x y r r' hx hy s1 s2 hh => ih r r' (g3 t ht) (g4 t ht).2 hx hy s1 s2 hh) a2 b2 r r' h
      exact ⟨veq (a0.trans b0.symm) e1, e2⟩
    | lst _ m x g1 g2 g3 g4 =>
      obtain ⟨a0, a1, a2⟩ := yf hv
      obtain ⟨b0, b1, b2⟩ := yf hw
      simp only [txV] at h
      rw [if_neg (by omega), if_pos trivial, if_neg (by omega), if_pos trivial, txT_at (n := n)] at h
      simp only [List.cons_append, List.append_assoc, List.cons.injEq, true_and, List.nil_append] at h
      obtain ⟨k, rfl⟩ : ∃ k, n = k + 1 := by
        cases n with
        | zero => cases g3
        | succ k => exact ⟨k, rfl⟩
      obtain ⟨e1, e2⟩ := map_inj (P := fun y => chk (k + 1) x y = 0) 93 (by decide) (by decide) (fun y hy => by
          simp only [txV]
          rw [if_neg (by omega), if_neg (by omega)]
          rcases g4 with g4 | g4
          · rw [if_pos g4]
            split
            · exact ⟨_, _, rfl, by decide⟩
            · exact ⟨_, _, rfl, by decide⟩
          · rw [if_neg (by omega)]
            obtain ⟨c, q, e, hc⟩ := Yd y.f0
            exact ⟨c, q, e, fun e' => by rw [e'] at hc; exact absurd hc (by decide)⟩) (fun r r' hx hy s1 s2 hh => ih r r' g3 (by omega) hx hy s1 s2 hh) v.f1 w.f1 a2 b2 r r' h
      exact ⟨veq (a0.trans b0.symm) e1, e2⟩
theorem txV_eq {n : Nat} {t : S24} {v w : S51} (ht : Vt n t) (h4 : t.f0 ≠ 4) (hv : chk n t v = 0) (hw : chk n t w = 0) : txV n t v = txV n t w ↔ v = w := by
  constructor
  · intro h
    exact (txV_inj n [] [] ht h4 hv hw (by intro x hx; cases hx) (by intro x hx; cases hx) (by rw [h])).1
  · intro h; rw [h]
/-- the same cells: the same value -/
theorem cel_inj (n : Nat) : ∀ {t : S24} {v w : S51} (r r' : List Int), Vt n t → chk n t v = 0 → chk n t w = 0 → cel n t v ++ r = cel n t w ++ r' → v = w ∧ r = r' := by
  induction n with
  | zero => intro t v w r r' h; cases h
  | succ n ih =>
    intro t v w r r' ht hv hw h
    have leaf : ∀ (t : S24), t.f0 ≠ 5 → t.f0 ≠ 6 → chk (n + 1) t v = 0 → chk (n + 1) t w = 0 → cel (n + 1) t v ++ r = cel (n + 1) t w ++ r' → v = w ∧ r = r' := by
      intro t h5 h6 hv hw h
      obtain ⟨a1, _⟩ := oP h5 h6 hv
      obtain ⟨b1, _⟩ := oP h5 h6 hw
      simp only [cel, if_neg h5, if_neg h6, List.cons_append, List.nil_append, List.cons.injEq] at h
      exact ⟨veq h.1 (a1.trans b1.symm), h.2⟩
    cases ht with
    | bool => exact leaf _ (by simp) (by simp) hv hw h
    | int _ lo hi g1 g2 g3 => exact leaf _ (by simp) (by simp) hv hw h
    | nat => exact leaf _ (by simp) (by simp) hv hw h
    | real => exact leaf _ (by simp) (by simp) hv hw h
    | tup _ l g1 g2 g3 g4 =>
      obtain ⟨a0, a1, a2⟩ := yc hv
      obtain ⟨b0, b1, b2⟩ := yc hw
      have key : ∀ (ts : List S24) (vs ws : List S51), vs.length = ts.length → ws.length = ts.length → (∀ t ∈ ts, Vt n t) → (∀ (i : Nat) (h : i < ts.length) (h' : i < vs.length), chk n ts[i] vs[i] = 0) → (∀ (i : Nat) (h : i < ts.length) (h' : i < ws.length), chk n ts[i] ws[i] = 0) → rR (cel n) ts vs ++ r = rR (cel n) ts ws ++ r' → vs = ws ∧ r = r' := by
        intro ts
        induction ts with
        | nil =>
          intro vs ws l1 l2 _ _ _ h
          obtain rfl : vs = [] := List.eq_nil_of_length_eq_zero (by simpa using l1)
          obtain rfl : ws = [] := List.eq_nil_of_length_eq_zero (by simpa using l2)
          exact ⟨rfl, by simpa [rR] using h⟩
        | cons t ts iht =>
          intro vs ws l1 l2 hp hx hy h
          match vs, ws, l1, l2, hx, hy, h with
          | x :: vs, y :: ws, l1, l2, hx, hy, h =>
            simp only [rR, List.append_assoc] at h
            obtain ⟨h3, h4⟩ := ih _ _ (hp t List.mem_cons_self) (hx 0 (by simp) (by simp)) (hy 0 (by simp) (by simp)) h
            obtain ⟨h5, h6⟩ := iht vs ws (by simpa using l1) (by simpa using l2) (fun q hq => hp q (List.mem_cons_of_mem _ hq)) (fun i h h' => hx (i + 1) (by simpa using h) (by simpa using h')) (fun i h h' => hy (i + 1) (by simpa using h) (by simpa using h')) h4
            have h3 : x = y := h3
            exact ⟨by rw [h3, h5], h6⟩
          | [], _, l1, _, _, _, _ => simp at l1
          | _ :: _, [], _, l2, _, _, _ => simp at l2
      simp only [cel, if_pos] at h
      obtain ⟨e1, e2⟩ := key l v.f1 w.f1 a1 b1 g3 a2 b2 h
      exact ⟨veq (a0.trans b0.symm) e1, e2⟩
    | lst _ m x g1 g2 g3 g4 =>
      obtain ⟨a0, a1, a2⟩ := yf hv
      obtain ⟨b0, b1, b2⟩ := yf hw
      simp only [cel] at h
      rw [if_neg (by omega), if_pos trivial, if_neg (by omega), if_pos trivial] at h
      simp only [List.cons_append, List.append_assoc, List.cons.injEq] at h
      obtain ⟨h1, h2⟩ := h
      obtain ⟨h3, h4⟩ := List.append_inj h2 (by simp; omega)
      obtain ⟨k, rfl⟩ : ∃ k, n = k + 1 := by
        cases n with
        | zero => cases g3
        | succ k => exact ⟨k, rfl⟩
      have e : v.f1 = w.f1 := by
        refine List.ext_getElem (by omega) fun i i1 i2 => ?_
        have h5 : (v.f1.map (fun x => x.f0))[i]? = (w.f1.map (fun x => x.f0))[i]? := by rw [h3]
        rw [List.getElem?_map, List.getElem?_map, List.getElem?_eq_getElem i1, List.getElem?_eq_getElem i2] at h5
        obtain ⟨c1, _⟩ := oP (by omega) (by omega) (a2 _ (List.getElem_mem i1))
        obtain ⟨c2, _⟩ := oP (by omega) (by omega) (b2 _ (List.getElem_mem i2))
        exact veq (by simpa using h5) (c1.trans c2.symm)
      rw [e] at h4
      exact ⟨veq (a0.trans b0.symm) e, List.append_cancel_left h4⟩
theorem cel_eq {n : Nat} {t : S24} {v w : S51} (ht : Vt n t) (hv : chk n t v = 0) (hw : chk n t w = 0) : cel n t v = cel n t w ↔ v = w := by
  constructor
  · intro h
    exact (cel_inj n [] [] ht hv hw (by rw [h])).1
  · intro h; rw [h]

-- the lexicographic order of lists of numbers
def cmpL : List Int → List Int → Int
  | [], [] => 0
  | [], _ :: _ => -1
  | _ :: _, [] => 1
  | a :: l, b :: m => if a < b then -1 else if b < a then 1 else cmpL l m
theorem Uc : ∀ (l m : List Int), cmpL l m = -cmpL m l
  | [], [] => rfl
  | [], _ :: _ => rfl
  | _ :: _, [] => rfl
  | a :: l, b :: m => by
    simp only [cmpL]
    by_cases h1 : a < b
    · rw [if_pos h1, if_neg (by omega), if_pos h1]
    · by_cases h2 : b < a
      · rw [if_neg h1, if_pos h2, if_pos h2]; rfl
      · rw [if_neg h1, if_neg h2, if_neg h2, if_neg h1]
        exact Uc l m
theorem SX : ∀ {l m : List Int}, cmpL l m = 0 ↔ l = m
  | [], [] => by simp [cmpL]
  | [], _ :: _ => by simp [cmpL]
  | _ :: _, [] => by simp [cmpL]
  | a :: l, b :: m => by
    simp only [cmpL]
    by_cases h1 : a < b
    · rw [if_pos h1]; simp; omega
    · by_cases h2 : b < a
      · rw [if_neg h1, if_pos h2]; simp; omega
      · rw [if_neg h1, if_neg h2, SX]
        have : a = b := by omega
        simp [this]
theorem JP : ∀ (l m : List Int), -1 ≤ cmpL l m ∧ cmpL l m ≤ 1
  | [], [] => by simp [cmpL]
  | [], _ :: _ => by simp [cmpL]
  | _ :: _, [] => by simp [cmpL]
  | a :: l, b :: m => by
    simp only [cmpL]
    have := JP l m
    split
    · omega
    · split <;> omega
theorem Qj : ∀ {l m k : List Int}, cmpL l m ≤ 0 → cmpL m k ≤ 0 → cmpL l k ≤ 0
  | [], _, [], _, _ => by simp [cmpL]
  | [], _, _ :: _, _, _ => by simp [cmpL]
  | _ :: _, [], _, h, _ => by simp [cmpL] at h
  | _ :: _, _ :: _, [], _, h => by simp [cmpL] at h
  | a :: l, b :: m, c :: k, h1, h2 => by
    simp only [cmpL] at h1 h2 ⊢
    by_cases c1 : a < b
    · by_cases c2 : b < c
      · rw [if_pos (by omega)]; omega
      · by_cases c3 : c < b
        · rw [if_neg c2, if_pos c3] at h2; omega
        · rw [if_pos (by omega)]; omega
    · by_cases c1' : b < a
      · rw [if_neg c1, if_pos c1'] at h1; omega
      · by_cases c2 : b < c
        · rw [if_pos (by omega)]; omega
        · by_cases c3 : c < b
          · rw [if_neg c2, if_pos c3] at h2; omega
          · rw [if_neg c1, if_neg c1'] at h1
            rw [if_neg c2, if_neg c3] at h2
            rw [if_neg (by omega), if_neg (by omega)]
            exact Qj h1 h2

end Go.Proofs.YtggelekooacmnaaDoor.Pure
namespace Go.Proofs.YtggelekooacmnaaDoor.Q
open Go.RowKit Go.Proofs.YtggelekooacmnaaDoorW.bg Go.Proofs.YtggelekooacmnaaDoorW.bP Go.Proofs.YtggelekooacmnaaDoorW.bX
attribute [local go_sem] ek eu fw fA dH dI eB eD   -- for this text's walks alone
set_option linter.unusedVariables false
set_option linter.unusedSimpArgs false

/-! ### cmp_isNaN_int: function 93 -/
def cmp_isNaN_int.f (a0 : Int) : Option (Bool) := some (a0 != a0)
set_option maxHeartbeats 8000000 in
set_option maxRecDepth 100000 in
theorem cmp_isNaN_int.calls (a0 : Int) (r : Bool) (w : World) (h : cmp_isNaN_int.f a0 = some r) :
    Calls Tryd.prog 93 #[.int .i64 a0] w fun e w' => e = .returned (.bool r) ∧ dx w w' := by
  have H : (some (a0 != a0)) = some r := h
  clear h
  obtain rfl := Option.some.inj H
  go_enter Tryd.func93, Tryd.ntmps93
  go_wp2
  go_ret
  exact ⟨by first | rfl | (simp; done) | (simp [*]; done), by repeat (first | exact dx.refl _ | apply dx.step)⟩

end Go.Proofs.YtggelekooacmnaaDoor.Q
namespace Go.Proofs.YtggelekooacmnaaDoor.Q
open Go.RowKit Go.Proofs.YtggelekooacmnaaDoorW.bg Go.Proofs.YtggelekooacmnaaDoorW.bP Go.Proofs.YtggelekooacmnaaDoorW.bX
attribute [local go_sem] ek eu fw fA dH dI eB eD   -- for this text's walks alone
set_option linter.unusedVariables false
set_option linter.unusedSimpArgs false

/-! ### cmp_Compare_int: function 80 -/
def cmp_Compare_int.f (a0 : Int) (a1 : Int) : Option (Int) := (cmp_isNaN_int.f a0).bind fun t565 => ((cmp_isNaN_int.f a1).bind fun zu => (if t565 = true then (if zu = true then (some 0) else (some (-1))) else (if zu = true then (some 1) else (if a0 < a1 then (some (-1)) else (if a0 > a1 then (some 1) else (some 0))))))
set_option maxHeartbeats 8000000 in
set_option maxRecDepth 100000 in
theorem cmp_Compare_int.calls (a0 : Int) (a1 : Int) (r : Int) (w : World) (h : cmp_Compare_int.f a0 a1 = some r) :
    Calls Tryd.prog 80 #[.int .i64 a0, .int .i64 a1] w fun e w' => e = .returned (.int .i64 r) ∧ dx w w' := by
  have H : ((cmp_isNaN_int.f a0).bind fun t565 => ((cmp_isNaN_int.f a1).bind fun zu => (if t565 = true then (if zu = true then (some 0) else (some (-1))) else (if zu = true then (some 1) else (if a0 < a1 then (some (-1)) else (if a0 > a1 then (some 1) else (some 0))))))) = some r := h
  clear h
  replace H := Option.bind_eq_some_iff.mp H
  obtain ⟨t565, A30, H⟩ := H
  replace H : ((cmp_isNaN_int.f a1).bind fun zu => (if t565 = true then (if zu = true then (some 0) else (some (-1))) else (if zu = true then (some 1) else (if a0 < a1 then (some (-1)) else (if a0 > a1 then (some 1) else (some 0)))))) = some r := H
  have A3 := aa.mk A30
  clear A30
  replace H := Option.bind_eq_some_iff.mp H
  obtain ⟨zu, A40, H⟩ := H
  replace H : (if t565 = true then (if zu = true then (some 0) else (some (-1))) else (if zu = true then (some 1) else (if a0 < a1 then (some (-1)) else (if a0 > a1 then (some 1) else (some 0))))) = some r := H
  have A4 := aa.mk A40
  clear A40
  by_cases c5 : t565 = true
  · subst c5
    have H1 : (if zu = true then (some 0) else (some (-1))) = some r := by rw [if_pos rfl] at H; exact H
    clear H
    have H := H1
    clear H1
    by_cases c6 : zu = true
    · subst c6
      have H1 : (some 0) = some r := by rw [if_pos rfl] at H; exact H
      clear H
      have H := H1
      clear H1
      obtain rfl := Option.some.inj H
      go_enter Tryd.func80, Tryd.ntmps80
      go_wp2_with (first | ((with_reducible refine aN (f := 93) rfl ?_); refine bJ (some 8) rfl rfl Tryd.func93 (by kernel_rfl) rfl #[.int .i64 a0] rfl (by (try simp only [List.map_toArray, List.map_cons, List.map_nil]); first | done | rfl | (simp only [List.length_drop, List.length_take]; rfl)) ?_; (with_reducible refine (cmp_isNaN_int.calls a0 true _ A3.out).mono ?_); rintro e w' ⟨rfl, ⟨nd, rfl⟩⟩; refine ⟨_, rfl, ?_⟩) | ((with_reducible refine aN (f := 93) rfl ?_); refine bJ (some 10) rfl rfl Tryd.func93 (by kernel_rfl) rfl #[.int .i64 a1] rfl (by (try simp only [List.map_toArray, List.map_cons, List.map_nil]); first | done | rfl | (simp only [List.length_drop, List.length_take]; rfl)) ?_; (with_reducible refine (cmp_isNaN_int.calls a1 true _ A4.out).mono ?_); rintro e w' ⟨rfl, ⟨nd, rfl⟩⟩; refine ⟨_, rfl, ?_⟩))
      go_ret
      exact ⟨by first | rfl | (simp; done) | (simp [*]; done), by repeat (first | exact dx.refl _ | apply dx.step)⟩
    · replace c6 := Bool.eq_false_iff.mpr c6
      subst c6
      have H1 : (some (-1)) = some r := by rw [if_neg (show ¬ (false = true) by decide)] at H; exact H
      clear H
      have H := H1
      clear H1
      obtain rfl := Option.some.inj H
      go_enter Tryd.func80, Tryd.ntmps80
      go_wp2_with (first | ((with_reducible refine aN (f := 93) rfl ?_); refine bJ (some 8) rfl rfl Tryd.func93 (by kernel_rfl) rfl #[.int .i64 a0] rfl (by (try simp only [List.map_toArray, List.map_cons, List.map_nil]); first | done | rfl | (simp only [List.length_drop, List.length_take]; rfl)) ?_; (with_reducible refine (cmp_isNaN_int.calls a0 true _ A3.out).mono ?_); rintro e w' ⟨rfl, ⟨nd, rfl⟩⟩; refine ⟨_, rfl, ?_⟩) | ((with_reducible refine aN (f := 93) rfl ?_); refine bJ (some 10) rfl rfl Tryd.func93 (by kernel_rfl) rfl #[.int .i64 a1] rfl (by (try simp only [List.map_toArray, List.map_cons, List.map_nil]); first | done | rfl | (simp only [List.length_drop, List.length_take]; rfl)) ?_; (with_reducible refine (cmp_isNaN_int.calls a1 false _ A4.out).mono ?_); rintro e w' ⟨rfl, ⟨nd, rfl⟩⟩; refine ⟨_, rfl, ?_⟩))
      go_ret
      exact ⟨by first | rfl | (simp; done) | (simp [*]; done), by repeat (first | exact dx.refl _ | apply dx.step)⟩
  · replace c5 := Bool.eq_false_iff.mpr c5
    subst c5
    have H1 : (if zu = true then (some 1) else (if a0 < a1 then (some (-1)) else (if a0 > a1 then (some 1) else (some 0)))) = some r := by rw [if_neg (show ¬ (false = true) by decide)] at H; exact H
    clear H
    have H := H1
    clear H1
    by_cases c7 : zu = true
    · subst c7
      have H1 : (some 1) = some r := by rw [if_pos rfl] at H; exact H
      clear H
      have H := H1
      clear H1
      obtain rfl := Option.some.inj H
      go_enter Tryd.func80, Tryd.ntmps80
      go_wp2_with (first | ((with_reducible refine aN (f := 93) rfl ?_); refine bJ (some 8) rfl rfl Tryd.func93 (by kernel_rfl) rfl #[.int .i64 a0] rfl (by (try simp only [List.map_toArray, List.map_cons, List.map_nil]); first | done | rfl | (simp only [List.length_drop, List.length_take]; rfl)) ?_; (with_reducible refine (cmp_isNaN_int.calls a0 false _ A3.out).mono ?_); rintro e w' ⟨rfl, ⟨nd, rfl⟩⟩; refine ⟨_, rfl, ?_⟩) | ((with_reducible refine aN (f := 93) rfl ?_); refine bJ (some 10) rfl rfl Tryd.func93 (by kernel_rfl) rfl #[.int .i64 a1] rfl (by (try simp only [List.map_toArray, List.map_cons, List.map_nil]); first | done | rfl | (simp only [List.length_drop, List.length_take]; rfl)) ?_; (with_reducible refine (cmp_isNaN_int.calls a1 true _ A4.out).mono ?_); rintro e w' ⟨rfl, ⟨nd, rfl⟩⟩; refine ⟨_, rfl, ?_⟩))
      go_ret
      exact ⟨by first | rfl | (simp; done) | (simp [*]; done), by repeat (first | exact dx.refl _ | apply dx.step)⟩
    · replace c7 := Bool.eq_false_iff.mpr c7
      subst c7
      have H1 : (if a0 < a1 then (some (-1)) else (if a0 > a1 then (some 1) else (some 0))) = some r := by rw [if_neg (show ¬ (false = true) by decide)] at H; exact H
      clear H
      have H := H1
      clear H1
      by_cases c8 : a0 < a1
      · rw [if_pos c8] at H
        have tV : decide (a0 < a1) = true := decide_eq_true c8
        clear c8
        obtain rfl := Option.some.inj H
        go_enter Tryd.func80, Tryd.ntmps80
        go_wp2_with (first | ((with_reducible refine aN (f := 93) rfl ?_); refine bJ (some 8) rfl rfl Tryd.func93 (by kernel_rfl) rfl #[.int .i64 a0] rfl (by (try simp only [List.map_toArray, List.map_cons, List.map_nil]); first | done | rfl | (simp only [List.length_drop, List.length_take]; rfl)) ?_; (with_reducible refine (cmp_isNaN_int.calls a0 false _ A3.out).mono ?_); rintro e w' ⟨rfl, ⟨nd, rfl⟩⟩; refine ⟨_, rfl, ?_⟩) | ((with_reducible refine aN (f := 93) rfl ?_); refine bJ (some 10) rfl rfl Tryd.func93 (by kernel_rfl) rfl #[.int .i64 a1] rfl (by (try simp only [List.map_toArray, List.map_cons, List.map_nil]); first | done | rfl | (simp only [List.length_drop, List.length_take]; rfl)) ?_; (with_reducible refine (cmp_isNaN_int.calls a1 false _ A4.out).mono ?_); rintro e w' ⟨rfl, ⟨nd, rfl⟩⟩; refine ⟨_, rfl, ?_⟩))
        go_ret
        exact ⟨by first | rfl | (simp; done) | (simp [*]; done), by repeat (first | exact dx.refl _ | apply dx.step)⟩
      · rw [if_neg c8] at H
        have tV : decide (a0 < a1) = false := decide_eq_false c8
        clear c8
        by_cases c9 : a0 > a1
        · rw [if_pos c9] at H
          have vQ : decide (a1 < a0) = true := decide_eq_true c9
          clear c9
          obtain rfl := Option.some.inj H
          go_enter Tryd.func80, Tryd.ntmps80
          go_wp2_with (first | ((with_reducible refine aN (f := 93) rfl ?_); refine bJ (some 8) rfl rfl Tryd.func93 (by kernel_rfl) rfl #[.int .i64 a0] rfl (by (try simp only [List.map_toArray, List.map_cons, List.map_nil]); first | done | rfl | (simp only [List.length_drop, List.length_take]; rfl)) ?_; (with_reducible refine (cmp_isNaN_int.calls a0 false _ A3.out).mono ?_); rintro e w' ⟨rfl, ⟨nd, rfl⟩⟩; refine ⟨_, rfl, ?_⟩) | ((with_reducible refine aN (f := 93) rfl ?_); refine bJ (some 10) rfl rfl Tryd.func93 (by kernel_rfl) rfl #[.int .i64 a1] rfl (by (try simp only [List.map_toArray, List.map_cons, List.map_nil]); first | done | rfl | (simp only [List.length_drop, List.length_take]; rfl)) ?_; (with_reducible refine (cmp_isNaN_int.calls a1 false _ A4.out).mono ?_); rintro e w' ⟨rfl, ⟨nd, rfl⟩⟩; refine ⟨_, rfl, ?_⟩))
          go_ret
          exact ⟨by first | rfl | (simp; done) | (simp [*]; done), by repeat (first | exact dx.refl _ | apply dx.step)⟩
        · rw [if_neg c9] at H
          have vQ : decide (a1 < a0) = false := decide_eq_false c9
          clear c9
          obtain rfl := Option.some.inj H
          go_enter Tryd.func80, Tryd.ntmps80
          go_wp2_with (first | ((with_reducible refine aN (f := 93) rfl ?_); refine bJ (some 8) rfl rfl Tryd.func93 (by kernel_rfl) rfl #[.int .i64 a0] rfl (by (try simp only [List.map_toArray, List.map_cons, List.map_nil]); first | done | rfl | (simp only [List.length_drop, List.length_take]; rfl)) ?_; (with_reducible refine (cmp_isNaN_int.calls a0 false _ A3.out).mono ?_); rintro e w' ⟨rfl, ⟨nd, rfl⟩⟩; refine ⟨_, rfl, ?_⟩) | ((with_reducible refine aN (f := 93) rfl ?_); refine bJ (some 10) rfl rfl Tryd.func93 (by kernel_rfl) rfl #[.int .i64 a1] rfl (by (try simp only [List.map_toArray, List.map_cons, List.map_nil]); first | done | rfl | (simp only [List.length_drop, List.length_take]; rfl)) ?_; (with_reducible refine (cmp_isNaN_int.calls a1 false _ A4.out).mono ?_); rintro e w' ⟨rfl, ⟨nd, rfl⟩⟩; refine ⟨_, rfl, ?_⟩))
          go_ret
          exact ⟨by first | rfl | (simp; done) | (simp [*]; done), by repeat (first | exact dx.refl _ | apply dx.step)⟩

end Go.Proofs.YtggelekooacmnaaDoor.Q
namespace Go.Proofs.YtggelekooacmnaaDoor.Q
open Go.RowKit Go.Proofs.YtggelekooacmnaaDoorW.bg Go.Proofs.YtggelekooacmnaaDoorW.bP Go.Proofs.YtggelekooacmnaaDoorW.bX
attribute [local go_sem] ek eu fw fA dH dI eB eD   -- for this text's walks alone
set_option linter.unusedVariables false
set_option linter.unusedSimpArgs false

/-! ### bK: function 60 -/
def bK.l0 : Nat → List Int → List Int → List Int → Int → Int → Option (Int)
  | 0, _, _, _, _, _ => none
  | k + 1, x0, x1, x9, x10, x11 => if x11 < x10 then (if 0 ≤ x11 then (if x11 < (x9.length : Int) then (if x11 ≥ (x1.length : Int) then (some 1) else (if x11 < (x1.length : Int) then ((cmp_Compare_int.f (rd x9 x11) (rd x1 x11)).bind fun DT => (if DT = 0 then (bK.l0 k x0 x1 x9 x10 (wrap64 (x11 + 1))) else (some DT))) else (none))) else (none)) else (none)) else (if (x0.length : Int) < (x1.length : Int) then (some (-1)) else (some 0))
def bK.f (k : Nat) (l0 : List Int) (l1 : List Int) : Option (Int) := bK.l0 k l0 l1 l0 (l0.length : Int) 0
theorem bK.fH : ∀ k, (∀ y0 y1 y2 y3 y4, LeO (bK.l0 k y0 y1 y2 y3 y4) (bK.l0 (k + 1) y0 y1 y2 y3 y4))
  | 0 => fun _ _ _ _ _ r h => by simp [bK.l0] at h
  | k + 1 => by
    have ih0 := bK.fH k
    · intro y0 y1 y2 y3 y4
      unfold bK.l0
      repeat' first
      | (with_reducible exact ih0 _ _ _ _ _)
      | (with_reducible exact LeO.refl _)
      | (with_reducible exact LeO.none _)
      | (with_reducible refine LeO.ite ?_ ?_)
      | (with_reducible refine LeO.bind ?_ (fun _ => ?_))
      | exact ih0 _ _ _ _ _
      | exact LeO.none _
      | refine LeO.ite ?_ ?_
      | refine LeO.bind ?_ (fun _ => ?_)
theorem bK.mono : ∀ a0 a1 k, LeO (bK.f k a0 a1) (bK.f (k + 1) a0 a1) := by
  intro a0 a1 k
  have ih0 := bK.fH k
  unfold bK.f
  repeat' first
      | (with_reducible exact ih0 _ _ _ _ _)
      | (with_reducible exact LeO.refl _)
      | (with_reducible exact LeO.none _)
      | (with_reducible refine LeO.ite ?_ ?_)
      | (with_reducible refine LeO.bind ?_ (fun _ => ?_))
      | exact ih0 _ _ _ _ _
      | exact LeO.none _
      | refine LeO.ite ?_ ?_
      | refine LeO.bind ?_ (fun _ => ?_)
set_option maxHeartbeats 8000000 in
set_option maxRecDepth 100000 in
theorem bK.calls (k : Nat) (A0 : Option Addr) (c0 : Nat) (l0 : List Int) (A1 : Option Addr) (c1 : Nat) (l1 : List Int) (r : Int) (w : World) (hr0 : Kd.C (Kd.int .i64) w A0 l0.length l0) (hc0 : l0.length ≤ c0) (hr1 : Kd.C (Kd.int .i64) w A1 l1.length l1) (hc1 : l1.length ≤ c1) (h : bK.f k l0 l1 = some r) :
    Calls Tryd.prog 60 #[.slice A0 l0.length c0, .slice A1 l1.length c1] w fun e w' => e = .returned (.int .i64 r) ∧ dx w w' := by
  have HR0 := aa.mk hr0
  have HC0 := aa.mk hc0
  clear hr0 hc0
  have HR1 := aa.mk hr1
  have HC1 := aa.mk hc1
  clear hr1 hc1
  have H : (bK.l0 k l0 l1 l0 (l0.length : Int) 0) = some r := h
  clear h
  have H' := aa.mk H
  clear H
  go_enter Tryd.func60, Tryd.ntmps60
  go_wp2
  go_loopg [11] k (fun kq v11 w' => ∃ (iq : Int), v11 = .int .i64 iq ∧ aa (bK.l0 kq l0 l1 l0 (l0.length : Int) iq = some r) ∧ aa (kq ≤ k) ∧ dx w w')
  case atStart => exact ⟨(0), (by first | rfl | (simp; done) | (simp [*]; done)), H', ⟨Nat.le_refl _⟩, by repeat (first | exact dx.refl _ | apply dx.step)⟩
  case round =>
    clear H'
    try clear c1
    try clear p2
    obtain ⟨iq, rfl, HA, HK1, ⟨m1, rfl⟩⟩ := hrel
    cases gk with
    | zero => exact absurd HA.out (by simp [bK.l0])
    | succ k1 =>
      have H := HA.out
      clear HA
      simp only [bK.l0] at H
      by_cases c3 : iq < (l0.length : Int)
      · rw [if_pos c3] at H
        have j5 : decide (iq < (l0.length : Int)) = true := decide_eq_true c3
        clear c3
        by_cases c4 : 0 ≤ iq
        · rw [if_pos c4] at H
          have kM : decide (0 ≤ iq) = true := decide_eq_true c4
          clear c4
          by_cases c5 : iq < (l0.length : Int)
          · rw [if_pos c5] at H
            have p8 : decide (iq < (l0.length : Int)) = true := decide_eq_true c5
            clear c5
            by_cases c6 : iq ≥ (l1.length : Int)
            · rw [if_pos c6] at H
              have oN : decide ((l1.length : Int) ≤ iq) = true := decide_eq_true c6
              clear c6
              obtain rfl := Option.some.inj H
              have Gn : 0 ≤ (iq : Int) := of_decide_eq_true (by first | (with_reducible assumption) | assumption)
              have Gp : iq < (l0.length : Int) := of_decide_eq_true (by first | (with_reducible assumption) | assumption)
              obtain ⟨ad567, e567, Xn⟩ := Kd.mi HR0.out iq Gn Gp
              cases e567
              replace Gn := eq_true Gn
              replace Gp := eq_true Gp
              go_wp2
              go_ret
              exact ⟨by first | rfl | (simp; done) | (simp [*]; done), by repeat (first | exact dx.refl _ | apply dx.step)⟩
            · rw [if_neg c6] at H
              have oN : decide ((l1.length : Int) ≤ iq) = false := decide_eq_false c6
              clear c6
              by_cases c7 : iq < (l1.length : Int)
              · rw [if_pos c7] at H
                have p9 : decide (iq < (l1.length : Int)) = true := decide_eq_true c7
                clear c7
                replace H := Option.bind_eq_some_iff.mp H
                obtain ⟨DT, A80, H⟩ := H
                replace H : (if DT = 0 then (bK.l0 k1 l0 l1 l0 (l0.length : Int) (wrap64 (iq + 1))) else (some DT)) = some r := H
                have A8 := aa.mk A80
                clear A80
                by_cases c9 : DT = 0
                · rw [if_pos c9] at H
                  have vQ : (DT == 0) = true := beq_iff_eq.mpr c9
                  have F3 : (DT != 0) = false := bne_eq_false_iff_eq.mpr c9
                  clear c9
                  have H' := aa.mk H
                  clear H
                  have Gn : 0 ≤ (iq : Int) := of_decide_eq_true (by first | (with_reducible assumption) | assumption)
                  have Gp : iq < (l0.length : Int) := of_decide_eq_true (by first | (with_reducible assumption) | assumption)
                  obtain ⟨ad567, e567, Xn⟩ := Kd.mi HR0.out iq Gn Gp
                  cases e567
                  replace Gn := eq_true Gn
                  replace Gp := eq_true Gp
                  have p568 : 0 ≤ (iq : Int) := of_decide_eq_true (by first | (with_reducible assumption) | assumption)
                  have q568 : iq < (l1.length : Int) := of_decide_eq_true (by first | (with_reducible assumption) | assumption)
                  obtain ⟨ad568, e568, hx568_0⟩ := Kd.mi HR1.out iq p568 q568
                  cases e568
                  replace p568 := eq_true p568
                  replace q568 := eq_true q568
                  go_wp2_with (first | ((with_reducible refine aN (f := 80) rfl ?_); refine bJ (some 26) rfl rfl Tryd.func80 (by kernel_rfl) rfl #[.int .i64 (rd l0 iq), .int .i64 (rd l1 iq)] rfl (by (try simp only [List.map_toArray, List.map_cons, List.map_nil]); first | done | rfl | (simp only [List.length_drop, List.length_take]; rfl)) ?_; (with_reducible refine (cmp_Compare_int.calls (rd l0 iq) (rd l1 iq) DT _ A8.out).mono ?_); rintro e w' ⟨rfl, ⟨nd, rfl⟩⟩; refine ⟨_, rfl, ?_⟩))
                  go_roundg k1
                  case measure => have := HK1.out; omega
                  case rel => exact ⟨(wrap64 (iq + 1)), (by first | rfl | (simp; done) | (simp [*]; done)), H', ⟨by have := HK1.out; omega⟩, by repeat (first | exact dx.refl _ | apply dx.step)⟩
                · rw [if_neg c9] at H
                  have vQ : (DT == 0) = false := beq_eq_false_iff_ne.mpr c9
                  have F3 : (DT != 0) = true := bne_iff_ne.mpr c9
                  obtain rfl := Option.some.inj H
                  have Gn : 0 ≤ (iq : Int) := of_decide_eq_true (by first | (with_reducible assumption) | assumption)
                  have Gp : iq < (l0.length : Int) := of_decide_eq_true (by first | (with_reducible assumption) | assumption)
                  obtain ⟨ad567, e567, Xn⟩ := Kd.mi HR0.out iq Gn Gp
                  cases e567
                  replace Gn := eq_true Gn
                  replace Gp := eq_true Gp
                  have p568 : 0 ≤ (iq : Int) := of_decide_eq_true (by first | (with_reducible assumption) | assumption)
                  have q568 : iq < (l1.length : Int) := of_decide_eq_true (by first | (with_reducible assumption) | assumption)
                  obtain ⟨ad568, e568, hx568_0⟩ := Kd.mi HR1.out iq p568 q568
                  cases e568
                  replace p568 := eq_true p568
                  replace q568 := eq_true q568
                  go_wp2_with (first | ((with_reducible refine aN (f := 80) rfl ?_); refine bJ (some 26) rfl rfl Tryd.func80 (by kernel_rfl) rfl #[.int .i64 (rd l0 iq), .int .i64 (rd l1 iq)] rfl (by (try simp only [List.map_toArray, List.map_cons, List.map_nil]); first | done | rfl | (simp only [List.length_drop, List.length_take]; rfl)) ?_; (with_reducible refine (cmp_Compare_int.calls (rd l0 iq) (rd l1 iq) DT _ A8.out).mono ?_); rintro e w' ⟨rfl, ⟨nd, rfl⟩⟩; refine ⟨_, rfl, ?_⟩))
                  go_ret
                  exact ⟨by first | rfl | (simp; done) | (simp [*]; done), by repeat (first | exact dx.refl _ | apply dx.step)⟩
              · rw [if_neg c7] at H
                exact absurd H (by simp)
          · rw [if_neg c5] at H
            exact absurd H (by simp)
        · rw [if_neg c4] at H
          exact absurd H (by simp)
      · rw [if_neg c3] at H
        have j5 : decide (iq < (l0.length : Int)) = false := decide_eq_false c3
        clear c3
        by_cases c10 : (l0.length : Int) < (l1.length : Int)
        · rw [if_pos c10] at H
          have oI : decide ((l0.length : Int) < (l1.length : Int)) = true := decide_eq_true c10
          have GI : decide (l0.length < l1.length) = true := decide_eq_true (Int.ofNat_lt.mp c10)
          clear c10
          obtain rfl := Option.some.inj H
          go_wp2
          go_ret
          exact ⟨by first | rfl | (simp; done) | (simp [*]; done), by repeat (first | exact dx.refl _ | apply dx.step)⟩
        · rw [if_neg c10] at H
          have oI : decide ((l0.length : Int) < (l1.length : Int)) = false := decide_eq_false c10
          have GI : decide (l0.length < l1.length) = false := decide_eq_false (fun h => c10 (Int.ofNat_lt.mpr h))
          clear c10
          obtain rfl := Option.some.inj H
          go_wp2
          go_ret
          exact ⟨by first | rfl | (simp; done) | (simp [*]; done), by repeat (first | exact dx.refl _ | apply dx.step)⟩

end Go.Proofs.YtggelekooacmnaaDoor.Q
namespace Go.Proofs.YtggelekooacmnaaDoor.Q
open Go.RowKit Go.Proofs.YtggelekooacmnaaDoorW.bg Go.Proofs.YtggelekooacmnaaDoorW.bP Go.Proofs.YtggelekooacmnaaDoorW.bX
attribute [local go_sem] ek eu fw fA dH dI eB eD   -- for this text's walks alone
set_option linter.unusedVariables false
set_option linter.unusedSimpArgs false

/-! ### iH: function 31 -/
def iH.f (k : Nat) (ai : Int) (az : Int) (aA : Int) (ay : Int) (af : List (S24)) (bH : Int) (aU : List (S51)) (CL : Int) (yX : List (S51)) : Option (Int × Int) := (dC.f k ai az aA ay af bH aU).bind fun JQ => (if JQ.2 = 0 then ((dC.f k ai az aA ay af CL yX).bind fun Bl => (if Bl.2 = 0 then ((bK.f k JQ.1 Bl.1).bind fun t581 => (some (t581, 0))) else (some (0, Bl.2)))) else (some (0, JQ.2)))
theorem iH.mono : ∀ a0 a1 a2 a3 a4 a5 a6 a7 a8 k, LeO (iH.f k a0 a1 a2 a3 a4 a5 a6 a7 a8) (iH.f (k + 1) a0 a1 a2 a3 a4 a5 a6 a7 a8) := by
 intro a0 a1 a2 a3 a4 a5 a6 a7 a8 k; unfold iH.f
 repeat' first
   | (with_reducible exact bK.mono _ _ _)
   | (with_reducible exact dC.mono _ _ _ _ _ _ _ _)
   | (with_reducible exact LeO.refl _)
   | (with_reducible exact LeO.none _)
   | (with_reducible refine LeO.ite ?_ ?_)
   | (with_reducible refine LeO.bind ?_ (fun _ => ?_))
   | exact bK.mono _ _ _
   | exact dC.mono _ _ _ _ _ _ _ _
   | exact LeO.none _
   | refine LeO.ite ?_ ?_
   | refine LeO.bind ?_ (fun _ => ?_)
set_option maxHeartbeats 8000000 in
set_option maxRecDepth 100000 in
theorem iH.calls (k : Nat) (ai : Int) (az : Int) (aA : Int) (ay : Int) (bq : Option Addr) (bf : Nat) (af : List (S24)) (bH : Int) (gD : Option Addr) (fI : Nat) (aU : List (S51)) (CL : Int) (A2_1 : Option Addr) (c2_1 : Nat) (yX : List (S51)) (r1 : Int) (r2 : Int) (w : World) (dX : Kd.C k24 w bq af.length af) (dY : af.length ≤ bf) (kT : Kd.C k51 w gD aU.length aU) (kU : aU.length ≤ fI) (hr2_1 : Kd.C k51 w A2_1 yX.length yX) (hc2_1 : yX.length ≤ c2_1) (h : iH.f k ai az aA ay af bH aU CL yX = some (r1, r2)) :
  Calls Tryd.prog 31 #[.agg #[.int .i64 ai, .int .i64 az, .int .i64 aA, .int .i64 ay, .slice bq af.length bf], .agg #[.int .i64 bH, .slice gD aU.length fI], .agg #[.int .i64 CL, .slice A2_1 yX.length c2_1]] w fun e w' => e = .returned (.tuple #[.int .i64 r1, .int .i64 r2]) ∧ Below w.heap.size w w' := by
 have ou := Tryd.underlying24; have zh := Tryd.underlying51; have bV := aa.mk dX; have dz := aa.mk dY; clear dX dY; have mq := aa.mk kT; have qd := aa.mk kU; clear kT kU; have HR2_1 := aa.mk hr2_1; have HC2_1 := aa.mk hc2_1; clear hr2_1 hc2_1; have HB := aa.mk (Below.refl w.heap.size w); have H : ((dC.f k ai az aA ay af bH aU).bind fun JQ => (if JQ.2 = 0 then ((dC.f k ai az aA ay af CL yX).bind fun Bl => (if Bl.2 = 0 then ((bK.f k JQ.1 Bl.1).bind fun t581 => (some (t581, 0))) else (some (0, Bl.2)))) else (some (0, JQ.2)))) = some (r1, r2) := h; clear h; replace H := Option.bind_eq_some_iff.mp H; obtain ⟨⟨t573, t576⟩, A40, H⟩ := H; replace H : (if t576 = 0 then ((dC.f k ai az aA ay af CL yX).bind fun Bl => (if Bl.2 = 0 then ((bK.f k t573 Bl.1).bind fun t581 => (some (t581, 0))) else (some (0, Bl.2)))) else (some (0, t576))) = some (r1, r2) := H; have A4 := aa.mk A40; clear A40; by_cases c5 : t576 = 0
 ·rw [if_pos c5] at H; have p8 : (t576 == 0) = true := beq_iff_eq.mpr c5; have c5b1 : (t576 != 0) = false := bne_eq_false_iff_eq.mpr c5; clear c5; replace H := Option.bind_eq_some_iff.mp H; obtain ⟨⟨t577, t580⟩, A60, H⟩ := H; replace H : (if t580 = 0 then ((bK.f k t573 t577).bind fun t581 => (some (t581, 0))) else (some (0, t580))) = some (r1, r2) := H; have A6 := aa.mk A60; clear A60; by_cases c7 : t580 = 0
  ·rw [if_pos c7] at H; have p9 : (t580 == 0) = true := beq_iff_eq.mpr c7; have c7b1 : (t580 != 0) = false := bne_eq_false_iff_eq.mpr c7; clear c7; replace H := Option.bind_eq_some_iff.mp H; obtain ⟨t581, A80, H⟩ := H; replace H : (some (t581, 0)) = some (r1, r2) := H; have A8 := aa.mk A80; clear A80; simp only [Option.some.injEq, Prod.mk.injEq] at H; obtain ⟨rfl, rfl⟩ := H; go_enter Tryd.func31, Tryd.ntmps31; go_wp2_with (first | ((with_reducible refine aY (N := 3) rfl ?_); refine aZ ?hg (N := 3) ?hd (cs := #[.int .i64 ai, .int .i64 az, .int .i64 aA, .int .i64 ay, .slice bq af.length bf]) (t := 24) ?hr ?_; (case hd => rfl); (case hg => rfl); (case hr => first | (go_simp; done) | (go_simp; rfl)); intro Qk hg w9 aK hb; have ik := aa.mk (aK); have Ql : aa (w.heap.size ≤ Qk) := gw_ hg (aG bl_); have GE570 := Ql; replace HB := aa.mk (au bl_ hb); clear hb aK hg) | ((with_reducible refine aY (N := 4) rfl ?_); refine aZ ?hg (N := 4) ?hd (cs := #[.int .i64 bH, .slice gD aU.length fI]) (t := 51) ?hr ?_; (case hd => rfl); (case hg => rfl); (case hr => first | (go_simp; done) | (go_simp; rfl)); intro Qm hg w10 aK hb; have kP := aa.mk (aK); have Qn : aa (w.heap.size ≤ Qm) := gw_ hg (aG bl_); have GE571 := Qn; have Dp := nl_ ik hg; have Dq := ng_ ik hg; replace ik := kb_ ik hb; replace HB := aa.mk (au bl_ hb); clear hb aK hg) | ((with_reducible refine aY (N := 5) rfl ?_); refine aZ ?hg (N := 5) ?hd (cs := #[.int .i64 CL, .slice A2_1 yX.length c2_1]) (t := 51) ?hr ?_; (case hd => rfl); (case hg => rfl); (case hr => first | (go_simp; done) | (go_simp; rfl)); intro Qo hg w11 aK hb; have vG := aa.mk (aK); have Qp : aa (w.heap.size ≤ Qo) := gw_ hg (aG bl_); have GE572 := Qp; have Dr := nl_ ik hg; have Dt := ng_ ik hg; have Du := nl_ kP hg; have Dv := ng_ kP hg; replace ik := kb_ ik hb; replace kP := kb_ kP hb; replace HB := aa.mk (au bl_ hb); clear hb aK hg; have hnb12 := Dp.out; have hnc12 := Dq.out; have hnb13 := Dr.out; have hnc13 := Dt.out; obtain ⟨kg, ko, kr, ku, kv, ky, kz, kC, kD, kE⟩ := bF ik.out; have hnb15 := Du.out; have hnc15 := Dv.out; obtain ⟨pO, pQ, pR, pU⟩ := eQ kP.out) | ((with_reducible refine aN (f := 57) rfl ?_); refine bJ (some 14) rfl rfl Tryd.func57 (by kernel_rfl) rfl #[.agg #[.int .i64 ai, .int .i64 az, .int .i64 aA, .int .i64 ay, .slice bq af.length bf], .agg #[.int .i64 bH, .slice gD aU.length fI]] rfl mp_ ?_; (with_reducible refine (dC.calls k ai az aA ay _ _ af bH _ _ aU t573 t576 _ ?aQ ?aT ?dK ?dL A4.out).mono ?_); (case aQ => exact cb_ (Kd.bA bV.out HB.out)); (case aT => exact dz.out); (case dK => exact cb_ (Kd.bA mq.out HB.out)); (case dL => exact qd.out); rintro e w17 ⟨v574, rfl, ho0, hb⟩; refine ⟨_, rfl, ?_⟩; have Bn := aa.mk (Kd.dJ ho0 (aG bl_)); replace ik := kb_ ik hb; replace kP := kb_ kP hb; replace vG := kb_ vG hb; replace HB := aa.mk (au bl_ hb); (try clear hb); (try clear hb2); (try clear hk); (try clear hi); (try clear ho0); obtain ⟨lT, lU, qz, qA, qB, lV, lW, qC, qD, qE⟩ := bF ik.out; obtain ⟨Ef, Eg, Eh, Ei⟩ := eQ vG.out) | ((with_reducible refine aN (f := 57) rfl ?_); refine bJ (some 23) rfl rfl Tryd.func57 (by kernel_rfl) rfl #[.agg #[.int .i64 ai, .int .i64 az, .int .i64 aA, .int .i64 ay, .slice bq af.length bf], .agg #[.int .i64 CL, .slice A2_1 yX.length c2_1]] rfl mp_ ?_; (with_reducible refine (dC.calls k ai az aA ay _ _ af CL _ _ yX t577 t580 _ ?aQ ?aT ?dK ?dL A6.out).mono ?_); (case aQ => exact cb_ (Kd.bA bV.out HB.out)); (case aT => exact dz.out); (case dK => exact cb_ (Kd.bA HR2_1.out HB.out)); (case dL => exact HC2_1.out); rintro e w20 ⟨v578, rfl, ho0, hb⟩; refine ⟨_, rfl, ?_⟩; have HO579 := aa.mk (Kd.dJ (Kd.lG ho0 (Kd.lC (pR_ Bn.out))) (aG bl_)); replace Bn := aa.mk (Kd.jU (pR_ Bn.out) (Kd.iI ho0) hb); replace ik := kb_ ik hb; replace kP := kb_ kP hb; replace vG := kb_ vG hb; replace HB := aa.mk (au bl_ hb); (try clear hb); (try clear hb2); (try clear hk); (try clear hi); (try clear ho0); obtain ⟨Ao21, co21, eo21⟩ := Kd.dG Bn.out; subst eo21; obtain ⟨Ao22, co22, eo22⟩ := Kd.dG HO579.out; subst eo22) | ((with_reducible refine aN (f := 60) rfl ?_); refine bJ (some 31) rfl rfl Tryd.func60 (by kernel_rfl) rfl #[.slice Ao21 t573.length co21, .slice Ao22 t577.length co22] rfl mp_ ?_; (with_reducible refine (bK.calls k _ _ t573 _ _ t577 t581 _ ?aQ ?aT ?dK ?dL A8.out).mono ?_); (case aQ => exact cb_ ((Kd.cK Bn.out).2.2)); (case aT => exact (Kd.cK Bn.out).2.1); (case dK => exact cb_ ((Kd.cK HO579.out).2.2)); (case dL => exact (Kd.cK HO579.out).2.1); rintro e w' ⟨rfl, ⟨nd, rfl⟩⟩; refine ⟨_, rfl, ?_⟩))
   go_ret2; exact ⟨re_, bl_⟩
  ·rw [if_neg c7] at H; have p9 : (t580 == 0) = false := beq_eq_false_iff_ne.mpr c7; have c7b1 : (t580 != 0) = true := bne_iff_ne.mpr c7; simp only [Option.some.injEq, Prod.mk.injEq] at H; obtain ⟨rfl, rfl⟩ := H; go_enter Tryd.func31, Tryd.ntmps31; go_wp2_with (first | ((with_reducible refine aY (N := 3) rfl ?_); refine aZ ?hg (N := 3) ?hd (cs := #[.int .i64 ai, .int .i64 az, .int .i64 aA, .int .i64 ay, .slice bq af.length bf]) (t := 24) ?hr ?_; (case hd => rfl); (case hg => rfl); (case hr => first | (go_simp; done) | (go_simp; rfl)); intro Qk hg w23 aK hb; have ik := aa.mk (aK); have Ql : aa (w.heap.size ≤ Qk) := gw_ hg (aG bl_); have GE570 := Ql; replace HB := aa.mk (au bl_ hb); clear hb aK hg) | ((with_reducible refine aY (N := 4) rfl ?_); refine aZ ?hg (N := 4) ?hd (cs := #[.int .i64 bH, .slice gD aU.length fI]) (t := 51) ?hr ?_; (case hd => rfl); (case hg => rfl); (case hr => first | (go_simp; done) | (go_simp; rfl)); intro Qm hg w24 aK hb; have kP := aa.mk (aK); have Qn : aa (w.heap.size ≤ Qm) := gw_ hg (aG bl_); have GE571 := Qn; have Dp := nl_ ik hg; have Dq := ng_ ik hg; replace ik := kb_ ik hb; replace HB := aa.mk (au bl_ hb); clear hb aK hg) | ((with_reducible refine aY (N := 5) rfl ?_); refine aZ ?hg (N := 5) ?hd (cs := #[.int .i64 CL, .slice A2_1 yX.length c2_1]) (t := 51) ?hr ?_; (case hd => rfl); (case hg => rfl); (case hr => first | (go_simp; done) | (go_simp; rfl)); intro Qo hg w25 aK hb; have vG := aa.mk (aK); have Qp : aa (w.heap.size ≤ Qo) := gw_ hg (aG bl_); have GE572 := Qp; have Dr := nl_ ik hg; have Dt := ng_ ik hg; have Du := nl_ kP hg; have Dv := ng_ kP hg; replace ik := kb_ ik hb; replace kP := kb_ kP hb; replace HB := aa.mk (au bl_ hb); clear hb aK hg; have hnb26 := Dp.out; have hnc26 := Dq.out; have Js := Dr.out; have Jt := Dt.out; obtain ⟨l6, l7, mJ, mK, mM, l8, l9, mO, mP, mQ⟩ := bF ik.out; have hnb29 := Du.out; have hnc29 := Dv.out; obtain ⟨xz, xA, xB, xC⟩ := eQ kP.out) | ((with_reducible refine aN (f := 57) rfl ?_); refine bJ (some 14) rfl rfl Tryd.func57 (by kernel_rfl) rfl #[.agg #[.int .i64 ai, .int .i64 az, .int .i64 aA, .int .i64 ay, .slice bq af.length bf], .agg #[.int .i64 bH, .slice gD aU.length fI]] rfl mp_ ?_; (with_reducible refine (dC.calls k ai az aA ay _ _ af bH _ _ aU t573 t576 _ ?aQ ?aT ?dK ?dL A4.out).mono ?_); (case aQ => exact cb_ (Kd.bA bV.out HB.out)); (case aT => exact dz.out); (case dK => exact cb_ (Kd.bA mq.out HB.out)); (case dL => exact qd.out); rintro e w31 ⟨v574, rfl, ho0, hb⟩; refine ⟨_, rfl, ?_⟩; have Bn := aa.mk (Kd.dJ ho0 (aG bl_)); replace ik := kb_ ik hb; replace kP := kb_ kP hb; replace vG := kb_ vG hb; replace HB := aa.mk (au bl_ hb); (try clear hb); (try clear hb2); (try clear hk); (try clear hi); (try clear ho0); obtain ⟨sG, sH, BQ, BR, BS, sI, sJ, BU, BV, BX⟩ := bF ik.out; obtain ⟨Em, En, Eo, Ep⟩ := eQ vG.out) | ((with_reducible refine aN (f := 57) rfl ?_); refine bJ (some 23) rfl rfl Tryd.func57 (by kernel_rfl) rfl #[.agg #[.int .i64 ai, .int .i64 az, .int .i64 aA, .int .i64 ay, .slice bq af.length bf], .agg #[.int .i64 CL, .slice A2_1 yX.length c2_1]] rfl mp_ ?_; (with_reducible refine (dC.calls k ai az aA ay _ _ af CL _ _ yX t577 t580 _ ?aQ ?aT ?dK ?dL A6.out).mono ?_); (case aQ => exact cb_ (Kd.bA bV.out HB.out)); (case aT => exact dz.out); (case dK => exact cb_ (Kd.bA HR2_1.out HB.out)); (case dL => exact HC2_1.out); rintro e w34 ⟨v578, rfl, ho0, hb⟩; refine ⟨_, rfl, ?_⟩; have HO579 := aa.mk (Kd.dJ (Kd.lG ho0 (Kd.lC (pR_ Bn.out))) (aG bl_)); replace Bn := aa.mk (Kd.jU (pR_ Bn.out) (Kd.iI ho0) hb); replace ik := kb_ ik hb; replace kP := kb_ kP hb; replace vG := kb_ vG hb; replace HB := aa.mk (au bl_ hb); (try clear hb); (try clear hb2); (try clear hk); (try clear hi); (try clear ho0)))
   go_ret2; exact ⟨re_, bl_⟩
 ·rw [if_neg c5] at H; have p8 : (t576 == 0) = false := beq_eq_false_iff_ne.mpr c5; have c5b1 : (t576 != 0) = true := bne_iff_ne.mpr c5; simp only [Option.some.injEq, Prod.mk.injEq] at H; obtain ⟨rfl, rfl⟩ := H; go_enter Tryd.func31, Tryd.ntmps31; go_wp2_with (first | ((with_reducible refine aY (N := 3) rfl ?_); refine aZ ?hg (N := 3) ?hd (cs := #[.int .i64 ai, .int .i64 az, .int .i64 aA, .int .i64 ay, .slice bq af.length bf]) (t := 24) ?hr ?_; (case hd => rfl); (case hg => rfl); (case hr => first | (go_simp; done) | (go_simp; rfl)); intro Qk hg w35 aK hb; have ik := aa.mk (aK); have Ql : aa (w.heap.size ≤ Qk) := gw_ hg (aG bl_); have GE570 := Ql; replace HB := aa.mk (au bl_ hb); clear hb aK hg) | ((with_reducible refine aY (N := 4) rfl ?_); refine aZ ?hg (N := 4) ?hd (cs := #[.int .i64 bH, .slice gD aU.length fI]) (t := 51) ?hr ?_; (case hd => rfl); (case hg => rfl); (case hr => first | (go_simp; done) | (go_simp; rfl)); intro Qm hg w36 aK hb; have kP := aa.mk (aK); have Qn : aa (w.heap.size ≤ Qm) := gw_ hg (aG bl_); have GE571 := Qn; have Dp := nl_ ik hg; have Dq := ng_ ik hg; replace ik := kb_ ik hb; replace HB := aa.mk (au bl_ hb); clear hb aK hg) | ((with_reducible refine aY (N := 5) rfl ?_); refine aZ ?hg (N := 5) ?hd (cs := #[.int .i64 CL, .slice A2_1 yX.length c2_1]) (t := 51) ?hr ?_; (case hd => rfl); (case hg => rfl); (case hr => first | (go_simp; done) | (go_simp; rfl)); intro Qo hg w37 aK hb; have vG := aa.mk (aK); have Qp : aa (w.heap.size ≤ Qo) := gw_ hg (aG bl_); have GE572 := Qp; have Dr := nl_ ik hg; have Dt := ng_ ik hg; have Du := nl_ kP hg; have Dv := ng_ kP hg; replace ik := kb_ ik hb; replace kP := kb_ kP hb; replace HB := aa.mk (au bl_ hb); clear hb aK hg; have hnb38 := Dp.out; have hnc38 := Dq.out; have hnb39 := Dr.out; have hnc39 := Dt.out; obtain ⟨hcz40_0, hcz40_1, hcz40_2, hcz40_3, hcz40_4, hfz40_0, hfz40_1, hfz40_2, hfz40_3, hfz40_4⟩ := bF ik.out; have hnb41 := Du.out; have hnc41 := Dv.out; obtain ⟨zY, zZ, z8, Aa⟩ := eQ kP.out) | ((with_reducible refine aN (f := 57) rfl ?_); refine bJ (some 14) rfl rfl Tryd.func57 (by kernel_rfl) rfl #[.agg #[.int .i64 ai, .int .i64 az, .int .i64 aA, .int .i64 ay, .slice bq af.length bf], .agg #[.int .i64 bH, .slice gD aU.length fI]] rfl mp_ ?_; (with_reducible refine (dC.calls k ai az aA ay _ _ af bH _ _ aU t573 t576 _ ?aQ ?aT ?dK ?dL A4.out).mono ?_); (case aQ => exact cb_ (Kd.bA bV.out HB.out)); (case aT => exact dz.out); (case dK => exact cb_ (Kd.bA mq.out HB.out)); (case dL => exact qd.out); rintro e w43 ⟨v574, rfl, ho0, hb⟩; refine ⟨_, rfl, ?_⟩; have Bn := aa.mk (Kd.dJ ho0 (aG bl_)); replace ik := kb_ ik hb; replace kP := kb_ kP hb; replace vG := kb_ vG hb; replace HB := aa.mk (au bl_ hb); (try clear hb); (try clear hb2); (try clear hk); (try clear hi); (try clear ho0)))
  go_ret2; exact ⟨re_, bl_⟩

end Go.Proofs.YtggelekooacmnaaDoor.Q
namespace Go.Proofs.YtggelekooacmnaaDoor.Q
open Go.RowKit Go.Proofs.YtggelekooacmnaaDoorW.bg Go.Proofs.YtggelekooacmnaaDoorW.bP Go.Proofs.YtggelekooacmnaaDoorW.bX
attribute [local go_sem] ek eu fw fA dH dI eB eD   -- for this text's walks alone
set_option linter.unusedVariables false
set_option linter.unusedSimpArgs false

/-! ### aV: function 33 -/
mutual
def aV.j0 : Nat → Bool → Int → List (S51) → Int → List (S51) → Option (Bool)
 | 0, _, _, _, _, _ => none
 | k + 1, x19, Sd, Fy, Sg, Fz => if x19 = true then (some false) else (aV.l0 k 0 Sd Fy Sg Fz)
def aV.l0 : Nat → Int → Int → List (S51) → Int → List (S51) → Option (Bool)
 | 0, _, _, _, _, _ => none
 | k + 1, x5, Sd, Fy, Sg, Fz => if x5 < (Fy.length : Int) then (if 0 ≤ x5 then (if x5 < (Fz.length : Int) then ((aV.f k ((bB Fy x5).f0) ((bB Fy x5).f1) ((bB Fz x5).f0) ((bB Fz x5).f1)).bind fun t611 => (if t611 = true then (aV.l0 k (wrap64 (x5 + 1)) Sd Fy Sg Fz) else (some false))) else (none)) else (none)) else (some true)
def aV.f : Nat → Int → List (S51) → Int → List (S51) → Option (Bool)
 | 0, _, _, _, _ => none
 | k + 1, ai, jk, bH, aU => if ai = bH then (aV.j0 k ((jk.length : Int) != (aU.length : Int)) ai jk bH aU) else (aV.j0 k true ai jk bH aU)
end
theorem aV.fH : ∀ k, (∀ y0 y1 y2 y3, LeO (aV.f k y0 y1 y2 y3) (aV.f (k + 1) y0 y1 y2 y3)) ∧ (∀ y0 y1 y2 y3 y4, LeO (aV.j0 k y0 y1 y2 y3 y4) (aV.j0 (k + 1) y0 y1 y2 y3 y4)) ∧ (∀ y0 y1 y2 y3 y4, LeO (aV.l0 k y0 y1 y2 y3 y4) (aV.l0 (k + 1) y0 y1 y2 y3 y4))
 | 0 => ⟨fun _ _ _ _ r h => by simp [aV.f] at h, fun _ _ _ _ _ r h => by simp [aV.j0] at h, fun _ _ _ _ _ r h => by simp [aV.l0] at h⟩
 | k + 1 => by
  obtain ⟨ih0, ih1, ih2⟩ := aV.fH k; refine ⟨?_, ?_, ?_⟩
  ·intro y0 y1 y2 y3; unfold aV.f; repeat' first
   | (with_reducible exact ih0 _ _ _ _)
   | (with_reducible exact ih1 _ _ _ _ _)
   | (with_reducible exact ih2 _ _ _ _ _)
   | (with_reducible exact LeO.refl _)
   | (with_reducible exact LeO.none _)
   | (with_reducible refine LeO.ite ?_ ?_)
   | (with_reducible refine LeO.bind ?_ (fun _ => ?_))
   | exact ih0 _ _ _ _
   | exact ih1 _ _ _ _ _
   | exact ih2 _ _ _ _ _
   | exact LeO.none _
   | refine LeO.ite ?_ ?_
   | refine LeO.bind ?_ (fun _ => ?_)
  ·intro y0 y1 y2 y3 y4; unfold aV.j0; repeat' first
   | (with_reducible exact ih0 _ _ _ _)
   | (with_reducible exact ih1 _ _ _ _ _)
   | (with_reducible exact ih2 _ _ _ _ _)
   | (with_reducible exact LeO.refl _)
   | (with_reducible exact LeO.none _)
   | (with_reducible refine LeO.ite ?_ ?_)
   | (with_reducible refine LeO.bind ?_ (fun _ => ?_))
   | exact ih0 _ _ _ _
   | exact ih1 _ _ _ _ _
   | exact ih2 _ _ _ _ _
   | exact LeO.none _
   | refine LeO.ite ?_ ?_
   | refine LeO.bind ?_ (fun _ => ?_)
  ·intro y0 y1 y2 y3 y4; unfold aV.l0; repeat' first
   | (with_reducible exact ih0 _ _ _ _)
   | (with_reducible exact ih1 _ _ _ _ _)
   | (with_reducible exact ih2 _ _ _ _ _)
   | (with_reducible exact LeO.refl _)
   | (with_reducible exact LeO.none _)
   | (with_reducible refine LeO.ite ?_ ?_)
   | (with_reducible refine LeO.bind ?_ (fun _ => ?_))
   | exact ih0 _ _ _ _
   | exact ih1 _ _ _ _ _
   | exact ih2 _ _ _ _ _
   | exact LeO.none _
   | refine LeO.ite ?_ ?_
   | refine LeO.bind ?_ (fun _ => ?_)
theorem aV.mono : ∀ a0 a1 a2 a3 k, LeO (aV.f k a0 a1 a2 a3) (aV.f (k + 1) a0 a1 a2 a3) := by
 intro a0 a1 a2 a3 k; obtain ⟨ih0, ih1, ih2⟩ := aV.fH k; exact ih0 a0 a1 a2 a3
def aV.T6 : Bool × List (List Nat × List Nat) := (true, [([], []), ([0], [0]), ([], []), ([1, 2], [1, 2]), ([3], [3]), ([], []), ([5], [5]), ([], []), ([6, 7], [6, 7]), ([8], [8]), ([4, 9], [4, 9]), ([10], [10])])
def aV.B6 : List Nat := [0, 1, 0, 7, 15, 0, 32, 0, 224, 480, 1023, 2047]
theorem aV.tab6 : kJ .any (opsOf Tryd.f33 6) = aV.T6 := by kernel_rfl
theorem aV.Na : lJ aV.T6.2 aV.B6 = true := by kernel_rfl
set_option maxHeartbeats 8000000 in
set_option maxRecDepth 100000 in
theorem aV.calls (k : Nat) : ∀ (ai : Int) (A0_1 : Option Addr) (c0_1 : Nat) (jk : List (S51)) (bH : Int) (gD : Option Addr) (fI : Nat) (aU : List (S51)) (r : Bool) (w : World) (hr0_1 : Kd.C k51 w A0_1 jk.length jk) (hc0_1 : jk.length ≤ c0_1) (kT : Kd.C k51 w gD aU.length aU) (kU : aU.length ≤ fI) (h : aV.f k ai jk bH aU = some r),
  Calls Tryd.prog 33 #[.agg #[.int .i64 ai, .slice A0_1 jk.length c0_1], .agg #[.int .i64 bH, .slice gD aU.length fI]] w fun e w' => e = .returned (.bool r) ∧ Below w.heap.size w w' := by
 induction k using Nat.strongRecOn with
 | _ k ih =>
 intro ai A0_1 c0_1 jk bH gD fI aU r w hr0_1 hc0_1 kT kU h; cases k with
 | zero => exact absurd h (by simp [aV.f])
 | succ k =>
 simp only [aV.f] at h; have zh := Tryd.underlying51; have HR0_1 := aa.mk hr0_1; have HC0_1 := aa.mk hc0_1; clear hr0_1 hc0_1; have mq := aa.mk kT; have qd := aa.mk kU; clear kT kU; have HB := aa.mk (Below.refl w.heap.size w); have H : (if ai = bH then (aV.j0 k ((jk.length : Int) != (aU.length : Int)) ai jk bH aU) else (aV.j0 k true ai jk bH aU)) = some r := h; clear h; have HC3 := aa.mk H; clear H; go_enter Tryd.func33, Tryd.ntmps33; go_upto_region 1 with (first | ((with_reducible refine aY (N := 2) rfl ?_); (try (refine bY (by rfl) ?_; dsimp only)); refine aZ ?hg (N := 2) ?hd (cs := #[.int .i64 ai, .slice A0_1 jk.length c0_1]) (t := 51) ?hr ?_; (case hd => rfl); (case hg => rfl); (case hr => first | (go_simp; done) | (go_simp; rfl)); intro JR hg w4 aK hb; have jX := aa.mk (aK); have GW607 : aa (w.heap.size ≤ JR) := gw_ hg (aG bl_); have GE607 := GW607; replace HB := aa.mk (au bl_ hb); clear hb aK hg) | ((with_reducible refine aY (N := 3) rfl ?_); (try (refine bY (by rfl) ?_; dsimp only)); refine aZ ?hg (N := 3) ?hd (cs := #[.int .i64 bH, .slice gD aU.length fI]) (t := 51) ?hr ?_; (case hd => rfl); (case hg => rfl); (case hr => first | (go_simp; done) | (go_simp; rfl)); intro JS hg w5 aK hb; have mY := aa.mk (aK); have GW608 : aa (w.heap.size ≤ JS) := gw_ hg (aG bl_); have GE608 := GW608; have Dw := nl_ jX hg; have Dx := ng_ jX hg; replace jX := kb_ jX hb; replace HB := aa.mk (au bl_ hb); clear hb aK hg))
 (try simp only [Act.put, List.setIfInBounds_toArray, List.set_cons_zero, List.set_cons_succ])
 go_cut [19] (fun v19 wc => ∃ (kq : Nat) (x19_2 : Bool), v19 = .bool x19_2 ∧ aa (aV.j0 kq x19_2 ai jk bH aU = some r) ∧ aa (kq ≤ k) ∧ aa (wc.heap[JR]? = some (.cells #[.int .i64 ai, (.slice A0_1 jk.length c0_1)] 51 (0, 0))) ∧ aa (wc.heap[JS]? = some (.cells #[.int .i64 bH, (.slice gD aU.length fI)] 51 (0, 0))) ∧ aa (Below w.heap.size w wc))
 case first =>
  have H := HC3.out; clear HC3; by_cases c6 : ai = bH
  ·rw [if_pos c6] at H; have oN : (ai == bH) = true := beq_iff_eq.mpr c6; have c6b1 : (ai != bH) = false := bne_eq_false_iff_eq.mpr c6; clear c6; (first | rw [oN] | (simp only [eT, eY]; rw [oN]) | skip)
   have H' := aa.mk H; clear H; have hnb7 := Dw.out; have hnc7 := Dx.out; obtain ⟨uq, uu, uw, uy⟩ := eQ jX.out; obtain ⟨uj, uk, um, uo⟩ := eQ mY.out; go_wp2; go_meet
   case rel => exact ⟨_, (((jk.length : Int) != (aU.length : Int))), rs_, H', ⟨by first | omega | exact Nat.le_refl _⟩, ⟨bk_⟩, ⟨bk_⟩, ⟨bl_⟩⟩
  ·rw [if_neg c6] at H; have oN : (ai == bH) = false := beq_eq_false_iff_ne.mpr c6; have c6b1 : (ai != bH) = true := bne_iff_ne.mpr c6; (first | rw [oN] | (simp only [eT, eY]; rw [oN]) | skip)
   have H' := aa.mk H; clear H; have hnb10 := Dw.out; have hnc10 := Dx.out; obtain ⟨qp, qw, qx, qy⟩ := eQ jX.out; obtain ⟨lX, lY, lZ, l5⟩ := eQ mY.out; go_wp2; go_meet
   case rel => exact ⟨_, (true), rs_, H', ⟨by first | omega | exact Nat.le_refl _⟩, ⟨bk_⟩, ⟨bk_⟩, ⟨bl_⟩⟩
 case rest =>
  clear HC3; (try clear c1); (try clear p2); (try clear c3); (try clear c6); (try clear oN); (try clear c6b1); (try clear c7); (try clear c10); (try clear qp qw qx qy); (try clear lX lY lZ l5); (try clear uq uu uw uy); (try clear uj uk um uo); obtain ⟨kq, x19_2, rfl, HA, HJ2, jX, mY, HB⟩ := hcut; cases kq with
  | zero => exact absurd HA.out (by simp [aV.j0])
  | succ kj2 =>
   have H := HA.out; clear HA; simp only [aV.j0] at H; by_cases c13 : x19_2 = true
   ·subst c13; have H1 : (some false) = some r := by rw [if_pos rfl] at H; exact H
    clear H; have H := H1; clear H1; obtain rfl := Option.some.inj H; go_wp2; go_ret; exact ⟨re_, bl_⟩
   ·replace c13 := Bool.eq_false_iff.mpr c13; subst c13; have H1 : (aV.l0 kj2 0 ai jk bH aU) = some r := by rw [if_neg (show ¬ (false = true) by decide)] at H; exact H
    clear H; have H := H1; clear H1; have H' := aa.mk H; clear H; go_wp2; go_loopg [5] kj2 (fun kq v5 w' => ∃ (dV : Int), v5 = .int .i64 dV ∧ aa (aV.l0 kq dV ai jk bH aU = some r) ∧ aa (kq ≤ kj2) ∧ aa (w'.heap[JR]? = some (.cells #[.int .i64 ai, (.slice A0_1 jk.length c0_1)] 51 (0, 0))) ∧ aa (w'.heap[JS]? = some (.cells #[.int .i64 bH, (.slice gD aU.length fI)] 51 (0, 0))) ∧ aa (Below w.heap.size w w'))
    case atStart => exact ⟨(0), rs_, H', ⟨Nat.le_refl _⟩, ⟨bk_⟩, ⟨bk_⟩, ⟨bl_⟩⟩
    case round =>
     clear H'; (try clear c1); (try clear p2); (try clear c3); (try clear c6); (try clear oN); (try clear c6b1); (try clear c7); (try clear c10); (try clear c13); (try clear qp qw qx qy); (try clear lX lY lZ l5); (try clear uq uu uw uy); (try clear uj uk um uo); (try clear p2); obtain ⟨dV, rfl, HA, HK2, jX, mY, HB⟩ := hrel; cases gk with
     | zero => exact absurd HA.out (by simp [aV.l0])
     | succ k2 =>
      have H := HA.out; clear HA; simp only [aV.l0] at H; by_cases c14 : dV < (jk.length : Int)
      ·rw [if_pos c14] at H; have rW : decide (dV < (jk.length : Int)) = true := decide_eq_true c14; clear c14; by_cases c15 : 0 ≤ dV
       ·rw [if_pos c15] at H; have oZ : decide (0 ≤ dV) = true := decide_eq_true c15; clear c15; by_cases c16 : dV < (aU.length : Int)
        ·rw [if_pos c16] at H; have c16b0 : decide (dV < (aU.length : Int)) = true := decide_eq_true c16; clear c16; replace H := Option.bind_eq_some_iff.mp H; obtain ⟨t611, A170, H⟩ := H; replace H : (if t611 = true then (aV.l0 k2 (wrap64 (dV + 1)) ai jk bH aU) else (some false)) = some r := H; have A17 := aa.mk A170; clear A170; by_cases c18 : t611 = true
         ·subst c18; have H1 : (aV.l0 k2 (wrap64 (dV + 1)) ai jk bH aU) = some r := by rw [if_pos rfl] at H; exact H
          clear H; have H := H1; clear H1; have H' := aa.mk H; clear H; have hnb19 := Dw.out; have hnc19 := Dx.out; obtain ⟨zC, zD, zF, zG⟩ := eQ jX.out; try go_wp2
          replace jX := aa.mk (ak jX.out); replace mY := aa.mk (ak mY.out); replace HB := aa.mk (bU HB.out); have p609 : 0 ≤ (dV : Int) := dt_; have q609 : dV < (jk.length : Int) := dt_; obtain ⟨Eb, KI, KJ, e609, yA, yB, Jc, Jd⟩ := vN HR0_1.out dV p609 q609; have yC := yB; have yD := yA; cases e609; replace yA := hc_ HB yA; replace yB := hc_ HB yB; have Je := aa.mk Jd; have Si := aa.mk Jc; clear Jd Jc; replace p609 := eq_true p609; replace q609 := eq_true q609; have p610 : 0 ≤ (dV : Int) := dt_; have q610 : dV < (aU.length : Int) := dt_; obtain ⟨Ec, KL, KM, e610, yE, yF, Jf, Jg⟩ := vN mq.out dV p610 q610; have yG := yF; have yH := yE; cases e610; replace yE := hc_ HB yE; replace yF := hc_ HB yF; have Jh := aa.mk Jg; have Sj := aa.mk Jf; clear Jg Jf; replace p610 := eq_true p610; replace q610 := eq_true q610; refine r9 (n := 12) (S := fun w' => w'.cell? ⟨JR, 0, none⟩ = some (.int .i64 ai) ∧ w'.cell? ⟨JR, 1, none⟩ = some (.slice (some Eb) jk.length c0_1) ∧ w'.cell? ⟨JS, 0, none⟩ = some (.int .i64 bH) ∧ w'.cell? ⟨JS, 1, none⟩ = some (.slice (some Ec) aU.length fI) ∧ w'.cell? (Eb.add ((dV).toNat * 2)) = some (.int .i64 ((bB jk dV).f0)) ∧ w'.cell? ⟨(Eb.add ((dV).toNat * 2)).block, (Eb.add ((dV).toNat * 2)).off + 1, none⟩ = some (.slice KI ((bB jk dV).f1).length KJ) ∧ w'.cell? (Ec.add ((dV).toNat * 2)) = some (.int .i64 ((bB aU dV).f0)) ∧ w'.cell? ⟨(Ec.add ((dV).toNat * 2)).block, (Ec.add ((dV).toNat * 2)).off + 1, none⟩ = some (.slice KL ((bB aU dV).f1).length KM)) (ds := []) #[false, false, false, false, false, false, false, false, false, false, false, false] (by kernel_rfl) rfl rfl ⟨(aC jX.out 0).trans rfl, (aC jX.out 1).trans rfl, (aC mY.out 0).trans rfl, (aC mY.out 1).trans rfl, ((HB.out.cell (World.block_lt_of_cell? w _ yD)).trans yD), ((HB.out.cell (World.block_lt_of_cell? w _ yC)).trans yC), ((HB.out.cell (World.block_lt_of_cell? w _ yH)).trans yH), ((HB.out.cell (World.block_lt_of_cell? w _ yG)).trans yG)⟩ (fun hHeld => ?_); refine lK aV.tab6 aV.Na (fun HT_ HW_ => ?_)
          generalize wr.drew = w21 at jX mY HB Je Jh yA yB yE yF hHeld ⊢
          refine pu_ HT_ 0 27 (bm 12 1) ?_
          refine pu_ HT_ 2 29 (bm 12 5) ?_
          refine pu_ HT_ 5 32 (bm 12 37) ?_
          refine pu_ HT_ 7 34 (bm 12 165) ?_
          refine ta_ HT_ HW_ 1 28 (bm 12 167) hHeld ?_
          refine pu_ HT_ 3 30 (bm 12 175) ?_
          refine ta_ HT_ HW_ 4 31 (bm 12 191) hHeld ?_
          refine ta_ HT_ HW_ 6 33 (bm 12 255) hHeld ?_
          refine pu_ HT_ 8 35 (bm 12 511) ?_
          refine ta_ HT_ HW_ 9 36 (bm 12 1023) hHeld ?_
          refine oL (i := 10) (N := some 37) #[true, true, true, true, true, true, true, true, true, true, true, false] rfl rfl (iy HT_.out (by kernel_rfl)) (by decide) (fun K hK => ?_)
          refine tQ Tryd.func33 (by kernel_rfl) rfl #[.agg #[.int .i64 ((bB jk dV).f0), .slice KI ((bB jk dV).f1).length KJ], .agg #[.int .i64 ((bB aU dV).f0), .slice KL ((bB aU dV).f1).length KM]] (by rfl) rfl rfl mp_ ?_
          with_reducible refine (ih k2 (by have := HJ2.out; have := HK2.out; omega) ((bB jk dV).f0) _ _ ((bB jk dV).f1) ((bB aU dV).f0) _ _ ((bB aU dV).f1) true _ ?aQ ?aT ?dK ?dL A17.out).mono ?_
          (case aQ => exact cb_ (Kd.bA Je.out HB.out))
          (case aT => exact Si.out)
          (case dK => exact cb_ (Kd.bA Jh.out HB.out))
          (case dL => exact Sj.out)
          rintro e w22 ⟨rfl, hb⟩
          refine ⟨_, rfl, ?_⟩
          replace jX := kb_ jX hb; replace mY := kb_ mY hb; replace HB := aa.mk (au bl_ hb); (try clear hb)
          (try clear hb2)
          (try clear hk)
          (try clear hi)
          refine hK.out _ _ ⟨(aC jX.out 0).trans rfl, (aC jX.out 1).trans rfl, (aC mY.out 0).trans rfl, (aC mY.out 1).trans rfl, ((HB.out.cell (World.block_lt_of_cell? w _ yD)).trans yD), ((HB.out.cell (World.block_lt_of_cell? w _ yC)).trans yC), ((HB.out.cell (World.block_lt_of_cell? w _ yH)).trans yH), ((HB.out.cell (World.block_lt_of_cell? w _ yG)).trans yG)⟩ (fun hHeld => ?_)
          clear hK K; refine kS (a' := ?_) ?_ ?_
          rotate_left
          ·show Act.put _ (some 37) _ = _
           simp only [Act.put, List.setIfInBounds_toArray, List.set_cons_zero, List.set_cons_succ, eT, eY]; rfl
          refine pu_ HT_ 11 38 #[true, true, true, true, true, true, true, true, true, true, true, true] ?_
          refine wP (pF HT_.out (by kernel_rfl)) ?_
          try go_wp2
          go_roundg k2
          case measure => have := HJ2.out; have := HK2.out; omega
          case rel => exact ⟨(wrap64 (dV + 1)), rs_, H', ⟨by have := HJ2.out; have := HK2.out; omega⟩, ⟨bk_⟩, ⟨bk_⟩, ⟨bl_⟩⟩
         ·replace c18 := Bool.eq_false_iff.mpr c18; subst c18; have H1 : (some false) = some r := by rw [if_neg (show ¬ (false = true) by decide)] at H; exact H
          clear H; have H := H1; clear H1; obtain rfl := Option.some.inj H; have hnb23 := Dw.out; have hnc23 := Dx.out; obtain ⟨zH, zI, zJ, zK⟩ := eQ jX.out; try go_wp2
          replace jX := aa.mk (ak jX.out); replace mY := aa.mk (ak mY.out); replace HB := aa.mk (bU HB.out); have p609 : 0 ≤ (dV : Int) := dt_; have q609 : dV < (jk.length : Int) := dt_; obtain ⟨Eb, KI, KJ, e609, yA, yB, Jc, Jd⟩ := vN HR0_1.out dV p609 q609; have yC := yB; have yD := yA; cases e609; replace yA := hc_ HB yA; replace yB := hc_ HB yB; have Je := aa.mk Jd; have Si := aa.mk Jc; clear Jd Jc; replace p609 := eq_true p609; replace q609 := eq_true q609; have p610 : 0 ≤ (dV : Int) := dt_; have q610 : dV < (aU.length : Int) := dt_; obtain ⟨Ec, KL, KM, e610, yE, yF, Jf, Jg⟩ := vN mq.out dV p610 q610; have yG := yF; have yH := yE; cases e610; replace yE := hc_ HB yE; replace yF := hc_ HB yF; have Jh := aa.mk Jg; have Sj := aa.mk Jf; clear Jg Jf; replace p610 := eq_true p610; replace q610 := eq_true q610; refine r9 (n := 12) (S := fun w' => w'.cell? ⟨JR, 0, none⟩ = some (.int .i64 ai) ∧ w'.cell? ⟨JR, 1, none⟩ = some (.slice (some Eb) jk.length c0_1) ∧ w'.cell? ⟨JS, 0, none⟩ = some (.int .i64 bH) ∧ w'.cell? ⟨JS, 1, none⟩ = some (.slice (some Ec) aU.length fI) ∧ w'.cell? (Eb.add ((dV).toNat * 2)) = some (.int .i64 ((bB jk dV).f0)) ∧ w'.cell? ⟨(Eb.add ((dV).toNat * 2)).block, (Eb.add ((dV).toNat * 2)).off + 1, none⟩ = some (.slice KI ((bB jk dV).f1).length KJ) ∧ w'.cell? (Ec.add ((dV).toNat * 2)) = some (.int .i64 ((bB aU dV).f0)) ∧ w'.cell? ⟨(Ec.add ((dV).toNat * 2)).block, (Ec.add ((dV).toNat * 2)).off + 1, none⟩ = some (.slice KL ((bB aU dV).f1).length KM)) (ds := []) #[false, false, false, false, false, false, false, false, false, false, false, false] (by kernel_rfl) rfl rfl ⟨(aC jX.out 0).trans rfl, (aC jX.out 1).trans rfl, (aC mY.out 0).trans rfl, (aC mY.out 1).trans rfl, ((HB.out.cell (World.block_lt_of_cell? w _ yD)).trans yD), ((HB.out.cell (World.block_lt_of_cell? w _ yC)).trans yC), ((HB.out.cell (World.block_lt_of_cell? w _ yH)).trans yH), ((HB.out.cell (World.block_lt_of_cell? w _ yG)).trans yG)⟩ (fun hHeld => ?_); refine lK aV.tab6 aV.Na (fun HT_ HW_ => ?_)
          generalize wr.drew = w25 at jX mY HB Je Jh yA yB yE yF hHeld ⊢
          refine pu_ HT_ 0 27 (bm 12 1) ?_
          refine pu_ HT_ 2 29 (bm 12 5) ?_
          refine pu_ HT_ 5 32 (bm 12 37) ?_
          refine pu_ HT_ 7 34 (bm 12 165) ?_
          refine ta_ HT_ HW_ 1 28 (bm 12 167) hHeld ?_
          refine pu_ HT_ 3 30 (bm 12 175) ?_
          refine ta_ HT_ HW_ 4 31 (bm 12 191) hHeld ?_
          refine ta_ HT_ HW_ 6 33 (bm 12 255) hHeld ?_
          refine pu_ HT_ 8 35 (bm 12 511) ?_
          refine ta_ HT_ HW_ 9 36 (bm 12 1023) hHeld ?_
          refine oL (i := 10) (N := some 37) #[true, true, true, true, true, true, true, true, true, true, true, false] rfl rfl (iy HT_.out (by kernel_rfl)) (by decide) (fun K hK => ?_)
          refine tQ Tryd.func33 (by kernel_rfl) rfl #[.agg #[.int .i64 ((bB jk dV).f0), .slice KI ((bB jk dV).f1).length KJ], .agg #[.int .i64 ((bB aU dV).f0), .slice KL ((bB aU dV).f1).length KM]] (by rfl) rfl rfl mp_ ?_
          with_reducible refine (ih k2 (by have := HJ2.out; have := HK2.out; omega) ((bB jk dV).f0) _ _ ((bB jk dV).f1) ((bB aU dV).f0) _ _ ((bB aU dV).f1) false _ ?aQ ?aT ?dK ?dL A17.out).mono ?_
          (case aQ => exact cb_ (Kd.bA Je.out HB.out))
          (case aT => exact Si.out)
          (case dK => exact cb_ (Kd.bA Jh.out HB.out))
          (case dL => exact Sj.out)
          rintro e w26 ⟨rfl, hb⟩
          refine ⟨_, rfl, ?_⟩
          replace jX := kb_ jX hb; replace mY := kb_ mY hb; replace HB := aa.mk (au bl_ hb); (try clear hb)
          (try clear hb2)
          (try clear hk)
          (try clear hi)
          refine hK.out _ _ ⟨(aC jX.out 0).trans rfl, (aC jX.out 1).trans rfl, (aC mY.out 0).trans rfl, (aC mY.out 1).trans rfl, ((HB.out.cell (World.block_lt_of_cell? w _ yD)).trans yD), ((HB.out.cell (World.block_lt_of_cell? w _ yC)).trans yC), ((HB.out.cell (World.block_lt_of_cell? w _ yH)).trans yH), ((HB.out.cell (World.block_lt_of_cell? w _ yG)).trans yG)⟩ (fun hHeld => ?_)
          clear hK K; refine kS (a' := ?_) ?_ ?_
          rotate_left
          ·show Act.put _ (some 37) _ = _
           simp only [Act.put, List.setIfInBounds_toArray, List.set_cons_zero, List.set_cons_succ, eT, eY]; rfl
          refine pu_ HT_ 11 38 #[true, true, true, true, true, true, true, true, true, true, true, true] ?_
          refine wP (pF HT_.out (by kernel_rfl)) ?_
          try go_wp2
          go_ret; exact ⟨re_, bl_⟩
        ·rw [if_neg c16] at H; exact absurd H (by simp)
       ·rw [if_neg c15] at H; exact absurd H (by simp)
      ·rw [if_neg c14] at H; have rW : decide (dV < (jk.length : Int)) = false := decide_eq_false c14; clear c14; obtain rfl := Option.some.inj H; have Js := Dw.out; have Jt := Dx.out; obtain ⟨l6, l7, l8, l9⟩ := eQ jX.out; go_wp2; go_ret; exact ⟨re_, bl_⟩

end Go.Proofs.YtggelekooacmnaaDoor.Q
set_option linter.unusedVariables false
set_option linter.unusedSimpArgs false
namespace Go.Proofs.YtggelekooacmnaaDoor.Pure
open Go.RowKit Go.Proofs.YtggelekooacmnaaDoor.Q Go.Proofs.YtggelekooacmnaaDoorW.bg Go.Proofs.YtggelekooacmnaaDoorW.bP Go.Proofs.YtggelekooacmnaaDoorW.bX
-- Same and Compare of values
theorem vsame_l0 (v0 w0 : Int) (vs ws : List S51) (hl : vs.length = ws.length) (hb : vs.length ≤ 1000) (f : Nat → Bool) (ih : ∀ (i : Nat) (h : i < vs.length) (h' : i < ws.length), Ev (fun k => aV.f k vs[i].f0 vs[i].f1 ws[i].f0 ws[i].f1) (f i)) :
    ∀ (d i : Nat), i + d = vs.length → ∃ b, Ev (fun k => aV.l0 k i v0 vs w0 ws) b ∧ (b = true ↔ ∀ j, i ≤ j → j < vs.length → f j = true) := by
  intro d
  induction d with
  | zero =>
    intro i hi
    refine ⟨true, ⟨1, fun k hk => ?_⟩, ⟨fun _ j h1 h2 => by omega, fun _ => rfl⟩⟩
    obtain ⟨k, rfl⟩ : ∃ j, k = j + 1 := ⟨k - 1, by omega⟩
    simp only [aV.l0]
    rw [if_neg (by omega)]
  | succ d IH =>
    intro i hi
    have hlt : i < vs.length := by omega
    have hlt' : i < ws.length := by omega
    obtain ⟨K1, e1⟩ := ih i hlt hlt'
    obtain ⟨b, ⟨K2, e2⟩, hbb⟩ := IH (i + 1) (by omega)
    cases hf : f i with
    | true =>
      refine ⟨b, ⟨max K1 K2 + 1, fun k hk => ?_⟩, ⟨fun h j h1 h2 => ?_, fun h => hbb.2 fun j h1 h2 => h j (by omega) h2⟩⟩
      · obtain ⟨k, rfl⟩ : ∃ j, k = j + 1 := ⟨k - 1, by omega⟩
        have e1' := e1 k (by omega)
        have e2' := e2 k (by omega)
        dsimp only at e1' e2'
        simp only [aV.l0]
        rw [if_pos (by omega), if_pos (by omega), if_pos (by omega), rdV hlt, rdV hlt', e1', Option.bind_some, hf, if_pos rfl, jE (by omega), e2']
      · by_cases e : j = i
        · rw [e]; exact hf
        · exact hbb.1 h j (by omega) h2
    | false =>
      refine ⟨false, ⟨K1 + 1, fun k hk => ?_⟩, ⟨fun h => (by cases h), fun h => (by rw [h i (Nat.le_refl _) hlt] at hf; cases hf)⟩⟩
      obtain ⟨k, rfl⟩ : ∃ j, k = j + 1 := ⟨k - 1, by omega⟩
      have e1' := e1 k (by omega)
      dsimp only at e1'
      simp only [aV.l0]
      rw [if_pos (by omega), if_pos (by omega), if_pos (by omega), rdV hlt, rdV hlt', e1', Option.bind_some, hf, if_neg (by decide)]
theorem same_ev (m : Nat) : ∀ {v w : S51}, Bv m v → ∃ b, Ev (fun k => aV.f k v.f0 v.f1 w.f0 w.f1) b ∧ (b = true ↔ v = w) := by
  induction m with
  | zero => intro v w h; exact h.elim
  | succ m ih =>
    intro v w h
    obtain ⟨v0, vs⟩ := v
    obtain ⟨w0, ws⟩ := w
    have hb : vs.length ≤ 1000 := h.1
    have off : (v0 ≠ w0 ∨ vs.length ≠ ws.length) → ∃ b, Ev (fun k => aV.f k v0 vs w0 ws) b ∧ (b = true ↔ (⟨v0, vs⟩ : S51) = ⟨w0, ws⟩) := by
      intro hne
      refine ⟨false, ⟨2, fun k hk => ?_⟩, ⟨fun h => (by cases h), fun h => (by injection h with h1 h2; subst h1; subst h2; simp at hne)⟩⟩
      obtain ⟨k, rfl⟩ : ∃ j, k = j + 2 := ⟨k - 2, by omega⟩
      simp only [aV.f]
      by_cases h0 : v0 = w0
      · rw [if_pos h0, show ((vs.length : Int) != (ws.length : Int)) = true from by simp; omega]
        simp only [aV.j0, if_true]
      · rw [if_neg h0]
        simp only [aV.j0, if_true]
    by_cases h0 : v0 = w0
    · by_cases h1 : vs.length = ws.length
      · subst h0
        have hf : ∃ f : Nat → Bool, ∀ (i : Nat) (h : i < vs.length) (h' : i < ws.length), Ev (fun k => aV.f k vs[i].f0 vs[i].f1 ws[i].f0 ws[i].f1) (f i) ∧ (f i = true ↔ vs[i] = ws[i]) := by
          have hx : ∀ i : Nat, ∃ b : Bool, ∀ (h : i < vs.length) (h' : i < ws.length), Ev (fun k => aV.f k vs[i].f0 vs[i].f1 ws[i].f0 ws[i].f1) b ∧ (b = true ↔ vs[i] = ws[i]) := by
            intro i
            by_cases hi : i < vs.length
            · obtain ⟨b, e1, e2⟩ := ih (v := vs[i]) (w := ws[i]'(by omega)) (h.2 _ (List.getElem_mem hi))
              exact ⟨b, fun _ _ => ⟨e1, e2⟩⟩
            · exact ⟨true, fun h => absurd h hi⟩
          exact ⟨fun i => (hx i).choose, fun i h h' => (hx i).choose_spec h h'⟩
        obtain ⟨f, hf⟩ := hf
        obtain ⟨b, ⟨K, e⟩, hbb⟩ := vsame_l0 v0 v0 vs ws h1 hb f (fun i h h' => (hf i h h').1) vs.length 0 (by omega)
        refine ⟨b, ⟨K + 2, fun k hk => ?_⟩, ⟨fun hq => ?_, fun hq => ?_⟩⟩
        · obtain ⟨k, rfl⟩ : ∃ j, k = j + 2 := ⟨k - 2, by omega⟩
          simp only [aV.f]
          rw [if_pos trivial, show ((vs.length : Int) != (ws.length : Int)) = false from by simp; omega]
          simp only [aV.j0]
          rw [if_neg (by decide)]
          exact e k (by omega)
        · have : vs = ws := List.ext_getElem h1 fun i h2 h3 => (hf i h2 h3).2.1 (hbb.1 hq i (Nat.zero_le _) h2)
          rw [this]
        · injection hq with _ hq
          subst hq
          exact hbb.2 fun j _ h2 => (hf j h2 h2).2.2 rfl
      · exact off (.inr h1)
    · exact off (.inl h0)
theorem cmp_f (a b : Int) : cmp_Compare_int.f a b = some (if a < b then -1 else if b < a then 1 else 0) := by
  unfold cmp_Compare_int.f cmp_isNaN_int.f
  simp only [bne_self_eq_false, Option.bind_some]
  rw [if_neg (by decide), if_neg (by decide)]
  split
  · rfl
  · split
    · rfl
    · rfl
theorem XH (l m : List Int) (hb : l.length ≤ 1000) : ∀ (d i : Nat), i + d = l.length → i ≤ m.length → Ev (fun k => bK.l0 k l m l l.length i) (cmpL (l.drop i) (m.drop i)) := by
  intro d
  induction d with
  | zero =>
    intro i hi hm
    refine ⟨1, fun k hk => ?_⟩
    obtain ⟨k, rfl⟩ : ∃ j, k = j + 1 := ⟨k - 1, by omega⟩
    simp only [bK.l0]
    rw [if_neg (by omega), List.drop_eq_nil_of_le (show l.length ≤ i by omega)]
    by_cases h : i < m.length
    · rw [if_pos (by omega), List.drop_eq_getElem_cons h]; rfl
    · rw [if_neg (by omega), List.drop_eq_nil_of_le (by omega)]; rfl
  | succ d IH =>
    intro i hi hm
    have hlt : i < l.length := by omega
    by_cases h : i < m.length
    · obtain ⟨K2, e2⟩ := IH (i + 1) (by omega) (by omega)
      refine ⟨K2 + 1, fun k hk => ?_⟩
      obtain ⟨k, rfl⟩ : ∃ j, k = j + 1 := ⟨k - 1, by omega⟩
      have e2' := e2 k (by omega)
      dsimp only at e2'
      have r1 : rd l (i : Int) = l[i] := by simp [rd, List.getD, hlt]
      have r2 : rd m (i : Int) = m[i] := by simp [rd, List.getD, h]
      simp only [bK.l0]
      rw [if_pos (by omega), if_pos (by omega), if_pos (by omega), if_neg (by omega), if_pos (by omega), r1, r2, cmp_f, Option.bind_some, jE (by omega), e2', List.drop_eq_getElem_cons hlt, List.drop_eq_getElem_cons h]
      simp only [cmpL]
      split
      · rw [if_neg (by decide)]
      · split
        · rw [if_neg (by decide)]
        · rw [if_pos rfl]
    · refine ⟨1, fun k hk => ?_⟩
      obtain ⟨k, rfl⟩ : ∃ j, k = j + 1 := ⟨k - 1, by omega⟩
      simp only [bK.l0]
      rw [if_pos (by omega), if_pos (by omega), if_pos (by omega), if_pos (by omega), List.drop_eq_getElem_cons hlt, List.drop_eq_nil_of_le (show m.length ≤ i by omega)]; rfl
theorem XI {t : S24} {a b : S51} {m : Nat} (hv : Vt 10 t) (hl : (prt 10 t).length ≤ 24) (h4 : t.f0 ≠ 4) (ha : Bv m a) (hb : Bv m b) (hm : 10 ≤ m) (ca : chk 10 t a = 0) (cb : chk 10 t b = 0) :
    Ev (fun k => iH.f k t.f0 t.f1 t.f2 t.f3 t.f4 a.f0 a.f1 b.f0 b.f1) (cmpL (cel 10 t a) (cel 10 t b), 0) := by
  obtain ⟨K1, e1⟩ := Qe hv hl h4 ha hm ca
  obtain ⟨K2, e2⟩ := Qe hv hl h4 hb hm cb
  obtain ⟨K3, e3⟩ := XH (cel 10 t a) (cel 10 t b) (by rw [M0 10 hv ca]; omega) (cel 10 t a).length 0 (by omega) (by omega)
  dsimp only [at2] at e1 e2
  refine ⟨K1 + K2 + K3, fun k hk => ?_⟩
  have e3' := e3 k (by omega)
  simp only [List.drop_zero] at e3'
  simp only [iH.f]
  rw [e1 k (by omega), Option.bind_some, if_pos rfl, e2 k (by omega), Option.bind_some, if_pos rfl]
  simp only [bK.f]
  rw [show ((0 : Nat) : Int) = 0 from rfl] at e3'
  rw [e3', Option.bind_some]

end Go.Proofs.YtggelekooacmnaaDoor.Pure
namespace Go.Proofs.YtggelekooacmnaaDoor.Q
open Go.RowKit Go.Proofs.YtggelekooacmnaaDoorW.bg Go.Proofs.YtggelekooacmnaaDoorW.bP Go.Proofs.YtggelekooacmnaaDoorW.bX
attribute [local go_sem] ek eu fw fA dH dI eB eD   -- for this text's walks alone
set_option linter.unusedVariables false
set_option linter.unusedSimpArgs false

/-! ### jY: function 71 -/
def jY.f (a0 : Int) : Option ByteArray := if -9223372036854775808 ≤ a0 ∧ a0 ≤ 9223372036854775807 then some ⟨(Lib.itoa a0).toArray⟩ else none
theorem jY.calls (a0 : Int) (r : ByteArray) (w : World) (h : jY.f a0 = some r) (htab : sj w.heap.size w) :
    Calls Tryd.prog 71 #[.int .i64 a0] w fun e w' => e = .returned (.string r) ∧ Below w.heap.size w w' := by
  unfold jY.f at h
  by_cases h0 : -9223372036854775808 ≤ a0 ∧ a0 ≤ 9223372036854775807
  · rw [if_pos h0] at h
    obtain rfl := Option.some.inj h
    refine (Tryd.strconv_Itoa a0 h0.1 h0.2 w htab.here).mono ?_
    rintro e w' ⟨rfl, k, os, rfl⟩
    exact ⟨rfl, Ux w k os⟩
  · rw [if_neg h0] at h; cases h

end Go.Proofs.YtggelekooacmnaaDoor.Q
namespace Go.Proofs.YtggelekooacmnaaDoor.Q
open Go.RowKit Go.Proofs.YtggelekooacmnaaDoorW.bg Go.Proofs.YtggelekooacmnaaDoorW.bP Go.Proofs.YtggelekooacmnaaDoorW.bX
attribute [local go_sem] ek eu fw fA dH dI eB eD   -- for this text's walks alone
set_option linter.unusedVariables false
set_option linter.unusedSimpArgs false

/-! ### strings_Join: function 72 -/
def strings_Join.f (l0 : List ByteArray) (a1 : ByteArray) : Option ByteArray := if l0.length ≤ 140737488355328 ∧ (Lib.join (l0.map (·.data.toList)) a1.data.toList).length ≤ 140737488355328 then some ⟨(Lib.join (l0.map (·.data.toList)) a1.data.toList).toArray⟩ else none
theorem strings_Join.calls (A0 : Option Addr) (c0 : Nat) (l0 : List ByteArray) (a1 : ByteArray) (r : ByteArray) (w : World) (hr0 : Kd.C Kd.string w A0 l0.length l0) (hc0 : l0.length ≤ c0) (h : strings_Join.f l0 a1 = some r) :
    Calls Tryd.prog 72 #[.slice A0 l0.length c0, .string a1] w fun e w' => e = .returned (.string r) ∧ Below w.heap.size w w' := by
  unfold strings_Join.f at h
  by_cases h0 : l0.length ≤ 140737488355328 ∧ (Lib.join (l0.map (·.data.toList)) a1.data.toList).length ≤ 140737488355328
  · rw [if_pos h0] at h
    obtain rfl := Option.some.inj h
    exact Uy A0 c0 l0 a1 w hr0 hc0 h0.1 h0.2
  · rw [if_neg h0] at h; cases h

end Go.Proofs.YtggelekooacmnaaDoor.Q
namespace Go.Proofs.YtggelekooacmnaaDoor.Q
open Go.RowKit Go.Proofs.YtggelekooacmnaaDoorW.bg Go.Proofs.YtggelekooacmnaaDoorW.bP Go.Proofs.YtggelekooacmnaaDoorW.bX
attribute [local go_sem] ek eu fw fA dH dI eB eD   -- for this text's walks alone
set_option linter.unusedVariables false
set_option linter.unusedSimpArgs false

/-! ### jl: function 94 -/
def jl.f (a0 : Bool) : Option (ByteArray) := if a0 = true then (some (⟨#[116, 114, 117, 101]⟩ : ByteArray)) else (some (⟨#[102, 97, 108, 115, 101]⟩ : ByteArray))
set_option maxHeartbeats 8000000 in
set_option maxRecDepth 100000 in
theorem jl.calls (a0 : Bool) (r : ByteArray) (w : World) (h : jl.f a0 = some r) :
    Calls Tryd.prog 94 #[.bool a0] w fun e w' => e = .returned (.string r) ∧ dx w w' := by
  have H : (if a0 = true then (some (⟨#[116, 114, 117, 101]⟩ : ByteArray)) else (some (⟨#[102, 97, 108, 115, 101]⟩ : ByteArray))) = some r := h
  clear h
  by_cases c2 : a0 = true
  · subst c2
    have H1 : (some (⟨#[116, 114, 117, 101]⟩ : ByteArray)) = some r := by rw [if_pos rfl] at H; exact H
    clear H
    have H := H1
    clear H1
    obtain rfl := Option.some.inj H
    go_enter Tryd.func94, Tryd.ntmps94
    go_wp2
    go_ret
    exact ⟨by first | rfl | (simp; done) | (simp [*]; done), by repeat (first | exact dx.refl _ | apply dx.step)⟩
  · replace c2 := Bool.eq_false_iff.mpr c2
    subst c2
    have H1 : (some (⟨#[102, 97, 108, 115, 101]⟩ : ByteArray)) = some r := by rw [if_neg (show ¬ (false = true) by decide)] at H; exact H
    clear H
    have H := H1
    clear H1
    obtain rfl := Option.some.inj H
    go_enter Tryd.func94, Tryd.ntmps94
    go_wp2
    go_ret
    exact ⟨by first | rfl | (simp; done) | (simp [*]; done), by repeat (first | exact dx.refl _ | apply dx.step)⟩

end Go.Proofs.YtggelekooacmnaaDoor.Q
namespace Go.Proofs.YtggelekooacmnaaDoor.Q
open Go.RowKit Go.Proofs.YtggelekooacmnaaDoorW.bg Go.Proofs.YtggelekooacmnaaDoorW.bP Go.Proofs.YtggelekooacmnaaDoorW.bX
attribute [local go_sem] ek eu fw fA dH dI eB eD   -- for this text's walks alone
set_option linter.unusedVariables false
set_option linter.unusedSimpArgs false

/-! ### jm: function 82 -/
def jm.f (a0 : Bool) : Option (ByteArray) := (jl.f a0).bind fun t582 => (some t582)
set_option maxHeartbeats 8000000 in
set_option maxRecDepth 100000 in
theorem jm.calls (a0 : Bool) (r : ByteArray) (w : World) (h : jm.f a0 = some r) :
    Calls Tryd.prog 82 #[.bool a0] w fun e w' => e = .returned (.string r) ∧ dx w w' := by
  have H : ((jl.f a0).bind fun t582 => (some t582)) = some r := h
  clear h
  replace H := Option.bind_eq_some_iff.mp H
  obtain ⟨t582, A20, H⟩ := H
  replace H : (some t582) = some r := H
  have A2 := aa.mk A20
  clear A20
  obtain rfl := Option.some.inj H
  go_enter Tryd.func82, Tryd.ntmps82
  go_wp2_with (first | ((with_reducible refine aN (f := 94) rfl ?_); refine bJ (some 4) rfl rfl Tryd.func94 (by kernel_rfl) rfl #[.bool a0] rfl (by (try simp only [List.map_toArray, List.map_cons, List.map_nil]); first | done | rfl | (simp only [List.length_drop, List.length_take]; rfl)) ?_; (with_reducible refine (jl.calls a0 t582 _ A2.out).mono ?_); rintro e w' ⟨rfl, ⟨nd, rfl⟩⟩; refine ⟨_, rfl, ?_⟩))
  go_ret
  exact ⟨by first | rfl | (simp; done) | (simp [*]; done), by repeat (first | exact dx.refl _ | apply dx.step)⟩

end Go.Proofs.YtggelekooacmnaaDoor.Q
namespace Go.Proofs.YtggelekooacmnaaDoor.Q
open Go.RowKit Go.Proofs.YtggelekooacmnaaDoorW.bg Go.Proofs.YtggelekooacmnaaDoorW.bP Go.Proofs.YtggelekooacmnaaDoorW.bX
attribute [local go_sem] ek eu fw fA dH dI eB eD   -- for this text's walks alone
set_option linter.unusedVariables false
set_option linter.unusedSimpArgs false

/-! ### bC: function 62 -/
mutual
def bC.j0 : Nat → Bool → Int → Int → Int → Int → List (S24) → Int → List (S51) → Option (ByteArray)
 | 0, _, _, _, _, _, _, _, _ => none
 | k + 1, x15, FB, Nl, Nn, Np, Nq, Xo, Ji => if x15 = true then (if 0 ≤ (Ji.length : Int) then (if ((Ji.length : Int) : Int).toNat ≤ 17592186044416 then (bC.l0 k (List.replicate ((Ji.length : Int) : Int).toNat (⟨#[]⟩ : ByteArray)) Ji (Ji.length : Int) 0 FB Nl Nn Np Nq) else (none)) else (none)) else (if FB = 1 then ((jm.f (Xo == 1)).bind fun t601 => (some t601)) else ((jY.f Xo).bind fun t602 => (some t602)))
def bC.l0 : Nat → List ByteArray → List (S51) → Int → Int → Int → Int → Int → Int → List (S24) → Option (ByteArray)
 | 0, _, _, _, _, _, _, _, _, _ => none
 | k + 1, x5, x21, x22, x23, FB, Nl, Nn, Np, Nq => if x23 < x22 then (if 0 ≤ x23 then (if x23 < (x21.length : Int) then ((iW.f FB Nl Nn Np Nq x23).bind fun Qq => ((bC.f k Qq.1 Qq.2.1 Qq.2.2.1 Qq.2.2.2.1 Qq.2.2.2.2 ((bB x21 x23).f0) ((bB x21 x23).f1)).bind fun t597 => (if x23 < (x5.length : Int) then (bC.l0 k (x5.set (x23 : Int).toNat t597) x21 x22 (wrap64 (x23 + 1)) FB Nl Nn Np Nq) else (none)))) else (none)) else (none)) else (if FB = 5 then ((strings_Join.f x5 (⟨#[44, 32]⟩ : ByteArray)).bind fun zw => (if 1 + zw.size ≤ 9223372036854775807 then (if ((⟨#[40]⟩ : ByteArray) ++ zw).size + 1 ≤ 9223372036854775807 then (some (((⟨#[40]⟩ : ByteArray) ++ zw) ++ (⟨#[41]⟩ : ByteArray))) else (none)) else (none))) else ((strings_Join.f x5 (⟨#[44, 32]⟩ : ByteArray)).bind fun zx => (if 1 + zx.size ≤ 9223372036854775807 then (if ((⟨#[91]⟩ : ByteArray) ++ zx).size + 1 ≤ 9223372036854775807 then (some (((⟨#[91]⟩ : ByteArray) ++ zx) ++ (⟨#[93]⟩ : ByteArray))) else (none)) else (none))))
def bC.f : Nat → Int → Int → Int → Int → List (S24) → Int → List (S51) → Option (ByteArray)
 | 0, _, _, _, _, _, _, _ => none
 | k + 1, ai, az, aA, ay, af, bH, aU => if ai = 5 then (bC.j0 k true ai az aA ay af bH aU) else (bC.j0 k (ai == 6) ai az aA ay af bH aU)
end
theorem bC.fH : ∀ k, (∀ y0 y1 y2 y3 y4 y5 y6, LeO (bC.f k y0 y1 y2 y3 y4 y5 y6) (bC.f (k + 1) y0 y1 y2 y3 y4 y5 y6)) ∧ (∀ y0 y1 y2 y3 y4 y5 y6 y7, LeO (bC.j0 k y0 y1 y2 y3 y4 y5 y6 y7) (bC.j0 (k + 1) y0 y1 y2 y3 y4 y5 y6 y7)) ∧ (∀ y0 y1 y2 y3 y4 y5 y6 y7 y8, LeO (bC.l0 k y0 y1 y2 y3 y4 y5 y6 y7 y8) (bC.l0 (k + 1) y0 y1 y2 y3 y4 y5 y6 y7 y8))
 | 0 => ⟨fun _ _ _ _ _ _ _ r h => by simp [bC.f] at h, fun _ _ _ _ _ _ _ _ r h => by simp [bC.j0] at h, fun _ _ _ _ _ _ _ _ _ r h => by simp [bC.l0] at h⟩
 | k + 1 => by
  obtain ⟨ih0, ih1, ih2⟩ := bC.fH k; refine ⟨?_, ?_, ?_⟩
  ·intro y0 y1 y2 y3 y4 y5 y6; unfold bC.f; repeat' first
   | (with_reducible exact ih0 _ _ _ _ _ _ _)
   | (with_reducible exact ih1 _ _ _ _ _ _ _ _)
   | (with_reducible exact ih2 _ _ _ _ _ _ _ _ _)
   | (with_reducible exact LeO.refl _)
   | (with_reducible exact LeO.none _)
   | (with_reducible refine LeO.ite ?_ ?_)
   | (with_reducible refine LeO.bind ?_ (fun _ => ?_))
   | exact ih0 _ _ _ _ _ _ _
   | exact ih1 _ _ _ _ _ _ _ _
   | exact ih2 _ _ _ _ _ _ _ _ _
   | exact LeO.none _
   | refine LeO.ite ?_ ?_
   | refine LeO.bind ?_ (fun _ => ?_)
  ·intro y0 y1 y2 y3 y4 y5 y6 y7; unfold bC.j0; repeat' first
   | (with_reducible exact ih0 _ _ _ _ _ _ _)
   | (with_reducible exact ih1 _ _ _ _ _ _ _ _)
   | (with_reducible exact ih2 _ _ _ _ _ _ _ _ _)
   | (with_reducible exact LeO.refl _)
   | (with_reducible exact LeO.none _)
   | (with_reducible refine LeO.ite ?_ ?_)
   | (with_reducible refine LeO.bind ?_ (fun _ => ?_))
   | exact ih0 _ _ _ _ _ _ _
   | exact ih1 _ _ _ _ _ _ _ _
   | exact ih2 _ _ _ _ _ _ _ _ _
   | exact LeO.none _
   | refine LeO.ite ?_ ?_
   | refine LeO.bind ?_ (fun _ => ?_)
  ·intro y0 y1 y2 y3 y4 y5 y6 y7 y8; unfold bC.l0; repeat' first
   | (with_reducible exact ih0 _ _ _ _ _ _ _)
   | (with_reducible exact ih1 _ _ _ _ _ _ _ _)
   | (with_reducible exact ih2 _ _ _ _ _ _ _ _ _)
   | (with_reducible exact LeO.refl _)
   | (with_reducible exact LeO.none _)
   | (with_reducible refine LeO.ite ?_ ?_)
   | (with_reducible refine LeO.bind ?_ (fun _ => ?_))
   | exact ih0 _ _ _ _ _ _ _
   | exact ih1 _ _ _ _ _ _ _ _
   | exact ih2 _ _ _ _ _ _ _ _ _
   | exact LeO.none _
   | refine LeO.ite ?_ ?_
   | refine LeO.bind ?_ (fun _ => ?_)
theorem bC.mono : ∀ a0 a1 a2 a3 a4 a5 a6 k, LeO (bC.f k a0 a1 a2 a3 a4 a5 a6) (bC.f (k + 1) a0 a1 a2 a3 a4 a5 a6) := by
 intro a0 a1 a2 a3 a4 a5 a6 k; obtain ⟨ih0, ih1, ih2⟩ := bC.fH k; exact ih0 a0 a1 a2 a3 a4 a5 a6
def bC.T6 : Bool × List (List Nat × List Nat) := (true, [([], []), ([], []), ([], []), ([], []), ([2, 3], [2, 3]), ([], []), ([4, 5, 4], [4, 5]), ([0, 1, 0, 1, 2, 3, 4, 5, 6], [0, 1]), ([7, 6, 6, 0, 1, 2, 3, 4, 5, 6], [6, 7])])
def bC.B6 : List Nat := [0, 0, 0, 0, 12, 0, 60, 127, 255]
theorem bC.tab6 : kJ .any (opsOf Tryd.f62 6) = bC.T6 := by kernel_rfl
theorem bC.Na : lJ bC.T6.2 bC.B6 = true := by kernel_rfl
set_option maxHeartbeats 8000000 in
set_option maxRecDepth 100000 in
theorem bC.calls (k : Nat) : ∀ (ai : Int) (az : Int) (aA : Int) (ay : Int) (bq : Option Addr) (bf : Nat) (af : List (S24)) (bH : Int) (gD : Option Addr) (fI : Nat) (aU : List (S51)) (r : ByteArray) (w : World) (dX : Kd.C k24 w bq af.length af) (dY : af.length ≤ bf) (kT : Kd.C k51 w gD aU.length aU) (kU : aU.length ≤ fI) (h : bC.f k ai az aA ay af bH aU = some r) (htab : sj w.heap.size w),
  Calls Tryd.prog 62 #[.agg #[.int .i64 ai, .int .i64 az, .int .i64 aA, .int .i64 ay, .slice bq af.length bf], .agg #[.int .i64 bH, .slice gD aU.length fI]] w fun e w' => e = .returned (.string r) ∧ Below w.heap.size w w' := by
 induction k using Nat.strongRecOn with
 | _ k ih =>
 intro ai az aA ay bq bf af bH gD fI aU r w dX dY kT kU h htab; have HTAB := aa.mk htab; clear htab; cases k with
 | zero => exact absurd h (by simp [bC.f])
 | succ k =>
 simp only [bC.f] at h; have ou := Tryd.underlying24; have zh := Tryd.underlying51; have bV := aa.mk dX; have dz := aa.mk dY; clear dX dY; have mq := aa.mk kT; have qd := aa.mk kU; clear kT kU; have HB := aa.mk (Below.refl w.heap.size w); have H : (if ai = 5 then (bC.j0 k true ai az aA ay af bH aU) else (bC.j0 k (ai == 6) ai az aA ay af bH aU)) = some r := h; clear h; have HC3 := aa.mk H; clear H; go_enter Tryd.func62, Tryd.ntmps62; go_upto_region 1 with (first | ((with_reducible refine aY (N := 2) rfl ?_); refine aZ ?hg (N := 2) ?hd (cs := #[.int .i64 ai, .int .i64 az, .int .i64 aA, .int .i64 ay, .slice bq af.length bf]) (t := 24) ?hr ?_; (case hd => rfl); (case hg => rfl); (case hr => first | (go_simp; done) | (go_simp; rfl)); intro Bo hg w4 aK hb; have gq := aa.mk (aK); have GW583 : aa (w.heap.size ≤ Bo) := gw_ hg (aG bl_); have GE583 := GW583; replace HB := aa.mk (au bl_ hb); clear hb aK hg) | ((with_reducible refine aY (N := 3) rfl ?_); refine aZ ?hg (N := 3) ?hd (cs := #[.int .i64 bH, .slice gD aU.length fI]) (t := 51) ?hr ?_; (case hd => rfl); (case hg => rfl); (case hr => first | (go_simp; done) | (go_simp; rfl)); intro Nr hg w5 aK hb; have jQ := aa.mk (aK); have GW584 : aa (w.heap.size ≤ Nr) := gw_ hg (aG bl_); have GE584 := GW584; have wI := nl_ gq hg; have wJ := ng_ gq hg; replace gq := kb_ gq hb; replace HB := aa.mk (au bl_ hb); clear hb aK hg))
 (try simp only [Act.put, List.setIfInBounds_toArray, List.set_cons_zero, List.set_cons_succ])
 go_cut [15] (fun v15 wc => ∃ (kq : Nat) (x15_2 : Bool), v15 = .bool x15_2 ∧ aa (bC.j0 kq x15_2 ai az aA ay af bH aU = some r) ∧ aa (kq ≤ k) ∧ aa (wc.heap[Bo]? = some (.cells #[.int .i64 ai, .int .i64 az, .int .i64 aA, .int .i64 ay, (.slice bq af.length bf)] 24 (0, 0))) ∧ aa (wc.heap[Nr]? = some (.cells #[.int .i64 bH, (.slice gD aU.length fI)] 51 (0, 0))) ∧ aa (Below w.heap.size w wc))
 case first =>
  have H := HC3.out; clear HC3; by_cases c6 : ai = 5
  ·rw [if_pos c6] at H; have oN : (ai == 5) = true := beq_iff_eq.mpr c6; have c6b1 : (ai != 5) = false := bne_eq_false_iff_eq.mpr c6; clear c6; (first | rw [oN] | (simp only [eT, eY]; rw [oN]) | skip)
   have H' := aa.mk H; clear H; have hnb7 := wI.out; have hnc7 := wJ.out; obtain ⟨uq, uu, Ki, Kj, Kk, uw, uy, Kl, Km, Kn⟩ := bF gq.out; go_wp2; go_meet
   case rel => exact ⟨_, (true), rs_, H', ⟨by first | omega | exact Nat.le_refl _⟩, ⟨bk_⟩, ⟨bk_⟩, ⟨bl_⟩⟩
  ·rw [if_neg c6] at H; have oN : (ai == 5) = false := beq_eq_false_iff_ne.mpr c6; have c6b1 : (ai != 5) = true := bne_iff_ne.mpr c6; (first | rw [oN] | (simp only [eT, eY]; rw [oN]) | skip)
   have H' := aa.mk H; clear H; have hnb9 := wI.out; have hnc9 := wJ.out; obtain ⟨lM, lN, nu, ny, nz, lQ, lS, nA, nC, nD⟩ := bF gq.out; go_wp2; go_meet
   case rel => exact ⟨_, ((ai == 6)), rs_, H', ⟨by first | omega | exact Nat.le_refl _⟩, ⟨bk_⟩, ⟨bk_⟩, ⟨bl_⟩⟩
 case rest =>
  clear HC3; (try clear c1); (try clear p2); (try clear c6); (try clear oN); (try clear c6b1); (try clear c7); (try clear c9); (try clear lM lN nu ny nz lQ lS nA nC nD); (try clear uq uu Ki Kj Kk uw uy Kl Km Kn); obtain ⟨kq, x15_2, rfl, HA, HJ2, gq, jQ, HB⟩ := hcut; cases kq with
  | zero => exact absurd HA.out (by simp [bC.j0])
  | succ kj2 =>
   have H := HA.out; clear HA; simp only [bC.j0] at H; by_cases c11 : x15_2 = true
   ·subst c11; have H1 : (if 0 ≤ (aU.length : Int) then (if ((aU.length : Int) : Int).toNat ≤ 17592186044416 then (bC.l0 kj2 (List.replicate ((aU.length : Int) : Int).toNat (⟨#[]⟩ : ByteArray)) aU (aU.length : Int) 0 ai az aA ay af) else (none)) else (none)) = some r := by rw [if_pos rfl] at H; exact H
    clear H; have H := H1; clear H1; by_cases c12 : 0 ≤ (aU.length : Int)
    ·rw [if_pos c12] at H; have oV := eq_true c12; have za : decide (0 ≤ (aU.length : Int)) = true := decide_eq_true c12; clear c12; by_cases c13 : ((aU.length : Int) : Int).toNat ≤ 17592186044416
     ·rw [if_pos c13] at H; have oW := eq_true c13; have O5 : decide (((aU.length : Int) : Int).toNat ≤ 17592186044416) = true := decide_eq_true c13; clear c13; obtain ⟨y585, Qr⟩ : ∃ y_ : List ByteArray, y_ = (List.replicate ((aU.length : Int) : Int).toNat (⟨#[]⟩ : ByteArray)) := ⟨_, rfl⟩; replace H : (bC.l0 kj2 y585 aU (aU.length : Int) 0 ai az aA ay af) = some r := by first | (rw [Qr]; with_reducible exact H) | (have H2_ := (Option.bind_some _ _).symm.trans H; rw [Qr]; with_reducible exact H2_) | (have H2_ := (Option.bind_some _ _).symm.trans H; with_reducible exact H2_) | with_reducible exact H | (rw [Qr]; exact H) | exact H
      have Ny585 := aa.mk Qr; clear Qr; have H' := aa.mk H; clear H; have hnb14 := wJ.out; have hnc14 := wI.out; obtain ⟨xP, xQ, xR, xS⟩ := eQ jQ.out; go_wp2_with (first | ((with_reducible refine aY (N := 19) rfl ?_); refine Kd.R_make Kd.string _ 9 rfl (N := 19) rfl 79 _ _ rfl (aU.length : Int) rfl rfl Tryd.underlying79 (.string ⟨#[]⟩) 16 info9 rfl (by decide) (by omega) (⟨#[]⟩ : ByteArray) (ok := fun _ => True) (okp := fun _ => True) rfl (fun _ hk => hk) trivial (dt_) (Nat.le_trans (Nat.mul_le_mul_right _ (dt_ : (aU.length : Int).toNat ≤ 17592186044416)) (by omega)) (Below.refl _ _) (Nat.le_refl _) ?_; intro v586 w16 DU hb hg_ iL; clear hg_ iL; (first | rw [← Ny585.out] at DU | (simp only [Int.reduceToNat] at DU; rw [← Ny585.out] at DU)); have HO587 := aa.mk (Kd.dJ DU (aG bl_)); replace gq := kb_ gq hb; replace jQ := kb_ jQ hb; replace HB := aa.mk (au bl_ hb); clear hb DU; obtain ⟨lT, lU, lV, lW⟩ := eQ jQ.out))
      go_loopg [23] kj2 (fun kq v23 w' => ∃ (dV : List ByteArray) (fF : Int), v23 = .int .i64 fF ∧ aa (bC.l0 kq dV aU (aU.length : Int) fF ai az aA ay af = some r) ∧ aa (kq ≤ kj2) ∧ aa (Kd.R Kd.string 9 w' w.heap.size (fun _ => True) v586 dV) ∧ aa (w'.heap[Bo]? = some (.cells #[.int .i64 ai, .int .i64 az, .int .i64 aA, .int .i64 ay, (.slice bq af.length bf)] 24 (0, 0))) ∧ aa (w'.heap[Nr]? = some (.cells #[.int .i64 bH, (.slice gD aU.length fI)] 51 (0, 0))) ∧ aa (Below w.heap.size w w'))
      case atStart => exact ⟨(y585), (0), rs_, H', ⟨Nat.le_refl _⟩, ⟨pR_ HO587.out⟩, ⟨bk_⟩, ⟨bk_⟩, ⟨bl_⟩⟩
      case round =>
       clear H'; (try clear c1); (try clear p2); (try clear c6); (try clear oN); (try clear c6b1); (try clear c7); (try clear c9); (try clear c11); (try clear c12); (try clear oV); (try clear za); (try clear c13); (try clear oW); (try clear O5); (try clear c14); (try clear lM lN nu ny nz lQ lS nA nC nD); (try clear xP xQ xR xS); (try clear lT lU lV lW); (try clear uq uu Ki Kj Kk uw uy Kl Km Kn); (try clear p2); obtain ⟨dV, fF, rfl, HA, HK2, gW, gq, jQ, HB⟩ := hrel; cases gk with
       | zero => exact absurd HA.out (by simp [bC.l0])
       | succ k2 =>
        have H := HA.out; clear HA; simp only [bC.l0] at H; by_cases c19 : fF < (aU.length : Int)
        ·rw [if_pos c19] at H; have AZ : decide (fF < (aU.length : Int)) = true := decide_eq_true c19; clear c19; by_cases c20 : 0 ≤ fF
         ·rw [if_pos c20] at H; have xU : decide (0 ≤ fF) = true := decide_eq_true c20; clear c20; by_cases c21 : fF < (aU.length : Int)
          ·rw [if_pos c21] at H; have AL : decide (fF < (aU.length : Int)) = true := decide_eq_true c21; clear c21; replace H := Option.bind_eq_some_iff.mp H; obtain ⟨⟨t590, t591, t592, t593, t594⟩, A220, H⟩ := H; replace H : ((bC.f k2 t590 t591 t592 t593 t594 ((bB aU fF).f0) ((bB aU fF).f1)).bind fun t597 => (if fF < (dV.length : Int) then (bC.l0 k2 (dV.set (fF : Int).toNat t597) aU (aU.length : Int) (wrap64 (fF + 1)) ai az aA ay af) else (none))) = some r := H; have A22 := aa.mk A220; clear A220; replace H := Option.bind_eq_some_iff.mp H; obtain ⟨t597, A230, H⟩ := H; replace H : (if fF < (dV.length : Int) then (bC.l0 k2 (dV.set (fF : Int).toNat t597) aU (aU.length : Int) (wrap64 (fF + 1)) ai az aA ay af) else (none)) = some r := H; have A23 := aa.mk A230; clear A230; by_cases c24 : fF < (dV.length : Int)
           ·rw [if_pos c24] at H; have tX : decide (fF < (dV.length : Int)) = true := decide_eq_true c24; clear c24; obtain ⟨y598, Qs⟩ : ∃ y_ : List ByteArray, y_ = (dV.set (fF : Int).toNat t597) := ⟨_, rfl⟩; replace H : (bC.l0 k2 y598 aU (aU.length : Int) (wrap64 (fF + 1)) ai az aA ay af) = some r := by first | (rw [Qs]; with_reducible exact H) | (have H2_ := (Option.bind_some _ _).symm.trans H; rw [Qs]; with_reducible exact H2_) | (have H2_ := (Option.bind_some _ _).symm.trans H; with_reducible exact H2_) | with_reducible exact H | (rw [Qs]; exact H) | exact H
            have Ny598 := aa.mk Qs; clear Qs; have H' := aa.mk H; clear H; have p588 : 0 ≤ (fF : Int) := dt_; have q588 : fF < (aU.length : Int) := dt_; obtain ⟨ad588, wK, wL, e588, Xp, Xq, Xr, Xt⟩ := vN mq.out fF p588 q588; cases e588; replace Xp := hc_ HB Xp; replace Xq := hc_ HB Xq; have HR588_1 := aa.mk Xt; have HC588_1 := aa.mk Xr; clear Xt Xr; replace p588 := eq_true p588; replace q588 := eq_true q588; try go_wp2_with (first | ((with_reducible refine aY (N := 7) rfl ?_); refine aZ ?hg (N := 7) ?hd (cs := #[.int .i64 0, .slice none 0 0]) (t := 51) ?hr ?_; (case hd => rfl); (case hg => rfl); (case hr => first | (go_simp; done) | (go_simp; rfl)); intro oK hg w26 aK hb; have ql := aa.mk (aK); have GW589 : aa (w.heap.size ≤ oK) := gw_ hg (aG bl_); have GE589 := GW589; have KN := nl_ gq hg; have Ye := ng_ gq hg; have KO := nl_ jQ hg; have Yf := ng_ jQ hg; replace gW := aa.mk (Kd.cB (pR_ gW.out) hb); replace gq := kb_ gq hb; replace jQ := kb_ jQ hb; replace HB := aa.mk (au bl_ hb); clear hb aK hg; have Js := Ye.out; have Jt := KN.out; have hnb28 := Yf.out; have hnc28 := KO.out; obtain ⟨nE, nG, nH, nI⟩ := eQ ql.out))
            have n0_ : aa (Kd.R Kd.string 9 ((w26.setCell ⟨oK, 0, none⟩ (.int .i64 ((bB aU fF).f0))).setCell ⟨oK, 1, none⟩ (.slice wK ((bB aU fF).f1).length wL)) w.heap.size (fun _ => True) v586 dV) := ⟨by (with_reducible repeat (first | apply Kd.dN | apply Kd.dO | apply Kd.dP)); exact Kd.bQ (Kd.dD (p := ⟨oK, 1, none⟩) (Kd.dD (p := ⟨oK, 0, none⟩) (Kd.rY gW.out ql.out (by decide)) (fun _ hk => hk.2) (.int .i64 ((bB aU fF).f0))) (fun _ hk => hk.2) (.slice wK ((bB aU fF).f1).length wL)) (fun _ hk => trivial)⟩; have n1_ : aa (((w26.setCell ⟨oK, 0, none⟩ (.int .i64 ((bB aU fF).f0))).setCell ⟨oK, 1, none⟩ (.slice wK ((bB aU fF).f1).length wL)).heap[Bo]? = some (.cells #[.int .i64 ai, .int .i64 az, .int .i64 aA, .int .i64 ay, .slice bq af.length bf] 24 (0, 0))) := ⟨by (with_reducible repeat (first | refine aj ?_ _ | refine ak ?_ | refine ah ?_ _)); refine bM ?_ KN.out _; (with_reducible repeat (first | refine aj ?_ _ | refine ak ?_ | refine ah ?_ _)); refine bM ?_ KN.out _; (with_reducible repeat (first | refine aj ?_ _ | refine ak ?_ | refine ah ?_ _)); exact gq.out⟩; have n2_ : aa (((w26.setCell ⟨oK, 0, none⟩ (.int .i64 ((bB aU fF).f0))).setCell ⟨oK, 1, none⟩ (.slice wK ((bB aU fF).f1).length wL)).heap[Nr]? = some (.cells #[.int .i64 bH, .slice (some ad588) aU.length fI] 51 (0, 0))) := ⟨by (with_reducible repeat (first | refine aj ?_ _ | refine ak ?_ | refine ah ?_ _)); refine bM ?_ KO.out _; (with_reducible repeat (first | refine aj ?_ _ | refine ak ?_ | refine ah ?_ _)); refine bM ?_ KO.out _; (with_reducible repeat (first | refine aj ?_ _ | refine ak ?_ | refine ah ?_ _)); exact jQ.out⟩; have n3_ : aa (((w26.setCell ⟨oK, 0, none⟩ (.int .i64 ((bB aU fF).f0))).setCell ⟨oK, 1, none⟩ (.slice wK ((bB aU fF).f1).length wL)).heap[oK]? = some (.cells #[.int .i64 ((bB aU fF).f0), .slice wK ((bB aU fF).f1).length wL] 51 (0, 0))) := ⟨by (with_reducible repeat (first | refine aj ?_ _ | refine ak ?_ | refine ah ?_ _)); refine bn (cs := #[.int .i64 ((bB aU fF).f0), .slice none 0 0]) ?_ 1 _ rfl; (with_reducible repeat (first | refine aj ?_ _ | refine ak ?_ | refine ah ?_ _)); refine bn (cs := #[.int .i64 0, .slice none 0 0]) ?_ 0 _ rfl; (with_reducible repeat (first | refine aj ?_ _ | refine ak ?_ | refine ah ?_ _)); exact ql.out⟩; have n4_ : aa (Below w.heap.size w ((w26.setCell ⟨oK, 0, none⟩ (.int .i64 ((bB aU fF).f0))).setCell ⟨oK, 1, none⟩ (.slice wK ((bB aU fF).f1).length wL))) := ⟨bl_⟩; (try clear gW)
            (try clear gq)
            (try clear jQ)
            (try clear ql)
            (try clear HB)
            generalize ((w26.setCell ⟨oK, 0, none⟩ (.int .i64 ((bB aU fF).f0))).setCell ⟨oK, 1, none⟩ (.slice wK ((bB aU fF).f1).length wL)) = w30 at n0_ n1_ n2_ n3_ n4_ ⊢
            have gW := n0_; have gq := n1_; have jQ := n2_; have ql := n3_; have HB := n4_; clear n0_ n1_ n2_ n3_ n4_; replace gW := aa.mk (Kd.dP gW.out); replace gq := aa.mk (ak gq.out); replace jQ := aa.mk (ak jQ.out); replace ql := aa.mk (ak ql.out); replace HB := aa.mk (bU HB.out); refine r9 (n := 9) (S := fun w' => w'.cell? ⟨Bo, 0, none⟩ = some (.int .i64 ai) ∧ w'.cell? ⟨Bo, 1, none⟩ = some (.int .i64 az) ∧ w'.cell? ⟨Bo, 2, none⟩ = some (.int .i64 aA) ∧ w'.cell? ⟨Bo, 3, none⟩ = some (.int .i64 ay) ∧ w'.cell? ⟨Bo, 4, none⟩ = some (.slice bq af.length bf) ∧ w'.cell? ⟨oK, 0, none⟩ = some (.int .i64 ((bB aU fF).f0)) ∧ w'.cell? ⟨oK, 1, none⟩ = some (.slice wK ((bB aU fF).f1).length wL)) (ds := [8]) #[false, false, false, false, false, false, false, false, false] (by kernel_rfl) rfl rfl ⟨(aC gq.out 0).trans rfl, (aC gq.out 1).trans rfl, (aC gq.out 2).trans rfl, (aC gq.out 3).trans rfl, (aC gq.out 4).trans rfl, (aC ql.out 0).trans rfl, (aC ql.out 1).trans rfl⟩ (fun hHeld => ?_); refine lK bC.tab6 bC.Na (fun HT_ HW_ => ?_)
            generalize w30.drew = w31 at gW gq jQ ql HB hHeld ⊢
            refine pu_ HT_ 0 28 (bm 9 1) ?_
            refine pu_ HT_ 1 29 (bm 9 3) ?_
            refine pu_ HT_ 3 31 (bm 9 11) ?_
            refine ta_ HT_ HW_ 2 30 (bm 9 15) hHeld ?_
            refine ta_ HT_ HW_ 5 33 (bm 9 47) hHeld ?_
            refine oL (i := 4) (N := some 32) #[true, true, true, true, true, true, false, false, false] rfl rfl (iy HT_.out (by kernel_rfl)) (by decide) (fun K hK => ?_)
            refine tQ Tryd.func81 (by kernel_rfl) rfl #[.agg #[.int .i64 ai, .int .i64 az, .int .i64 aA, .int .i64 ay, .slice bq af.length bf], .int .i64 fF] (by rfl) rfl rfl mp_ ?_
            with_reducible refine (iW.calls ai az aA ay (fun k_ => k_ < w.heap.size) _ _ af fF t590 t591 t592 t593 t594 _ ?aQ A22.out).mono ?_
            (case aQ => exact Kd.yJ dz.out (Kd.ng (Kd.C_F Bw bV.out) bl_))
            rintro e w32 ⟨v595, rfl, ho0, hb⟩
            refine ⟨_, rfl, ?_⟩
            have Qt := aa.mk (Kd.uC (Kd.dU (ok' := fun k_ => some k_ ≠ (v586 : Value).ownBlock ∧ k_ ≠ Bo ∧ k_ ≠ Nr ∧ k_ ≠ oK) ho0 (fun k_ hk_ => ⟨Or.elim hk_ (fun hs_ => fun e_ => Nat.not_le.2 hs_ (Kd.iI gW.out k_ e_.symm)) (fun hn_ => (Kd.fresh' (Kd.lC (pR_ gW.out)) k_ hn_)), Or.elim hk_ (fun hs_ => fun e_ => Nat.not_le.2 hs_ (by rw [e_]; exact GW583.out)) (fun hn_ => (Kd.fP (g := Bo) (o := .cells #[.int .i64 ai, .int .i64 az, .int .i64 aA, .int .i64 ay, .slice bq af.length bf] 24 (0, 0)) bk_ k_ hn_)), Or.elim hk_ (fun hs_ => fun e_ => Nat.not_le.2 hs_ (by rw [e_]; exact GW584.out)) (fun hn_ => (Kd.fP (g := Nr) (o := .cells #[.int .i64 bH, .slice (some ad588) aU.length fI] 51 (0, 0)) bk_ k_ hn_)), Or.elim hk_ (fun hs_ => fun e_ => Nat.not_le.2 hs_ (by rw [e_]; exact GW589.out)) (fun hn_ => (Kd.fP (g := oK) (o := .cells #[.int .i64 ((bB aU fF).f0), .slice wK ((bB aU fF).f1).length wL] 51 (0, 0)) bk_ k_ hn_))⟩)) (aG bl_)); replace gW := aa.mk (Kd.cB (pR_ gW.out) hb); replace gq := kb_ gq hb; replace jQ := kb_ jQ hb; replace ql := kb_ ql hb; replace HB := aa.mk (au bl_ hb); (try clear hb)
            (try clear hb2)
            (try clear hk)
            (try clear hi)
            (try clear ho0)
            obtain ⟨Ao33, co33, eo33⟩ := Kd.si Qt.out; (first | subst eo33 | (injection eo33 with f1_ f2_ f3_; have f4_ := f1_.symm; have f5_ := f3_.symm; clear f1_ f2_ f3_; subst f4_; subst f5_))
            refine hK.out _ _ ⟨(aC gq.out 0).trans rfl, (aC gq.out 1).trans rfl, (aC gq.out 2).trans rfl, (aC gq.out 3).trans rfl, (aC gq.out 4).trans rfl, (aC ql.out 0).trans rfl, (aC ql.out 1).trans rfl⟩ (fun hHeld => ?_)
            clear hK K; refine kS (a' := ?_) ?_ ?_
            rotate_left
            ·show Act.put _ (some 32) _ = _
             simp only [Act.put, List.setIfInBounds_toArray, List.set_cons_zero, List.set_cons_succ, eT, eY]; rfl
            refine oL (i := 6) (N := some 34) #[true, true, true, true, true, true, true, false, false] rfl rfl (iy HT_.out (by kernel_rfl)) (by decide) (fun K hK => ?_)
            refine tQ Tryd.func62 (by kernel_rfl) rfl #[.agg #[.int .i64 t590, .int .i64 t591, .int .i64 t592, .int .i64 t593, .slice Ao33 t594.length co33], .agg #[.int .i64 ((bB aU fF).f0), .slice wK ((bB aU fF).f1).length wL]] (by rfl) rfl rfl mp_ ?_
            with_reducible refine (ih k2 (by have := HJ2.out; have := HK2.out; omega) t590 t591 t592 t593 _ _ t594 ((bB aU fF).f0) _ _ ((bB aU fF).f1) t597 _ ?aQ ?aT ?dK ?dL A23.out ?tab).mono ?_
            (case tab => exact ptab HTAB.out bl_)
            (case aQ => exact cb_ ((Kd.mo Qt.out).2.2))
            (case aT => exact (Kd.mo Qt.out).2.1)
            (case dK => exact cb_ (Kd.bA HR588_1.out HB.out))
            (case dL => exact HC588_1.out)
            rintro e w34 ⟨rfl, hb⟩
            refine ⟨_, rfl, ?_⟩
            replace gW := aa.mk (Kd.cB (pR_ gW.out) hb); replace Qt := aa.mk (Kd.gz (pV_ Qt.out) hb); replace gq := kb_ gq hb; replace jQ := kb_ jQ hb; replace ql := kb_ ql hb; replace HB := aa.mk (au bl_ hb); (try clear hb)
            (try clear hb2)
            (try clear hk)
            (try clear hi)
            have p25 : 0 ≤ (fF : Int) := dt_; have q25 : (fF : Int) < ((dV.length : Int) : Int) := dt_; obtain ⟨go25, co25, eo25, gb25, gl25, cl25, HG25⟩ := Kd.R_form gW.out (by omega); (first | cases eo25 | (injection eo25 with ea_ en_ ec_; (first | subst ea_ | (injection ea_ with ea_; subst ea_)); subst ec_; clear en_))
            have GB25 := aa.mk gb25; have GG25 := aa.mk HG25; clear gb25 gl25 HG25; obtain ⟨hx25_0, hf25_0⟩ := Kd.R_celln (⟨#[]⟩ : ByteArray) gW.out (fF : Int) p25 q25; replace p25 := eq_true p25; replace q25 := eq_true q25; have HP35 := Kd.R_putn gW.out (fF : Int) t597; rw [← Ny598.out] at HP35; have HQ35 := aa.mk HP35; clear HP35; refine hK.out _ _ ⟨(aC gq.out 0).trans rfl, (aC gq.out 1).trans rfl, (aC gq.out 2).trans rfl, (aC gq.out 3).trans rfl, (aC gq.out 4).trans rfl, (aC ql.out 0).trans rfl, (aC ql.out 1).trans rfl⟩ (fun hHeld => ?_)
            clear hK K; refine kS (a' := ?_) ?_ ?_
            rotate_left
            ·show Act.put _ (some 34) _ = _
             simp only [Act.put, List.setIfInBounds_toArray, List.set_cons_zero, List.set_cons_succ, eT, eY]; rfl
            refine pu_ HT_ 7 35 (bm 9 255) ?_
            refine Gu (i := 8) (N := none) #[true, true, true, true, true, true, true, true, true] rfl rfl (iy HT_.out (by kernel_rfl)) (by decide) (fun K hK => ?_)
            refine CO (w1 := ?_) (by rfl) rfl ?_ ?_
            rotate_left
            ·go_simp; rfl
            refine hK.out _ _ ?_
            clear hK K; refine wP (pF HT_.out (by kernel_rfl)) ?_
            try go_wp2
            go_roundg k2
            case measure => have := HJ2.out; have := HK2.out; omega
            case rel => exact ⟨(y598), (wrap64 (fF + 1)), rs_, H', ⟨by have := HJ2.out; have := HK2.out; omega⟩, ⟨by (with_reducible repeat (first | apply Kd.dN | apply Kd.dO | apply Kd.dP)); exact HQ35.out⟩, ⟨by (with_reducible repeat (first | refine aj ?_ _ | refine ak ?_ | refine ah ?_ _)); refine bM ?_ (by have h_ := Kd.rZ gW.out gq.out (by decide); intro e_; exact h_ (by rw [e_]; rfl)) _; (with_reducible repeat (first | refine aj ?_ _ | refine ak ?_ | refine ah ?_ _)); exact gq.out⟩, ⟨by (with_reducible repeat (first | refine aj ?_ _ | refine ak ?_ | refine ah ?_ _)); refine bM ?_ (by have h_ := Kd.rZ gW.out jQ.out (by decide); intro e_; exact h_ (by rw [e_]; rfl)) _; (with_reducible repeat (first | refine aj ?_ _ | refine ak ?_ | refine ah ?_ _)); exact jQ.out⟩, ⟨bl_⟩⟩
           ·rw [if_neg c24] at H; exact absurd H (by simp)
          ·rw [if_neg c21] at H; exact absurd H (by simp)
         ·rw [if_neg c20] at H; exact absurd H (by simp)
        ·rw [if_neg c19] at H; have AZ : decide (fF < (aU.length : Int)) = false := decide_eq_false c19; clear c19; by_cases c36 : ai = 5
         ·rw [if_pos c36] at H; have Ba : (ai == 5) = true := beq_iff_eq.mpr c36; have M5 : (ai != 5) = false := bne_eq_false_iff_eq.mpr c36; clear c36; replace H := Option.bind_eq_some_iff.mp H; obtain ⟨zw, A370, H⟩ := H; replace H : (if 1 + zw.size ≤ 9223372036854775807 then (if ((⟨#[40]⟩ : ByteArray) ++ zw).size + 1 ≤ 9223372036854775807 then (some (((⟨#[40]⟩ : ByteArray) ++ zw) ++ (⟨#[41]⟩ : ByteArray))) else (none)) else (none)) = some r := H; have A37 := aa.mk A370; clear A370; by_cases c38 : 1 + zw.size ≤ 9223372036854775807
          ·rw [if_pos c38] at H; have KZ := eq_true c38; have c38b1 : decide (1 + zw.size ≤ 9223372036854775807) = true := decide_eq_true c38; try have c38b2 : (9223372036854775807 < 1 + zw.size) = False := eq_false (Nat.not_lt.2 c38)
           by_cases c39 : ((⟨#[40]⟩ : ByteArray) ++ zw).size + 1 ≤ 9223372036854775807
           ·rw [if_pos c39] at H; have DX := eq_true c39; have Ju : decide (((⟨#[40]⟩ : ByteArray) ++ zw).size + 1 ≤ 9223372036854775807) = true := decide_eq_true c39; try have c39b2 : (9223372036854775807 < ((⟨#[40]⟩ : ByteArray) ++ zw).size + 1) = False := eq_false (Nat.not_lt.2 c39)
            have c39b9 : (9223372036854775807 < 1 + zw.size + 1) = False := by have h := c39; simp only [ByteArray.size_append, TF, List.size_toArray, List.length_cons, List.length_nil] at h; exact eq_false (by omega)
            obtain rfl := Option.some.inj H; have hnb40 := wI.out; have hnc40 := wJ.out; obtain ⟨hcz41_0, hcz41_1, hcz41_2, hcz41_3, hcz41_4, hfz41_0, hfz41_1, hfz41_2, hfz41_3, hfz41_4⟩ := bF gq.out; obtain ⟨Ao42, co42, eo42⟩ := Kd.dG gW.out; subst eo42; go_wp2_with (first | ((with_reducible refine aN (f := 72) rfl ?_); refine bJ (some 41) rfl rfl Tryd.func72 (by kernel_rfl) rfl #[.slice Ao42 dV.length co42, .string (⟨#[44, 32]⟩ : ByteArray)] rfl mp_ ?_; (with_reducible refine (strings_Join.calls _ _ dV (⟨#[44, 32]⟩ : ByteArray) zw _ ?aQ ?aT A37.out).mono ?_); (case aQ => exact cb_ ((Kd.cK gW.out).2.2)); (case aT => exact (Kd.cK gW.out).2.1); rintro e w43 ⟨rfl, hb⟩; refine ⟨_, rfl, ?_⟩; replace gW := aa.mk (Kd.cB (pR_ gW.out) hb); replace gq := kb_ gq hb; replace jQ := kb_ jQ hb; replace HB := aa.mk (au bl_ hb); (try clear hb); (try clear hb2); (try clear hk); (try clear hi)))
            go_ret; exact ⟨re_, bl_⟩
           ·rw [if_neg c39] at H; exact absurd H (by simp)
          ·rw [if_neg c38] at H; exact absurd H (by simp)
         ·rw [if_neg c36] at H; have Ba : (ai == 5) = false := beq_eq_false_iff_ne.mpr c36; have M5 : (ai != 5) = true := bne_iff_ne.mpr c36; replace H := Option.bind_eq_some_iff.mp H; obtain ⟨zx, A440, H⟩ := H; replace H : (if 1 + zx.size ≤ 9223372036854775807 then (if ((⟨#[91]⟩ : ByteArray) ++ zx).size + 1 ≤ 9223372036854775807 then (some (((⟨#[91]⟩ : ByteArray) ++ zx) ++ (⟨#[93]⟩ : ByteArray))) else (none)) else (none)) = some r := H; have A44 := aa.mk A440; clear A440; by_cases c45 : 1 + zx.size ≤ 9223372036854775807
          ·rw [if_pos c45] at H; have c45b0 := eq_true c45; have c45b1 : decide (1 + zx.size ≤ 9223372036854775807) = true := decide_eq_true c45; try have c45b2 : (9223372036854775807 < 1 + zx.size) = False := eq_false (Nat.not_lt.2 c45)
           by_cases c46 : ((⟨#[91]⟩ : ByteArray) ++ zx).size + 1 ≤ 9223372036854775807
           ·rw [if_pos c46] at H; have c46b0 := eq_true c46; have c46b1 : decide (((⟨#[91]⟩ : ByteArray) ++ zx).size + 1 ≤ 9223372036854775807) = true := decide_eq_true c46; try have c46b2 : (9223372036854775807 < ((⟨#[91]⟩ : ByteArray) ++ zx).size + 1) = False := eq_false (Nat.not_lt.2 c46)
            have c46b9 : (9223372036854775807 < 1 + zx.size + 1) = False := by have h := c46; simp only [ByteArray.size_append, TF, List.size_toArray, List.length_cons, List.length_nil] at h; exact eq_false (by omega)
            obtain rfl := Option.some.inj H; have hnb47 := wI.out; have hnc47 := wJ.out; obtain ⟨Vi, Vj, Vk, Vl, Vm, Vn, Vo, Vp, Vq, Vr⟩ := bF gq.out; obtain ⟨Ao49, co49, eo49⟩ := Kd.dG gW.out; subst eo49; go_wp2_with (first | ((with_reducible refine aN (f := 72) rfl ?_); refine bJ (some 45) rfl rfl Tryd.func72 (by kernel_rfl) rfl #[.slice Ao49 dV.length co49, .string (⟨#[44, 32]⟩ : ByteArray)] rfl mp_ ?_; (with_reducible refine (strings_Join.calls _ _ dV (⟨#[44, 32]⟩ : ByteArray) zx _ ?aQ ?aT A44.out).mono ?_); (case aQ => exact cb_ ((Kd.cK gW.out).2.2)); (case aT => exact (Kd.cK gW.out).2.1); rintro e w50 ⟨rfl, hb⟩; refine ⟨_, rfl, ?_⟩; replace gW := aa.mk (Kd.cB (pR_ gW.out) hb); replace gq := kb_ gq hb; replace jQ := kb_ jQ hb; replace HB := aa.mk (au bl_ hb); (try clear hb); (try clear hb2); (try clear hk); (try clear hi)))
            go_ret; exact ⟨re_, bl_⟩
           ·rw [if_neg c46] at H; exact absurd H (by simp)
          ·rw [if_neg c45] at H; exact absurd H (by simp)
     ·rw [if_neg c13] at H; exact absurd H (by simp)
    ·rw [if_neg c12] at H; exact absurd H (by simp)
   ·replace c11 := Bool.eq_false_iff.mpr c11; subst c11; have H1 : (if ai = 1 then ((jm.f (bH == 1)).bind fun t601 => (some t601)) else ((jY.f bH).bind fun t602 => (some t602))) = some r := by rw [if_neg (show ¬ (false = true) by decide)] at H; exact H
    clear H; have H := H1; clear H1; by_cases c51 : ai = 1
    ·rw [if_pos c51] at H; have c51b0 : (ai == 1) = true := beq_iff_eq.mpr c51; have c51b1 : (ai != 1) = false := bne_eq_false_iff_eq.mpr c51; clear c51; replace H := Option.bind_eq_some_iff.mp H; obtain ⟨t601, A520, H⟩ := H; replace H : (some t601) = some r := H; have A52 := aa.mk A520; clear A520; obtain rfl := Option.some.inj H; have hnb53 := wI.out; have hnc53 := wJ.out; obtain ⟨LJ, LK, LM, LP, LQ, LU, LV, LW, LX, LY⟩ := bF gq.out; obtain ⟨La, Lb, Lc, Ld⟩ := eQ jQ.out; go_wp2_with (first | ((with_reducible refine aN (f := 82) rfl ?_); refine bJ (some 54) rfl rfl Tryd.func82 (by kernel_rfl) rfl #[.bool (bH == 1)] rfl mp_ ?_; (with_reducible refine (jm.calls (bH == 1) t601 _ A52.out).mono ?_); rintro e w' ⟨rfl, ⟨nd, rfl⟩⟩; refine ⟨_, rfl, ?_⟩))
     go_ret; exact ⟨re_, bl_⟩
    ·rw [if_neg c51] at H; have c51b0 : (ai == 1) = false := beq_eq_false_iff_ne.mpr c51; have c51b1 : (ai != 1) = true := bne_iff_ne.mpr c51; replace H := Option.bind_eq_some_iff.mp H; obtain ⟨t602, A560, H⟩ := H; replace H : (some t602) = some r := H; have A56 := aa.mk A560; clear A560; obtain rfl := Option.some.inj H; have hnb57 := wI.out; have hnc57 := wJ.out; obtain ⟨hcz58_0, hcz58_1, hcz58_2, hcz58_3, hcz58_4, hfz58_0, hfz58_1, hfz58_2, hfz58_3, hfz58_4⟩ := bF gq.out; obtain ⟨Ia, Ib, Ic, Ie⟩ := eQ jQ.out; go_wp2_with (first | ((with_reducible refine aN (f := 71) rfl ?_); refine bJ (some 57) rfl rfl Tryd.func71 (by kernel_rfl) rfl #[.int .i64 bH] rfl mp_ ?_; (with_reducible refine (jY.calls bH t602 _ A56.out ?tab).mono ?_); (case tab => exact ptab HTAB.out bl_); rintro e w60 ⟨rfl, hb⟩; refine ⟨_, rfl, ?_⟩; replace gq := kb_ gq hb; replace jQ := kb_ jQ hb; replace HB := aa.mk (au bl_ hb); (try clear hb); (try clear hb2); (try clear hk); (try clear hi)))
     go_ret; exact ⟨re_, bl_⟩

end Go.Proofs.YtggelekooacmnaaDoor.Q
