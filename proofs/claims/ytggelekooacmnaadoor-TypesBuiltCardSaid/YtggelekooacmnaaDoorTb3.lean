/- Lemmas for: mo -/
import Derived.Test.YtggelekooacmnaaDoorTb2
namespace Go.Proofs.YtggelekooacmnaaDoor.Q
open Go.RowKit Go.Proofs.YtggelekooacmnaaDoorW.bg Go.Proofs.YtggelekooacmnaaDoorW.bW Go.Proofs.YtggelekooacmnaaDoorW.dh
attribute [local go_sem] fE fF gy gz eO eP fG fH   -- for this text's walks alone
set_option linter.unusedVariables false
set_option linter.unusedSimpArgs false

/-! ### fT: function 13 -/
def fT.f (k : Nat)  : Option (Bool) := (some (([(⟨1, 0, 0, 0, ([] : List (S24))⟩ : S24)] : List (S24)) : List (S24))).bind fun kS => ((fu.f k 6 0 0 2 kS).bind fun JJ => ((iy.f k 6 0 0 2 kS).bind fun JK => (if JJ.2 = 0 then (if JK.2 = 0 then (if JJ.1 = 7 then (some (JK.1.toList == ([108, 105, 115, 116, 91, 50, 93, 32, 98, 111, 111, 108] : List UInt8))) else (some false)) else (some false)) else (some false))))
theorem fT.mono : ∀ k, LeO (fT.f k ) (fT.f (k + 1) ) := by
 intro  k; unfold fT.f
 repeat' first
   | (with_reducible exact iy.mono _ _ _ _ _ _)
   | (with_reducible exact fu.mono _ _ _ _ _ _)
   | (with_reducible exact LeO.refl _)
   | (with_reducible exact LeO.none _)
   | (with_reducible refine LeO.ite ?_ ?_)
   | (with_reducible refine LeO.bind ?_ (fun _ => ?_))
   | exact iy.mono _ _ _ _ _ _
   | exact fu.mono _ _ _ _ _ _
   | exact LeO.none _
   | refine LeO.ite ?_ ?_
   | refine LeO.bind ?_ (fun _ => ?_)
set_option maxHeartbeats 8000000 in
set_option maxRecDepth 100000 in
theorem fT.calls (k : Nat)  (r : Bool) (w : World) (h : fT.f k  = some r) (htab : vw w.heap.size w) :
  Calls Tryd.prog 13 #[] w fun e w' => e = .returned (.bool r) ∧ Below w.heap.size w w' := by
 have ui := aa.mk htab; clear htab; have qb := Tryd.underlying24; have HB := aa.mk (Below.refl w.heap.size w); have H : ((some (([(⟨1, 0, 0, 0, ([] : List (S24))⟩ : S24)] : List (S24)) : List (S24))).bind fun kS => ((fu.f k 6 0 0 2 kS).bind fun JJ => ((iy.f k 6 0 0 2 kS).bind fun JK => (if JJ.2 = 0 then (if JK.2 = 0 then (if JJ.1 = 7 then (some (JK.1.toList == ([108, 105, 115, 116, 91, 50, 93, 32, 98, 111, 111, 108] : List UInt8))) else (some false)) else (some false)) else (some false))))) = some r := h; clear h; obtain ⟨kS, PM⟩ : ∃ y_ : List (S24), y_ = (([(⟨1, 0, 0, 0, ([] : List (S24))⟩ : S24)] : List (S24))) := ⟨_, rfl⟩; replace H : ((fu.f k 6 0 0 2 kS).bind fun JJ => ((iy.f k 6 0 0 2 kS).bind fun JK => (if JJ.2 = 0 then (if JK.2 = 0 then (if JJ.1 = 7 then (some (JK.1.toList == ([108, 105, 115, 116, 91, 50, 93, 32, 98, 111, 111, 108] : List UInt8))) else (some false)) else (some false)) else (some false)))) = some r := by first | (rw [PM]; with_reducible exact H) | (have H2_ := (Option.bind_some _ _).symm.trans H; rw [PM]; with_reducible exact H2_) | (have H2_ := (Option.bind_some _ _).symm.trans H; with_reducible exact H2_) | with_reducible exact H | (rw [PM]; exact H) | exact H
 have JL := aa.mk PM; clear PM; replace H := Option.bind_eq_some_iff.mp H; obtain ⟨⟨t208, t209⟩, A10, H⟩ := H; (try dsimp only at H)
 have A1 := aa.mk A10; clear A10; replace H := Option.bind_eq_some_iff.mp H; obtain ⟨⟨t210, t211⟩, A20, H⟩ := H; (try dsimp only at H)
 have A2 := aa.mk A20; clear A20; by_cases c3 : t209 = 0
 ·rw [if_pos c3] at H; obtain ⟨kI, nu⟩ := bq_ c3; clear c3; by_cases c4 : t211 = 0
  ·rw [if_pos c4] at H; obtain ⟨tT, c4b1⟩ := bq_ c4; clear c4; by_cases c5 : t208 = 7
   ·rw [if_pos c5] at H; obtain ⟨jU, sJ⟩ := bq_ c5; clear c5; obtain rfl := Option.some.inj H; go_enter Tryd.func13, Tryd.ntmps13; go_wp2_with (first | ((with_reducible refine aU (N := 7) rfl ?_); refine Kd.oD k24 _ 24 ?hg (N := 7) ?hd (xs := ([(⟨1, 0, 0, 0, ([] : List (S24))⟩ : S24)] : List (S24))) (inner := [.int .i64 1, .int .i64 0, .int .i64 0, .int .i64 0, .slice none 0 0]) (ok := fun _ => True) (okp := fun _ => True) ?hr ?hp (fun _ hk => hk) trivial (Below.refl _ _) (Nat.le_refl _) (by simp) ?_; (case hd => rfl); (case hg => rfl); (case hr => first | (go_simp; done) | (go_simp; rfl)); (case hp => exact (dN.c5 (show Kd.M k24 _ _ _ (⟨1, 0, 0, 0, ([] : List (S24))⟩ : S24) [.int .i64 1, .int .i64 0, .int .i64 0, .int .i64 0, .slice none 0 0] from (M3 _ _ _ (⟨1, 0, 0, 0, ([] : List (S24))⟩ : S24) (Kd.oC _ _ _ _ _))) (dN.none _ _))); intro v205 w6 ho7 hb hg_ ig; clear hg_ ig; (first | rw [← JL.out] at ho7 | (simp only [Int.reduceToNat] at ho7; rw [← JL.out] at ho7)); have ji := aa.mk (Kd.bV ho7 (ax bl_)); replace HB := aa.mk (ai bl_ hb); clear hb ho7; obtain ⟨Ao8, co8, eo8⟩ := Kd.df ji.out; subst eo8) | ((with_reducible refine aU (N := 1) rfl ?_); refine aY ?hg (N := 1) ?hd (cs := #[.int .i64 0, .int .i64 0, .int .i64 0, .int .i64 0, .slice none 0 0]) (t := 24) ?hr ?_; (case hd => rfl); (case hg => rfl); (case hr => first | (go_simp; done) | (go_simp; rfl)); intro gL hg w9 aK hb; have oN := aa.mk (aK); have LQ : aa (w.heap.size ≤ gL) := gw_ hg (ax bl_); have GE207 := LQ; replace ji := aa.mk (Kd.gq (Kd.DZ (pR_ ji.out) gL (Nat.le_of_eq hg.symm)) hb); replace HB := aa.mk (ai bl_ hb); clear hb aK hg; obtain ⟨zI, zJ, zK, Ce, Cf, zL, zM, zN, Cg, Ch⟩ := bz oN.out) | ((with_reducible refine aC (f := 16) rfl ?_); refine aX (some 11) rfl rfl Tryd.func16 (by kernel_rfl) rfl #[.agg #[.int .i64 6, .int .i64 0, .int .i64 0, .int .i64 2, .slice Ao8 kS.length co8]] rfl mp_ ?_; (with_reducible refine (fu.calls k 6 0 0 2 _ _ kS t208 t209 _ ?ay ?az A1.out).mono ?_); (case ay => refine (Kd.bu (e := 24) (base := w.heap.size) (ok := fun k_ => (True ∧ k_ ≠ gL)) (n := kS.length) (c := co8) ?_).2.2; exact (by (with_reducible repeat (first | apply Kd.dx | apply Kd.dz | apply Kd.dH)); exact (Kd.cK (Kd.di (p := ⟨gL, 4, none⟩) (Kd.di (p := ⟨gL, 3, none⟩) (Kd.di (p := ⟨gL, 2, none⟩) (Kd.di (p := ⟨gL, 1, none⟩) (Kd.di (p := ⟨gL, 0, none⟩) (Kd.cK ji.out (fun k_ hk => (⟨hk, by first | exact hk.2 | exact hk.1 | exact hk.2 | exact hk.1.1 | exact hk.1.2⟩ : _ ∧ k_ ≠ gL))) (fun _ hk => hk.2) (.int .i64 6)) (fun _ hk => hk.2) (.int .i64 0)) (fun _ hk => hk.2) (.int .i64 0)) (fun _ hk => hk.2) (.int .i64 2)) (fun _ hk => hk.2) (.slice Ao8 kS.length co8)) (fun _ h_ => h_.1)))); (case az => exact (Kd.bu ji.out).2.1); rintro e w11 ⟨rfl, hb⟩; refine ⟨_, rfl, ?_⟩; replace ji := aa.mk (Kd.gq (by (with_reducible repeat (first | apply Kd.dx | apply Kd.dz | apply Kd.dH)); exact (Kd.cK (Kd.di (p := ⟨gL, 4, none⟩) (Kd.di (p := ⟨gL, 3, none⟩) (Kd.di (p := ⟨gL, 2, none⟩) (Kd.di (p := ⟨gL, 1, none⟩) (Kd.di (p := ⟨gL, 0, none⟩) (Kd.cK ji.out (fun k_ hk => (⟨hk, by first | exact hk.2 | exact hk.1 | exact hk.2 | exact hk.1.1 | exact hk.1.2⟩ : _ ∧ k_ ≠ gL))) (fun _ hk => hk.2) (.int .i64 6)) (fun _ hk => hk.2) (.int .i64 0)) (fun _ hk => hk.2) (.int .i64 0)) (fun _ hk => hk.2) (.int .i64 2)) (fun _ hk => hk.2) (.slice Ao8 kS.length co8)) (fun _ h_ => h_.1))) hb); replace oN := aa.mk (gJ (g := gL) (o := .cells #[.int .i64 6, .int .i64 0, .int .i64 0, .int .i64 2, .slice Ao8 kS.length co8] 24 (0, 0)) b5_ hb); replace HB := aa.mk (ai bl_ hb); (try clear hb); (try clear hb2); (try clear hk); (try clear hi); obtain ⟨o5, o6, o7, o8, o9, pg, pq, pz, pE, pF⟩ := bz oN.out) | ((with_reducible refine aC (f := 21) rfl ?_); refine aX (some 16) rfl rfl Tryd.func21 (by kernel_rfl) rfl #[.agg #[.int .i64 6, .int .i64 0, .int .i64 0, .int .i64 2, .slice Ao8 kS.length co8]] rfl mp_ ?_; (with_reducible refine (iy.calls k 6 0 0 2 _ _ kS t210 t211 _ ?ay ?az A2.out ?tab).mono ?_); (case tab => exact yL ui.out bl_); (case ay => exact cb_ ((Kd.bu ji.out).2.2)); (case az => exact (Kd.bu ji.out).2.1); rintro e w13 ⟨rfl, hb⟩; refine ⟨_, rfl, ?_⟩; replace ji := aa.mk (Kd.gq (pR_ ji.out) hb); replace oN := kb_ oN hb; replace HB := aa.mk (ai bl_ hb); (try clear hb); (try clear hb2); (try clear hk); (try clear hi)))
    go_ret; exact ⟨re_, bl_⟩
   ·rw [if_neg c5] at H; obtain ⟨jU, sJ⟩ := bn_ c5; obtain rfl := Option.some.inj H; go_enter Tryd.func13, Tryd.ntmps13; go_wp2_with (first | ((with_reducible refine aU (N := 7) rfl ?_); refine Kd.oD k24 _ 24 ?hg (N := 7) ?hd (xs := ([(⟨1, 0, 0, 0, ([] : List (S24))⟩ : S24)] : List (S24))) (inner := [.int .i64 1, .int .i64 0, .int .i64 0, .int .i64 0, .slice none 0 0]) (ok := fun _ => True) (okp := fun _ => True) ?hr ?hp (fun _ hk => hk) trivial (Below.refl _ _) (Nat.le_refl _) (by simp) ?_; (case hd => rfl); (case hg => rfl); (case hr => first | (go_simp; done) | (go_simp; rfl)); (case hp => exact (dN.c5 (show Kd.M k24 _ _ _ (⟨1, 0, 0, 0, ([] : List (S24))⟩ : S24) [.int .i64 1, .int .i64 0, .int .i64 0, .int .i64 0, .slice none 0 0] from (M3 _ _ _ (⟨1, 0, 0, 0, ([] : List (S24))⟩ : S24) (Kd.oC _ _ _ _ _))) (dN.none _ _))); intro v205 w14 ho15 hb hg_ ig; clear hg_ ig; (first | rw [← JL.out] at ho15 | (simp only [Int.reduceToNat] at ho15; rw [← JL.out] at ho15)); have ji := aa.mk (Kd.bV ho15 (ax bl_)); replace HB := aa.mk (ai bl_ hb); clear hb ho15; obtain ⟨Ao16, co16, eo16⟩ := Kd.df ji.out; subst eo16) | ((with_reducible refine aU (N := 1) rfl ?_); refine aY ?hg (N := 1) ?hd (cs := #[.int .i64 0, .int .i64 0, .int .i64 0, .int .i64 0, .slice none 0 0]) (t := 24) ?hr ?_; (case hd => rfl); (case hg => rfl); (case hr => first | (go_simp; done) | (go_simp; rfl)); intro gL hg w17 aK hb; have oN := aa.mk (aK); have LQ : aa (w.heap.size ≤ gL) := gw_ hg (ax bl_); have GE207 := LQ; replace ji := aa.mk (Kd.gq (Kd.DZ (pR_ ji.out) gL (Nat.le_of_eq hg.symm)) hb); replace HB := aa.mk (ai bl_ hb); clear hb aK hg; obtain ⟨qc, qd, qf, ry, rz, qg, qh, qi, rA, rC⟩ := bz oN.out) | ((with_reducible refine aC (f := 16) rfl ?_); refine aX (some 11) rfl rfl Tryd.func16 (by kernel_rfl) rfl #[.agg #[.int .i64 6, .int .i64 0, .int .i64 0, .int .i64 2, .slice Ao16 kS.length co16]] rfl mp_ ?_; (with_reducible refine (fu.calls k 6 0 0 2 _ _ kS t208 t209 _ ?ay ?az A1.out).mono ?_); (case ay => refine (Kd.bu (e := 24) (base := w.heap.size) (ok := fun k_ => (True ∧ k_ ≠ gL)) (n := kS.length) (c := co16) ?_).2.2; exact (by (with_reducible repeat (first | apply Kd.dx | apply Kd.dz | apply Kd.dH)); exact (Kd.cK (Kd.di (p := ⟨gL, 4, none⟩) (Kd.di (p := ⟨gL, 3, none⟩) (Kd.di (p := ⟨gL, 2, none⟩) (Kd.di (p := ⟨gL, 1, none⟩) (Kd.di (p := ⟨gL, 0, none⟩) (Kd.cK ji.out (fun k_ hk => (⟨hk, by first | exact hk.2 | exact hk.1 | exact hk.2 | exact hk.1.1 | exact hk.1.2⟩ : _ ∧ k_ ≠ gL))) (fun _ hk => hk.2) (.int .i64 6)) (fun _ hk => hk.2) (.int .i64 0)) (fun _ hk => hk.2) (.int .i64 0)) (fun _ hk => hk.2) (.int .i64 2)) (fun _ hk => hk.2) (.slice Ao16 kS.length co16)) (fun _ h_ => h_.1)))); (case az => exact (Kd.bu ji.out).2.1); rintro e w19 ⟨rfl, hb⟩; refine ⟨_, rfl, ?_⟩; replace ji := aa.mk (Kd.gq (by (with_reducible repeat (first | apply Kd.dx | apply Kd.dz | apply Kd.dH)); exact (Kd.cK (Kd.di (p := ⟨gL, 4, none⟩) (Kd.di (p := ⟨gL, 3, none⟩) (Kd.di (p := ⟨gL, 2, none⟩) (Kd.di (p := ⟨gL, 1, none⟩) (Kd.di (p := ⟨gL, 0, none⟩) (Kd.cK ji.out (fun k_ hk => (⟨hk, by first | exact hk.2 | exact hk.1 | exact hk.2 | exact hk.1.1 | exact hk.1.2⟩ : _ ∧ k_ ≠ gL))) (fun _ hk => hk.2) (.int .i64 6)) (fun _ hk => hk.2) (.int .i64 0)) (fun _ hk => hk.2) (.int .i64 0)) (fun _ hk => hk.2) (.int .i64 2)) (fun _ hk => hk.2) (.slice Ao16 kS.length co16)) (fun _ h_ => h_.1))) hb); replace oN := aa.mk (gJ (g := gL) (o := .cells #[.int .i64 6, .int .i64 0, .int .i64 0, .int .i64 2, .slice Ao16 kS.length co16] 24 (0, 0)) b5_ hb); replace HB := aa.mk (ai bl_ hb); (try clear hb); (try clear hb2); (try clear hk); (try clear hi); obtain ⟨rD, rE, rF, tq, tu, rG, rH, rJ, tC, tF⟩ := bz oN.out) | ((with_reducible refine aC (f := 21) rfl ?_); refine aX (some 16) rfl rfl Tryd.func21 (by kernel_rfl) rfl #[.agg #[.int .i64 6, .int .i64 0, .int .i64 0, .int .i64 2, .slice Ao16 kS.length co16]] rfl mp_ ?_; (with_reducible refine (iy.calls k 6 0 0 2 _ _ kS t210 t211 _ ?ay ?az A2.out ?tab).mono ?_); (case tab => exact yL ui.out bl_); (case ay => exact cb_ ((Kd.bu ji.out).2.2)); (case az => exact (Kd.bu ji.out).2.1); rintro e w21 ⟨rfl, hb⟩; refine ⟨_, rfl, ?_⟩; replace ji := aa.mk (Kd.gq (pR_ ji.out) hb); replace oN := kb_ oN hb; replace HB := aa.mk (ai bl_ hb); (try clear hb); (try clear hb2); (try clear hk); (try clear hi)))
    go_ret; exact ⟨re_, bl_⟩
  ·rw [if_neg c4] at H; obtain ⟨tT, c4b1⟩ := bn_ c4; obtain rfl := Option.some.inj H; go_enter Tryd.func13, Tryd.ntmps13; go_wp2_with (first | ((with_reducible refine aU (N := 7) rfl ?_); refine Kd.oD k24 _ 24 ?hg (N := 7) ?hd (xs := ([(⟨1, 0, 0, 0, ([] : List (S24))⟩ : S24)] : List (S24))) (inner := [.int .i64 1, .int .i64 0, .int .i64 0, .int .i64 0, .slice none 0 0]) (ok := fun _ => True) (okp := fun _ => True) ?hr ?hp (fun _ hk => hk) trivial (Below.refl _ _) (Nat.le_refl _) (by simp) ?_; (case hd => rfl); (case hg => rfl); (case hr => first | (go_simp; done) | (go_simp; rfl)); (case hp => exact (dN.c5 (show Kd.M k24 _ _ _ (⟨1, 0, 0, 0, ([] : List (S24))⟩ : S24) [.int .i64 1, .int .i64 0, .int .i64 0, .int .i64 0, .slice none 0 0] from (M3 _ _ _ (⟨1, 0, 0, 0, ([] : List (S24))⟩ : S24) (Kd.oC _ _ _ _ _))) (dN.none _ _))); intro v205 w22 zi hb hg_ ig; clear hg_ ig; (first | rw [← JL.out] at zi | (simp only [Int.reduceToNat] at zi; rw [← JL.out] at zi)); have ji := aa.mk (Kd.bV zi (ax bl_)); replace HB := aa.mk (ai bl_ hb); clear hb zi; obtain ⟨xe, uj, EB⟩ := Kd.df ji.out; subst EB) | ((with_reducible refine aU (N := 1) rfl ?_); refine aY ?hg (N := 1) ?hd (cs := #[.int .i64 0, .int .i64 0, .int .i64 0, .int .i64 0, .slice none 0 0]) (t := 24) ?hr ?_; (case hd => rfl); (case hg => rfl); (case hr => first | (go_simp; done) | (go_simp; rfl)); intro gL hg w25 aK hb; have oN := aa.mk (aK); have LQ : aa (w.heap.size ≤ gL) := gw_ hg (ax bl_); have GE207 := LQ; replace ji := aa.mk (Kd.gq (Kd.DZ (pR_ ji.out) gL (Nat.le_of_eq hg.symm)) hb); replace HB := aa.mk (ai bl_ hb); clear hb aK hg; obtain ⟨wK, wL, wM, yC, yD, wN, wO, wP, yE, yF⟩ := bz oN.out) | ((with_reducible refine aC (f := 16) rfl ?_); refine aX (some 11) rfl rfl Tryd.func16 (by kernel_rfl) rfl #[.agg #[.int .i64 6, .int .i64 0, .int .i64 0, .int .i64 2, .slice xe kS.length uj]] rfl mp_ ?_; (with_reducible refine (fu.calls k 6 0 0 2 _ _ kS t208 t209 _ ?ay ?az A1.out).mono ?_); (case ay => refine (Kd.bu (e := 24) (base := w.heap.size) (ok := fun k_ => (True ∧ k_ ≠ gL)) (n := kS.length) (c := uj) ?_).2.2; exact (by (with_reducible repeat (first | apply Kd.dx | apply Kd.dz | apply Kd.dH)); exact (Kd.cK (Kd.di (p := ⟨gL, 4, none⟩) (Kd.di (p := ⟨gL, 3, none⟩) (Kd.di (p := ⟨gL, 2, none⟩) (Kd.di (p := ⟨gL, 1, none⟩) (Kd.di (p := ⟨gL, 0, none⟩) (Kd.cK ji.out (fun k_ hk => (⟨hk, by first | exact hk.2 | exact hk.1 | exact hk.2 | exact hk.1.1 | exact hk.1.2⟩ : _ ∧ k_ ≠ gL))) (fun _ hk => hk.2) (.int .i64 6)) (fun _ hk => hk.2) (.int .i64 0)) (fun _ hk => hk.2) (.int .i64 0)) (fun _ hk => hk.2) (.int .i64 2)) (fun _ hk => hk.2) (.slice xe kS.length uj)) (fun _ h_ => h_.1)))); (case az => exact (Kd.bu ji.out).2.1); rintro e w27 ⟨rfl, hb⟩; refine ⟨_, rfl, ?_⟩; replace ji := aa.mk (Kd.gq (by (with_reducible repeat (first | apply Kd.dx | apply Kd.dz | apply Kd.dH)); exact (Kd.cK (Kd.di (p := ⟨gL, 4, none⟩) (Kd.di (p := ⟨gL, 3, none⟩) (Kd.di (p := ⟨gL, 2, none⟩) (Kd.di (p := ⟨gL, 1, none⟩) (Kd.di (p := ⟨gL, 0, none⟩) (Kd.cK ji.out (fun k_ hk => (⟨hk, by first | exact hk.2 | exact hk.1 | exact hk.2 | exact hk.1.1 | exact hk.1.2⟩ : _ ∧ k_ ≠ gL))) (fun _ hk => hk.2) (.int .i64 6)) (fun _ hk => hk.2) (.int .i64 0)) (fun _ hk => hk.2) (.int .i64 0)) (fun _ hk => hk.2) (.int .i64 2)) (fun _ hk => hk.2) (.slice xe kS.length uj)) (fun _ h_ => h_.1))) hb); replace oN := aa.mk (gJ (g := gL) (o := .cells #[.int .i64 6, .int .i64 0, .int .i64 0, .int .i64 2, .slice xe kS.length uj] 24 (0, 0)) b5_ hb); replace HB := aa.mk (ai bl_ hb); (try clear hb); (try clear hb2); (try clear hk); (try clear hi); obtain ⟨uD, uE, uF, uG, uH, uI, uJ, uK, uL, uM⟩ := bz oN.out) | ((with_reducible refine aC (f := 21) rfl ?_); refine aX (some 16) rfl rfl Tryd.func21 (by kernel_rfl) rfl #[.agg #[.int .i64 6, .int .i64 0, .int .i64 0, .int .i64 2, .slice xe kS.length uj]] rfl mp_ ?_; (with_reducible refine (iy.calls k 6 0 0 2 _ _ kS t210 t211 _ ?ay ?az A2.out ?tab).mono ?_); (case tab => exact yL ui.out bl_); (case ay => exact cb_ ((Kd.bu ji.out).2.2)); (case az => exact (Kd.bu ji.out).2.1); rintro e w29 ⟨rfl, hb⟩; refine ⟨_, rfl, ?_⟩; replace ji := aa.mk (Kd.gq (pR_ ji.out) hb); replace oN := kb_ oN hb; replace HB := aa.mk (ai bl_ hb); (try clear hb); (try clear hb2); (try clear hk); (try clear hi)))
   go_ret; exact ⟨re_, bl_⟩
 ·rw [if_neg c3] at H; obtain ⟨kI, nu⟩ := bn_ c3; obtain rfl := Option.some.inj H; go_enter Tryd.func13, Tryd.ntmps13; go_wp2_with (first | ((with_reducible refine aU (N := 7) rfl ?_); refine Kd.oD k24 _ 24 ?hg (N := 7) ?hd (xs := ([(⟨1, 0, 0, 0, ([] : List (S24))⟩ : S24)] : List (S24))) (inner := [.int .i64 1, .int .i64 0, .int .i64 0, .int .i64 0, .slice none 0 0]) (ok := fun _ => True) (okp := fun _ => True) ?hr ?hp (fun _ hk => hk) trivial (Below.refl _ _) (Nat.le_refl _) (by simp) ?_; (case hd => rfl); (case hg => rfl); (case hr => first | (go_simp; done) | (go_simp; rfl)); (case hp => exact (dN.c5 (show Kd.M k24 _ _ _ (⟨1, 0, 0, 0, ([] : List (S24))⟩ : S24) [.int .i64 1, .int .i64 0, .int .i64 0, .int .i64 0, .slice none 0 0] from (M3 _ _ _ (⟨1, 0, 0, 0, ([] : List (S24))⟩ : S24) (Kd.oC _ _ _ _ _))) (dN.none _ _))); intro v205 w30 ho31 hb hg_ ig; clear hg_ ig; (first | rw [← JL.out] at ho31 | (simp only [Int.reduceToNat] at ho31; rw [← JL.out] at ho31)); have ji := aa.mk (Kd.bV ho31 (ax bl_)); replace HB := aa.mk (ai bl_ hb); clear hb ho31; obtain ⟨dK, dI, eo32⟩ := Kd.df ji.out; subst eo32) | ((with_reducible refine aU (N := 1) rfl ?_); refine aY ?hg (N := 1) ?hd (cs := #[.int .i64 0, .int .i64 0, .int .i64 0, .int .i64 0, .slice none 0 0]) (t := 24) ?hr ?_; (case hd => rfl); (case hg => rfl); (case hr => first | (go_simp; done) | (go_simp; rfl)); intro gL hg w33 aK hb; have oN := aa.mk (aK); have LQ : aa (w.heap.size ≤ gL) := gw_ hg (ax bl_); have GE207 := LQ; replace ji := aa.mk (Kd.gq (Kd.DZ (pR_ ji.out) gL (Nat.le_of_eq hg.symm)) hb); replace HB := aa.mk (ai bl_ hb); clear hb aK hg; obtain ⟨Cq, Cr, Cs, El, Em, Ct, Cu, Cv, En, Eo⟩ := bz oN.out) | ((with_reducible refine aC (f := 16) rfl ?_); refine aX (some 11) rfl rfl Tryd.func16 (by kernel_rfl) rfl #[.agg #[.int .i64 6, .int .i64 0, .int .i64 0, .int .i64 2, .slice dK kS.length dI]] rfl mp_ ?_; (with_reducible refine (fu.calls k 6 0 0 2 _ _ kS t208 t209 _ ?ay ?az A1.out).mono ?_); (case ay => refine (Kd.bu (e := 24) (base := w.heap.size) (ok := fun k_ => (True ∧ k_ ≠ gL)) (n := kS.length) (c := dI) ?_).2.2; exact (by (with_reducible repeat (first | apply Kd.dx | apply Kd.dz | apply Kd.dH)); exact (Kd.cK (Kd.di (p := ⟨gL, 4, none⟩) (Kd.di (p := ⟨gL, 3, none⟩) (Kd.di (p := ⟨gL, 2, none⟩) (Kd.di (p := ⟨gL, 1, none⟩) (Kd.di (p := ⟨gL, 0, none⟩) (Kd.cK ji.out (fun k_ hk => (⟨hk, by first | exact hk.2 | exact hk.1 | exact hk.2 | exact hk.1.1 | exact hk.1.2⟩ : _ ∧ k_ ≠ gL))) (fun _ hk => hk.2) (.int .i64 6)) (fun _ hk => hk.2) (.int .i64 0)) (fun _ hk => hk.2) (.int .i64 0)) (fun _ hk => hk.2) (.int .i64 2)) (fun _ hk => hk.2) (.slice dK kS.length dI)) (fun _ h_ => h_.1)))); (case az => exact (Kd.bu ji.out).2.1); rintro e w35 ⟨rfl, hb⟩; refine ⟨_, rfl, ?_⟩; replace ji := aa.mk (Kd.gq (by (with_reducible repeat (first | apply Kd.dx | apply Kd.dz | apply Kd.dH)); exact (Kd.cK (Kd.di (p := ⟨gL, 4, none⟩) (Kd.di (p := ⟨gL, 3, none⟩) (Kd.di (p := ⟨gL, 2, none⟩) (Kd.di (p := ⟨gL, 1, none⟩) (Kd.di (p := ⟨gL, 0, none⟩) (Kd.cK ji.out (fun k_ hk => (⟨hk, by first | exact hk.2 | exact hk.1 | exact hk.2 | exact hk.1.1 | exact hk.1.2⟩ : _ ∧ k_ ≠ gL))) (fun _ hk => hk.2) (.int .i64 6)) (fun _ hk => hk.2) (.int .i64 0)) (fun _ hk => hk.2) (.int .i64 0)) (fun _ hk => hk.2) (.int .i64 2)) (fun _ hk => hk.2) (.slice dK kS.length dI)) (fun _ h_ => h_.1))) hb); replace oN := aa.mk (gJ (g := gL) (o := .cells #[.int .i64 6, .int .i64 0, .int .i64 0, .int .i64 2, .slice dK kS.length dI] 24 (0, 0)) b5_ hb); replace HB := aa.mk (ai bl_ hb); (try clear hb); (try clear hb2); (try clear hk); (try clear hi); obtain ⟨Hm, Ho, Hq, Hr, Ht, Hu, Hw, Hy, Hz, HV⟩ := bz oN.out) | ((with_reducible refine aC (f := 21) rfl ?_); refine aX (some 16) rfl rfl Tryd.func21 (by kernel_rfl) rfl #[.agg #[.int .i64 6, .int .i64 0, .int .i64 0, .int .i64 2, .slice dK kS.length dI]] rfl mp_ ?_; (with_reducible refine (iy.calls k 6 0 0 2 _ _ kS t210 t211 _ ?ay ?az A2.out ?tab).mono ?_); (case tab => exact yL ui.out bl_); (case ay => exact cb_ ((Kd.bu ji.out).2.2)); (case az => exact (Kd.bu ji.out).2.1); rintro e w37 ⟨rfl, hb⟩; refine ⟨_, rfl, ?_⟩; replace ji := aa.mk (Kd.gq (pR_ ji.out) hb); replace oN := kb_ oN hb; replace HB := aa.mk (ai bl_ hb); (try clear hb); (try clear hb2); (try clear hk); (try clear hi)))
  go_ret; exact ⟨re_, bl_⟩

end Go.Proofs.YtggelekooacmnaaDoor.Q
namespace Go.Proofs.YtggelekooacmnaaDoor.Q
open Go.RowKit Go.Proofs.YtggelekooacmnaaDoorW.bg Go.Proofs.YtggelekooacmnaaDoorW.bW Go.Proofs.YtggelekooacmnaaDoorW.dh
attribute [local go_sem] fE fF gy gz eO eP fG fH   -- for this text's walks alone
set_option linter.unusedVariables false
set_option linter.unusedSimpArgs false

/-- A state of type 63 at block g of W; what its slices lead to came in by w0. -/
def aD (w0 W : World) (g : Nat) (f0 : List Int) (f1 : Int) (f2 : Int) : Prop := ∃ A0 c0, W.heap[g]? = some (.cells #[.slice A0 f0.length c0, .int .i64 f1, .int .i64 f2] 63 (0, 0)) ∧ w0.heap.size ≤ g ∧ Kd.C (Kd.int .i64) w0 A0 f0.length f0
theorem aD.grown {w0 W : World} {g : Nat} {f0 : List Int} {f1 : Int} {f2 : Int} {W1 : World} {row : Option Nat} (h : aD w0 W g f0 f1 f2) (hw : W.grownBy W1 row) (hne : some g ≠ row) : aD w0 W1 g f0 f1 f2 := by
 obtain ⟨A0, c0, hb, hg, hr0⟩ := h; exact ⟨A0, c0, nC hb hw hne, hg, hr0⟩
theorem aD.SF {w0 W : World} {g : Nat} {f0 : List Int} {f1 : Int} {f2 : Int} {α : Type} {d : Kd α} {e : Nat} {base : Nat} {ok : Nat → Prop} {v : Value} {xs : List α} (h : aD w0 W g f0 f1 f2) (ho : Kd.N d e W base ok v xs) (ht : e ≠ 63) : some g ≠ v.ownBlock := by
 obtain ⟨A0, c0, hb, hg, hr0⟩ := h; exact Kd.N_ne ho hb ht
theorem aD.fresh {w0 W : World} {g : Nat} {f0 : List Int} {f1 : Int} {f2 : Int} (h : aD w0 W g f0 f1 f2) : ∀ k, W.heap.size ≤ k → k ≠ g := by
 obtain ⟨A0, c0, hb, hg, hr0⟩ := h; exact Kd.iH hb
theorem aD.below {w0 W : World} {g : Nat} {f0 : List Int} {f1 : Int} {f2 : Int} {W1 : World} (h : aD w0 W g f0 f1 f2) (hw : Below W.heap.size W W1) : aD w0 W1 g f0 f1 f2 := h.grown (JX hw none) (by simp)
theorem aD.alloc {w0 W : World} {g : Nat} {f0 : List Int} {f1 : Int} {f2 : Int} (h : aD w0 W g f0 f1 f2) (o : Obj) : aD w0 (W.alloc o) g f0 f1 f2 := h.below (bS (Below.refl _ _) o)
theorem aD.drewN {w0 W : World} {g : Nat} {f0 : List Int} {f1 : Int} {f2 : Int} (h : aD w0 W g f0 f1 f2) (m : Nat) : aD w0 (W.drewN m) g f0 f1 f2 := h
theorem aD.drew {w0 W : World} {g : Nat} {f0 : List Int} {f1 : Int} {f2 : Int} (h : aD w0 W g f0 f1 f2) : aD w0 W.drew g f0 f1 f2 := h
theorem aD.apart {w0 W : World} {g : Nat} {f0 : List Int} {f1 : Int} {f2 : Int} {α : Type} {d : Kd α} {e : Nat} {base : Nat} {ok : Nat → Prop} {v : Value} {xs : List α} (h : aD w0 W g f0 f1 f2) (ho : d.R e W base ok v xs) (ht : ∀ q, q ∈ e :: d.E → q ≠ 63) : d.R e W base (fun k => ok k ∧ k ≠ g) v xs := by
 obtain ⟨A0, c0, hb, hg, hr0⟩ := h; exact Kd.jQ ho hb ht
theorem aD.own_ne {w0 W : World} {g : Nat} {f0 : List Int} {f1 : Int} {f2 : Int} {α : Type} {d : Kd α} {e : Nat} {base : Nat} {ok : Nat → Prop} {v : Value} {xs : List α} (h : aD w0 W g f0 f1 f2) (ho : d.R e W base ok v xs) (ht : e ≠ 63) : some g ≠ v.ownBlock := by
 obtain ⟨A0, c0, hb, hg, hr0⟩ := h; exact Kd.R_ne ho hb ht
theorem aD.lt {w0 W : World} {g : Nat} {f0 : List Int} {f1 : Int} {f2 : Int} (h : aD w0 W g f0 f1 f2) : g < W.heap.size := by
 obtain ⟨A0, c0, hb, hg, hr0⟩ := h; exact Bo hb
theorem aD.ge {w0 W : World} {g : Nat} {f0 : List Int} {f1 : Int} {f2 : Int} (h : aD w0 W g f0 f1 f2) : w0.heap.size ≤ g := by
 obtain ⟨A0, c0, hb, hg, hr0⟩ := h; exact hg
theorem aD.far {w0 W : World} {g : Nat} {f0 : List Int} {f1 : Int} {f2 : Int} {p : Addr} (h : aD w0 W g f0 f1 f2) (hne : g ≠ p.block) (u : Value) : aD w0 (W.setCell p u) g f0 f1 f2 := by
 obtain ⟨A0, c0, hb, hg, hr0⟩ := h; exact ⟨A0, c0, gp hb hne u, hg, hr0⟩
theorem TT {W : World} {g : Nat} {A0 : Option Addr} {c0 : Nat} {f0 : List Int} {f1 : Int} {f2 : Int} (h : W.heap[g]? = some (.cells #[.slice A0 f0.length c0, .int .i64 f1, .int .i64 f2] 63 (0, 0))) : W.cell? ⟨g, 0, none⟩ = some (.slice A0 f0.length c0) := (ag h 0).trans rfl
theorem TU {W : World} {g : Nat} {A0 : Option Addr} {c0 : Nat} {f0 : List Int} {f1 : Int} {f2 : Int} (h : W.heap[g]? = some (.cells #[.slice A0 f0.length c0, .int .i64 f1, .int .i64 f2] 63 (0, 0))) : W.cell? ⟨g, 1, none⟩ = some (.int .i64 f1) := (ag h 1).trans rfl
theorem aD.sG {w0 W : World} {g : Nat} {f0 : List Int} {f1 : Int} {f2 : Int} (h : aD w0 W g f0 f1 f2) (x : Int) : aD w0 (W.setCell ⟨g, 1, none⟩ (.int .i64 x)) g f0 x f2 := by
 obtain ⟨A0, c0, hb, hg, hr0⟩ := h; exact ⟨A0, c0, by simpa using MX hb 1 (.int .i64 x), hg, hr0⟩
theorem TV {W : World} {g : Nat} {A0 : Option Addr} {c0 : Nat} {f0 : List Int} {f1 : Int} {f2 : Int} (h : W.heap[g]? = some (.cells #[.slice A0 f0.length c0, .int .i64 f1, .int .i64 f2] 63 (0, 0))) : W.cell? ⟨g, 2, none⟩ = some (.int .i64 f2) := (ag h 2).trans rfl
theorem aD.sH {w0 W : World} {g : Nat} {f0 : List Int} {f1 : Int} {f2 : Int} (h : aD w0 W g f0 f1 f2) (x : Int) : aD w0 (W.setCell ⟨g, 2, none⟩ (.int .i64 x)) g f0 f1 x := by
 obtain ⟨A0, c0, hb, hg, hr0⟩ := h; exact ⟨A0, c0, by simpa using MX hb 2 (.int .i64 x), hg, hr0⟩
/-! ### mf: function 14 -/
def mf.f (l0 : List Int) : Option (List Int × Int × Int) := if (l0.length : Int) > 1000 then (if 1000 ≤ (l0.length : Int) then (some (l0.take 1000, 0, 0)) else (none)) else (some (l0, 0, 0))
set_option maxHeartbeats 8000000 in
set_option maxRecDepth 100000 in
theorem mf.calls (A0 : Option Addr) (c0 : Nat) (l0 : List Int) (r1 : List Int) (r2 : Int) (r3 : Int) (w0 w : World) (hB : Below w0.heap.size w0 w) (hr0 : Kd.C (Kd.int .i64) w0 A0 l0.length l0) (hc0 : l0.length ≤ c0) (h : mf.f l0 = some (r1, r2, r3)) :
  Calls Tryd.prog 14 #[.slice A0 l0.length c0] w fun e w' => ∃ g_ : Nat, e = .returned (.pointer (some ⟨g_, 0, none⟩)) ∧ aD w0 w' g_ r1 r2 r3 ∧ Below w0.heap.size w0 w' ∧ Below w.heap.size w w' := by
 have hu63 := Tryd.underlying63; have HR0 := aa.mk hr0; have HC0 := aa.mk hc0; clear hr0 hc0; have HBW := aa.mk (Below.refl w.heap.size w); have HW0 := aa.mk hB.size; have HB := aa.mk hB; clear hB; have H : (if (l0.length : Int) > 1000 then (if 1000 ≤ (l0.length : Int) then (some (l0.take 1000, 0, 0)) else (none)) else (some (l0, 0, 0))) = some (r1, r2, r3) := h; clear h; by_cases c2 : (l0.length : Int) > 1000
 ·rw [if_pos c2] at H; have lv : decide (1000 < (l0.length : Int)) = true := decide_eq_true c2; have oH : decide (1000 < l0.length) = true := decide_eq_true (by omega); clear c2; by_cases c3 : 1000 ≤ (l0.length : Int)
  ·rw [if_pos c3] at H; have kI := eq_true c3; have nu := decide_eq_true c3; clear c3; simp only [Option.some.injEq, Prod.mk.injEq] at H; obtain ⟨rfl, rfl, rfl⟩ := H; obtain ⟨i04, hi04, _, hsz4, _⟩ := info_parts info3; obtain ⟨hcut4, hA4, hC4⟩ := FV (P := Tryd.prog) (Value.int .i64) 0 29 3 .i64 Tryd.underlying29 hi04 hsz4 A0 c0 l0 1000 (by omega) (dt_) HC0.out; have HR212 := aa.mk (Kd.Ga (h1 := fun _ => rfl) (hA4 _ (Kd.Di HR0.out))); have HC212 := aa.mk hC4; clear hA4 hC4 hi04 hsz4; go_enter Tryd.func14, Tryd.ntmps14; go_wp2_with (first | ((with_reducible refine aU (N := 10) rfl ?_); refine aY ?hg (N := 10) ?hd (cs := #[.slice A0 (l0.take 1000).length c0, .int .i64 0, .int .i64 0]) (t := 63) ?hr ?_; (case hd => rfl); (case hg => rfl); (case hr => first | (go_simp; done) | (go_simp; rfl)); intro gb213 hg w5 aK hb; have BK213 := aa.mk (aK); have GW213 := aa.mk ((by rw [hg]; exact (ax (by repeat (first | (with_reducible first | exact HBW.out | apply bS | apply bO | apply bQ) | exact HBW.out))) : w.heap.size ≤ gb213)); have GE213 := aa.mk ((Nat.le_trans HW0.out (by rw [hg]; exact (ax (by repeat (first | (with_reducible first | exact HBW.out | apply bS | apply bO | apply bQ) | exact HBW.out))) : w.heap.size ≤ gb213) : w0.heap.size ≤ gb213)); replace HBW := aa.mk (ai HBW.out hb); replace HB := aa.mk (ai bl_ hb); clear hb aK hg))
   go_ret; exact ⟨_, rfl, (show aD w0 _ gb213 (l0.take 1000) 0 0 from ⟨_, _, bk_, GE213.out, HR212.out⟩), bl_, by repeat (first | (with_reducible first | exact HBW.out | apply bS | apply bO | apply bQ | refine ed ?_ GW213.out) | exact HBW.out)⟩
  ·rw [if_neg c3] at H; exact absurd H (by simp)
 ·rw [if_neg c2] at H; have lv : decide (1000 < (l0.length : Int)) = false := decide_eq_false c2; have oH : decide (1000 < l0.length) = false := decide_eq_false (by omega); clear c2; simp only [Option.some.injEq, Prod.mk.injEq] at H; obtain ⟨rfl, rfl, rfl⟩ := H; go_enter Tryd.func14, Tryd.ntmps14; go_wp2_with (first | ((with_reducible refine aU (N := 10) rfl ?_); refine aY ?hg (N := 10) ?hd (cs := #[.slice A0 l0.length c0, .int .i64 0, .int .i64 0]) (t := 63) ?hr ?_; (case hd => rfl); (case hg => rfl); (case hr => first | (go_simp; done) | (go_simp; rfl)); intro gb214 hg w6 aK hb; have BK214 := aa.mk (aK); have GW214 := aa.mk ((by rw [hg]; exact (ax (by repeat (first | (with_reducible first | exact HBW.out | apply bS | apply bO | apply bQ) | exact HBW.out))) : w.heap.size ≤ gb214)); have GE214 := aa.mk ((Nat.le_trans HW0.out (by rw [hg]; exact (ax (by repeat (first | (with_reducible first | exact HBW.out | apply bS | apply bO | apply bQ) | exact HBW.out))) : w.heap.size ≤ gb214) : w0.heap.size ≤ gb214)); replace HBW := aa.mk (ai HBW.out hb); replace HB := aa.mk (ai bl_ hb); clear hb aK hg))
  go_ret; exact ⟨_, rfl, (show aD w0 _ gb214 l0 0 0 from ⟨_, _, bk_, GE214.out, HR0.out⟩), bl_, by repeat (first | (with_reducible first | exact HBW.out | apply bS | apply bO | apply bQ | refine ed ?_ GW214.out) | exact HBW.out)⟩

end Go.Proofs.YtggelekooacmnaaDoor.Q
namespace Go.Proofs.YtggelekooacmnaaDoor.Q
open Go.RowKit Go.Proofs.YtggelekooacmnaaDoorW.bg Go.Proofs.YtggelekooacmnaaDoorW.bW Go.Proofs.YtggelekooacmnaaDoorW.dh
attribute [local go_sem] fE fF gy gz eO eP fG fH   -- for this text's walks alone
set_option linter.unusedVariables false
set_option linter.unusedSimpArgs false

/-! ### jR: function 43 -/
def jR.f (bX : List Int) (gB : Int) (ik : Int) : Option (Int × Int × Int) := if gB ≥ (bX.length : Int) then (some (0, gB, ik)) else (if 0 ≤ (wrap64 ((wrap64 (gB + 1)) - 1)) then (if (wrap64 ((wrap64 (gB + 1)) - 1)) < (bX.length : Int) then (some (rd bX (wrap64 ((wrap64 (gB + 1)) - 1)), wrap64 (gB + 1), ik)) else (none)) else (none))
set_option maxHeartbeats 8000000 in
set_option maxRecDepth 100000 in
theorem jR.calls (g : Nat) (bX : List Int) (gB : Int) (ik : Int) (r1 : Int) (r2 : Int) (r3 : Int) (w0 w : World) (hI : aD w0 w g bX gB ik) (hB : Below w0.heap.size w0 w) (h : jR.f bX gB ik = some (r1, r2, r3)) :
    Calls Tryd.prog 43 #[.pointer (some ⟨g, 0, none⟩)] w fun e w' => e = .returned (.int .i64 r1) ∧ aD w0 w' g bX r2 r3 ∧ Below w0.heap.size w0 w' ∧ aI w w' g none := by
  have HI0 := aa.mk hI
  have HK := aa.mk (aI.refl w g none)
  have HL := aa.mk hB.size
  clear hI
  have HW0 := aa.mk hB.size
  have HB := aa.mk hB
  clear hB
  have H : (if gB ≥ (bX.length : Int) then (some (0, gB, ik)) else (if 0 ≤ (wrap64 ((wrap64 (gB + 1)) - 1)) then (if (wrap64 ((wrap64 (gB + 1)) - 1)) < (bX.length : Int) then (some (rd bX (wrap64 ((wrap64 (gB + 1)) - 1)), wrap64 (gB + 1), ik)) else (none)) else (none))) = some (r1, r2, r3) := h
  clear h
  by_cases c2 : gB ≥ (bX.length : Int)
  · rw [if_pos c2] at H
    have lv : decide ((bX.length : Int) ≤ gB) = true := decide_eq_true c2
    clear c2
    simp only [Option.some.injEq, Prod.mk.injEq] at H
    obtain ⟨rfl, rfl, rfl⟩ := H
    obtain ⟨ASz3_0, cSz3_0, HGz3, hgz3, HSz3_0⟩ := HI0.out
    have Un := TT HGz3
    have Uo := TU HGz3
    have Uq := TV HGz3
    have Ur := gm HGz3 1
    have Us := gm HGz3 2
    clear HGz3 hgz3
    go_enter Tryd.func43, Tryd.ntmps43
    go_wp2
    repeat (go_quiet (fail); try go_wp2)
    go_ret
    exact ⟨by first | rfl | (simp [fI, fJ] <;> rfl) | (simp [*, fI, fJ] <;> rfl), by repeat (first | (with_reducible first | exact HI0.out | apply aD.alloc | apply aD.drewN | apply aD.drew | apply aD.sG | apply aD.sH) | exact HI0.out), by repeat (first | (with_reducible first | exact HB.out | apply bS | apply bO | apply bQ | refine ed ?_ (aD.ge HI0.out)) | exact HB.out), by repeat (first | (with_reducible first | exact HK.out | apply aI.l6 | apply gG | apply gK | apply gH) | exact HK.out)⟩
  · rw [if_neg c2] at H
    have lv : decide ((bX.length : Int) ≤ gB) = false := decide_eq_false c2
    clear c2
    obtain ⟨ji4, EC⟩ : ∃ j_ : Int, (wrap64 ((wrap64 (gB + 1)) - 1)) = j_ := ⟨_, rfl⟩
    replace H : (if 0 ≤ (ji4) then (if (ji4) < (bX.length : Int) then (some (rd bX (ji4), wrap64 (gB + 1), ik)) else (none)) else (none)) = some (r1, r2, r3) := by first | (rw [EC] at H; exact H) | (simp only [EC] at H ⊢; exact H)
    have hji4w : (IntKind.i64.wrap ((wrap64 (gB + 1)) - 1)) = ji4 := (eT _).trans EC
    by_cases c5 : 0 ≤ (ji4)
    · rw [if_pos c5] at H
      have jU : decide (0 ≤ (ji4)) = true := decide_eq_true c5
      clear c5
      by_cases c6 : (ji4) < (bX.length : Int)
      · rw [if_pos c6] at H
        have vT : decide ((ji4) < (bX.length : Int)) = true := decide_eq_true c6
        clear c6
        simp only [Option.some.injEq, Prod.mk.injEq] at H
        obtain ⟨rfl, rfl, rfl⟩ := H
        obtain ⟨ASz7_0, cSz7_0, HGz7, hgz7, HSz7_0⟩ := HI0.out
        have Dk := TT HGz7
        have Dl := TU HGz7
        have Dm := TV HGz7
        have Dn := gm HGz7 1
        have Dp := gm HGz7 2
        clear HGz7 hgz7
        have p215 : 0 ≤ ((ji4) : Int) := of_decide_eq_true (by first | (with_reducible assumption) | assumption)
        have q215 : (ji4) < (bX.length : Int) := of_decide_eq_true (by first | (with_reducible assumption) | assumption)
        obtain ⟨ad215, e215, HY⟩ := Kd.lX HSz7_0 (ji4) p215 q215
        cases e215
        have NK : ad215.block ≠ g := Nat.ne_of_lt (Nat.lt_of_lt_of_le (by have := World.block_lt_of_cell? _ _ HY; first | rwa [add_block] at this | exact this) (aD.ge HI0.out))
        replace HY := Bq HB.out HY
        replace HY := (cell_far (p := ⟨g, 1, none⟩) (by first | (rw [add_block]; exact NK) | (show (Addr.add _ _).block ≠ _; rw [add_block]; exact NK) | exact NK) (.int .i64 (wrap64 (gB + 1)))).trans HY
        (try have hy215_0 := fun (n_ : Nat) => (show (((w.drewN n_).setCell ⟨g, 1, none⟩ (.int .i64 (wrap64 (gB + 1))))).cell? _ = some _ from HY))
        clear NK
        replace p215 := eq_true p215
        replace q215 := eq_true q215
        go_enter Tryd.func43, Tryd.ntmps43
        go_wp2
        repeat (go_quiet (fail); try go_wp2)
        all_goals go_ret
        all_goals exact ⟨by first | rfl | (simp [fI, fJ] <;> rfl) | (simp only [← EC]; first | rfl | (simp [fI, fJ] <;> rfl)) | (simp; rw [← EC]; (first | unfold mn | unfold mx); split <;> omega) | (simp; (first | unfold mn at EC | unfold mx at EC); split at EC <;> omega) | (simp [*, fI, fJ] <;> rfl), by repeat (first | (with_reducible first | exact HI0.out | apply aD.alloc | apply aD.drewN | apply aD.drew | apply aD.sG | apply aD.sH) | exact HI0.out), by repeat (first | (with_reducible first | exact HB.out | apply bS | apply bO | apply bQ | refine ed ?_ (aD.ge HI0.out)) | exact HB.out), by repeat (first | (with_reducible first | exact HK.out | apply aI.l6 | apply gG | apply gK | apply gH) | exact HK.out)⟩
      · rw [if_neg c6] at H
        exact absurd H (by simp)
    · rw [if_neg c5] at H
      exact absurd H (by simp)

end Go.Proofs.YtggelekooacmnaaDoor.Q
namespace Go.Proofs.YtggelekooacmnaaDoor.Q
open Go.RowKit Go.Proofs.YtggelekooacmnaaDoorW.bg Go.Proofs.YtggelekooacmnaaDoorW.bW Go.Proofs.YtggelekooacmnaaDoorW.dh
attribute [local go_sem] fE fF gy gz eO eP fG fH   -- for this text's walks alone
set_option linter.unusedVariables false
set_option linter.unusedSimpArgs false

/-! ### dA: function 20 -/
def dA.f (bX : List Int) (gB : Int) (ik : Int) (a1 : Int) : Option (Int × Int × Int) := if a1 < 1 then (some (0, gB, ik)) else ((jR.f bX gB ik).bind fun xL => (if a1 = 0 then (none) else (if (Int.tmod xL.1 a1) < 0 then (some (wrap64 ((Int.tmod xL.1 a1) + a1), xL.2.1, xL.2.2)) else (some (Int.tmod xL.1 a1, xL.2.1, xL.2.2)))))
set_option maxHeartbeats 8000000 in
set_option maxRecDepth 100000 in
theorem dA.calls (g : Nat) (bX : List Int) (gB : Int) (ik : Int) (a1 : Int) (r1 : Int) (r2 : Int) (r3 : Int) (w0 w : World) (hI : aD w0 w g bX gB ik) (hB : Below w0.heap.size w0 w) (h : dA.f bX gB ik a1 = some (r1, r2, r3)) :
    Calls Tryd.prog 20 #[.pointer (some ⟨g, 0, none⟩), .int .i64 a1] w fun e w' => e = .returned (.int .i64 r1) ∧ aD w0 w' g bX r2 r3 ∧ Below w0.heap.size w0 w' ∧ aI w w' g none := by
  have HI0 := aa.mk hI
  have HK := aa.mk (aI.refl w g none)
  have HL := aa.mk hB.size
  clear hI
  have HW0 := aa.mk hB.size
  have HB := aa.mk hB
  clear hB
  have H : (if a1 < 1 then (some (0, gB, ik)) else ((jR.f bX gB ik).bind fun xL => (if a1 = 0 then (none) else (if (Int.tmod xL.1 a1) < 0 then (some (wrap64 ((Int.tmod xL.1 a1) + a1), xL.2.1, xL.2.2)) else (some (Int.tmod xL.1 a1, xL.2.1, xL.2.2)))))) = some (r1, r2, r3) := h
  clear h
  by_cases c3 : a1 < 1
  · rw [if_pos c3] at H
    have kI : decide (a1 < 1) = true := decide_eq_true c3
    clear c3
    simp only [Option.some.injEq, Prod.mk.injEq] at H
    obtain ⟨rfl, rfl, rfl⟩ := H
    go_enter Tryd.func20, Tryd.ntmps20
    go_wp2
    go_ret
    exact ⟨by first | rfl | (simp [fI, fJ] <;> rfl) | (simp [*, fI, fJ] <;> rfl), by repeat (first | (with_reducible first | exact HI0.out | apply aD.alloc | apply aD.drewN | apply aD.drew | apply aD.sG | apply aD.sH) | exact HI0.out), by repeat (first | (with_reducible first | exact HB.out | apply bS | apply bO | apply bQ | refine ed ?_ (aD.ge HI0.out)) | exact HB.out), by repeat (first | (with_reducible first | exact HK.out | apply aI.l6 | apply gG | apply gK | apply gH) | exact HK.out)⟩
  · rw [if_neg c3] at H
    have kI : decide (a1 < 1) = false := decide_eq_false c3
    clear c3
    replace H := Option.bind_eq_some_iff.mp H
    obtain ⟨⟨t216, t217, t218⟩, A40, H⟩ := H
    replace H : (if a1 = 0 then (none) else (if (Int.tmod t216 a1) < 0 then (some (wrap64 ((Int.tmod t216 a1) + a1), t217, t218)) else (some (Int.tmod t216 a1, t217, t218)))) = some (r1, r2, r3) := H
    have A4 := aa.mk A40
    clear A40
    by_cases c5 : a1 = 0
    · rw [if_pos c5] at H
      exact absurd H (by simp)
    · rw [if_neg c5] at H
      have jU : (a1 == 0) = false := beq_eq_false_iff_ne.mpr c5
      have sJ : (a1 != 0) = true := bne_iff_ne.mpr c5
      by_cases c6 : (Int.tmod t216 a1) < 0
      · rw [if_pos c6] at H
        have vT : decide ((Int.tmod t216 a1) < 0) = true := decide_eq_true c6
        clear c6
        simp only [Option.some.injEq, Prod.mk.injEq] at H
        obtain ⟨rfl, rfl, rfl⟩ := H
        go_enter Tryd.func20, Tryd.ntmps20
        go_wp2_with (first | ((with_reducible refine aC (f := 43) rfl ?_); refine aX (some 9) rfl rfl Tryd.func43 (by kernel_rfl) rfl #[.pointer (some ⟨g, 0, none⟩)] rfl (by (try simp only [List.map_toArray, List.map_cons, List.map_nil]); first | done | rfl | (simp only [List.length_drop, List.length_take]; rfl)) ?_; (with_reducible refine (jR.calls g bX gB ik t216 t217 t218 w0 _ ?ay ?az A4.out).mono ?_); (case ay => repeat (first | (with_reducible first | exact HI0.out | apply aD.alloc | apply aD.drewN | apply aD.drew | apply aD.sG | apply aD.sH) | exact HI0.out)); (case az => repeat (first | (with_reducible first | exact HB.out | apply bS | apply bO | apply bQ | refine ed ?_ (aD.ge HI0.out)) | exact HB.out)); rintro e w7 ⟨rfl, hi, hb, hk⟩; refine ⟨_, rfl, ?_⟩; have n0_ := aa.mk (aI.trans (by repeat (first | (with_reducible first | exact HK.out | apply aI.l6 | apply gG | apply gK | apply gH) | exact HK.out)) hk (.inl rfl)); have n1_ := aa.mk (hb); have n2_ := aa.mk (hi); clear HK; clear HB; clear HI0; have HK := n0_; have HB := n1_; have HI0 := n2_; clear n0_ n1_ n2_; (try clear hb); (try clear hb2); (try clear hk); (try clear hi)))
        go_ret
        exact ⟨by first | rfl | (simp [fI, fJ] <;> rfl) | (simp [*, fI, fJ] <;> rfl), by repeat (first | (with_reducible first | exact HI0.out | apply aD.alloc | apply aD.drewN | apply aD.drew | apply aD.sG | apply aD.sH) | exact HI0.out), by repeat (first | (with_reducible first | exact HB.out | apply bS | apply bO | apply bQ | refine ed ?_ (aD.ge HI0.out)) | exact HB.out), by repeat (first | (with_reducible first | exact HK.out | apply aI.l6 | apply gG | apply gK | apply gH) | exact HK.out)⟩
      · rw [if_neg c6] at H
        have vT : decide ((Int.tmod t216 a1) < 0) = false := decide_eq_false c6
        clear c6
        simp only [Option.some.injEq, Prod.mk.injEq] at H
        obtain ⟨rfl, rfl, rfl⟩ := H
        go_enter Tryd.func20, Tryd.ntmps20
        go_wp2_with (first | ((with_reducible refine aC (f := 43) rfl ?_); refine aX (some 9) rfl rfl Tryd.func43 (by kernel_rfl) rfl #[.pointer (some ⟨g, 0, none⟩)] rfl (by (try simp only [List.map_toArray, List.map_cons, List.map_nil]); first | done | rfl | (simp only [List.length_drop, List.length_take]; rfl)) ?_; (with_reducible refine (jR.calls g bX gB ik t216 t217 t218 w0 _ ?ay ?az A4.out).mono ?_); (case ay => repeat (first | (with_reducible first | exact HI0.out | apply aD.alloc | apply aD.drewN | apply aD.drew | apply aD.sG | apply aD.sH) | exact HI0.out)); (case az => repeat (first | (with_reducible first | exact HB.out | apply bS | apply bO | apply bQ | refine ed ?_ (aD.ge HI0.out)) | exact HB.out)); rintro e w8 ⟨rfl, hi, hb, hk⟩; refine ⟨_, rfl, ?_⟩; have n0_ := aa.mk (aI.trans (by repeat (first | (with_reducible first | exact HK.out | apply aI.l6 | apply gG | apply gK | apply gH) | exact HK.out)) hk (.inl rfl)); have n1_ := aa.mk (hb); have n2_ := aa.mk (hi); clear HK; clear HB; clear HI0; have HK := n0_; have HB := n1_; have HI0 := n2_; clear n0_ n1_ n2_; (try clear hb); (try clear hb2); (try clear hk); (try clear hi)))
        go_ret
        exact ⟨by first | rfl | (simp [fI, fJ] <;> rfl) | (simp [*, fI, fJ] <;> rfl), by repeat (first | (with_reducible first | exact HI0.out | apply aD.alloc | apply aD.drewN | apply aD.drew | apply aD.sG | apply aD.sH) | exact HI0.out), by repeat (first | (with_reducible first | exact HB.out | apply bS | apply bO | apply bQ | refine ed ?_ (aD.ge HI0.out)) | exact HB.out), by repeat (first | (with_reducible first | exact HK.out | apply aI.l6 | apply gG | apply gK | apply gH) | exact HK.out)⟩

end Go.Proofs.YtggelekooacmnaaDoor.Q
namespace Go.Proofs.YtggelekooacmnaaDoor.Q
open Go.RowKit Go.Proofs.YtggelekooacmnaaDoorW.bg Go.Proofs.YtggelekooacmnaaDoorW.bW Go.Proofs.YtggelekooacmnaaDoorW.dh
attribute [local go_sem] fE fF gy gz eO eP fG fH   -- for this text's walks alone
set_option linter.unusedVariables false
set_option linter.unusedSimpArgs false

/-! ### dQ: function 17 -/
def dQ.f (bX : List Int) (gB : Int) (ik : Int) (a1 : Int) (a2 : Int) : Option (Int × Int × Int) := (dA.f bX gB ik (wrap64 ((wrap64 (a2 - a1)) + 1))).bind fun LU => (some (wrap64 (a1 + LU.1), LU.2.1, LU.2.2))
set_option maxHeartbeats 8000000 in
set_option maxRecDepth 100000 in
theorem dQ.calls (g : Nat) (bX : List Int) (gB : Int) (ik : Int) (a1 : Int) (a2 : Int) (r1 : Int) (r2 : Int) (r3 : Int) (w0 w : World) (hI : aD w0 w g bX gB ik) (hB : Below w0.heap.size w0 w) (h : dQ.f bX gB ik a1 a2 = some (r1, r2, r3)) :
    Calls Tryd.prog 17 #[.pointer (some ⟨g, 0, none⟩), .int .i64 a1, .int .i64 a2] w fun e w' => e = .returned (.int .i64 r1) ∧ aD w0 w' g bX r2 r3 ∧ Below w0.heap.size w0 w' ∧ aI w w' g none := by
  have HI0 := aa.mk hI
  have HK := aa.mk (aI.refl w g none)
  have HL := aa.mk hB.size
  clear hI
  have HW0 := aa.mk hB.size
  have HB := aa.mk hB
  clear hB
  have H : ((dA.f bX gB ik (wrap64 ((wrap64 (a2 - a1)) + 1))).bind fun LU => (some (wrap64 (a1 + LU.1), LU.2.1, LU.2.2))) = some (r1, r2, r3) := h
  clear h
  replace H := Option.bind_eq_some_iff.mp H
  obtain ⟨⟨t219, t220, t221⟩, A40, H⟩ := H
  replace H : (some (wrap64 (a1 + t219), t220, t221)) = some (r1, r2, r3) := H
  have A4 := aa.mk A40
  clear A40
  simp only [Option.some.injEq, Prod.mk.injEq] at H
  obtain ⟨rfl, rfl, rfl⟩ := H
  go_enter Tryd.func17, Tryd.ntmps17
  go_wp2_with (first | ((with_reducible refine aC (f := 20) rfl ?_); refine aX (some 13) rfl rfl Tryd.func20 (by kernel_rfl) rfl #[.pointer (some ⟨g, 0, none⟩), .int .i64 (wrap64 ((wrap64 (a2 - a1)) + 1))] rfl (by (try simp only [List.map_toArray, List.map_cons, List.map_nil]); first | done | rfl | (simp only [List.length_drop, List.length_take]; rfl)) ?_; (with_reducible refine (dA.calls g bX gB ik (wrap64 ((wrap64 (a2 - a1)) + 1)) t219 t220 t221 w0 _ ?ay ?az A4.out).mono ?_); (case ay => repeat (first | (with_reducible first | exact HI0.out | apply aD.alloc | apply aD.drewN | apply aD.drew | apply aD.sG | apply aD.sH) | exact HI0.out)); (case az => repeat (first | (with_reducible first | exact HB.out | apply bS | apply bO | apply bQ | refine ed ?_ (aD.ge HI0.out)) | exact HB.out)); rintro e w5 ⟨rfl, hi, hb, hk⟩; refine ⟨_, rfl, ?_⟩; have n0_ := aa.mk (aI.trans (by repeat (first | (with_reducible first | exact HK.out | apply aI.l6 | apply gG | apply gK | apply gH) | exact HK.out)) hk (.inl rfl)); have n1_ := aa.mk (hb); have n2_ := aa.mk (hi); clear HK; clear HB; clear HI0; have HK := n0_; have HB := n1_; have HI0 := n2_; clear n0_ n1_ n2_; (try clear hb); (try clear hb2); (try clear hk); (try clear hi)))
  go_ret
  exact ⟨by first | rfl | (simp [fI, fJ] <;> rfl) | (simp [*, fI, fJ] <;> rfl), by repeat (first | (with_reducible first | exact HI0.out | apply aD.alloc | apply aD.drewN | apply aD.drew | apply aD.sG | apply aD.sH) | exact HI0.out), by repeat (first | (with_reducible first | exact HB.out | apply bS | apply bO | apply bQ | refine ed ?_ (aD.ge HI0.out)) | exact HB.out), by repeat (first | (with_reducible first | exact HK.out | apply aI.l6 | apply gG | apply gK | apply gH) | exact HK.out)⟩

end Go.Proofs.YtggelekooacmnaaDoor.Q
namespace Go.Proofs.YtggelekooacmnaaDoor.Q
open Go.RowKit Go.Proofs.YtggelekooacmnaaDoorW.bg Go.Proofs.YtggelekooacmnaaDoorW.bW Go.Proofs.YtggelekooacmnaaDoorW.dh
attribute [local go_sem] fE fF gy gz eO eP fG fH   -- for this text's walks alone
set_option linter.unusedVariables false
set_option linter.unusedSimpArgs false

/-! ### aG: function 15 -/
mutual
def aG.j0 : Nat → Int → Int → List Int → Int → Int → Option (Int × Int × Int × Int × (List (S24)) × Int × Int)
 | 0, _, _, _, _, _ => none
 | k + 1, x1, x5, x1000, z8, Aa => if x5 = 0 then (some (1, 0, 0, 0, ([] : List (S24)), z8, Aa)) else (if x5 = 1 then (aG.j1 k x1 x5 (x5 == 1) x1000 z8 Aa) else (aG.j1 k x1 x5 (x5 == 2) x1000 z8 Aa))
def aG.j1 : Nat → Int → Int → Bool → List Int → Int → Int → Option (Int × Int × Int × Int × (List (S24)) × Int × Int)
 | 0, _, _, _, _, _, _ => none
 | k + 1, x1, x15, x19, x1000, z8, Aa => if x19 = true then ((dQ.f x1000 z8 Aa (-2) 3).bind fun Gm => ((dA.f x1000 Gm.2.1 Gm.2.2 4).bind fun LV => (some (2, Gm.1, wrap64 (Gm.1 + LV.1), 0, ([] : List (S24)), LV.2.1, LV.2.2)))) else (if x15 = 3 then (aG.j2 k x1 (x15 == 3) x1000 z8 Aa) else (aG.j2 k x1 (x15 == 4) x1000 z8 Aa))
def aG.j2 : Nat → Int → Bool → List Int → Int → Int → Option (Int × Int × Int × Int × (List (S24)) × Int × Int)
 | 0, _, _, _, _, _ => none
 | k + 1, x1, x30, x1000, z8, Aa => if x30 = true then ((dQ.f x1000 z8 Aa 2 3).bind fun LW => (aG.l0 k x1 LW.1 x1000 LW.2.1 LW.2.2 5 0 0 0 ([] : List (S24)))) else ((dQ.f x1000 z8 Aa 1 2).bind fun LX => ((aG.f k x1000 LX.2.1 LX.2.2 1).bind fun xM => (some (6, 0, 0, LX.1, (([(⟨xM.1, xM.2.1, xM.2.2.1, xM.2.2.2.1, xM.2.2.2.2.1⟩ : S24)] : List (S24))), xM.2.2.2.2.2.1, xM.2.2.2.2.2.2))))
def aG.l0 : Nat → Int → Int → List Int → Int → Int → Int → Int → Int → Int → List (S24) → Option (Int × Int × Int × Int × (List (S24)) × Int × Int)
 | 0, _, _, _, _, _, _, _, _, _, _ => none
 | k + 1, x1, x8, x1000, z8, Aa, Wt, Wu, Wv, Ww, SG => if x8 > 0 then ((aG.f k x1000 z8 Aa (wrap64 (x1 - 1))).bind fun LY => (if SG.length < 2513169434916 then (aG.l0 k x1 (wrap64 (x8 - 1)) x1000 LY.2.2.2.2.2.1 LY.2.2.2.2.2.2 Wt Wu Wv Ww (SG ++ [(⟨LY.1, LY.2.1, LY.2.2.1, LY.2.2.2.1, LY.2.2.2.2.1⟩ : S24)])) else (none))) else (some (Wt, Wu, Wv, Ww, SG, z8, Aa))
def aG.f : Nat → List Int → Int → Int → Int → Option (Int × Int × Int × Int × (List (S24)) × Int × Int)
 | 0, _, _, _, _ => none
 | k + 1, bX, gB, ik, a1 => (dA.f bX gB ik 6).bind fun DF => (if a1 ≤ 1 then ((dA.f bX DF.2.1 DF.2.2 3).bind fun LZ => (aG.j0 k a1 LZ.1 bX LZ.2.1 LZ.2.2)) else (aG.j0 k a1 DF.1 bX DF.2.1 DF.2.2))
end
def aG.T17 : Bool × List (List Nat × List Nat) := (true, [([], []), ([0], [0]), ([], []), ([], []), ([3], [3]), ([2, 4], [2, 4]), ([5], [5]), ([1, 6, 5], [1, 6]), ([0, 1, 2, 3, 4, 5, 6, 7], []), ([8, 7, 7, 0, 1, 2, 3, 4, 5, 6, 7], [7, 8])])
def aG.B17 : List Nat := [0, 1, 0, 0, 8, 28, 60, 127, 255, 511]
theorem aG.tab17 : l8 .any (opsOf Tryd.f15 17) = aG.T17 := by kernel_rfl
theorem aG.bits17 : nQ aG.T17.2 aG.B17 = true := by kernel_rfl
set_option maxHeartbeats 8000000 in
set_option maxRecDepth 100000 in
theorem aG.calls (k : Nat) : ∀ (g : Nat) (bX : List Int) (gB : Int) (ik : Int) (a1 : Int) (r1 : Int) (r2 : Int) (r3 : Int) (r4 : Int) (r5 : List (S24)) (r6 : Int) (r7 : Int) (w0 w : World) (hI : aD w0 w g bX gB ik) (hB : Below w0.heap.size w0 w) (h : aG.f k bX gB ik a1 = some (r1, r2, r3, r4, r5, r6, r7)),
  Calls Tryd.prog 15 #[.pointer (some ⟨g, 0, none⟩), .int .i64 a1] w fun e w' => ∃ v4_ : Value, e = .returned (.agg #[.int .i64 r1, .int .i64 r2, .int .i64 r3, .int .i64 r4, v4_]) ∧ Kd.N k24 24 w' w.heap.size (fun k_ => (w.heap.size ≤ k_)) v4_ r5 ∧ aD w0 w' g bX r6 r7 ∧ Below w0.heap.size w0 w' ∧ aI w w' g none := by
 induction k using Nat.strongRecOn with
 | _ k ih =>
 intro g bX gB ik a1 r1 r2 r3 r4 r5 r6 r7 w0 w hI hB h; cases k with
 | zero => exact absurd h (by simp [aG.f])
 | succ k =>
 simp only [aG.f] at h; have qb := Tryd.underlying24; have HI0 := aa.mk hI; have HK := aa.mk (aI.refl w g none); have HL := aa.mk hB.size; clear hI; have HW0 := aa.mk hB.size; have HB := aa.mk hB; clear hB; have H : ((dA.f bX gB ik 6).bind fun DF => (if a1 ≤ 1 then ((dA.f bX DF.2.1 DF.2.2 3).bind fun LZ => (aG.j0 k a1 LZ.1 bX LZ.2.1 LZ.2.2)) else (aG.j0 k a1 DF.1 bX DF.2.1 DF.2.2))) = some (r1, r2, r3, r4, r5, r6, r7) := h; clear h; replace H := Option.bind_eq_some_iff.mp H; obtain ⟨⟨t223, t224, t225⟩, A30, H⟩ := H; (try dsimp only at H)
 have A3 := aa.mk A30; clear A30; have HC4 := aa.mk H; clear H; go_enter Tryd.func15, Tryd.ntmps15; go_upto_if 12 with (first | ((with_reducible refine aU (N := 4) rfl ?_); refine aY ?hg (N := 4) ?hd (cs := #[.int .i64 0, .int .i64 0, .int .i64 0, .int .i64 0, .slice none 0 0]) (t := 24) ?hr ?_; (case hd => rfl); (case hg => rfl); (case hr => first | (go_simp; done) | (go_simp; rfl)); intro iM hg w5 aK hb; have mY := aa.mk (aK); have Bu := aa.mk ((by rw [hg]; exact (bY (w := w) (g := g) (row := none) kp_) : w.heap.size ≤ iM)); have GE222 := aa.mk ((Nat.le_trans HW0.out (by rw [hg]; exact (bY (w := w) (g := g) (row := none) kp_) : w.heap.size ≤ iM) : w0.heap.size ≤ iM)); have NL := aa.mk ((by rw [hg]; exact Nat.ne_of_lt (aD.lt (show aD w0 _ g bX gB ik from si_)) : g ≠ iM)); have uN := aa.mk ((by rw [hg]; exact Nat.ne_of_gt (aD.lt (show aD w0 _ g bX gB ik from si_)) : iM ≠ g)); replace HI0 := aa.mk (aD.below si_ hb); replace HK := aa.mk (aI.trans (kp_ (w := w)) (aI.of_below hb g none) (.inl rfl)); replace HB := aa.mk (ai bl_ hb); clear hb aK hg) | ((with_reducible refine aC (f := 20) rfl ?_); refine aX (some 10) rfl rfl Tryd.func20 (by kernel_rfl) rfl #[.pointer (some ⟨g, 0, none⟩), .int .i64 6] rfl mp_ ?_; (with_reducible refine (dA.calls g bX gB ik 6 t223 t224 t225 w0 _ ?ay ?az A3.out).mono ?_); (case ay => exact si_); (case az => exact bl_); rintro e w6 ⟨rfl, hi, hb, hk⟩; refine ⟨_, rfl, ?_⟩; replace mY := aa.mk (aI.blk hk (g' := iM) (o := .cells #[.int .i64 0, .int .i64 0, .int .i64 0, .int .i64 0, .slice none 0 0] 24 (0, 0)) bk_ uN.out (by simp)); replace HK := aa.mk (aI.trans (kp_ (w := w)) hk (.inl rfl)); replace HB := aa.mk (hb); replace HI0 := aa.mk (hi); (try clear hb); (try clear hb2); (try clear hk); (try clear hi)))
 (try simp only [Act.put, List.setIfInBounds_toArray, List.set_cons_zero, List.set_cons_succ])
 go_cut [5] (fun v5 wc => ∃ (kq : Nat) (DI : Int) (oo : Int) (oq : Int), v5 = .int .i64 DI ∧ aa (aG.j0 kq a1 DI bX oo oq = some (r1, r2, r3, r4, r5, r6, r7)) ∧ aa (kq ≤ k) ∧ aa (wc.heap[iM]? = some (.cells #[.int .i64 0, .int .i64 0, .int .i64 0, .int .i64 0, (.slice none 0 0)] 24 (0, 0))) ∧ aa (aD w0 wc g bX oo oq) ∧ aa (aI w wc g none) ∧ aa (Below w0.heap.size w0 wc))
 case first =>
  have H := HC4.out; clear HC4; by_cases c7 : a1 ≤ 1
  ·rw [if_pos c7] at H; have mO := decide_eq_true c7; clear c7; (first | rw [mO] | (simp only [eT, fA]; rw [mO]) | skip)
   replace H := Option.bind_eq_some_iff.mp H; obtain ⟨⟨t226, t227, t228⟩, A80, H⟩ := H; (try dsimp only at H)
   have A8 := aa.mk A80; clear A80; have H' := aa.mk H; clear H; go_wp2_with (first | ((with_reducible refine aC (f := 20) rfl ?_); refine aX (some 14) rfl rfl Tryd.func20 (by kernel_rfl) rfl #[.pointer (some ⟨g, 0, none⟩), .int .i64 3] rfl mp_ ?_; (with_reducible refine (dA.calls g bX t224 t225 3 t226 t227 t228 w0 _ ?ay ?az A8.out).mono ?_); (case ay => exact si_); (case az => exact bl_); rintro e w9 ⟨rfl, hi, hb, hk⟩; refine ⟨_, rfl, ?_⟩; replace mY := aa.mk (aI.blk hk (g' := iM) (o := .cells #[.int .i64 0, .int .i64 0, .int .i64 0, .int .i64 0, .slice none 0 0] 24 (0, 0)) bk_ uN.out (by simp)); replace HK := aa.mk (aI.trans (kp_ (w := w)) hk (.inl rfl)); replace HB := aa.mk (hb); replace HI0 := aa.mk (hi); (try clear hb); (try clear hb2); (try clear hk); (try clear hi)))
   go_meet
   case rel => exact ⟨_, (t226), (t227), (t228), rs_, H', ⟨by first | omega | exact Nat.le_refl _⟩, ⟨bk_⟩, ⟨si_⟩, ⟨by repeat (first | (with_reducible first | exact HK.out | apply aI.l6 | apply gG | apply gK | apply gH | refine gM ?_ Bu.out _) | exact HK.out)⟩, ⟨bl_⟩⟩
  ·rw [if_neg c7] at H; have mO := decide_eq_false c7; clear c7; (first | rw [mO] | (simp only [eT, fA]; rw [mO]) | skip)
   have H' := aa.mk H; clear H; go_wp2; go_meet
   case rel => exact ⟨_, (t223), (t224), (t225), rs_, H', ⟨by first | omega | exact Nat.le_refl _⟩, ⟨bk_⟩, ⟨si_⟩, ⟨by repeat (first | (with_reducible first | exact HK.out | apply aI.l6 | apply gG | apply gK | apply gH | refine gM ?_ Bu.out _) | exact HK.out)⟩, ⟨bl_⟩⟩
 case rest =>
  clear HC4; (try clear c1); (try clear c2); (try clear p2); (try clear c7); (try clear mO); obtain ⟨kq, DI, oo, oq, rfl, HA, HJ3, mY, HI0, HK, HB⟩ := hcut; cases kq with
  | zero => exact absurd HA.out (by simp [aG.j0])
  | succ kj3 =>
   have H := HA.out; clear HA; simp only [aG.j0] at H; by_cases c10 : DI = 0
   ·rw [if_pos c10] at H; obtain ⟨kv, vM⟩ := bq_ c10; clear c10; simp only [Option.some.injEq, Prod.mk.injEq] at H; obtain ⟨rfl, rfl, rfl, rfl, rfl, rfl, rfl⟩ := H; have hnb11 := uN.out; have hnc11 := NL.out; obtain ⟨o5, o6, o7, o8, o9, pg, pq, pz, pE, pF⟩ := bz mY.out; go_wp2; refine bodyPost_ret (results_cell_row rfl _ _ iM 24 #[.int .i64 1, .int .i64 0, .int .i64 0, .int .i64 0, .slice none 0 0] (0, 0) _ rfl b5_ Tryd.underlying24 rfl (by kernel_rfl)) rfl ?_
    exact ⟨_, re_, by first | exact Kd.oC _ _ _ _ _ | exact Kd.xG _ _ _ _ _ | exact Kd.xI _ _ _ _ _ | exact Kd.xD _ _ _ _ _ | exact Kd.xE _ _ _ _ _, si_, bl_, by repeat (first | (with_reducible first | exact HK.out | apply aI.l6 | apply gG | apply gK | apply gH | refine gM ?_ Bu.out _) | exact HK.out)⟩
   ·rw [if_neg c10] at H; obtain ⟨kv, vM⟩ := bn_ c10; have HC13 := aa.mk H; clear H; go_upto_if 19 with (fail)
    go_cut [19] (fun v19 wc => ∃ (kq : Nat) (PN : Bool), v19 = .bool PN ∧ aa (aG.j1 kq a1 DI PN bX oo oq = some (r1, r2, r3, r4, r5, r6, r7)) ∧ aa (kq ≤ kj3) ∧ aa (wc.heap[iM]? = some (.cells #[.int .i64 0, .int .i64 0, .int .i64 0, .int .i64 0, (.slice none 0 0)] 24 (0, 0))) ∧ aa (aD w0 wc g bX oo oq) ∧ aa (aI w wc g none) ∧ aa (Below w0.heap.size w0 wc))
    case first =>
     have H := HC13.out; clear HC13; by_cases c14 : DI = 1
     ·rw [if_pos c14] at H; obtain ⟨sI, E9⟩ := bq_ c14; clear c14; (first | rw [sI] | (simp only [eT, fA]; rw [sI]) | skip)
      have H' := aa.mk H; clear H; go_wp2; go_meet
      case rel => exact ⟨_, ((DI == 1)), rs_, H', ⟨by have := HJ3.out; first | omega | exact Nat.le_refl _⟩, ⟨bk_⟩, ⟨si_⟩, ⟨by repeat (first | (with_reducible first | exact HK.out | apply aI.l6 | apply gG | apply gK | apply gH | refine gM ?_ Bu.out _) | exact HK.out)⟩, ⟨bl_⟩⟩
     ·rw [if_neg c14] at H; obtain ⟨sI, E9⟩ := bn_ c14; (first | rw [sI] | (simp only [eT, fA]; rw [sI]) | skip)
      have H' := aa.mk H; clear H; go_wp2; go_meet
      case rel => exact ⟨_, ((DI == 2)), rs_, H', ⟨by have := HJ3.out; first | omega | exact Nat.le_refl _⟩, ⟨bk_⟩, ⟨si_⟩, ⟨by repeat (first | (with_reducible first | exact HK.out | apply aI.l6 | apply gG | apply gK | apply gH | refine gM ?_ Bu.out _) | exact HK.out)⟩, ⟨bl_⟩⟩
    case rest =>
     clear HC13; (try clear c1); (try clear c2); (try clear p2); (try clear c7); (try clear mO); (try clear c10); (try clear kv); (try clear vM); (try clear c11); (try clear c14); (try clear sI); (try clear E9); (try clear o5 o6 o7 o8 o9 pg pq pz pE pF); (try clear p2); obtain ⟨kq, PN, rfl, HA, HJ12, mY, HI0, HK, HB⟩ := hcut; cases kq with
     | zero => exact absurd HA.out (by simp [aG.j1])
     | succ kj12 =>
      have H := HA.out; clear HA; simp only [aG.j1] at H; by_cases c15 : PN = true
      ·subst c15; have H1 : ((dQ.f bX oo oq (-2) 3).bind fun Gm => ((dA.f bX Gm.2.1 Gm.2.2 4).bind fun LV => (some (2, Gm.1, wrap64 (Gm.1 + LV.1), 0, ([] : List (S24)), LV.2.1, LV.2.2)))) = some (r1, r2, r3, r4, r5, r6, r7) := by rw [if_pos rfl] at H; exact H
       clear H; have H := H1; clear H1; replace H := Option.bind_eq_some_iff.mp H; obtain ⟨⟨t229, t230, t231⟩, A160, H⟩ := H; (try dsimp only at H)
       have A16 := aa.mk A160; clear A160; replace H := Option.bind_eq_some_iff.mp H; obtain ⟨⟨t232, t233, t234⟩, A170, H⟩ := H; (try dsimp only at H)
       have A17 := aa.mk A170; clear A170; simp only [Option.some.injEq, Prod.mk.injEq] at H; obtain ⟨rfl, rfl, rfl, rfl, rfl, rfl, rfl⟩ := H; go_wp2_with (first | ((with_reducible refine aC (f := 17) rfl ?_); refine aX (some 23) rfl rfl Tryd.func17 (by kernel_rfl) rfl #[.pointer (some ⟨g, 0, none⟩), .int .i64 (-2), .int .i64 3] rfl mp_ ?_; (with_reducible refine (dQ.calls g bX oo oq (-2) 3 t229 t230 t231 w0 _ ?ay ?az A16.out).mono ?_); (case ay => exact si_); (case az => exact bl_); rintro e w18 ⟨rfl, hi, hb, hk⟩; refine ⟨_, rfl, ?_⟩; replace mY := aa.mk (aI.blk hk (g' := iM) (o := .cells #[.int .i64 0, .int .i64 0, .int .i64 0, .int .i64 0, .slice none 0 0] 24 (0, 0)) bk_ uN.out (by simp)); replace HK := aa.mk (aI.trans (kp_ (w := w)) hk (.inl rfl)); replace HB := aa.mk (hb); replace HI0 := aa.mk (hi); (try clear hb); (try clear hb2); (try clear hk); (try clear hi)) | ((with_reducible refine aC (f := 20) rfl ?_); refine aX (some 27) rfl rfl Tryd.func20 (by kernel_rfl) rfl #[.pointer (some ⟨g, 0, none⟩), .int .i64 4] rfl mp_ ?_; (with_reducible refine (dA.calls g bX t230 t231 4 t232 t233 t234 w0 _ ?ay ?az A17.out).mono ?_); (case ay => exact si_); (case az => exact bl_); rintro e w19 ⟨rfl, hi, hb, hk⟩; refine ⟨_, rfl, ?_⟩; replace mY := aa.mk (aI.blk hk (g' := iM) (o := .cells #[.int .i64 0, .int .i64 0, .int .i64 0, .int .i64 0, .slice none 0 0] 24 (0, 0)) bk_ uN.out (by simp)); replace HK := aa.mk (aI.trans (kp_ (w := w)) hk (.inl rfl)); replace HB := aa.mk (hb); replace HI0 := aa.mk (hi); (try clear hb); (try clear hb2); (try clear hk); (try clear hi); have hnb20 := uN.out; have hnc20 := NL.out; obtain ⟨mP, mQ, mR, qC, qD, mU, mV, mW, qE, qF⟩ := bz mY.out))
       refine bodyPost_ret (results_cell_row rfl _ _ iM 24 #[.int .i64 2, .int .i64 t229, .int .i64 (wrap64 (t229 + t232)), .int .i64 0, .slice none 0 0] (0, 0) _ rfl b5_ Tryd.underlying24 rfl (by kernel_rfl)) rfl ?_
       exact ⟨_, re_, by first | exact Kd.oC _ _ _ _ _ | exact Kd.xG _ _ _ _ _ | exact Kd.xI _ _ _ _ _ | exact Kd.xD _ _ _ _ _ | exact Kd.xE _ _ _ _ _, si_, bl_, by repeat (first | (with_reducible first | exact HK.out | apply aI.l6 | apply gG | apply gK | apply gH | refine gM ?_ Bu.out _) | exact HK.out)⟩
      ·replace c15 := Bool.eq_false_iff.mpr c15; subst c15; have H1 : (if DI = 3 then (aG.j2 kj12 a1 (DI == 3) bX oo oq) else (aG.j2 kj12 a1 (DI == 4) bX oo oq)) = some (r1, r2, r3, r4, r5, r6, r7) := by rw [if_neg (show ¬ (false = true) by decide)] at H; exact H
       clear H; have H := H1; clear H1; have HC22 := aa.mk H; clear H; go_upto_if 30 with (fail)
       go_cut [30] (fun v30 wc => ∃ (kq : Nat) (PO : Bool), v30 = .bool PO ∧ aa (aG.j2 kq a1 PO bX oo oq = some (r1, r2, r3, r4, r5, r6, r7)) ∧ aa (kq ≤ kj12) ∧ aa (wc.heap[iM]? = some (.cells #[.int .i64 0, .int .i64 0, .int .i64 0, .int .i64 0, (.slice none 0 0)] 24 (0, 0))) ∧ aa (aD w0 wc g bX oo oq) ∧ aa (aI w wc g none) ∧ aa (Below w0.heap.size w0 wc))
       case first =>
        have H := HC22.out; clear HC22; by_cases c23 : DI = 3
        ·rw [if_pos c23] at H; obtain ⟨qU, vz⟩ := bq_ c23; clear c23; (first | rw [qU] | (simp only [eT, fA]; rw [qU]) | skip)
         have H' := aa.mk H; clear H; go_wp2; go_meet
         case rel => exact ⟨_, ((DI == 3)), rs_, H', ⟨by have := HJ3.out; have := HJ12.out; first | omega | exact Nat.le_refl _⟩, ⟨bk_⟩, ⟨si_⟩, ⟨by repeat (first | (with_reducible first | exact HK.out | apply aI.l6 | apply gG | apply gK | apply gH | refine gM ?_ Bu.out _) | exact HK.out)⟩, ⟨bl_⟩⟩
        ·rw [if_neg c23] at H; obtain ⟨qU, vz⟩ := bn_ c23; (first | rw [qU] | (simp only [eT, fA]; rw [qU]) | skip)
         have H' := aa.mk H; clear H; go_wp2; go_meet
         case rel => exact ⟨_, ((DI == 4)), rs_, H', ⟨by have := HJ3.out; have := HJ12.out; first | omega | exact Nat.le_refl _⟩, ⟨bk_⟩, ⟨si_⟩, ⟨by repeat (first | (with_reducible first | exact HK.out | apply aI.l6 | apply gG | apply gK | apply gH | refine gM ?_ Bu.out _) | exact HK.out)⟩, ⟨bl_⟩⟩
       case rest =>
        clear HC22; (try clear c1); (try clear c2); (try clear p2); (try clear p6); (try clear c7); (try clear mO); (try clear c10); (try clear kv); (try clear vM); (try clear c11); (try clear c14); (try clear sI); (try clear E9); (try clear c15); (try clear c17); (try clear c20); (try clear c23); (try clear qU); (try clear vz); (try clear o5 o6 o7 o8 o9 pg pq pz pE pF); (try clear mP mQ mR qC qD mU mV mW qE qF); (try clear p2); obtain ⟨kq, PO, rfl, HA, HJ21, mY, HI0, HK, HB⟩ := hcut; cases kq with
        | zero => exact absurd HA.out (by simp [aG.j2])
        | succ kj21 =>
         have H := HA.out; clear HA; simp only [aG.j2] at H; by_cases c24 : PO = true
         ·subst c24; have H1 : ((dQ.f bX oo oq 2 3).bind fun LW => (aG.l0 kj21 a1 LW.1 bX LW.2.1 LW.2.2 5 0 0 0 ([] : List (S24)))) = some (r1, r2, r3, r4, r5, r6, r7) := by rw [if_pos rfl] at H; exact H
          clear H; have H := H1; clear H1; replace H := Option.bind_eq_some_iff.mp H; obtain ⟨⟨t236, t237, t238⟩, A250, H⟩ := H; (try dsimp only at H)
          have A25 := aa.mk A250; clear A250; have H' := aa.mk H; clear H; go_wp2_with (first | ((with_reducible refine aU (N := 7) rfl ?_); refine aY ?hg (N := 7) ?hd (cs := #[.int .i64 0, .int .i64 0, .int .i64 0, .int .i64 0, .slice none 0 0]) (t := 24) ?hr ?_; (case hd => rfl); (case hg => rfl); (case hr => first | (go_simp; done) | (go_simp; rfl)); intro nH hg w26 aK hb; have kQ := aa.mk (aK); have GW235 := aa.mk ((by rw [hg]; exact (bY (w := w) (g := g) (row := none) kp_) : w.heap.size ≤ nH)); have GE235 := aa.mk ((Nat.le_trans HW0.out (by rw [hg]; exact (bY (w := w) (g := g) (row := none) kp_) : w.heap.size ≤ nH) : w0.heap.size ≤ nH)); have JM := nl_ mY hg; have MO := ng_ mY hg; have Wx := aa.mk ((by rw [hg]; exact Nat.ne_of_lt (aD.lt (show aD w0 _ g bX oo oq from si_)) : g ≠ nH)); have NM := aa.mk ((by rw [hg]; exact Nat.ne_of_gt (aD.lt (show aD w0 _ g bX oo oq from si_)) : nH ≠ g)); replace mY := kb_ mY hb; replace HI0 := aa.mk (aD.below si_ hb); replace HK := aa.mk (aI.trans (kp_ (w := w)) (aI.of_below hb g none) (.inl rfl)); replace HB := aa.mk (ai bl_ hb); clear hb aK hg; have hnb27 := MO.out; have hnc27 := JM.out; have hnb28 := NM.out; have hnc28 := Wx.out; obtain ⟨BM, BN, BO, BP, BQ, BR, BS, BU, BV, BX⟩ := bz kQ.out) | ((with_reducible refine aC (f := 17) rfl ?_); refine aX (some 35) rfl rfl Tryd.func17 (by kernel_rfl) rfl #[.pointer (some ⟨g, 0, none⟩), .int .i64 2, .int .i64 3] rfl mp_ ?_; (with_reducible refine (dQ.calls g bX oo oq 2 3 t236 t237 t238 w0 _ ?ay ?az A25.out).mono ?_); (case ay => exact si_); (case az => exact bl_); rintro e w30 ⟨rfl, hi, hb, hk⟩; refine ⟨_, rfl, ?_⟩; replace mY := aa.mk (aI.blk hk (g' := iM) (o := .cells #[.int .i64 0, .int .i64 0, .int .i64 0, .int .i64 0, .slice none 0 0] 24 (0, 0)) b5_ uN.out (by simp)); replace kQ := aa.mk (aI.blk hk (g' := nH) (o := .cells #[.int .i64 5, .int .i64 0, .int .i64 0, .int .i64 0, .slice none 0 0] 24 (0, 0)) b5_ NM.out (by simp)); replace HK := aa.mk (aI.trans (kp_ (w := w)) hk (.inl rfl)); replace HB := aa.mk (hb); replace HI0 := aa.mk (hi); (try clear hb); (try clear hb2); (try clear hk); (try clear hi)))
          go_loopg [8] kj21 (fun kq v8 w' => ∃ (x8_4 : Int) (NN : Int) (NP : Int) (xA : List (S24)) (qG : Value), v8 = .int .i64 x8_4 ∧ aa (aG.l0 kq a1 x8_4 bX NN NP 5 0 0 0 xA = some (r1, r2, r3, r4, r5, r6, r7)) ∧ aa (kq ≤ kj21) ∧ aa (Kd.N k24 24 w' w.heap.size (fun k_ => (w.heap.size ≤ k_) ∧ k_ ≠ iM ∧ k_ ≠ nH ∧ k_ ≠ g) qG xA) ∧ aa (w'.heap[iM]? = some (.cells #[.int .i64 0, .int .i64 0, .int .i64 0, .int .i64 0, (.slice none 0 0)] 24 (0, 0))) ∧ aa (w'.heap[nH]? = some (.cells #[.int .i64 5, .int .i64 0, .int .i64 0, .int .i64 0, qG] 24 (0, 0))) ∧ aa (aD w0 w' g bX NN NP) ∧ aa (aI w w' g none) ∧ aa (Below w0.heap.size w0 w'))
          case atStart => exact ⟨(t236), (t237), (t238), (([] : List (S24))), (.slice none 0 0), rs_, H', ⟨Nat.le_refl _⟩, ⟨by first | exact Kd.oC _ _ _ _ _ | exact Kd.xG _ _ _ _ _ | exact Kd.xI _ _ _ _ _ | exact Kd.xD _ _ _ _ _ | exact Kd.xE _ _ _ _ _⟩, ⟨bk_⟩, ⟨bk_⟩, ⟨si_⟩, ⟨by repeat (first | (with_reducible first | exact HK.out | apply aI.l6 | apply gG | apply gK | apply gH | refine gM ?_ Bu.out _ | refine gM ?_ GW235.out _) | exact HK.out)⟩, ⟨bl_⟩⟩
          case round =>
           clear H'; (try clear c1); (try clear c2); (try clear p2); (try clear p6); (try clear c7); (try clear mO); (try clear c10); (try clear kv); (try clear vM); (try clear c11); (try clear c14); (try clear sI); (try clear E9); (try clear c15); (try clear c17); (try clear c20); (try clear c23); (try clear qU); (try clear vz); (try clear c24); (try clear c27); (try clear c28); (try clear o5 o6 o7 o8 o9 pg pq pz pE pF); (try clear mP mQ mR qC qD mU mV mW qE qF); (try clear BM BN BO BP BQ BR BS BU BV BX); (try clear p2); (try clear p6); obtain ⟨x8_4, NN, NP, xA, qG, rfl, HA, HK4, nI, mY, kQ, HI0, HK, HB⟩ := hrel; cases gk with
           | zero => exact absurd HA.out (by simp [aG.l0])
           | succ k4 =>
            have H := HA.out; clear HA; simp only [aG.l0] at H; by_cases c31 : x8_4 > 0
            ·rw [if_pos c31] at H; have NQ : decide (0 < x8_4) = true := decide_eq_true c31; clear c31; replace H := Option.bind_eq_some_iff.mp H; obtain ⟨⟨t239, t240, t241, t242, t243, t246, t247⟩, A320, H⟩ := H; (try dsimp only at H)
             have A32 := aa.mk A320; clear A320; by_cases c33 : xA.length < 2513169434916
             ·rw [if_pos c33] at H; have LMc33 := aa.mk c33; clear c33; obtain ⟨y248, PQ⟩ : ∃ y_ : List (S24), y_ = (xA ++ [(⟨t239, t240, t241, t242, t243⟩ : S24)]) := ⟨_, rfl⟩; replace H : (aG.l0 k4 a1 (wrap64 (x8_4 - 1)) bX t246 t247 5 0 0 0 y248) = some (r1, r2, r3, r4, r5, r6, r7) := by first | (rw [PQ]; with_reducible exact H) | (have H2_ := (Option.bind_some _ _).symm.trans H; rw [PQ]; with_reducible exact H2_) | (have H2_ := (Option.bind_some _ _).symm.trans H; with_reducible exact H2_) | with_reducible exact H | (rw [PQ]; exact H) | exact H
              have Ny248 := aa.mk PQ; clear PQ; have H' := aa.mk H; clear H; try go_wp2
              replace nI := aa.mk (Kd.dO nI.out); replace mY := aa.mk (bC mY.out); replace kQ := aa.mk (bC kQ.out); replace HI0 := aa.mk (aD.drew HI0.out); replace HK := aa.mk (gK HK.out); replace HB := aa.mk (bQ HB.out); refine sD (n := 10) (S := fun w' => w'.cell? ⟨nH, 0, none⟩ = some (.int .i64 5) ∧ w'.cell? ⟨nH, 1, none⟩ = some (.int .i64 0) ∧ w'.cell? ⟨nH, 2, none⟩ = some (.int .i64 0) ∧ w'.cell? ⟨nH, 3, none⟩ = some (.int .i64 0) ∧ w'.cell? ⟨nH, 4, none⟩ = some (qG)) (ds := [9]) #[false, false, false, false, false, false, false, false, false, false] (by kernel_rfl) rfl rfl ⟨(ag kQ.out 0).trans rfl, (ag kQ.out 1).trans rfl, (ag kQ.out 2).trans rfl, (ag kQ.out 3).trans rfl, (ag kQ.out 4).trans rfl⟩ (fun hHeld => ?_); refine l9 aG.tab17 aG.bits17 (fun HT_ HW_ => ?_)
              generalize wr.drew = w34 at nI mY kQ HI0 HK HB hHeld ⊢
              refine pu_ HT_ 0 40 (bm 10 1) ?_
              refine pu_ HT_ 2 42 (bm 10 5) ?_
              refine pu_ HT_ 3 43 (bm 10 13) ?_
              refine pu_ HT_ 4 44 (bm 10 29) ?_
              refine ta_ HT_ HW_ 1 41 (bm 10 31) hHeld ?_
              refine l7 (i := 5) (N := some 45) #[true, true, true, true, true, true, false, false, false, false] rfl rfl (jD HT_.out (by kernel_rfl)) (by decide) (fun K hK => ?_)
              refine kY Tryd.func15 (by kernel_rfl) rfl #[.pointer (some ⟨g, 0, none⟩), .int .i64 (wrap64 (a1 - 1))] (by rfl) rfl rfl mp_ ?_
              with_reducible refine (ih k4 (by have := HJ3.out; have := HJ12.out; have := HJ21.out; have := HK4.out; omega) g bX NN NP (wrap64 (a1 - 1)) t239 t240 t241 t242 t243 t246 t247 w0 _ ?ay ?az A32.out).mono ?_
              (case ay => exact si_)
              (case az => exact bl_)
              rintro e w35 ⟨v244, rfl, ho0, hi, hb, hk⟩
              refine ⟨_, rfl, ?_⟩
              have HO245 := aa.mk (Kd.kW (Kd.aM (ok' := fun k_ => (w.heap.size ≤ k_) ∧ some k_ ≠ (qG : Value).ownBlock ∧ k_ ≠ iM ∧ k_ ≠ nH ∧ k_ ≠ g) ho0 (fun k_ hk_ => ⟨(Nat.le_trans (bY (w := w) (g := g) (row := none) kp_) hk_), (Kd.fresh' (Kd.xH (pN_ nI.out)) k_ hk_), (Kd.iH (g := iM) (o := .cells #[.int .i64 0, .int .i64 0, .int .i64 0, .int .i64 0, .slice none 0 0] 24 (0, 0)) bk_ k_ hk_), (Kd.iH (g := nH) (o := .cells #[.int .i64 5, .int .i64 0, .int .i64 0, .int .i64 0, qG] 24 (0, 0)) bk_ k_ hk_), (aD.fresh si_ k_ hk_)⟩)) (bY (w := w) (g := g) (row := none) kp_)); replace nI := aa.mk (Kd.aM (Kd.J8 (Kd.J7 (Kd.aM (ok := fun k_ => (((w.heap.size ≤ k_)) ∧ (k_ ≠ iM ∧ (k_ ≠ nH ∧ k_ ≠ g)))) (pN_ nI.out) (fun k_ hk_ => (⟨hk_, hk_.2.2.2⟩ : _ ∧ k_ ≠ g))) hk) (by first | exact Kd.iq ho0 | exact Kd.cO ho0 | exact Kd.iq (Kd.S_N ho0))) (fun _ h_ => h_.1)); replace mY := aa.mk (aI.blk hk (g' := iM) (o := .cells #[.int .i64 0, .int .i64 0, .int .i64 0, .int .i64 0, .slice none 0 0] 24 (0, 0)) bk_ uN.out (by simp)); replace kQ := aa.mk (aI.blk hk (g' := nH) (o := .cells #[.int .i64 5, .int .i64 0, .int .i64 0, .int .i64 0, qG] 24 (0, 0)) bk_ NM.out (by simp)); replace HK := aa.mk (aI.trans (kp_ (w := w)) hk (.inl rfl)); replace HB := aa.mk (hb); replace HI0 := aa.mk (hi); (try clear hb)
              (try clear hb2)
              (try clear hk)
              (try clear hi)
              (try clear ho0)
              obtain ⟨dU, dV, eo37⟩ := Kd.jS HO245.out; (first | subst eo37 | (injection eo37 with f1_ f2_ f3_; have f4_ := f1_.symm; have f5_ := f3_.symm; clear f1_ f2_ f3_; subst f4_; subst f5_))
              refine hK.out _ _ ⟨(ag kQ.out 0).trans rfl, (ag kQ.out 1).trans rfl, (ag kQ.out 2).trans rfl, (ag kQ.out 3).trans rfl, (ag kQ.out 4).trans rfl⟩ (fun hHeld => ?_)
              clear hK K; refine ic (a' := ?_) ?_ ?_
              rotate_left
              ·show Act.put _ (some 45) _ = _
               simp only [Act.put, List.setIfInBounds_toArray, List.set_cons_zero, List.set_cons_succ, eT, fA]; rfl
              refine l7 (i := 6) (N := some 46) #[true, true, true, true, true, true, true, false, false, false] rfl rfl (jD HT_.out (by kernel_rfl)) (by decide) (fun K hK => ?_)
              refine value_ (w1 := ?_) (v := ?_) (by rfl) rfl ?_ ?_
              rotate_left 2
              ·go_simp; constructor
               ·rfl
               ·rfl
              refine hK.out _ _ ⟨(ag (bF kQ.out _) 0).trans rfl, (ag (bF kQ.out _) 1).trans rfl, (ag (bF kQ.out _) 2).trans rfl, (ag (bF kQ.out _) 3).trans rfl, (ag (bF kQ.out _) 4).trans rfl⟩ (fun hHeld => ?_)
              clear hK K; refine ic (a' := ?_) ?_ ?_
              rotate_left
              ·show Act.put _ (some 46) _ = _
               simp only [Act.put, List.setIfInBounds_toArray, List.set_cons_zero, List.set_cons_succ, eT, fA]; rfl
              refine l7 (i := 7) (N := some 47) #[true, true, true, true, true, true, true, true, false, false] rfl rfl (jD HT_.out (by kernel_rfl)) (by decide) (fun K hK => ?_)
              refine Kd.Mw k24 w.heap.size (by rfl) (.tmp 41) (.tmp 46) 22 24 (.agg #[(.int .i64 0), (.int .i64 0), (.int .i64 0), (.int .i64 0), (.slice none 0 0)]) 56 rfl Tryd.underlying22 info24 rfl (by decide) (by omega) qG xA (⟨t239, t240, t241, t242, t243⟩ : S24) [.int .i64 t239, .int .i64 t240, .int .i64 t241, .int .i64 t242, .slice dU t243.length dV] (fun k_ => (w.heap.size ≤ k_) ∧ k_ ≠ iM ∧ k_ ≠ nH ∧ k_ ≠ g) (fun k_ => ((fun k_ => (w.heap.size ≤ k_) ∧ k_ ≠ iM ∧ k_ ≠ nH ∧ k_ ≠ g)) k_ ∧ some k_ ≠ (qG : Value).ownBlock) rfl rfl ?aP (fun _ hk => hk) ?aF ?aO (Below.refl _ _) ?aS ?aL ?_
              (case aP => exact (vS _ _ (⟨t239, t240, t241, t242, t243⟩ : S24) (Kd.iL (Kd.aM (ok' := (fun k_ => ((fun k_ => (w.heap.size ≤ k_) ∧ k_ ≠ iM ∧ k_ ≠ nH ∧ k_ ≠ g)) k_ ∧ some k_ ≠ (qG : Value).ownBlock)) (HO245.out) (fun k_ hk => ⟨⟨hk.1, ⟨hk.2.2.1, ⟨hk.2.2.2.1, hk.2.2.2.2⟩⟩⟩, hk.2.1⟩))).2.1 (Kd.N_F (Kd.aM (ok' := (fun k_ => ((fun k_ => (w.heap.size ≤ k_) ∧ k_ ≠ iM ∧ k_ ≠ nH ∧ k_ ≠ g)) k_ ∧ some k_ ≠ (qG : Value).ownBlock)) (HO245.out) (fun k_ hk => ⟨⟨hk.1, ⟨hk.2.2.1, ⟨hk.2.2.2.1, hk.2.2.2.2⟩⟩⟩, hk.2.1⟩)))))
              (case aF => exact (fun k_ hk => ⟨(Nat.le_trans (bY (w := w) (g := g) (row := none) kp_) hk), Kd.iH (g := iM) (o := .cells #[.int .i64 0, .int .i64 0, .int .i64 0, .int .i64 0, .slice none 0 0] 24 (0, 0)) bk_ k_ hk, Kd.iH (g := nH) (o := .cells #[.int .i64 5, .int .i64 0, .int .i64 0, .int .i64 0, qG] 24 (0, 0)) bk_ k_ hk, aD.fresh si_ k_ hk⟩))
              (case aO => exact (by (with_reducible repeat (first | apply Kd.dL | apply Kd.dM | apply Kd.dO)); exact Kd.aM nI.out (fun _ hk => ⟨hk.1.1, ⟨hk.1.2.1, ⟨hk.1.2.2.1, hk.1.2.2.2⟩⟩⟩)))
              (case aS => exact (bY (w := w) (g := g) (row := none) kp_))
              (case aL => have := LMc33.out; omega)
              intro v249 w36 ho hb hg hat; rw [← Ny248.out] at ho; have HO250 := aa.mk (ho); replace mY := aa.mk (nC (g := iM) (o := .cells #[.int .i64 0, .int .i64 0, .int .i64 0, .int .i64 0, .slice none 0 0] 24 (0, 0)) bk_ hg (Kd.vv nI.out (fun _ hk => hk.1.2.1))); replace kQ := aa.mk (nC (g := nH) (o := .cells #[.int .i64 5, .int .i64 0, .int .i64 0, .int .i64 0, qG] 24 (0, 0)) bk_ hg (Kd.vv nI.out (fun _ hk => hk.1.2.2.1))); replace HI0 := aa.mk (aD.grown si_ hg (aD.SF HI0.out nI.out (by decide))); replace HB := aa.mk (MF bl_ HL.out hb); replace HK := aa.mk (aI.trans (kp_ (w := w)) (aI.Lv hg g) (Kd.U0 nI.out)); clear nI HO245; clear ho hb hg hat; obtain ⟨Ao38, co38, eo38⟩ := Kd.jS HO250.out; (first | subst eo38 | (injection eo38 with f1_ f2_ f3_; have f4_ := f1_.symm; have f5_ := f3_.symm; clear f1_ f2_ f3_; subst f4_; subst f5_))
              refine hK.out _ _ ⟨(ag kQ.out 0).trans rfl, (ag kQ.out 1).trans rfl, (ag kQ.out 2).trans rfl, (ag kQ.out 3).trans rfl, (ag kQ.out 4).trans rfl⟩ (fun hHeld => ?_)
              clear hK K; refine ic (a' := ?_) ?_ ?_
              rotate_left
              ·show Act.put _ (some 47) _ = _
               simp only [Act.put, List.setIfInBounds_toArray, List.set_cons_zero, List.set_cons_succ, eT, fA]; rfl
              refine pu_ HT_ 8 48 (bm 10 511) ?_
              refine O3 (i := 9) (N := none) #[true, true, true, true, true, true, true, true, true, true] rfl rfl (jD HT_.out (by kernel_rfl)) (by decide) (fun K hK => ?_)
              have hs39 : w36.cell? ⟨nH, 4, none⟩ = some (qG) := (ag kQ.out 4).trans rfl; have hfs39 := gm kQ.out 4; have hns39_0 := JM.out; have hms39_0 := MO.out; refine MZ (w1 := ?_) (by rfl) rfl ?_ ?_
              rotate_left
              ·go_simp; rfl
              refine hK.out _ _ ?_
              clear hK K; refine vJ (p9 HT_.out (by kernel_rfl)) ?_
              try go_wp2
              go_roundg k4
              case measure => have := HJ3.out; have := HJ12.out; have := HJ21.out; have := HK4.out; omega
              case rel => exact ⟨(wrap64 (x8_4 - 1)), (t246), (t247), (y248), (.slice Ao38 y248.length co38), rs_, H', ⟨by have := HJ3.out; have := HJ12.out; have := HJ21.out; have := HK4.out; omega⟩, ⟨by (with_reducible repeat (first | apply Kd.dL | apply Kd.dM | apply Kd.dO)); exact Kd.aM (Kd.bH (p := ⟨nH, 4, none⟩) (Kd.aM HO250.out (fun k_ hk => (⟨hk, by first | exact hk.2.2.1 | exact hk.1 | exact hk.2 | exact hk.1.1 | exact hk.1.2⟩ : _ ∧ k_ ≠ nH))) (fun _ hk => hk.2) (.slice Ao38 y248.length co38)) (fun _ hk => ⟨hk.1.1, ⟨hk.1.2.1, ⟨hk.1.2.2.1, hk.1.2.2.2⟩⟩⟩)⟩, ⟨by (with_reducible repeat (first | refine bL ?_ _ | refine bC ?_ | refine bF ?_ _)); refine gp ?_ JM.out _; (with_reducible repeat (first | refine bL ?_ _ | refine bC ?_ | refine bF ?_ _)); exact mY.out⟩, ⟨by (with_reducible repeat (first | refine bL ?_ _ | refine bC ?_ | refine bF ?_ _)); refine iP (cs := #[.int .i64 5, .int .i64 0, .int .i64 0, .int .i64 0, qG]) ?_ 4 _ rfl; (with_reducible repeat (first | refine bL ?_ _ | refine bC ?_ | refine bF ?_ _)); exact kQ.out⟩, ⟨si_⟩, ⟨by repeat (first | (with_reducible first | exact HK.out | apply aI.l6 | apply gG | apply gK | apply gH | refine gM ?_ Bu.out _ | refine gM ?_ GW235.out _) | exact HK.out)⟩, ⟨bl_⟩⟩
             ·rw [if_neg c33] at H; exact absurd H (by simp)
            ·rw [if_neg c31] at H; have NQ : decide (0 < x8_4) = false := decide_eq_false c31; clear c31; simp only [Option.some.injEq, Prod.mk.injEq] at H; obtain ⟨rfl, rfl, rfl, rfl, rfl, rfl, rfl⟩ := H; have hnb40 := MO.out; have hnc40 := JM.out; have hnb41 := NM.out; have hnc41 := Wx.out; obtain ⟨G5, G6, G7, NR, NS, G8, G9, Ha, NT, NU⟩ := bz kQ.out; have hnb43 := uN.out; have hnc43 := NL.out; obtain ⟨NC, ND, NF, Wo, Wp, NG, NH, NI, Wq, Ws⟩ := bz mY.out; obtain ⟨Ao45, co45, eo45⟩ := Kd.jS nI.out; subst eo45; go_wp2; refine bodyPost_ret (results_cell_row rfl _ _ iM 24 #[.int .i64 5, .int .i64 0, .int .i64 0, .int .i64 0, .slice Ao45 xA.length co45] (0, 0) _ rfl b5_ Tryd.underlying24 rfl (by kernel_rfl)) rfl ?_
             exact ⟨_, re_, by (with_reducible repeat (first | apply Kd.dL | apply Kd.dM | apply Kd.dO)); exact Kd.aM (Kd.bH (p := ⟨iM, 4, none⟩) (Kd.bH (p := ⟨iM, 3, none⟩) (Kd.bH (p := ⟨iM, 2, none⟩) (Kd.bH (p := ⟨iM, 1, none⟩) (Kd.bH (p := ⟨iM, 0, none⟩) (Kd.aM nI.out (fun k_ hk => (⟨hk, by first | exact hk.2.1 | exact hk.1 | exact hk.2 | exact hk.1.1 | exact hk.1.2⟩ : _ ∧ k_ ≠ iM))) (fun _ hk => hk.2) (.int .i64 5)) (fun _ hk => hk.2) (.int .i64 0)) (fun _ hk => hk.2) (.int .i64 0)) (fun _ hk => hk.2) (.int .i64 0)) (fun _ hk => hk.2) (.slice Ao45 xA.length co45)) (fun _ hk => hk.1.1), si_, bl_, by repeat (first | (with_reducible first | exact HK.out | apply aI.l6 | apply gG | apply gK | apply gH | refine gM ?_ Bu.out _ | refine gM ?_ GW235.out _) | exact HK.out)⟩
         ·replace c24 := Bool.eq_false_iff.mpr c24; subst c24; have H1 : ((dQ.f bX oo oq 1 2).bind fun LX => ((aG.f kj21 bX LX.2.1 LX.2.2 1).bind fun xM => (some (6, 0, 0, LX.1, (([(⟨xM.1, xM.2.1, xM.2.2.1, xM.2.2.2.1, xM.2.2.2.2.1⟩ : S24)] : List (S24))), xM.2.2.2.2.2.1, xM.2.2.2.2.2.2)))) = some (r1, r2, r3, r4, r5, r6, r7) := by rw [if_neg (show ¬ (false = true) by decide)] at H; exact H
          clear H; have H := H1; clear H1; replace H := Option.bind_eq_some_iff.mp H; obtain ⟨⟨t251, t252, t253⟩, A460, H⟩ := H; (try dsimp only at H)
          have A46 := aa.mk A460; clear A460; replace H := Option.bind_eq_some_iff.mp H; obtain ⟨⟨t254, t255, t256, t257, t258, t261, t262⟩, A470, H⟩ := H; (try dsimp only at H)
          have A47 := aa.mk A470; clear A470; obtain ⟨y263, PR⟩ : ∃ y_ : List (S24), y_ = (([(⟨t254, t255, t256, t257, t258⟩ : S24)] : List (S24))) := ⟨_, rfl⟩; replace H : (some (6, 0, 0, t251, y263, t261, t262)) = some (r1, r2, r3, r4, r5, r6, r7) := by first | (rw [PR]; with_reducible exact H) | (have H2_ := (Option.bind_some _ _).symm.trans H; rw [PR]; with_reducible exact H2_) | (have H2_ := (Option.bind_some _ _).symm.trans H; with_reducible exact H2_) | with_reducible exact H | (rw [PR]; exact H) | exact H
          have Ny263 := aa.mk PR; clear PR; simp only [Option.some.injEq, Prod.mk.injEq] at H; obtain ⟨rfl, rfl, rfl, rfl, rfl, rfl, rfl⟩ := H; go_wp2_with (first | ((with_reducible refine aC (f := 17) rfl ?_); refine aX (some 51) rfl rfl Tryd.func17 (by kernel_rfl) rfl #[.pointer (some ⟨g, 0, none⟩), .int .i64 1, .int .i64 2] rfl mp_ ?_; (with_reducible refine (dQ.calls g bX oo oq 1 2 t251 t252 t253 w0 _ ?ay ?az A46.out).mono ?_); (case ay => exact si_); (case az => exact bl_); rintro e w48 ⟨rfl, hi, hb, hk⟩; refine ⟨_, rfl, ?_⟩; replace mY := aa.mk (aI.blk hk (g' := iM) (o := .cells #[.int .i64 0, .int .i64 0, .int .i64 0, .int .i64 0, .slice none 0 0] 24 (0, 0)) bk_ uN.out (by simp)); replace HK := aa.mk (aI.trans (kp_ (w := w)) hk (.inl rfl)); replace HB := aa.mk (hb); replace HI0 := aa.mk (hi); (try clear hb); (try clear hb2); (try clear hk); (try clear hi)) | ((with_reducible refine aC (f := 15) rfl ?_); refine aX (some 53) rfl rfl Tryd.func15 (by kernel_rfl) rfl #[.pointer (some ⟨g, 0, none⟩), .int .i64 1] rfl mp_ ?_; (with_reducible refine (ih kj21 (by have := HJ3.out; have := HJ12.out; have := HJ21.out; omega) g bX t252 t253 1 t254 t255 t256 t257 t258 t261 t262 w0 _ ?ay ?az A47.out).mono ?_); (case ay => exact si_); (case az => exact bl_); rintro e w49 ⟨v259, rfl, ho0, hi, hb, hk⟩; refine ⟨_, rfl, ?_⟩; have HO260 := aa.mk (Kd.kW (Kd.aM (ok' := fun k_ => (w.heap.size ≤ k_) ∧ k_ ≠ iM ∧ k_ ≠ g) ho0 (fun k_ hk_ => ⟨(Nat.le_trans (bY (w := w) (g := g) (row := none) kp_) hk_), (Kd.iH (g := iM) (o := .cells #[.int .i64 0, .int .i64 0, .int .i64 0, .int .i64 0, .slice none 0 0] 24 (0, 0)) bk_ k_ hk_), (aD.fresh si_ k_ hk_)⟩)) (bY (w := w) (g := g) (row := none) kp_)); replace mY := aa.mk (aI.blk hk (g' := iM) (o := .cells #[.int .i64 0, .int .i64 0, .int .i64 0, .int .i64 0, .slice none 0 0] 24 (0, 0)) bk_ uN.out (by simp)); replace HK := aa.mk (aI.trans (kp_ (w := w)) hk (.inl rfl)); replace HB := aa.mk (hb); replace HI0 := aa.mk (hi); (try clear hb); (try clear hb2); (try clear hk); (try clear hi); (try clear ho0); obtain ⟨Ao50, co50, eo50⟩ := Kd.jS HO260.out; subst eo50) | ((with_reducible refine aU (N := 54) rfl ?_); refine Kd.N_lit k24 _ 24 ?hg (N' := 54) ?hd (xs := ([(⟨t254, t255, t256, t257, t258⟩ : S24)] : List (S24))) (inner := [.int .i64 t254, .int .i64 t255, .int .i64 t256, .int .i64 t257, .slice Ao50 t258.length co50]) (ok := (fun k_ => (w.heap.size ≤ k_) ∧ k_ ≠ iM ∧ k_ ≠ g)) (okp := (fun k_ => (w.heap.size ≤ k_) ∧ k_ ≠ iM ∧ k_ ≠ g)) ?hr ?hp (fun _ hk => hk) ((show ∀ k_, w49.heap.size ≤ k_ → (fun k_ => (w.heap.size ≤ k_) ∧ k_ ≠ iM ∧ k_ ≠ g) k_ from fun k_ hk => ⟨(Nat.le_trans (bY (w := w) (g := g) (row := none) kp_) hk), Kd.iH (g := iM) (o := .cells #[.int .i64 0, .int .i64 0, .int .i64 0, .int .i64 0, .slice none 0 0] 24 (0, 0)) bk_ k_ hk, aD.fresh si_ k_ hk⟩) _ (Nat.le_refl _)) (Below.refl _ _) (Nat.le_refl _) (by simp) ?_; (case hd => rfl); (case hg => rfl); (case hr => first | (go_simp; done) | (go_simp; rfl)); (case hp => exact (dN.c5 (show Kd.FK k24 _ _ (⟨t254, t255, t256, t257, t258⟩ : S24) [.int .i64 t254, .int .i64 t255, .int .i64 t256, .int .i64 t257, .slice Ao50 t258.length co50] from (vS _ _ (⟨t254, t255, t256, t257, t258⟩ : S24) (Kd.iL (Kd.aM (ok' := (fun k_ => (w.heap.size ≤ k_) ∧ k_ ≠ iM ∧ k_ ≠ g)) (HO260.out) (fun k_ hk => ⟨hk.1, ⟨hk.2.1, hk.2.2⟩⟩))).2.1 (Kd.N_F (Kd.aM (ok' := (fun k_ => (w.heap.size ≤ k_) ∧ k_ ≠ iM ∧ k_ ≠ g)) (HO260.out) (fun k_ hk => ⟨hk.1, ⟨hk.2.1, hk.2.2⟩⟩))))) (dN.none _ _))); intro v264 w51 ho52 hb hg_ ig; clear hg_ ig; (first | rw [← Ny263.out] at ho52 | (simp only [Int.reduceToNat] at ho52; rw [← Ny263.out] at ho52)); have HO265 := aa.mk (Kd.kW ho52 (bY (w := w) (g := g) (row := none) kp_)); replace mY := kb_ mY hb; replace HI0 := aa.mk (aD.below si_ hb); replace HK := aa.mk (aI.trans (kp_ (w := w)) (aI.of_below hb g none) (.inl rfl)); replace HB := aa.mk (ai bl_ hb); clear HO260; clear hb ho52; obtain ⟨Ao53, co53, eo53⟩ := Kd.jS HO265.out; subst eo53; have hnb54 := uN.out; have hnc54 := NL.out; obtain ⟨hcz55_0, hcz55_1, hcz55_2, hcz55_3, hcz55_4, hfz55_0, hfz55_1, hfz55_2, hfz55_3, hfz55_4⟩ := bz mY.out))
          refine bodyPost_ret (results_cell_row rfl _ _ iM 24 #[.int .i64 6, .int .i64 0, .int .i64 0, .int .i64 t251, .slice Ao53 y263.length co53] (0, 0) _ rfl b5_ Tryd.underlying24 rfl (by kernel_rfl)) rfl ?_
          exact ⟨_, re_, by (with_reducible repeat (first | apply Kd.dL | apply Kd.dM | apply Kd.dO)); exact Kd.aM (Kd.bH (p := ⟨iM, 4, none⟩) (Kd.bH (p := ⟨iM, 3, none⟩) (Kd.bH (p := ⟨iM, 2, none⟩) (Kd.bH (p := ⟨iM, 1, none⟩) (Kd.bH (p := ⟨iM, 0, none⟩) (Kd.aM HO265.out (fun k_ hk => (⟨hk, by first | exact hk.2.1 | exact hk.1 | exact hk.2 | exact hk.1.1 | exact hk.1.2⟩ : _ ∧ k_ ≠ iM))) (fun _ hk => hk.2) (.int .i64 6)) (fun _ hk => hk.2) (.int .i64 0)) (fun _ hk => hk.2) (.int .i64 0)) (fun _ hk => hk.2) (.int .i64 t251)) (fun _ hk => hk.2) (.slice Ao53 y263.length co53)) (fun _ hk => hk.1.1), si_, bl_, by repeat (first | (with_reducible first | exact HK.out | apply aI.l6 | apply gG | apply gK | apply gH | refine gM ?_ Bu.out _) | exact HK.out)⟩

end Go.Proofs.YtggelekooacmnaaDoor.Q
namespace Go.Proofs.YtggelekooacmnaaDoor.Q
open Go.RowKit Go.Proofs.YtggelekooacmnaaDoorW.bg Go.Proofs.YtggelekooacmnaaDoorW.bW Go.Proofs.YtggelekooacmnaaDoorW.dh
attribute [local go_sem] fE fF gy gz eO eP fG fH   -- for this text's walks alone
set_option linter.unusedVariables false
set_option linter.unusedSimpArgs false

/-! ### aT: function 24 -/
mutual
def aT.j0 : Nat → Bool → Int → Int → Int → Int → List (S24) → Int → Int → Int → Int → List (S24) → Option (Bool)
 | 0, _, _, _, _, _, _, _, _, _, _, _ => none
 | k + 1, x40, SH, SI, SK, SL, Ab, SN, SQ, SS, SV, Ac => if x40 = true then (some false) else (aT.l0 k 0 SH SI SK SL Ab SN SQ SS SV Ac)
def aT.l0 : Nat → Int → Int → Int → Int → Int → List (S24) → Int → Int → Int → Int → List (S24) → Option (Bool)
 | 0, _, _, _, _, _, _, _, _, _, _, _ => none
 | k + 1, x5, SH, SI, SK, SL, Ab, SN, SQ, SS, SV, Ac => if x5 < (Ab.length : Int) then (if 0 ≤ x5 then (if x5 < (Ac.length : Int) then ((aT.f k ((ah Ab x5).f0) ((ah Ab x5).f1) ((ah Ab x5).f2) ((ah Ab x5).f3) ((ah Ab x5).f4) ((ah Ac x5).f0) ((ah Ac x5).f1) ((ah Ac x5).f2) ((ah Ac x5).f3) ((ah Ac x5).f4)).bind fun t270 => (if t270 = true then (aT.l0 k (wrap64 (x5 + 1)) SH SI SK SL Ab SN SQ SS SV Ac) else (some false))) else (none)) else (none)) else (some true)
def aT.f : Nat → Int → Int → Int → Int → List (S24) → Int → Int → Int → Int → List (S24) → Option (Bool)
 | 0, _, _, _, _, _, _, _, _, _, _ => none
 | k + 1, aj, av, ak, au, af, qZ, q8, q9, rf, iR => if aj = qZ then (if av = q8 then (if ak = q9 then (if au = rf then (aT.j0 k ((af.length : Int) != (iR.length : Int)) aj av ak au af qZ q8 q9 rf iR) else (aT.j0 k true aj av ak au af qZ q8 q9 rf iR)) else (aT.j0 k true aj av ak au af qZ q8 q9 rf iR)) else (aT.j0 k true aj av ak au af qZ q8 q9 rf iR)) else (aT.j0 k true aj av ak au af qZ q8 q9 rf iR)
end
def aT.T6 : Bool × List (List Nat × List Nat) := (true, [([], []), ([0], [0]), ([], []), ([1, 2], [1, 2]), ([3], [3]), ([], []), ([5], [5]), ([], []), ([6, 7], [6, 7]), ([8], [8]), ([4, 9], [4, 9]), ([10], [10])])
def aT.B6 : List Nat := [0, 1, 0, 7, 15, 0, 32, 0, 224, 480, 1023, 2047]
theorem aT.tab6 : l8 .any (opsOf Tryd.f24 6) = aT.T6 := by kernel_rfl
theorem aT.bits6 : nQ aT.T6.2 aT.B6 = true := by kernel_rfl
set_option maxHeartbeats 8000000 in
set_option maxRecDepth 100000 in
theorem aT.calls (k : Nat) : ∀ (aj : Int) (av : Int) (ak : Int) (au : Int) (bA : Option Addr) (aZ : Nat) (af : List (S24)) (qZ : Int) (q8 : Int) (q9 : Int) (rf : Int) (A1_4 : Option Addr) (c1_4 : Nat) (iR : List (S24)) (r : Bool) (w : World) (fK : Kd.C k24 w bA af.length af) (fM : af.length ≤ aZ) (hr1_4 : Kd.C k24 w A1_4 iR.length iR) (hc1_4 : iR.length ≤ c1_4) (h : aT.f k aj av ak au af qZ q8 q9 rf iR = some r),
  Calls Tryd.prog 24 #[.agg #[.int .i64 aj, .int .i64 av, .int .i64 ak, .int .i64 au, .slice bA af.length aZ], .agg #[.int .i64 qZ, .int .i64 q8, .int .i64 q9, .int .i64 rf, .slice A1_4 iR.length c1_4]] w fun e w' => e = .returned (.bool r) ∧ Below w.heap.size w w' := by
 induction k using Nat.strongRecOn with
 | _ k ih =>
 intro aj av ak au bA aZ af qZ q8 q9 rf A1_4 c1_4 iR r w fK fM hr1_4 hc1_4 h; cases k with
 | zero => exact absurd h (by simp [aT.f])
 | succ k =>
 simp only [aT.f] at h; have qb := Tryd.underlying24; have cz := aa.mk fK; have eZ := aa.mk fM; clear fK fM; have HR1_4 := aa.mk hr1_4; have HC1_4 := aa.mk hc1_4; clear hr1_4 hc1_4; have HB := aa.mk (Below.refl w.heap.size w); have H : (if aj = qZ then (if av = q8 then (if ak = q9 then (if au = rf then (aT.j0 k ((af.length : Int) != (iR.length : Int)) aj av ak au af qZ q8 q9 rf iR) else (aT.j0 k true aj av ak au af qZ q8 q9 rf iR)) else (aT.j0 k true aj av ak au af qZ q8 q9 rf iR)) else (aT.j0 k true aj av ak au af qZ q8 q9 rf iR)) else (aT.j0 k true aj av ak au af qZ q8 q9 rf iR)) = some r := h; clear h; have HC3 := aa.mk H; clear H; go_enter Tryd.func24, Tryd.ntmps24; go_upto_region 1 with (first | ((with_reducible refine aU (N := 2) rfl ?_); (try (refine jF (by rfl) ?_; dsimp only)); refine aY ?hg (N := 2) ?hd (cs := #[.int .i64 aj, .int .i64 av, .int .i64 ak, .int .i64 au, .slice bA af.length aZ]) (t := 24) ?hr ?_; (case hd => rfl); (case hg => rfl); (case hr => first | (go_simp; done) | (go_simp; rfl)); intro Ad hg w4 aK hb; have jC := aa.mk (aK); have GW266 : aa (w.heap.size ≤ Ad) := gw_ hg (ax bl_); have GE266 := GW266; replace HB := aa.mk (ai bl_ hb); clear hb aK hg) | ((with_reducible refine aU (N := 3) rfl ?_); (try (refine jF (by rfl) ?_; dsimp only)); refine aY ?hg (N := 3) ?hd (cs := #[.int .i64 qZ, .int .i64 q8, .int .i64 q9, .int .i64 rf, .slice A1_4 iR.length c1_4]) (t := 24) ?hr ?_; (case hd => rfl); (case hg => rfl); (case hr => first | (go_simp; done) | (go_simp; rfl)); intro Ae hg w5 aK hb; have jW := aa.mk (aK); have GW267 : aa (w.heap.size ≤ Ae) := gw_ hg (ax bl_); have GE267 := GW267; have xB := nl_ jC hg; have xC := ng_ jC hg; replace jC := kb_ jC hb; replace HB := aa.mk (ai bl_ hb); clear hb aK hg))
 (try simp only [Act.put, List.setIfInBounds_toArray, List.set_cons_zero, List.set_cons_succ])
 go_cut [40] (fun v40 wc => ∃ (kq : Nat) (x40_2 : Bool), v40 = .bool x40_2 ∧ aa (aT.j0 kq x40_2 aj av ak au af qZ q8 q9 rf iR = some r) ∧ aa (kq ≤ k) ∧ aa (wc.heap[Ad]? = some (.cells #[.int .i64 aj, .int .i64 av, .int .i64 ak, .int .i64 au, (.slice bA af.length aZ)] 24 (0, 0))) ∧ aa (wc.heap[Ae]? = some (.cells #[.int .i64 qZ, .int .i64 q8, .int .i64 q9, .int .i64 rf, (.slice A1_4 iR.length c1_4)] 24 (0, 0))) ∧ aa (Below w.heap.size w wc))
 case first =>
  have H := HC3.out; clear HC3; by_cases c6 : aj = qZ
  ·rw [if_pos c6] at H; obtain ⟨vT, c6b1⟩ := bq_ c6; clear c6; (first | rw [vT] | (simp only [eT, fA]; rw [vT]) | skip)
   by_cases c7 : av = q8
   ·rw [if_pos c7] at H; obtain ⟨mO, zk⟩ := bq_ c7; clear c7; by_cases c8 : ak = q9
    ·rw [if_pos c8] at H; obtain ⟨ko, ny⟩ := bq_ c8; clear c8; by_cases c9 : au = rf
     ·rw [if_pos c9] at H; obtain ⟨vH, yM⟩ := bq_ c9; clear c9; have H' := aa.mk H; clear H; have hnb10 := xB.out; have hnc10 := xC.out; obtain ⟨nR, nS, nT, oU, oV, nU, nV, nW, oW, oZ⟩ := bz jC.out; obtain ⟨o5, o6, o7, o8, o9, pg, pq, pz, pE, pF⟩ := bz jW.out; go_wp2; go_meet
      case rel => exact ⟨_, (((af.length : Int) != (iR.length : Int))), rs_, H', ⟨by first | omega | exact Nat.le_refl _⟩, ⟨bk_⟩, ⟨bk_⟩, ⟨bl_⟩⟩
     ·rw [if_neg c9] at H; obtain ⟨vH, yM⟩ := bn_ c9; have H' := aa.mk H; clear H; have hnb13 := xB.out; have hnc13 := xC.out; obtain ⟨mr, mD, mE, mF, mG, mH, mI, mJ, mK, mM⟩ := bz jC.out; obtain ⟨uO, uP, uQ, yG, yH, uR, uS, uT, yI, yJ⟩ := bz jW.out; go_wp2; go_meet
      case rel => exact ⟨_, (true), rs_, H', ⟨by first | omega | exact Nat.le_refl _⟩, ⟨bk_⟩, ⟨bk_⟩, ⟨bl_⟩⟩
    ·rw [if_neg c8] at H; obtain ⟨ko, ny⟩ := bn_ c8; have H' := aa.mk H; clear H; have hnb16 := xB.out; have hnc16 := xC.out; obtain ⟨rT, rU, rV, rW, rX, rY, rZ, r9, si, sj⟩ := bz jC.out; obtain ⟨qc, qd, qf, ry, rz, qg, qh, qi, rA, rC⟩ := bz jW.out; go_wp2; go_meet
     case rel => exact ⟨_, (true), rs_, H', ⟨by first | omega | exact Nat.le_refl _⟩, ⟨bk_⟩, ⟨bk_⟩, ⟨bl_⟩⟩
   ·rw [if_neg c7] at H; obtain ⟨mO, zk⟩ := bn_ c7; have H' := aa.mk H; clear H; have hnb19 := xB.out; have hnc19 := xC.out; obtain ⟨rD, rE, rF, tq, tu, rG, rH, rJ, tC, tF⟩ := bz jC.out; obtain ⟨mP, mQ, mR, qC, qD, mU, mV, mW, qE, qF⟩ := bz jW.out; go_wp2; go_meet
    case rel => exact ⟨_, (true), rs_, H', ⟨by first | omega | exact Nat.le_refl _⟩, ⟨bk_⟩, ⟨bk_⟩, ⟨bl_⟩⟩
  ·rw [if_neg c6] at H; obtain ⟨vT, c6b1⟩ := bn_ c6; (first | rw [vT] | (simp only [eT, fA]; rw [vT]) | skip)
   have H' := aa.mk H; clear H; have hnb22 := xB.out; have hnc22 := xC.out; obtain ⟨KS, KT, KU, Sa, Sb, KV, KW, KX, Sc, Sd⟩ := bz jC.out; obtain ⟨Ci, Cj, Ck, D6, D7, Cm, Cn, Co, D8, D9⟩ := bz jW.out; go_wp2; go_meet
   case rel => exact ⟨_, (true), rs_, H', ⟨by first | omega | exact Nat.le_refl _⟩, ⟨bk_⟩, ⟨bk_⟩, ⟨bl_⟩⟩
 case rest =>
  clear HC3; (try clear c1); (try clear c2); (try clear p2); (try clear c6); (try clear vT); (try clear c6b1); (try clear c7); (try clear mO); (try clear zk); (try clear c8); (try clear ko); (try clear ny); (try clear c9); (try clear vH); (try clear yM); (try clear c10); (try clear c13); (try clear c16); (try clear c19); (try clear c22); (try clear c24); (try clear nR nS nT oU oV nU nV nW oW oZ); (try clear o5 o6 o7 o8 o9 pg pq pz pE pF); (try clear mr mD mE mF mG mH mI mJ mK mM); (try clear uO uP uQ yG yH uR uS uT yI yJ); (try clear rT rU rV rW rX rY rZ r9 si sj); (try clear qc qd qf ry rz qg qh qi rA rC); (try clear rD rE rF tq tu rG rH rJ tC tF); (try clear mP mQ mR qC qD mU mV mW qE qF); (try clear KS KT KU Sa Sb KV KW KX Sc Sd); (try clear Ci Cj Ck D6 D7 Cm Cn Co D8 D9); obtain ⟨kq, x40_2, rfl, HA, HJ2, jC, jW, HB⟩ := hcut; cases kq with
  | zero => exact absurd HA.out (by simp [aT.j0])
  | succ kj2 =>
   have H := HA.out; clear HA; simp only [aT.j0] at H; by_cases c25 : x40_2 = true
   ·subst c25; have H1 : (some false) = some r := by rw [if_pos rfl] at H; exact H
    clear H; have H := H1; clear H1; obtain rfl := Option.some.inj H; go_wp2; go_ret; exact ⟨re_, bl_⟩
   ·replace c25 := Bool.eq_false_iff.mpr c25; subst c25; have H1 : (aT.l0 kj2 0 aj av ak au af qZ q8 q9 rf iR) = some r := by rw [if_neg (show ¬ (false = true) by decide)] at H; exact H
    clear H; have H := H1; clear H1; have H' := aa.mk H; clear H; go_wp2; go_loopg [5] kj2 (fun kq v5 w' => ∃ (dZ : Int), v5 = .int .i64 dZ ∧ aa (aT.l0 kq dZ aj av ak au af qZ q8 q9 rf iR = some r) ∧ aa (kq ≤ kj2) ∧ aa (w'.heap[Ad]? = some (.cells #[.int .i64 aj, .int .i64 av, .int .i64 ak, .int .i64 au, (.slice bA af.length aZ)] 24 (0, 0))) ∧ aa (w'.heap[Ae]? = some (.cells #[.int .i64 qZ, .int .i64 q8, .int .i64 q9, .int .i64 rf, (.slice A1_4 iR.length c1_4)] 24 (0, 0))) ∧ aa (Below w.heap.size w w'))
    case atStart => exact ⟨(0), rs_, H', ⟨Nat.le_refl _⟩, ⟨bk_⟩, ⟨bk_⟩, ⟨bl_⟩⟩
    case round =>
     clear H'; (try clear c1); (try clear c2); (try clear p2); (try clear c6); (try clear vT); (try clear c6b1); (try clear c7); (try clear mO); (try clear zk); (try clear c8); (try clear ko); (try clear ny); (try clear c9); (try clear vH); (try clear yM); (try clear c10); (try clear c13); (try clear c16); (try clear c19); (try clear c22); (try clear c24); (try clear c25); (try clear nR nS nT oU oV nU nV nW oW oZ); (try clear o5 o6 o7 o8 o9 pg pq pz pE pF); (try clear mr mD mE mF mG mH mI mJ mK mM); (try clear uO uP uQ yG yH uR uS uT yI yJ); (try clear rT rU rV rW rX rY rZ r9 si sj); (try clear qc qd qf ry rz qg qh qi rA rC); (try clear rD rE rF tq tu rG rH rJ tC tF); (try clear mP mQ mR qC qD mU mV mW qE qF); (try clear KS KT KU Sa Sb KV KW KX Sc Sd); (try clear Ci Cj Ck D6 D7 Cm Cn Co D8 D9); (try clear p2); obtain ⟨dZ, rfl, HA, HK2, jC, jW, HB⟩ := hrel; cases gk with
     | zero => exact absurd HA.out (by simp [aT.l0])
     | succ k2 =>
      have H := HA.out; clear HA; simp only [aT.l0] at H; by_cases c26 : dZ < (af.length : Int)
      ·rw [if_pos c26] at H; have PD := decide_eq_true c26; clear c26; by_cases c27 : 0 ≤ dZ
       ·rw [if_pos c27] at H; have PE := decide_eq_true c27; clear c27; by_cases c28 : dZ < (iR.length : Int)
        ·rw [if_pos c28] at H; have Pd := decide_eq_true c28; clear c28; replace H := Option.bind_eq_some_iff.mp H; obtain ⟨t270, A290, H⟩ := H; (try dsimp only at H)
         have A29 := aa.mk A290; clear A290; by_cases c30 : t270 = true
         ·subst c30; have H1 : (aT.l0 k2 (wrap64 (dZ + 1)) aj av ak au af qZ q8 q9 rf iR) = some r := by rw [if_pos rfl] at H; exact H
          clear H; have H := H1; clear H1; have H' := aa.mk H; clear H; have hnb31 := xB.out; have hnc31 := xC.out; obtain ⟨GL, GM, GN, GQ, GR, GU, GV, GX, GY, GZ⟩ := bz jC.out; try go_wp2
          replace jC := aa.mk (bC jC.out); replace jW := aa.mk (bC jW.out); replace HB := aa.mk (bQ HB.out); have p268 : 0 ≤ (dZ : Int) := dt_; have q268 : dZ < (af.length : Int) := dt_; obtain ⟨qW, MP, MQ, e268, Af, Ag, Ah, Ai, Aj, KZ, La⟩ := ib cz.out dZ p268 q268; have Ak := Aj; have Al := Ai; have Am := Ah; have Ao := Ag; have Ap := Af; cases e268; replace Af := hc_ HB Af; replace Ag := hc_ HB Ag; replace Ah := hc_ HB Ah; replace Ai := hc_ HB Ai; replace Aj := hc_ HB Aj; have Lb := aa.mk La; have SX := aa.mk KZ; clear La KZ; replace p268 := eq_true p268; replace q268 := eq_true q268; have p269 : 0 ≤ (dZ : Int) := dt_; have q269 : dZ < (iR.length : Int) := dt_; obtain ⟨qX, MR, MS, e269, Aq, Ar, Au, Av, Aw, Lc, Ld⟩ := ib HR1_4.out dZ p269 q269; have Ay := Aw; have Az := Av; have AA := Au; have AB := Ar; have AJ := Aq; cases e269; replace Aq := hc_ HB Aq; replace Ar := hc_ HB Ar; replace Au := hc_ HB Au; replace Av := hc_ HB Av; replace Aw := hc_ HB Aw; have Le := aa.mk Ld; have SY := aa.mk Lc; clear Ld Lc; replace p269 := eq_true p269; replace q269 := eq_true q269; refine sD (n := 12) (S := fun w' => w'.cell? ⟨Ad, 0, none⟩ = some (.int .i64 aj) ∧ w'.cell? ⟨Ad, 1, none⟩ = some (.int .i64 av) ∧ w'.cell? ⟨Ad, 2, none⟩ = some (.int .i64 ak) ∧ w'.cell? ⟨Ad, 3, none⟩ = some (.int .i64 au) ∧ w'.cell? ⟨Ad, 4, none⟩ = some (.slice (some qW) af.length aZ) ∧ w'.cell? ⟨Ae, 0, none⟩ = some (.int .i64 qZ) ∧ w'.cell? ⟨Ae, 1, none⟩ = some (.int .i64 q8) ∧ w'.cell? ⟨Ae, 2, none⟩ = some (.int .i64 q9) ∧ w'.cell? ⟨Ae, 3, none⟩ = some (.int .i64 rf) ∧ w'.cell? ⟨Ae, 4, none⟩ = some (.slice (some qX) iR.length c1_4) ∧ w'.cell? (qW.add ((dZ).toNat * 5)) = some (.int .i64 ((ah af dZ).f0)) ∧ w'.cell? ⟨(qW.add ((dZ).toNat * 5)).block, (qW.add ((dZ).toNat * 5)).off + 1, none⟩ = some (.int .i64 ((ah af dZ).f1)) ∧ w'.cell? ⟨(qW.add ((dZ).toNat * 5)).block, (qW.add ((dZ).toNat * 5)).off + 2, none⟩ = some (.int .i64 ((ah af dZ).f2)) ∧ w'.cell? ⟨(qW.add ((dZ).toNat * 5)).block, (qW.add ((dZ).toNat * 5)).off + 3, none⟩ = some (.int .i64 ((ah af dZ).f3)) ∧ w'.cell? ⟨(qW.add ((dZ).toNat * 5)).block, (qW.add ((dZ).toNat * 5)).off + 4, none⟩ = some (.slice MP ((ah af dZ).f4).length MQ) ∧ w'.cell? (qX.add ((dZ).toNat * 5)) = some (.int .i64 ((ah iR dZ).f0)) ∧ w'.cell? ⟨(qX.add ((dZ).toNat * 5)).block, (qX.add ((dZ).toNat * 5)).off + 1, none⟩ = some (.int .i64 ((ah iR dZ).f1)) ∧ w'.cell? ⟨(qX.add ((dZ).toNat * 5)).block, (qX.add ((dZ).toNat * 5)).off + 2, none⟩ = some (.int .i64 ((ah iR dZ).f2)) ∧ w'.cell? ⟨(qX.add ((dZ).toNat * 5)).block, (qX.add ((dZ).toNat * 5)).off + 3, none⟩ = some (.int .i64 ((ah iR dZ).f3)) ∧ w'.cell? ⟨(qX.add ((dZ).toNat * 5)).block, (qX.add ((dZ).toNat * 5)).off + 4, none⟩ = some (.slice MR ((ah iR dZ).f4).length MS)) (ds := []) #[false, false, false, false, false, false, false, false, false, false, false, false] (by kernel_rfl) rfl rfl ⟨(ag jC.out 0).trans rfl, (ag jC.out 1).trans rfl, (ag jC.out 2).trans rfl, (ag jC.out 3).trans rfl, (ag jC.out 4).trans rfl, (ag jW.out 0).trans rfl, (ag jW.out 1).trans rfl, (ag jW.out 2).trans rfl, (ag jW.out 3).trans rfl, (ag jW.out 4).trans rfl, ((HB.out.cell (World.block_lt_of_cell? w _ Ap)).trans Ap), ((HB.out.cell (World.block_lt_of_cell? w _ Ao)).trans Ao), ((HB.out.cell (World.block_lt_of_cell? w _ Am)).trans Am), ((HB.out.cell (World.block_lt_of_cell? w _ Al)).trans Al), ((HB.out.cell (World.block_lt_of_cell? w _ Ak)).trans Ak), ((HB.out.cell (World.block_lt_of_cell? w _ AJ)).trans AJ), ((HB.out.cell (World.block_lt_of_cell? w _ AB)).trans AB), ((HB.out.cell (World.block_lt_of_cell? w _ AA)).trans AA), ((HB.out.cell (World.block_lt_of_cell? w _ Az)).trans Az), ((HB.out.cell (World.block_lt_of_cell? w _ Ay)).trans Ay)⟩ (fun hHeld => ?_); refine l9 aT.tab6 aT.bits6 (fun HT_ HW_ => ?_)
          generalize wr.drew = w33 at jC jW HB Lb Le Af Ag Ah Ai Aj Aq Ar Au Av Aw hHeld ⊢
          refine pu_ HT_ 0 48 (bm 12 1) ?_
          refine pu_ HT_ 2 50 (bm 12 5) ?_
          refine pu_ HT_ 5 53 (bm 12 37) ?_
          refine pu_ HT_ 7 55 (bm 12 165) ?_
          refine ta_ HT_ HW_ 1 49 (bm 12 167) hHeld ?_
          refine pu_ HT_ 3 51 (bm 12 175) ?_
          refine ta_ HT_ HW_ 4 52 (bm 12 191) hHeld ?_
          refine ta_ HT_ HW_ 6 54 (bm 12 255) hHeld ?_
          refine pu_ HT_ 8 56 (bm 12 511) ?_
          refine ta_ HT_ HW_ 9 57 (bm 12 1023) hHeld ?_
          refine l7 (i := 10) (N := some 58) #[true, true, true, true, true, true, true, true, true, true, true, false] rfl rfl (jD HT_.out (by kernel_rfl)) (by decide) (fun K hK => ?_)
          refine kY Tryd.func24 (by kernel_rfl) rfl #[.agg #[.int .i64 ((ah af dZ).f0), .int .i64 ((ah af dZ).f1), .int .i64 ((ah af dZ).f2), .int .i64 ((ah af dZ).f3), .slice MP ((ah af dZ).f4).length MQ], .agg #[.int .i64 ((ah iR dZ).f0), .int .i64 ((ah iR dZ).f1), .int .i64 ((ah iR dZ).f2), .int .i64 ((ah iR dZ).f3), .slice MR ((ah iR dZ).f4).length MS]] (by rfl) rfl rfl mp_ ?_
          with_reducible refine (ih k2 (by have := HJ2.out; have := HK2.out; omega) ((ah af dZ).f0) ((ah af dZ).f1) ((ah af dZ).f2) ((ah af dZ).f3) _ _ ((ah af dZ).f4) ((ah iR dZ).f0) ((ah iR dZ).f1) ((ah iR dZ).f2) ((ah iR dZ).f3) _ _ ((ah iR dZ).f4) true _ ?ay ?az ?iB ?iF A29.out).mono ?_
          (case ay => exact cb_ (Kd.bB Lb.out HB.out))
          (case az => exact SX.out)
          (case iB => exact cb_ (Kd.bB Le.out HB.out))
          (case iF => exact SY.out)
          rintro e w34 ⟨rfl, hb⟩
          refine ⟨_, rfl, ?_⟩
          replace jC := kb_ jC hb; replace jW := kb_ jW hb; replace HB := aa.mk (ai bl_ hb); (try clear hb)
          (try clear hb2)
          (try clear hk)
          (try clear hi)
          refine hK.out _ _ ⟨(ag jC.out 0).trans rfl, (ag jC.out 1).trans rfl, (ag jC.out 2).trans rfl, (ag jC.out 3).trans rfl, (ag jC.out 4).trans rfl, (ag jW.out 0).trans rfl, (ag jW.out 1).trans rfl, (ag jW.out 2).trans rfl, (ag jW.out 3).trans rfl, (ag jW.out 4).trans rfl, ((HB.out.cell (World.block_lt_of_cell? w _ Ap)).trans Ap), ((HB.out.cell (World.block_lt_of_cell? w _ Ao)).trans Ao), ((HB.out.cell (World.block_lt_of_cell? w _ Am)).trans Am), ((HB.out.cell (World.block_lt_of_cell? w _ Al)).trans Al), ((HB.out.cell (World.block_lt_of_cell? w _ Ak)).trans Ak), ((HB.out.cell (World.block_lt_of_cell? w _ AJ)).trans AJ), ((HB.out.cell (World.block_lt_of_cell? w _ AB)).trans AB), ((HB.out.cell (World.block_lt_of_cell? w _ AA)).trans AA), ((HB.out.cell (World.block_lt_of_cell? w _ Az)).trans Az), ((HB.out.cell (World.block_lt_of_cell? w _ Ay)).trans Ay)⟩ (fun hHeld => ?_)
          clear hK K; refine ic (a' := ?_) ?_ ?_
          rotate_left
          ·show Act.put _ (some 58) _ = _
           simp only [Act.put, List.setIfInBounds_toArray, List.set_cons_zero, List.set_cons_succ, eT, fA]; rfl
          refine pu_ HT_ 11 59 #[true, true, true, true, true, true, true, true, true, true, true, true] ?_
          refine vJ (p9 HT_.out (by kernel_rfl)) ?_
          try go_wp2
          go_roundg k2
          case measure => have := HJ2.out; have := HK2.out; omega
          case rel => exact ⟨(wrap64 (dZ + 1)), rs_, H', ⟨by have := HJ2.out; have := HK2.out; omega⟩, ⟨bk_⟩, ⟨bk_⟩, ⟨bl_⟩⟩
         ·replace c30 := Bool.eq_false_iff.mpr c30; subst c30; have H1 : (some false) = some r := by rw [if_neg (show ¬ (false = true) by decide)] at H; exact H
          clear H; have H := H1; clear H1; obtain rfl := Option.some.inj H; have hnb35 := xB.out; have hnc35 := xC.out; obtain ⟨Hm, Ho, Hq, Hr, Ht, Hu, Hw, Hy, Hz, HV⟩ := bz jC.out; try go_wp2
          replace jC := aa.mk (bC jC.out); replace jW := aa.mk (bC jW.out); replace HB := aa.mk (bQ HB.out); have p268 : 0 ≤ (dZ : Int) := dt_; have q268 : dZ < (af.length : Int) := dt_; obtain ⟨qW, MP, MQ, e268, Af, Ag, Ah, Ai, Aj, KZ, La⟩ := ib cz.out dZ p268 q268; have Ak := Aj; have Al := Ai; have Am := Ah; have Ao := Ag; have Ap := Af; cases e268; replace Af := hc_ HB Af; replace Ag := hc_ HB Ag; replace Ah := hc_ HB Ah; replace Ai := hc_ HB Ai; replace Aj := hc_ HB Aj; have Lb := aa.mk La; have SX := aa.mk KZ; clear La KZ; replace p268 := eq_true p268; replace q268 := eq_true q268; have p269 : 0 ≤ (dZ : Int) := dt_; have q269 : dZ < (iR.length : Int) := dt_; obtain ⟨qX, MR, MS, e269, Aq, Ar, Au, Av, Aw, Lc, Ld⟩ := ib HR1_4.out dZ p269 q269; have Ay := Aw; have Az := Av; have AA := Au; have AB := Ar; have AJ := Aq; cases e269; replace Aq := hc_ HB Aq; replace Ar := hc_ HB Ar; replace Au := hc_ HB Au; replace Av := hc_ HB Av; replace Aw := hc_ HB Aw; have Le := aa.mk Ld; have SY := aa.mk Lc; clear Ld Lc; replace p269 := eq_true p269; replace q269 := eq_true q269; refine sD (n := 12) (S := fun w' => w'.cell? ⟨Ad, 0, none⟩ = some (.int .i64 aj) ∧ w'.cell? ⟨Ad, 1, none⟩ = some (.int .i64 av) ∧ w'.cell? ⟨Ad, 2, none⟩ = some (.int .i64 ak) ∧ w'.cell? ⟨Ad, 3, none⟩ = some (.int .i64 au) ∧ w'.cell? ⟨Ad, 4, none⟩ = some (.slice (some qW) af.length aZ) ∧ w'.cell? ⟨Ae, 0, none⟩ = some (.int .i64 qZ) ∧ w'.cell? ⟨Ae, 1, none⟩ = some (.int .i64 q8) ∧ w'.cell? ⟨Ae, 2, none⟩ = some (.int .i64 q9) ∧ w'.cell? ⟨Ae, 3, none⟩ = some (.int .i64 rf) ∧ w'.cell? ⟨Ae, 4, none⟩ = some (.slice (some qX) iR.length c1_4) ∧ w'.cell? (qW.add ((dZ).toNat * 5)) = some (.int .i64 ((ah af dZ).f0)) ∧ w'.cell? ⟨(qW.add ((dZ).toNat * 5)).block, (qW.add ((dZ).toNat * 5)).off + 1, none⟩ = some (.int .i64 ((ah af dZ).f1)) ∧ w'.cell? ⟨(qW.add ((dZ).toNat * 5)).block, (qW.add ((dZ).toNat * 5)).off + 2, none⟩ = some (.int .i64 ((ah af dZ).f2)) ∧ w'.cell? ⟨(qW.add ((dZ).toNat * 5)).block, (qW.add ((dZ).toNat * 5)).off + 3, none⟩ = some (.int .i64 ((ah af dZ).f3)) ∧ w'.cell? ⟨(qW.add ((dZ).toNat * 5)).block, (qW.add ((dZ).toNat * 5)).off + 4, none⟩ = some (.slice MP ((ah af dZ).f4).length MQ) ∧ w'.cell? (qX.add ((dZ).toNat * 5)) = some (.int .i64 ((ah iR dZ).f0)) ∧ w'.cell? ⟨(qX.add ((dZ).toNat * 5)).block, (qX.add ((dZ).toNat * 5)).off + 1, none⟩ = some (.int .i64 ((ah iR dZ).f1)) ∧ w'.cell? ⟨(qX.add ((dZ).toNat * 5)).block, (qX.add ((dZ).toNat * 5)).off + 2, none⟩ = some (.int .i64 ((ah iR dZ).f2)) ∧ w'.cell? ⟨(qX.add ((dZ).toNat * 5)).block, (qX.add ((dZ).toNat * 5)).off + 3, none⟩ = some (.int .i64 ((ah iR dZ).f3)) ∧ w'.cell? ⟨(qX.add ((dZ).toNat * 5)).block, (qX.add ((dZ).toNat * 5)).off + 4, none⟩ = some (.slice MR ((ah iR dZ).f4).length MS)) (ds := []) #[false, false, false, false, false, false, false, false, false, false, false, false] (by kernel_rfl) rfl rfl ⟨(ag jC.out 0).trans rfl, (ag jC.out 1).trans rfl, (ag jC.out 2).trans rfl, (ag jC.out 3).trans rfl, (ag jC.out 4).trans rfl, (ag jW.out 0).trans rfl, (ag jW.out 1).trans rfl, (ag jW.out 2).trans rfl, (ag jW.out 3).trans rfl, (ag jW.out 4).trans rfl, ((HB.out.cell (World.block_lt_of_cell? w _ Ap)).trans Ap), ((HB.out.cell (World.block_lt_of_cell? w _ Ao)).trans Ao), ((HB.out.cell (World.block_lt_of_cell? w _ Am)).trans Am), ((HB.out.cell (World.block_lt_of_cell? w _ Al)).trans Al), ((HB.out.cell (World.block_lt_of_cell? w _ Ak)).trans Ak), ((HB.out.cell (World.block_lt_of_cell? w _ AJ)).trans AJ), ((HB.out.cell (World.block_lt_of_cell? w _ AB)).trans AB), ((HB.out.cell (World.block_lt_of_cell? w _ AA)).trans AA), ((HB.out.cell (World.block_lt_of_cell? w _ Az)).trans Az), ((HB.out.cell (World.block_lt_of_cell? w _ Ay)).trans Ay)⟩ (fun hHeld => ?_); refine l9 aT.tab6 aT.bits6 (fun HT_ HW_ => ?_)
          generalize wr.drew = w37 at jC jW HB Lb Le Af Ag Ah Ai Aj Aq Ar Au Av Aw hHeld ⊢
          refine pu_ HT_ 0 48 (bm 12 1) ?_
          refine pu_ HT_ 2 50 (bm 12 5) ?_
          refine pu_ HT_ 5 53 (bm 12 37) ?_
          refine pu_ HT_ 7 55 (bm 12 165) ?_
          refine ta_ HT_ HW_ 1 49 (bm 12 167) hHeld ?_
          refine pu_ HT_ 3 51 (bm 12 175) ?_
          refine ta_ HT_ HW_ 4 52 (bm 12 191) hHeld ?_
          refine ta_ HT_ HW_ 6 54 (bm 12 255) hHeld ?_
          refine pu_ HT_ 8 56 (bm 12 511) ?_
          refine ta_ HT_ HW_ 9 57 (bm 12 1023) hHeld ?_
          refine l7 (i := 10) (N := some 58) #[true, true, true, true, true, true, true, true, true, true, true, false] rfl rfl (jD HT_.out (by kernel_rfl)) (by decide) (fun K hK => ?_)
          refine kY Tryd.func24 (by kernel_rfl) rfl #[.agg #[.int .i64 ((ah af dZ).f0), .int .i64 ((ah af dZ).f1), .int .i64 ((ah af dZ).f2), .int .i64 ((ah af dZ).f3), .slice MP ((ah af dZ).f4).length MQ], .agg #[.int .i64 ((ah iR dZ).f0), .int .i64 ((ah iR dZ).f1), .int .i64 ((ah iR dZ).f2), .int .i64 ((ah iR dZ).f3), .slice MR ((ah iR dZ).f4).length MS]] (by rfl) rfl rfl mp_ ?_
          with_reducible refine (ih k2 (by have := HJ2.out; have := HK2.out; omega) ((ah af dZ).f0) ((ah af dZ).f1) ((ah af dZ).f2) ((ah af dZ).f3) _ _ ((ah af dZ).f4) ((ah iR dZ).f0) ((ah iR dZ).f1) ((ah iR dZ).f2) ((ah iR dZ).f3) _ _ ((ah iR dZ).f4) false _ ?ay ?az ?iB ?iF A29.out).mono ?_
          (case ay => exact cb_ (Kd.bB Lb.out HB.out))
          (case az => exact SX.out)
          (case iB => exact cb_ (Kd.bB Le.out HB.out))
          (case iF => exact SY.out)
          rintro e w38 ⟨rfl, hb⟩
          refine ⟨_, rfl, ?_⟩
          replace jC := kb_ jC hb; replace jW := kb_ jW hb; replace HB := aa.mk (ai bl_ hb); (try clear hb)
          (try clear hb2)
          (try clear hk)
          (try clear hi)
          refine hK.out _ _ ⟨(ag jC.out 0).trans rfl, (ag jC.out 1).trans rfl, (ag jC.out 2).trans rfl, (ag jC.out 3).trans rfl, (ag jC.out 4).trans rfl, (ag jW.out 0).trans rfl, (ag jW.out 1).trans rfl, (ag jW.out 2).trans rfl, (ag jW.out 3).trans rfl, (ag jW.out 4).trans rfl, ((HB.out.cell (World.block_lt_of_cell? w _ Ap)).trans Ap), ((HB.out.cell (World.block_lt_of_cell? w _ Ao)).trans Ao), ((HB.out.cell (World.block_lt_of_cell? w _ Am)).trans Am), ((HB.out.cell (World.block_lt_of_cell? w _ Al)).trans Al), ((HB.out.cell (World.block_lt_of_cell? w _ Ak)).trans Ak), ((HB.out.cell (World.block_lt_of_cell? w _ AJ)).trans AJ), ((HB.out.cell (World.block_lt_of_cell? w _ AB)).trans AB), ((HB.out.cell (World.block_lt_of_cell? w _ AA)).trans AA), ((HB.out.cell (World.block_lt_of_cell? w _ Az)).trans Az), ((HB.out.cell (World.block_lt_of_cell? w _ Ay)).trans Ay)⟩ (fun hHeld => ?_)
          clear hK K; refine ic (a' := ?_) ?_ ?_
          rotate_left
          ·show Act.put _ (some 58) _ = _
           simp only [Act.put, List.setIfInBounds_toArray, List.set_cons_zero, List.set_cons_succ, eT, fA]; rfl
          refine pu_ HT_ 11 59 #[true, true, true, true, true, true, true, true, true, true, true, true] ?_
          refine vJ (p9 HT_.out (by kernel_rfl)) ?_
          try go_wp2
          go_ret; exact ⟨re_, bl_⟩
        ·rw [if_neg c28] at H; exact absurd H (by simp)
       ·rw [if_neg c27] at H; exact absurd H (by simp)
      ·rw [if_neg c26] at H; have PD := decide_eq_false c26; clear c26; obtain rfl := Option.some.inj H; have hnb39 := xB.out; have hnc39 := xC.out; obtain ⟨Sg, Si, Sj, Sk, Sl, Sm, Sn, Sq, Sr, Su⟩ := bz jC.out; go_wp2; go_ret; exact ⟨re_, bl_⟩

end Go.Proofs.YtggelekooacmnaaDoor.Q
namespace Go.Proofs.YtggelekooacmnaaDoor.Q
open Go.RowKit Go.Proofs.YtggelekooacmnaaDoorW.bg Go.Proofs.YtggelekooacmnaaDoorW.bW Go.Proofs.YtggelekooacmnaaDoorW.dh
attribute [local go_sem] fE fF gy gz eO eP fG fH   -- for this text's walks alone
set_option linter.unusedVariables false
set_option linter.unusedSimpArgs false

/-! ### oI: function 18 -/
def oI.f (k : Nat) (aj : Int) (av : Int) (ak : Int) (au : Int) (af : List (S24)) : Option ((List (S41)) × Int) := (dE.f k aj av ak au af).bind fun t272 => (if t272 = 0 then ((bG.f k aj av ak au af).bind fun t273 => (some (t273, 0))) else (some (([] : List (S41)), t272)))
set_option maxHeartbeats 8000000 in
set_option maxRecDepth 100000 in
theorem oI.calls (k : Nat) (aj : Int) (av : Int) (ak : Int) (au : Int) (bA : Option Addr) (aZ : Nat) (af : List (S24)) (r1 : List (S41)) (r2 : Int) (w : World) (fK : Kd.C k24 w bA af.length af) (fM : af.length ≤ aZ) (h : oI.f k aj av ak au af = some (r1, r2)) :
  Calls Tryd.prog 18 #[.agg #[.int .i64 aj, .int .i64 av, .int .i64 ak, .int .i64 au, .slice bA af.length aZ]] w fun e w' => ∃ v0_ : Value, e = .returned (.tuple #[v0_, .int .i64 r2]) ∧ Kd.R k41 41 w' w.heap.size (fun _ => True) v0_ r1 ∧ Below w.heap.size w w' := by
 have qb := Tryd.underlying24; have cz := aa.mk fK; have eZ := aa.mk fM; clear fK fM; have HB := aa.mk (Below.refl w.heap.size w); have H : ((dE.f k aj av ak au af).bind fun t272 => (if t272 = 0 then ((bG.f k aj av ak au af).bind fun t273 => (some (t273, 0))) else (some (([] : List (S41)), t272)))) = some (r1, r2) := h; clear h; replace H := Option.bind_eq_some_iff.mp H; obtain ⟨t272, A20, H⟩ := H; (try dsimp only at H)
 have A2 := aa.mk A20; clear A20; by_cases c3 : t272 = 0
 ·rw [if_pos c3] at H; obtain ⟨kI, nu⟩ := bq_ c3; clear c3; replace H := Option.bind_eq_some_iff.mp H; obtain ⟨t273, A40, H⟩ := H; (try dsimp only at H)
  have A4 := aa.mk A40; clear A40; simp only [Option.some.injEq, Prod.mk.injEq] at H; obtain ⟨rfl, rfl⟩ := H; go_enter Tryd.func18, Tryd.ntmps18; go_wp2_with (first | ((with_reducible refine aU (N := 1) rfl ?_); refine aY ?hg (N := 1) ?hd (cs := #[.int .i64 aj, .int .i64 av, .int .i64 ak, .int .i64 au, .slice bA af.length aZ]) (t := 24) ?hr ?_; (case hd => rfl); (case hg => rfl); (case hr => first | (go_simp; done) | (go_simp; rfl)); intro gb271 hg w5 aK hb; have Fp := aa.mk (aK); have GW271 : aa (w.heap.size ≤ gb271) := gw_ hg (ax bl_); have GE271 := GW271; replace HB := aa.mk (ai bl_ hb); clear hb aK hg; obtain ⟨pM, pO, pQ, pR, pU, pV, pW, pX, pY, p8⟩ := bz Fp.out) | ((with_reducible refine aC (f := 12) rfl ?_); refine aX (some 6) rfl rfl Tryd.func12 (by kernel_rfl) rfl #[.agg #[.int .i64 aj, .int .i64 av, .int .i64 ak, .int .i64 au, .slice bA af.length aZ]] rfl mp_ ?_; (with_reducible refine (dE.calls k aj av ak au _ _ af t272 _ ?ay ?az A2.out).mono ?_); (case ay => exact cb_ (Kd.bB cz.out HB.out)); (case az => exact eZ.out); rintro e w7 ⟨rfl, hb⟩; refine ⟨_, rfl, ?_⟩; replace Fp := kb_ Fp hb; replace HB := aa.mk (ai bl_ hb); (try clear hb); (try clear hb2); (try clear hk); (try clear hi); obtain ⟨wR, wS, wT, wU, wV, wW, wX, wY, wZ, xc⟩ := bz Fp.out) | ((with_reducible refine aC (f := 42) rfl ?_); refine aX (some 11) rfl rfl Tryd.func42 (by kernel_rfl) rfl #[.agg #[.int .i64 aj, .int .i64 av, .int .i64 ak, .int .i64 au, .slice bA af.length aZ]] rfl mp_ ?_; (with_reducible refine (bG.calls k aj av ak au _ _ af t273 _ ?ay ?az A4.out).mono ?_); (case ay => exact cb_ (Kd.bB cz.out HB.out)); (case az => exact eZ.out); rintro e w9 ⟨v274, rfl, ho0, hb⟩; refine ⟨_, rfl, ?_⟩; have HO275 := aa.mk (Kd.bV ho0 (ax bl_)); replace Fp := kb_ Fp hb; replace HB := aa.mk (ai bl_ hb); (try clear hb); (try clear hb2); (try clear hk); (try clear hi); (try clear ho0)))
  go_ret2; exact ⟨_, re_, pR_ HO275.out, bl_⟩
 ·rw [if_neg c3] at H; obtain ⟨kI, nu⟩ := bn_ c3; simp only [Option.some.injEq, Prod.mk.injEq] at H; obtain ⟨rfl, rfl⟩ := H; go_enter Tryd.func18, Tryd.ntmps18; go_wp2_with (first | ((with_reducible refine aU (N := 1) rfl ?_); refine aY ?hg (N := 1) ?hd (cs := #[.int .i64 aj, .int .i64 av, .int .i64 ak, .int .i64 au, .slice bA af.length aZ]) (t := 24) ?hr ?_; (case hd => rfl); (case hg => rfl); (case hr => first | (go_simp; done) | (go_simp; rfl)); intro gb271 hg w10 aK hb; have Fp := aa.mk (aK); have GW271 : aa (w.heap.size ≤ gb271) := gw_ hg (ax bl_); have GE271 := GW271; replace HB := aa.mk (ai bl_ hb); clear hb aK hg; obtain ⟨nR, nS, nT, oU, oV, nU, nV, nW, oW, oZ⟩ := bz Fp.out) | ((with_reducible refine aC (f := 12) rfl ?_); refine aX (some 6) rfl rfl Tryd.func12 (by kernel_rfl) rfl #[.agg #[.int .i64 aj, .int .i64 av, .int .i64 ak, .int .i64 au, .slice bA af.length aZ]] rfl mp_ ?_; (with_reducible refine (dE.calls k aj av ak au _ _ af t272 _ ?ay ?az A2.out).mono ?_); (case ay => exact cb_ (Kd.bB cz.out HB.out)); (case az => exact eZ.out); rintro e w12 ⟨rfl, hb⟩; refine ⟨_, rfl, ?_⟩; replace Fp := kb_ Fp hb; replace HB := aa.mk (ai bl_ hb); (try clear hb); (try clear hb2); (try clear hk); (try clear hi)))
  go_ret2; exact ⟨_, re_, by first | exact Kd.oC _ _ _ _ _ | exact Kd.xG _ _ _ _ _ | exact Kd.xI _ _ _ _ _ | exact Kd.xD _ _ _ _ _ | exact Kd.xE _ _ _ _ _, bl_⟩

end Go.Proofs.YtggelekooacmnaaDoor.Q
namespace Go.Proofs.YtggelekooacmnaaDoor.Q
open Go.RowKit Go.Proofs.YtggelekooacmnaaDoorW.bg Go.Proofs.YtggelekooacmnaaDoorW.bW Go.Proofs.YtggelekooacmnaaDoorW.dh
attribute [local go_sem] fE fF gy gz eO eP fG fH   -- for this text's walks alone
set_option linter.unusedVariables false
set_option linter.unusedSimpArgs false

attribute [local go_sem high] eqA41
/-! ### fe: function 19 -/
def fe.l0 : Nat → List (S41) → List (S41) → Int → Option (Bool)
  | 0, _, _, _ => none
  | k + 1, x0, x1, x5 => if x5 < (x0.length : Int) then (if 0 ≤ x5 then (if x5 < (x1.length : Int) then (if (!(((fU x0 x5).f0) == ((fU x1 x5).f0)) || (!(((fU x0 x5).f1) == ((fU x1 x5).f1)) || (!(((fU x0 x5).f2) == ((fU x1 x5).f2))))) = true then (some false) else (fe.l0 k x0 x1 (wrap64 (x5 + 1)))) else (none)) else (none)) else (some true)
def fe.f (k : Nat) (l0 : List (S41)) (l1 : List (S41)) : Option (Bool) := if (l0.length : Int) = (l1.length : Int) then (fe.l0 k l0 l1 0) else (some false)
set_option maxHeartbeats 8000000 in
set_option maxRecDepth 100000 in
theorem fe.calls (k : Nat) (A0 : Option Addr) (c0 : Nat) (l0 : List (S41)) (A1 : Option Addr) (c1 : Nat) (l1 : List (S41)) (r : Bool) (w : World) (hr0 : Kd.C k41 w A0 l0.length l0) (hc0 : l0.length ≤ c0) (hr1 : Kd.C k41 w A1 l1.length l1) (hc1 : l1.length ≤ c1) (h : fe.f k l0 l1 = some r) :
    Calls Tryd.prog 19 #[.slice A0 l0.length c0, .slice A1 l1.length c1] w fun e w' => e = .returned (.bool r) ∧ nK w w' := by
  have hu41 := Tryd.underlying41
  have HR0 := aa.mk hr0
  have HC0 := aa.mk hc0
  clear hr0 hc0
  have HR1 := aa.mk hr1
  have HC1 := aa.mk hc1
  clear hr1 hc1
  have H : (if (l0.length : Int) = (l1.length : Int) then (fe.l0 k l0 l1 0) else (some false)) = some r := h
  clear h
  by_cases c3 : (l0.length : Int) = (l1.length : Int)
  · rw [if_pos c3] at H
    have kI : ((l0.length : Int) == (l1.length : Int)) = true := beq_iff_eq.mpr c3
    have nu : ((l0.length : Int) != (l1.length : Int)) = false := bne_eq_false_iff_eq.mpr c3
    have c3b2 : (l0.length == l1.length) = true := by first | simpa using c3 | (simp at c3 ⊢; omega)
    clear c3
    have H' := aa.mk H
    clear H
    go_enter Tryd.func19, Tryd.ntmps19
    go_wp2
    repeat (go_quiet (fail); try go_wp2)
    go_loopg [5] k (fun kq v5 w' => ∃ (eu : Int), v5 = .int .i64 eu ∧ aa (fe.l0 kq l0 l1 eu = some r) ∧ aa (kq ≤ k) ∧ nK w w')
    case atStart => exact ⟨(0), (by first | rfl | (simp; done) | (simp [*]; done)), H', ⟨Nat.le_refl _⟩, by repeat (first | exact nK.refl _ | apply nK.step)⟩
    case round =>
      clear H'
      try clear c1
      try clear p2
      try clear c3
      try clear kI
      try clear nu
      try clear c3b2
      obtain ⟨eu, rfl, HA, HK1, ⟨m1, rfl⟩⟩ := hrel
      cases gk with
      | zero => exact absurd HA.out (by simp [fe.l0])
      | succ k1 =>
        have H := HA.out
        clear HA
        simp only [fe.l0] at H
        by_cases c4 : eu < (l0.length : Int)
        · rw [if_pos c4] at H
          have tT : decide (eu < (l0.length : Int)) = true := decide_eq_true c4
          clear c4
          by_cases c5 : 0 ≤ eu
          · rw [if_pos c5] at H
            have jU : decide (0 ≤ eu) = true := decide_eq_true c5
            clear c5
            by_cases c6 : eu < (l1.length : Int)
            · rw [if_pos c6] at H
              have vT : decide (eu < (l1.length : Int)) = true := decide_eq_true c6
              clear c6
              by_cases c7 : (!(((fU l0 eu).f0) == ((fU l1 eu).f0)) || (!(((fU l0 eu).f1) == ((fU l1 eu).f1)) || (!(((fU l0 eu).f2) == ((fU l1 eu).f2))))) = true
              · rw [if_pos c7] at H
                have mO : (!(((fU l0 eu).f0) == ((fU l1 eu).f0)) || (!(((fU l0 eu).f1) == ((fU l1 eu).f1)) || (!(((fU l0 eu).f2) == ((fU l1 eu).f2))))) = true := c7
                clear c7
                obtain rfl := Option.some.inj H
                have p276 : 0 ≤ (eu : Int) := of_decide_eq_true (by first | (with_reducible assumption) | assumption)
                have q276 : eu < (l0.length : Int) := of_decide_eq_true (by first | (with_reducible assumption) | assumption)
                obtain ⟨ad276, e276, hx276_0, hx276_1, hx276_2⟩ := J9 HR0.out eu p276 q276
                cases e276
                replace p276 := eq_true p276
                replace q276 := eq_true q276
                have p277 : 0 ≤ (eu : Int) := of_decide_eq_true (by first | (with_reducible assumption) | assumption)
                have q277 : eu < (l1.length : Int) := of_decide_eq_true (by first | (with_reducible assumption) | assumption)
                obtain ⟨ad277, e277, hx277_0, hx277_1, hx277_2⟩ := J9 HR1.out eu p277 q277
                cases e277
                replace p277 := eq_true p277
                replace q277 := eq_true q277
                go_wp2
                repeat (go_quiet (fail); try go_wp2)
                go_ret
                exact ⟨by first | rfl | (simp; done) | (simp [*]; done), by repeat (first | exact nK.refl _ | apply nK.step)⟩
              · rw [if_neg c7] at H
                have mO : (!(((fU l0 eu).f0) == ((fU l1 eu).f0)) || (!(((fU l0 eu).f1) == ((fU l1 eu).f1)) || (!(((fU l0 eu).f2) == ((fU l1 eu).f2))))) = false := by simpa using c7
                clear c7
                have H' := aa.mk H
                clear H
                have p276 : 0 ≤ (eu : Int) := of_decide_eq_true (by first | (with_reducible assumption) | assumption)
                have q276 : eu < (l0.length : Int) := of_decide_eq_true (by first | (with_reducible assumption) | assumption)
                obtain ⟨ad276, e276, hx276_0, hx276_1, hx276_2⟩ := J9 HR0.out eu p276 q276
                cases e276
                replace p276 := eq_true p276
                replace q276 := eq_true q276
                have p277 : 0 ≤ (eu : Int) := of_decide_eq_true (by first | (with_reducible assumption) | assumption)
                have q277 : eu < (l1.length : Int) := of_decide_eq_true (by first | (with_reducible assumption) | assumption)
                obtain ⟨ad277, e277, hx277_0, hx277_1, hx277_2⟩ := J9 HR1.out eu p277 q277
                cases e277
                replace p277 := eq_true p277
                replace q277 := eq_true q277
                go_wp2
                repeat (go_quiet (fail); try go_wp2)
                go_roundg k1
                case measure => have := HK1.out; omega
                case rel => exact ⟨(wrap64 (eu + 1)), (by first | rfl | (simp; done) | (simp [*]; done)), H', ⟨by have := HK1.out; omega⟩, by repeat (first | exact nK.refl _ | apply nK.step)⟩
            · rw [if_neg c6] at H
              exact absurd H (by simp)
          · rw [if_neg c5] at H
            exact absurd H (by simp)
        · rw [if_neg c4] at H
          have tT : decide (eu < (l0.length : Int)) = false := decide_eq_false c4
          clear c4
          obtain rfl := Option.some.inj H
          go_wp2
          repeat (go_quiet (fail); try go_wp2)
          go_ret
          exact ⟨by first | rfl | (simp; done) | (simp [*]; done), by repeat (first | exact nK.refl _ | apply nK.step)⟩
  · rw [if_neg c3] at H
    have kI : ((l0.length : Int) == (l1.length : Int)) = false := beq_eq_false_iff_ne.mpr c3
    have nu : ((l0.length : Int) != (l1.length : Int)) = true := bne_iff_ne.mpr c3
    have c3b2 : (l0.length == l1.length) = false := by first | simpa using c3 | (simp at c3 ⊢; omega)
    obtain rfl := Option.some.inj H
    go_enter Tryd.func19, Tryd.ntmps19
    go_wp2
    repeat (go_quiet (fail); try go_wp2)
    go_ret
    exact ⟨by first | rfl | (simp; done) | (simp [*]; done), by repeat (first | exact nK.refl _ | apply nK.step)⟩

end Go.Proofs.YtggelekooacmnaaDoor.Q
namespace Go.Proofs.YtggelekooacmnaaDoor.Q
open Go.RowKit Go.Proofs.YtggelekooacmnaaDoorW.bg Go.Proofs.YtggelekooacmnaaDoorW.bW Go.Proofs.YtggelekooacmnaaDoorW.dh
attribute [local go_sem] fE fF gy gz eO eP fG fH   -- for this text's walks alone
set_option linter.unusedVariables false
set_option linter.unusedSimpArgs false

/-! ### dW: function 45 -/
mutual
def dW.l0 : Nat → Int → Int → Int → Int → Int → Int → Int → List (S24) → Option (Int)
 | 0, _, _, _, _, _, _, _, _ => none
 | k + 1, x1, x5, x6, x279000, x279001, x279002, x279003, ED => if x6 < (ED.length : Int) then (if 0 ≤ x6 then ((dW.f k ((ah ED x6).f0) ((ah ED x6).f1) ((ah ED x6).f2) ((ah ED x6).f3) ((ah ED x6).f4) (wrap64 (x1 - 1))).bind fun t280 => (dW.l0 k x1 (mx x5 t280) (wrap64 (x6 + 1)) x279000 x279001 x279002 x279003 ED)) else (none)) else (some (mn (wrap64 (x5 + 1)) x1))
def dW.f : Nat → Int → Int → Int → Int → List (S24) → Int → Option (Int)
 | 0, _, _, _, _, _, _ => none
 | k + 1, aj, av, ak, au, af, a1 => if a1 > 1 then (dW.l0 k a1 0 0 aj av ak au af) else (if (af.length : Int) > 0 then (some a1) else (some (mn (0 + 1) a1)))
end
set_option maxHeartbeats 8000000 in
set_option maxRecDepth 100000 in
theorem dW.calls (k : Nat) : ∀ (aj : Int) (av : Int) (ak : Int) (au : Int) (bA : Option Addr) (aZ : Nat) (af : List (S24)) (a1 : Int) (r : Int) (w : World) (fK : Kd.C k24 w bA af.length af) (fM : af.length ≤ aZ) (h : dW.f k aj av ak au af a1 = some r),
  Calls Tryd.prog 45 #[.agg #[.int .i64 aj, .int .i64 av, .int .i64 ak, .int .i64 au, .slice bA af.length aZ], .int .i64 a1] w fun e w' => e = .returned (.int .i64 r) ∧ Below w.heap.size w w' := by
 induction k using Nat.strongRecOn with
 | _ k ih =>
 intro aj av ak au bA aZ af a1 r w fK fM h; cases k with
 | zero => exact absurd h (by simp [dW.f])
 | succ k =>
 simp only [dW.f] at h; have qb := Tryd.underlying24; have cz := aa.mk fK; have eZ := aa.mk fM; clear fK fM; have HB := aa.mk (Below.refl w.heap.size w); have H : (if a1 > 1 then (dW.l0 k a1 0 0 aj av ak au af) else (if (af.length : Int) > 0 then (some a1) else (some (mn (0 + 1) a1)))) = some r := h; clear h; by_cases c3 : a1 > 1
 ·rw [if_pos c3] at H; have kI : decide (1 < a1) = true := decide_eq_true c3; clear c3; have H' := aa.mk H; clear H; go_enter Tryd.func45, Tryd.ntmps45; go_wp2_with (first | ((with_reducible refine aU (N := 2) rfl ?_); refine aY ?hg (N := 2) ?hd (cs := #[.int .i64 aj, .int .i64 av, .int .i64 ak, .int .i64 au, .slice bA af.length aZ]) (t := 24) ?hr ?_; (case hd => rfl); (case hg => rfl); (case hr => first | (go_simp; done) | (go_simp; rfl)); intro NV hg w4 aK hb; have Gn := aa.mk (aK); have PS : aa (w.heap.size ≤ NV) := gw_ hg (ax bl_); have GE278 := PS; replace HB := aa.mk (ai bl_ hb); clear hb aK hg))
  go_loopg [5, 6] k (fun kq v5 v6 w' => ∃ (eu : Int) (iE : Int), v5 = .int .i64 eu ∧ v6 = .int .i64 iE ∧ aa (dW.l0 kq a1 eu iE aj av ak au af = some r) ∧ aa (kq ≤ k) ∧ aa (w'.heap[NV]? = some (.cells #[.int .i64 aj, .int .i64 av, .int .i64 ak, .int .i64 au, (.slice bA af.length aZ)] 24 (0, 0))) ∧ aa (Below w.heap.size w w'))
  case atStart => exact ⟨(0), (0), rs_, rs_, H', ⟨Nat.le_refl _⟩, ⟨bk_⟩, ⟨bl_⟩⟩
  case round =>
   clear H'; (try clear p2); (try clear c3); (try clear kI); (try clear c4); obtain ⟨eu, iE, rfl, rfl, HA, HK1, Gn, HB⟩ := hrel; cases gk with
   | zero => exact absurd HA.out (by simp [dW.l0])
   | succ k1 =>
    have H := HA.out; clear HA; simp only [dW.l0] at H; by_cases c5 : iE < (af.length : Int)
    ·rw [if_pos c5] at H; have jU := decide_eq_true c5; clear c5; by_cases c6 : 0 ≤ iE
     ·rw [if_pos c6] at H; have vT := decide_eq_true c6; clear c6; replace H := Option.bind_eq_some_iff.mp H; obtain ⟨t280, A70, H⟩ := H; (try dsimp only at H)
      have A7 := aa.mk A70; clear A70; obtain ⟨ji8, Iu⟩ : ∃ j_ : Int, (mx eu t280) = j_ := ⟨_, rfl⟩; replace H : (dW.l0 k1 a1 ji8 (wrap64 (iE + 1)) aj av ak au af) = some r := by first | (rw [Iu] at H; exact H) | (simp only [Iu] at H ⊢; exact H)
      (try rw [Iu] at A7)
      have hji8_ : (if eu < t280 then t280 else eu) = ji8 := Iu; have H' := aa.mk H; clear H; obtain ⟨Dv, Dw, Dx, FC, FD, Dy, Dz, DC, FE, FH⟩ := bz Gn.out; have p279 : 0 ≤ (iE : Int) := dt_; have q279 : iE < (af.length : Int) := dt_; obtain ⟨ad279, A279_4, c279_4, e279, Wy, Wz, WA, WB, WC, WE, WG⟩ := ib cz.out iE p279 q279; cases e279; replace Wy := hc_ HB Wy; replace Wz := hc_ HB Wz; replace WA := hc_ HB WA; replace WB := hc_ HB WB; replace WC := hc_ HB WC; have HR279_4 := aa.mk WG; have HC279_4 := aa.mk WE; clear WG WE; replace p279 := eq_true p279; replace q279 := eq_true q279; go_wp2_with (first | ((with_reducible refine aC (f := 45) rfl ?_); refine aX (some 24) rfl rfl Tryd.func45 (by kernel_rfl) rfl #[.agg #[.int .i64 ((ah af iE).f0), .int .i64 ((ah af iE).f1), .int .i64 ((ah af iE).f2), .int .i64 ((ah af iE).f3), .slice A279_4 ((ah af iE).f4).length c279_4], .int .i64 (wrap64 (a1 - 1))] rfl mp_ ?_; (with_reducible refine (ih k1 (by have := HK1.out; omega) ((ah af iE).f0) ((ah af iE).f1) ((ah af iE).f2) ((ah af iE).f3) _ _ ((ah af iE).f4) (wrap64 (a1 - 1)) t280 _ ?ay ?az A7.out).mono ?_); (case ay => exact cb_ (Kd.bB HR279_4.out HB.out)); (case az => exact HC279_4.out); rintro e w10 ⟨rfl, hb⟩; refine ⟨_, rfl, ?_⟩; replace Gn := kb_ Gn hb; replace HB := aa.mk (ai bl_ hb); (try clear hb); (try clear hb2); (try clear hk); (try clear hi)))
      go_roundg k1
      case measure => have := HK1.out; omega
      case rel => exact ⟨(ji8), (wrap64 (iE + 1)), (by first | rfl | (simp; done) | (simp only [← Iu] <;> (first | rfl | simp)) | (simp [*]; done)), rs_, H', ⟨by have := HK1.out; omega⟩, ⟨bk_⟩, ⟨bl_⟩⟩
     ·rw [if_neg c6] at H; exact absurd H (by simp)
    ·rw [if_neg c5] at H; have jU := decide_eq_false c5; clear c5; obtain ⟨ji11, JN⟩ : ∃ j_ : Int, (mn (wrap64 (eu + 1)) a1) = j_ := ⟨_, rfl⟩; replace H : (some ji11) = some r := by first | (rw [JN] at H; exact H) | (simp only [JN] at H ⊢; exact H)
     have hji11_ : (if a1 < (wrap64 (eu + 1)) then a1 else (wrap64 (eu + 1))) = ji11 := JN; obtain rfl := Option.some.inj H; obtain ⟨o5, o6, o7, o8, o9, pg, pq, pz, pE, pF⟩ := bz Gn.out; go_wp2; all_goals go_ret
     all_goals exact ⟨by first | rfl | (simp [fI, fJ] <;> rfl) | (simp only [← JN]; first | rfl | (simp [fI, fJ] <;> rfl)) | (simp; rw [← JN]; (first | unfold mn | unfold mx); split <;> omega) | (simp; (first | unfold mn at JN | unfold mx at JN); split at JN <;> omega) | (simp [*, fI, fJ] <;> rfl), bl_⟩
 ·rw [if_neg c3] at H; have kI : decide (1 < a1) = false := decide_eq_false c3; clear c3; by_cases c13 : (af.length : Int) > 0
  ·rw [if_pos c13] at H; have rR : decide (0 < (af.length : Int)) = true := decide_eq_true c13; have c13b1 : decide (0 < af.length) = true := decide_eq_true (by omega); clear c13; obtain rfl := Option.some.inj H; go_enter Tryd.func45, Tryd.ntmps45; go_wp2_with (first | ((with_reducible refine aU (N := 2) rfl ?_); refine aY ?hg (N := 2) ?hd (cs := #[.int .i64 aj, .int .i64 av, .int .i64 ak, .int .i64 au, .slice bA af.length aZ]) (t := 24) ?hr ?_; (case hd => rfl); (case hg => rfl); (case hr => first | (go_simp; done) | (go_simp; rfl)); intro NV hg w14 aK hb; have Gn := aa.mk (aK); have PS : aa (w.heap.size ≤ NV) := gw_ hg (ax bl_); have GE278 := PS; replace HB := aa.mk (ai bl_ hb); clear hb aK hg; obtain ⟨uO, uP, uQ, yG, yH, uR, uS, uT, yI, yJ⟩ := bz Gn.out))
   go_ret; exact ⟨re_, bl_⟩
  ·rw [if_neg c13] at H; have rR : decide (0 < (af.length : Int)) = false := decide_eq_false c13; have c13b1 : decide (0 < af.length) = false := decide_eq_false (by omega); clear c13; obtain ⟨ji16, yV⟩ : ∃ j_ : Int, (mn (0 + 1) a1) = j_ := ⟨_, rfl⟩; replace H : (some ji16) = some r := by first | (rw [yV] at H; exact H) | (simp only [yV] at H ⊢; exact H)
   (try (have hji16h : ji16 ≤ 1 := by (rw [← yV]; unfold mn; (repeat' split) <;> omega)))
   (try (have hji16g : ji16 ≤ 64 := by omega))
   have hji16_ : (if a1 < (0 + 1) then a1 else (0 + 1)) = ji16 := yV; obtain rfl := Option.some.inj H; go_enter Tryd.func45, Tryd.ntmps45; go_wp2_with (first | ((with_reducible refine aU (N := 2) rfl ?_); refine aY ?hg (N := 2) ?hd (cs := #[.int .i64 aj, .int .i64 av, .int .i64 ak, .int .i64 au, .slice bA af.length aZ]) (t := 24) ?hr ?_; (case hd => rfl); (case hg => rfl); (case hr => first | (go_simp; done) | (go_simp; rfl)); intro NV hg w17 aK hb; have Gn := aa.mk (aK); have PS : aa (w.heap.size ≤ NV) := gw_ hg (ax bl_); have GE278 := PS; replace HB := aa.mk (ai bl_ hb); clear hb aK hg; obtain ⟨qc, qd, qf, ry, rz, qg, qh, qi, rA, rC⟩ := bz Gn.out))
   all_goals go_ret
   all_goals exact ⟨by first | rfl | (simp [fI, fJ] <;> rfl) | (simp only [← yV]; first | rfl | (simp [fI, fJ] <;> rfl)) | (simp; rw [← yV]; (first | unfold mn | unfold mx); split <;> omega) | (simp; (first | unfold mn at yV | unfold mx at yV); split at yV <;> omega) | (simp [*, fI, fJ] <;> rfl), bl_⟩

end Go.Proofs.YtggelekooacmnaaDoor.Q
namespace Go.Proofs.YtggelekooacmnaaDoor.Q
open Go.RowKit Go.Proofs.YtggelekooacmnaaDoorW.bg Go.Proofs.YtggelekooacmnaaDoorW.bW Go.Proofs.YtggelekooacmnaaDoorW.dh
attribute [local go_sem] fE fF gy gz eO eP fG fH   -- for this text's walks alone
set_option linter.unusedVariables false
set_option linter.unusedSimpArgs false

/-! ### aH: function 46 -/
mutual
def aH.j0 : Nat → Int → Bool → Int → Int → Int → Int → List (S24) → Option (Int)
 | 0, _, _, _, _, _, _, _ => none
 | k + 1, x3, x14, kX, kC, kD, jY, gY => if x14 = true then (some 14) else (if x3 = 2 then (if x3 = 6 then (if x3 < 5 then (aH.j1 k x3 (decide ((gY.length : Int) > 0)) kX kC kD jY gY) else (aH.j1 k x3 false kX kC kD jY gY)) else (if jY = 0 then (if x3 < 5 then (aH.j1 k x3 (decide ((gY.length : Int) > 0)) kX kC kD jY gY) else (aH.j1 k x3 false kX kC kD jY gY)) else (aH.j1 k x3 true kX kC kD jY gY))) else (if kC = 0 then (if kD = 0 then (if x3 = 6 then (if x3 < 5 then (aH.j1 k x3 (decide ((gY.length : Int) > 0)) kX kC kD jY gY) else (aH.j1 k x3 false kX kC kD jY gY)) else (if jY = 0 then (if x3 < 5 then (aH.j1 k x3 (decide ((gY.length : Int) > 0)) kX kC kD jY gY) else (aH.j1 k x3 false kX kC kD jY gY)) else (aH.j1 k x3 true kX kC kD jY gY))) else (aH.j1 k x3 true kX kC kD jY gY)) else (aH.j1 k x3 true kX kC kD jY gY)))
def aH.j1 : Nat → Int → Bool → Int → Int → Int → Int → List (S24) → Option (Int)
 | 0, _, _, _, _, _, _, _ => none
 | k + 1, x3, x45, kX, kC, kD, jY, gY => if x45 = true then (some 2) else (if x3 = 2 then (if kC < (-1000) then (some 1) else (if kC > kD then (some 1) else (if kD > 1000 then (some 1) else (some 0)))) else (if x3 = 5 then (if (gY.length : Int) < 2 then (aH.j2 k true kX kC kD jY gY) else (aH.j2 k (decide ((gY.length : Int) > 4)) kX kC kD jY gY)) else (if x3 = 6 then (if jY < 1 then (aH.j4 k true kX kC kD jY gY) else (aH.j4 k (decide (jY > 4)) kX kC kD jY gY)) else (some 0))))
def aH.j2 : Nat → Bool → Int → Int → Int → Int → List (S24) → Option (Int)
 | 0, _, _, _, _, _, _ => none
 | k + 1, x75, kX, kC, kD, jY, gY => if x75 = true then (some 1) else (aH.l0 k 0 kX kC kD jY gY)
def aH.l0 : Nat → Int → Int → Int → Int → Int → List (S24) → Option (Int)
 | 0, _, _, _, _, _, _ => none
 | k + 1, x4, kX, kC, kD, jY, gY => if x4 < (gY.length : Int) then (if 0 ≤ x4 then ((aH.f k ((ah gY x4).f0) ((ah gY x4).f1) ((ah gY x4).f2) ((ah gY x4).f3) ((ah gY x4).f4)).bind fun t283 => (if t283 = 0 then (if ((ah gY x4).f0) = 3 then (some 8) else (if ((ah gY x4).f0) = 4 then (some 8) else (aH.l0 k (wrap64 (x4 + 1)) kX kC kD jY gY))) else (some t283))) else (none)) else (some 0)
def aH.j4 : Nat → Bool → Int → Int → Int → Int → List (S24) → Option (Int)
 | 0, _, _, _, _, _, _ => none
 | k + 1, x117, kX, kC, kD, jY, gY => if x117 = true then (some 1) else (if (gY.length : Int) = 1 then (if 0 < (gY.length : Int) then ((aH.f k ((ah gY 0).f0) ((ah gY 0).f1) ((ah gY 0).f2) ((ah gY 0).f3) ((ah gY 0).f4)).bind fun IQ => (if IQ = 0 then (if ((ah gY 0).f0) = 1 then (some 0) else (if ((ah gY 0).f0) = 2 then (some 0) else (some 8))) else (some IQ))) else (none)) else (some 2))
def aH.f : Nat → Int → Int → Int → Int → List (S24) → Option (Int)
 | 0, _, _, _, _, _ => none
 | k + 1, aj, av, ak, au, af => if aj < 1 then (aH.j0 k aj true aj av ak au af) else (aH.j0 k aj (decide (aj > 6)) aj av ak au af)
end
set_option maxHeartbeats 8000000 in
set_option maxRecDepth 100000 in
theorem aH.calls (k : Nat) : ∀ (aj : Int) (av : Int) (ak : Int) (au : Int) (bA : Option Addr) (aZ : Nat) (af : List (S24)) (r : Int) (w : World) (fK : Kd.C k24 w bA af.length af) (fM : af.length ≤ aZ) (h : aH.f k aj av ak au af = some r),
  Calls Tryd.prog 46 #[.agg #[.int .i64 aj, .int .i64 av, .int .i64 ak, .int .i64 au, .slice bA af.length aZ]] w fun e w' => e = .returned (.int .i64 r) ∧ Below w.heap.size w w' := by
 induction k using Nat.strongRecOn with
 | _ k ih =>
 intro aj av ak au bA aZ af r w fK fM h; cases k with
 | zero => exact absurd h (by simp [aH.f])
 | succ k =>
 simp only [aH.f] at h; have qb := Tryd.underlying24; have cz := aa.mk fK; have eZ := aa.mk fM; clear fK fM; have HB := aa.mk (Below.refl w.heap.size w); have H : (if aj < 1 then (aH.j0 k aj true aj av ak au af) else (aH.j0 k aj (decide (aj > 6)) aj av ak au af)) = some r := h; clear h; have HC2 := aa.mk H; clear H; go_enter Tryd.func46, Tryd.ntmps46; go_upto_region 2 with (first | ((with_reducible refine aU (N := 1) rfl ?_); (try (refine jF (by rfl) ?_; dsimp only)); refine aY ?hg (N := 1) ?hd (cs := #[.int .i64 aj, .int .i64 av, .int .i64 ak, .int .i64 au, .slice bA af.length aZ]) (t := 24) ?hr ?_; (case hd => rfl); (case hg => rfl); (case hr => first | (go_simp; done) | (go_simp; rfl)); intro NW hg w3 aK hb; have iC := aa.mk (aK); have GW281 : aa (w.heap.size ≤ NW) := gw_ hg (ax bl_); have GE281 := GW281; replace HB := aa.mk (ai bl_ hb); clear hb aK hg; obtain ⟨lC, lD, lF, lG, lH, lI, lJ, lK, lL, lM⟩ := bz iC.out))
 (try simp only [Act.put, List.setIfInBounds_toArray, List.set_cons_zero, List.set_cons_succ])
 go_cut [14] (fun v14 wc => ∃ (kq : Nat) (x14_1 : Bool), v14 = .bool x14_1 ∧ aa (aH.j0 kq aj x14_1 aj av ak au af = some r) ∧ aa (kq ≤ k) ∧ aa (wc.heap[NW]? = some (.cells #[.int .i64 aj, .int .i64 av, .int .i64 ak, .int .i64 au, (.slice bA af.length aZ)] 24 (0, 0))) ∧ aa (Below w.heap.size w wc))
 case first =>
  have H := HC2.out; clear HC2; by_cases c5 : aj < 1
  ·rw [if_pos c5] at H; have jU := decide_eq_true c5; clear c5; (first | rw [jU] | (simp only [eT, fA]; rw [jU]) | skip)
   have H' := aa.mk H; clear H; go_wp2; go_meet
   case rel => exact ⟨_, (true), rs_, H', ⟨by first | omega | exact Nat.le_refl _⟩, ⟨bk_⟩, ⟨bl_⟩⟩
  ·rw [if_neg c5] at H; have jU := decide_eq_false c5; clear c5; (first | rw [jU] | (simp only [eT, fA]; rw [jU]) | skip)
   have H' := aa.mk H; clear H; go_wp2; go_meet
   case rel => exact ⟨_, (decide (aj > 6)), rs_, H', ⟨by first | omega | exact Nat.le_refl _⟩, ⟨bk_⟩, ⟨bl_⟩⟩
 case rest =>
  clear HC2; (try clear p2); (try clear c4); (try clear c5); (try clear jU); (try clear lC lD lF lG lH lI lJ lK lL lM); obtain ⟨kq, x14_1, rfl, HA, HJ1, iC, HB⟩ := hcut; cases kq with
  | zero => exact absurd HA.out (by simp [aH.j0])
  | succ kj1 =>
   have H := HA.out; clear HA; simp only [aH.j0] at H; by_cases c6 : x14_1 = true
   ·subst c6; have H1 : (some 14) = some r := by rw [if_pos rfl] at H; exact H
    clear H; have H := H1; clear H1; obtain rfl := Option.some.inj H; go_wp2; go_ret; exact ⟨re_, bl_⟩
   ·replace c6 := Bool.eq_false_iff.mpr c6; subst c6; have H1 : (if aj = 2 then (if aj = 6 then (if aj < 5 then (aH.j1 kj1 aj (decide ((af.length : Int) > 0)) aj av ak au af) else (aH.j1 kj1 aj false aj av ak au af)) else (if au = 0 then (if aj < 5 then (aH.j1 kj1 aj (decide ((af.length : Int) > 0)) aj av ak au af) else (aH.j1 kj1 aj false aj av ak au af)) else (aH.j1 kj1 aj true aj av ak au af))) else (if av = 0 then (if ak = 0 then (if aj = 6 then (if aj < 5 then (aH.j1 kj1 aj (decide ((af.length : Int) > 0)) aj av ak au af) else (aH.j1 kj1 aj false aj av ak au af)) else (if au = 0 then (if aj < 5 then (aH.j1 kj1 aj (decide ((af.length : Int) > 0)) aj av ak au af) else (aH.j1 kj1 aj false aj av ak au af)) else (aH.j1 kj1 aj true aj av ak au af))) else (aH.j1 kj1 aj true aj av ak au af)) else (aH.j1 kj1 aj true aj av ak au af))) = some r := by rw [if_neg (show ¬ (false = true) by decide)] at H; exact H
    clear H; have H := H1; clear H1; have HC7 := aa.mk H; clear H; go_upto_region 4 with (fail)
    go_cut [45] (fun v45 wc => ∃ (kq : Nat) (x45_6 : Bool), v45 = .bool x45_6 ∧ aa (aH.j1 kq aj x45_6 aj av ak au af = some r) ∧ aa (kq ≤ kj1) ∧ aa (wc.heap[NW]? = some (.cells #[.int .i64 aj, .int .i64 av, .int .i64 ak, .int .i64 au, (.slice bA af.length aZ)] 24 (0, 0))) ∧ aa (Below w.heap.size w wc))
    case first =>
     have H := HC7.out; clear HC7; by_cases c8 : aj = 2
     ·rw [if_pos c8] at H; obtain ⟨ko, ny⟩ := bq_ c8; clear c8; (first | rw [ko] | (simp only [eT, fA]; rw [ko]) | skip)
      by_cases c9 : aj = 6
      ·rw [if_pos c9] at H; obtain ⟨vH, yM⟩ := bq_ c9; clear c9; by_cases c10 : aj < 5
       ·rw [if_pos c10] at H; have kv := decide_eq_true c10; clear c10; have H' := aa.mk H; clear H; obtain ⟨nR, nS, nT, oU, oV, nU, nV, nW, oW, oZ⟩ := bz iC.out; go_wp2; go_meet
        case rel => exact ⟨_, (decide ((af.length : Int) > 0)), rs_, H', ⟨by have := HJ1.out; first | omega | exact Nat.le_refl _⟩, ⟨bk_⟩, ⟨bl_⟩⟩
       ·rw [if_neg c10] at H; have kv := decide_eq_false c10; clear c10; have H' := aa.mk H; clear H; go_wp2; go_meet
        case rel => exact ⟨_, (false), rs_, H', ⟨by have := HJ1.out; first | omega | exact Nat.le_refl _⟩, ⟨bk_⟩, ⟨bl_⟩⟩
      ·rw [if_neg c9] at H; obtain ⟨vH, yM⟩ := bn_ c9; by_cases c12 : au = 0
       ·rw [if_pos c12] at H; obtain ⟨yT, Dq⟩ := bq_ c12; clear c12; by_cases c13 : aj < 5
        ·rw [if_pos c13] at H; have rR := decide_eq_true c13; clear c13; have H' := aa.mk H; clear H; obtain ⟨mr, mD, mE, mF, mG, mH, mI, mJ, mK, mM⟩ := bz iC.out; go_wp2; go_meet
         case rel => exact ⟨_, (decide ((af.length : Int) > 0)), rs_, H', ⟨by have := HJ1.out; first | omega | exact Nat.le_refl _⟩, ⟨bk_⟩, ⟨bl_⟩⟩
        ·rw [if_neg c13] at H; have rR := decide_eq_false c13; clear c13; have H' := aa.mk H; clear H; obtain ⟨uO, uP, uQ, yG, yH, uR, uS, uT, yI, yJ⟩ := bz iC.out; go_wp2; go_meet
         case rel => exact ⟨_, (false), rs_, H', ⟨by have := HJ1.out; first | omega | exact Nat.le_refl _⟩, ⟨bk_⟩, ⟨bl_⟩⟩
       ·rw [if_neg c12] at H; obtain ⟨yT, Dq⟩ := bn_ c12; have H' := aa.mk H; clear H; obtain ⟨nX, nY, nZ, tH, tJ, og, oh, om, tK, tL⟩ := bz iC.out; go_wp2; go_meet
        case rel => exact ⟨_, (true), rs_, H', ⟨by have := HJ1.out; first | omega | exact Nat.le_refl _⟩, ⟨bk_⟩, ⟨bl_⟩⟩
     ·rw [if_neg c8] at H; obtain ⟨ko, ny⟩ := bn_ c8; (first | rw [ko] | (simp only [eT, fA]; rw [ko]) | skip)
      by_cases c17 : av = 0
      ·rw [if_pos c17] at H; obtain ⟨qV, xK⟩ := bq_ c17; clear c17; by_cases c18 : ak = 0
       ·rw [if_pos c18] at H; obtain ⟨vK, Du⟩ := bq_ c18; clear c18; by_cases c19 : aj = 6
        ·rw [if_pos c19] at H; obtain ⟨Fq, Gp⟩ := bq_ c19; clear c19; by_cases c20 : aj < 5
         ·rw [if_pos c20] at H; have vN := decide_eq_true c20; clear c20; have H' := aa.mk H; clear H; obtain ⟨mP, mQ, mR, qC, qD, mU, mV, mW, qE, qF⟩ := bz iC.out; go_wp2; go_meet
          case rel => exact ⟨_, (decide ((af.length : Int) > 0)), rs_, H', ⟨by have := HJ1.out; first | omega | exact Nat.le_refl _⟩, ⟨bk_⟩, ⟨bl_⟩⟩
         ·rw [if_neg c20] at H; have vN := decide_eq_false c20; clear c20; have H' := aa.mk H; clear H; obtain ⟨qj, ql, qm, rM, rO, qo, qp, qw, rP, rQ⟩ := bz iC.out; go_wp2; go_meet
          case rel => exact ⟨_, (false), rs_, H', ⟨by have := HJ1.out; first | omega | exact Nat.le_refl _⟩, ⟨bk_⟩, ⟨bl_⟩⟩
        ·rw [if_neg c19] at H; obtain ⟨Fq, Gp⟩ := bn_ c19; by_cases c23 : au = 0
         ·rw [if_pos c23] at H; obtain ⟨qU, vz⟩ := bq_ c23; clear c23; by_cases c24 : aj < 5
          ·rw [if_pos c24] at H; have yS := decide_eq_true c24; clear c24; have H' := aa.mk H; clear H; obtain ⟨zO, zP, zQ, zR, zS, zT, zU, zV, zW, zX⟩ := bz iC.out; go_wp2; go_meet
           case rel => exact ⟨_, (decide ((af.length : Int) > 0)), rs_, H', ⟨by have := HJ1.out; first | omega | exact Nat.le_refl _⟩, ⟨bk_⟩, ⟨bl_⟩⟩
          ·rw [if_neg c24] at H; have yS := decide_eq_false c24; clear c24; have H' := aa.mk H; clear H; obtain ⟨wK, wL, wM, yC, yD, wN, wO, wP, yE, yF⟩ := bz iC.out; go_wp2; go_meet
           case rel => exact ⟨_, (false), rs_, H', ⟨by have := HJ1.out; first | omega | exact Nat.le_refl _⟩, ⟨bk_⟩, ⟨bl_⟩⟩
         ·rw [if_neg c23] at H; obtain ⟨qU, vz⟩ := bn_ c23; have H' := aa.mk H; clear H; obtain ⟨yf, yg, yh, yj, yl, ym, yn, yo, yt, yu⟩ := bz iC.out; go_wp2; go_meet
          case rel => exact ⟨_, (true), rs_, H', ⟨by have := HJ1.out; first | omega | exact Nat.le_refl _⟩, ⟨bk_⟩, ⟨bl_⟩⟩
       ·rw [if_neg c18] at H; obtain ⟨vK, Du⟩ := bn_ c18; have H' := aa.mk H; clear H; obtain ⟨uD, uE, uF, uG, uH, uI, uJ, uK, uL, uM⟩ := bz iC.out; go_wp2; go_meet
        case rel => exact ⟨_, (true), rs_, H', ⟨by have := HJ1.out; first | omega | exact Nat.le_refl _⟩, ⟨bk_⟩, ⟨bl_⟩⟩
      ·rw [if_neg c17] at H; obtain ⟨qV, xK⟩ := bn_ c17; have H' := aa.mk H; clear H; obtain ⟨BM, BN, BO, BP, BQ, BR, BS, BU, BV, BX⟩ := bz iC.out; go_wp2; go_meet
       case rel => exact ⟨_, (true), rs_, H', ⟨by have := HJ1.out; first | omega | exact Nat.le_refl _⟩, ⟨bk_⟩, ⟨bl_⟩⟩
    case rest =>
     clear HC7; (try clear c1); (try clear c2); (try clear p2); (try clear c4); (try clear c5); (try clear jU); (try clear c6); (try clear c8); (try clear ko); (try clear ny); (try clear c9); (try clear vH); (try clear yM); (try clear c10); (try clear kv); (try clear c12); (try clear yT); (try clear Dq); (try clear c13); (try clear rR); (try clear c17); (try clear qV); (try clear xK); (try clear c18); (try clear vK); (try clear Du); (try clear c19); (try clear Fq); (try clear Gp); (try clear c20); (try clear vN); (try clear c23); (try clear qU); (try clear vz); (try clear c24); (try clear yS); (try clear nR nS nT oU oV nU nV nW oW oZ); (try clear mr mD mE mF mG mH mI mJ mK mM); (try clear uO uP uQ yG yH uR uS uT yI yJ); (try clear nX nY nZ tH tJ og oh om tK tL); (try clear mP mQ mR qC qD mU mV mW qE qF); (try clear qj ql qm rM rO qo qp qw rP rQ); (try clear zO zP zQ zR zS zT zU zV zW zX); (try clear wK wL wM yC yD wN wO wP yE yF); (try clear yf yg yh yj yl ym yn yo yt yu); (try clear uD uE uF uG uH uI uJ uK uL uM); (try clear BM BN BO BP BQ BR BS BU BV BX); (try clear lC lD lF lG lH lI lJ lK lL lM); (try clear p2); obtain ⟨kq, x45_6, rfl, HA, HJ6, iC, HB⟩ := hcut; cases kq with
     | zero => exact absurd HA.out (by simp [aH.j1])
     | succ kj6 =>
      have H := HA.out; clear HA; simp only [aH.j1] at H; by_cases c30 : x45_6 = true
      ·subst c30; have H1 : (some 2) = some r := by rw [if_pos rfl] at H; exact H
       clear H; have H := H1; clear H1; obtain rfl := Option.some.inj H; go_wp2; go_ret; exact ⟨re_, bl_⟩
      ·replace c30 := Bool.eq_false_iff.mpr c30; subst c30; have H1 : (if aj = 2 then (if av < (-1000) then (some 1) else (if av > ak then (some 1) else (if ak > 1000 then (some 1) else (some 0)))) else (if aj = 5 then (if (af.length : Int) < 2 then (aH.j2 kj6 true aj av ak au af) else (aH.j2 kj6 (decide ((af.length : Int) > 4)) aj av ak au af)) else (if aj = 6 then (if au < 1 then (aH.j4 kj6 true aj av ak au af) else (aH.j4 kj6 (decide (au > 4)) aj av ak au af)) else (some 0)))) = some r := by rw [if_neg (show ¬ (false = true) by decide)] at H; exact H
       clear H; have H := H1; clear H1; by_cases c31 : aj = 2
       ·rw [if_pos c31] at H; obtain ⟨NQ, c31b1⟩ := bq_ c31; clear c31; by_cases c32 : av < (-1000)
        ·rw [if_pos c32] at H; have Bv := decide_eq_true c32; clear c32; obtain rfl := Option.some.inj H; obtain ⟨GD, GG, GH, Ke, Kg, GI, GJ, GK, Kh, Ki⟩ := bz iC.out; go_wp2; go_ret; exact ⟨re_, bl_⟩
        ·rw [if_neg c32] at H; have Bv := decide_eq_false c32; clear c32; by_cases c34 : av > ak
         ·rw [if_pos c34] at H; have PT : decide (ak < av) = true := decide_eq_true c34; clear c34; obtain rfl := Option.some.inj H; obtain ⟨Cw, Cx, Cy, Cz, CB, CE, CF, CG, CJ, CK⟩ := bz iC.out; go_wp2; go_ret; exact ⟨re_, bl_⟩
         ·rw [if_neg c34] at H; have PT : decide (ak < av) = false := decide_eq_false c34; clear c34; by_cases c36 : ak > 1000
          ·rw [if_pos c36] at H; have Fg : decide (1000 < ak) = true := decide_eq_true c36; clear c36; obtain rfl := Option.some.inj H; obtain ⟨wh, wm, wo, yx, yz, wu, wy, wz, yA, yB⟩ := bz iC.out; go_wp2; go_ret; exact ⟨re_, bl_⟩
          ·rw [if_neg c36] at H; have Fg : decide (1000 < ak) = false := decide_eq_false c36; clear c36; obtain rfl := Option.some.inj H; obtain ⟨S9, Ta, Tc, Td, Te, Tf, Tg, Ti, Tj, Tk⟩ := bz iC.out; go_wp2; go_ret; exact ⟨re_, bl_⟩
       ·rw [if_neg c31] at H; obtain ⟨NQ, c31b1⟩ := bn_ c31; by_cases c39 : aj = 5
        ·rw [if_pos c39] at H; obtain ⟨Dr, JO⟩ := bq_ c39; clear c39; have HC40 := aa.mk H; clear H; go_upto_region 11 with (fail)
         go_cut [75] (fun v75 wc => ∃ (kq : Nat) (PU : Bool), v75 = .bool PU ∧ aa (aH.j2 kq PU aj av ak au af = some r) ∧ aa (kq ≤ kj6) ∧ aa (wc.heap[NW]? = some (.cells #[.int .i64 aj, .int .i64 av, .int .i64 ak, .int .i64 au, (.slice bA af.length aZ)] 24 (0, 0))) ∧ aa (Below w.heap.size w wc))
         case first =>
          have H := HC40.out; clear HC40; by_cases c41 : (af.length : Int) < 2
          ·rw [if_pos c41] at H; have tV := decide_eq_true c41; have L6 : decide (af.length < 2) = true := decide_eq_true (by omega); clear c41; (first | rw [tV] | (simp only [eT, fA]; rw [tV]) | skip)
           have H' := aa.mk H; clear H; obtain ⟨G5, G6, G7, NR, NS, G8, G9, Ha, NT, NU⟩ := bz iC.out; go_wp2; go_meet
           case rel => exact ⟨_, (true), rs_, H', ⟨by have := HJ1.out; have := HJ6.out; first | omega | exact Nat.le_refl _⟩, ⟨bk_⟩, ⟨bl_⟩⟩
          ·rw [if_neg c41] at H; have tV := decide_eq_false c41; have L6 : decide (af.length < 2) = false := decide_eq_false (by omega); clear c41; (first | rw [tV] | (simp only [eT, fA]; rw [tV]) | skip)
           have H' := aa.mk H; clear H; obtain ⟨HZ, H5, H6, H7, H8, H9, Ia, Ib, Ic, Ie⟩ := bz iC.out; go_wp2; go_meet
           case rel => exact ⟨_, (decide ((af.length : Int) > 4)), rs_, H', ⟨by have := HJ1.out; have := HJ6.out; first | omega | exact Nat.le_refl _⟩, ⟨bk_⟩, ⟨bl_⟩⟩
         case rest =>
          clear HC40; (try clear c1); (try clear c2); (try clear p2); (try clear c3); (try clear c4); (try clear c5); (try clear jU); (try clear c6); (try clear c8); (try clear ko); (try clear ny); (try clear c9); (try clear vH); (try clear yM); (try clear c10); (try clear kv); (try clear c12); (try clear yT); (try clear Dq); (try clear c13); (try clear rR); (try clear c17); (try clear qV); (try clear xK); (try clear c18); (try clear vK); (try clear Du); (try clear c19); (try clear Fq); (try clear Gp); (try clear c20); (try clear vN); (try clear c23); (try clear qU); (try clear vz); (try clear c24); (try clear yS); (try clear c30); (try clear c31); (try clear NQ); (try clear c31b1); (try clear c32); (try clear Bv); (try clear c34); (try clear PT); (try clear c36); (try clear Fg); (try clear c39); (try clear Dr); (try clear JO); (try clear c41); (try clear tV); (try clear L6); (try clear nR nS nT oU oV nU nV nW oW oZ); (try clear mr mD mE mF mG mH mI mJ mK mM); (try clear uO uP uQ yG yH uR uS uT yI yJ); (try clear nX nY nZ tH tJ og oh om tK tL); (try clear mP mQ mR qC qD mU mV mW qE qF); (try clear qj ql qm rM rO qo qp qw rP rQ); (try clear zO zP zQ zR zS zT zU zV zW zX); (try clear wK wL wM yC yD wN wO wP yE yF); (try clear yf yg yh yj yl ym yn yo yt yu); (try clear uD uE uF uG uH uI uJ uK uL uM); (try clear BM BN BO BP BQ BR BS BU BV BX); (try clear GD GG GH Ke Kg GI GJ GK Kh Ki); (try clear Cw Cx Cy Cz CB CE CF CG CJ CK); (try clear wh wm wo yx yz wu wy wz yA yB); (try clear S9 Ta Tc Td Te Tf Tg Ti Tj Tk); (try clear G5 G6 G7 NR NS G8 G9 Ha NT NU); (try clear HZ H5 H6 H7 H8 H9 Ia Ib Ic Ie); (try clear lC lD lF lG lH lI lJ lK lL lM); (try clear p2); obtain ⟨kq, PU, rfl, HA, HJ39, iC, HB⟩ := hcut; cases kq with
          | zero => exact absurd HA.out (by simp [aH.j2])
          | succ kj39 =>
           have H := HA.out; clear HA; simp only [aH.j2] at H; by_cases c44 : PU = true
           ·subst c44; have H1 : (some 1) = some r := by rw [if_pos rfl] at H; exact H
            clear H; have H := H1; clear H1; obtain rfl := Option.some.inj H; go_wp2; go_ret; exact ⟨re_, bl_⟩
           ·replace c44 := Bool.eq_false_iff.mpr c44; subst c44; have H1 : (aH.l0 kj39 0 aj av ak au af) = some r := by rw [if_neg (show ¬ (false = true) by decide)] at H; exact H
            clear H; have H := H1; clear H1; have H' := aa.mk H; clear H; go_wp2; go_loopg [4] kj39 (fun kq v4 w' => ∃ (iw : Int), v4 = .int .i64 iw ∧ aa (aH.l0 kq iw aj av ak au af = some r) ∧ aa (kq ≤ kj39) ∧ aa (w'.heap[NW]? = some (.cells #[.int .i64 aj, .int .i64 av, .int .i64 ak, .int .i64 au, (.slice bA af.length aZ)] 24 (0, 0))) ∧ aa (Below w.heap.size w w'))
            case atStart => exact ⟨(0), rs_, H', ⟨Nat.le_refl _⟩, ⟨bk_⟩, ⟨bl_⟩⟩
            case round =>
             clear H'; (try clear c1); (try clear c2); (try clear p2); (try clear c3); (try clear c4); (try clear c5); (try clear jU); (try clear c6); (try clear c8); (try clear ko); (try clear ny); (try clear c9); (try clear vH); (try clear yM); (try clear c10); (try clear kv); (try clear c12); (try clear yT); (try clear Dq); (try clear c13); (try clear rR); (try clear c17); (try clear qV); (try clear xK); (try clear c18); (try clear vK); (try clear Du); (try clear c19); (try clear Fq); (try clear Gp); (try clear c20); (try clear vN); (try clear c23); (try clear qU); (try clear vz); (try clear c24); (try clear yS); (try clear c30); (try clear c31); (try clear NQ); (try clear c31b1); (try clear c32); (try clear Bv); (try clear c34); (try clear PT); (try clear c36); (try clear Fg); (try clear c39); (try clear Dr); (try clear JO); (try clear c41); (try clear tV); (try clear L6); (try clear c44); (try clear nR nS nT oU oV nU nV nW oW oZ); (try clear mr mD mE mF mG mH mI mJ mK mM); (try clear uO uP uQ yG yH uR uS uT yI yJ); (try clear nX nY nZ tH tJ og oh om tK tL); (try clear mP mQ mR qC qD mU mV mW qE qF); (try clear qj ql qm rM rO qo qp qw rP rQ); (try clear zO zP zQ zR zS zT zU zV zW zX); (try clear wK wL wM yC yD wN wO wP yE yF); (try clear yf yg yh yj yl ym yn yo yt yu); (try clear uD uE uF uG uH uI uJ uK uL uM); (try clear BM BN BO BP BQ BR BS BU BV BX); (try clear GD GG GH Ke Kg GI GJ GK Kh Ki); (try clear Cw Cx Cy Cz CB CE CF CG CJ CK); (try clear wh wm wo yx yz wu wy wz yA yB); (try clear S9 Ta Tc Td Te Tf Tg Ti Tj Tk); (try clear G5 G6 G7 NR NS G8 G9 Ha NT NU); (try clear HZ H5 H6 H7 H8 H9 Ia Ib Ic Ie); (try clear lC lD lF lG lH lI lJ lK lL lM); (try clear p2); obtain ⟨iw, rfl, HA, HK4, iC, HB⟩ := hrel; cases gk with
             | zero => exact absurd HA.out (by simp [aH.l0])
             | succ k4 =>
              have H := HA.out; clear HA; simp only [aH.l0] at H; by_cases c45 : iw < (af.length : Int)
              ·rw [if_pos c45] at H; have PV := decide_eq_true c45; clear c45; by_cases c46 : 0 ≤ iw
               ·rw [if_pos c46] at H; have Pv := decide_eq_true c46; clear c46; replace H := Option.bind_eq_some_iff.mp H; obtain ⟨t283, A470, H⟩ := H; (try dsimp only at H)
                have A47 := aa.mk A470; clear A470; by_cases c48 : t283 = 0
                ·rw [if_pos c48] at H; obtain ⟨c48b0, c48b1⟩ := bq_ c48; clear c48; by_cases c49 : ((ah af iw).f0) = 3
                 ·rw [if_pos c49] at H; obtain ⟨Na, Nb⟩ := bq_ c49; clear c49; obtain rfl := Option.some.inj H; obtain ⟨Tm, Tn, Tp, Tq, Tt, Tu, Tv, Tw, Tx, Ty⟩ := bz iC.out; have Bc : 0 ≤ (iw : Int) := dt_; have Be : iw < (af.length : Int) := dt_; obtain ⟨JP, IU, IV, e282, uU, uV, uW, uX, uY, xg, xh⟩ := ib cz.out iw Bc Be; cases e282; replace uU := hc_ HB uU; replace uV := hc_ HB uV; replace uW := hc_ HB uW; replace uX := hc_ HB uX; replace uY := hc_ HB uY; have EE := aa.mk xh; have EF := aa.mk xg; clear xh xg; replace Bc := eq_true Bc; replace Be := eq_true Be; go_wp2_with (first | ((with_reducible refine aC (f := 46) rfl ?_); refine aX (some 88) rfl rfl Tryd.func46 (by kernel_rfl) rfl #[.agg #[.int .i64 ((ah af iw).f0), .int .i64 ((ah af iw).f1), .int .i64 ((ah af iw).f2), .int .i64 ((ah af iw).f3), .slice IU ((ah af iw).f4).length IV]] rfl mp_ ?_; (with_reducible refine (ih k4 (by have := HJ1.out; have := HJ6.out; have := HJ39.out; have := HK4.out; omega) ((ah af iw).f0) ((ah af iw).f1) ((ah af iw).f2) ((ah af iw).f3) _ _ ((ah af iw).f4) t283 _ ?ay ?az A47.out).mono ?_); (case ay => exact cb_ (Kd.bB EE.out HB.out)); (case az => exact EF.out); rintro e w51 ⟨rfl, hb⟩; refine ⟨_, rfl, ?_⟩; replace iC := kb_ iC hb; replace HB := aa.mk (ai bl_ hb); (try clear hb); (try clear hb2); (try clear hk); (try clear hi); obtain ⟨Kj, Kk, Kl, Km, Kn, Ko, Kq, Kr, Kt, Ku⟩ := bz iC.out; have FW : 0 ≤ (iw : Int) := dt_; have FX : iw < (af.length : Int) := dt_; obtain ⟨PW, A284_4, c284_4, e284, AL, AO, AP, AQ, xk, C8, C9⟩ := ib cz.out iw FW FX; obtain rfl : JP = PW := (by injection e284); replace AL := hc_ HB AL; replace AO := hc_ HB AO; replace AP := hc_ HB AP; replace AQ := hc_ HB AQ; replace xk := hc_ HB xk; have WH := aa.mk C9; have WI := aa.mk C8; clear C9 C8; replace FW := eq_true FW; replace FX := eq_true FX))
                  go_ret; exact ⟨re_, bl_⟩
                 ·rw [if_neg c49] at H; obtain ⟨Na, Nb⟩ := bn_ c49; by_cases c53 : ((ah af iw).f0) = 4
                  ·rw [if_pos c53] at H; obtain ⟨c53b0, c53b1⟩ := bq_ c53; clear c53; obtain rfl := Option.some.inj H; obtain ⟨Kv, Kw, Ky, Kz, KA, KC, KD, KE, KF, KG⟩ := bz iC.out; have Bc : 0 ≤ (iw : Int) := dt_; have Be : iw < (af.length : Int) := dt_; obtain ⟨JP, IU, IV, e282, uU, uV, uW, uX, uY, xg, xh⟩ := ib cz.out iw Bc Be; cases e282; replace uU := hc_ HB uU; replace uV := hc_ HB uV; replace uW := hc_ HB uW; replace uX := hc_ HB uX; replace uY := hc_ HB uY; have EE := aa.mk xh; have EF := aa.mk xg; clear xh xg; replace Bc := eq_true Bc; replace Be := eq_true Be; go_wp2_with (first | ((with_reducible refine aC (f := 46) rfl ?_); refine aX (some 88) rfl rfl Tryd.func46 (by kernel_rfl) rfl #[.agg #[.int .i64 ((ah af iw).f0), .int .i64 ((ah af iw).f1), .int .i64 ((ah af iw).f2), .int .i64 ((ah af iw).f3), .slice IU ((ah af iw).f4).length IV]] rfl mp_ ?_; (with_reducible refine (ih k4 (by have := HJ1.out; have := HJ6.out; have := HJ39.out; have := HK4.out; omega) ((ah af iw).f0) ((ah af iw).f1) ((ah af iw).f2) ((ah af iw).f3) _ _ ((ah af iw).f4) t283 _ ?ay ?az A47.out).mono ?_); (case ay => exact cb_ (Kd.bB EE.out HB.out)); (case az => exact EF.out); rintro e w55 ⟨rfl, hb⟩; refine ⟨_, rfl, ?_⟩; replace iC := kb_ iC hb; replace HB := aa.mk (ai bl_ hb); (try clear hb); (try clear hb2); (try clear hk); (try clear hi); obtain ⟨hcz56_0, hcz56_1, hcz56_2, hcz56_3, hcz56_4, hfz56_0, hfz56_1, hfz56_2, hfz56_3, hfz56_4⟩ := bz iC.out; have FW : 0 ≤ (iw : Int) := dt_; have FX : iw < (af.length : Int) := dt_; obtain ⟨PW, A284_4, c284_4, e284, AL, AO, AP, AQ, xk, C8, C9⟩ := ib cz.out iw FW FX; obtain rfl : JP = PW := (by injection e284); replace AL := hc_ HB AL; replace AO := hc_ HB AO; replace AP := hc_ HB AP; replace AQ := hc_ HB AQ; replace xk := hc_ HB xk; have WH := aa.mk C9; have WI := aa.mk C8; clear C9 C8; replace FW := eq_true FW; replace FX := eq_true FX; have p285 : 0 ≤ (iw : Int) := dt_; have q285 : iw < (af.length : Int) := dt_; obtain ⟨ad285, A285_4, c285_4, e285, Ig, Ih, Ii, Ij, Da, Lf, Lg⟩ := ib cz.out iw p285 q285; obtain rfl : JP = ad285 := (by injection e285); replace Ig := hc_ HB Ig; replace Ih := hc_ HB Ih; replace Ii := hc_ HB Ii; replace Ij := hc_ HB Ij; replace Da := hc_ HB Da; have HR285_4 := aa.mk Lg; have HC285_4 := aa.mk Lf; clear Lg Lf; replace p285 := eq_true p285; replace q285 := eq_true q285; have ea_ := Option.some.inj (xk.symm.trans Da); injection ea_ with ea_ en_ ec_; subst ea_; subst ec_; clear en_))
                   go_ret; exact ⟨re_, bl_⟩
                  ·rw [if_neg c53] at H; obtain ⟨c53b0, c53b1⟩ := bn_ c53; have H' := aa.mk H; clear H; obtain ⟨Rk, Rl, Rm, Rn, Ro, Rp, Rq, Rt, Ru, Rv⟩ := bz iC.out; have Bc : 0 ≤ (iw : Int) := dt_; have Be : iw < (af.length : Int) := dt_; obtain ⟨JP, IU, IV, e282, uU, uV, uW, uX, uY, xg, xh⟩ := ib cz.out iw Bc Be; cases e282; replace uU := hc_ HB uU; replace uV := hc_ HB uV; replace uW := hc_ HB uW; replace uX := hc_ HB uX; replace uY := hc_ HB uY; have EE := aa.mk xh; have EF := aa.mk xg; clear xh xg; replace Bc := eq_true Bc; replace Be := eq_true Be; go_wp2_with (first | ((with_reducible refine aC (f := 46) rfl ?_); refine aX (some 88) rfl rfl Tryd.func46 (by kernel_rfl) rfl #[.agg #[.int .i64 ((ah af iw).f0), .int .i64 ((ah af iw).f1), .int .i64 ((ah af iw).f2), .int .i64 ((ah af iw).f3), .slice IU ((ah af iw).f4).length IV]] rfl mp_ ?_; (with_reducible refine (ih k4 (by have := HJ1.out; have := HJ6.out; have := HJ39.out; have := HK4.out; omega) ((ah af iw).f0) ((ah af iw).f1) ((ah af iw).f2) ((ah af iw).f3) _ _ ((ah af iw).f4) t283 _ ?ay ?az A47.out).mono ?_); (case ay => exact cb_ (Kd.bB EE.out HB.out)); (case az => exact EF.out); rintro e w58 ⟨rfl, hb⟩; refine ⟨_, rfl, ?_⟩; replace iC := kb_ iC hb; replace HB := aa.mk (ai bl_ hb); (try clear hb); (try clear hb2); (try clear hk); (try clear hi); obtain ⟨Rw, Rx, Ry, Rz, RA, RB, RD, RF, RG, RH⟩ := bz iC.out; have FW : 0 ≤ (iw : Int) := dt_; have FX : iw < (af.length : Int) := dt_; obtain ⟨PW, A284_4, c284_4, e284, AL, AO, AP, AQ, xk, C8, C9⟩ := ib cz.out iw FW FX; obtain rfl : JP = PW := (by injection e284); replace AL := hc_ HB AL; replace AO := hc_ HB AO; replace AP := hc_ HB AP; replace AQ := hc_ HB AQ; replace xk := hc_ HB xk; have WH := aa.mk C9; have WI := aa.mk C8; clear C9 C8; replace FW := eq_true FW; replace FX := eq_true FX; have p285 : 0 ≤ (iw : Int) := dt_; have q285 : iw < (af.length : Int) := dt_; obtain ⟨ad285, A285_4, c285_4, e285, Ig, Ih, Ii, Ij, Da, Lf, Lg⟩ := ib cz.out iw p285 q285; obtain rfl : JP = ad285 := (by injection e285); replace Ig := hc_ HB Ig; replace Ih := hc_ HB Ih; replace Ii := hc_ HB Ii; replace Ij := hc_ HB Ij; replace Da := hc_ HB Da; have HR285_4 := aa.mk Lg; have HC285_4 := aa.mk Lf; clear Lg Lf; replace p285 := eq_true p285; replace q285 := eq_true q285; have ea_ := Option.some.inj (xk.symm.trans Da); injection ea_ with ea_ en_ ec_; subst ea_; subst ec_; clear en_))
                   go_roundg k4
                   case measure => have := HJ1.out; have := HJ6.out; have := HJ39.out; have := HK4.out; omega
                   case rel => exact ⟨(wrap64 (iw + 1)), rs_, H', ⟨by have := HJ1.out; have := HJ6.out; have := HJ39.out; have := HK4.out; omega⟩, ⟨bk_⟩, ⟨bl_⟩⟩
                ·rw [if_neg c48] at H; obtain ⟨c48b0, c48b1⟩ := bn_ c48; obtain rfl := Option.some.inj H; obtain ⟨WJ, WK, WL, WM, WN, WO, WQ, WR, WS, WT⟩ := bz iC.out; have Bc : 0 ≤ (iw : Int) := dt_; have Be : iw < (af.length : Int) := dt_; obtain ⟨JP, IU, IV, e282, uU, uV, uW, uX, uY, xg, xh⟩ := ib cz.out iw Bc Be; cases e282; replace uU := hc_ HB uU; replace uV := hc_ HB uV; replace uW := hc_ HB uW; replace uX := hc_ HB uX; replace uY := hc_ HB uY; have EE := aa.mk xh; have EF := aa.mk xg; clear xh xg; replace Bc := eq_true Bc; replace Be := eq_true Be; go_wp2_with (first | ((with_reducible refine aC (f := 46) rfl ?_); refine aX (some 88) rfl rfl Tryd.func46 (by kernel_rfl) rfl #[.agg #[.int .i64 ((ah af iw).f0), .int .i64 ((ah af iw).f1), .int .i64 ((ah af iw).f2), .int .i64 ((ah af iw).f3), .slice IU ((ah af iw).f4).length IV]] rfl mp_ ?_; (with_reducible refine (ih k4 (by have := HJ1.out; have := HJ6.out; have := HJ39.out; have := HK4.out; omega) ((ah af iw).f0) ((ah af iw).f1) ((ah af iw).f2) ((ah af iw).f3) _ _ ((ah af iw).f4) t283 _ ?ay ?az A47.out).mono ?_); (case ay => exact cb_ (Kd.bB EE.out HB.out)); (case az => exact EF.out); rintro e w61 ⟨rfl, hb⟩; refine ⟨_, rfl, ?_⟩; replace iC := kb_ iC hb; replace HB := aa.mk (ai bl_ hb); (try clear hb); (try clear hb2); (try clear hk); (try clear hi)))
                 go_ret; exact ⟨re_, bl_⟩
               ·rw [if_neg c46] at H; exact absurd H (by simp)
              ·rw [if_neg c45] at H; have PV := decide_eq_false c45; clear c45; obtain rfl := Option.some.inj H; obtain ⟨RI, RJ, RL, RN, RO, RP, RQ, RS, RU, RV⟩ := bz iC.out; go_wp2; go_ret; exact ⟨re_, bl_⟩
        ·rw [if_neg c39] at H; obtain ⟨Dr, JO⟩ := bn_ c39; by_cases c63 : aj = 6
         ·rw [if_pos c63] at H; obtain ⟨c63b0, c63b1⟩ := bq_ c63; clear c63; have HC64 := aa.mk H; clear H; go_upto_region 22 with (fail)
          go_cut [117] (fun v117 wc => ∃ (kq : Nat) (NY : Bool), v117 = .bool NY ∧ aa (aH.j4 kq NY aj av ak au af = some r) ∧ aa (kq ≤ kj6) ∧ aa (wc.heap[NW]? = some (.cells #[.int .i64 aj, .int .i64 av, .int .i64 ak, .int .i64 au, (.slice bA af.length aZ)] 24 (0, 0))) ∧ aa (Below w.heap.size w wc))
          case first =>
           have H := HC64.out; clear HC64; by_cases c65 : au < 1
           ·rw [if_pos c65] at H; have NZ := decide_eq_true c65; clear c65; (first | rw [NZ] | (simp only [eT, fA]; rw [NZ]) | skip)
            have H' := aa.mk H; clear H; obtain ⟨RX, RY, RZ, R3, R4, R5, R6, R7, R8, R9⟩ := bz iC.out; go_wp2; go_meet
            case rel => exact ⟨_, (true), rs_, H', ⟨by have := HJ1.out; have := HJ6.out; first | omega | exact Nat.le_refl _⟩, ⟨bk_⟩, ⟨bl_⟩⟩
           ·rw [if_neg c65] at H; have NZ := decide_eq_false c65; clear c65; (first | rw [NZ] | (simp only [eT, fA]; rw [NZ]) | skip)
            have H' := aa.mk H; clear H; obtain ⟨WU, WV, WW, WX, WY, WZ, W9, Xa, Xb, Xc⟩ := bz iC.out; go_wp2; go_meet
            case rel => exact ⟨_, (decide (au > 4)), rs_, H', ⟨by have := HJ1.out; have := HJ6.out; first | omega | exact Nat.le_refl _⟩, ⟨bk_⟩, ⟨bl_⟩⟩
          case rest =>
           clear HC64; (try clear c1); (try clear c2); (try clear p2); (try clear q2); (try clear hx2); (try clear c3); (try clear c4); (try clear c5); (try clear jU); (try clear c6); (try clear p6); (try clear c8); (try clear ko); (try clear ny); (try clear c9); (try clear vH); (try clear yM); (try clear c10); (try clear kv); (try clear c12); (try clear yT); (try clear Dq); (try clear c13); (try clear rR); (try clear c17); (try clear qV); (try clear xK); (try clear c18); (try clear vK); (try clear Du); (try clear c19); (try clear Fq); (try clear Gp); (try clear c20); (try clear vN); (try clear c23); (try clear qU); (try clear vz); (try clear c24); (try clear yS); (try clear c28); (try clear p28); (try clear q28); (try clear hx28); (try clear c30); (try clear c31); (try clear NQ); (try clear c31b1); (try clear c32); (try clear Bv); (try clear c34); (try clear PT); (try clear c36); (try clear Fg); (try clear c39); (try clear Dr); (try clear JO); (try clear c41); (try clear tV); (try clear L6); (try clear c44); (try clear c45); (try clear PV); (try clear c46); (try clear Pv); (try clear c48); (try clear c48b0); (try clear c48b1); (try clear c49); (try clear Na); (try clear Nb); (try clear c53); (try clear c53b0); (try clear c53b1); (try clear c63); (try clear c63b0); (try clear c63b1); (try clear p64); (try clear c65); (try clear NZ); (try clear nR nS nT oU oV nU nV nW oW oZ); (try clear mr mD mE mF mG mH mI mJ mK mM); (try clear uO uP uQ yG yH uR uS uT yI yJ); (try clear nX nY nZ tH tJ og oh om tK tL); (try clear mP mQ mR qC qD mU mV mW qE qF); (try clear qj ql qm rM rO qo qp qw rP rQ); (try clear zO zP zQ zR zS zT zU zV zW zX); (try clear wK wL wM yC yD wN wO wP yE yF); (try clear yf yg yh yj yl ym yn yo yt yu); (try clear uD uE uF uG uH uI uJ uK uL uM); (try clear BM BN BO BP BQ BR BS BU BV BX); (try clear GD GG GH Ke Kg GI GJ GK Kh Ki); (try clear Cw Cx Cy Cz CB CE CF CG CJ CK); (try clear wh wm wo yx yz wu wy wz yA yB); (try clear S9 Ta Tc Td Te Tf Tg Ti Tj Tk); (try clear G5 G6 G7 NR NS G8 G9 Ha NT NU); (try clear HZ H5 H6 H7 H8 H9 Ia Ib Ic Ie)
           (try clear lC lD lF lG lH lI lJ lK lL lM); (try clear Tm Tn Tp Tq Tt Tu Tv Tw Tx Ty); (try clear Kj Kk Kl Km Kn Ko Kq Kr Kt Ku); (try clear Kv Kw Ky Kz KA KC KD KE KF KG); (try clear hcz56_0 hcz56_1 hcz56_2 hcz56_3 hcz56_4 hfz56_0 hfz56_1 hfz56_2 hfz56_3 hfz56_4); (try clear Rk Rl Rm Rn Ro Rp Rq Rt Ru Rv); (try clear Rw Rx Ry Rz RA RB RD RF RG RH); (try clear WJ WK WL WM WN WO WQ WR WS WT); (try clear RI RJ RL RN RO RP RQ RS RU RV); (try clear RX RY RZ R3 R4 R5 R6 R7 R8 R9); (try clear WU WV WW WX WY WZ W9 Xa Xb Xc); (try clear uU); (try clear uV); (try clear uW); (try clear uX); (try clear uY); (try clear AL); (try clear AO); (try clear AP); (try clear AQ); (try clear xk); (try clear Ig); (try clear Ih); (try clear Ii); (try clear Ij); (try clear Da); (try clear p2); (try clear Bc); (try clear FW); (try clear p285); (try clear Be); (try clear FX); (try clear q285); obtain ⟨kq, NY, rfl, HA, HJ63, iC, HB⟩ := hcut; cases kq with
           | zero => exact absurd HA.out (by simp [aH.j4])
           | succ kj63 =>
            have H := HA.out; clear HA; simp only [aH.j4] at H; by_cases c68 : NY = true
            ·subst c68; have H1 : (some 1) = some r := by rw [if_pos rfl] at H; exact H
             clear H; have H := H1; clear H1; obtain rfl := Option.some.inj H; go_wp2; go_ret; exact ⟨re_, bl_⟩
            ·replace c68 := Bool.eq_false_iff.mpr c68; subst c68; have H1 : (if (af.length : Int) = 1 then (if 0 < (af.length : Int) then ((aH.f kj63 ((ah af 0).f0) ((ah af 0).f1) ((ah af 0).f2) ((ah af 0).f3) ((ah af 0).f4)).bind fun IQ => (if IQ = 0 then (if ((ah af 0).f0) = 1 then (some 0) else (if ((ah af 0).f0) = 2 then (some 0) else (some 8))) else (some IQ))) else (none)) else (some 2)) = some r := by rw [if_neg (show ¬ (false = true) by decide)] at H; exact H
             clear H; have H := H1; clear H1; by_cases c69 : (af.length : Int) = 1
             ·rw [if_pos c69] at H; obtain ⟨JH, c69b1⟩ := bq_ c69; clear c69; by_cases c70 : 0 < (af.length : Int)
              ·rw [if_pos c70] at H; have c70b0 := decide_eq_true c70; have c70b1 : decide (0 < af.length) = true := decide_eq_true (by omega); clear c70; replace H := Option.bind_eq_some_iff.mp H; obtain ⟨IQ, A710, H⟩ := H; (try dsimp only at H)
               have A71 := aa.mk A710; clear A710; by_cases c72 : IQ = 0
               ·rw [if_pos c72] at H; obtain ⟨c72b0, c72b1⟩ := bq_ c72; clear c72; by_cases c73 : ((ah af 0).f0) = 1
                ·rw [if_pos c73] at H; obtain ⟨c73b0, c73b1⟩ := bq_ c73; clear c73; obtain rfl := Option.some.inj H; obtain ⟨hcz74_0, hcz74_1, hcz74_2, hcz74_3, hcz74_4, hfz74_0, hfz74_1, hfz74_2, hfz74_3, hfz74_4⟩ := bz iC.out; have BB : 0 ≤ (0 : Int) := (by omega); have BC : 0 < (af.length : Int) := dt_; obtain ⟨JQ, IW, IX, e286, qH, qI, qJ, qK, qL, xm, xn⟩ := ib cz.out 0 BB BC; cases e286; have qi286 : (0 < af.length) = True := eq_true (by omega); (try simp only [z0_, Nat.zero_mul, Addr.add_zero'] at qH qI qJ qK qL)
                 replace qH := hc_ HB qH; replace qI := hc_ HB qI; replace qJ := hc_ HB qJ; replace qK := hc_ HB qK; replace qL := hc_ HB qL; have EG := aa.mk xn; have EH := aa.mk xm; clear xn xm; replace BB := eq_true BB; replace BC := eq_true BC; go_wp2_with (first | ((with_reducible refine aC (f := 46) rfl ?_); refine aX (some 126) rfl rfl Tryd.func46 (by kernel_rfl) rfl #[.agg #[.int .i64 ((ah af 0).f0), .int .i64 ((ah af 0).f1), .int .i64 ((ah af 0).f2), .int .i64 ((ah af 0).f3), .slice IW ((ah af 0).f4).length IX]] rfl mp_ ?_; (with_reducible refine (ih kj63 (by have := HJ1.out; have := HJ6.out; have := HJ63.out; omega) ((ah af 0).f0) ((ah af 0).f1) ((ah af 0).f2) ((ah af 0).f3) _ _ ((ah af 0).f4) IQ _ ?ay ?az A71.out).mono ?_); (case ay => exact cb_ (Kd.bB EG.out HB.out)); (case az => exact EH.out); rintro e w75 ⟨rfl, hb⟩; refine ⟨_, rfl, ?_⟩; replace iC := kb_ iC hb; replace HB := aa.mk (ai bl_ hb); (try clear hb); (try clear hb2); (try clear hk); (try clear hi); obtain ⟨hcz76_0, hcz76_1, hcz76_2, hcz76_3, hcz76_4, hfz76_0, hfz76_1, hfz76_2, hfz76_3, hfz76_4⟩ := bz iC.out; have IY : 0 ≤ (0 : Int) := (by omega); have IZ : 0 < (af.length : Int) := dt_; obtain ⟨PX, A288_4, c288_4, e288, xq, xu, xw, xx, tN, Db, Dc⟩ := ib cz.out 0 IY IZ; obtain rfl : JQ = PX := (by injection e288); have qi288 : (0 < af.length) = True := eq_true (by omega); (try simp only [z0_, Nat.zero_mul, Addr.add_zero'] at xq); (try simp only [z0_, Nat.zero_mul, Addr.add_zero'] at xu); (try simp only [z0_, Nat.zero_mul, Addr.add_zero'] at xw); (try simp only [z0_, Nat.zero_mul, Addr.add_zero'] at xx); (try simp only [z0_, Nat.zero_mul, Addr.add_zero'] at tN); replace xq := hc_ HB xq; replace xu := hc_ HB xu; replace xw := hc_ HB xw; replace xx := hc_ HB xx; replace tN := hc_ HB tN; have Xd := aa.mk Dc; have Xe := aa.mk Db; clear Dc Db; replace IY := eq_true IY; replace IZ := eq_true IZ))
                 go_ret; exact ⟨re_, bl_⟩
                ·rw [if_neg c73] at H; obtain ⟨c73b0, c73b1⟩ := bn_ c73; by_cases c77 : ((ah af 0).f0) = 2
                 ·rw [if_pos c77] at H; obtain ⟨c77b0, c77b1⟩ := bq_ c77; clear c77; obtain rfl := Option.some.inj H; obtain ⟨Vl, Vm, Vn, Vo, Vp, Vq, Vr, Vs, Vu, Vv⟩ := bz iC.out; have BB : 0 ≤ (0 : Int) := (by omega); have BC : 0 < (af.length : Int) := dt_; obtain ⟨JQ, IW, IX, e286, qH, qI, qJ, qK, qL, xm, xn⟩ := ib cz.out 0 BB BC; cases e286; have qi286 : (0 < af.length) = True := eq_true (by omega); (try simp only [z0_, Nat.zero_mul, Addr.add_zero'] at qH qI qJ qK qL)
                  replace qH := hc_ HB qH; replace qI := hc_ HB qI; replace qJ := hc_ HB qJ; replace qK := hc_ HB qK; replace qL := hc_ HB qL; have EG := aa.mk xn; have EH := aa.mk xm; clear xn xm; replace BB := eq_true BB; replace BC := eq_true BC; go_wp2_with (first | ((with_reducible refine aC (f := 46) rfl ?_); refine aX (some 126) rfl rfl Tryd.func46 (by kernel_rfl) rfl #[.agg #[.int .i64 ((ah af 0).f0), .int .i64 ((ah af 0).f1), .int .i64 ((ah af 0).f2), .int .i64 ((ah af 0).f3), .slice IW ((ah af 0).f4).length IX]] rfl mp_ ?_; (with_reducible refine (ih kj63 (by have := HJ1.out; have := HJ6.out; have := HJ63.out; omega) ((ah af 0).f0) ((ah af 0).f1) ((ah af 0).f2) ((ah af 0).f3) _ _ ((ah af 0).f4) IQ _ ?ay ?az A71.out).mono ?_); (case ay => exact cb_ (Kd.bB EG.out HB.out)); (case az => exact EH.out); rintro e w79 ⟨rfl, hb⟩; refine ⟨_, rfl, ?_⟩; replace iC := kb_ iC hb; replace HB := aa.mk (ai bl_ hb); (try clear hb); (try clear hb2); (try clear hk); (try clear hi); obtain ⟨hcz80_0, hcz80_1, hcz80_2, hcz80_3, hcz80_4, hfz80_0, hfz80_1, hfz80_2, hfz80_3, hfz80_4⟩ := bz iC.out; have IY : 0 ≤ (0 : Int) := (by omega); have IZ : 0 < (af.length : Int) := dt_; obtain ⟨PX, A288_4, c288_4, e288, xq, xu, xw, xx, tN, Db, Dc⟩ := ib cz.out 0 IY IZ; obtain rfl : JQ = PX := (by injection e288); have qi288 : (0 < af.length) = True := eq_true (by omega); (try simp only [z0_, Nat.zero_mul, Addr.add_zero'] at xq); (try simp only [z0_, Nat.zero_mul, Addr.add_zero'] at xu); (try simp only [z0_, Nat.zero_mul, Addr.add_zero'] at xw); (try simp only [z0_, Nat.zero_mul, Addr.add_zero'] at xx); (try simp only [z0_, Nat.zero_mul, Addr.add_zero'] at tN); replace xq := hc_ HB xq; replace xu := hc_ HB xu; replace xw := hc_ HB xw; replace xx := hc_ HB xx; replace tN := hc_ HB tN; have Xd := aa.mk Dc; have Xe := aa.mk Db; clear Dc Db; replace IY := eq_true IY; replace IZ := eq_true IZ; have p289 : 0 ≤ (0 : Int) := (by omega); have q289 : 0 < (af.length : Int) := dt_; obtain ⟨ad289, A289_4, c289_4, e289, EI, EJ, EK, EL, AR, Lh, Li⟩ := ib cz.out 0 p289 q289; obtain rfl : JQ = ad289 := (by injection e289); have qi289 : (0 < af.length) = True := eq_true (by omega); (try simp only [z0_, Nat.zero_mul, Addr.add_zero'] at EI); (try simp only [z0_, Nat.zero_mul, Addr.add_zero'] at EJ); (try simp only [z0_, Nat.zero_mul, Addr.add_zero'] at EK); (try simp only [z0_, Nat.zero_mul, Addr.add_zero'] at EL); (try simp only [z0_, Nat.zero_mul, Addr.add_zero'] at AR); replace EI := hc_ HB EI; replace EJ := hc_ HB EJ; replace EK := hc_ HB EK; replace EL := hc_ HB EL; replace AR := hc_ HB AR; have HR289_4 := aa.mk Li; have HC289_4 := aa.mk Lh; clear Li Lh; replace p289 := eq_true p289; replace q289 := eq_true q289; have ea_ := Option.some.inj (tN.symm.trans AR); injection ea_ with ea_ en_ ec_; subst ea_; subst ec_; clear en_))
                  go_ret; exact ⟨re_, bl_⟩
                 ·rw [if_neg c77] at H; obtain ⟨c77b0, c77b1⟩ := bn_ c77; obtain rfl := Option.some.inj H; obtain ⟨hcz81_0, hcz81_1, hcz81_2, hcz81_3, hcz81_4, hfz81_0, hfz81_1, hfz81_2, hfz81_3, hfz81_4⟩ := bz iC.out; have BB : 0 ≤ (0 : Int) := (by omega); have BC : 0 < (af.length : Int) := dt_; obtain ⟨JQ, IW, IX, e286, qH, qI, qJ, qK, qL, xm, xn⟩ := ib cz.out 0 BB BC; cases e286; have qi286 : (0 < af.length) = True := eq_true (by omega); (try simp only [z0_, Nat.zero_mul, Addr.add_zero'] at qH qI qJ qK qL)
                  replace qH := hc_ HB qH; replace qI := hc_ HB qI; replace qJ := hc_ HB qJ; replace qK := hc_ HB qK; replace qL := hc_ HB qL; have EG := aa.mk xn; have EH := aa.mk xm; clear xn xm; replace BB := eq_true BB; replace BC := eq_true BC; go_wp2_with (first | ((with_reducible refine aC (f := 46) rfl ?_); refine aX (some 126) rfl rfl Tryd.func46 (by kernel_rfl) rfl #[.agg #[.int .i64 ((ah af 0).f0), .int .i64 ((ah af 0).f1), .int .i64 ((ah af 0).f2), .int .i64 ((ah af 0).f3), .slice IW ((ah af 0).f4).length IX]] rfl mp_ ?_; (with_reducible refine (ih kj63 (by have := HJ1.out; have := HJ6.out; have := HJ63.out; omega) ((ah af 0).f0) ((ah af 0).f1) ((ah af 0).f2) ((ah af 0).f3) _ _ ((ah af 0).f4) IQ _ ?ay ?az A71.out).mono ?_); (case ay => exact cb_ (Kd.bB EG.out HB.out)); (case az => exact EH.out); rintro e w82 ⟨rfl, hb⟩; refine ⟨_, rfl, ?_⟩; replace iC := kb_ iC hb; replace HB := aa.mk (ai bl_ hb); (try clear hb); (try clear hb2); (try clear hk); (try clear hi); obtain ⟨hcz83_0, hcz83_1, hcz83_2, hcz83_3, hcz83_4, hfz83_0, hfz83_1, hfz83_2, hfz83_3, hfz83_4⟩ := bz iC.out; have IY : 0 ≤ (0 : Int) := (by omega); have IZ : 0 < (af.length : Int) := dt_; obtain ⟨PX, A288_4, c288_4, e288, xq, xu, xw, xx, tN, Db, Dc⟩ := ib cz.out 0 IY IZ; obtain rfl : JQ = PX := (by injection e288); have qi288 : (0 < af.length) = True := eq_true (by omega); (try simp only [z0_, Nat.zero_mul, Addr.add_zero'] at xq); (try simp only [z0_, Nat.zero_mul, Addr.add_zero'] at xu); (try simp only [z0_, Nat.zero_mul, Addr.add_zero'] at xw); (try simp only [z0_, Nat.zero_mul, Addr.add_zero'] at xx); (try simp only [z0_, Nat.zero_mul, Addr.add_zero'] at tN); replace xq := hc_ HB xq; replace xu := hc_ HB xu; replace xw := hc_ HB xw; replace xx := hc_ HB xx; replace tN := hc_ HB tN; have Xd := aa.mk Dc; have Xe := aa.mk Db; clear Dc Db; replace IY := eq_true IY; replace IZ := eq_true IZ; have p289 : 0 ≤ (0 : Int) := (by omega); have q289 : 0 < (af.length : Int) := dt_; obtain ⟨ad289, A289_4, c289_4, e289, EI, EJ, EK, EL, AR, Lh, Li⟩ := ib cz.out 0 p289 q289; obtain rfl : JQ = ad289 := (by injection e289); have qi289 : (0 < af.length) = True := eq_true (by omega); (try simp only [z0_, Nat.zero_mul, Addr.add_zero'] at EI); (try simp only [z0_, Nat.zero_mul, Addr.add_zero'] at EJ); (try simp only [z0_, Nat.zero_mul, Addr.add_zero'] at EK); (try simp only [z0_, Nat.zero_mul, Addr.add_zero'] at EL); (try simp only [z0_, Nat.zero_mul, Addr.add_zero'] at AR); replace EI := hc_ HB EI; replace EJ := hc_ HB EJ; replace EK := hc_ HB EK; replace EL := hc_ HB EL; replace AR := hc_ HB AR; have HR289_4 := aa.mk Li; have HC289_4 := aa.mk Lh; clear Li Lh; replace p289 := eq_true p289; replace q289 := eq_true q289; have ea_ := Option.some.inj (tN.symm.trans AR); injection ea_ with ea_ en_ ec_; subst ea_; subst ec_; clear en_))
                  go_ret; exact ⟨re_, bl_⟩
               ·rw [if_neg c72] at H; obtain ⟨c72b0, c72b1⟩ := bn_ c72; obtain rfl := Option.some.inj H; obtain ⟨hcz84_0, hcz84_1, hcz84_2, hcz84_3, hcz84_4, hfz84_0, hfz84_1, hfz84_2, hfz84_3, hfz84_4⟩ := bz iC.out; have BB : 0 ≤ (0 : Int) := (by omega); have BC : 0 < (af.length : Int) := dt_; obtain ⟨JQ, IW, IX, e286, qH, qI, qJ, qK, qL, xm, xn⟩ := ib cz.out 0 BB BC; cases e286; have qi286 : (0 < af.length) = True := eq_true (by omega); (try simp only [z0_, Nat.zero_mul, Addr.add_zero'] at qH qI qJ qK qL)
                replace qH := hc_ HB qH; replace qI := hc_ HB qI; replace qJ := hc_ HB qJ; replace qK := hc_ HB qK; replace qL := hc_ HB qL; have EG := aa.mk xn; have EH := aa.mk xm; clear xn xm; replace BB := eq_true BB; replace BC := eq_true BC; go_wp2_with (first | ((with_reducible refine aC (f := 46) rfl ?_); refine aX (some 126) rfl rfl Tryd.func46 (by kernel_rfl) rfl #[.agg #[.int .i64 ((ah af 0).f0), .int .i64 ((ah af 0).f1), .int .i64 ((ah af 0).f2), .int .i64 ((ah af 0).f3), .slice IW ((ah af 0).f4).length IX]] rfl mp_ ?_; (with_reducible refine (ih kj63 (by have := HJ1.out; have := HJ6.out; have := HJ63.out; omega) ((ah af 0).f0) ((ah af 0).f1) ((ah af 0).f2) ((ah af 0).f3) _ _ ((ah af 0).f4) IQ _ ?ay ?az A71.out).mono ?_); (case ay => exact cb_ (Kd.bB EG.out HB.out)); (case az => exact EH.out); rintro e w85 ⟨rfl, hb⟩; refine ⟨_, rfl, ?_⟩; replace iC := kb_ iC hb; replace HB := aa.mk (ai bl_ hb); (try clear hb); (try clear hb2); (try clear hk); (try clear hi)))
                go_ret; exact ⟨re_, bl_⟩
              ·rw [if_neg c70] at H; exact absurd H (by simp)
             ·rw [if_neg c69] at H; obtain ⟨JH, c69b1⟩ := bn_ c69; obtain rfl := Option.some.inj H; obtain ⟨hcz86_0, hcz86_1, hcz86_2, hcz86_3, hcz86_4, hfz86_0, hfz86_1, hfz86_2, hfz86_3, hfz86_4⟩ := bz iC.out; go_wp2; go_ret; exact ⟨re_, bl_⟩
         ·rw [if_neg c63] at H; obtain ⟨c63b0, c63b1⟩ := bn_ c63; obtain rfl := Option.some.inj H; go_wp2; go_ret; exact ⟨re_, bl_⟩

end Go.Proofs.YtggelekooacmnaaDoor.Q
namespace Go.Proofs.YtggelekooacmnaaDoor.Q
open Go.RowKit Go.Proofs.YtggelekooacmnaaDoorW.bg Go.Proofs.YtggelekooacmnaaDoorW.bW Go.Proofs.YtggelekooacmnaaDoorW.dh
attribute [local go_sem] fE fF gy gz eO eP fG fH   -- for this text's walks alone
set_option linter.unusedVariables false
set_option linter.unusedSimpArgs false

/-! ### bq: function 47 -/
mutual
def bq.j0 : Nat → Int → Bool → Int → Int → Int → Int → List (S24) → Option ((List (S41)))
 | 0, _, _, _, _, _, _, _ => none
 | k + 1, x8, x21, EM, Ik, Il, De, nJ => if x21 = true then (some (([(⟨EM, 0, 0⟩ : S41)] : List (S41)))) else (if x8 = 6 then (bq.l0 k (([(⟨2, 0, De⟩ : S41)] : List (S41))) 0 EM Ik Il De nJ) else (bq.l1 k ([] : List (S41)) 0 EM Ik Il De nJ))
def bq.l0 : Nat → List (S41) → Int → Int → Int → Int → Int → List (S24) → Option ((List (S41)))
 | 0, _, _, _, _, _, _, _ => none
 | k + 1, x3, x4, EM, Ik, Il, De, nJ => if x4 < De then (if 0 < (nJ.length : Int) then ((bq.f k ((ah nJ 0).f0) ((ah nJ 0).f1) ((ah nJ 0).f2) ((ah nJ 0).f3) ((ah nJ 0).f4)).bind fun t304 => (if x3.length + t304.length < 5864062014805 then (bq.l0 k (x3 ++ t304) (wrap64 (x4 + 1)) EM Ik Il De nJ) else (none))) else (none)) else (some x3)
def bq.l1 : Nat → List (S41) → Int → Int → Int → Int → Int → List (S24) → Option ((List (S41)))
 | 0, _, _, _, _, _, _, _ => none
 | k + 1, x5, x6, EM, Ik, Il, De, nJ => if x6 < (nJ.length : Int) then (if 0 ≤ x6 then ((bq.f k ((ah nJ x6).f0) ((ah nJ x6).f1) ((ah nJ x6).f2) ((ah nJ x6).f3) ((ah nJ x6).f4)).bind fun t311 => (if x5.length + t311.length < 5864062014805 then (bq.l1 k (x5 ++ t311) (wrap64 (x6 + 1)) EM Ik Il De nJ) else (none))) else (none)) else (some x5)
def bq.f : Nat → Int → Int → Int → Int → List (S24) → Option ((List (S41)))
 | 0, _, _, _, _, _ => none
 | k + 1, aj, av, ak, au, af => if aj = 1 then (some (([(⟨1, 0, 1⟩ : S41)] : List (S41)))) else (if aj = 2 then (some (([(⟨2, av, ak⟩ : S41)] : List (S41)))) else (if aj = 3 then (bq.j0 k aj (aj == 3) aj av ak au af) else (bq.j0 k aj (aj == 4) aj av ak au af)))
end
set_option maxHeartbeats 8000000 in
set_option maxRecDepth 100000 in
theorem bq.calls (k : Nat) : ∀ (aj : Int) (av : Int) (ak : Int) (au : Int) (bA : Option Addr) (aZ : Nat) (af : List (S24)) (r : List (S41)) (w : World) (fK : Kd.C k24 w bA af.length af) (fM : af.length ≤ aZ) (h : bq.f k aj av ak au af = some r),
  Calls Tryd.prog 47 #[.agg #[.int .i64 aj, .int .i64 av, .int .i64 ak, .int .i64 au, .slice bA af.length aZ]] w fun e w' => ∃ v0_ : Value, e = .returned (v0_) ∧ Kd.R k41 41 w' w.heap.size (fun _ => True) v0_ r ∧ Below w.heap.size w w' := by
 induction k using Nat.strongRecOn with
 | _ k ih =>
 intro aj av ak au bA aZ af r w fK fM h; cases k with
 | zero => exact absurd h (by simp [bq.f])
 | succ k =>
 simp only [bq.f] at h; have qb := Tryd.underlying24; have hu41 := Tryd.underlying41; have cz := aa.mk fK; have eZ := aa.mk fM; clear fK fM; have HB := aa.mk (Below.refl w.heap.size w); have H : (if aj = 1 then (some (([(⟨1, 0, 1⟩ : S41)] : List (S41)))) else (if aj = 2 then (some (([(⟨2, av, ak⟩ : S41)] : List (S41)))) else (if aj = 3 then (bq.j0 k aj (aj == 3) aj av ak au af) else (bq.j0 k aj (aj == 4) aj av ak au af)))) = some r := h; clear h; by_cases c2 : aj = 1
 ·rw [if_pos c2] at H; obtain ⟨lv, oH⟩ := bq_ c2; clear c2; obtain ⟨y291, PY⟩ : ∃ y_ : List (S41), y_ = (([(⟨1, 0, 1⟩ : S41)] : List (S41))) := ⟨_, rfl⟩; replace H : (some y291) = some r := by first | (rw [PY]; with_reducible exact H) | (have H2_ := (Option.bind_some _ _).symm.trans H; rw [PY]; with_reducible exact H2_) | (have H2_ := (Option.bind_some _ _).symm.trans H; with_reducible exact H2_) | with_reducible exact H | (rw [PY]; exact H) | exact H
  have Ny291 := aa.mk PY; clear PY; obtain rfl := Option.some.inj H; go_enter Tryd.func47, Tryd.ntmps47; go_wp2_with (first | ((with_reducible refine aU (N := 1) rfl ?_); refine aY ?hg (N := 1) ?hd (cs := #[.int .i64 aj, .int .i64 av, .int .i64 ak, .int .i64 au, .slice bA af.length aZ]) (t := 24) ?hr ?_; (case hd => rfl); (case hg => rfl); (case hr => first | (go_simp; done) | (go_simp; rfl)); intro Fs hg w3 aK hb; have lT := aa.mk (aK); have PZ : aa (w.heap.size ≤ Fs) := gw_ hg (ax bl_); have GE290 := PZ; replace HB := aa.mk (ai bl_ hb); clear hb aK hg; obtain ⟨lC, lD, lF, lG, lH, lI, lJ, lK, lL, lM⟩ := bz lT.out) | ((with_reducible refine aU (N := 12) rfl ?_); refine Kd.oD k41 _ 41 ?hg (N := 12) ?hd (xs := ([(⟨1, 0, 1⟩ : S41)] : List (S41))) (inner := [.int .i64 1, .int .i64 0, .int .i64 1]) (ok := fun _ => True) (okp := fun _ => True) ?hr ?hp (fun _ hk => hk) trivial (Below.refl _ _) (Nat.le_refl _) (by simp) ?_; (case hd => rfl); (case hg => rfl); (case hr => first | (go_simp; done) | (go_simp; rfl)); (case hp => exact (dN.c3 (show Kd.M k41 _ _ _ (⟨1, 0, 1⟩ : S41) [.int .i64 1, .int .i64 0, .int .i64 1] from (BL _ _ _ (⟨1, 0, 1⟩ : S41) )) (dN.none _ _))); intro v292 w5 ho6 hb hg_ ig; clear hg_ ig; (first | rw [← Ny291.out] at ho6 | (simp only [Int.reduceToNat] at ho6; rw [← Ny291.out] at ho6)); have HO293 := aa.mk (Kd.bV ho6 (ax bl_)); replace lT := kb_ lT hb; replace HB := aa.mk (ai bl_ hb); clear hb ho6))
  go_ret; exact ⟨_, re_, pR_ HO293.out, bl_⟩
 ·rw [if_neg c2] at H; obtain ⟨lv, oH⟩ := bn_ c2; by_cases c7 : aj = 2
  ·rw [if_pos c7] at H; obtain ⟨mO, zk⟩ := bq_ c7; clear c7; obtain ⟨y294, P5⟩ : ∃ y_ : List (S41), y_ = (([(⟨2, av, ak⟩ : S41)] : List (S41))) := ⟨_, rfl⟩; replace H : (some y294) = some r := by first | (rw [P5]; with_reducible exact H) | (have H2_ := (Option.bind_some _ _).symm.trans H; rw [P5]; with_reducible exact H2_) | (have H2_ := (Option.bind_some _ _).symm.trans H; with_reducible exact H2_) | with_reducible exact H | (rw [P5]; exact H) | exact H
   have Ny294 := aa.mk P5; clear P5; obtain rfl := Option.some.inj H; go_enter Tryd.func47, Tryd.ntmps47; go_wp2_with (first | ((with_reducible refine aU (N := 1) rfl ?_); refine aY ?hg (N := 1) ?hd (cs := #[.int .i64 aj, .int .i64 av, .int .i64 ak, .int .i64 au, .slice bA af.length aZ]) (t := 24) ?hr ?_; (case hd => rfl); (case hg => rfl); (case hr => first | (go_simp; done) | (go_simp; rfl)); intro Fs hg w8 aK hb; have lT := aa.mk (aK); have PZ : aa (w.heap.size ≤ Fs) := gw_ hg (ax bl_); have GE290 := PZ; replace HB := aa.mk (ai bl_ hb); clear hb aK hg; obtain ⟨Dv, Dw, Dx, FC, FD, Dy, Dz, DC, FE, FH⟩ := bz lT.out) | ((with_reducible refine aU (N := 20) rfl ?_); refine Kd.oD k41 _ 41 ?hg (N := 20) ?hd (xs := ([(⟨2, av, ak⟩ : S41)] : List (S41))) (inner := [.int .i64 2, .int .i64 av, .int .i64 ak]) (ok := fun _ => True) (okp := fun _ => True) ?hr ?hp (fun _ hk => hk) trivial (Below.refl _ _) (Nat.le_refl _) (by simp) ?_; (case hd => rfl); (case hg => rfl); (case hr => first | (go_simp; done) | (go_simp; rfl)); (case hp => exact (dN.c3 (show Kd.M k41 _ _ _ (⟨2, av, ak⟩ : S41) [.int .i64 2, .int .i64 av, .int .i64 ak] from (BL _ _ _ (⟨2, av, ak⟩ : S41) )) (dN.none _ _))); intro v295 w10 FY hb hg_ ig; clear hg_ ig; (first | rw [← Ny294.out] at FY | (simp only [Int.reduceToNat] at FY; rw [← Ny294.out] at FY)); have HO296 := aa.mk (Kd.bV FY (ax bl_)); replace lT := kb_ lT hb; replace HB := aa.mk (ai bl_ hb); clear hb FY))
   go_ret; exact ⟨_, re_, pR_ HO296.out, bl_⟩
  ·rw [if_neg c7] at H; obtain ⟨mO, zk⟩ := bn_ c7; have HC12 := aa.mk H; clear H; go_enter Tryd.func47, Tryd.ntmps47; go_upto_if 21 with (first | ((with_reducible refine aU (N := 1) rfl ?_); refine aY ?hg (N := 1) ?hd (cs := #[.int .i64 aj, .int .i64 av, .int .i64 ak, .int .i64 au, .slice bA af.length aZ]) (t := 24) ?hr ?_; (case hd => rfl); (case hg => rfl); (case hr => first | (go_simp; done) | (go_simp; rfl)); intro Fs hg w13 aK hb; have lT := aa.mk (aK); have PZ : aa (w.heap.size ≤ Fs) := gw_ hg (ax bl_); have GE290 := PZ; replace HB := aa.mk (ai bl_ hb); clear hb aK hg; obtain ⟨mr, mD, mE, mF, mG, mH, mI, mJ, mK, mM⟩ := bz lT.out))
   (try simp only [Act.put, List.setIfInBounds_toArray, List.set_cons_zero, List.set_cons_succ])
   go_cut [21] (fun v21 wc => ∃ (kq : Nat) (P6 : Bool), v21 = .bool P6 ∧ aa (bq.j0 kq aj P6 aj av ak au af = some r) ∧ aa (kq ≤ k) ∧ aa (wc.heap[Fs]? = some (.cells #[.int .i64 aj, .int .i64 av, .int .i64 ak, .int .i64 au, (.slice bA af.length aZ)] 24 (0, 0))) ∧ aa (Below w.heap.size w wc))
   case first =>
    have H := HC12.out; clear HC12; by_cases c15 : aj = 3
    ·rw [if_pos c15] at H; obtain ⟨yR, JE⟩ := bq_ c15; clear c15; (first | rw [yR] | (simp only [eT, fA]; rw [yR]) | skip)
     have H' := aa.mk H; clear H; go_wp2; go_meet
     case rel => exact ⟨_, ((aj == 3)), rs_, H', ⟨by first | omega | exact Nat.le_refl _⟩, ⟨bk_⟩, ⟨bl_⟩⟩
    ·rw [if_neg c15] at H; obtain ⟨yR, JE⟩ := bn_ c15; (first | rw [yR] | (simp only [eT, fA]; rw [yR]) | skip)
     have H' := aa.mk H; clear H; go_wp2; go_meet
     case rel => exact ⟨_, ((aj == 4)), rs_, H', ⟨by first | omega | exact Nat.le_refl _⟩, ⟨bk_⟩, ⟨bl_⟩⟩
   case rest =>
    clear HC12; (try clear c1); (try clear c2); (try clear lv); (try clear oH); (try clear p2); (try clear c3); (try clear c4); (try clear c7); (try clear mO); (try clear zk); (try clear c15); (try clear yR); (try clear JE); (try clear mr mD mE mF mG mH mI mJ mK mM); (try clear lC lD lF lG lH lI lJ lK lL lM); (try clear Dv Dw Dx FC FD Dy Dz DC FE FH); obtain ⟨kq, P6, rfl, HA, HJ11, lT, HB⟩ := hcut; cases kq with
    | zero => exact absurd HA.out (by simp [bq.j0])
    | succ kj11 =>
     have H := HA.out; clear HA; simp only [bq.j0] at H; by_cases c16 : P6 = true
     ·subst c16; have H1 : (some (([(⟨aj, 0, 0⟩ : S41)] : List (S41)))) = some r := by rw [if_pos rfl] at H; exact H
      clear H; have H := H1; clear H1; obtain ⟨y297, P7⟩ : ∃ y_ : List (S41), y_ = (([(⟨aj, 0, 0⟩ : S41)] : List (S41))) := ⟨_, rfl⟩; replace H : (some y297) = some r := by first | (rw [P7]; with_reducible exact H) | (have H2_ := (Option.bind_some _ _).symm.trans H; rw [P7]; with_reducible exact H2_) | (have H2_ := (Option.bind_some _ _).symm.trans H; with_reducible exact H2_) | with_reducible exact H | (rw [P7]; exact H) | exact H
      have Ny297 := aa.mk P7; clear P7; obtain rfl := Option.some.inj H; obtain ⟨rT, rU, rV, rW, rX, rY, rZ, r9, si, sj⟩ := bz lT.out; go_wp2_with (first | ((with_reducible refine aU (N := 27) rfl ?_); refine Kd.oD k41 _ 41 ?hg (N := 27) ?hd (xs := ([(⟨aj, 0, 0⟩ : S41)] : List (S41))) (inner := [.int .i64 aj, .int .i64 0, .int .i64 0]) (ok := fun _ => True) (okp := fun _ => True) ?hr ?hp (fun _ hk => hk) trivial (Below.refl _ _) (Nat.le_refl _) (by simp) ?_; (case hd => rfl); (case hg => rfl); (case hr => first | (go_simp; done) | (go_simp; rfl)); (case hp => exact (dN.c3 (show Kd.M k41 _ _ _ (⟨aj, 0, 0⟩ : S41) [.int .i64 aj, .int .i64 0, .int .i64 0] from (BL _ _ _ (⟨aj, 0, 0⟩ : S41) )) (dN.none _ _))); intro v298 w18 ho19 hb hg_ ig; clear hg_ ig; (first | rw [← Ny297.out] at ho19 | (simp only [Int.reduceToNat] at ho19; rw [← Ny297.out] at ho19)); have HO299 := aa.mk (Kd.bV ho19 (ax bl_)); replace lT := kb_ lT hb; replace HB := aa.mk (ai bl_ hb); clear hb ho19))
      go_ret; exact ⟨_, re_, pR_ HO299.out, bl_⟩
     ·replace c16 := Bool.eq_false_iff.mpr c16; subst c16; have H1 : (if aj = 6 then (bq.l0 kj11 (([(⟨2, 0, au⟩ : S41)] : List (S41))) 0 aj av ak au af) else (bq.l1 kj11 ([] : List (S41)) 0 aj av ak au af)) = some r := by rw [if_neg (show ¬ (false = true) by decide)] at H; exact H
      clear H; have H := H1; clear H1; by_cases c20 : aj = 6
      ·rw [if_pos c20] at H; obtain ⟨vN, Gl⟩ := bq_ c20; clear c20; obtain ⟨y300, P8⟩ : ∃ y_ : List (S41), y_ = (([(⟨2, 0, au⟩ : S41)] : List (S41))) := ⟨_, rfl⟩; replace H : (bq.l0 kj11 y300 0 aj av ak au af) = some r := by first | (rw [P8]; with_reducible exact H) | (have H2_ := (Option.bind_some _ _).symm.trans H; rw [P8]; with_reducible exact H2_) | (have H2_ := (Option.bind_some _ _).symm.trans H; with_reducible exact H2_) | with_reducible exact H | (rw [P8]; exact H) | exact H
       have Ny300 := aa.mk P8; clear P8; have H' := aa.mk H; clear H; obtain ⟨mP, mQ, mR, qC, qD, mU, mV, mW, qE, qF⟩ := bz lT.out; go_wp2_with (first | ((with_reducible refine aU (N := 33) rfl ?_); refine Kd.oD k41 _ 41 ?hg (N := 33) ?hd (xs := ([(⟨2, 0, au⟩ : S41)] : List (S41))) (inner := [.int .i64 2, .int .i64 0, .int .i64 au]) (ok := fun _ => True) (okp := fun _ => True) ?hr ?hp (fun _ hk => hk) trivial (Below.refl _ _) (Nat.le_refl _) (by simp) ?_; (case hd => rfl); (case hg => rfl); (case hr => first | (go_simp; done) | (go_simp; rfl)); (case hp => exact (dN.c3 (show Kd.M k41 _ _ _ (⟨2, 0, au⟩ : S41) [.int .i64 2, .int .i64 0, .int .i64 au] from (BL _ _ _ (⟨2, 0, au⟩ : S41) )) (dN.none _ _))); intro v301 w22 zi hb hg_ ig; clear hg_ ig; (first | rw [← Ny300.out] at zi | (simp only [Int.reduceToNat] at zi; rw [← Ny300.out] at zi)); have HO302 := aa.mk (Kd.bV zi (ax bl_)); replace lT := kb_ lT hb; replace HB := aa.mk (ai bl_ hb); clear hb zi))
       go_loopg [3, 4] kj11 (fun kq v3 v4 w' => ∃ (sK : List (S41)) (Eu : Int), v4 = .int .i64 Eu ∧ aa (bq.l0 kq sK Eu aj av ak au af = some r) ∧ aa (kq ≤ kj11) ∧ aa (Kd.R k41 41 w' w.heap.size (fun _ => True) v3 sK) ∧ aa (w'.heap[Fs]? = some (.cells #[.int .i64 aj, .int .i64 av, .int .i64 ak, .int .i64 au, (.slice bA af.length aZ)] 24 (0, 0))) ∧ aa (Below w.heap.size w w'))
       case atStart => exact ⟨(y300), (0), rs_, H', ⟨Nat.le_refl _⟩, ⟨pR_ HO302.out⟩, ⟨bk_⟩, ⟨bl_⟩⟩
       case round =>
        clear H'; (try clear c1); (try clear c2); (try clear lv); (try clear oH); (try clear p2); (try clear c3); (try clear c4); (try clear c7); (try clear mO); (try clear zk); (try clear c15); (try clear yR); (try clear JE); (try clear c16); (try clear c20); (try clear vN); (try clear Gl); (try clear mr mD mE mF mG mH mI mJ mK mM); (try clear rT rU rV rW rX rY rZ r9 si sj); (try clear mP mQ mR qC qD mU mV mW qE qF); (try clear lC lD lF lG lH lI lJ lK lL lM); (try clear Dv Dw Dx FC FD Dy Dz DC FE FH); (try clear p2); obtain ⟨sK, Eu, rfl, HA, HK2, kJ, lT, HB⟩ := hrel; cases gk with
        | zero => exact absurd HA.out (by simp [bq.l0])
        | succ k2 =>
         have H := HA.out; clear HA; simp only [bq.l0] at H; by_cases c24 : Eu < au
         ·rw [if_pos c24] at H; have yS := decide_eq_true c24; clear c24; by_cases c25 : 0 < (af.length : Int)
          ·rw [if_pos c25] at H; have JF := decide_eq_true c25; have JG : decide (0 < af.length) = true := decide_eq_true (by omega); clear c25; replace H := Option.bind_eq_some_iff.mp H; obtain ⟨t304, A260, H⟩ := H; (try dsimp only at H)
           have A26 := aa.mk A260; clear A260; by_cases c27 : sK.length + t304.length < 5864062014805
           ·rw [if_pos c27] at H; have LMc27 := aa.mk c27; clear c27; obtain ⟨y307, P9⟩ : ∃ y_ : List (S41), y_ = (sK ++ t304) := ⟨_, rfl⟩; replace H : (bq.l0 k2 y307 (wrap64 (Eu + 1)) aj av ak au af) = some r := by first | (rw [P9]; with_reducible exact H) | (have H2_ := (Option.bind_some _ _).symm.trans H; rw [P9]; with_reducible exact H2_) | (have H2_ := (Option.bind_some _ _).symm.trans H; with_reducible exact H2_) | with_reducible exact H | (rw [P9]; exact H) | exact H
            have Ny307 := aa.mk P9; clear P9; have H' := aa.mk H; clear H; obtain ⟨uD, uE, uF, uG, uH, uI, uJ, uK, uL, uM⟩ := bz lT.out; have p303 : 0 ≤ (0 : Int) := (by omega); have q303 : 0 < (af.length : Int) := dt_; obtain ⟨ad303, A303_4, c303_4, e303, N7, N8, N9, Oa, Ob, Xf, Xg⟩ := ib cz.out 0 p303 q303; cases e303; have qi303 : (0 < af.length) = True := eq_true (by omega); (try simp only [z0_, Nat.zero_mul, Addr.add_zero'] at N7 N8 N9 Oa Ob)
            replace N7 := hc_ HB N7; replace N8 := hc_ HB N8; replace N9 := hc_ HB N9; replace Oa := hc_ HB Oa; replace Ob := hc_ HB Ob; have HR303_4 := aa.mk Xg; have HC303_4 := aa.mk Xf; clear Xg Xf; replace p303 := eq_true p303; replace q303 := eq_true q303; go_wp2_with (first | ((with_reducible refine aC (f := 47) rfl ?_); refine aX (some 45) rfl rfl Tryd.func47 (by kernel_rfl) rfl #[.agg #[.int .i64 ((ah af 0).f0), .int .i64 ((ah af 0).f1), .int .i64 ((ah af 0).f2), .int .i64 ((ah af 0).f3), .slice A303_4 ((ah af 0).f4).length c303_4]] rfl mp_ ?_; (with_reducible refine (ih k2 (by have := HJ11.out; have := HK2.out; omega) ((ah af 0).f0) ((ah af 0).f1) ((ah af 0).f2) ((ah af 0).f3) _ _ ((ah af 0).f4) t304 _ ?ay ?az A26.out).mono ?_); (case ay => exact cb_ (Kd.bB HR303_4.out HB.out)); (case az => exact HC303_4.out); rintro e w29 ⟨v305, rfl, ho0, hb⟩; refine ⟨_, rfl, ?_⟩; have Qa := aa.mk (Kd.bV (Kd.eD ho0 (Kd.gF (pR_ kJ.out))) (ax bl_)); replace kJ := aa.mk (Kd.eF (pR_ kJ.out) (Kd.cO ho0) hb); replace lT := kb_ lT hb; replace HB := aa.mk (ai bl_ hb); (try clear hb); (try clear hb2); (try clear hk); (try clear hi); (try clear ho0); obtain ⟨Ao31, co31, eo31⟩ := Kd.df Qa.out; subst eo31) | ((with_reducible refine qY (b := .append) (xs := #[.tmp 40, .tmp 45]) rfl ?_); at_builtin; refine Kd.uw k41 (w0 := w) w.heap.size rfl (.tmp 40) (.tmp 45) 37 41 (.agg #[(.int .i64 0), (.int .i64 0), (.int .i64 0)]) 24 rfl Tryd.underlying37 O8 rfl (by decide) (by omega) u3 sK t304 _ _ _ (fun k_ => some k_ ≠ (.slice Ao31 t304.length co31 : Value).ownBlock) (fun _ => False) rfl rfl ?aO ?aR (fun _ _ h => h) (fun _ h => h.elim) ?aF ?aB ?aS ?aL ?_; (case aR => exact cb_ ((Kd.bu Qa.out).2.2)); (case aB => exact bl_); (case aF => exact (fun k_ hk => Kd.fresh' (Kd.gF (pR_ Qa.out)) k_ hk)); (case aO => exact (by (with_reducible repeat (first | apply Kd.dx | apply Kd.dz | apply Kd.dH)); exact Kd.cK kJ.out (fun _ hk => hk.2))); (case aS => exact (ax bl_)); (case aL => have := LMc27.out; omega); intro v308 w30 ho hb hg hat; rw [← Ny307.out] at ho; have HO309 := aa.mk (ho); replace lT := aa.mk (nC (g := Fs) (o := .cells #[.int .i64 aj, .int .i64 av, .int .i64 ak, .int .i64 au, .slice (some ad303) af.length aZ] 24 (0, 0)) bk_ hg (Kd.R_ne kJ.out lT.out (by decide))); replace Qa := aa.mk (Kd.Gy (ok := (fun _ => True)) (pR_ Qa.out) hg hat); replace HB := aa.mk (hb); clear kJ; clear ho hb hg hat))
            go_roundg k2
            case measure => have := HJ11.out; have := HK2.out; omega
            case rel => exact ⟨(y307), (wrap64 (Eu + 1)), rs_, H', ⟨by have := HJ11.out; have := HK2.out; omega⟩, ⟨by (with_reducible repeat (first | apply Kd.dx | apply Kd.dz | apply Kd.dH)); exact Kd.cK HO309.out (fun _ hk => trivial)⟩, ⟨bk_⟩, ⟨bl_⟩⟩
           ·rw [if_neg c27] at H; exact absurd H (by simp)
          ·rw [if_neg c25] at H; exact absurd H (by simp)
         ·rw [if_neg c24] at H; have yS := decide_eq_false c24; clear c24; obtain rfl := Option.some.inj H; obtain ⟨GL, GM, GN, GQ, GR, GU, GV, GX, GY, GZ⟩ := bz lT.out; go_wp2; go_ret; exact ⟨_, re_, pR_ kJ.out, bl_⟩
      ·rw [if_neg c20] at H; obtain ⟨vN, Gl⟩ := bn_ c20; have H' := aa.mk H; clear H; go_wp2; go_loopg [5, 6] kj11 (fun kq v5 v6 w' => ∃ (dZ : List (S41)) (kH : Int), v6 = .int .i64 kH ∧ aa (bq.l1 kq dZ kH aj av ak au af = some r) ∧ aa (kq ≤ kj11) ∧ aa (Kd.R k41 41 w' w.heap.size (fun _ => True) v5 dZ) ∧ aa (w'.heap[Fs]? = some (.cells #[.int .i64 aj, .int .i64 av, .int .i64 ak, .int .i64 au, (.slice bA af.length aZ)] 24 (0, 0))) ∧ aa (Below w.heap.size w w'))
       case atStart => exact ⟨(([] : List (S41))), (0), rs_, H', ⟨Nat.le_refl _⟩, ⟨by first | exact Kd.oC _ _ _ _ _ | exact Kd.xG _ _ _ _ _ | exact Kd.xI _ _ _ _ _ | exact Kd.xD _ _ _ _ _ | exact Kd.xE _ _ _ _ _⟩, ⟨bk_⟩, ⟨bl_⟩⟩
       case round =>
        clear H'; (try clear c1); (try clear c2); (try clear lv); (try clear oH); (try clear p2); (try clear c3); (try clear p3); (try clear q3); (try clear hx3); (try clear qi3); (try clear c4); (try clear p6); (try clear c7); (try clear mO); (try clear zk); (try clear c15); (try clear yR); (try clear JE); (try clear c16); (try clear c20); (try clear vN); (try clear Gl); (try clear c24); (try clear yS); (try clear c25); (try clear JF); (try clear JG); (try clear c27); (try clear c30); (try clear p30); (try clear q30); (try clear hx30); (try clear qi30); (try clear mr mD mE mF mG mH mI mJ mK mM); (try clear rT rU rV rW rX rY rZ r9 si sj); (try clear mP mQ mR qC qD mU mV mW qE qF); (try clear uD uE uF uG uH uI uJ uK uL uM); (try clear GL GM GN GQ GR GU GV GX GY GZ); (try clear lC lD lF lG lH lI lJ lK lL lM); (try clear Dv Dw Dx FC FD Dy Dz DC FE FH); (try clear N7); (try clear N8); (try clear N9); (try clear Oa); (try clear Ob); (try clear p2); (try clear p303); (try clear q303); obtain ⟨dZ, kH, rfl, HA, HK2, jP, lT, HB⟩ := hrel; cases gk with
        | zero => exact absurd HA.out (by simp [bq.l1])
        | succ k2 =>
         have H := HA.out; clear HA; simp only [bq.l1] at H; by_cases c33 : kH < (af.length : Int)
         ·rw [if_pos c33] at H; have Fb := decide_eq_true c33; clear c33; by_cases c34 : 0 ≤ kH
          ·rw [if_pos c34] at H; have PT := decide_eq_true c34; clear c34; replace H := Option.bind_eq_some_iff.mp H; obtain ⟨t311, A350, H⟩ := H; (try dsimp only at H)
           have A35 := aa.mk A350; clear A350; by_cases c36 : dZ.length + t311.length < 5864062014805
           ·rw [if_pos c36] at H; have LMc36 := aa.mk c36; clear c36; obtain ⟨y314, Qb⟩ : ∃ y_ : List (S41), y_ = (dZ ++ t311) := ⟨_, rfl⟩; replace H : (bq.l1 k2 y314 (wrap64 (kH + 1)) aj av ak au af) = some r := by first | (rw [Qb]; with_reducible exact H) | (have H2_ := (Option.bind_some _ _).symm.trans H; rw [Qb]; with_reducible exact H2_) | (have H2_ := (Option.bind_some _ _).symm.trans H; with_reducible exact H2_) | with_reducible exact H | (rw [Qb]; exact H) | exact H
            have Ny314 := aa.mk Qb; clear Qb; have H' := aa.mk H; clear H; obtain ⟨wh, wm, wo, yx, yz, wu, wy, wz, yA, yB⟩ := bz lT.out; have p310 : 0 ≤ (kH : Int) := dt_; have q310 : kH < (af.length : Int) := dt_; obtain ⟨ad310, A310_4, c310_4, e310, Xh, Xi, Xj, Xk, Xl, Xm, Xn⟩ := ib cz.out kH p310 q310; cases e310; replace Xh := hc_ HB Xh; replace Xi := hc_ HB Xi; replace Xj := hc_ HB Xj; replace Xk := hc_ HB Xk; replace Xl := hc_ HB Xl; have HR310_4 := aa.mk Xn; have HC310_4 := aa.mk Xm; clear Xn Xm; replace p310 := eq_true p310; replace q310 := eq_true q310; go_wp2_with (first | ((with_reducible refine aC (f := 47) rfl ?_); refine aX (some 61) rfl rfl Tryd.func47 (by kernel_rfl) rfl #[.agg #[.int .i64 ((ah af kH).f0), .int .i64 ((ah af kH).f1), .int .i64 ((ah af kH).f2), .int .i64 ((ah af kH).f3), .slice A310_4 ((ah af kH).f4).length c310_4]] rfl mp_ ?_; (with_reducible refine (ih k2 (by have := HJ11.out; have := HK2.out; omega) ((ah af kH).f0) ((ah af kH).f1) ((ah af kH).f2) ((ah af kH).f3) _ _ ((ah af kH).f4) t311 _ ?ay ?az A35.out).mono ?_); (case ay => exact cb_ (Kd.bB HR310_4.out HB.out)); (case az => exact HC310_4.out); rintro e w38 ⟨v312, rfl, ho0, hb⟩; refine ⟨_, rfl, ?_⟩; have Qc := aa.mk (Kd.bV (Kd.eD ho0 (Kd.gF (pR_ jP.out))) (ax bl_)); replace jP := aa.mk (Kd.eF (pR_ jP.out) (Kd.cO ho0) hb); replace lT := kb_ lT hb; replace HB := aa.mk (ai bl_ hb); (try clear hb); (try clear hb2); (try clear hk); (try clear hi); (try clear ho0); obtain ⟨Ao40, co40, eo40⟩ := Kd.df Qc.out; subst eo40) | ((with_reducible refine qY (b := .append) (xs := #[.tmp 55, .tmp 61]) rfl ?_); at_builtin; refine Kd.uw k41 (w0 := w) w.heap.size rfl (.tmp 55) (.tmp 61) 37 41 (.agg #[(.int .i64 0), (.int .i64 0), (.int .i64 0)]) 24 rfl Tryd.underlying37 O8 rfl (by decide) (by omega) u5 dZ t311 _ _ _ (fun k_ => some k_ ≠ (.slice Ao40 t311.length co40 : Value).ownBlock) (fun _ => False) rfl rfl ?aO ?aR (fun _ _ h => h) (fun _ h => h.elim) ?aF ?aB ?aS ?aL ?_; (case aR => exact cb_ ((Kd.bu Qc.out).2.2)); (case aB => exact bl_); (case aF => exact (fun k_ hk => Kd.fresh' (Kd.gF (pR_ Qc.out)) k_ hk)); (case aO => exact (by (with_reducible repeat (first | apply Kd.dx | apply Kd.dz | apply Kd.dH)); exact Kd.cK jP.out (fun _ hk => hk.2))); (case aS => exact (ax bl_)); (case aL => have := LMc36.out; omega); intro v315 w39 ho hb hg hat; rw [← Ny314.out] at ho; have HO316 := aa.mk (ho); replace lT := aa.mk (nC (g := Fs) (o := .cells #[.int .i64 aj, .int .i64 av, .int .i64 ak, .int .i64 au, .slice (some ad310) af.length aZ] 24 (0, 0)) bk_ hg (Kd.R_ne jP.out lT.out (by decide))); replace Qc := aa.mk (Kd.Gy (ok := (fun _ => True)) (pR_ Qc.out) hg hat); replace HB := aa.mk (hb); clear jP; clear ho hb hg hat))
            go_roundg k2
            case measure => have := HJ11.out; have := HK2.out; omega
            case rel => exact ⟨(y314), (wrap64 (kH + 1)), rs_, H', ⟨by have := HJ11.out; have := HK2.out; omega⟩, ⟨by (with_reducible repeat (first | apply Kd.dx | apply Kd.dz | apply Kd.dH)); exact Kd.cK HO316.out (fun _ hk => trivial)⟩, ⟨bk_⟩, ⟨bl_⟩⟩
           ·rw [if_neg c36] at H; exact absurd H (by simp)
          ·rw [if_neg c34] at H; exact absurd H (by simp)
         ·rw [if_neg c33] at H; have Fb := decide_eq_false c33; clear c33; obtain rfl := Option.some.inj H; obtain ⟨hcz41_0, hcz41_1, hcz41_2, hcz41_3, hcz41_4, hfz41_0, hfz41_1, hfz41_2, hfz41_3, hfz41_4⟩ := bz lT.out; go_wp2; go_ret; exact ⟨_, re_, pR_ jP.out, bl_⟩

end Go.Proofs.YtggelekooacmnaaDoor.Q
namespace Go.Proofs.YtggelekooacmnaaDoor.Q
open Go.RowKit Go.Proofs.YtggelekooacmnaaDoorW.bg Go.Proofs.YtggelekooacmnaaDoorW.bW Go.Proofs.YtggelekooacmnaaDoorW.dh
attribute [local go_sem] fE fF gy gz eO eP fG fH   -- for this text's walks alone
set_option linter.unusedVariables false
set_option linter.unusedSimpArgs false

/-! ### bZ: function 22 -/
def bZ.f (k : Nat) (aj : Int) (av : Int) (ak : Int) (au : Int) (af : List (S24)) : Option (Int) := (dW.f k aj av ak au af 11).bind fun I1 => (if I1 > 10 then (some 9) else ((aH.f k aj av ak au af).bind fun t319 => (if t319 = 0 then ((bq.f k aj av ak au af).bind fun I4 => (if (I4.length : Int) > 24 then (some 9) else (some 0))) else (some t319))))
set_option maxHeartbeats 8000000 in
set_option maxRecDepth 100000 in
theorem bZ.calls (k : Nat) (aj : Int) (av : Int) (ak : Int) (au : Int) (bA : Option Addr) (aZ : Nat) (af : List (S24)) (r : Int) (w : World) (fK : Kd.C k24 w bA af.length af) (fM : af.length ≤ aZ) (h : bZ.f k aj av ak au af = some r) :
  Calls Tryd.prog 22 #[.agg #[.int .i64 aj, .int .i64 av, .int .i64 ak, .int .i64 au, .slice bA af.length aZ]] w fun e w' => e = .returned (.int .i64 r) ∧ Below w.heap.size w w' := by
 have qb := Tryd.underlying24; have cz := aa.mk fK; have eZ := aa.mk fM; clear fK fM; have HB := aa.mk (Below.refl w.heap.size w); have H : ((dW.f k aj av ak au af 11).bind fun I1 => (if I1 > 10 then (some 9) else ((aH.f k aj av ak au af).bind fun t319 => (if t319 = 0 then ((bq.f k aj av ak au af).bind fun I4 => (if (I4.length : Int) > 24 then (some 9) else (some 0))) else (some t319))))) = some r := h; clear h; replace H := Option.bind_eq_some_iff.mp H; obtain ⟨I1, A20, H⟩ := H; (try dsimp only at H)
 have A2 := aa.mk A20; clear A20; by_cases c3 : I1 > 10
 ·rw [if_pos c3] at H; have kI : decide (10 < I1) = true := decide_eq_true c3; clear c3; obtain rfl := Option.some.inj H; go_enter Tryd.func22, Tryd.ntmps22; go_wp2_with (first | ((with_reducible refine aU (N := 1) rfl ?_); refine aY ?hg (N := 1) ?hd (cs := #[.int .i64 aj, .int .i64 av, .int .i64 ak, .int .i64 au, .slice bA af.length aZ]) (t := 24) ?hr ?_; (case hd => rfl); (case hg => rfl); (case hr => first | (go_simp; done) | (go_simp; rfl)); intro L8 hg w4 aK hb; have lU := aa.mk (aK); have L9 : aa (w.heap.size ≤ L8) := gw_ hg (ax bl_); have GE317 := L9; replace HB := aa.mk (ai bl_ hb); clear hb aK hg; obtain ⟨Iw, Iy, Iz, IA, IB, IC, IE, IG, II, IJ⟩ := bz lU.out) | ((with_reducible refine aC (f := 45) rfl ?_); refine aX (some 5) rfl rfl Tryd.func45 (by kernel_rfl) rfl #[.agg #[.int .i64 aj, .int .i64 av, .int .i64 ak, .int .i64 au, .slice bA af.length aZ], .int .i64 11] rfl mp_ ?_; (with_reducible refine (dW.calls k aj av ak au _ _ af 11 I1 _ ?ay ?az A2.out).mono ?_); (case ay => exact cb_ (Kd.bB cz.out HB.out)); (case az => exact eZ.out); rintro e w6 ⟨rfl, hb⟩; refine ⟨_, rfl, ?_⟩; replace lU := kb_ lU hb; replace HB := aa.mk (ai bl_ hb); (try clear hb); (try clear hb2); (try clear hk); (try clear hi)))
  go_ret; exact ⟨re_, bl_⟩
 ·rw [if_neg c3] at H; have kI : decide (10 < I1) = false := decide_eq_false c3; clear c3; replace H := Option.bind_eq_some_iff.mp H; obtain ⟨t319, A70, H⟩ := H; (try dsimp only at H)
  have A7 := aa.mk A70; clear A70; by_cases c8 : t319 = 0
  ·rw [if_pos c8] at H; obtain ⟨ko, ny⟩ := bq_ c8; clear c8; replace H := Option.bind_eq_some_iff.mp H; obtain ⟨I4, A90, H⟩ := H; (try dsimp only at H)
   have A9 := aa.mk A90; clear A90; by_cases c10 : (I4.length : Int) > 24
   ·rw [if_pos c10] at H; have kv : decide (24 < (I4.length : Int)) = true := decide_eq_true c10; have vM : decide (24 < I4.length) = true := decide_eq_true (by omega); clear c10; obtain rfl := Option.some.inj H; go_enter Tryd.func22, Tryd.ntmps22; go_wp2_with (first | ((with_reducible refine aU (N := 1) rfl ?_); refine aY ?hg (N := 1) ?hd (cs := #[.int .i64 aj, .int .i64 av, .int .i64 ak, .int .i64 au, .slice bA af.length aZ]) (t := 24) ?hr ?_; (case hd => rfl); (case hg => rfl); (case hr => first | (go_simp; done) | (go_simp; rfl)); intro L8 hg w11 aK hb; have lU := aa.mk (aK); have L9 : aa (w.heap.size ≤ L8) := gw_ hg (ax bl_); have GE317 := L9; replace HB := aa.mk (ai bl_ hb); clear hb aK hg; obtain ⟨o5, o6, o7, o8, o9, pg, pq, pz, pE, pF⟩ := bz lU.out) | ((with_reducible refine aC (f := 45) rfl ?_); refine aX (some 5) rfl rfl Tryd.func45 (by kernel_rfl) rfl #[.agg #[.int .i64 aj, .int .i64 av, .int .i64 ak, .int .i64 au, .slice bA af.length aZ], .int .i64 11] rfl mp_ ?_; (with_reducible refine (dW.calls k aj av ak au _ _ af 11 I1 _ ?ay ?az A2.out).mono ?_); (case ay => exact cb_ (Kd.bB cz.out HB.out)); (case az => exact eZ.out); rintro e w13 ⟨rfl, hb⟩; refine ⟨_, rfl, ?_⟩; replace lU := kb_ lU hb; replace HB := aa.mk (ai bl_ hb); (try clear hb); (try clear hb2); (try clear hk); (try clear hi); obtain ⟨mr, mD, mE, mF, mG, mH, mI, mJ, mK, mM⟩ := bz lU.out) | ((with_reducible refine aC (f := 46) rfl ?_); refine aX (some 8) rfl rfl Tryd.func46 (by kernel_rfl) rfl #[.agg #[.int .i64 aj, .int .i64 av, .int .i64 ak, .int .i64 au, .slice bA af.length aZ]] rfl mp_ ?_; (with_reducible refine (aH.calls k aj av ak au _ _ af t319 _ ?ay ?az A7.out).mono ?_); (case ay => exact cb_ (Kd.bB cz.out HB.out)); (case az => exact eZ.out); rintro e w15 ⟨rfl, hb⟩; refine ⟨_, rfl, ?_⟩; replace lU := kb_ lU hb; replace HB := aa.mk (ai bl_ hb); (try clear hb); (try clear hb2); (try clear hk); (try clear hi); obtain ⟨nX, nY, nZ, tH, tJ, og, oh, om, tK, tL⟩ := bz lU.out) | ((with_reducible refine aC (f := 47) rfl ?_); refine aX (some 13) rfl rfl Tryd.func47 (by kernel_rfl) rfl #[.agg #[.int .i64 aj, .int .i64 av, .int .i64 ak, .int .i64 au, .slice bA af.length aZ]] rfl mp_ ?_; (with_reducible refine (bq.calls k aj av ak au _ _ af I4 _ ?ay ?az A9.out).mono ?_); (case ay => exact cb_ (Kd.bB cz.out HB.out)); (case az => exact eZ.out); rintro e w17 ⟨v321, rfl, ho0, hb⟩; refine ⟨_, rfl, ?_⟩; have HO322 := aa.mk (Kd.bV ho0 (ax bl_)); replace lU := kb_ lU hb; replace HB := aa.mk (ai bl_ hb); (try clear hb); (try clear hb2); (try clear hk); (try clear hi); (try clear ho0); obtain ⟨Ao18, co18, eo18⟩ := Kd.df HO322.out; subst eo18))
    go_ret; exact ⟨re_, bl_⟩
   ·rw [if_neg c10] at H; have kv : decide (24 < (I4.length : Int)) = false := decide_eq_false c10; have vM : decide (24 < I4.length) = false := decide_eq_false (by omega); clear c10; obtain rfl := Option.some.inj H; go_enter Tryd.func22, Tryd.ntmps22; go_wp2_with (first | ((with_reducible refine aU (N := 1) rfl ?_); refine aY ?hg (N := 1) ?hd (cs := #[.int .i64 aj, .int .i64 av, .int .i64 ak, .int .i64 au, .slice bA af.length aZ]) (t := 24) ?hr ?_; (case hd => rfl); (case hg => rfl); (case hr => first | (go_simp; done) | (go_simp; rfl)); intro L8 hg w19 aK hb; have lU := aa.mk (aK); have L9 : aa (w.heap.size ≤ L8) := gw_ hg (ax bl_); have GE317 := L9; replace HB := aa.mk (ai bl_ hb); clear hb aK hg; obtain ⟨rD, rE, rF, tq, tu, rG, rH, rJ, tC, tF⟩ := bz lU.out) | ((with_reducible refine aC (f := 45) rfl ?_); refine aX (some 5) rfl rfl Tryd.func45 (by kernel_rfl) rfl #[.agg #[.int .i64 aj, .int .i64 av, .int .i64 ak, .int .i64 au, .slice bA af.length aZ], .int .i64 11] rfl mp_ ?_; (with_reducible refine (dW.calls k aj av ak au _ _ af 11 I1 _ ?ay ?az A2.out).mono ?_); (case ay => exact cb_ (Kd.bB cz.out HB.out)); (case az => exact eZ.out); rintro e w21 ⟨rfl, hb⟩; refine ⟨_, rfl, ?_⟩; replace lU := kb_ lU hb; replace HB := aa.mk (ai bl_ hb); (try clear hb); (try clear hb2); (try clear hk); (try clear hi); obtain ⟨qj, ql, qm, rM, rO, qo, qp, qw, rP, rQ⟩ := bz lU.out) | ((with_reducible refine aC (f := 46) rfl ?_); refine aX (some 8) rfl rfl Tryd.func46 (by kernel_rfl) rfl #[.agg #[.int .i64 aj, .int .i64 av, .int .i64 ak, .int .i64 au, .slice bA af.length aZ]] rfl mp_ ?_; (with_reducible refine (aH.calls k aj av ak au _ _ af t319 _ ?ay ?az A7.out).mono ?_); (case ay => exact cb_ (Kd.bB cz.out HB.out)); (case az => exact eZ.out); rintro e w23 ⟨rfl, hb⟩; refine ⟨_, rfl, ?_⟩; replace lU := kb_ lU hb; replace HB := aa.mk (ai bl_ hb); (try clear hb); (try clear hb2); (try clear hk); (try clear hi); obtain ⟨Ci, Cj, Ck, D6, D7, Cm, Cn, Co, D8, D9⟩ := bz lU.out) | ((with_reducible refine aC (f := 47) rfl ?_); refine aX (some 13) rfl rfl Tryd.func47 (by kernel_rfl) rfl #[.agg #[.int .i64 aj, .int .i64 av, .int .i64 ak, .int .i64 au, .slice bA af.length aZ]] rfl mp_ ?_; (with_reducible refine (bq.calls k aj av ak au _ _ af I4 _ ?ay ?az A9.out).mono ?_); (case ay => exact cb_ (Kd.bB cz.out HB.out)); (case az => exact eZ.out); rintro e w25 ⟨v321, rfl, ho0, hb⟩; refine ⟨_, rfl, ?_⟩; have HO322 := aa.mk (Kd.bV ho0 (ax bl_)); replace lU := kb_ lU hb; replace HB := aa.mk (ai bl_ hb); (try clear hb); (try clear hb2); (try clear hk); (try clear hi); (try clear ho0); obtain ⟨Ao26, co26, eo26⟩ := Kd.df HO322.out; subst eo26))
    go_ret; exact ⟨re_, bl_⟩
  ·rw [if_neg c8] at H; obtain ⟨ko, ny⟩ := bn_ c8; obtain rfl := Option.some.inj H; go_enter Tryd.func22, Tryd.ntmps22; go_wp2_with (first | ((with_reducible refine aU (N := 1) rfl ?_); refine aY ?hg (N := 1) ?hd (cs := #[.int .i64 aj, .int .i64 av, .int .i64 ak, .int .i64 au, .slice bA af.length aZ]) (t := 24) ?hr ?_; (case hd => rfl); (case hg => rfl); (case hr => first | (go_simp; done) | (go_simp; rfl)); intro L8 hg w27 aK hb; have lU := aa.mk (aK); have L9 : aa (w.heap.size ≤ L8) := gw_ hg (ax bl_); have GE317 := L9; replace HB := aa.mk (ai bl_ hb); clear hb aK hg; obtain ⟨uD, uE, uF, uG, uH, uI, uJ, uK, uL, uM⟩ := bz lU.out) | ((with_reducible refine aC (f := 45) rfl ?_); refine aX (some 5) rfl rfl Tryd.func45 (by kernel_rfl) rfl #[.agg #[.int .i64 aj, .int .i64 av, .int .i64 ak, .int .i64 au, .slice bA af.length aZ], .int .i64 11] rfl mp_ ?_; (with_reducible refine (dW.calls k aj av ak au _ _ af 11 I1 _ ?ay ?az A2.out).mono ?_); (case ay => exact cb_ (Kd.bB cz.out HB.out)); (case az => exact eZ.out); rintro e w29 ⟨rfl, hb⟩; refine ⟨_, rfl, ?_⟩; replace lU := kb_ lU hb; replace HB := aa.mk (ai bl_ hb); (try clear hb); (try clear hb2); (try clear hk); (try clear hi); obtain ⟨Ea, Eb, Ec, Ed, Ee, Ef, Eg, Eh, Ei, Ej⟩ := bz lU.out) | ((with_reducible refine aC (f := 46) rfl ?_); refine aX (some 8) rfl rfl Tryd.func46 (by kernel_rfl) rfl #[.agg #[.int .i64 aj, .int .i64 av, .int .i64 ak, .int .i64 au, .slice bA af.length aZ]] rfl mp_ ?_; (with_reducible refine (aH.calls k aj av ak au _ _ af t319 _ ?ay ?az A7.out).mono ?_); (case ay => exact cb_ (Kd.bB cz.out HB.out)); (case az => exact eZ.out); rintro e w31 ⟨rfl, hb⟩; refine ⟨_, rfl, ?_⟩; replace lU := kb_ lU hb; replace HB := aa.mk (ai bl_ hb); (try clear hb); (try clear hb2); (try clear hk); (try clear hi)))
   go_ret; exact ⟨re_, bl_⟩

end Go.Proofs.YtggelekooacmnaaDoor.Q
namespace Go.Proofs.YtggelekooacmnaaDoor.Q
open Go.RowKit Go.Proofs.YtggelekooacmnaaDoorW.bg Go.Proofs.YtggelekooacmnaaDoorW.bW Go.Proofs.YtggelekooacmnaaDoorW.dh
attribute [local go_sem] fE fF gy gz eO eP fG fH   -- for this text's walks alone
set_option linter.unusedVariables false
set_option linter.unusedSimpArgs false

/-! ### jL: function 49 -/
def jL.f (k : Nat) (aj : Int) (av : Int) (ak : Int) (au : Int) (af : List (S24)) : Option ((List (S41)) × Int) := (bZ.f k aj av ak au af).bind fun t324 => (if t324 = 0 then ((bq.f k aj av ak au af).bind fun t325 => (some (t325, 0))) else (some (([] : List (S41)), t324)))
set_option maxHeartbeats 8000000 in
set_option maxRecDepth 100000 in
theorem jL.calls (k : Nat) (aj : Int) (av : Int) (ak : Int) (au : Int) (bA : Option Addr) (aZ : Nat) (af : List (S24)) (r1 : List (S41)) (r2 : Int) (w : World) (fK : Kd.C k24 w bA af.length af) (fM : af.length ≤ aZ) (h : jL.f k aj av ak au af = some (r1, r2)) :
  Calls Tryd.prog 49 #[.agg #[.int .i64 aj, .int .i64 av, .int .i64 ak, .int .i64 au, .slice bA af.length aZ]] w fun e w' => ∃ v0_ : Value, e = .returned (.tuple #[v0_, .int .i64 r2]) ∧ Kd.R k41 41 w' w.heap.size (fun _ => True) v0_ r1 ∧ Below w.heap.size w w' := by
 have qb := Tryd.underlying24; have cz := aa.mk fK; have eZ := aa.mk fM; clear fK fM; have HB := aa.mk (Below.refl w.heap.size w); have H : ((bZ.f k aj av ak au af).bind fun t324 => (if t324 = 0 then ((bq.f k aj av ak au af).bind fun t325 => (some (t325, 0))) else (some (([] : List (S41)), t324)))) = some (r1, r2) := h; clear h; replace H := Option.bind_eq_some_iff.mp H; obtain ⟨t324, A20, H⟩ := H; (try dsimp only at H)
 have A2 := aa.mk A20; clear A20; by_cases c3 : t324 = 0
 ·rw [if_pos c3] at H; obtain ⟨kI, nu⟩ := bq_ c3; clear c3; replace H := Option.bind_eq_some_iff.mp H; obtain ⟨t325, A40, H⟩ := H; (try dsimp only at H)
  have A4 := aa.mk A40; clear A40; simp only [Option.some.injEq, Prod.mk.injEq] at H; obtain ⟨rfl, rfl⟩ := H; go_enter Tryd.func49, Tryd.ntmps49; go_wp2_with (first | ((with_reducible refine aU (N := 1) rfl ?_); refine aY ?hg (N := 1) ?hd (cs := #[.int .i64 aj, .int .i64 av, .int .i64 ak, .int .i64 au, .slice bA af.length aZ]) (t := 24) ?hr ?_; (case hd => rfl); (case hg => rfl); (case hr => first | (go_simp; done) | (go_simp; rfl)); intro gb323 hg w5 aK hb; have Fu := aa.mk (aK); have GW323 : aa (w.heap.size ≤ gb323) := gw_ hg (ax bl_); have GE323 := GW323; replace HB := aa.mk (ai bl_ hb); clear hb aK hg; obtain ⟨pM, pO, pQ, pR, pU, pV, pW, pX, pY, p8⟩ := bz Fu.out) | ((with_reducible refine aC (f := 22) rfl ?_); refine aX (some 6) rfl rfl Tryd.func22 (by kernel_rfl) rfl #[.agg #[.int .i64 aj, .int .i64 av, .int .i64 ak, .int .i64 au, .slice bA af.length aZ]] rfl mp_ ?_; (with_reducible refine (bZ.calls k aj av ak au _ _ af t324 _ ?ay ?az A2.out).mono ?_); (case ay => exact cb_ (Kd.bB cz.out HB.out)); (case az => exact eZ.out); rintro e w7 ⟨rfl, hb⟩; refine ⟨_, rfl, ?_⟩; replace Fu := kb_ Fu hb; replace HB := aa.mk (ai bl_ hb); (try clear hb); (try clear hb2); (try clear hk); (try clear hi); obtain ⟨wR, wS, wT, wU, wV, wW, wX, wY, wZ, xc⟩ := bz Fu.out) | ((with_reducible refine aC (f := 47) rfl ?_); refine aX (some 11) rfl rfl Tryd.func47 (by kernel_rfl) rfl #[.agg #[.int .i64 aj, .int .i64 av, .int .i64 ak, .int .i64 au, .slice bA af.length aZ]] rfl mp_ ?_; (with_reducible refine (bq.calls k aj av ak au _ _ af t325 _ ?ay ?az A4.out).mono ?_); (case ay => exact cb_ (Kd.bB cz.out HB.out)); (case az => exact eZ.out); rintro e w9 ⟨v326, rfl, ho0, hb⟩; refine ⟨_, rfl, ?_⟩; have HO327 := aa.mk (Kd.bV ho0 (ax bl_)); replace Fu := kb_ Fu hb; replace HB := aa.mk (ai bl_ hb); (try clear hb); (try clear hb2); (try clear hk); (try clear hi); (try clear ho0)))
  go_ret2; exact ⟨_, re_, pR_ HO327.out, bl_⟩
 ·rw [if_neg c3] at H; obtain ⟨kI, nu⟩ := bn_ c3; simp only [Option.some.injEq, Prod.mk.injEq] at H; obtain ⟨rfl, rfl⟩ := H; go_enter Tryd.func49, Tryd.ntmps49; go_wp2_with (first | ((with_reducible refine aU (N := 1) rfl ?_); refine aY ?hg (N := 1) ?hd (cs := #[.int .i64 aj, .int .i64 av, .int .i64 ak, .int .i64 au, .slice bA af.length aZ]) (t := 24) ?hr ?_; (case hd => rfl); (case hg => rfl); (case hr => first | (go_simp; done) | (go_simp; rfl)); intro gb323 hg w10 aK hb; have Fu := aa.mk (aK); have GW323 : aa (w.heap.size ≤ gb323) := gw_ hg (ax bl_); have GE323 := GW323; replace HB := aa.mk (ai bl_ hb); clear hb aK hg; obtain ⟨nR, nS, nT, oU, oV, nU, nV, nW, oW, oZ⟩ := bz Fu.out) | ((with_reducible refine aC (f := 22) rfl ?_); refine aX (some 6) rfl rfl Tryd.func22 (by kernel_rfl) rfl #[.agg #[.int .i64 aj, .int .i64 av, .int .i64 ak, .int .i64 au, .slice bA af.length aZ]] rfl mp_ ?_; (with_reducible refine (bZ.calls k aj av ak au _ _ af t324 _ ?ay ?az A2.out).mono ?_); (case ay => exact cb_ (Kd.bB cz.out HB.out)); (case az => exact eZ.out); rintro e w12 ⟨rfl, hb⟩; refine ⟨_, rfl, ?_⟩; replace Fu := kb_ Fu hb; replace HB := aa.mk (ai bl_ hb); (try clear hb); (try clear hb2); (try clear hk); (try clear hi)))
  go_ret2; exact ⟨_, re_, by first | exact Kd.oC _ _ _ _ _ | exact Kd.xG _ _ _ _ _ | exact Kd.xI _ _ _ _ _ | exact Kd.xD _ _ _ _ _ | exact Kd.xE _ _ _ _ _, bl_⟩

end Go.Proofs.YtggelekooacmnaaDoor.Q
namespace Go.Proofs.YtggelekooacmnaaDoor.Q
open Go.RowKit Go.Proofs.YtggelekooacmnaaDoorW.bg Go.Proofs.YtggelekooacmnaaDoorW.bW Go.Proofs.YtggelekooacmnaaDoorW.dh
attribute [local go_sem] fE fF gy gz eO eP fG fH   -- for this text's walks alone
set_option linter.unusedVariables false
set_option linter.unusedSimpArgs false

/-! ### oJ: function 50 -/
def oJ.f (k : Nat) (aj : Int) (av : Int) (ak : Int) (au : Int) (af : List (S24)) : Option (Int × Int) := (dE.f k aj av ak au af).bind fun I5 => (if I5 = 0 then (if aj = 3 then (some (2, 0)) else (if aj = 4 then (some (3, 0)) else (some (1, 0)))) else (some (0, I5)))
set_option maxHeartbeats 8000000 in
set_option maxRecDepth 100000 in
theorem oJ.calls (k : Nat) (aj : Int) (av : Int) (ak : Int) (au : Int) (bA : Option Addr) (aZ : Nat) (af : List (S24)) (r1 : Int) (r2 : Int) (w : World) (fK : Kd.C k24 w bA af.length af) (fM : af.length ≤ aZ) (h : oJ.f k aj av ak au af = some (r1, r2)) :
  Calls Tryd.prog 50 #[.agg #[.int .i64 aj, .int .i64 av, .int .i64 ak, .int .i64 au, .slice bA af.length aZ]] w fun e w' => e = .returned (.tuple #[.int .i64 r1, .int .i64 r2]) ∧ Below w.heap.size w w' := by
 have qb := Tryd.underlying24; have cz := aa.mk fK; have eZ := aa.mk fM; clear fK fM; have HB := aa.mk (Below.refl w.heap.size w); have H : ((dE.f k aj av ak au af).bind fun I5 => (if I5 = 0 then (if aj = 3 then (some (2, 0)) else (if aj = 4 then (some (3, 0)) else (some (1, 0)))) else (some (0, I5)))) = some (r1, r2) := h; clear h; replace H := Option.bind_eq_some_iff.mp H; obtain ⟨I5, A20, H⟩ := H; (try dsimp only at H)
 have A2 := aa.mk A20; clear A20; by_cases c3 : I5 = 0
 ·rw [if_pos c3] at H; obtain ⟨kI, nu⟩ := bq_ c3; clear c3; by_cases c4 : aj = 3
  ·rw [if_pos c4] at H; obtain ⟨tT, c4b1⟩ := bq_ c4; clear c4; simp only [Option.some.injEq, Prod.mk.injEq] at H; obtain ⟨rfl, rfl⟩ := H; go_enter Tryd.func50, Tryd.ntmps50; go_wp2_with (first | ((with_reducible refine aU (N := 1) rfl ?_); refine aY ?hg (N := 1) ?hd (cs := #[.int .i64 aj, .int .i64 av, .int .i64 ak, .int .i64 au, .slice bA af.length aZ]) (t := 24) ?hr ?_; (case hd => rfl); (case hg => rfl); (case hr => first | (go_simp; done) | (go_simp; rfl)); intro Ma hg w5 aK hb; have tX := aa.mk (aK); have Mc : aa (w.heap.size ≤ Ma) := gw_ hg (ax bl_); have GE328 := Mc; replace HB := aa.mk (ai bl_ hb); clear hb aK hg; obtain ⟨pM, pO, pQ, pR, pU, pV, pW, pX, pY, p8⟩ := bz tX.out) | ((with_reducible refine aC (f := 12) rfl ?_); refine aX (some 6) rfl rfl Tryd.func12 (by kernel_rfl) rfl #[.agg #[.int .i64 aj, .int .i64 av, .int .i64 ak, .int .i64 au, .slice bA af.length aZ]] rfl mp_ ?_; (with_reducible refine (dE.calls k aj av ak au _ _ af I5 _ ?ay ?az A2.out).mono ?_); (case ay => exact cb_ (Kd.bB cz.out HB.out)); (case az => exact eZ.out); rintro e w7 ⟨rfl, hb⟩; refine ⟨_, rfl, ?_⟩; replace tX := kb_ tX hb; replace HB := aa.mk (ai bl_ hb); (try clear hb); (try clear hb2); (try clear hk); (try clear hi); obtain ⟨wR, wS, wT, wU, wV, wW, wX, wY, wZ, xc⟩ := bz tX.out))
   go_ret2; exact ⟨re_, bl_⟩
  ·rw [if_neg c4] at H; obtain ⟨tT, c4b1⟩ := bn_ c4; by_cases c9 : aj = 4
   ·rw [if_pos c9] at H; obtain ⟨vH, yM⟩ := bq_ c9; clear c9; simp only [Option.some.injEq, Prod.mk.injEq] at H; obtain ⟨rfl, rfl⟩ := H; go_enter Tryd.func50, Tryd.ntmps50; go_wp2_with (first | ((with_reducible refine aU (N := 1) rfl ?_); refine aY ?hg (N := 1) ?hd (cs := #[.int .i64 aj, .int .i64 av, .int .i64 ak, .int .i64 au, .slice bA af.length aZ]) (t := 24) ?hr ?_; (case hd => rfl); (case hg => rfl); (case hr => first | (go_simp; done) | (go_simp; rfl)); intro Ma hg w10 aK hb; have tX := aa.mk (aK); have Mc : aa (w.heap.size ≤ Ma) := gw_ hg (ax bl_); have GE328 := Mc; replace HB := aa.mk (ai bl_ hb); clear hb aK hg; obtain ⟨nR, nS, nT, oU, oV, nU, nV, nW, oW, oZ⟩ := bz tX.out) | ((with_reducible refine aC (f := 12) rfl ?_); refine aX (some 6) rfl rfl Tryd.func12 (by kernel_rfl) rfl #[.agg #[.int .i64 aj, .int .i64 av, .int .i64 ak, .int .i64 au, .slice bA af.length aZ]] rfl mp_ ?_; (with_reducible refine (dE.calls k aj av ak au _ _ af I5 _ ?ay ?az A2.out).mono ?_); (case ay => exact cb_ (Kd.bB cz.out HB.out)); (case az => exact eZ.out); rintro e w12 ⟨rfl, hb⟩; refine ⟨_, rfl, ?_⟩; replace tX := kb_ tX hb; replace HB := aa.mk (ai bl_ hb); (try clear hb); (try clear hb2); (try clear hk); (try clear hi); obtain ⟨vU, vV, vW, xX, xY, vX, vY, vZ, xZ, yc⟩ := bz tX.out))
    go_ret2; exact ⟨re_, bl_⟩
   ·rw [if_neg c9] at H; obtain ⟨vH, yM⟩ := bn_ c9; simp only [Option.some.injEq, Prod.mk.injEq] at H; obtain ⟨rfl, rfl⟩ := H; go_enter Tryd.func50, Tryd.ntmps50; go_wp2_with (first | ((with_reducible refine aU (N := 1) rfl ?_); refine aY ?hg (N := 1) ?hd (cs := #[.int .i64 aj, .int .i64 av, .int .i64 ak, .int .i64 au, .slice bA af.length aZ]) (t := 24) ?hr ?_; (case hd => rfl); (case hg => rfl); (case hr => first | (go_simp; done) | (go_simp; rfl)); intro Ma hg w14 aK hb; have tX := aa.mk (aK); have Mc : aa (w.heap.size ≤ Ma) := gw_ hg (ax bl_); have GE328 := Mc; replace HB := aa.mk (ai bl_ hb); clear hb aK hg; obtain ⟨uO, uP, uQ, yG, yH, uR, uS, uT, yI, yJ⟩ := bz tX.out) | ((with_reducible refine aC (f := 12) rfl ?_); refine aX (some 6) rfl rfl Tryd.func12 (by kernel_rfl) rfl #[.agg #[.int .i64 aj, .int .i64 av, .int .i64 ak, .int .i64 au, .slice bA af.length aZ]] rfl mp_ ?_; (with_reducible refine (dE.calls k aj av ak au _ _ af I5 _ ?ay ?az A2.out).mono ?_); (case ay => exact cb_ (Kd.bB cz.out HB.out)); (case az => exact eZ.out); rintro e w16 ⟨rfl, hb⟩; refine ⟨_, rfl, ?_⟩; replace tX := kb_ tX hb; replace HB := aa.mk (ai bl_ hb); (try clear hb); (try clear hb2); (try clear hk); (try clear hi); obtain ⟨rT, rU, rV, rW, rX, rY, rZ, r9, si, sj⟩ := bz tX.out))
    go_ret2; exact ⟨re_, bl_⟩
 ·rw [if_neg c3] at H; obtain ⟨kI, nu⟩ := bn_ c3; simp only [Option.some.injEq, Prod.mk.injEq] at H; obtain ⟨rfl, rfl⟩ := H; go_enter Tryd.func50, Tryd.ntmps50; go_wp2_with (first | ((with_reducible refine aU (N := 1) rfl ?_); refine aY ?hg (N := 1) ?hd (cs := #[.int .i64 aj, .int .i64 av, .int .i64 ak, .int .i64 au, .slice bA af.length aZ]) (t := 24) ?hr ?_; (case hd => rfl); (case hg => rfl); (case hr => first | (go_simp; done) | (go_simp; rfl)); intro Ma hg w18 aK hb; have tX := aa.mk (aK); have Mc : aa (w.heap.size ≤ Ma) := gw_ hg (ax bl_); have GE328 := Mc; replace HB := aa.mk (ai bl_ hb); clear hb aK hg; obtain ⟨CP, CQ, CR, CS, CU, CV, CW, CX, CY, CZ⟩ := bz tX.out) | ((with_reducible refine aC (f := 12) rfl ?_); refine aX (some 6) rfl rfl Tryd.func12 (by kernel_rfl) rfl #[.agg #[.int .i64 aj, .int .i64 av, .int .i64 ak, .int .i64 au, .slice bA af.length aZ]] rfl mp_ ?_; (with_reducible refine (dE.calls k aj av ak au _ _ af I5 _ ?ay ?az A2.out).mono ?_); (case ay => exact cb_ (Kd.bB cz.out HB.out)); (case az => exact eZ.out); rintro e w20 ⟨rfl, hb⟩; refine ⟨_, rfl, ?_⟩; replace tX := kb_ tX hb; replace HB := aa.mk (ai bl_ hb); (try clear hb); (try clear hb2); (try clear hk); (try clear hi)))
  go_ret2; exact ⟨re_, bl_⟩

end Go.Proofs.YtggelekooacmnaaDoor.Q
namespace Go.Proofs.YtggelekooacmnaaDoor.Q
open Go.RowKit Go.Proofs.YtggelekooacmnaaDoorW.bg Go.Proofs.YtggelekooacmnaaDoorW.bW Go.Proofs.YtggelekooacmnaaDoorW.dh
attribute [local go_sem] fE fF gy gz eO eP fG fH   -- for this text's walks alone
set_option linter.unusedVariables false
set_option linter.unusedSimpArgs false

/-! ### jM: function 51 -/
def jM.f (k : Nat) (aj : Int) (av : Int) (ak : Int) (au : Int) (af : List (S24)) : Option (Int × Int) := (bZ.f k aj av ak au af).bind fun I6 => (if I6 = 0 then (if aj = 3 then (some (2, 0)) else (if aj = 4 then (some (3, 0)) else (some (1, 0)))) else (some (0, I6)))
set_option maxHeartbeats 8000000 in
set_option maxRecDepth 100000 in
theorem jM.calls (k : Nat) (aj : Int) (av : Int) (ak : Int) (au : Int) (bA : Option Addr) (aZ : Nat) (af : List (S24)) (r1 : Int) (r2 : Int) (w : World) (fK : Kd.C k24 w bA af.length af) (fM : af.length ≤ aZ) (h : jM.f k aj av ak au af = some (r1, r2)) :
  Calls Tryd.prog 51 #[.agg #[.int .i64 aj, .int .i64 av, .int .i64 ak, .int .i64 au, .slice bA af.length aZ]] w fun e w' => e = .returned (.tuple #[.int .i64 r1, .int .i64 r2]) ∧ Below w.heap.size w w' := by
 have qb := Tryd.underlying24; have cz := aa.mk fK; have eZ := aa.mk fM; clear fK fM; have HB := aa.mk (Below.refl w.heap.size w); have H : ((bZ.f k aj av ak au af).bind fun I6 => (if I6 = 0 then (if aj = 3 then (some (2, 0)) else (if aj = 4 then (some (3, 0)) else (some (1, 0)))) else (some (0, I6)))) = some (r1, r2) := h; clear h; replace H := Option.bind_eq_some_iff.mp H; obtain ⟨I6, A20, H⟩ := H; (try dsimp only at H)
 have A2 := aa.mk A20; clear A20; by_cases c3 : I6 = 0
 ·rw [if_pos c3] at H; obtain ⟨kI, nu⟩ := bq_ c3; clear c3; by_cases c4 : aj = 3
  ·rw [if_pos c4] at H; obtain ⟨tT, c4b1⟩ := bq_ c4; clear c4; simp only [Option.some.injEq, Prod.mk.injEq] at H; obtain ⟨rfl, rfl⟩ := H; go_enter Tryd.func51, Tryd.ntmps51; go_wp2_with (first | ((with_reducible refine aU (N := 1) rfl ?_); refine aY ?hg (N := 1) ?hd (cs := #[.int .i64 aj, .int .i64 av, .int .i64 ak, .int .i64 au, .slice bA af.length aZ]) (t := 24) ?hr ?_; (case hd => rfl); (case hg => rfl); (case hr => first | (go_simp; done) | (go_simp; rfl)); intro Md hg w5 aK hb; have tY := aa.mk (aK); have Me : aa (w.heap.size ≤ Md) := gw_ hg (ax bl_); have GE330 := Me; replace HB := aa.mk (ai bl_ hb); clear hb aK hg; obtain ⟨pM, pO, pQ, pR, pU, pV, pW, pX, pY, p8⟩ := bz tY.out) | ((with_reducible refine aC (f := 22) rfl ?_); refine aX (some 6) rfl rfl Tryd.func22 (by kernel_rfl) rfl #[.agg #[.int .i64 aj, .int .i64 av, .int .i64 ak, .int .i64 au, .slice bA af.length aZ]] rfl mp_ ?_; (with_reducible refine (bZ.calls k aj av ak au _ _ af I6 _ ?ay ?az A2.out).mono ?_); (case ay => exact cb_ (Kd.bB cz.out HB.out)); (case az => exact eZ.out); rintro e w7 ⟨rfl, hb⟩; refine ⟨_, rfl, ?_⟩; replace tY := kb_ tY hb; replace HB := aa.mk (ai bl_ hb); (try clear hb); (try clear hb2); (try clear hk); (try clear hi); obtain ⟨wR, wS, wT, wU, wV, wW, wX, wY, wZ, xc⟩ := bz tY.out))
   go_ret2; exact ⟨re_, bl_⟩
  ·rw [if_neg c4] at H; obtain ⟨tT, c4b1⟩ := bn_ c4; by_cases c9 : aj = 4
   ·rw [if_pos c9] at H; obtain ⟨vH, yM⟩ := bq_ c9; clear c9; simp only [Option.some.injEq, Prod.mk.injEq] at H; obtain ⟨rfl, rfl⟩ := H; go_enter Tryd.func51, Tryd.ntmps51; go_wp2_with (first | ((with_reducible refine aU (N := 1) rfl ?_); refine aY ?hg (N := 1) ?hd (cs := #[.int .i64 aj, .int .i64 av, .int .i64 ak, .int .i64 au, .slice bA af.length aZ]) (t := 24) ?hr ?_; (case hd => rfl); (case hg => rfl); (case hr => first | (go_simp; done) | (go_simp; rfl)); intro Md hg w10 aK hb; have tY := aa.mk (aK); have Me : aa (w.heap.size ≤ Md) := gw_ hg (ax bl_); have GE330 := Me; replace HB := aa.mk (ai bl_ hb); clear hb aK hg; obtain ⟨nR, nS, nT, oU, oV, nU, nV, nW, oW, oZ⟩ := bz tY.out) | ((with_reducible refine aC (f := 22) rfl ?_); refine aX (some 6) rfl rfl Tryd.func22 (by kernel_rfl) rfl #[.agg #[.int .i64 aj, .int .i64 av, .int .i64 ak, .int .i64 au, .slice bA af.length aZ]] rfl mp_ ?_; (with_reducible refine (bZ.calls k aj av ak au _ _ af I6 _ ?ay ?az A2.out).mono ?_); (case ay => exact cb_ (Kd.bB cz.out HB.out)); (case az => exact eZ.out); rintro e w12 ⟨rfl, hb⟩; refine ⟨_, rfl, ?_⟩; replace tY := kb_ tY hb; replace HB := aa.mk (ai bl_ hb); (try clear hb); (try clear hb2); (try clear hk); (try clear hi); obtain ⟨vU, vV, vW, xX, xY, vX, vY, vZ, xZ, yc⟩ := bz tY.out))
    go_ret2; exact ⟨re_, bl_⟩
   ·rw [if_neg c9] at H; obtain ⟨vH, yM⟩ := bn_ c9; simp only [Option.some.injEq, Prod.mk.injEq] at H; obtain ⟨rfl, rfl⟩ := H; go_enter Tryd.func51, Tryd.ntmps51; go_wp2_with (first | ((with_reducible refine aU (N := 1) rfl ?_); refine aY ?hg (N := 1) ?hd (cs := #[.int .i64 aj, .int .i64 av, .int .i64 ak, .int .i64 au, .slice bA af.length aZ]) (t := 24) ?hr ?_; (case hd => rfl); (case hg => rfl); (case hr => first | (go_simp; done) | (go_simp; rfl)); intro Md hg w14 aK hb; have tY := aa.mk (aK); have Me : aa (w.heap.size ≤ Md) := gw_ hg (ax bl_); have GE330 := Me; replace HB := aa.mk (ai bl_ hb); clear hb aK hg; obtain ⟨uO, uP, uQ, yG, yH, uR, uS, uT, yI, yJ⟩ := bz tY.out) | ((with_reducible refine aC (f := 22) rfl ?_); refine aX (some 6) rfl rfl Tryd.func22 (by kernel_rfl) rfl #[.agg #[.int .i64 aj, .int .i64 av, .int .i64 ak, .int .i64 au, .slice bA af.length aZ]] rfl mp_ ?_; (with_reducible refine (bZ.calls k aj av ak au _ _ af I6 _ ?ay ?az A2.out).mono ?_); (case ay => exact cb_ (Kd.bB cz.out HB.out)); (case az => exact eZ.out); rintro e w16 ⟨rfl, hb⟩; refine ⟨_, rfl, ?_⟩; replace tY := kb_ tY hb; replace HB := aa.mk (ai bl_ hb); (try clear hb); (try clear hb2); (try clear hk); (try clear hi); obtain ⟨rT, rU, rV, rW, rX, rY, rZ, r9, si, sj⟩ := bz tY.out))
    go_ret2; exact ⟨re_, bl_⟩
 ·rw [if_neg c3] at H; obtain ⟨kI, nu⟩ := bn_ c3; simp only [Option.some.injEq, Prod.mk.injEq] at H; obtain ⟨rfl, rfl⟩ := H; go_enter Tryd.func51, Tryd.ntmps51; go_wp2_with (first | ((with_reducible refine aU (N := 1) rfl ?_); refine aY ?hg (N := 1) ?hd (cs := #[.int .i64 aj, .int .i64 av, .int .i64 ak, .int .i64 au, .slice bA af.length aZ]) (t := 24) ?hr ?_; (case hd => rfl); (case hg => rfl); (case hr => first | (go_simp; done) | (go_simp; rfl)); intro Md hg w18 aK hb; have tY := aa.mk (aK); have Me : aa (w.heap.size ≤ Md) := gw_ hg (ax bl_); have GE330 := Me; replace HB := aa.mk (ai bl_ hb); clear hb aK hg; obtain ⟨CP, CQ, CR, CS, CU, CV, CW, CX, CY, CZ⟩ := bz tY.out) | ((with_reducible refine aC (f := 22) rfl ?_); refine aX (some 6) rfl rfl Tryd.func22 (by kernel_rfl) rfl #[.agg #[.int .i64 aj, .int .i64 av, .int .i64 ak, .int .i64 au, .slice bA af.length aZ]] rfl mp_ ?_; (with_reducible refine (bZ.calls k aj av ak au _ _ af I6 _ ?ay ?az A2.out).mono ?_); (case ay => exact cb_ (Kd.bB cz.out HB.out)); (case az => exact eZ.out); rintro e w20 ⟨rfl, hb⟩; refine ⟨_, rfl, ?_⟩; replace tY := kb_ tY hb; replace HB := aa.mk (ai bl_ hb); (try clear hb); (try clear hb2); (try clear hk); (try clear hi)))
  go_ret2; exact ⟨re_, bl_⟩

end Go.Proofs.YtggelekooacmnaaDoor.Q
namespace Go.Proofs.YtggelekooacmnaaDoor.Q
open Go.RowKit Go.Proofs.YtggelekooacmnaaDoorW.bg Go.Proofs.YtggelekooacmnaaDoorW.bW Go.Proofs.YtggelekooacmnaaDoorW.dh
attribute [local go_sem] fE fF gy gz eO eP fG fH   -- for this text's walks alone
set_option linter.unusedVariables false
set_option linter.unusedSimpArgs false

/-! ### bR: function 73 -/
mutual
def bR.l0 : Nat → Int → Int → Int → Int → Int → Int → Int → Int → List (S24) → Option (Int)
 | 0, _, _, _, _, _, _, _, _, _ => none
 | k + 1, x3, x4, x5, x6, Tz, TA, TB, Oc, AU => if x6 < Oc then (bR.l0 k x3 (mn (wrap64 (x4 * x3)) 1073741825) (mn (wrap64 (x5 + (mn (wrap64 (x4 * x3)) 1073741825))) 1073741825) (wrap64 (x6 + 1)) Tz TA TB Oc AU) else (some x5)
def bR.l1 : Nat → Int → Int → Int → Int → Int → Int → List (S24) → Option (Int)
 | 0, _, _, _, _, _, _, _ => none
 | k + 1, x7, x8, Tz, TA, TB, Oc, AU => if x8 < (AU.length : Int) then (if 0 ≤ x8 then ((bR.f k ((ah AU x8).f0) ((ah AU x8).f1) ((ah AU x8).f2) ((ah AU x8).f3) ((ah AU x8).f4)).bind fun t336 => (bR.l1 k (mn (wrap64 (x7 * t336)) 1073741825) (wrap64 (x8 + 1)) Tz TA TB Oc AU)) else (none)) else (some x7)
def bR.f : Nat → Int → Int → Int → Int → List (S24) → Option (Int)
 | 0, _, _, _, _, _ => none
 | k + 1, aj, av, ak, au, af => if aj = 1 then (some 2) else (if aj = 2 then (some (wrap64 ((wrap64 (ak - av)) + 1))) else (if aj = 6 then (if 0 < (af.length : Int) then ((bR.f k ((ah af 0).f0) ((ah af 0).f1) ((ah af 0).f2) ((ah af 0).f3) ((ah af 0).f4)).bind fun I7 => (bR.l0 k I7 1 1 0 aj av ak au af)) else (none)) else (bR.l1 k 1 0 aj av ak au af)))
end
set_option maxHeartbeats 8000000 in
set_option maxRecDepth 100000 in
theorem bR.calls (k : Nat) : ∀ (aj : Int) (av : Int) (ak : Int) (au : Int) (bA : Option Addr) (aZ : Nat) (af : List (S24)) (r : Int) (w : World) (fK : Kd.C k24 w bA af.length af) (fM : af.length ≤ aZ) (h : bR.f k aj av ak au af = some r),
  Calls Tryd.prog 73 #[.agg #[.int .i64 aj, .int .i64 av, .int .i64 ak, .int .i64 au, .slice bA af.length aZ]] w fun e w' => e = .returned (.int .i64 r) ∧ Below w.heap.size w w' := by
 induction k using Nat.strongRecOn with
 | _ k ih =>
 intro aj av ak au bA aZ af r w fK fM h; cases k with
 | zero => exact absurd h (by simp [bR.f])
 | succ k =>
 simp only [bR.f] at h; have qb := Tryd.underlying24; have cz := aa.mk fK; have eZ := aa.mk fM; clear fK fM; have HB := aa.mk (Below.refl w.heap.size w); have H : (if aj = 1 then (some 2) else (if aj = 2 then (some (wrap64 ((wrap64 (ak - av)) + 1))) else (if aj = 6 then (if 0 < (af.length : Int) then ((bR.f k ((ah af 0).f0) ((ah af 0).f1) ((ah af 0).f2) ((ah af 0).f3) ((ah af 0).f4)).bind fun I7 => (bR.l0 k I7 1 1 0 aj av ak au af)) else (none)) else (bR.l1 k 1 0 aj av ak au af)))) = some r := h; clear h; by_cases c2 : aj = 1
 ·rw [if_pos c2] at H; obtain ⟨lv, oH⟩ := bq_ c2; clear c2; obtain rfl := Option.some.inj H; go_enter Tryd.func73, Tryd.ntmps73; go_wp2_with (first | ((with_reducible refine aU (N := 1) rfl ?_); refine aY ?hg (N := 1) ?hd (cs := #[.int .i64 aj, .int .i64 av, .int .i64 ak, .int .i64 au, .slice bA af.length aZ]) (t := 24) ?hr ?_; (case hd => rfl); (case hg => rfl); (case hr => first | (go_simp; done) | (go_simp; rfl)); intro Gq hg w3 aK hb; have vB := aa.mk (aK); have Mf : aa (w.heap.size ≤ Gq) := gw_ hg (ax bl_); have GE332 := Mf; replace HB := aa.mk (ai bl_ hb); clear hb aK hg; obtain ⟨lC, lD, lF, lG, lH, lI, lJ, lK, lL, lM⟩ := bz vB.out))
  go_ret; exact ⟨re_, bl_⟩
 ·rw [if_neg c2] at H; obtain ⟨lv, oH⟩ := bn_ c2; by_cases c5 : aj = 2
  ·rw [if_pos c5] at H; obtain ⟨jU, sJ⟩ := bq_ c5; clear c5; obtain rfl := Option.some.inj H; go_enter Tryd.func73, Tryd.ntmps73; go_wp2_with (first | ((with_reducible refine aU (N := 1) rfl ?_); refine aY ?hg (N := 1) ?hd (cs := #[.int .i64 aj, .int .i64 av, .int .i64 ak, .int .i64 au, .slice bA af.length aZ]) (t := 24) ?hr ?_; (case hd => rfl); (case hg => rfl); (case hr => first | (go_simp; done) | (go_simp; rfl)); intro Gq hg w6 aK hb; have vB := aa.mk (aK); have Mf : aa (w.heap.size ≤ Gq) := gw_ hg (ax bl_); have GE332 := Mf; replace HB := aa.mk (ai bl_ hb); clear hb aK hg; obtain ⟨Dk, Dl, Dm, Ut, Uu, FB, Dn, Dp, Uv, Uw⟩ := bz vB.out))
   go_ret; exact ⟨re_, bl_⟩
  ·rw [if_neg c5] at H; obtain ⟨jU, sJ⟩ := bn_ c5; by_cases c8 : aj = 6
   ·rw [if_pos c8] at H; obtain ⟨ko, ny⟩ := bq_ c8; clear c8; by_cases c9 : 0 < (af.length : Int)
    ·rw [if_pos c9] at H; have vH := decide_eq_true c9; have yM : decide (0 < af.length) = true := decide_eq_true (by omega); clear c9; replace H := Option.bind_eq_some_iff.mp H; obtain ⟨I7, A100, H⟩ := H; (try dsimp only at H)
     have A10 := aa.mk A100; clear A100; have H' := aa.mk H; clear H; go_enter Tryd.func73, Tryd.ntmps73; go_wp2_with (first | ((with_reducible refine aU (N := 1) rfl ?_); refine aY ?hg (N := 1) ?hd (cs := #[.int .i64 aj, .int .i64 av, .int .i64 ak, .int .i64 au, .slice bA af.length aZ]) (t := 24) ?hr ?_; (case hd => rfl); (case hg => rfl); (case hr => first | (go_simp; done) | (go_simp; rfl)); intro Gq hg w11 aK hb; have vB := aa.mk (aK); have Mf : aa (w.heap.size ≤ Gq) := gw_ hg (ax bl_); have GE332 := Mf; replace HB := aa.mk (ai bl_ hb); clear hb aK hg; obtain ⟨o5, o6, o7, o8, o9, pg, pq, pz, pE, pF⟩ := bz vB.out; have p333 : 0 ≤ (0 : Int) := (by omega); have q333 : 0 < (af.length : Int) := dt_; obtain ⟨ad333, A333_4, c333_4, e333, Lj, Ll, Lm, Lp, Lr, Xo, Xp⟩ := ib cz.out 0 p333 q333; cases e333; have qi333 : (0 < af.length) = True := eq_true (by omega); (try simp only [z0_, Nat.zero_mul, Addr.add_zero'] at Lj); (try simp only [z0_, Nat.zero_mul, Addr.add_zero'] at Ll); (try simp only [z0_, Nat.zero_mul, Addr.add_zero'] at Lm); (try simp only [z0_, Nat.zero_mul, Addr.add_zero'] at Lp); (try simp only [z0_, Nat.zero_mul, Addr.add_zero'] at Lr); replace Lj := hc_ HB Lj; replace Ll := hc_ HB Ll; replace Lm := hc_ HB Lm; replace Lp := hc_ HB Lp; replace Lr := hc_ HB Lr; have HR333_4 := aa.mk Xp; have HC333_4 := aa.mk Xo; clear Xp Xo; replace p333 := eq_true p333; replace q333 := eq_true q333) | ((with_reducible refine aC (f := 73) rfl ?_); refine aX (some 27) rfl rfl Tryd.func73 (by kernel_rfl) rfl #[.agg #[.int .i64 ((ah af 0).f0), .int .i64 ((ah af 0).f1), .int .i64 ((ah af 0).f2), .int .i64 ((ah af 0).f3), .slice A333_4 ((ah af 0).f4).length c333_4]] rfl mp_ ?_; (with_reducible refine (ih k (by omega) ((ah af 0).f0) ((ah af 0).f1) ((ah af 0).f2) ((ah af 0).f3) _ _ ((ah af 0).f4) I7 _ ?ay ?az A10.out).mono ?_); (case ay => exact cb_ (Kd.bB HR333_4.out HB.out)); (case az => exact HC333_4.out); rintro e w13 ⟨rfl, hb⟩; refine ⟨_, rfl, ?_⟩; replace vB := kb_ vB hb; replace HB := aa.mk (ai bl_ hb); (try clear hb); (try clear hb2); (try clear hk); (try clear hi)))
     go_loopg [4, 5, 6] k (fun kq v4 v5 v6 w' => ∃ (kE : Int) (eu : Int) (iE : Int), v4 = .int .i64 kE ∧ v5 = .int .i64 eu ∧ v6 = .int .i64 iE ∧ aa (bR.l0 kq I7 kE eu iE aj av ak au af = some r) ∧ aa (kq ≤ k) ∧ aa (w'.heap[Gq]? = some (.cells #[.int .i64 aj, .int .i64 av, .int .i64 ak, .int .i64 au, (.slice (some ad333) af.length aZ)] 24 (0, 0))) ∧ aa (Below w.heap.size w w'))
     case atStart => exact ⟨(1), (1), (0), rs_, rs_, rs_, H', ⟨Nat.le_refl _⟩, ⟨bk_⟩, ⟨bl_⟩⟩
     case round =>
      clear H'; (try clear c2); (try clear lv); (try clear oH); (try clear p2); (try clear c3); (try clear p3); (try clear q3); (try clear hx3); (try clear qi3); (try clear c5); (try clear jU); (try clear sJ); (try clear p6); (try clear c7); (try clear c8); (try clear ko); (try clear ny); (try clear c9); (try clear vH); (try clear yM); (try clear o5 o6 o7 o8 o9 pg pq pz pE pF); (try clear lC lD lF lG lH lI lJ lK lL lM); (try clear Dk Dl Dm Ut Uu FB Dn Dp Uv Uw); (try clear Lj); (try clear Ll); (try clear Lm); (try clear Lp); (try clear Lr); (try clear p333); (try clear q333); obtain ⟨kE, eu, iE, rfl, rfl, rfl, HA, HK1, vB, HB⟩ := hrel; cases gk with
      | zero => exact absurd HA.out (by simp [bR.l0])
      | succ k1 =>
       have H := HA.out; clear HA; simp only [bR.l0] at H; by_cases c14 : iE < au
       ·rw [if_pos c14] at H; have sI := decide_eq_true c14; clear c14; obtain ⟨ji15, hji15⟩ : ∃ j_ : Int, (mn (wrap64 (kE * I7)) 1073741825) = j_ := ⟨_, rfl⟩; replace H : (bR.l0 k1 I7 ji15 (mn (wrap64 (eu + (ji15))) 1073741825) (wrap64 (iE + 1)) aj av ak au af) = some r := by first | (rw [hji15] at H; exact H) | (simp only [hji15] at H ⊢; exact H)
        have hji15_ : (if 1073741825 < (wrap64 (kE * I7)) then 1073741825 else (wrap64 (kE * I7))) = ji15 := hji15; obtain ⟨ji16, yV⟩ : ∃ j_ : Int, (mn (wrap64 (eu + (ji15))) 1073741825) = j_ := ⟨_, rfl⟩; replace H : (bR.l0 k1 I7 ji15 ji16 (wrap64 (iE + 1)) aj av ak au af) = some r := by first | (rw [yV] at H; exact H) | (simp only [yV] at H ⊢; exact H)
        have hji16_ : (if 1073741825 < (wrap64 (eu + (ji15))) then 1073741825 else (wrap64 (eu + (ji15)))) = ji16 := yV; have H' := aa.mk H; clear H; obtain ⟨rT, rU, rV, rW, rX, rY, rZ, r9, si, sj⟩ := bz vB.out; go_wp2; go_roundg k1
        case measure => have := HK1.out; omega
        case rel => exact ⟨(ji15), (ji16), (wrap64 (iE + 1)), (by first | rfl | (simp; done) | (simp only [← hji15] <;> (first | rfl | simp)) | (simp [*]; done)), (by first | rfl | (simp; done) | (simp only [← yV] <;> (first | rfl | simp)) | (simp [*]; done)), rs_, H', ⟨by have := HK1.out; omega⟩, ⟨bk_⟩, ⟨bl_⟩⟩
       ·rw [if_neg c14] at H; have sI := decide_eq_false c14; clear c14; obtain rfl := Option.some.inj H; obtain ⟨qc, qd, qf, ry, rz, qg, qh, qi, rA, rC⟩ := bz vB.out; go_wp2; go_ret; exact ⟨re_, bl_⟩
    ·rw [if_neg c9] at H; exact absurd H (by simp)
   ·rw [if_neg c8] at H; obtain ⟨ko, ny⟩ := bn_ c8; have H' := aa.mk H; clear H; go_enter Tryd.func73, Tryd.ntmps73; go_wp2_with (first | ((with_reducible refine aU (N := 1) rfl ?_); refine aY ?hg (N := 1) ?hd (cs := #[.int .i64 aj, .int .i64 av, .int .i64 ak, .int .i64 au, .slice bA af.length aZ]) (t := 24) ?hr ?_; (case hd => rfl); (case hg => rfl); (case hr => first | (go_simp; done) | (go_simp; rfl)); intro Gq hg w19 aK hb; have vB := aa.mk (aK); have Mf : aa (w.heap.size ≤ Gq) := gw_ hg (ax bl_); have GE332 := Mf; replace HB := aa.mk (ai bl_ hb); clear hb aK hg; obtain ⟨rD, rE, rF, tq, tu, rG, rH, rJ, tC, tF⟩ := bz vB.out))
    go_loopg [7, 8] k (fun kq v7 v8 w' => ∃ (fZ : Int) (kr : Int), v7 = .int .i64 fZ ∧ v8 = .int .i64 kr ∧ aa (bR.l1 kq fZ kr aj av ak au af = some r) ∧ aa (kq ≤ k) ∧ aa (w'.heap[Gq]? = some (.cells #[.int .i64 aj, .int .i64 av, .int .i64 ak, .int .i64 au, (.slice bA af.length aZ)] 24 (0, 0))) ∧ aa (Below w.heap.size w w'))
    case atStart => exact ⟨(1), (0), rs_, rs_, H', ⟨Nat.le_refl _⟩, ⟨bk_⟩, ⟨bl_⟩⟩
    case round =>
     clear H'; (try clear c1); (try clear c2); (try clear lv); (try clear oH); (try clear p2); (try clear c3); (try clear p3); (try clear q3); (try clear hx3); (try clear qi3); (try clear c5); (try clear jU); (try clear sJ); (try clear p6); (try clear c7); (try clear c8); (try clear ko); (try clear ny); (try clear c9); (try clear vH); (try clear yM); (try clear c14); (try clear sI); (try clear o5 o6 o7 o8 o9 pg pq pz pE pF); (try clear rT rU rV rW rX rY rZ r9 si sj); (try clear qc qd qf ry rz qg qh qi rA rC); (try clear rD rE rF tq tu rG rH rJ tC tF); (try clear lC lD lF lG lH lI lJ lK lL lM); (try clear Dk Dl Dm Ut Uu FB Dn Dp Uv Uw); (try clear Lj); (try clear Ll); (try clear Lm); (try clear Lp); (try clear Lr); (try clear p2); (try clear p3); (try clear p333); (try clear p6); (try clear q3); (try clear q333); obtain ⟨fZ, kr, rfl, rfl, HA, HK1, vB, HB⟩ := hrel; cases gk with
     | zero => exact absurd HA.out (by simp [bR.l1])
     | succ k1 =>
      have H := HA.out; clear HA; simp only [bR.l1] at H; by_cases c21 : kr < (af.length : Int)
      ·rw [if_pos c21] at H; have Fa := decide_eq_true c21; clear c21; by_cases c22 : 0 ≤ kr
       ·rw [if_pos c22] at H; have c22b0 := decide_eq_true c22; clear c22; replace H := Option.bind_eq_some_iff.mp H; obtain ⟨t336, A230, H⟩ := H; (try dsimp only at H)
        have A23 := aa.mk A230; clear A230; obtain ⟨ji24, Qd⟩ : ∃ j_ : Int, (mn (wrap64 (fZ * t336)) 1073741825) = j_ := ⟨_, rfl⟩; replace H : (bR.l1 k1 ji24 (wrap64 (kr + 1)) aj av ak au af) = some r := by first | (rw [Qd] at H; exact H) | (simp only [Qd] at H ⊢; exact H)
        (try rw [Qd] at A23)
        have hji24_ : (if 1073741825 < (wrap64 (fZ * t336)) then 1073741825 else (wrap64 (fZ * t336))) = ji24 := Qd; have H' := aa.mk H; clear H; obtain ⟨zO, zP, zQ, zR, zS, zT, zU, zV, zW, zX⟩ := bz vB.out; have p335 : 0 ≤ (kr : Int) := dt_; have q335 : kr < (af.length : Int) := dt_; obtain ⟨ad335, A335_4, c335_4, e335, Xq, Xr, Xt, Xu, Xv, Xw, Xx⟩ := ib cz.out kr p335 q335; cases e335; replace Xq := hc_ HB Xq; replace Xr := hc_ HB Xr; replace Xt := hc_ HB Xt; replace Xu := hc_ HB Xu; replace Xv := hc_ HB Xv; have HR335_4 := aa.mk Xx; have HC335_4 := aa.mk Xw; clear Xx Xw; replace p335 := eq_true p335; replace q335 := eq_true q335; go_wp2_with (first | ((with_reducible refine aC (f := 73) rfl ?_); refine aX (some 56) rfl rfl Tryd.func73 (by kernel_rfl) rfl #[.agg #[.int .i64 ((ah af kr).f0), .int .i64 ((ah af kr).f1), .int .i64 ((ah af kr).f2), .int .i64 ((ah af kr).f3), .slice A335_4 ((ah af kr).f4).length c335_4]] rfl mp_ ?_; (with_reducible refine (ih k1 (by have := HK1.out; omega) ((ah af kr).f0) ((ah af kr).f1) ((ah af kr).f2) ((ah af kr).f3) _ _ ((ah af kr).f4) t336 _ ?ay ?az A23.out).mono ?_); (case ay => exact cb_ (Kd.bB HR335_4.out HB.out)); (case az => exact HC335_4.out); rintro e w26 ⟨rfl, hb⟩; refine ⟨_, rfl, ?_⟩; replace vB := kb_ vB hb; replace HB := aa.mk (ai bl_ hb); (try clear hb); (try clear hb2); (try clear hk); (try clear hi)))
        go_roundg k1
        case measure => have := HK1.out; omega
        case rel => exact ⟨(ji24), (wrap64 (kr + 1)), (by first | rfl | (simp; done) | (simp only [← Qd] <;> (first | rfl | simp)) | (simp [*]; done)), rs_, H', ⟨by have := HK1.out; omega⟩, ⟨bk_⟩, ⟨bl_⟩⟩
       ·rw [if_neg c22] at H; exact absurd H (by simp)
      ·rw [if_neg c21] at H; have Fa := decide_eq_false c21; clear c21; obtain rfl := Option.some.inj H; obtain ⟨yf, yg, yh, yj, yl, ym, yn, yo, yt, yu⟩ := bz vB.out; go_wp2; go_ret; exact ⟨re_, bl_⟩

end Go.Proofs.YtggelekooacmnaaDoor.Q
