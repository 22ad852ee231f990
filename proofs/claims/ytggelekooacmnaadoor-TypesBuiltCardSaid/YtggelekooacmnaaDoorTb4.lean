/- Lemmas for: mo -/
import Derived.Test.YtggelekooacmnaaDoorTb2
import Derived.Test.YtggelekooacmnaaDoorTb3
namespace Go.Proofs.YtggelekooacmnaaDoor.Q
open Go.RowKit Go.Proofs.YtggelekooacmnaaDoorW.bg Go.Proofs.YtggelekooacmnaaDoorW.bW Go.Proofs.YtggelekooacmnaaDoorW.dh
attribute [local go_sem] fE fF gy gz eO eP fG fH   -- for this text's walks alone
set_option linter.unusedVariables false
set_option linter.unusedSimpArgs false

/-! ### fw: function 52 -/
def fw.j0 : Nat → Bool → Int → Int → Int → Int → List (S24) → Option (Int × Int)
 | 0, _, _, _, _, _, _ => none
 | k + 1, x18, x338000, x338001, x338002, x338003, x338004 => if x18 = true then (some (0, 8)) else ((bR.f k x338000 x338001 x338002 x338003 x338004).bind fun t339 => (if t339 ≤ 1073741824 then (some (t339, 0)) else (some (0, 9))))
def fw.f (k : Nat) (aj : Int) (av : Int) (ak : Int) (au : Int) (af : List (S24)) : Option (Int × Int) := (bZ.f k aj av ak au af).bind fun t338 => (if t338 = 0 then (if aj = 3 then (fw.j0 k true aj av ak au af) else (fw.j0 k (aj == 4) aj av ak au af)) else (some (0, t338)))
set_option maxHeartbeats 8000000 in
set_option maxRecDepth 100000 in
theorem fw.calls (k : Nat) (aj : Int) (av : Int) (ak : Int) (au : Int) (bA : Option Addr) (aZ : Nat) (af : List (S24)) (r1 : Int) (r2 : Int) (w : World) (fK : Kd.C k24 w bA af.length af) (fM : af.length ≤ aZ) (h : fw.f k aj av ak au af = some (r1, r2)) :
  Calls Tryd.prog 52 #[.agg #[.int .i64 aj, .int .i64 av, .int .i64 ak, .int .i64 au, .slice bA af.length aZ]] w fun e w' => e = .returned (.tuple #[.int .i64 r1, .int .i64 r2]) ∧ Below w.heap.size w w' := by
 have qb := Tryd.underlying24; have cz := aa.mk fK; have eZ := aa.mk fM; clear fK fM; have HB := aa.mk (Below.refl w.heap.size w); have H : ((bZ.f k aj av ak au af).bind fun t338 => (if t338 = 0 then (if aj = 3 then (fw.j0 k true aj av ak au af) else (fw.j0 k (aj == 4) aj av ak au af)) else (some (0, t338)))) = some (r1, r2) := h; clear h; replace H := Option.bind_eq_some_iff.mp H; obtain ⟨t338, A20, H⟩ := H; (try dsimp only at H)
 have A2 := aa.mk A20; clear A20; by_cases c3 : t338 = 0
 ·rw [if_pos c3] at H; obtain ⟨kI, nu⟩ := bq_ c3; clear c3; have HC4 := aa.mk H; clear H; go_enter Tryd.func52, Tryd.ntmps52; go_upto_region 4 with (first | ((with_reducible refine aU (N := 1) rfl ?_); refine aY ?hg (N := 1) ?hd (cs := #[.int .i64 aj, .int .i64 av, .int .i64 ak, .int .i64 au, .slice bA af.length aZ]) (t := 24) ?hr ?_; (case hd => rfl); (case hg => rfl); (case hr => first | (go_simp; done) | (go_simp; rfl)); intro gb337 hg w5 aK hb; have vO := aa.mk (aK); have GW337 : aa (w.heap.size ≤ gb337) := gw_ hg (ax bl_); have GE337 := GW337; replace HB := aa.mk (ai bl_ hb); clear hb aK hg; obtain ⟨pM, pO, pQ, pR, pU, pV, pW, pX, pY, p8⟩ := bz vO.out) | ((with_reducible refine aC (f := 22) rfl ?_); refine aX (some 7) rfl rfl Tryd.func22 (by kernel_rfl) rfl #[.agg #[.int .i64 aj, .int .i64 av, .int .i64 ak, .int .i64 au, .slice bA af.length aZ]] rfl mp_ ?_; (with_reducible refine (bZ.calls k aj av ak au _ _ af t338 _ ?ay ?az A2.out).mono ?_); (case ay => exact cb_ (Kd.bB cz.out HB.out)); (case az => exact eZ.out); rintro e w7 ⟨rfl, hb⟩; refine ⟨_, rfl, ?_⟩; replace vO := kb_ vO hb; replace HB := aa.mk (ai bl_ hb); (try clear hb); (try clear hb2); (try clear hk); (try clear hi)))
  (try simp only [Act.put, List.setIfInBounds_toArray, List.set_cons_zero, List.set_cons_succ])
  go_cut [18] (fun v18 wc => ∃ (kq : Nat) (Gj : Bool), v18 = .bool Gj ∧ aa (fw.j0 kq Gj aj av ak au af = some (r1, r2)) ∧ aa (kq ≤ k) ∧ aa (wc.heap[gb337]? = some (.cells #[.int .i64 aj, .int .i64 av, .int .i64 ak, .int .i64 au, (.slice bA af.length aZ)] 24 (0, 0))) ∧ aa (Below w.heap.size w wc))
  case first =>
   have H := HC4.out; clear HC4; by_cases c8 : aj = 3
   ·rw [if_pos c8] at H; obtain ⟨ko, ny⟩ := bq_ c8; clear c8; (first | rw [ko] | (simp only [eT, fA]; rw [ko]) | skip)
    have H' := aa.mk H; clear H; obtain ⟨Dv, Dw, Dx, FC, FD, Dy, Dz, DC, FE, FH⟩ := bz vO.out; go_wp2; go_meet
    case rel => exact ⟨_, (true), rs_, H', ⟨by first | omega | exact Nat.le_refl _⟩, ⟨bk_⟩, ⟨bl_⟩⟩
   ·rw [if_neg c8] at H; obtain ⟨ko, ny⟩ := bn_ c8; (first | rw [ko] | (simp only [eT, fA]; rw [ko]) | skip)
    have H' := aa.mk H; clear H; obtain ⟨zI, zJ, zK, Ce, Cf, zL, zM, zN, Cg, Ch⟩ := bz vO.out; go_wp2; go_meet
    case rel => exact ⟨_, ((aj == 4)), rs_, H', ⟨by first | omega | exact Nat.le_refl _⟩, ⟨bk_⟩, ⟨bl_⟩⟩
  case rest =>
   clear HC4; (try clear c2); (try clear p2); (try clear c3); (try clear kI); (try clear nu); (try clear c5); (try clear c8); (try clear ko); (try clear ny); (try clear zI zJ zK Ce Cf zL zM zN Cg Ch); (try clear pM pO pQ pR pU pV pW pX pY p8); (try clear Dv Dw Dx FC FD Dy Dz DC FE FH); obtain ⟨kq, Gj, rfl, HA, HJ3, vO, HB⟩ := hcut; cases kq with
   | zero => exact absurd HA.out (by simp [fw.j0])
   | succ kj3 =>
    have H := HA.out; clear HA; simp only [fw.j0] at H; by_cases c11 : Gj = true
    ·subst c11; have H1 : (some (0, 8)) = some (r1, r2) := by rw [if_pos rfl] at H; exact H
     clear H; have H := H1; clear H1; simp only [Option.some.injEq, Prod.mk.injEq] at H; obtain ⟨rfl, rfl⟩ := H; go_wp2; go_ret2; exact ⟨re_, bl_⟩
    ·replace c11 := Bool.eq_false_iff.mpr c11; subst c11; have H1 : ((bR.f kj3 aj av ak au af).bind fun t339 => (if t339 ≤ 1073741824 then (some (t339, 0)) else (some (0, 9)))) = some (r1, r2) := by rw [if_neg (show ¬ (false = true) by decide)] at H; exact H
     clear H; have H := H1; clear H1; replace H := Option.bind_eq_some_iff.mp H; obtain ⟨t339, A120, H⟩ := H; (try dsimp only at H)
     have A12 := aa.mk A120; clear A120; by_cases c13 : t339 ≤ 1073741824
     ·rw [if_pos c13] at H; have rR := decide_eq_true c13; clear c13; simp only [Option.some.injEq, Prod.mk.injEq] at H; obtain ⟨rfl, rfl⟩ := H; obtain ⟨mr, mD, mE, mF, mG, mH, mI, mJ, mK, mM⟩ := bz vO.out; go_wp2_with (first | ((with_reducible refine aC (f := 73) rfl ?_); refine aX (some 20) rfl rfl Tryd.func73 (by kernel_rfl) rfl #[.agg #[.int .i64 aj, .int .i64 av, .int .i64 ak, .int .i64 au, .slice bA af.length aZ]] rfl mp_ ?_; (with_reducible refine (bR.calls kj3 aj av ak au _ _ af t339 _ ?ay ?az A12.out).mono ?_); (case ay => exact cb_ (Kd.bB cz.out HB.out)); (case az => exact eZ.out); rintro e w15 ⟨rfl, hb⟩; refine ⟨_, rfl, ?_⟩; replace vO := kb_ vO hb; replace HB := aa.mk (ai bl_ hb); (try clear hb); (try clear hb2); (try clear hk); (try clear hi)))
      go_ret2; exact ⟨re_, bl_⟩
     ·rw [if_neg c13] at H; have rR := decide_eq_false c13; clear c13; simp only [Option.some.injEq, Prod.mk.injEq] at H; obtain ⟨rfl, rfl⟩ := H; obtain ⟨nX, nY, nZ, tH, tJ, og, oh, om, tK, tL⟩ := bz vO.out; go_wp2_with (first | ((with_reducible refine aC (f := 73) rfl ?_); refine aX (some 20) rfl rfl Tryd.func73 (by kernel_rfl) rfl #[.agg #[.int .i64 aj, .int .i64 av, .int .i64 ak, .int .i64 au, .slice bA af.length aZ]] rfl mp_ ?_; (with_reducible refine (bR.calls kj3 aj av ak au _ _ af t339 _ ?ay ?az A12.out).mono ?_); (case ay => exact cb_ (Kd.bB cz.out HB.out)); (case az => exact eZ.out); rintro e w17 ⟨rfl, hb⟩; refine ⟨_, rfl, ?_⟩; replace vO := kb_ vO hb; replace HB := aa.mk (ai bl_ hb); (try clear hb); (try clear hb2); (try clear hk); (try clear hi)))
      go_ret2; exact ⟨re_, bl_⟩
 ·rw [if_neg c3] at H; obtain ⟨kI, nu⟩ := bn_ c3; simp only [Option.some.injEq, Prod.mk.injEq] at H; obtain ⟨rfl, rfl⟩ := H; go_enter Tryd.func52, Tryd.ntmps52; go_wp2_with (first | ((with_reducible refine aU (N := 1) rfl ?_); refine aY ?hg (N := 1) ?hd (cs := #[.int .i64 aj, .int .i64 av, .int .i64 ak, .int .i64 au, .slice bA af.length aZ]) (t := 24) ?hr ?_; (case hd => rfl); (case hg => rfl); (case hr => first | (go_simp; done) | (go_simp; rfl)); intro gb337 hg w18 aK hb; have vO := aa.mk (aK); have GW337 : aa (w.heap.size ≤ gb337) := gw_ hg (ax bl_); have GE337 := GW337; replace HB := aa.mk (ai bl_ hb); clear hb aK hg; obtain ⟨CP, CQ, CR, CS, CU, CV, CW, CX, CY, CZ⟩ := bz vO.out) | ((with_reducible refine aC (f := 22) rfl ?_); refine aX (some 7) rfl rfl Tryd.func22 (by kernel_rfl) rfl #[.agg #[.int .i64 aj, .int .i64 av, .int .i64 ak, .int .i64 au, .slice bA af.length aZ]] rfl mp_ ?_; (with_reducible refine (bZ.calls k aj av ak au _ _ af t338 _ ?ay ?az A2.out).mono ?_); (case ay => exact cb_ (Kd.bB cz.out HB.out)); (case az => exact eZ.out); rintro e w20 ⟨rfl, hb⟩; refine ⟨_, rfl, ?_⟩; replace vO := kb_ vO hb; replace HB := aa.mk (ai bl_ hb); (try clear hb); (try clear hb2); (try clear hk); (try clear hi)))
  go_ret2; exact ⟨re_, bl_⟩

end Go.Proofs.YtggelekooacmnaaDoor.Q
namespace Go.Proofs.YtggelekooacmnaaDoor.Q
open Go.RowKit Go.Proofs.YtggelekooacmnaaDoorW.bg Go.Proofs.YtggelekooacmnaaDoorW.bW Go.Proofs.YtggelekooacmnaaDoorW.dh
attribute [local go_sem] fE fF gy gz eO eP fG fH   -- for this text's walks alone
set_option linter.unusedVariables false
set_option linter.unusedSimpArgs false

/-! ### aA: function 116 -/
def aA.l0 : Nat → List Int → Int → Option (List Int)
 | 0, _, _ => none
 | k + 1, x0, x3 => if x3 > 0 then (if 0 ≤ (wrap64 (x3 - 1)) then (if (wrap64 (x3 - 1)) < (x0.length : Int) then (if (rd x0 (wrap64 (x3 - 1))) = 0 then (aA.l0 k x0 (wrap64 (x3 - 1))) else (if 0 ≤ x3 then (if x3 ≤ (x0.length : Int) then (if ([] : List Int).length + (x0.take (x3 : Int).toNat).length < 35184372088832 then (some (([] : List Int) ++ (x0.take (x3 : Int).toNat))) else (none)) else (none)) else (none))) else (none)) else (none)) else (if 0 ≤ x3 then (if x3 ≤ (x0.length : Int) then (if ([] : List Int).length + (x0.take (x3 : Int).toNat).length < 35184372088832 then (some (([] : List Int) ++ (x0.take (x3 : Int).toNat))) else (none)) else (none)) else (none))
def aA.f (k : Nat) (l0 : List Int) : Option (List Int) := aA.l0 k l0 (l0.length : Int)
theorem aA.iQ : ∀ k, (∀ y0 y1, LeO (aA.l0 k y0 y1) (aA.l0 (k + 1) y0 y1))
 | 0 => fun _ _ r h => by simp [aA.l0] at h
 | k + 1 => by
  have ih0 := aA.iQ k
  ·intro y0 y1; unfold aA.l0; repeat' first
   | (with_reducible exact ih0 _ _)
   | (with_reducible exact LeO.refl _)
   | (with_reducible exact LeO.none _)
   | (with_reducible refine LeO.ite ?_ ?_)
   | (with_reducible refine LeO.bind ?_ (fun _ => ?_))
   | exact ih0 _ _
   | exact LeO.none _
   | refine LeO.ite ?_ ?_
   | refine LeO.bind ?_ (fun _ => ?_)
theorem aA.mono : ∀ a0 k, LeO (aA.f k a0) (aA.f (k + 1) a0) := by
 intro a0 k; have ih0 := aA.iQ k; unfold aA.f
 repeat' first
   | (with_reducible exact ih0 _ _)
   | (with_reducible exact LeO.refl _)
   | (with_reducible exact LeO.none _)
   | (with_reducible refine LeO.ite ?_ ?_)
   | (with_reducible refine LeO.bind ?_ (fun _ => ?_))
   | exact ih0 _ _
   | exact LeO.none _
   | refine LeO.ite ?_ ?_
   | refine LeO.bind ?_ (fun _ => ?_)
set_option maxHeartbeats 8000000 in
set_option maxRecDepth 100000 in
theorem aA.calls (k : Nat) (A0 : Option Addr) (c0 : Nat) (l0 : List Int) (r : List Int) (w : World) (hr0 : Kd.C (Kd.int .u32) w A0 l0.length l0) (hc0 : l0.length ≤ c0) (h : aA.f k l0 = some r) :
  Calls Tryd.prog 116 #[.slice A0 l0.length c0] w fun e w' => ∃ v0_ : Value, e = .returned (v0_) ∧ Kd.R (Kd.int .u32) 119 w' w.heap.size (fun _ => True) v0_ r ∧ Below w.heap.size w w' := by
 have HR0 := aa.mk hr0; have HC0 := aa.mk hc0; clear hr0 hc0; have HB := aa.mk (Below.refl w.heap.size w); have H : (aA.l0 k l0 (l0.length : Int)) = some r := h; clear h; have H' := aa.mk H; clear H; go_enter Tryd.func116, Tryd.ntmps116; go_wp2; go_loopg [3] k (fun kq v3 w' => ∃ (gD : Int), v3 = .int .i64 gD ∧ aa (aA.l0 kq l0 gD = some r) ∧ aa (kq ≤ k) ∧ aa (Below w.heap.size w w'))
 case atStart => exact ⟨((l0.length : Int)), rs_, H', ⟨Nat.le_refl _⟩, ⟨bl_⟩⟩
 case round =>
  clear H'; (try clear c1); obtain ⟨gD, rfl, HA, HK1, HB⟩ := hrel; cases gk with
  | zero => exact absurd HA.out (by simp [aA.l0])
  | succ k1 =>
   have H := HA.out; clear HA; simp only [aA.l0] at H; by_cases c2 : gD > 0
   ·rw [if_pos c2] at H; have lv : decide (0 < gD) = true := decide_eq_true c2; clear c2; obtain ⟨ji3, I8⟩ : ∃ j_ : Int, (wrap64 (gD - 1)) = j_ := ⟨_, rfl⟩; replace H : (if 0 ≤ (ji3) then (if (ji3) < (l0.length : Int) then (if (rd l0 (ji3)) = 0 then (aA.l0 k1 l0 ji3) else (if 0 ≤ gD then (if gD ≤ (l0.length : Int) then (if ([] : List Int).length + (l0.take (gD : Int).toNat).length < 35184372088832 then (some (([] : List Int) ++ (l0.take (gD : Int).toNat))) else (none)) else (none)) else (none))) else (none)) else (none)) = some r := by first | (rw [I8] at H; exact H) | (simp only [I8] at H ⊢; exact H)
    have hji3w : (IntKind.i64.wrap (gD - 1)) = ji3 := (eT _).trans I8; by_cases c4 : 0 ≤ (ji3)
    ·rw [if_pos c4] at H; have tT := decide_eq_true c4; clear c4; by_cases c5 : (ji3) < (l0.length : Int)
     ·rw [if_pos c5] at H; have jU := decide_eq_true c5; clear c5; by_cases c6 : (rd l0 (ji3)) = 0
      ·rw [if_pos c6] at H; obtain ⟨vT, c6b1⟩ := bq_ c6; clear c6; have H' := aa.mk H; clear H; have p340 : 0 ≤ ((ji3) : Int) := dt_; have q340 : (ji3) < (l0.length : Int) := dt_; obtain ⟨ad340, e340, Ls⟩ := Kd.lX HR0.out (ji3) p340 q340; cases e340; replace Ls := hc_ HB Ls; replace p340 := eq_true p340; replace q340 := eq_true q340; go_wp2; go_roundg k1
       case measure => have := HK1.out; omega
       case rel => exact ⟨(ji3), (by first | rfl | (simp; done) | (simp only [← I8] <;> (first | rfl | simp)) | (simp [*]; done)), H', ⟨by have := HK1.out; omega⟩, ⟨bl_⟩⟩
      ·rw [if_neg c6] at H; obtain ⟨vT, c6b1⟩ := bn_ c6; by_cases c7 : 0 ≤ gD
       ·rw [if_pos c7] at H; have mO := eq_true c7; have zk := decide_eq_true c7; clear c7; by_cases c8 : gD ≤ (l0.length : Int)
        ·rw [if_pos c8] at H; have ko := eq_true c8; have ny := decide_eq_true c8; clear c8; by_cases c9 : ([] : List Int).length + (l0.take (gD : Int).toNat).length < 35184372088832
         ·rw [if_pos c9] at H; have LMc9 := aa.mk c9; clear c9; obtain ⟨y342, Qe⟩ : ∃ y_ : List Int, y_ = (([] : List Int) ++ (l0.take (gD : Int).toNat)) := ⟨_, rfl⟩; replace H : (some y342) = some r := by first | (rw [Qe]; with_reducible exact H) | (have H2_ := (Option.bind_some _ _).symm.trans H; rw [Qe]; with_reducible exact H2_) | (have H2_ := (Option.bind_some _ _).symm.trans H; with_reducible exact H2_) | with_reducible exact H | (rw [Qe]; exact H) | exact H
          have Ny342 := aa.mk Qe; clear Qe; obtain rfl := Option.some.inj H; have p340 : 0 ≤ ((ji3) : Int) := dt_; have q340 : (ji3) < (l0.length : Int) := dt_; obtain ⟨ad340, e340, Ls⟩ := Kd.lX HR0.out (ji3) p340 q340; cases e340; replace Ls := hc_ HB Ls; replace p340 := eq_true p340; replace q340 := eq_true q340; obtain ⟨i010, hi010, _, hsz10, _⟩ := info_parts D5; obtain ⟨hcut10, hA10, hC10⟩ := FV (P := Tryd.prog) (Value.int .u32) 0 102 119 .i64 Tryd.underlying102 hi010 hsz10 (some ad340) c0 l0 gD (dt_) (dt_) HC0.out; have HR341 := aa.mk (Kd.Ga (h1 := fun _ => rfl) (hA10 _ (Kd.Di HR0.out))); have HC341 := aa.mk hC10; clear hA10 hC10 hi010 hsz10; go_wp2_with (first | ((with_reducible refine qY (b := .append) (xs := #[.const (.slice none 0 0), .tmp 20]) rfl ?_); at_builtin; refine Kd.uw (Kd.int .u32) (w0 := w) w.heap.size rfl (.const (.slice none 0 0)) (.tmp 20) 102 119 (.int .u32 0) 4 rfl Tryd.underlying102 D5 rfl (by decide) (by omega) (.slice none 0 0) ([] : List Int) (l0.take (gD : Int).toNat) _ _ _ (fun _ => True) (fun _ => False) rfl rfl ?aO ?aR (fun _ _ h => h) (fun _ h => h.elim) ?aF ?aB ?aS ?aL ?_; (case aR => (have h_ := Kd.bB HR341.out HB.out; rw [show (l0.take (gD : Int).toNat).length = gD.toNat from (by rw [List.length_take]; have h_ : (gD : Int) ≤ (l0.length : Int) := dt_; omega)] at h_; exact h_)); (case aB => exact bl_); (case aF => exact (fun _ _ => trivial)); (case aO => exact ((Kd.oC _ _ _ _ (fun _ => True)))); (case aS => exact (ax bl_)); (case aL => have := LMc9.out; have hlx_ := (show (l0.take (gD : Int).toNat).length = gD.toNat from (by rw [List.length_take]; have h_ : (gD : Int) ≤ (l0.length : Int) := dt_; omega)); omega); intro v343 w11 ho hb hg hat; rw [← Ny342.out] at ho; have HO344 := aa.mk (ho); replace HB := aa.mk (hb); clear ho hb hg hat))
          go_ret; exact ⟨_, by first | rfl | (simp [fI, fJ] <;> rfl) | (simp only [← I8]; first | rfl | (simp [fI, fJ] <;> rfl)) | (simp [*, fI, fJ] <;> rfl), pR_ HO344.out, bl_⟩
         ·rw [if_neg c9] at H; exact absurd H (by simp)
        ·rw [if_neg c8] at H; exact absurd H (by simp)
       ·rw [if_neg c7] at H; exact absurd H (by simp)
     ·rw [if_neg c5] at H; exact absurd H (by simp)
    ·rw [if_neg c4] at H; exact absurd H (by simp)
   ·rw [if_neg c2] at H; have lv : decide (0 < gD) = false := decide_eq_false c2; clear c2; by_cases c12 : 0 ≤ gD
    ·rw [if_pos c12] at H; have yT := eq_true c12; have Dq := decide_eq_true c12; clear c12; by_cases c13 : gD ≤ (l0.length : Int)
     ·rw [if_pos c13] at H; have rR := eq_true c13; have c13b1 := decide_eq_true c13; clear c13; by_cases c14 : ([] : List Int).length + (l0.take (gD : Int).toNat).length < 35184372088832
      ·rw [if_pos c14] at H; have LMc14 := aa.mk c14; clear c14; obtain ⟨y346, Qf⟩ : ∃ y_ : List Int, y_ = (([] : List Int) ++ (l0.take (gD : Int).toNat)) := ⟨_, rfl⟩; replace H : (some y346) = some r := by first | (rw [Qf]; with_reducible exact H) | (have H2_ := (Option.bind_some _ _).symm.trans H; rw [Qf]; with_reducible exact H2_) | (have H2_ := (Option.bind_some _ _).symm.trans H; with_reducible exact H2_) | with_reducible exact H | (rw [Qf]; exact H) | exact H
       have Ny346 := aa.mk Qf; clear Qf; obtain rfl := Option.some.inj H; obtain ⟨i015, hi015, _, hsz15, _⟩ := info_parts D5; obtain ⟨hcut15, hA15, hC15⟩ := FV (P := Tryd.prog) (Value.int .u32) 0 102 119 .i64 Tryd.underlying102 hi015 hsz15 A0 c0 l0 gD (dt_) (dt_) HC0.out; have HR345 := aa.mk (Kd.Ga (h1 := fun _ => rfl) (hA15 _ (Kd.Di HR0.out))); have HC345 := aa.mk hC15; clear hA15 hC15 hi015 hsz15; go_wp2_with (first | ((with_reducible refine qY (b := .append) (xs := #[.const (.slice none 0 0), .tmp 20]) rfl ?_); at_builtin; refine Kd.uw (Kd.int .u32) (w0 := w) w.heap.size rfl (.const (.slice none 0 0)) (.tmp 20) 102 119 (.int .u32 0) 4 rfl Tryd.underlying102 D5 rfl (by decide) (by omega) (.slice none 0 0) ([] : List Int) (l0.take (gD : Int).toNat) _ _ _ (fun _ => True) (fun _ => False) rfl rfl ?aO ?aR (fun _ _ h => h) (fun _ h => h.elim) ?aF ?aB ?aS ?aL ?_; (case aR => (have h_ := Kd.bB HR345.out HB.out; rw [show (l0.take (gD : Int).toNat).length = gD.toNat from (by rw [List.length_take]; have h_ : (gD : Int) ≤ (l0.length : Int) := dt_; omega)] at h_; exact h_)); (case aB => exact bl_); (case aF => exact (fun _ _ => trivial)); (case aO => exact ((Kd.oC _ _ _ _ (fun _ => True)))); (case aS => exact (ax bl_)); (case aL => have := LMc14.out; have hlx_ := (show (l0.take (gD : Int).toNat).length = gD.toNat from (by rw [List.length_take]; have h_ : (gD : Int) ≤ (l0.length : Int) := dt_; omega)); omega); intro v347 w16 ho hb hg hat; rw [← Ny346.out] at ho; have HO348 := aa.mk (ho); replace HB := aa.mk (hb); clear ho hb hg hat))
       go_ret; exact ⟨_, re_, pR_ HO348.out, bl_⟩
      ·rw [if_neg c14] at H; exact absurd H (by simp)
     ·rw [if_neg c13] at H; exact absurd H (by simp)
    ·rw [if_neg c12] at H; exact absurd H (by simp)

end Go.Proofs.YtggelekooacmnaaDoor.Q
namespace Go.Proofs.YtggelekooacmnaaDoor.Q
open Go.RowKit Go.Proofs.YtggelekooacmnaaDoorW.bg Go.Proofs.YtggelekooacmnaaDoorW.bW Go.Proofs.YtggelekooacmnaaDoorW.dh
attribute [local go_sem] fE fF gy gz eO eP fG fH   -- for this text's walks alone
set_option linter.unusedVariables false
set_option linter.unusedSimpArgs false

/-! ### bU: function 118 -/
def bU.l0 : Nat → List Int → Int → List Int → Int → Int → Option (List Int × Int)
 | 0, _, _, _, _, _ => none
 | k + 1, x0, x1, x6, x7, x8 => if x8 ≥ 0 then (if 0 ≤ x8 then (if x8 < (x0.length : Int) then (if (IntKind.u64.wrap (x1)) = 0 then (none) else (if x8 < (x6.length : Int) then (bU.l0 k x0 x1 (x6.set (x8 : Int).toNat ((IntKind.u64.wrap (Int.tdiv (Go.bits .or .u64 (IntKind.u64.wrap (x7 * 4294967296)) (IntKind.u64.wrap (rd x0 x8))) (IntKind.u64.wrap (x1)))) % 4294967296)) (Int.tmod (Go.bits .or .u64 (IntKind.u64.wrap (x7 * 4294967296)) (IntKind.u64.wrap (rd x0 x8))) (IntKind.u64.wrap (x1))) (wrap64 (x8 - 1))) else (none))) else (none)) else (none)) else ((aA.f k x6).bind fun t354 => (some (t354, (x7) % 4294967296)))
def bU.f (k : Nat) (l0 : List Int) (a1 : Int) : Option (List Int × Int) := if 0 ≤ (l0.length : Int) then (if ((l0.length : Int) : Int).toNat ≤ 70368744177664 then (bU.l0 k l0 a1 (List.replicate ((l0.length : Int) : Int).toNat 0) 0 (wrap64 ((l0.length : Int) - 1))) else (none)) else (none)
theorem bU.iQ : ∀ k, (∀ y0 y1 y2 y3 y4, LeO (bU.l0 k y0 y1 y2 y3 y4) (bU.l0 (k + 1) y0 y1 y2 y3 y4))
 | 0 => fun _ _ _ _ _ r h => by simp [bU.l0] at h
 | k + 1 => by
  have ih0 := bU.iQ k
  ·intro y0 y1 y2 y3 y4; unfold bU.l0; repeat' first
   | (with_reducible exact ih0 _ _ _ _ _)
   | (with_reducible exact aA.mono _ _)
   | (with_reducible exact LeO.refl _)
   | (with_reducible exact LeO.none _)
   | (with_reducible refine LeO.ite ?_ ?_)
   | (with_reducible refine LeO.bind ?_ (fun _ => ?_))
   | exact ih0 _ _ _ _ _
   | exact aA.mono _ _
   | exact LeO.none _
   | refine LeO.ite ?_ ?_
   | refine LeO.bind ?_ (fun _ => ?_)
theorem bU.mono : ∀ a0 a1 k, LeO (bU.f k a0 a1) (bU.f (k + 1) a0 a1) := by
 intro a0 a1 k; have ih0 := bU.iQ k; unfold bU.f
 repeat' first
   | (with_reducible exact ih0 _ _ _ _ _)
   | (with_reducible exact aA.mono _ _)
   | (with_reducible exact LeO.refl _)
   | (with_reducible exact LeO.none _)
   | (with_reducible refine LeO.ite ?_ ?_)
   | (with_reducible refine LeO.bind ?_ (fun _ => ?_))
   | exact ih0 _ _ _ _ _
   | exact aA.mono _ _
   | exact LeO.none _
   | refine LeO.ite ?_ ?_
   | refine LeO.bind ?_ (fun _ => ?_)
set_option maxHeartbeats 8000000 in
set_option maxRecDepth 100000 in
theorem bU.calls (k : Nat) (A0 : Option Addr) (c0 : Nat) (l0 : List Int) (a1 : Int) (r1 : List Int) (r2 : Int) (w : World) (hr0 : Kd.C (Kd.int .u32) w A0 l0.length l0) (hc0 : l0.length ≤ c0) (h : bU.f k l0 a1 = some (r1, r2)) :
  Calls Tryd.prog 118 #[.slice A0 l0.length c0, .int .u32 a1] w fun e w' => ∃ v0_ : Value, e = .returned (.tuple #[v0_, .int .u32 r2]) ∧ Kd.R (Kd.int .u32) 119 w' w.heap.size (fun _ => True) v0_ r1 ∧ Below w.heap.size w w' := by
 have HR0 := aa.mk hr0; have HC0 := aa.mk hc0; clear hr0 hc0; have HB := aa.mk (Below.refl w.heap.size w); have H : (if 0 ≤ (l0.length : Int) then (if ((l0.length : Int) : Int).toNat ≤ 70368744177664 then (bU.l0 k l0 a1 (List.replicate ((l0.length : Int) : Int).toNat 0) 0 (wrap64 ((l0.length : Int) - 1))) else (none)) else (none)) = some (r1, r2) := h; clear h; by_cases c3 : 0 ≤ (l0.length : Int)
 ·rw [if_pos c3] at H; have kI := eq_true c3; have nu := decide_eq_true c3; clear c3; by_cases c4 : ((l0.length : Int) : Int).toNat ≤ 70368744177664
  ·rw [if_pos c4] at H; have tT := eq_true c4; have c4b1 := decide_eq_true c4; clear c4; obtain ⟨y349, Qg⟩ : ∃ y_ : List Int, y_ = (List.replicate ((l0.length : Int) : Int).toNat 0) := ⟨_, rfl⟩; replace H : (bU.l0 k l0 a1 y349 0 (wrap64 ((l0.length : Int) - 1))) = some (r1, r2) := by first | (rw [Qg]; with_reducible exact H) | (have H2_ := (Option.bind_some _ _).symm.trans H; rw [Qg]; with_reducible exact H2_) | (have H2_ := (Option.bind_some _ _).symm.trans H; with_reducible exact H2_) | with_reducible exact H | (rw [Qg]; exact H) | exact H
   have Ny349 := aa.mk Qg; clear Qg; have H' := aa.mk H; clear H; go_enter Tryd.func118, Tryd.ntmps118; go_wp2_with (first | ((with_reducible refine aU (N := 12) rfl ?_); refine Kd.Uh (Kd.int .u32) _ 119 rfl (N := 12) rfl 102 _ _ rfl (l0.length : Int) rfl rfl Tryd.underlying102 (.int .u32 0) 4 D5 rfl (by decide) (by omega) 0 (ok := fun _ => True) (okp := fun _ => True) rfl (fun _ hk => hk) trivial (dt_) (Nat.le_trans (Nat.mul_le_mul_right _ (dt_ : (l0.length : Int).toNat ≤ 70368744177664)) (by omega)) (Below.refl _ _) (Nat.le_refl _) ?_; intro v350 w5 ho6 hb hg_ ig; clear hg_ ig; (first | rw [← Ny349.out] at ho6 | (simp only [Int.reduceToNat] at ho6; rw [← Ny349.out] at ho6)); have HO351 := aa.mk (Kd.bV ho6 (ax bl_)); replace HB := aa.mk (ai bl_ hb); clear hb ho6))
   go_loopg [7, 8] k (fun kq v7 v8 w' => ∃ (iE : List Int) (fZ : Int) (kr : Int), v7 = .int .u64 fZ ∧ v8 = .int .i64 kr ∧ aa (bU.l0 kq l0 a1 iE fZ kr = some (r1, r2)) ∧ aa (kq ≤ k) ∧ aa (Kd.R (Kd.int .u32) 119 w' w.heap.size (fun _ => True) v350 iE) ∧ aa (Below w.heap.size w w'))
   case atStart => exact ⟨(y349), (0), (wrap64 ((l0.length : Int) - 1)), rs_, rs_, H', ⟨Nat.le_refl _⟩, ⟨pR_ HO351.out⟩, ⟨bl_⟩⟩
   case round =>
    clear H'; (try clear c1); (try clear p2); (try clear c3); (try clear kI); (try clear nu); (try clear c4); (try clear tT); (try clear c4b1); (try clear p6); obtain ⟨iE, fZ, kr, rfl, rfl, HA, HK1, I9, HB⟩ := hrel; cases gk with
    | zero => exact absurd HA.out (by simp [bU.l0])
    | succ k1 =>
     have H := HA.out; clear HA; simp only [bU.l0] at H; by_cases c7 : kr ≥ 0
     ·rw [if_pos c7] at H; have mO : decide (0 ≤ kr) = true := decide_eq_true c7; clear c7; by_cases c8 : 0 ≤ kr
      ·rw [if_pos c8] at H; have ko := decide_eq_true c8; clear c8; by_cases c9 : kr < (l0.length : Int)
       ·rw [if_pos c9] at H; have vH := decide_eq_true c9; clear c9; by_cases c10 : (IntKind.u64.wrap (a1)) = 0
        ·rw [if_pos c10] at H; exact absurd H (by simp)
        ·rw [if_neg c10] at H; obtain ⟨kv, vM⟩ := bn_ c10; by_cases c11 : kr < (iE.length : Int)
         ·rw [if_pos c11] at H; have NJ := decide_eq_true c11; clear c11; obtain ⟨y353, Qh⟩ : ∃ y_ : List Int, y_ = (iE.set (kr : Int).toNat ((IntKind.u64.wrap (Int.tdiv (Go.bits .or .u64 (IntKind.u64.wrap (fZ * 4294967296)) (IntKind.u64.wrap (rd l0 kr))) (IntKind.u64.wrap (a1)))) % 4294967296)) := ⟨_, rfl⟩; replace H : (bU.l0 k1 l0 a1 y353 (Int.tmod (Go.bits .or .u64 (IntKind.u64.wrap (fZ * 4294967296)) (IntKind.u64.wrap (rd l0 kr))) (IntKind.u64.wrap (a1))) (wrap64 (kr - 1))) = some (r1, r2) := by first | (rw [Qh]; with_reducible exact H) | (have H2_ := (Option.bind_some _ _).symm.trans H; rw [Qh]; with_reducible exact H2_) | (have H2_ := (Option.bind_some _ _).symm.trans H; with_reducible exact H2_) | with_reducible exact H | (rw [Qh]; exact H) | exact H
          have Ny353 := aa.mk Qh; clear Qh; have H' := aa.mk H; clear H; have p352 : 0 ≤ (kr : Int) := dt_; have q352 : kr < (l0.length : Int) := dt_; obtain ⟨ad352, e352, Xy⟩ := Kd.lX HR0.out kr p352 q352; cases e352; replace Xy := hc_ HB Xy; replace p352 := eq_true p352; replace q352 := eq_true q352; have p12 : 0 ≤ (kr : Int) := dt_; have q12 : (kr : Int) < ((iE.length : Int) : Int) := dt_; obtain ⟨go12, FZ, eo12, gb12, gl12, cl12, HG12⟩ := Kd.Fz I9.out (by omega); (first | cases eo12 | (injection eo12 with ea_ en_ ec_; (first | subst ea_ | (injection ea_ with ea_; subst ea_)); subst ec_; clear en_))
          have GB12 := aa.mk gb12; have GG12 := aa.mk HG12; clear gb12 gl12 HG12; obtain ⟨hx12_0, hf12_0⟩ := Kd.zx 0 I9.out (kr : Int) p12 q12; replace p12 := eq_true p12; replace q12 := eq_true q12; have HP13 := Kd.J2 I9.out (kr : Int) ((IntKind.u64.wrap (Int.tdiv (Go.bits .or .u64 (IntKind.u64.wrap (fZ * 4294967296)) (IntKind.u64.wrap (rd l0 kr))) (IntKind.u64.wrap (a1)))) % 4294967296); go_wp2_with (first | ((with_reducible refine sF (t := 119) (p := 35) rfl ?_); refine qO (t := 119) (p := 35) (v := ?vo_w14) (w1 := (wr.setCell ⟨go12, (kr : Int).toNat, none⟩ (.int .u32 ((IntKind.u64.wrap (Int.tdiv (Go.bits .or .u64 (IntKind.u64.wrap (fZ * 4294967296)) (IntKind.u64.wrap (rd l0 kr))) (IntKind.u64.wrap (a1)))) % 4294967296)))) ?hg ?ho ?hn ?hr ?_; (case ho => rfl); (case hg => rfl); (case hn => rfl); (case hr => first | (go_simp; done) | (go_simp; rfl)); intro w14 hw; have hg : wr.grownBy w14 (some go12) := (by rw [hw]; exact HP13.2); have hp_ : Kd.R (Kd.int .u32) 119 w14 w.heap.size (fun _ => True) (.slice (some ⟨go12, 0, none⟩) iE.length FZ) y353 := (by rw [hw, Ny353.out]; exact HP13.1); clear HP13; replace I9 := aa.mk (hp_); replace HB := aa.mk ((by rw [hw]; exact ed (HB.out) GB12.out : Below w.heap.size w w14)); clear hg hw hp_))
          go_roundg k1
          case measure => have := HK1.out; omega
          case rel => exact ⟨(y353), (Int.tmod (Go.bits .or .u64 (IntKind.u64.wrap (fZ * 4294967296)) (IntKind.u64.wrap (rd l0 kr))) (IntKind.u64.wrap (a1))), (wrap64 (kr - 1)), rs_, rs_, H', ⟨by have := HK1.out; omega⟩, ⟨pR_ I9.out⟩, ⟨bl_⟩⟩
         ·rw [if_neg c11] at H; exact absurd H (by simp)
       ·rw [if_neg c9] at H; exact absurd H (by simp)
      ·rw [if_neg c8] at H; exact absurd H (by simp)
     ·rw [if_neg c7] at H; have mO : decide (0 ≤ kr) = false := decide_eq_false c7; clear c7; replace H := Option.bind_eq_some_iff.mp H; obtain ⟨t354, A150, H⟩ := H; (try dsimp only at H)
      have A15 := aa.mk A150; clear A150; simp only [Option.some.injEq, Prod.mk.injEq] at H; obtain ⟨rfl, rfl⟩ := H; obtain ⟨Ao16, co16, eo16⟩ := Kd.df I9.out; subst eo16; go_wp2_with (first | ((with_reducible refine aC (f := 116) rfl ?_); refine aX (some 41) rfl rfl Tryd.func116 (by kernel_rfl) rfl #[.slice Ao16 iE.length co16] rfl mp_ ?_; (with_reducible refine (aA.calls k1 _ _ iE t354 _ ?ay ?az A15.out).mono ?_); (case ay => exact cb_ ((Kd.bu I9.out).2.2)); (case az => exact (Kd.bu I9.out).2.1); rintro e w17 ⟨v355, rfl, ho0, hb⟩; refine ⟨_, rfl, ?_⟩; have HO356 := aa.mk (Kd.bV (Kd.eD ho0 (Kd.gF (pR_ I9.out))) (ax bl_)); replace I9 := aa.mk (Kd.eF (pR_ I9.out) (Kd.cO ho0) hb); replace HB := aa.mk (ai bl_ hb); (try clear hb); (try clear hb2); (try clear hk); (try clear hi); (try clear ho0)))
      go_ret2; exact ⟨_, re_, by (with_reducible repeat (first | apply Kd.dx | apply Kd.dz | apply Kd.dH)); exact Kd.cK HO356.out (fun _ hk => trivial), bl_⟩
  ·rw [if_neg c4] at H; exact absurd H (by simp)
 ·rw [if_neg c3] at H; exact absurd H (by simp)

end Go.Proofs.YtggelekooacmnaaDoor.Q
namespace Go.Proofs.YtggelekooacmnaaDoor.Q
open Go.RowKit Go.Proofs.YtggelekooacmnaaDoorW.bg Go.Proofs.YtggelekooacmnaaDoorW.bW Go.Proofs.YtggelekooacmnaaDoorW.dh
attribute [local go_sem] fE fF gy gz eO eP fG fH   -- for this text's walks alone
set_option linter.unusedVariables false
set_option linter.unusedSimpArgs false

/-! ### dP: function 123 -/
def dP.l0 : Nat → List Int → List Int → Int → Option (Int)
 | 0, _, _, _ => none
 | k + 1, x0, x1, x5 => if x5 ≥ 0 then (if 0 ≤ x5 then (if x5 < (x0.length : Int) then (if x5 < (x1.length : Int) then (if (rd x0 x5) < (rd x1 x5) then (some (-1)) else (if (rd x0 x5) > (rd x1 x5) then (some 1) else (dP.l0 k x0 x1 (wrap64 (x5 - 1))))) else (none)) else (none)) else (none)) else (some 0)
def dP.f (k : Nat) (l0 : List Int) (l1 : List Int) : Option (Int) := (aA.f k l0).bind fun kT => ((aA.f k l1).bind fun lW => (if (kT.length : Int) = (lW.length : Int) then (dP.l0 k kT lW (wrap64 ((kT.length : Int) - 1))) else (if (kT.length : Int) < (lW.length : Int) then (some (-1)) else (some 1))))
theorem dP.iQ : ∀ k, (∀ y0 y1 y2, LeO (dP.l0 k y0 y1 y2) (dP.l0 (k + 1) y0 y1 y2))
 | 0 => fun _ _ _ r h => by simp [dP.l0] at h
 | k + 1 => by
  have ih0 := dP.iQ k
  ·intro y0 y1 y2; unfold dP.l0; repeat' first
   | (with_reducible exact ih0 _ _ _)
   | (with_reducible exact aA.mono _ _)
   | (with_reducible exact LeO.refl _)
   | (with_reducible exact LeO.none _)
   | (with_reducible refine LeO.ite ?_ ?_)
   | (with_reducible refine LeO.bind ?_ (fun _ => ?_))
   | exact ih0 _ _ _
   | exact aA.mono _ _
   | exact LeO.none _
   | refine LeO.ite ?_ ?_
   | refine LeO.bind ?_ (fun _ => ?_)
theorem dP.mono : ∀ a0 a1 k, LeO (dP.f k a0 a1) (dP.f (k + 1) a0 a1) := by
 intro a0 a1 k; have ih0 := dP.iQ k; unfold dP.f
 repeat' first
   | (with_reducible exact ih0 _ _ _)
   | (with_reducible exact aA.mono _ _)
   | (with_reducible exact LeO.refl _)
   | (with_reducible exact LeO.none _)
   | (with_reducible refine LeO.ite ?_ ?_)
   | (with_reducible refine LeO.bind ?_ (fun _ => ?_))
   | exact ih0 _ _ _
   | exact aA.mono _ _
   | exact LeO.none _
   | refine LeO.ite ?_ ?_
   | refine LeO.bind ?_ (fun _ => ?_)
set_option maxHeartbeats 8000000 in
set_option maxRecDepth 100000 in
theorem dP.calls (k : Nat) (A0 : Option Addr) (c0 : Nat) (l0 : List Int) (A1 : Option Addr) (c1 : Nat) (l1 : List Int) (r : Int) (w : World) (hr0 : Kd.C (Kd.int .u32) w A0 l0.length l0) (hc0 : l0.length ≤ c0) (hr1 : Kd.C (Kd.int .u32) w A1 l1.length l1) (hc1 : l1.length ≤ c1) (h : dP.f k l0 l1 = some r) :
  Calls Tryd.prog 123 #[.slice A0 l0.length c0, .slice A1 l1.length c1] w fun e w' => e = .returned (.int .i64 r) ∧ Below w.heap.size w w' := by
 have HR0 := aa.mk hr0; have HC0 := aa.mk hc0; clear hr0 hc0; have HR1 := aa.mk hr1; have HC1 := aa.mk hc1; clear hr1 hc1; have HB := aa.mk (Below.refl w.heap.size w); have H : ((aA.f k l0).bind fun kT => ((aA.f k l1).bind fun lW => (if (kT.length : Int) = (lW.length : Int) then (dP.l0 k kT lW (wrap64 ((kT.length : Int) - 1))) else (if (kT.length : Int) < (lW.length : Int) then (some (-1)) else (some 1))))) = some r := h; clear h; replace H := Option.bind_eq_some_iff.mp H; obtain ⟨kT, A30, H⟩ := H; (try dsimp only at H)
 have A3 := aa.mk A30; clear A30; replace H := Option.bind_eq_some_iff.mp H; obtain ⟨lW, A40, H⟩ := H; (try dsimp only at H)
 have A4 := aa.mk A40; clear A40; by_cases c5 : (kT.length : Int) = (lW.length : Int)
 ·rw [if_pos c5] at H; obtain ⟨jU, sJ⟩ := bq_ c5; have c5b2 : (kT.length == lW.length) = true := by first | simpa using c5 | (simp at c5 ⊢; omega)
  clear c5; have H' := aa.mk H; clear H; go_enter Tryd.func123, Tryd.ntmps123; go_wp2_with (first | (go_at_call 116; (with_reducible refine (aA.calls k _ _ l0 kT _ ?ay ?az A3.out).mono ?_); (case ay => exact cb_ (HR0.out)); (case az => exact HC0.out); rintro e w6 ⟨v358, rfl, ho0, hb⟩; have jv := aa.mk (Kd.bV ho0 (ax bl_)); replace HB := aa.mk (ai bl_ hb); (try clear hb); (try clear hb2); (try clear hk); (try clear hi); (try clear ho0)) | (go_at_call 116; (with_reducible refine (aA.calls k _ _ l1 lW _ ?ay ?az A4.out).mono ?_); (case ay => exact cb_ (Kd.bB HR1.out HB.out)); (case az => exact HC1.out); rintro e w7 ⟨v361, rfl, ho0, hb⟩; have tZ := aa.mk (Kd.bV (Kd.eD ho0 (Kd.gF (pR_ jv.out))) (ax bl_)); replace jv := aa.mk (Kd.eF (pR_ jv.out) (Kd.cO ho0) hb); replace HB := aa.mk (ai bl_ hb); (try clear hb); (try clear hb2); (try clear hk); (try clear hi); (try clear ho0); obtain ⟨Ao8, co8, eo8⟩ := Kd.df jv.out; subst eo8; obtain ⟨Ao9, co9, eo9⟩ := Kd.df tZ.out; subst eo9))
  repeat (go_quiet (first | (go_at_call 116; (with_reducible refine (aA.calls k _ _ l0 kT _ ?ay ?az A3.out).mono ?_); (case ay => exact cb_ (HR0.out)); (case az => exact HC0.out); rintro e w6 ⟨v358, rfl, ho0, hb⟩; have jv := aa.mk (Kd.bV ho0 (ax bl_)); replace HB := aa.mk (ai bl_ hb); (try clear hb); (try clear hb2); (try clear hk); (try clear hi); (try clear ho0)) | (go_at_call 116; (with_reducible refine (aA.calls k _ _ l1 lW _ ?ay ?az A4.out).mono ?_); (case ay => exact cb_ (Kd.bB HR1.out HB.out)); (case az => exact HC1.out); rintro e w7 ⟨v361, rfl, ho0, hb⟩; have tZ := aa.mk (Kd.bV (Kd.eD ho0 (Kd.gF (pR_ jv.out))) (ax bl_)); replace jv := aa.mk (Kd.eF (pR_ jv.out) (Kd.cO ho0) hb); replace HB := aa.mk (ai bl_ hb); (try clear hb); (try clear hb2); (try clear hk); (try clear hi); (try clear ho0); obtain ⟨Ao8, co8, eo8⟩ := Kd.df jv.out; subst eo8; obtain ⟨Ao9, co9, eo9⟩ := Kd.df tZ.out; subst eo9)); try go_wp2_with (first | (go_at_call 116; (with_reducible refine (aA.calls k _ _ l0 kT _ ?ay ?az A3.out).mono ?_); (case ay => exact cb_ (HR0.out)); (case az => exact HC0.out); rintro e w6 ⟨v358, rfl, ho0, hb⟩; have jv := aa.mk (Kd.bV ho0 (ax bl_)); replace HB := aa.mk (ai bl_ hb); (try clear hb); (try clear hb2); (try clear hk); (try clear hi); (try clear ho0)) | (go_at_call 116; (with_reducible refine (aA.calls k _ _ l1 lW _ ?ay ?az A4.out).mono ?_); (case ay => exact cb_ (Kd.bB HR1.out HB.out)); (case az => exact HC1.out); rintro e w7 ⟨v361, rfl, ho0, hb⟩; have tZ := aa.mk (Kd.bV (Kd.eD ho0 (Kd.gF (pR_ jv.out))) (ax bl_)); replace jv := aa.mk (Kd.eF (pR_ jv.out) (Kd.cO ho0) hb); replace HB := aa.mk (ai bl_ hb); (try clear hb); (try clear hb2); (try clear hk); (try clear hi); (try clear ho0); obtain ⟨Ao8, co8, eo8⟩ := Kd.df jv.out; subst eo8; obtain ⟨Ao9, co9, eo9⟩ := Kd.df tZ.out; subst eo9)))
  go_loopg [5] k (fun kq v5 w' => ∃ (eu : Int), v5 = .int .i64 eu ∧ aa (dP.l0 kq kT lW eu = some r) ∧ aa (kq ≤ k) ∧ aa (Kd.R (Kd.int .u32) 119 w' w.heap.size (fun k_ => some k_ ≠ ((.slice Ao9 lW.length co9) : Value).ownBlock) (.slice Ao8 kT.length co8) kT) ∧ aa (Kd.R (Kd.int .u32) 119 w' w.heap.size (fun k_ => some k_ ≠ ((.slice Ao8 kT.length co8) : Value).ownBlock) (.slice Ao9 lW.length co9) lW) ∧ aa (Below w.heap.size w w'))
  case atStart => exact ⟨(wrap64 ((kT.length : Int) - 1)), rs_, H', ⟨Nat.le_refl _⟩, ⟨by (with_reducible repeat (first | apply Kd.dx | apply Kd.dz | apply Kd.dH)); exact Kd.cK jv.out (fun _ hk => hk.2)⟩, ⟨by (with_reducible repeat (first | apply Kd.dx | apply Kd.dz | apply Kd.dH)); exact Kd.cK tZ.out (fun _ hk => hk.2)⟩, ⟨bl_⟩⟩
  case round =>
   clear H'; (try clear c1); (try clear p2); (try clear c5); (try clear jU); (try clear sJ); (try clear c5b2); (try clear p6); obtain ⟨eu, rfl, HA, HK1, kK, mg, HB⟩ := hrel; cases gk with
   | zero => exact absurd HA.out (by simp [dP.l0])
   | succ k1 =>
    have H := HA.out; clear HA; simp only [dP.l0] at H; by_cases c10 : eu ≥ 0
    ·rw [if_pos c10] at H; have kv : decide (0 ≤ eu) = true := decide_eq_true c10; clear c10; by_cases c11 : 0 ≤ eu
     ·rw [if_pos c11] at H; have NJ := decide_eq_true c11; clear c11; by_cases c12 : eu < (kT.length : Int)
      ·rw [if_pos c12] at H; have yT := decide_eq_true c12; clear c12; by_cases c13 : eu < (lW.length : Int)
       ·rw [if_pos c13] at H; have rR := decide_eq_true c13; clear c13; by_cases c14 : (rd kT eu) < (rd lW eu)
        ·rw [if_pos c14] at H; have sI := decide_eq_true c14; clear c14; obtain rfl := Option.some.inj H; have Ja : 0 ≤ (eu : Int) := dt_; have Jb : eu < (kT.length : Int) := dt_; obtain ⟨ad363, e363, Xz⟩ := Kd.lX (Kd.bu kK.out).2.2 eu Ja Jb; cases e363; replace Ja := eq_true Ja; replace Jb := eq_true Jb; have Jc : 0 ≤ (eu : Int) := dt_; have Jd : eu < (lW.length : Int) := dt_; obtain ⟨ad364, e364, XA⟩ := Kd.lX (Kd.bu mg.out).2.2 eu Jc Jd; cases e364; replace Jc := eq_true Jc; replace Jd := eq_true Jd; go_wp2; repeat (go_quiet (fail); try go_wp2)
         go_ret; exact ⟨re_, bl_⟩
        ·rw [if_neg c14] at H; have sI := decide_eq_false c14; clear c14; by_cases c15 : (rd kT eu) > (rd lW eu)
         ·rw [if_pos c15] at H; have yR : decide ((rd lW eu) < (rd kT eu)) = true := decide_eq_true c15; clear c15; obtain rfl := Option.some.inj H; have Ja : 0 ≤ (eu : Int) := dt_; have Jb : eu < (kT.length : Int) := dt_; obtain ⟨ad363, e363, Xz⟩ := Kd.lX (Kd.bu kK.out).2.2 eu Ja Jb; cases e363; replace Ja := eq_true Ja; replace Jb := eq_true Jb; have Jc : 0 ≤ (eu : Int) := dt_; have Jd : eu < (lW.length : Int) := dt_; obtain ⟨ad364, e364, XA⟩ := Kd.lX (Kd.bu mg.out).2.2 eu Jc Jd; cases e364; replace Jc := eq_true Jc; replace Jd := eq_true Jd; have p365 : 0 ≤ (eu : Int) := dt_; have q365 : eu < (kT.length : Int) := dt_; obtain ⟨ad365, e365, hx365_0⟩ := Kd.lX (Kd.bu kK.out).2.2 eu p365 q365; obtain rfl : ad363 = ad365 := (by injection e365); replace p365 := eq_true p365; replace q365 := eq_true q365; have p366 : 0 ≤ (eu : Int) := dt_; have q366 : eu < (lW.length : Int) := dt_; obtain ⟨ad366, e366, hx366_0⟩ := Kd.lX (Kd.bu mg.out).2.2 eu p366 q366; obtain rfl : ad364 = ad366 := (by injection e366); replace p366 := eq_true p366; replace q366 := eq_true q366; go_wp2; repeat (go_quiet (fail); try go_wp2)
          go_ret; exact ⟨re_, bl_⟩
         ·rw [if_neg c15] at H; have yR : decide ((rd lW eu) < (rd kT eu)) = false := decide_eq_false c15; clear c15; have H' := aa.mk H; clear H; have Ja : 0 ≤ (eu : Int) := dt_; have Jb : eu < (kT.length : Int) := dt_; obtain ⟨ad363, e363, Xz⟩ := Kd.lX (Kd.bu kK.out).2.2 eu Ja Jb; cases e363; replace Ja := eq_true Ja; replace Jb := eq_true Jb; have Jc : 0 ≤ (eu : Int) := dt_; have Jd : eu < (lW.length : Int) := dt_; obtain ⟨ad364, e364, XA⟩ := Kd.lX (Kd.bu mg.out).2.2 eu Jc Jd; cases e364; replace Jc := eq_true Jc; replace Jd := eq_true Jd; have p365 : 0 ≤ (eu : Int) := dt_; have q365 : eu < (kT.length : Int) := dt_; obtain ⟨ad365, e365, hx365_0⟩ := Kd.lX (Kd.bu kK.out).2.2 eu p365 q365; obtain rfl : ad363 = ad365 := (by injection e365); replace p365 := eq_true p365; replace q365 := eq_true q365; have p366 : 0 ≤ (eu : Int) := dt_; have q366 : eu < (lW.length : Int) := dt_; obtain ⟨ad366, e366, hx366_0⟩ := Kd.lX (Kd.bu mg.out).2.2 eu p366 q366; obtain rfl : ad364 = ad366 := (by injection e366); replace p366 := eq_true p366; replace q366 := eq_true q366; go_wp2; repeat (go_quiet (fail); try go_wp2)
          go_roundg k1
          case measure => have := HK1.out; omega
          case rel => exact ⟨(wrap64 (eu - 1)), rs_, H', ⟨by have := HK1.out; omega⟩, ⟨pR_ kK.out⟩, ⟨pR_ mg.out⟩, ⟨bl_⟩⟩
       ·rw [if_neg c13] at H; exact absurd H (by simp)
      ·rw [if_neg c12] at H; exact absurd H (by simp)
     ·rw [if_neg c11] at H; exact absurd H (by simp)
    ·rw [if_neg c10] at H; have kv : decide (0 ≤ eu) = false := decide_eq_false c10; clear c10; obtain rfl := Option.some.inj H; go_wp2; repeat (go_quiet (fail); try go_wp2)
     go_ret; exact ⟨re_, bl_⟩
 ·rw [if_neg c5] at H; obtain ⟨jU, sJ⟩ := bn_ c5; have c5b2 : (kT.length == lW.length) = false := by first | simpa using c5 | (simp at c5 ⊢; omega)
  by_cases c16 : (kT.length : Int) < (lW.length : Int)
  ·rw [if_pos c16] at H; have Gf := decide_eq_true c16; have LF : decide (kT.length < lW.length) = true := decide_eq_true (Int.ofNat_lt.mp c16); clear c16; obtain rfl := Option.some.inj H; go_enter Tryd.func123, Tryd.ntmps123; go_wp2_with (first | (go_at_call 116; (with_reducible refine (aA.calls k _ _ l0 kT _ ?ay ?az A3.out).mono ?_); (case ay => exact cb_ (HR0.out)); (case az => exact HC0.out); rintro e w17 ⟨v358, rfl, ho0, hb⟩; have jv := aa.mk (Kd.bV ho0 (ax bl_)); replace HB := aa.mk (ai bl_ hb); (try clear hb); (try clear hb2); (try clear hk); (try clear hi); (try clear ho0)) | (go_at_call 116; (with_reducible refine (aA.calls k _ _ l1 lW _ ?ay ?az A4.out).mono ?_); (case ay => exact cb_ (Kd.bB HR1.out HB.out)); (case az => exact HC1.out); rintro e w18 ⟨v361, rfl, ho0, hb⟩; have tZ := aa.mk (Kd.bV (Kd.eD ho0 (Kd.gF (pR_ jv.out))) (ax bl_)); replace jv := aa.mk (Kd.eF (pR_ jv.out) (Kd.cO ho0) hb); replace HB := aa.mk (ai bl_ hb); (try clear hb); (try clear hb2); (try clear hk); (try clear hi); (try clear ho0); obtain ⟨Ao19, co19, eo19⟩ := Kd.df jv.out; subst eo19; obtain ⟨Ao20, co20, eo20⟩ := Kd.df tZ.out; subst eo20))
   repeat (go_quiet (first | (go_at_call 116; (with_reducible refine (aA.calls k _ _ l0 kT _ ?ay ?az A3.out).mono ?_); (case ay => exact cb_ (HR0.out)); (case az => exact HC0.out); rintro e w17 ⟨v358, rfl, ho0, hb⟩; have jv := aa.mk (Kd.bV ho0 (ax bl_)); replace HB := aa.mk (ai bl_ hb); (try clear hb); (try clear hb2); (try clear hk); (try clear hi); (try clear ho0)) | (go_at_call 116; (with_reducible refine (aA.calls k _ _ l1 lW _ ?ay ?az A4.out).mono ?_); (case ay => exact cb_ (Kd.bB HR1.out HB.out)); (case az => exact HC1.out); rintro e w18 ⟨v361, rfl, ho0, hb⟩; have tZ := aa.mk (Kd.bV (Kd.eD ho0 (Kd.gF (pR_ jv.out))) (ax bl_)); replace jv := aa.mk (Kd.eF (pR_ jv.out) (Kd.cO ho0) hb); replace HB := aa.mk (ai bl_ hb); (try clear hb); (try clear hb2); (try clear hk); (try clear hi); (try clear ho0); obtain ⟨Ao19, co19, eo19⟩ := Kd.df jv.out; subst eo19; obtain ⟨Ao20, co20, eo20⟩ := Kd.df tZ.out; subst eo20)); try go_wp2_with (first | (go_at_call 116; (with_reducible refine (aA.calls k _ _ l0 kT _ ?ay ?az A3.out).mono ?_); (case ay => exact cb_ (HR0.out)); (case az => exact HC0.out); rintro e w17 ⟨v358, rfl, ho0, hb⟩; have jv := aa.mk (Kd.bV ho0 (ax bl_)); replace HB := aa.mk (ai bl_ hb); (try clear hb); (try clear hb2); (try clear hk); (try clear hi); (try clear ho0)) | (go_at_call 116; (with_reducible refine (aA.calls k _ _ l1 lW _ ?ay ?az A4.out).mono ?_); (case ay => exact cb_ (Kd.bB HR1.out HB.out)); (case az => exact HC1.out); rintro e w18 ⟨v361, rfl, ho0, hb⟩; have tZ := aa.mk (Kd.bV (Kd.eD ho0 (Kd.gF (pR_ jv.out))) (ax bl_)); replace jv := aa.mk (Kd.eF (pR_ jv.out) (Kd.cO ho0) hb); replace HB := aa.mk (ai bl_ hb); (try clear hb); (try clear hb2); (try clear hk); (try clear hi); (try clear ho0); obtain ⟨Ao19, co19, eo19⟩ := Kd.df jv.out; subst eo19; obtain ⟨Ao20, co20, eo20⟩ := Kd.df tZ.out; subst eo20)))
   go_ret; exact ⟨re_, bl_⟩
  ·rw [if_neg c16] at H; have Gf := decide_eq_false c16; have LF : decide (kT.length < lW.length) = false := decide_eq_false (fun h => c16 (Int.ofNat_lt.mpr h)); clear c16; obtain rfl := Option.some.inj H; go_enter Tryd.func123, Tryd.ntmps123; go_wp2_with (first | (go_at_call 116; (with_reducible refine (aA.calls k _ _ l0 kT _ ?ay ?az A3.out).mono ?_); (case ay => exact cb_ (HR0.out)); (case az => exact HC0.out); rintro e w21 ⟨v358, rfl, ho0, hb⟩; have jv := aa.mk (Kd.bV ho0 (ax bl_)); replace HB := aa.mk (ai bl_ hb); (try clear hb); (try clear hb2); (try clear hk); (try clear hi); (try clear ho0)) | (go_at_call 116; (with_reducible refine (aA.calls k _ _ l1 lW _ ?ay ?az A4.out).mono ?_); (case ay => exact cb_ (Kd.bB HR1.out HB.out)); (case az => exact HC1.out); rintro e w22 ⟨v361, rfl, ho0, hb⟩; have tZ := aa.mk (Kd.bV (Kd.eD ho0 (Kd.gF (pR_ jv.out))) (ax bl_)); replace jv := aa.mk (Kd.eF (pR_ jv.out) (Kd.cO ho0) hb); replace HB := aa.mk (ai bl_ hb); (try clear hb); (try clear hb2); (try clear hk); (try clear hi); (try clear ho0); obtain ⟨BD, zl, DJ⟩ := Kd.df jv.out; subst DJ; obtain ⟨xe, uj, EB⟩ := Kd.df tZ.out; subst EB))
   repeat (go_quiet (first | (go_at_call 116; (with_reducible refine (aA.calls k _ _ l0 kT _ ?ay ?az A3.out).mono ?_); (case ay => exact cb_ (HR0.out)); (case az => exact HC0.out); rintro e w21 ⟨v358, rfl, ho0, hb⟩; have jv := aa.mk (Kd.bV ho0 (ax bl_)); replace HB := aa.mk (ai bl_ hb); (try clear hb); (try clear hb2); (try clear hk); (try clear hi); (try clear ho0)) | (go_at_call 116; (with_reducible refine (aA.calls k _ _ l1 lW _ ?ay ?az A4.out).mono ?_); (case ay => exact cb_ (Kd.bB HR1.out HB.out)); (case az => exact HC1.out); rintro e w22 ⟨v361, rfl, ho0, hb⟩; have tZ := aa.mk (Kd.bV (Kd.eD ho0 (Kd.gF (pR_ jv.out))) (ax bl_)); replace jv := aa.mk (Kd.eF (pR_ jv.out) (Kd.cO ho0) hb); replace HB := aa.mk (ai bl_ hb); (try clear hb); (try clear hb2); (try clear hk); (try clear hi); (try clear ho0); obtain ⟨BD, zl, DJ⟩ := Kd.df jv.out; subst DJ; obtain ⟨xe, uj, EB⟩ := Kd.df tZ.out; subst EB)); try go_wp2_with (first | (go_at_call 116; (with_reducible refine (aA.calls k _ _ l0 kT _ ?ay ?az A3.out).mono ?_); (case ay => exact cb_ (HR0.out)); (case az => exact HC0.out); rintro e w21 ⟨v358, rfl, ho0, hb⟩; have jv := aa.mk (Kd.bV ho0 (ax bl_)); replace HB := aa.mk (ai bl_ hb); (try clear hb); (try clear hb2); (try clear hk); (try clear hi); (try clear ho0)) | (go_at_call 116; (with_reducible refine (aA.calls k _ _ l1 lW _ ?ay ?az A4.out).mono ?_); (case ay => exact cb_ (Kd.bB HR1.out HB.out)); (case az => exact HC1.out); rintro e w22 ⟨v361, rfl, ho0, hb⟩; have tZ := aa.mk (Kd.bV (Kd.eD ho0 (Kd.gF (pR_ jv.out))) (ax bl_)); replace jv := aa.mk (Kd.eF (pR_ jv.out) (Kd.cO ho0) hb); replace HB := aa.mk (ai bl_ hb); (try clear hb); (try clear hb2); (try clear hk); (try clear hi); (try clear ho0); obtain ⟨BD, zl, DJ⟩ := Kd.df jv.out; subst DJ; obtain ⟨xe, uj, EB⟩ := Kd.df tZ.out; subst EB)))
   go_ret; exact ⟨re_, bl_⟩

end Go.Proofs.YtggelekooacmnaaDoor.Q
namespace Go.Proofs.YtggelekooacmnaaDoor.Q
open Go.RowKit Go.Proofs.YtggelekooacmnaaDoorW.bg Go.Proofs.YtggelekooacmnaaDoorW.bW Go.Proofs.YtggelekooacmnaaDoorW.dh
set_option linter.unusedVariables false

def fO.f (k : Nat) (l0 : List Int) (a1 : Int) : Option (List Int) := none  -- never reached
theorem fO.mono : ∀ a0 a1 k, LeO (fO.f k a0 a1) (fO.f (k + 1) a0 a1) := fun _ _ _ => LeO.none _
theorem fO.calls (k : Nat) (A0 : Option Addr) (c0 : Nat) (l0 : List Int) (a1 : Int) (r : List Int) (w : World) (hr0 : Kd.C (Kd.int .u32) w A0 l0.length l0) (hc0 : l0.length ≤ c0) (h : fO.f k l0 a1 = some r) :
    Calls Tryd.prog 124 #[.slice A0 l0.length c0, .int .i64 a1] w fun e w' => ∃ v0_ : Value, e = .returned (v0_) ∧ Kd.R (Kd.int .u32) 119 w' w.heap.size (fun _ => True) v0_ r ∧ Below w.heap.size w w' := by
  cases h

end Go.Proofs.YtggelekooacmnaaDoor.Q
namespace Go.Proofs.YtggelekooacmnaaDoor.Q
open Go.RowKit Go.Proofs.YtggelekooacmnaaDoorW.bg Go.Proofs.YtggelekooacmnaaDoorW.bW Go.Proofs.YtggelekooacmnaaDoorW.dh
set_option linter.unusedVariables false

def iK.f (k : Nat) (l0 : List Int) (l1 : List Int) (a2 : Int) : Option (Int × List Int) := none  -- never reached
theorem iK.mono : ∀ a0 a1 a2 k, LeO (iK.f k a0 a1 a2) (iK.f (k + 1) a0 a1 a2) := fun _ _ _ _ => LeO.none _
theorem iK.calls (k : Nat) (P0_ : Nat → Prop) (Ux : Value) (l0 : List Int) (A1 : Option Addr) (c1 : Nat) (l1 : List Int) (a2 : Int) (r1 : Int) (r2 : List Int) (w0 w : World) (hB : Below w0.heap.size w0 w) (ho0 : Kd.R (Kd.int .u32) 119 w w0.heap.size P0_ Ux l0) (hr1 : ∀ W_, Kept w W_ (fun k_ => P0_ k_) → Kd.C (Kd.int .u32) W_ A1 l1.length l1) (hc1 : l1.length ≤ c1) (h : iK.f k l0 l1 a2 = some (r1, r2)) :
    Calls Tryd.prog 125 #[Ux, .slice A1 l1.length c1, .int .i64 a2] w fun e w' => e = .returned (.int .u32 r1) ∧ Kd.R (Kd.int .u32) 119 w' w0.heap.size (fun k_ => (P0_ k_ ∨ w.heap.size ≤ k_)) Ux r2 ∧ Below w0.heap.size w0 w' ∧ Kept w w' (fun k_ => P0_ k_) := by
  cases h

end Go.Proofs.YtggelekooacmnaaDoor.Q
namespace Go.Proofs.YtggelekooacmnaaDoor.Q
open Go.RowKit Go.Proofs.YtggelekooacmnaaDoorW.bg Go.Proofs.YtggelekooacmnaaDoorW.bW Go.Proofs.YtggelekooacmnaaDoorW.dh
set_option linter.unusedVariables false

def iA.f (k : Nat) (l0 : List Int) (a1 : Int) : Option (List Int) := none  -- never reached
theorem iA.mono : ∀ a0 a1 k, LeO (iA.f k a0 a1) (iA.f (k + 1) a0 a1) := fun _ _ _ => LeO.none _
theorem iA.calls (k : Nat) (A0 : Option Addr) (c0 : Nat) (l0 : List Int) (a1 : Int) (r : List Int) (w : World) (hr0 : Kd.C (Kd.int .u32) w A0 l0.length l0) (hc0 : l0.length ≤ c0) (h : iA.f k l0 a1 = some r) :
    Calls Tryd.prog 126 #[.slice A0 l0.length c0, .int .i64 a1] w fun e w' => ∃ v0_ : Value, e = .returned (v0_) ∧ Kd.R (Kd.int .u32) 119 w' w.heap.size (fun _ => True) v0_ r ∧ Below w.heap.size w w' := by
  cases h

end Go.Proofs.YtggelekooacmnaaDoor.Q
namespace Go.Proofs.YtggelekooacmnaaDoor.Q
open Go.RowKit Go.Proofs.YtggelekooacmnaaDoorW.bg Go.Proofs.YtggelekooacmnaaDoorW.bW Go.Proofs.YtggelekooacmnaaDoorW.dh
attribute [local go_sem] fE fF gy gz eO eP fG fH   -- for this text's walks alone
set_option linter.unusedVariables false
set_option linter.unusedSimpArgs false

/-! ### bn: function 122 -/
mutual
def bn.l0 : Nat → List Int → List Int → Int → Option (List Int × List Int × Int)
 | 0, _, _, _ => none
 | k + 1, x0, x1, x9 => if 0 ≤ (wrap64 ((x1.length : Int) - 1)) then (if (wrap64 ((x1.length : Int) - 1)) < (x1.length : Int) then (if 0 ≤ (IntKind.u64.wrap (x9)) then (if (shl .u32 (rd x1 (wrap64 ((x1.length : Int) - 1))) (IntKind.u64.wrap (x9))) < 2147483648 then (bn.l0 k x0 x1 (wrap64 (x9 + 1))) else ((fO.f k x0 x9).bind fun F3 => ((fO.f k x1 x9).bind fun Je => ((aA.f k Je).bind fun xN => (if 0 ≤ (wrap64 ((wrap64 ((x0.length : Int) - (x1.length : Int))) + 1)) then (if (wrap64 ((wrap64 ((x0.length : Int) - (x1.length : Int))) + 1) : Int).toNat ≤ 70368744177664 then ((some (List.replicate (wrap64 ((wrap64 ((x0.length : Int) - (x1.length : Int))) + 1) : Int).toNat 0 : List Int)).bind fun uk => (bn.l1 k x9 F3 xN uk (wrap64 ((uk.length : Int) - 1)))) else (none)) else (none)))))) else (none)) else (none)) else (none)
def bn.l1 : Nat → Int → List Int → List Int → List Int → Int → Option (List Int × List Int × Int)
 | 0, _, _, _, _, _ => none
 | k + 1, x9, x10, x11, x12, x13 => if x13 ≥ 0 then ((iK.f k x10 x11 x13).bind fun bt432 => (if 0 ≤ x13 then (if x13 < (x12.length : Int) then (bn.l1 k x9 bt432.2 x11 (x12.set (x13 : Int).toNat bt432.1) (wrap64 (x13 - 1))) else (none)) else (none))) else ((aA.f k x12).bind fun t435 => ((iA.f k x10 x9).bind fun t438 => (some (t435, t438, 0))))
end
def bn.f (k : Nat) (l0 : List Int) (l1 : List Int) : Option (List Int × List Int × Int) := (aA.f k l0).bind fun kz => ((aA.f k l1).bind fun iI => (if (iI.length : Int) = 0 then (some (([] : List Int), ([] : List Int), 3)) else ((dP.f k kz iI).bind fun t407 => (if t407 < 0 then (some (([] : List Int), kz, 0)) else (if (iI.length : Int) = 1 then (if 0 < (iI.length : Int) then ((bU.f k kz (rd iI 0)).bind fun Qi => ((aA.f k (([Qi.2] : List Int))).bind fun t416 => (some (Qi.1, t416, 0)))) else (none)) else (bn.l0 k kz iI 0))))))
theorem bn.iQ : ∀ k, (∀ y0 y1 y2, LeO (bn.l0 k y0 y1 y2) (bn.l0 (k + 1) y0 y1 y2)) ∧ (∀ y0 y1 y2 y3 y4, LeO (bn.l1 k y0 y1 y2 y3 y4) (bn.l1 (k + 1) y0 y1 y2 y3 y4))
 | 0 => ⟨fun _ _ _ r h => by simp [bn.l0] at h, fun _ _ _ _ _ r h => by simp [bn.l1] at h⟩
 | k + 1 => by
  obtain ⟨ih0, ih1⟩ := bn.iQ k; refine ⟨?_, ?_⟩
  ·intro y0 y1 y2; unfold bn.l0; repeat' first
   | (with_reducible exact ih0 _ _ _)
   | (with_reducible exact ih1 _ _ _ _ _)
   | (with_reducible exact dP.mono _ _ _)
   | (with_reducible exact aA.mono _ _)
   | (with_reducible exact iK.mono _ _ _ _)
   | (with_reducible exact fO.mono _ _ _)
   | (with_reducible exact bU.mono _ _ _)
   | (with_reducible exact iA.mono _ _ _)
   | (with_reducible exact LeO.refl _)
   | (with_reducible exact LeO.none _)
   | (with_reducible refine LeO.ite ?_ ?_)
   | (with_reducible refine LeO.bind ?_ (fun _ => ?_))
   | exact ih0 _ _ _
   | exact ih1 _ _ _ _ _
   | exact dP.mono _ _ _
   | exact aA.mono _ _
   | exact iK.mono _ _ _ _
   | exact fO.mono _ _ _
   | exact bU.mono _ _ _
   | exact iA.mono _ _ _
   | exact LeO.none _
   | refine LeO.ite ?_ ?_
   | refine LeO.bind ?_ (fun _ => ?_)
  ·intro y0 y1 y2 y3 y4; unfold bn.l1; repeat' first
   | (with_reducible exact ih0 _ _ _)
   | (with_reducible exact ih1 _ _ _ _ _)
   | (with_reducible exact dP.mono _ _ _)
   | (with_reducible exact aA.mono _ _)
   | (with_reducible exact iK.mono _ _ _ _)
   | (with_reducible exact fO.mono _ _ _)
   | (with_reducible exact bU.mono _ _ _)
   | (with_reducible exact iA.mono _ _ _)
   | (with_reducible exact LeO.refl _)
   | (with_reducible exact LeO.none _)
   | (with_reducible refine LeO.ite ?_ ?_)
   | (with_reducible refine LeO.bind ?_ (fun _ => ?_))
   | exact ih0 _ _ _
   | exact ih1 _ _ _ _ _
   | exact dP.mono _ _ _
   | exact aA.mono _ _
   | exact iK.mono _ _ _ _
   | exact fO.mono _ _ _
   | exact bU.mono _ _ _
   | exact iA.mono _ _ _
   | exact LeO.none _
   | refine LeO.ite ?_ ?_
   | refine LeO.bind ?_ (fun _ => ?_)
theorem bn.mono : ∀ a0 a1 k, LeO (bn.f k a0 a1) (bn.f (k + 1) a0 a1) := by
 intro a0 a1 k; obtain ⟨ih0, ih1⟩ := bn.iQ k; unfold bn.f
 repeat' first
   | (with_reducible exact ih0 _ _ _)
   | (with_reducible exact ih1 _ _ _ _ _)
   | (with_reducible exact dP.mono _ _ _)
   | (with_reducible exact aA.mono _ _)
   | (with_reducible exact iK.mono _ _ _ _)
   | (with_reducible exact fO.mono _ _ _)
   | (with_reducible exact bU.mono _ _ _)
   | (with_reducible exact iA.mono _ _ _)
   | (with_reducible exact LeO.refl _)
   | (with_reducible exact LeO.none _)
   | (with_reducible refine LeO.ite ?_ ?_)
   | (with_reducible refine LeO.bind ?_ (fun _ => ?_))
   | exact ih0 _ _ _
   | exact ih1 _ _ _ _ _
   | exact dP.mono _ _ _
   | exact aA.mono _ _
   | exact iK.mono _ _ _ _
   | exact fO.mono _ _ _
   | exact bU.mono _ _ _
   | exact iA.mono _ _ _
   | exact LeO.none _
   | refine LeO.ite ?_ ?_
   | refine LeO.bind ?_ (fun _ => ?_)
set_option maxHeartbeats 8000000 in
set_option maxRecDepth 100000 in
theorem bn.calls (k : Nat) (A0 : Option Addr) (c0 : Nat) (l0 : List Int) (A1 : Option Addr) (c1 : Nat) (l1 : List Int) (r1 : List Int) (r2 : List Int) (r3 : Int) (w : World) (hr0 : Kd.C (Kd.int .u32) w A0 l0.length l0) (hc0 : l0.length ≤ c0) (hr1 : Kd.C (Kd.int .u32) w A1 l1.length l1) (hc1 : l1.length ≤ c1) (h : bn.f k l0 l1 = some (r1, r2, r3)) :
  Calls Tryd.prog 122 #[.slice A0 l0.length c0, .slice A1 l1.length c1] w fun e w' => ∃ v0_ v1_ : Value, e = .returned (.tuple #[v0_, v1_, .int .i64 r3]) ∧ Kd.R (Kd.int .u32) 119 w' w.heap.size (fun k_ => some k_ ≠ (v1_ : Value).ownBlock) v0_ r1 ∧ Kd.R (Kd.int .u32) 119 w' w.heap.size (fun k_ => some k_ ≠ (v0_ : Value).ownBlock) v1_ r2 ∧ Below w.heap.size w w' := by
 have HR0 := aa.mk hr0; have HC0 := aa.mk hc0; clear hr0 hc0; have HR1 := aa.mk hr1; have HC1 := aa.mk hc1; clear hr1 hc1; have HB := aa.mk (Below.refl w.heap.size w); have H : ((aA.f k l0).bind fun kz => ((aA.f k l1).bind fun iI => (if (iI.length : Int) = 0 then (some (([] : List Int), ([] : List Int), 3)) else ((dP.f k kz iI).bind fun t407 => (if t407 < 0 then (some (([] : List Int), kz, 0)) else (if (iI.length : Int) = 1 then (if 0 < (iI.length : Int) then ((bU.f k kz (rd iI 0)).bind fun Qi => ((aA.f k (([Qi.2] : List Int))).bind fun t416 => (some (Qi.1, t416, 0)))) else (none)) else (bn.l0 k kz iI 0))))))) = some (r1, r2, r3) := h; clear h; replace H := Option.bind_eq_some_iff.mp H; obtain ⟨kz, A30, H⟩ := H; (try dsimp only at H)
 have A3 := aa.mk A30; clear A30; replace H := Option.bind_eq_some_iff.mp H; obtain ⟨iI, A40, H⟩ := H; (try dsimp only at H)
 have A4 := aa.mk A40; clear A40; by_cases c5 : (iI.length : Int) = 0
 ·rw [if_pos c5] at H; obtain ⟨jU, sJ⟩ := bq_ c5; clear c5; simp only [Option.some.injEq, Prod.mk.injEq] at H; obtain ⟨rfl, rfl, rfl⟩ := H; go_enter Tryd.func122, Tryd.ntmps122; go_wp2_with (first | ((with_reducible refine aC (f := 116) rfl ?_); refine aX (some 15) rfl rfl Tryd.func116 (by kernel_rfl) rfl #[.slice A0 l0.length c0] rfl mp_ ?_; (with_reducible refine (aA.calls k _ _ l0 kz _ ?ay ?az A3.out).mono ?_); (case ay => exact cb_ (HR0.out)); (case az => exact HC0.out); rintro e w6 ⟨v402, rfl, ho0, hb⟩; refine ⟨_, rfl, ?_⟩; have jG := aa.mk (Kd.bV ho0 (ax bl_)); replace HB := aa.mk (ai bl_ hb); (try clear hb); (try clear hb2); (try clear hk); (try clear hi); (try clear ho0)) | ((with_reducible refine aC (f := 116) rfl ?_); refine aX (some 17) rfl rfl Tryd.func116 (by kernel_rfl) rfl #[.slice A1 l1.length c1] rfl mp_ ?_; (with_reducible refine (aA.calls k _ _ l1 iI _ ?ay ?az A4.out).mono ?_); (case ay => exact cb_ (Kd.bB HR1.out HB.out)); (case az => exact HC1.out); rintro e w7 ⟨v405, rfl, ho0, hb⟩; refine ⟨_, rfl, ?_⟩; have lV := aa.mk (Kd.bV (Kd.eD ho0 (Kd.gF (pR_ jG.out))) (ax bl_)); replace jG := aa.mk (Kd.eF (pR_ jG.out) (Kd.cO ho0) hb); replace HB := aa.mk (ai bl_ hb); (try clear hb); (try clear hb2); (try clear hk); (try clear hi); (try clear ho0); obtain ⟨Ao8, co8, eo8⟩ := Kd.df lV.out; subst eo8))
  go_ret3; exact ⟨_, _, re_, by first | exact Kd.oC _ _ _ _ _ | exact Kd.xG _ _ _ _ _ | exact Kd.xI _ _ _ _ _ | exact Kd.xD _ _ _ _ _ | exact Kd.xE _ _ _ _ _, by first | exact Kd.oC _ _ _ _ _ | exact Kd.xG _ _ _ _ _ | exact Kd.xI _ _ _ _ _ | exact Kd.xD _ _ _ _ _ | exact Kd.xE _ _ _ _ _, bl_⟩
 ·rw [if_neg c5] at H; obtain ⟨jU, sJ⟩ := bn_ c5; have c5b2 : ¬ (iI = []) := fun h_ => c5 (by rw [h_]; rfl)
  replace H := Option.bind_eq_some_iff.mp H; obtain ⟨t407, A90, H⟩ := H; (try dsimp only at H)
  have A9 := aa.mk A90; clear A90; by_cases c10 : t407 < 0
  ·rw [if_pos c10] at H; have kv := decide_eq_true c10; clear c10; simp only [Option.some.injEq, Prod.mk.injEq] at H; obtain ⟨rfl, rfl, rfl⟩ := H; go_enter Tryd.func122, Tryd.ntmps122; go_wp2_with (first | ((with_reducible refine aC (f := 116) rfl ?_); refine aX (some 15) rfl rfl Tryd.func116 (by kernel_rfl) rfl #[.slice A0 l0.length c0] rfl mp_ ?_; (with_reducible refine (aA.calls k _ _ l0 kz _ ?ay ?az A3.out).mono ?_); (case ay => exact cb_ (HR0.out)); (case az => exact HC0.out); rintro e w11 ⟨v402, rfl, ho0, hb⟩; refine ⟨_, rfl, ?_⟩; have jG := aa.mk (Kd.bV ho0 (ax bl_)); replace HB := aa.mk (ai bl_ hb); (try clear hb); (try clear hb2); (try clear hk); (try clear hi); (try clear ho0)) | ((with_reducible refine aC (f := 116) rfl ?_); refine aX (some 17) rfl rfl Tryd.func116 (by kernel_rfl) rfl #[.slice A1 l1.length c1] rfl mp_ ?_; (with_reducible refine (aA.calls k _ _ l1 iI _ ?ay ?az A4.out).mono ?_); (case ay => exact cb_ (Kd.bB HR1.out HB.out)); (case az => exact HC1.out); rintro e w12 ⟨v405, rfl, ho0, hb⟩; refine ⟨_, rfl, ?_⟩; have lV := aa.mk (Kd.bV (Kd.eD ho0 (Kd.gF (pR_ jG.out))) (ax bl_)); replace jG := aa.mk (Kd.eF (pR_ jG.out) (Kd.cO ho0) hb); replace HB := aa.mk (ai bl_ hb); (try clear hb); (try clear hb2); (try clear hk); (try clear hi); (try clear ho0); obtain ⟨yN, xO, eo13⟩ := Kd.df lV.out; subst eo13; obtain ⟨Ao14, co14, eo14⟩ := Kd.df jG.out; subst eo14) | ((with_reducible refine aC (f := 123) rfl ?_); refine aX (some 23) rfl rfl Tryd.func123 (by kernel_rfl) rfl #[.slice Ao14 kz.length co14, .slice yN iI.length xO] rfl mp_ ?_; (with_reducible refine (dP.calls k _ _ kz _ _ iI t407 _ ?ay ?az ?iB ?iF A9.out).mono ?_); (case ay => exact cb_ ((Kd.bu jG.out).2.2)); (case az => exact (Kd.bu jG.out).2.1); (case iB => exact cb_ ((Kd.bu lV.out).2.2)); (case iF => exact (Kd.bu lV.out).2.1); rintro e w15 ⟨rfl, hb⟩; refine ⟨_, rfl, ?_⟩; replace jG := aa.mk (Kd.gq (pR_ jG.out) hb); replace lV := aa.mk (Kd.gq (pR_ lV.out) hb); replace HB := aa.mk (ai bl_ hb); (try clear hb); (try clear hb2); (try clear hk); (try clear hi)))
   go_ret3; exact ⟨_, _, re_, by first | exact Kd.oC _ _ _ _ _ | exact Kd.xG _ _ _ _ _ | exact Kd.xI _ _ _ _ _ | exact Kd.xD _ _ _ _ _ | exact Kd.xE _ _ _ _ _, by (with_reducible repeat (first | apply Kd.dx | apply Kd.dz | apply Kd.dH)); exact Kd.cK jG.out (fun _ hk => (by simp [Value.ownBlock])), bl_⟩
  ·rw [if_neg c10] at H; have kv := decide_eq_false c10; clear c10; by_cases c16 : (iI.length : Int) = 1
   ·rw [if_pos c16] at H; obtain ⟨Gf, LF⟩ := bq_ c16; clear c16; by_cases c17 : 0 < (iI.length : Int)
    ·rw [if_pos c17] at H; have qV := decide_eq_true c17; have xK : decide (0 < iI.length) = true := decide_eq_true (by omega); clear c17; replace H := Option.bind_eq_some_iff.mp H; obtain ⟨⟨t409, t410⟩, A180, H⟩ := H; (try dsimp only at H)
     have A18 := aa.mk A180; clear A180; obtain ⟨y413, Qj⟩ : ∃ y_ : List Int, y_ = (([t410] : List Int)) := ⟨_, rfl⟩; replace H : ((aA.f k y413).bind fun t416 => (some (t409, t416, 0))) = some (r1, r2, r3) := by first | (rw [Qj]; with_reducible exact H) | (have H2_ := (Option.bind_some _ _).symm.trans H; rw [Qj]; with_reducible exact H2_) | (have H2_ := (Option.bind_some _ _).symm.trans H; with_reducible exact H2_) | with_reducible exact H | (rw [Qj]; exact H) | exact H
     have Ny413 := aa.mk Qj; clear Qj; replace H := Option.bind_eq_some_iff.mp H; obtain ⟨t416, A190, H⟩ := H; (try dsimp only at H)
     have A19 := aa.mk A190; clear A190; simp only [Option.some.injEq, Prod.mk.injEq] at H; obtain ⟨rfl, rfl, rfl⟩ := H; go_enter Tryd.func122, Tryd.ntmps122; go_wp2_with (first | ((with_reducible refine aC (f := 116) rfl ?_); refine aX (some 15) rfl rfl Tryd.func116 (by kernel_rfl) rfl #[.slice A0 l0.length c0] rfl mp_ ?_; (with_reducible refine (aA.calls k _ _ l0 kz _ ?ay ?az A3.out).mono ?_); (case ay => exact cb_ (HR0.out)); (case az => exact HC0.out); rintro e w20 ⟨v402, rfl, ho0, hb⟩; refine ⟨_, rfl, ?_⟩; have jG := aa.mk (Kd.bV ho0 (ax bl_)); replace HB := aa.mk (ai bl_ hb); (try clear hb); (try clear hb2); (try clear hk); (try clear hi); (try clear ho0)) | ((with_reducible refine aC (f := 116) rfl ?_); refine aX (some 17) rfl rfl Tryd.func116 (by kernel_rfl) rfl #[.slice A1 l1.length c1] rfl mp_ ?_; (with_reducible refine (aA.calls k _ _ l1 iI _ ?ay ?az A4.out).mono ?_); (case ay => exact cb_ (Kd.bB HR1.out HB.out)); (case az => exact HC1.out); rintro e w21 ⟨v405, rfl, ho0, hb⟩; refine ⟨_, rfl, ?_⟩; have lV := aa.mk (Kd.bV (Kd.eD ho0 (Kd.gF (pR_ jG.out))) (ax bl_)); replace jG := aa.mk (Kd.eF (pR_ jG.out) (Kd.cO ho0) hb); replace HB := aa.mk (ai bl_ hb); (try clear hb); (try clear hb2); (try clear hk); (try clear hi); (try clear ho0); obtain ⟨Jf, Jg, eo22⟩ := Kd.df lV.out; subst eo22; obtain ⟨BD, zl, DJ⟩ := Kd.df jG.out; subst DJ) | ((with_reducible refine aC (f := 123) rfl ?_); refine aX (some 23) rfl rfl Tryd.func123 (by kernel_rfl) rfl #[.slice BD kz.length zl, .slice Jf iI.length Jg] rfl mp_ ?_; (with_reducible refine (dP.calls k _ _ kz _ _ iI t407 _ ?ay ?az ?iB ?iF A9.out).mono ?_); (case ay => exact cb_ ((Kd.bu jG.out).2.2)); (case az => exact (Kd.bu jG.out).2.1); (case iB => exact cb_ ((Kd.bu lV.out).2.2)); (case iF => exact (Kd.bu lV.out).2.1); rintro e w24 ⟨rfl, hb⟩; refine ⟨_, rfl, ?_⟩; replace jG := aa.mk (Kd.gq (pR_ jG.out) hb); replace lV := aa.mk (Kd.gq (pR_ lV.out) hb); replace HB := aa.mk (ai bl_ hb); (try clear hb); (try clear hb2); (try clear hk); (try clear hi); have p408 : 0 ≤ (0 : Int) := (by omega); have q408 : 0 < (iI.length : Int) := dt_; obtain ⟨ad408, e408, Od⟩ := Kd.lX (Kd.bu lV.out).2.2 0 p408 q408; cases e408; have qi408 : (0 < iI.length) = True := eq_true (by omega); (try rw [show ((0 : Int)).toNat = 0 from rfl] at Od); (try rw [Addr.add_zero'] at Od); replace p408 := eq_true p408; replace q408 := eq_true q408) | ((with_reducible refine aC (f := 118) rfl ?_); refine aX (some 34) rfl rfl Tryd.func118 (by kernel_rfl) rfl #[.slice BD kz.length zl, .int .u32 (rd iI 0)] rfl mp_ ?_; (with_reducible refine (bU.calls k _ _ kz (rd iI 0) t409 t410 _ ?ay ?az A18.out).mono ?_); (case ay => exact cb_ ((Kd.bu jG.out).2.2)); (case az => exact (Kd.bu jG.out).2.1); rintro e w25 ⟨v411, rfl, ho0, hb⟩; refine ⟨_, rfl, ?_⟩; have Mg := aa.mk (Kd.bV (Kd.eD (Kd.eD ho0 (Kd.gF (pR_ jG.out))) (Kd.gF (pR_ lV.out))) (ax bl_)); replace jG := aa.mk (Kd.eF (pR_ jG.out) (Kd.cO ho0) hb); replace lV := aa.mk (Kd.eF (pR_ lV.out) (Kd.cO ho0) hb); replace HB := aa.mk (ai bl_ hb); (try clear hb); (try clear hb2); (try clear hk); (try clear hi); (try clear ho0)) | ((with_reducible refine aU (N := 39) rfl ?_); refine Kd.oD (Kd.int .u32) _ 119 ?hg (N := 39) ?hd (xs := ([t410] : List Int)) (inner := [.int .u32 t410]) (ok := fun _ => True) (okp := fun _ => True) ?hr ?hp (fun _ hk => hk) trivial (Below.refl _ _) (Nat.le_refl _) (by simp) ?_; (case hd => rfl); (case hg => rfl); (case hr => first | (go_simp; done) | (go_simp; rfl)); (case hp => exact (dN.one (show Kd.M (Kd.int .u32) _ _ _ t410 [.int .u32 t410] from rfl) (dN.none _ _))); intro v414 w26 ho27 hb hg_ ig; clear hg_ ig; (first | rw [← Ny413.out] at ho27 | (simp only [Int.reduceToNat] at ho27; rw [← Ny413.out] at ho27)); have Oe := aa.mk (Kd.bV (Kd.eD (Kd.eD (Kd.eD ho27 (Kd.gF (pR_ jG.out))) (Kd.gF (pR_ lV.out))) (Kd.gF (pR_ Mg.out))) (ax bl_)); replace jG := aa.mk (Kd.eF (pR_ jG.out) (Kd.cO ho27) hb); replace lV := aa.mk (Kd.eF (pR_ lV.out) (Kd.cO ho27) hb); replace Mg := aa.mk (Kd.eF (pR_ Mg.out) (Kd.cO ho27) hb); replace HB := aa.mk (ai bl_ hb); clear hb ho27; obtain ⟨Ao28, co28, eo28⟩ := Kd.df Oe.out; subst eo28) | ((with_reducible refine aC (f := 116) rfl ?_); refine aX (some 40) rfl rfl Tryd.func116 (by kernel_rfl) rfl #[.slice Ao28 y413.length co28] rfl mp_ ?_; (with_reducible refine (aA.calls k _ _ y413 t416 _ ?ay ?az A19.out).mono ?_); (case ay => exact cb_ ((Kd.bu Oe.out).2.2)); (case az => exact (Kd.bu Oe.out).2.1); rintro e w29 ⟨v417, rfl, ho0, hb⟩; refine ⟨_, rfl, ?_⟩; have HO418 := aa.mk (Kd.bV (Kd.eD (Kd.eD (Kd.eD (Kd.eD ho0 (Kd.gF (pR_ jG.out))) (Kd.gF (pR_ lV.out))) (Kd.gF (pR_ Mg.out))) (Kd.gF (pR_ Oe.out))) (ax bl_)); replace jG := aa.mk (Kd.eF (pR_ jG.out) (Kd.cO ho0) hb); replace lV := aa.mk (Kd.eF (pR_ lV.out) (Kd.cO ho0) hb); replace Mg := aa.mk (Kd.eF (pR_ Mg.out) (Kd.cO ho0) hb); replace Oe := aa.mk (Kd.eF (pR_ Oe.out) (Kd.cO ho0) hb); replace HB := aa.mk (ai bl_ hb); (try clear hb); (try clear hb2); (try clear hk); (try clear hi); (try clear ho0)))
     go_ret3; exact ⟨_, _, re_, by (with_reducible repeat (first | apply Kd.dx | apply Kd.dz | apply Kd.dH)); exact Kd.cK Mg.out (fun _ hk => hk.2), by (with_reducible repeat (first | apply Kd.dx | apply Kd.dz | apply Kd.dH)); exact Kd.cK HO418.out (fun _ hk => hk.1.2), bl_⟩
    ·rw [if_neg c17] at H; exact absurd H (by simp)
   ·rw [if_neg c16] at H; obtain ⟨Gf, LF⟩ := bn_ c16; have H' := aa.mk H; clear H; go_enter Tryd.func122, Tryd.ntmps122; go_wp2_with (first | ((with_reducible refine aC (f := 116) rfl ?_); refine aX (some 15) rfl rfl Tryd.func116 (by kernel_rfl) rfl #[.slice A0 l0.length c0] rfl mp_ ?_; (with_reducible refine (aA.calls k _ _ l0 kz _ ?ay ?az A3.out).mono ?_); (case ay => exact cb_ (HR0.out)); (case az => exact HC0.out); rintro e w30 ⟨v402, rfl, ho0, hb⟩; refine ⟨_, rfl, ?_⟩; have jG := aa.mk (Kd.bV ho0 (ax bl_)); replace HB := aa.mk (ai bl_ hb); (try clear hb); (try clear hb2); (try clear hk); (try clear hi); (try clear ho0)) | ((with_reducible refine aC (f := 116) rfl ?_); refine aX (some 17) rfl rfl Tryd.func116 (by kernel_rfl) rfl #[.slice A1 l1.length c1] rfl mp_ ?_; (with_reducible refine (aA.calls k _ _ l1 iI _ ?ay ?az A4.out).mono ?_); (case ay => exact cb_ (Kd.bB HR1.out HB.out)); (case az => exact HC1.out); rintro e w31 ⟨v405, rfl, ho0, hb⟩; refine ⟨_, rfl, ?_⟩; have lV := aa.mk (Kd.bV (Kd.eD ho0 (Kd.gF (pR_ jG.out))) (ax bl_)); replace jG := aa.mk (Kd.eF (pR_ jG.out) (Kd.cO ho0) hb); replace HB := aa.mk (ai bl_ hb); (try clear hb); (try clear hb2); (try clear hk); (try clear hi); (try clear ho0); obtain ⟨dK, dI, eo32⟩ := Kd.df lV.out; subst eo32; obtain ⟨Ao33, co33, eo33⟩ := Kd.df jG.out; subst eo33) | ((with_reducible refine aC (f := 123) rfl ?_); refine aX (some 23) rfl rfl Tryd.func123 (by kernel_rfl) rfl #[.slice Ao33 kz.length co33, .slice dK iI.length dI] rfl mp_ ?_; (with_reducible refine (dP.calls k _ _ kz _ _ iI t407 _ ?ay ?az ?iB ?iF A9.out).mono ?_); (case ay => exact cb_ ((Kd.bu jG.out).2.2)); (case az => exact (Kd.bu jG.out).2.1); (case iB => exact cb_ ((Kd.bu lV.out).2.2)); (case iF => exact (Kd.bu lV.out).2.1); rintro e w34 ⟨rfl, hb⟩; refine ⟨_, rfl, ?_⟩; replace jG := aa.mk (Kd.gq (pR_ jG.out) hb); replace lV := aa.mk (Kd.gq (pR_ lV.out) hb); replace HB := aa.mk (ai bl_ hb); (try clear hb); (try clear hb2); (try clear hk); (try clear hi)))
    go_loopg [9] k (fun kq v9 w' => ∃ (jA : Int), v9 = .int .i64 jA ∧ aa (bn.l0 kq kz iI jA = some (r1, r2, r3)) ∧ aa (kq ≤ k) ∧ aa (Kd.R (Kd.int .u32) 119 w' w.heap.size (fun k_ => some k_ ≠ ((.slice dK iI.length dI) : Value).ownBlock) (.slice Ao33 kz.length co33) kz) ∧ aa (Kd.R (Kd.int .u32) 119 w' w.heap.size (fun k_ => some k_ ≠ ((.slice Ao33 kz.length co33) : Value).ownBlock) (.slice dK iI.length dI) iI) ∧ aa (Below w.heap.size w w'))
    case atStart => exact ⟨(0), rs_, H', ⟨Nat.le_refl _⟩, ⟨by (with_reducible repeat (first | apply Kd.dx | apply Kd.dz | apply Kd.dH)); exact Kd.cK jG.out (fun _ hk => hk.2)⟩, ⟨by (with_reducible repeat (first | apply Kd.dx | apply Kd.dz | apply Kd.dH)); exact Kd.cK lV.out (fun _ hk => hk.2)⟩, ⟨bl_⟩⟩
    case round =>
     clear H'; (try clear c1); (try clear p2); (try clear p4); (try clear q4); (try clear hx4); (try clear qi4); (try clear c5); (try clear jU); (try clear sJ); (try clear c5b2); (try clear c10); (try clear kv); (try clear c11); (try clear c12); (try clear c16); (try clear Gf); (try clear LF); (try clear c17); (try clear qV); (try clear xK); (try clear Od); (try clear p408); (try clear q408); obtain ⟨jA, rfl, HA, HK1, kK, mg, HB⟩ := hrel; cases gk with
     | zero => exact absurd HA.out (by simp [bn.l0])
     | succ k1 =>
      have H := HA.out; clear HA; simp only [bn.l0] at H; obtain ⟨Bf, hji35⟩ : ∃ j_ : Int, (wrap64 ((iI.length : Int) - 1)) = j_ := ⟨_, rfl⟩; replace H : (if 0 ≤ (Bf) then (if (Bf) < (iI.length : Int) then (if 0 ≤ (IntKind.u64.wrap (jA)) then (if (shl .u32 (rd iI (Bf)) (IntKind.u64.wrap (jA))) < 2147483648 then (bn.l0 k1 kz iI (wrap64 (jA + 1))) else ((fO.f k1 kz jA).bind fun F3 => ((fO.f k1 iI jA).bind fun Je => ((aA.f k1 Je).bind fun xN => (if 0 ≤ (wrap64 ((wrap64 ((kz.length : Int) - (iI.length : Int))) + 1)) then (if (wrap64 ((wrap64 ((kz.length : Int) - (iI.length : Int))) + 1) : Int).toNat ≤ 70368744177664 then ((some (List.replicate (wrap64 ((wrap64 ((kz.length : Int) - (iI.length : Int))) + 1) : Int).toNat 0 : List Int)).bind fun uk => (bn.l1 k1 jA F3 xN uk (wrap64 ((uk.length : Int) - 1)))) else (none)) else (none)))))) else (none)) else (none)) else (none)) = some (r1, r2, r3) := by first | (rw [hji35] at H; exact H) | (simp only [hji35] at H ⊢; exact H)
      have hji35w : (IntKind.i64.wrap ((iI.length : Int) - 1)) = Bf := (eT _).trans hji35; by_cases c36 : 0 ≤ (Bf)
      ·rw [if_pos c36] at H; have Fg := decide_eq_true c36; clear c36; by_cases c37 : (Bf) < (iI.length : Int)
       ·rw [if_pos c37] at H; have PG := decide_eq_true c37; clear c37; obtain ⟨ji38, hji38⟩ : ∃ j_ : Int, (IntKind.u64.wrap (jA)) = j_ := ⟨_, rfl⟩; replace H : (if 0 ≤ (ji38) then (if (shl .u32 (rd iI (Bf)) (ji38)) < 2147483648 then (bn.l0 k1 kz iI (wrap64 (jA + 1))) else ((fO.f k1 kz jA).bind fun F3 => ((fO.f k1 iI jA).bind fun Je => ((aA.f k1 Je).bind fun xN => (if 0 ≤ (wrap64 ((wrap64 ((kz.length : Int) - (iI.length : Int))) + 1)) then (if (wrap64 ((wrap64 ((kz.length : Int) - (iI.length : Int))) + 1) : Int).toNat ≤ 70368744177664 then ((some (List.replicate (wrap64 ((wrap64 ((kz.length : Int) - (iI.length : Int))) + 1) : Int).toNat 0 : List Int)).bind fun uk => (bn.l1 k1 jA F3 xN uk (wrap64 ((uk.length : Int) - 1)))) else (none)) else (none)))))) else (none)) = some (r1, r2, r3) := by first | (rw [hji38] at H; exact H) | (simp only [hji38] at H ⊢; exact H)
        by_cases c39 : 0 ≤ (ji38)
        ·rw [if_pos c39] at H; have Dr := eq_true c39; have JO := decide_eq_true c39; clear c39; obtain ⟨ji40, Qk⟩ : ∃ j_ : Int, (shl .u32 (rd iI (Bf)) (ji38)) = j_ := ⟨_, rfl⟩; replace H : (if (ji40) < 2147483648 then (bn.l0 k1 kz iI (wrap64 (jA + 1))) else ((fO.f k1 kz jA).bind fun F3 => ((fO.f k1 iI jA).bind fun Je => ((aA.f k1 Je).bind fun xN => (if 0 ≤ (wrap64 ((wrap64 ((kz.length : Int) - (iI.length : Int))) + 1)) then (if (wrap64 ((wrap64 ((kz.length : Int) - (iI.length : Int))) + 1) : Int).toNat ≤ 70368744177664 then ((some (List.replicate (wrap64 ((wrap64 ((kz.length : Int) - (iI.length : Int))) + 1) : Int).toNat 0 : List Int)).bind fun uk => (bn.l1 k1 jA F3 xN uk (wrap64 ((uk.length : Int) - 1)))) else (none)) else (none)))))) = some (r1, r2, r3) := by first | (rw [Qk] at H; exact H) | (simp only [Qk] at H ⊢; exact H)
         have hji40_ : (IntKind.u32.wrap ((rd iI (Bf)) * 2 ^ min (ji38).toNat 32)) = ji40 := Qk; have hji40z : (ji38) ≤ 32 → (IntKind.u32.wrap ((rd iI (Bf)) * 2 ^ (ji38).toNat)) = ji40 := YA Qk; by_cases c41 : (ji40) < 2147483648
         ·rw [if_pos c41] at H; have tV := decide_eq_true c41; clear c41; have H' := aa.mk H; clear H; have p419 : 0 ≤ ((Bf) : Int) := dt_; have q419 : (Bf) < (iI.length : Int) := dt_; obtain ⟨ad419, e419, XB⟩ := Kd.lX (Kd.bu mg.out).2.2 (Bf) p419 q419; cases e419; replace p419 := eq_true p419; replace q419 := eq_true q419; go_wp2; go_roundg k1
          case measure => have := HK1.out; omega
          case rel => exact ⟨(wrap64 (jA + 1)), rs_, H', ⟨by have := HK1.out; omega⟩, ⟨pR_ kK.out⟩, ⟨pR_ mg.out⟩, ⟨bl_⟩⟩
         ·rw [if_neg c41] at H; have tV := decide_eq_false c41; clear c41; replace H := Option.bind_eq_some_iff.mp H; obtain ⟨F3, A420, H⟩ := H; (try dsimp only at H)
          have A42 := aa.mk A420; clear A420; replace H := Option.bind_eq_some_iff.mp H; obtain ⟨Je, A430, H⟩ := H; (try dsimp only at H)
          have A43 := aa.mk A430; clear A430; replace H := Option.bind_eq_some_iff.mp H; obtain ⟨xN, A440, H⟩ := H; (try dsimp only at H)
          have A44 := aa.mk A440; clear A440; obtain ⟨ji45, Mh⟩ : ∃ j_ : Int, (wrap64 ((wrap64 ((kz.length : Int) - (iI.length : Int))) + 1)) = j_ := ⟨_, rfl⟩; replace H : (if 0 ≤ (ji45) then (if (ji45 : Int).toNat ≤ 70368744177664 then ((some (List.replicate (ji45 : Int).toNat 0 : List Int)).bind fun uk => (bn.l1 k1 jA F3 xN uk (wrap64 ((uk.length : Int) - 1)))) else (none)) else (none)) = some (r1, r2, r3) := by first | (rw [Mh] at H; exact H) | (simp only [Mh] at H ⊢; exact H)
          (try rw [Mh] at A42)
          (try rw [Mh] at A43)
          (try rw [Mh] at A44)
          have hji45w : (IntKind.i64.wrap ((wrap64 ((kz.length : Int) - (iI.length : Int))) + 1)) = ji45 := (eT _).trans Mh; by_cases c46 : 0 ≤ (ji45)
          ·rw [if_pos c46] at H; have Pv := eq_true c46; have c46b1 := decide_eq_true c46; clear c46; by_cases c47 : (ji45 : Int).toNat ≤ 70368744177664
           ·rw [if_pos c47] at H; have c47b0 := eq_true c47; have c47b1 := decide_eq_true c47; clear c47; obtain ⟨uk, Ql⟩ : ∃ y_ : List Int, y_ = (List.replicate (ji45 : Int).toNat 0) := ⟨_, rfl⟩; replace H : (bn.l1 k1 jA F3 xN uk (wrap64 ((uk.length : Int) - 1))) = some (r1, r2, r3) := by first | (rw [Ql]; with_reducible exact H) | (have H2_ := (Option.bind_some _ _).symm.trans H; rw [Ql]; with_reducible exact H2_) | (have H2_ := (Option.bind_some _ _).symm.trans H; with_reducible exact H2_) | with_reducible exact H | (rw [Ql]; exact H) | exact H
            have Ny429 := aa.mk Ql; clear Ql; have H' := aa.mk H; clear H; have p419 : 0 ≤ ((Bf) : Int) := dt_; have q419 : (Bf) < (iI.length : Int) := dt_; obtain ⟨ad419, e419, XB⟩ := Kd.lX (Kd.bu mg.out).2.2 (Bf) p419 q419; cases e419; replace p419 := eq_true p419; replace q419 := eq_true q419; go_wp2_with (first | ((with_reducible refine aC (f := 124) rfl ?_); refine aX (some 55) rfl rfl Tryd.func124 (by kernel_rfl) rfl #[.slice Ao33 kz.length co33, .int .i64 jA] rfl mp_ ?_; (with_reducible refine (fO.calls k1 _ _ kz jA F3 _ ?ay ?az A42.out).mono ?_); (case ay => exact cb_ ((Kd.bu kK.out).2.2)); (case az => exact (Kd.bu kK.out).2.1); rintro e w48 ⟨v421, rfl, ho0, hb⟩; refine ⟨_, rfl, ?_⟩; have Fv := aa.mk (Kd.bV (Kd.eD (Kd.eD ho0 (Kd.gF (pR_ kK.out))) (Kd.gF (pR_ mg.out))) (ax bl_)); replace kK := aa.mk (Kd.eF (pR_ kK.out) (Kd.cO ho0) hb); replace mg := aa.mk (Kd.eF (pR_ mg.out) (Kd.cO ho0) hb); replace HB := aa.mk (ai bl_ hb); (try clear hb); (try clear hb2); (try clear hk); (try clear hi); (try clear ho0)) | ((with_reducible refine aC (f := 124) rfl ?_); refine aX (some 58) rfl rfl Tryd.func124 (by kernel_rfl) rfl #[.slice (some ad419) iI.length dI, .int .i64 jA] rfl mp_ ?_; (with_reducible refine (fO.calls k1 _ _ iI jA Je _ ?ay ?az A43.out).mono ?_); (case ay => exact cb_ ((Kd.bu mg.out).2.2)); (case az => exact (Kd.bu mg.out).2.1); rintro e w49 ⟨v424, rfl, ho0, hb⟩; refine ⟨_, rfl, ?_⟩; have Gr := aa.mk (Kd.bV (Kd.eD (Kd.eD (Kd.eD ho0 (Kd.gF (pR_ kK.out))) (Kd.gF (pR_ mg.out))) (Kd.gF (pR_ Fv.out))) (ax bl_)); replace kK := aa.mk (Kd.eF (pR_ kK.out) (Kd.cO ho0) hb); replace mg := aa.mk (Kd.eF (pR_ mg.out) (Kd.cO ho0) hb); replace Fv := aa.mk (Kd.eF (pR_ Fv.out) (Kd.cO ho0) hb); replace HB := aa.mk (ai bl_ hb); (try clear hb); (try clear hb2); (try clear hk); (try clear hi); (try clear ho0); obtain ⟨Ao50, co50, eo50⟩ := Kd.df Gr.out; subst eo50) | ((with_reducible refine aC (f := 116) rfl ?_); refine aX (some 59) rfl rfl Tryd.func116 (by kernel_rfl) rfl #[.slice Ao50 Je.length co50] rfl mp_ ?_; (with_reducible refine (aA.calls k1 _ _ Je xN _ ?ay ?az A44.out).mono ?_); (case ay => exact cb_ ((Kd.bu Gr.out).2.2)); (case az => exact (Kd.bu Gr.out).2.1); rintro e w51 ⟨v427, rfl, ho0, hb⟩; refine ⟨_, rfl, ?_⟩; have HO428 := aa.mk (Kd.bV (Kd.eD (Kd.eD (Kd.eD (Kd.eD ho0 (Kd.gF (pR_ kK.out))) (Kd.gF (pR_ mg.out))) (Kd.gF (pR_ Fv.out))) (Kd.gF (pR_ Gr.out))) (ax bl_)); replace kK := aa.mk (Kd.eF (pR_ kK.out) (Kd.cO ho0) hb); replace mg := aa.mk (Kd.eF (pR_ mg.out) (Kd.cO ho0) hb); replace Fv := aa.mk (Kd.eF (pR_ Fv.out) (Kd.cO ho0) hb); replace Gr := aa.mk (Kd.eF (pR_ Gr.out) (Kd.cO ho0) hb); replace HB := aa.mk (ai bl_ hb); (try clear hb); (try clear hb2); (try clear hk); (try clear hi); (try clear ho0)) | ((with_reducible refine aU (N := 66) rfl ?_); refine Kd.Uh (Kd.int .u32) _ 119 rfl (N := 66) rfl 102 _ _ rfl ji45 rfl rfl Tryd.underlying102 (.int .u32 0) 4 D5 rfl (by decide) (by omega) 0 (ok := fun _ => True) (okp := fun _ => True) rfl (fun _ hk => hk) trivial (dt_) (Nat.le_trans (Nat.mul_le_mul_right _ (dt_ : ji45.toNat ≤ 70368744177664)) (by omega)) (Below.refl _ _) (Nat.le_refl _) ?_; intro v430 w52 ho53 hb hg_ ig; clear hg_ ig; (first | rw [← Ny429.out] at ho53 | (simp only [Int.reduceToNat] at ho53; rw [← Ny429.out] at ho53)); have HO431 := aa.mk (Kd.bV (Kd.eD (Kd.eD (Kd.eD (Kd.eD (Kd.eD ho53 (Kd.gF (pR_ kK.out))) (Kd.gF (pR_ mg.out))) (Kd.gF (pR_ Fv.out))) (Kd.gF (pR_ Gr.out))) (Kd.gF (pR_ HO428.out))) (ax bl_)); replace kK := aa.mk (Kd.eF (pR_ kK.out) (Kd.cO ho53) hb); replace mg := aa.mk (Kd.eF (pR_ mg.out) (Kd.cO ho53) hb); replace Fv := aa.mk (Kd.eF (pR_ Fv.out) (Kd.cO ho53) hb); replace Gr := aa.mk (Kd.eF (pR_ Gr.out) (Kd.cO ho53) hb); replace HO428 := aa.mk (Kd.eF (pR_ HO428.out) (Kd.cO ho53) hb); replace HB := aa.mk (ai bl_ hb); clear hb ho53; obtain ⟨Ao54, co54, eo54⟩ := Kd.df HO431.out; subst eo54))
            go_loopg [13] k1 (fun kq v13 w' => ∃ (AV : List Int) (yX : List Int) (sM : Int), v13 = .int .i64 sM ∧ aa (bn.l1 kq jA AV xN yX sM = some (r1, r2, r3)) ∧ aa (kq ≤ k1) ∧ aa (Kd.R (Kd.int .u32) 119 w' w.heap.size (fun k_ => some k_ ≠ (v427 : Value).ownBlock ∧ some k_ ≠ ((.slice Ao54 uk.length co54) : Value).ownBlock) v421 AV) ∧ aa (Kd.R (Kd.int .u32) 119 w' w.heap.size (fun k_ => some k_ ≠ (v421 : Value).ownBlock ∧ some k_ ≠ ((.slice Ao54 uk.length co54) : Value).ownBlock) v427 xN) ∧ aa (Kd.R (Kd.int .u32) 119 w' w.heap.size (fun k_ => some k_ ≠ (v421 : Value).ownBlock ∧ some k_ ≠ (v427 : Value).ownBlock) (.slice Ao54 uk.length co54) yX) ∧ aa (Below w.heap.size w w'))
            case atStart => exact ⟨(F3), (uk), (wrap64 ((uk.length : Int) - 1)), rs_, H', ⟨Nat.le_refl _⟩, ⟨by (with_reducible repeat (first | apply Kd.dx | apply Kd.dz | apply Kd.dH)); exact Kd.cK Fv.out (fun _ hk => ⟨hk.1.2, hk.2⟩)⟩, ⟨by (with_reducible repeat (first | apply Kd.dx | apply Kd.dz | apply Kd.dH)); exact Kd.cK HO428.out (fun _ hk => ⟨hk.1.1.2, hk.2⟩)⟩, ⟨by (with_reducible repeat (first | apply Kd.dx | apply Kd.dz | apply Kd.dH)); exact Kd.cK HO431.out (fun _ hk => ⟨hk.1.1.2, hk.2⟩)⟩, ⟨bl_⟩⟩
            case round =>
             clear H'; (try clear c1); (try clear p2); (try clear c3); (try clear c4); (try clear p4); (try clear q4); (try clear hx4); (try clear qi4); (try clear c5); (try clear jU); (try clear sJ); (try clear c5b2); (try clear p6); (try clear c10); (try clear kv); (try clear c11); (try clear c12); (try clear c16); (try clear Gf); (try clear LF); (try clear c17); (try clear qV); (try clear xK); (try clear c36); (try clear Fg); (try clear c37); (try clear PG); (try clear c39); (try clear Dr); (try clear JO); (try clear p40); (try clear q40); (try clear hx40); (try clear qi40); (try clear c41); (try clear tV); (try clear p41); (try clear q41); (try clear hx41); (try clear c46); (try clear Pv); (try clear c46b1); (try clear c47); (try clear c47b0); (try clear c47b1); (try clear Od); (try clear XB); (try clear p2); (try clear p4); (try clear p408); (try clear p419); (try clear q4); (try clear q408); (try clear q419); obtain ⟨AV, yX, sM, rfl, HA, HK2, vC, xP, uf, HB⟩ := hrel; have FI := (Kd.bu uf.out).1; rw [FI] at uf; (try simp only [FI])
             (try simp only [FI] at vC)
             (try simp only [FI] at xP)
             cases gk with
             | zero => exact absurd HA.out (by simp [bn.l1])
             | succ k2 =>
              have H := HA.out; clear HA; simp only [bn.l1] at H; by_cases c55 : sM ≥ 0
              ·rw [if_pos c55] at H; have c55b0 : decide (0 ≤ sM) = true := decide_eq_true c55; clear c55; replace H := Option.bind_eq_some_iff.mp H; obtain ⟨⟨t432, t433⟩, A560, H⟩ := H; (try dsimp only at H)
               have A56 := aa.mk A560; clear A560; by_cases c57 : 0 ≤ sM
               ·rw [if_pos c57] at H; have c57b0 := decide_eq_true c57; clear c57; by_cases c58 : sM < (yX.length : Int)
                ·rw [if_pos c58] at H; have c58b0 := decide_eq_true c58; clear c58; obtain ⟨y434, Qm⟩ : ∃ y_ : List Int, y_ = (yX.set (sM : Int).toNat t432) := ⟨_, rfl⟩; replace H : (bn.l1 k2 jA t433 xN y434 (wrap64 (sM - 1))) = some (r1, r2, r3) := by first | (rw [Qm]; with_reducible exact H) | (have H2_ := (Option.bind_some _ _).symm.trans H; rw [Qm]; with_reducible exact H2_) | (have H2_ := (Option.bind_some _ _).symm.trans H; with_reducible exact H2_) | with_reducible exact H | (rw [Qm]; exact H) | exact H
                 have Ny434 := aa.mk Qm; clear Qm; have H' := aa.mk H; clear H; obtain ⟨Ao60, co60, eo60⟩ := Kd.df vC.out; subst eo60; obtain ⟨DK, DL, eo61⟩ := Kd.df xP.out; subst eo61; go_wp2_with (first | ((with_reducible refine aC (f := 125) rfl ?_); refine aX (some 79) rfl rfl Tryd.func125 (by kernel_rfl) rfl #[.slice Ao60 AV.length co60, .slice DK xN.length DL, .int .i64 sM] rfl mp_ ?_; (with_reducible refine (iK.calls k2 (fun k_ => some k_ = (.slice Ao60 AV.length co60 : Value).ownBlock) (.slice Ao60 AV.length co60) AV _ _ xN sM t432 t433 w _ ?ay ?az ?iB ?iF A56.out).mono ?_); (case ay => exact bl_); (case az => exact Kd.Rc rfl vC.out); (case iB => exact Kd.Yf (xP.out) (fun k_ hk_ hs_ => (hk_.1) hs_)); (case iF => exact (Kd.bu xP.out).2.1); rintro e w62 ⟨rfl, hy0, hb, hkp⟩; refine ⟨_, rfl, ?_⟩; replace vC := aa.mk (Kd.R_reok rfl hy0 (fun k_ e_ => vC.out.1 k_ e_)); replace xP := aa.mk (Kd.cK (ok' := fun k_ => some k_ ≠ (.slice Ao60 AV.length co60 : Value).ownBlock ∧ some k_ ≠ (.slice Ao54 yX.length co54 : Value).ownBlock) (Kd.U1 (xP.out) hkp (fun k_ hk_ hs_ => (hk_.1) hs_)) (fun k_ hk_ => ⟨hk_.1.1, hk_.1.2⟩)); replace uf := aa.mk (Kd.cK (ok' := fun k_ => some k_ ≠ (.slice Ao60 AV.length co60 : Value).ownBlock ∧ some k_ ≠ (.slice DK xN.length DL : Value).ownBlock) (Kd.U1 (uf.out) hkp (fun k_ hk_ hs_ => (hk_.1) hs_)) (fun k_ hk_ => ⟨hk_.1.1, hk_.1.2⟩)); replace HB := aa.mk (hb); (try clear hb); (try clear hkp); (try clear hy0); have p59 : 0 ≤ (sM : Int) := dt_; have q59 : (sM : Int) < ((yX.length : Int) : Int) := dt_; obtain ⟨go59, co59, eo59, gb59, gl59, cl59, HG59⟩ := Kd.Fz uf.out (by omega); (first | cases eo59 | (injection eo59 with ea_ en_ ec_; (first | subst ea_ | (injection ea_ with ea_; subst ea_)); subst ec_; clear en_)); have GB59 := aa.mk gb59; have GG59 := aa.mk HG59; clear gb59 gl59 HG59; obtain ⟨hx59_0, hf59_0⟩ := Kd.zx 0 uf.out (sM : Int) p59 q59; replace p59 := eq_true p59; replace q59 := eq_true q59; obtain ⟨hy63_, hz63_⟩ := Kd.zx 0 uf.out (sM : Int) (dt_) (dt_); have HP63 := Kd.J2 uf.out (sM : Int) t432) | ((with_reducible refine sF (t := 119) (p := 80) rfl ?_); refine qO (t := 119) (p := 80) (v := ?vo_w64) (w1 := (w62.setCell ⟨go59, (sM : Int).toNat, none⟩ (.int .u32 t432))) ?hg ?ho ?hn ?hr ?_; (case ho => rfl); (case hg => rfl); (case hn => rfl); (case hr => first | (go_simp; done) | (go_simp; rfl)); intro w64 hw; have hg : w62.grownBy w64 (some go59) := (by rw [hw]; exact HP63.2); have hp_ : Kd.R (Kd.int .u32) 119 w64 w.heap.size (fun k_ => some k_ ≠ (.slice Ao60 AV.length co60 : Value).ownBlock ∧ some k_ ≠ (.slice DK xN.length DL : Value).ownBlock) (.slice (some ⟨go59, 0, none⟩) yX.length co54) y434 := (by rw [hw, Ny434.out]; exact HP63.1); clear HP63; replace vC := aa.mk (Kd.Gy (v := (.slice (some ⟨go59, 0, none⟩) yX.length co54)) (v1 := (.slice (some ⟨go59, 0, none⟩) yX.length co54)) (ok := (fun k_ => some k_ ≠ (.slice DK xN.length DL : Value).ownBlock)) (pR_ vC.out) hg (.inl rfl)); replace xP := aa.mk (Kd.Gy (v := (.slice (some ⟨go59, 0, none⟩) yX.length co54)) (v1 := (.slice (some ⟨go59, 0, none⟩) yX.length co54)) (ok := (fun k_ => some k_ ≠ (.slice Ao60 AV.length co60 : Value).ownBlock)) (pR_ xP.out) hg (.inl rfl)); replace uf := aa.mk (hp_); replace HB := aa.mk ((by rw [hw]; exact ed (HB.out) GB59.out : Below w.heap.size w w64)); clear hg hw hp_))
                 (try simp only [← FI])
                 go_roundg k2
                 case measure => have := HK1.out; have := HK2.out; omega
                 case rel => exact ⟨(t433), (y434), (wrap64 (sM - 1)), rs_, H', ⟨by have := HK1.out; have := HK2.out; omega⟩, ⟨by (try simp only [FI]); (with_reducible repeat (first | apply Kd.dx | apply Kd.dz | apply Kd.dH)); exact vC.out⟩, ⟨by (try simp only [FI]); (with_reducible repeat (first | apply Kd.dx | apply Kd.dz | apply Kd.dH)); exact xP.out⟩, ⟨by (try simp only [FI]); (with_reducible repeat (first | apply Kd.dx | apply Kd.dz | apply Kd.dH)); exact uf.out⟩, ⟨bl_⟩⟩
                ·rw [if_neg c58] at H; exact absurd H (by simp)
               ·rw [if_neg c57] at H; exact absurd H (by simp)
              ·rw [if_neg c55] at H; have c55b0 : decide (0 ≤ sM) = false := decide_eq_false c55; clear c55; replace H := Option.bind_eq_some_iff.mp H; obtain ⟨t435, A650, H⟩ := H; (try dsimp only at H)
               have A65 := aa.mk A650; clear A650; replace H := Option.bind_eq_some_iff.mp H; obtain ⟨t438, A660, H⟩ := H; (try dsimp only at H)
               have A66 := aa.mk A660; clear A660; simp only [Option.some.injEq, Prod.mk.injEq] at H; obtain ⟨rfl, rfl, rfl⟩ := H; go_wp2_with (first | ((with_reducible refine aC (f := 116) rfl ?_); refine aX (some 82) rfl rfl Tryd.func116 (by kernel_rfl) rfl #[.slice Ao54 yX.length co54] rfl mp_ ?_; (with_reducible refine (aA.calls k2 _ _ yX t435 _ ?ay ?az A65.out).mono ?_); (case ay => exact cb_ ((Kd.bu uf.out).2.2)); (case az => exact (Kd.bu uf.out).2.1); rintro e w67 ⟨v436, rfl, ho0, hb⟩; refine ⟨_, rfl, ?_⟩; have HO437 := aa.mk (Kd.bV (Kd.eD (Kd.eD (Kd.eD ho0 (Kd.gF (pR_ vC.out))) (Kd.gF (pR_ xP.out))) (Kd.gF (pR_ uf.out))) (ax bl_)); replace vC := aa.mk (Kd.eF (pR_ vC.out) (Kd.cO ho0) hb); replace xP := aa.mk (Kd.eF (pR_ xP.out) (Kd.cO ho0) hb); replace uf := aa.mk (Kd.eF (pR_ uf.out) (Kd.cO ho0) hb); replace HB := aa.mk (ai bl_ hb); (try clear hb); (try clear hb2); (try clear hk); (try clear hi); (try clear ho0); obtain ⟨Ao68, co68, eo68⟩ := Kd.df vC.out; subst eo68) | ((with_reducible refine aC (f := 126) rfl ?_); refine aX (some 85) rfl rfl Tryd.func126 (by kernel_rfl) rfl #[.slice Ao68 AV.length co68, .int .i64 jA] rfl mp_ ?_; (with_reducible refine (iA.calls k2 _ _ AV jA t438 _ ?ay ?az A66.out).mono ?_); (case ay => exact cb_ ((Kd.bu vC.out).2.2)); (case az => exact (Kd.bu vC.out).2.1); rintro e w69 ⟨v439, rfl, ho0, hb⟩; refine ⟨_, rfl, ?_⟩; have HO440 := aa.mk (Kd.bV (Kd.eD (Kd.eD (Kd.eD (Kd.eD ho0 (Kd.gF (pR_ vC.out))) (Kd.gF (pR_ xP.out))) (Kd.gF (pR_ uf.out))) (Kd.gF (pR_ HO437.out))) (ax bl_)); replace vC := aa.mk (Kd.eF (pR_ vC.out) (Kd.cO ho0) hb); replace xP := aa.mk (Kd.eF (pR_ xP.out) (Kd.cO ho0) hb); replace uf := aa.mk (Kd.eF (pR_ uf.out) (Kd.cO ho0) hb); replace HO437 := aa.mk (Kd.eF (pR_ HO437.out) (Kd.cO ho0) hb); replace HB := aa.mk (ai bl_ hb); (try clear hb); (try clear hb2); (try clear hk); (try clear hi); (try clear ho0)))
               go_ret3; exact ⟨_, _, by first | rfl | (simp [fI, fJ] <;> rfl) | (simp only [← hji35, ← hji38, ← Qk, ← Mh]; first | rfl | (simp [fI, fJ] <;> rfl)) | (simp [*, fI, fJ] <;> rfl), by (with_reducible repeat (first | apply Kd.dx | apply Kd.dz | apply Kd.dH)); exact Kd.cK HO437.out (fun _ hk => hk.2), by (with_reducible repeat (first | apply Kd.dx | apply Kd.dz | apply Kd.dH)); exact Kd.cK HO440.out (fun _ hk => hk.2), bl_⟩
           ·rw [if_neg c47] at H; exact absurd H (by simp)
          ·rw [if_neg c46] at H; exact absurd H (by simp)
        ·rw [if_neg c39] at H; exact absurd H (by simp)
       ·rw [if_neg c37] at H; exact absurd H (by simp)
      ·rw [if_neg c36] at H; exact absurd H (by simp)

end Go.Proofs.YtggelekooacmnaaDoor.Q
namespace Go.Proofs.YtggelekooacmnaaDoor.Q
open Go.RowKit Go.Proofs.YtggelekooacmnaaDoorW.bg Go.Proofs.YtggelekooacmnaaDoorW.bW Go.Proofs.YtggelekooacmnaaDoorW.dh
attribute [local go_sem] fE fF gy gz eO eP fG fH   -- for this text's walks alone
set_option linter.unusedVariables false
set_option linter.unusedSimpArgs false

/-! ### dY: function 121 -/
def dY.l0 : Nat → List Int → List Int → Option (List Int)
  | 0, _, _ => none
  | k + 1, x0, x1 => if (x1.length : Int) > 0 then ((bn.f k x0 x1).bind fun bt447 => (dY.l0 k x1 bt447.2.1)) else (some x0)
def dY.f (k : Nat) (l0 : List Int) (l1 : List Int) : Option (List Int) := (aA.f k l0).bind fun t441 => ((aA.f k l1).bind fun t444 => (dY.l0 k t441 t444))
theorem dY.iQ : ∀ k, (∀ y0 y1, LeO (dY.l0 k y0 y1) (dY.l0 (k + 1) y0 y1))
  | 0 => fun _ _ r h => by simp [dY.l0] at h
  | k + 1 => by
    have ih0 := dY.iQ k
    · intro y0 y1
      unfold dY.l0
      repeat' first
      | (with_reducible exact ih0 _ _)
      | (with_reducible exact bn.mono _ _ _)
      | (with_reducible exact aA.mono _ _)
      | (with_reducible exact LeO.refl _)
      | (with_reducible exact LeO.none _)
      | (with_reducible refine LeO.ite ?_ ?_)
      | (with_reducible refine LeO.bind ?_ (fun _ => ?_))
      | exact ih0 _ _
      | exact bn.mono _ _ _
      | exact aA.mono _ _
      | exact LeO.none _
      | refine LeO.ite ?_ ?_
      | refine LeO.bind ?_ (fun _ => ?_)
theorem dY.mono : ∀ a0 a1 k, LeO (dY.f k a0 a1) (dY.f (k + 1) a0 a1) := by
  intro a0 a1 k
  have ih0 := dY.iQ k
  unfold dY.f
  repeat' first
      | (with_reducible exact ih0 _ _)
      | (with_reducible exact bn.mono _ _ _)
      | (with_reducible exact aA.mono _ _)
      | (with_reducible exact LeO.refl _)
      | (with_reducible exact LeO.none _)
      | (with_reducible refine LeO.ite ?_ ?_)
      | (with_reducible refine LeO.bind ?_ (fun _ => ?_))
      | exact ih0 _ _
      | exact bn.mono _ _ _
      | exact aA.mono _ _
      | exact LeO.none _
      | refine LeO.ite ?_ ?_
      | refine LeO.bind ?_ (fun _ => ?_)
set_option maxHeartbeats 8000000 in
set_option maxRecDepth 100000 in
theorem dY.calls (k : Nat) (A0 : Option Addr) (c0 : Nat) (l0 : List Int) (A1 : Option Addr) (c1 : Nat) (l1 : List Int) (r : List Int) (w : World) (hr0 : Kd.C (Kd.int .u32) w A0 l0.length l0) (hc0 : l0.length ≤ c0) (hr1 : Kd.C (Kd.int .u32) w A1 l1.length l1) (hc1 : l1.length ≤ c1) (h : dY.f k l0 l1 = some r) :
    Calls Tryd.prog 121 #[.slice A0 l0.length c0, .slice A1 l1.length c1] w fun e w' => ∃ v0_ : Value, e = .returned (v0_) ∧ Kd.R (Kd.int .u32) 119 w' w.heap.size (fun _ => True) v0_ r ∧ Below w.heap.size w w' := by
  have HR0 := aa.mk hr0
  have HC0 := aa.mk hc0
  clear hr0 hc0
  have HR1 := aa.mk hr1
  have HC1 := aa.mk hc1
  clear hr1 hc1
  have HB := aa.mk (Below.refl w.heap.size w)
  have H : ((aA.f k l0).bind fun t441 => ((aA.f k l1).bind fun t444 => (dY.l0 k t441 t444))) = some r := h
  clear h
  replace H := Option.bind_eq_some_iff.mp H
  obtain ⟨t441, A30, H⟩ := H
  replace H : ((aA.f k l1).bind fun t444 => (dY.l0 k t441 t444)) = some r := H
  have A3 := aa.mk A30
  clear A30
  replace H := Option.bind_eq_some_iff.mp H
  obtain ⟨t444, A40, H⟩ := H
  replace H : (dY.l0 k t441 t444) = some r := H
  have A4 := aa.mk A40
  clear A40
  have H' := aa.mk H
  clear H
  go_enter Tryd.func121, Tryd.ntmps121
  go_wp2_with (first | ((with_reducible refine aC (f := 116) rfl ?_); refine aX (some 9) rfl rfl Tryd.func116 (by kernel_rfl) rfl #[.slice A0 l0.length c0] rfl (by (try simp only [List.map_toArray, List.map_cons, List.map_nil]); first | done | rfl | (simp only [List.length_drop, List.length_take]; rfl)) ?_; (with_reducible refine (aA.calls k _ _ l0 t441 _ ?ay ?az A3.out).mono ?_); (case ay => repeat (first | exact HR0.out | (with_reducible refine Kd.vQ ?_ _) | (with_reducible refine Kd.vR ?_ _) | (with_reducible refine Kd.za ?_))); (case az => exact HC0.out); rintro e w5 ⟨v442, rfl, ho0, hb⟩; refine ⟨_, rfl, ?_⟩; have n0_ := aa.mk (Kd.bV ho0 (ax (by repeat (first | (with_reducible first | exact HB.out | apply bS | apply bO | apply bQ) | exact HB.out)))); have n1_ := aa.mk (ai (by repeat (first | (with_reducible first | exact HB.out | apply bS | apply bO | apply bQ) | exact HB.out)) hb); clear HB; have Qn := n0_; have HB := n1_; clear n0_ n1_; (try clear hb); (try clear hb2); (try clear hk); (try clear hi); (try clear ho0)) | ((with_reducible refine aC (f := 116) rfl ?_); refine aX (some 11) rfl rfl Tryd.func116 (by kernel_rfl) rfl #[.slice A1 l1.length c1] rfl (by (try simp only [List.map_toArray, List.map_cons, List.map_nil]); first | done | rfl | (simp only [List.length_drop, List.length_take]; rfl)) ?_; (with_reducible refine (aA.calls k _ _ l1 t444 _ ?ay ?az A4.out).mono ?_); (case ay => repeat (first | exact (Kd.bB HR1.out HB.out) | (with_reducible refine Kd.vQ ?_ _) | (with_reducible refine Kd.vR ?_ _) | (with_reducible refine Kd.za ?_))); (case az => exact HC1.out); rintro e w6 ⟨v445, rfl, ho0, hb⟩; refine ⟨_, rfl, ?_⟩; have n0_ := aa.mk (Kd.eF (by (with_reducible repeat (first | apply Kd.dx | apply Kd.dz | apply Kd.dH)); exact Qn.out) (Kd.cO ho0) hb); have n1_ := aa.mk (Kd.bV (Kd.eD ho0 (Kd.gF (by (with_reducible repeat (first | apply Kd.dx | apply Kd.dz | apply Kd.dH)); exact Qn.out))) (ax (by repeat (first | (with_reducible first | exact HB.out | apply bS | apply bO | apply bQ) | exact HB.out)))); have n2_ := aa.mk (ai (by repeat (first | (with_reducible first | exact HB.out | apply bS | apply bO | apply bQ) | exact HB.out)) hb); clear Qn; clear HB; have Qn := n0_; have HO446 := n1_; have HB := n2_; clear n0_ n1_ n2_; (try clear hb); (try clear hb2); (try clear hk); (try clear hi); (try clear ho0)))
  go_loopg [0, 1] k (fun kq v0 v1 w' => ∃ (Bg : List Int) (F4 : List Int), aa (dY.l0 kq Bg F4 = some r) ∧ aa (kq ≤ k) ∧ aa (Kd.R (Kd.int .u32) 119 w' w.heap.size (fun k_ => some k_ ≠ (v1 : Value).ownBlock) v0 Bg) ∧ aa (Kd.R (Kd.int .u32) 119 w' w.heap.size (fun k_ => some k_ ≠ (v0 : Value).ownBlock) v1 F4) ∧ aa (Below w.heap.size w w'))
  case atStart => exact ⟨(t441), (t444), H', ⟨Nat.le_refl _⟩, ⟨by (with_reducible repeat (first | apply Kd.dx | apply Kd.dz | apply Kd.dH)); exact Kd.cK Qn.out (fun _ hk => hk.2)⟩, ⟨by (with_reducible repeat (first | apply Kd.dx | apply Kd.dz | apply Kd.dH)); exact Kd.cK HO446.out (fun _ hk => hk.2)⟩, ⟨by repeat (first | (with_reducible first | exact HB.out | apply bS | apply bO | apply bQ) | exact HB.out)⟩⟩
  case round =>
    clear H'
    try clear c1
    try clear p2
    obtain ⟨Bg, F4, HA, HK1, kK, mg, HB⟩ := hrel
    cases gk with
    | zero => exact absurd HA.out (by simp [dY.l0])
    | succ k1 =>
      have H := HA.out
      clear HA
      simp only [dY.l0] at H
      by_cases c7 : (F4.length : Int) > 0
      · rw [if_pos c7] at H
        have mO : decide (0 < (F4.length : Int)) = true := decide_eq_true c7
        have zk : decide (0 < F4.length) = true := decide_eq_true (by omega)
        clear c7
        replace H := Option.bind_eq_some_iff.mp H
        obtain ⟨⟨t447, t448, t449⟩, A80, H⟩ := H
        replace H : (dY.l0 k1 F4 t448) = some r := H
        have A8 := aa.mk A80
        clear A80
        have H' := aa.mk H
        clear H
        obtain ⟨Ao9, co9, eo9⟩ := Kd.df mg.out
        subst eo9
        obtain ⟨Ao10, co10, eo10⟩ := Kd.df kK.out
        subst eo10
        go_wp2_with (first | ((with_reducible refine aC (f := 122) rfl ?_); refine aX (some 18) rfl rfl Tryd.func122 (by kernel_rfl) rfl #[.slice Ao10 Bg.length co10, .slice Ao9 F4.length co9] rfl (by (try simp only [List.map_toArray, List.map_cons, List.map_nil]); first | done | rfl | (simp only [List.length_drop, List.length_take]; rfl)) ?_; (with_reducible refine (bn.calls k1 _ _ Bg _ _ F4 t447 t448 t449 _ ?ay ?az ?iB ?iF A8.out).mono ?_); (case ay => repeat (first | exact (Kd.bu kK.out).2.2 | (with_reducible refine Kd.vQ ?_ _) | (with_reducible refine Kd.vR ?_ _) | (with_reducible refine Kd.za ?_))); (case az => exact (Kd.bu kK.out).2.1); (case iB => repeat (first | exact (Kd.bu mg.out).2.2 | (with_reducible refine Kd.vQ ?_ _) | (with_reducible refine Kd.vR ?_ _) | (with_reducible refine Kd.za ?_))); (case iF => exact (Kd.bu mg.out).2.1); rintro e w11 ⟨v450, v452, rfl, ho0, ho1, hb⟩; refine ⟨_, rfl, ?_⟩; have n0_ := aa.mk (Kd.cK (Kd.nk (Kd.nk (Kd.Dj (by (with_reducible repeat (first | apply Kd.dx | apply Kd.dz | apply Kd.dH)); exact kK.out) hb) (Kd.cO ho0)) (Kd.cO ho1)) (fun _ h_ => h_.1)); have n1_ := aa.mk (Kd.cK (Kd.nk (Kd.nk (Kd.Dj (by (with_reducible repeat (first | apply Kd.dx | apply Kd.dz | apply Kd.dH)); exact mg.out) hb) (Kd.cO ho0)) (Kd.cO ho1)) (fun _ h_ => h_.1)); have n2_ := aa.mk (Kd.bV (Kd.eD (Kd.eD ho0 (Kd.gF (by (with_reducible repeat (first | apply Kd.dx | apply Kd.dz | apply Kd.dH)); exact kK.out))) (Kd.gF (by (with_reducible repeat (first | apply Kd.dx | apply Kd.dz | apply Kd.dH)); exact mg.out))) (ax (by repeat (first | (with_reducible first | exact HB.out | apply bS | apply bO | apply bQ) | exact HB.out)))); have n3_ := aa.mk (Kd.bV (Kd.eD (Kd.eD ho1 (Kd.gF (by (with_reducible repeat (first | apply Kd.dx | apply Kd.dz | apply Kd.dH)); exact kK.out))) (Kd.gF (by (with_reducible repeat (first | apply Kd.dx | apply Kd.dz | apply Kd.dH)); exact mg.out))) (ax (by repeat (first | (with_reducible first | exact HB.out | apply bS | apply bO | apply bQ) | exact HB.out)))); have n4_ := aa.mk (ai (by repeat (first | (with_reducible first | exact HB.out | apply bS | apply bO | apply bQ) | exact HB.out)) hb); clear kK; clear mg; clear HB; have kK := n0_; have mg := n1_; have HO451 := n2_; have HO453 := n3_; have HB := n4_; clear n0_ n1_ n2_ n3_ n4_; (try clear hb); (try clear hb2); (try clear hk); (try clear hi); (try clear ho0); (try clear ho1)))
        go_roundg k1
        case measure => have := HK1.out; omega
        case rel => exact ⟨(F4), (t448), H', ⟨by have := HK1.out; omega⟩, ⟨by (with_reducible repeat (first | apply Kd.dx | apply Kd.dz | apply Kd.dH)); exact Kd.cK mg.out (fun _ hk => hk.2)⟩, ⟨by (with_reducible repeat (first | apply Kd.dx | apply Kd.dz | apply Kd.dH)); exact Kd.cK HO453.out (fun _ hk => hk.2)⟩, ⟨by repeat (first | (with_reducible first | exact HB.out | apply bS | apply bO | apply bQ) | exact HB.out)⟩⟩
      · rw [if_neg c7] at H
        have mO : decide (0 < (F4.length : Int)) = false := decide_eq_false c7
        have zk : decide (0 < F4.length) = false := decide_eq_false (by omega)
        clear c7
        obtain rfl := Option.some.inj H
        obtain ⟨Ao12, FZ, eo12⟩ := Kd.df mg.out
        subst eo12
        go_wp2
        go_ret
        exact ⟨_, by first | rfl | (simp [fI, fJ] <;> rfl) | (simp [*, fI, fJ] <;> rfl), by (with_reducible repeat (first | apply Kd.dx | apply Kd.dz | apply Kd.dH)); exact Kd.cK kK.out (fun _ hk => trivial), by repeat (first | (with_reducible first | exact HB.out | apply bS | apply bO | apply bQ) | exact HB.out)⟩

end Go.Proofs.YtggelekooacmnaaDoor.Q
namespace Go.Proofs.YtggelekooacmnaaDoor.Q
open Go.RowKit Go.Proofs.YtggelekooacmnaaDoorW.bg Go.Proofs.YtggelekooacmnaaDoorW.bW Go.Proofs.YtggelekooacmnaaDoorW.dh
attribute [local go_sem] fE fF gy gz eO eP fG fH   -- for this text's walks alone
set_option linter.unusedVariables false
set_option linter.unusedSimpArgs false

/-! ### iN: function 117 -/
def iN.f (k : Nat) (a0 : Bool) (l1 : List Int) (l2 : List Int) : Option (Bool × List Int × List Int) := (dY.f k l1 l2).bind fun Bh => ((bn.f k l1 Bh).bind fun Mi => ((bn.f k l2 Bh).bind fun Qo => (if a0 = true then (some (decide ((Mi.1.length : Int) > 0), Mi.1, Qo.1)) else (some (false, Mi.1, Qo.1)))))
theorem iN.mono : ∀ a0 a1 a2 k, LeO (iN.f k a0 a1 a2) (iN.f (k + 1) a0 a1 a2) := by
 intro a0 a1 a2 k; unfold iN.f
 repeat' first
   | (with_reducible exact bn.mono _ _ _)
   | (with_reducible exact dY.mono _ _ _)
   | (with_reducible exact LeO.refl _)
   | (with_reducible exact LeO.none _)
   | (with_reducible refine LeO.ite ?_ ?_)
   | (with_reducible refine LeO.bind ?_ (fun _ => ?_))
   | exact bn.mono _ _ _
   | exact dY.mono _ _ _
   | exact LeO.none _
   | refine LeO.ite ?_ ?_
   | refine LeO.bind ?_ (fun _ => ?_)
set_option maxHeartbeats 8000000 in
set_option maxRecDepth 100000 in
theorem iN.calls (k : Nat) (a0 : Bool) (A1 : Option Addr) (c1 : Nat) (l1 : List Int) (A2 : Option Addr) (c2 : Nat) (l2 : List Int) (r1 : Bool) (r2 : List Int) (r3 : List Int) (w : World) (hr1 : Kd.C (Kd.int .u32) w A1 l1.length l1) (hc1 : l1.length ≤ c1) (hr2 : Kd.C (Kd.int .u32) w A2 l2.length l2) (hc2 : l2.length ≤ c2) (h : iN.f k a0 l1 l2 = some (r1, r2, r3)) :
  Calls Tryd.prog 117 #[.bool a0, .slice A1 l1.length c1, .slice A2 l2.length c2] w fun e w' => ∃ v1_ v2_ : Value, e = .returned (.agg #[.bool r1, v1_, v2_]) ∧ Kd.R (Kd.int .u32) 119 w' w.heap.size (fun k_ => some k_ ≠ (v2_ : Value).ownBlock) v1_ r2 ∧ Kd.R (Kd.int .u32) 119 w' w.heap.size (fun k_ => some k_ ≠ (v1_ : Value).ownBlock) v2_ r3 ∧ Below w.heap.size w w' := by
 have hu104 := Tryd.underlying104; have HR1 := aa.mk hr1; have HC1 := aa.mk hc1; clear hr1 hc1; have HR2 := aa.mk hr2; have HC2 := aa.mk hc2; clear hr2 hc2; have HB := aa.mk (Below.refl w.heap.size w); have H : ((dY.f k l1 l2).bind fun Bh => ((bn.f k l1 Bh).bind fun Mi => ((bn.f k l2 Bh).bind fun Qo => (if a0 = true then (some (decide ((Mi.1.length : Int) > 0), Mi.1, Qo.1)) else (some (false, Mi.1, Qo.1)))))) = some (r1, r2, r3) := h; clear h; replace H := Option.bind_eq_some_iff.mp H; obtain ⟨Bh, A40, H⟩ := H; (try dsimp only at H)
 have A4 := aa.mk A40; clear A40; replace H := Option.bind_eq_some_iff.mp H; obtain ⟨⟨Bi, t459, t460⟩, A50, H⟩ := H; (try dsimp only at H)
 have A5 := aa.mk A50; clear A50; replace H := Option.bind_eq_some_iff.mp H; obtain ⟨⟨t465, t466, t467⟩, A60, H⟩ := H; (try dsimp only at H)
 have A6 := aa.mk A60; clear A60; by_cases c7 : a0 = true
 ·subst c7; have H1 : (some (decide ((Bi.length : Int) > 0), Bi, t465)) = some (r1, r2, r3) := by rw [if_pos rfl] at H; exact H
  clear H; have H := H1; clear H1; rw [show (decide ((Bi.length : Int) > 0)) = decide (0 < Bi.length) from decide_eq_decide.mpr (by omega)] at H; simp only [Option.some.injEq, Prod.mk.injEq] at H; obtain ⟨rfl, rfl, rfl⟩ := H; go_enter Tryd.func117, Tryd.ntmps117; go_wp2_with (first | ((with_reducible refine aU (N := 6) rfl ?_); (try (refine jF (by rfl) ?_; dsimp only)); refine aY ?hg (N := 6) ?hd (cs := #[.bool false, .slice none 0 0, .slice none 0 0]) (t := 104) ?hr ?_; (case hd => rfl); (case hg => rfl); (case hr => first | (go_simp; done) | (go_simp; rfl)); intro vD hg w8 aK hb; have sN := aa.mk (aK); have GW454 : aa (w.heap.size ≤ vD) := gw_ hg (ax bl_); have GE454 := GW454; replace HB := aa.mk (ai bl_ hb); clear hb aK hg) | ((with_reducible refine aC (f := 121) rfl ?_); refine aX (some 16) rfl rfl Tryd.func121 (by kernel_rfl) rfl #[.slice A1 l1.length c1, .slice A2 l2.length c2] rfl mp_ ?_; (with_reducible refine (dY.calls k _ _ l1 _ _ l2 Bh _ ?ay ?az ?iB ?iF A4.out).mono ?_); (case ay => exact cb_ (Kd.bB HR1.out HB.out)); (case az => exact HC1.out); (case iB => exact cb_ (Kd.bB HR2.out HB.out)); (case iF => exact HC2.out); rintro e w9 ⟨v456, rfl, ho0, hb⟩; refine ⟨_, rfl, ?_⟩; have mZ := aa.mk (Kd.bV ho0 (ax bl_)); replace sN := kb_ sN hb; replace HB := aa.mk (ai bl_ hb); (try clear hb); (try clear hb2); (try clear hk); (try clear hi); (try clear ho0); obtain ⟨Ao10, co10, eo10⟩ := Kd.df mZ.out; subst eo10) | ((with_reducible refine aC (f := 122) rfl ?_); refine aX (some 20) rfl rfl Tryd.func122 (by kernel_rfl) rfl #[.slice A1 l1.length c1, .slice Ao10 Bh.length co10] rfl mp_ ?_; (with_reducible refine (bn.calls k _ _ l1 _ _ Bh Bi t459 t460 _ ?ay ?az ?iB ?iF A5.out).mono ?_); (case ay => exact cb_ (Kd.bB HR1.out HB.out)); (case az => exact HC1.out); (case iB => exact cb_ ((Kd.bu mZ.out).2.2)); (case iF => exact (Kd.bu mZ.out).2.1); rintro e w11 ⟨v461, v463, rfl, ho0, ho1, hb⟩; refine ⟨_, rfl, ?_⟩; have AX := aa.mk (Kd.bV (Kd.eD ho0 (Kd.gF (pR_ mZ.out))) (ax bl_)); have Gs := aa.mk (Kd.bV (Kd.eD ho1 (Kd.gF (pR_ mZ.out))) (ax bl_)); replace mZ := aa.mk (Kd.cK (Kd.nk (Kd.nk (Kd.Dj (pR_ mZ.out) hb) (Kd.cO ho0)) (Kd.cO ho1)) (fun _ h_ => h_.1)); replace sN := kb_ sN hb; replace HB := aa.mk (ai bl_ hb); (try clear hb); (try clear hb2); (try clear hk); (try clear hi); (try clear ho0); (try clear ho1)) | ((with_reducible refine aC (f := 122) rfl ?_); refine aX (some 27) rfl rfl Tryd.func122 (by kernel_rfl) rfl #[.slice A2 l2.length c2, .slice Ao10 Bh.length co10] rfl mp_ ?_; (with_reducible refine (bn.calls k _ _ l2 _ _ Bh t465 t466 t467 _ ?ay ?az ?iB ?iF A6.out).mono ?_); (case ay => exact cb_ (Kd.bB HR2.out HB.out)); (case az => exact HC2.out); (case iB => exact cb_ ((Kd.bu mZ.out).2.2)); (case iF => exact (Kd.bu mZ.out).2.1); rintro e w12 ⟨v468, v470, rfl, ho0, ho1, hb⟩; refine ⟨_, rfl, ?_⟩; have Qp := aa.mk (Kd.bV (Kd.eD (Kd.eD (Kd.eD ho0 (Kd.gF (pR_ mZ.out))) (Kd.gF (pR_ AX.out))) (Kd.gF (pR_ Gs.out))) (ax bl_)); have HO471 := aa.mk (Kd.bV (Kd.eD (Kd.eD (Kd.eD ho1 (Kd.gF (pR_ mZ.out))) (Kd.gF (pR_ AX.out))) (Kd.gF (pR_ Gs.out))) (ax bl_)); replace mZ := aa.mk (Kd.cK (Kd.nk (Kd.nk (Kd.Dj (pR_ mZ.out) hb) (Kd.cO ho0)) (Kd.cO ho1)) (fun _ h_ => h_.1)); replace AX := aa.mk (Kd.cK (Kd.nk (Kd.nk (Kd.Dj (pR_ AX.out) hb) (Kd.cO ho0)) (Kd.cO ho1)) (fun _ h_ => h_.1)); replace Gs := aa.mk (Kd.cK (Kd.nk (Kd.nk (Kd.Dj (pR_ Gs.out) hb) (Kd.cO ho0)) (Kd.cO ho1)) (fun _ h_ => h_.1)); replace sN := kb_ sN hb; replace HB := aa.mk (ai bl_ hb); (try clear hb); (try clear hb2); (try clear hk); (try clear hi); (try clear ho0); (try clear ho1); obtain ⟨yN, xO, eo13⟩ := Kd.df AX.out; subst eo13; obtain ⟨Ao14, co14, eo14⟩ := Kd.df Qp.out; subst eo14; obtain ⟨uO, uP, uQ, uR, uS, uT⟩ := qa sN.out))
  refine bodyPost_ret (results_cell_row rfl _ _ vD 104 #[.bool (decide (0 < Bi.length)), .slice yN Bi.length xO, .slice Ao14 t465.length co14] (0, 0) _ rfl b5_ Tryd.underlying104 rfl (by kernel_rfl)) rfl ?_
  exact ⟨_, _, re_, by (with_reducible repeat (first | apply Kd.dx | apply Kd.dz | apply Kd.dH)); exact Kd.cK (Kd.di (p := ⟨vD, 2, none⟩) (Kd.di (p := ⟨vD, 1, none⟩) (Kd.di (p := ⟨vD, 0, none⟩) (Kd.jQ AX.out sN.out (by decide)) (fun _ hk => hk.2) (.bool (decide (0 < Bi.length)))) (fun _ hk => hk.2) (.slice yN Bi.length xO)) (fun _ hk => hk.2) (.slice Ao14 t465.length co14)) (fun _ hk => hk.1.1.2), by (with_reducible repeat (first | apply Kd.dx | apply Kd.dz | apply Kd.dH)); exact Kd.cK (Kd.di (p := ⟨vD, 2, none⟩) (Kd.di (p := ⟨vD, 1, none⟩) (Kd.di (p := ⟨vD, 0, none⟩) (Kd.jQ Qp.out sN.out (by decide)) (fun _ hk => hk.2) (.bool (decide (0 < Bi.length)))) (fun _ hk => hk.2) (.slice yN Bi.length xO)) (fun _ hk => hk.2) (.slice Ao14 t465.length co14)) (fun _ hk => hk.1.1.2), bl_⟩
 ·replace c7 := Bool.eq_false_iff.mpr c7; subst c7; have H1 : (some (false, Bi, t465)) = some (r1, r2, r3) := by rw [if_neg (show ¬ (false = true) by decide)] at H; exact H
  clear H; have H := H1; clear H1; simp only [Option.some.injEq, Prod.mk.injEq] at H; obtain ⟨rfl, rfl, rfl⟩ := H; go_enter Tryd.func117, Tryd.ntmps117; go_wp2_with (first | ((with_reducible refine aU (N := 6) rfl ?_); (try (refine jF (by rfl) ?_; dsimp only)); refine aY ?hg (N := 6) ?hd (cs := #[.bool false, .slice none 0 0, .slice none 0 0]) (t := 104) ?hr ?_; (case hd => rfl); (case hg => rfl); (case hr => first | (go_simp; done) | (go_simp; rfl)); intro vD hg w16 aK hb; have sN := aa.mk (aK); have GW454 : aa (w.heap.size ≤ vD) := gw_ hg (ax bl_); have GE454 := GW454; replace HB := aa.mk (ai bl_ hb); clear hb aK hg) | ((with_reducible refine aC (f := 121) rfl ?_); refine aX (some 16) rfl rfl Tryd.func121 (by kernel_rfl) rfl #[.slice A1 l1.length c1, .slice A2 l2.length c2] rfl mp_ ?_; (with_reducible refine (dY.calls k _ _ l1 _ _ l2 Bh _ ?ay ?az ?iB ?iF A4.out).mono ?_); (case ay => exact cb_ (Kd.bB HR1.out HB.out)); (case az => exact HC1.out); (case iB => exact cb_ (Kd.bB HR2.out HB.out)); (case iF => exact HC2.out); rintro e w17 ⟨v456, rfl, ho0, hb⟩; refine ⟨_, rfl, ?_⟩; have mZ := aa.mk (Kd.bV ho0 (ax bl_)); replace sN := kb_ sN hb; replace HB := aa.mk (ai bl_ hb); (try clear hb); (try clear hb2); (try clear hk); (try clear hi); (try clear ho0); obtain ⟨Ao18, co18, eo18⟩ := Kd.df mZ.out; subst eo18) | ((with_reducible refine aC (f := 122) rfl ?_); refine aX (some 20) rfl rfl Tryd.func122 (by kernel_rfl) rfl #[.slice A1 l1.length c1, .slice Ao18 Bh.length co18] rfl mp_ ?_; (with_reducible refine (bn.calls k _ _ l1 _ _ Bh Bi t459 t460 _ ?ay ?az ?iB ?iF A5.out).mono ?_); (case ay => exact cb_ (Kd.bB HR1.out HB.out)); (case az => exact HC1.out); (case iB => exact cb_ ((Kd.bu mZ.out).2.2)); (case iF => exact (Kd.bu mZ.out).2.1); rintro e w19 ⟨v461, v463, rfl, ho0, ho1, hb⟩; refine ⟨_, rfl, ?_⟩; have AX := aa.mk (Kd.bV (Kd.eD ho0 (Kd.gF (pR_ mZ.out))) (ax bl_)); have Gs := aa.mk (Kd.bV (Kd.eD ho1 (Kd.gF (pR_ mZ.out))) (ax bl_)); replace mZ := aa.mk (Kd.cK (Kd.nk (Kd.nk (Kd.Dj (pR_ mZ.out) hb) (Kd.cO ho0)) (Kd.cO ho1)) (fun _ h_ => h_.1)); replace sN := kb_ sN hb; replace HB := aa.mk (ai bl_ hb); (try clear hb); (try clear hb2); (try clear hk); (try clear hi); (try clear ho0); (try clear ho1)) | ((with_reducible refine aC (f := 122) rfl ?_); refine aX (some 27) rfl rfl Tryd.func122 (by kernel_rfl) rfl #[.slice A2 l2.length c2, .slice Ao18 Bh.length co18] rfl mp_ ?_; (with_reducible refine (bn.calls k _ _ l2 _ _ Bh t465 t466 t467 _ ?ay ?az ?iB ?iF A6.out).mono ?_); (case ay => exact cb_ (Kd.bB HR2.out HB.out)); (case az => exact HC2.out); (case iB => exact cb_ ((Kd.bu mZ.out).2.2)); (case iF => exact (Kd.bu mZ.out).2.1); rintro e w20 ⟨v468, v470, rfl, ho0, ho1, hb⟩; refine ⟨_, rfl, ?_⟩; have Qp := aa.mk (Kd.bV (Kd.eD (Kd.eD (Kd.eD ho0 (Kd.gF (pR_ mZ.out))) (Kd.gF (pR_ AX.out))) (Kd.gF (pR_ Gs.out))) (ax bl_)); have HO471 := aa.mk (Kd.bV (Kd.eD (Kd.eD (Kd.eD ho1 (Kd.gF (pR_ mZ.out))) (Kd.gF (pR_ AX.out))) (Kd.gF (pR_ Gs.out))) (ax bl_)); replace mZ := aa.mk (Kd.cK (Kd.nk (Kd.nk (Kd.Dj (pR_ mZ.out) hb) (Kd.cO ho0)) (Kd.cO ho1)) (fun _ h_ => h_.1)); replace AX := aa.mk (Kd.cK (Kd.nk (Kd.nk (Kd.Dj (pR_ AX.out) hb) (Kd.cO ho0)) (Kd.cO ho1)) (fun _ h_ => h_.1)); replace Gs := aa.mk (Kd.cK (Kd.nk (Kd.nk (Kd.Dj (pR_ Gs.out) hb) (Kd.cO ho0)) (Kd.cO ho1)) (fun _ h_ => h_.1)); replace sN := kb_ sN hb; replace HB := aa.mk (ai bl_ hb); (try clear hb); (try clear hb2); (try clear hk); (try clear hi); (try clear ho0); (try clear ho1); obtain ⟨Ao21, co21, eo21⟩ := Kd.df Qp.out; subst eo21; obtain ⟨Jf, Jg, eo22⟩ := Kd.df AX.out; subst eo22; obtain ⟨KS, KT, KU, KV, KW, KX⟩ := qa sN.out))
  refine bodyPost_ret (results_cell_row rfl _ _ vD 104 #[.bool false, .slice Jf Bi.length Jg, .slice Ao21 t465.length co21] (0, 0) _ rfl b5_ Tryd.underlying104 rfl (by kernel_rfl)) rfl ?_
  exact ⟨_, _, re_, by (with_reducible repeat (first | apply Kd.dx | apply Kd.dz | apply Kd.dH)); exact Kd.cK (Kd.di (p := ⟨vD, 2, none⟩) (Kd.di (p := ⟨vD, 1, none⟩) (Kd.di (p := ⟨vD, 0, none⟩) (Kd.jQ AX.out sN.out (by decide)) (fun _ hk => hk.2) (.bool false)) (fun _ hk => hk.2) (.slice Jf Bi.length Jg)) (fun _ hk => hk.2) (.slice Ao21 t465.length co21)) (fun _ hk => hk.1.1.2), by (with_reducible repeat (first | apply Kd.dx | apply Kd.dz | apply Kd.dH)); exact Kd.cK (Kd.di (p := ⟨vD, 2, none⟩) (Kd.di (p := ⟨vD, 1, none⟩) (Kd.di (p := ⟨vD, 0, none⟩) (Kd.jQ Qp.out sN.out (by decide)) (fun _ hk => hk.2) (.bool false)) (fun _ hk => hk.2) (.slice Jf Bi.length Jg)) (fun _ hk => hk.2) (.slice Ao21 t465.length co21)) (fun _ hk => hk.1.1.2), bl_⟩

end Go.Proofs.YtggelekooacmnaaDoor.Q
namespace Go.Proofs.YtggelekooacmnaaDoor.Q
open Go.RowKit Go.Proofs.YtggelekooacmnaaDoorW.bg Go.Proofs.YtggelekooacmnaaDoorW.bW Go.Proofs.YtggelekooacmnaaDoorW.dh
attribute [local go_sem] fE fF gy gz eO eP fG fH   -- for this text's walks alone
set_option linter.unusedVariables false
set_option linter.unusedSimpArgs false

/-! ### iD: function 107 -/
def iD.f (k : Nat) (aj : Bool) (nz : List Int) (lg : List Int) : Option (Bool × List Int × List Int) := (aA.f k lg).bind fun t474 => (if (t474.length : Int) = 0 then (some (false, ([] : List Int), (([1] : List Int)))) else ((iN.f k aj nz lg).bind fun Mj => (some (Mj.1, Mj.2.1, Mj.2.2))))
theorem iD.mono : ∀ a0 a1 a2 k, LeO (iD.f k a0 a1 a2) (iD.f (k + 1) a0 a1 a2) := by
 intro a0 a1 a2 k; unfold iD.f
 repeat' first
   | (with_reducible exact aA.mono _ _)
   | (with_reducible exact iN.mono _ _ _ _)
   | (with_reducible exact LeO.refl _)
   | (with_reducible exact LeO.none _)
   | (with_reducible refine LeO.ite ?_ ?_)
   | (with_reducible refine LeO.bind ?_ (fun _ => ?_))
   | exact aA.mono _ _
   | exact iN.mono _ _ _ _
   | exact LeO.none _
   | refine LeO.ite ?_ ?_
   | refine LeO.bind ?_ (fun _ => ?_)
set_option maxHeartbeats 8000000 in
set_option maxRecDepth 100000 in
theorem iD.calls (k : Nat) (aj : Bool) (Bj : Option Addr) (Bl : Nat) (nz : List Int) (yO : Option Addr) (yP : Nat) (lg : List Int) (r1 : Bool) (r2 : List Int) (r3 : List Int) (w : World) (Qq : Kd.C (Kd.int .u32) w Bj nz.length nz) (Qr : nz.length ≤ Bl) (Qs : Kd.C (Kd.int .u32) w yO lg.length lg) (Qt : lg.length ≤ yP) (h : iD.f k aj nz lg = some (r1, r2, r3)) :
  Calls Tryd.prog 107 #[.agg #[.bool aj, .slice Bj nz.length Bl, .slice yO lg.length yP]] w fun e w' => ∃ v1_ v2_ : Value, e = .returned (.agg #[.bool r1, v1_, v2_]) ∧ Kd.R (Kd.int .u32) 119 w' w.heap.size (fun k_ => some k_ ≠ (v2_ : Value).ownBlock) v1_ r2 ∧ Kd.R (Kd.int .u32) 119 w' w.heap.size (fun k_ => some k_ ≠ (v1_ : Value).ownBlock) v2_ r3 ∧ Below w.heap.size w w' := by
 have hu104 := Tryd.underlying104; have Og := aa.mk Qq; have Oh := aa.mk Qr; clear Qq Qr; have JR := aa.mk Qs; have JS := aa.mk Qt; clear Qs Qt; have HB := aa.mk (Below.refl w.heap.size w); have H : ((aA.f k lg).bind fun t474 => (if (t474.length : Int) = 0 then (some (false, ([] : List Int), (([1] : List Int)))) else ((iN.f k aj nz lg).bind fun Mj => (some (Mj.1, Mj.2.1, Mj.2.2))))) = some (r1, r2, r3) := h; clear h; replace H := Option.bind_eq_some_iff.mp H; obtain ⟨t474, A20, H⟩ := H; (try dsimp only at H)
 have A2 := aa.mk A20; clear A20; by_cases c3 : (t474.length : Int) = 0
 ·rw [if_pos c3] at H; obtain ⟨kI, nu⟩ := bq_ c3; clear c3; obtain ⟨y477, Qu⟩ : ∃ y_ : List Int, y_ = (([1] : List Int)) := ⟨_, rfl⟩; replace H : (some (false, ([] : List Int), y477)) = some (r1, r2, r3) := by first | (rw [Qu]; with_reducible exact H) | (have H2_ := (Option.bind_some _ _).symm.trans H; rw [Qu]; with_reducible exact H2_) | (have H2_ := (Option.bind_some _ _).symm.trans H; with_reducible exact H2_) | with_reducible exact H | (rw [Qu]; exact H) | exact H
  have Ny477 := aa.mk Qu; clear Qu; simp only [Option.some.injEq, Prod.mk.injEq] at H; obtain ⟨rfl, rfl, rfl⟩ := H; go_enter Tryd.func107, Tryd.ntmps107; go_wp2_with (first | ((with_reducible refine aU (N := 1) rfl ?_); refine aY ?hg (N := 1) ?hd (cs := #[.bool aj, .slice Bj nz.length Bl, .slice yO lg.length yP]) (t := 104) ?hr ?_; (case hd => rfl); (case hg => rfl); (case hr => first | (go_simp; done) | (go_simp; rfl)); intro gb472 hg w4 aK hb; have su := aa.mk (aK); have GW472 : aa (w.heap.size ≤ gb472) := gw_ hg (ax bl_); have GE472 := GW472; replace HB := aa.mk (ai bl_ hb); clear hb aK hg) | ((with_reducible refine aU (N := 2) rfl ?_); refine aY ?hg (N := 2) ?hd (cs := #[.bool false, .slice none 0 0, .slice none 0 0]) (t := 104) ?hr ?_; (case hd => rfl); (case hg => rfl); (case hr => first | (go_simp; done) | (go_simp; rfl)); intro yY hg w5 aK hb; have yZ := aa.mk (aK); have GW473 : aa (w.heap.size ≤ yY) := gw_ hg (ax bl_); have GE473 := GW473; have MU := nl_ su hg; have MV := ng_ su hg; replace su := kb_ su hb; replace HB := aa.mk (ai bl_ hb); clear hb aK hg; have hnb6 := MU.out; have hnc6 := MV.out; obtain ⟨Dk, Dl, Dm, FB, Dn, Dp⟩ := qa su.out) | ((with_reducible refine aC (f := 116) rfl ?_); refine aX (some 5) rfl rfl Tryd.func116 (by kernel_rfl) rfl #[.slice yO lg.length yP] rfl mp_ ?_; (with_reducible refine (aA.calls k _ _ lg t474 _ ?ay ?az A2.out).mono ?_); (case ay => exact cb_ (Kd.bB JR.out HB.out)); (case az => exact JS.out); rintro e w8 ⟨v475, rfl, ho0, hb⟩; refine ⟨_, rfl, ?_⟩; have Fw := aa.mk (Kd.bV ho0 (ax bl_)); replace su := kb_ su hb; replace yZ := kb_ yZ hb; replace HB := aa.mk (ai bl_ hb); (try clear hb); (try clear hb2); (try clear hk); (try clear hi); (try clear ho0); obtain ⟨Ao9, co9, eo9⟩ := Kd.df Fw.out; subst eo9) | ((with_reducible refine aU (N := 8) rfl ?_); refine Kd.oD (Kd.int .u32) _ 119 ?hg (N := 8) ?hd (xs := ([1] : List Int)) (inner := [.int .u32 1]) (ok := fun _ => True) (okp := fun _ => True) ?hr ?hp (fun _ hk => hk) trivial (Below.refl _ _) (Nat.le_refl _) (by simp) ?_; (case hd => rfl); (case hg => rfl); (case hr => first | (go_simp; done) | (go_simp; rfl)); (case hp => exact (dN.one (show Kd.M (Kd.int .u32) _ _ _ 1 [.int .u32 1] from rfl) (dN.none _ _))); intro v478 w10 FY hb hg_ ig; clear hg_ ig; (first | rw [← Ny477.out] at FY | (simp only [Int.reduceToNat] at FY; rw [← Ny477.out] at FY)); have HO479 := aa.mk (Kd.bV (Kd.eD FY (Kd.gF (pR_ Fw.out))) (ax bl_)); replace Fw := aa.mk (Kd.eF (pR_ Fw.out) (Kd.cO FY) hb); replace su := kb_ su hb; replace yZ := kb_ yZ hb; replace HB := aa.mk (ai bl_ hb); clear hb FY; obtain ⟨Ao12, FZ, eo12⟩ := Kd.df HO479.out; subst eo12; obtain ⟨vU, vV, vW, vX, vY, vZ⟩ := qa yZ.out))
  refine bodyPost_ret (results_cell_row rfl _ _ yY 104 #[.bool false, .slice none 0 0, .slice Ao12 y477.length FZ] (0, 0) _ rfl b5_ Tryd.underlying104 rfl (by kernel_rfl)) rfl ?_
  exact ⟨_, _, re_, by first | exact Kd.oC _ _ _ _ _ | exact Kd.xG _ _ _ _ _ | exact Kd.xI _ _ _ _ _ | exact Kd.xD _ _ _ _ _ | exact Kd.xE _ _ _ _ _, by (with_reducible repeat (first | apply Kd.dx | apply Kd.dz | apply Kd.dH)); exact Kd.cK (Kd.di (p := ⟨yY, 2, none⟩) (Kd.di (p := ⟨yY, 1, none⟩) (Kd.di (p := ⟨yY, 0, none⟩) (Kd.jQ HO479.out yZ.out (by decide)) (fun _ hk => hk.2) (.bool false)) (fun _ hk => hk.2) (.slice none 0 0)) (fun _ hk => hk.2) (.slice Ao12 y477.length FZ)) (fun _ hk => (by simp [Value.ownBlock])), bl_⟩
 ·rw [if_neg c3] at H; obtain ⟨kI, nu⟩ := bn_ c3; have c3b2 : ¬ (t474 = []) := fun h_ => c3 (by rw [h_]; rfl)
  replace H := Option.bind_eq_some_iff.mp H; obtain ⟨⟨t480, t481, t484⟩, A140, H⟩ := H; (try dsimp only at H)
  have A14 := aa.mk A140; clear A140; simp only [Option.some.injEq, Prod.mk.injEq] at H; obtain ⟨rfl, rfl, rfl⟩ := H; go_enter Tryd.func107, Tryd.ntmps107; go_wp2_with (first | ((with_reducible refine aU (N := 1) rfl ?_); refine aY ?hg (N := 1) ?hd (cs := #[.bool aj, .slice Bj nz.length Bl, .slice yO lg.length yP]) (t := 104) ?hr ?_; (case hd => rfl); (case hg => rfl); (case hr => first | (go_simp; done) | (go_simp; rfl)); intro gb472 hg w15 aK hb; have su := aa.mk (aK); have GW472 : aa (w.heap.size ≤ gb472) := gw_ hg (ax bl_); have GE472 := GW472; replace HB := aa.mk (ai bl_ hb); clear hb aK hg) | ((with_reducible refine aU (N := 2) rfl ?_); refine aY ?hg (N := 2) ?hd (cs := #[.bool false, .slice none 0 0, .slice none 0 0]) (t := 104) ?hr ?_; (case hd => rfl); (case hg => rfl); (case hr => first | (go_simp; done) | (go_simp; rfl)); intro yY hg w16 aK hb; have yZ := aa.mk (aK); have GW473 : aa (w.heap.size ≤ yY) := gw_ hg (ax bl_); have GE473 := GW473; have MU := nl_ su hg; have MV := ng_ su hg; replace su := kb_ su hb; replace HB := aa.mk (ai bl_ hb); clear hb aK hg; have hnb17 := MU.out; have hnc17 := MV.out; obtain ⟨qc, qd, qf, qg, qh, qi⟩ := qa su.out) | ((with_reducible refine aC (f := 116) rfl ?_); refine aX (some 5) rfl rfl Tryd.func116 (by kernel_rfl) rfl #[.slice yO lg.length yP] rfl mp_ ?_; (with_reducible refine (aA.calls k _ _ lg t474 _ ?ay ?az A2.out).mono ?_); (case ay => exact cb_ (Kd.bB JR.out HB.out)); (case az => exact JS.out); rintro e w19 ⟨v475, rfl, ho0, hb⟩; refine ⟨_, rfl, ?_⟩; have Fw := aa.mk (Kd.bV ho0 (ax bl_)); replace su := kb_ su hb; replace yZ := kb_ yZ hb; replace HB := aa.mk (ai bl_ hb); (try clear hb); (try clear hb2); (try clear hk); (try clear hi); (try clear ho0); obtain ⟨Ao20, co20, eo20⟩ := Kd.df Fw.out; subst eo20; obtain ⟨mP, mQ, mR, mU, mV, mW⟩ := qa su.out) | ((with_reducible refine aC (f := 117) rfl ?_); refine aX (some 16) rfl rfl Tryd.func117 (by kernel_rfl) rfl #[.bool aj, .slice Bj nz.length Bl, .slice yO lg.length yP] rfl mp_ ?_; (with_reducible refine (iN.calls k aj _ _ nz _ _ lg t480 t481 t484 _ ?ay ?az ?iB ?iF A14.out).mono ?_); (case ay => exact cb_ (Kd.bB Og.out HB.out)); (case az => exact Oh.out); (case iB => exact cb_ (Kd.bB JR.out HB.out)); (case iF => exact JS.out); rintro e w22 ⟨v482, v485, rfl, ho0, ho1, hb⟩; refine ⟨_, rfl, ?_⟩; have HO483 := aa.mk (Kd.bV (Kd.eD ho0 (Kd.gF (pR_ Fw.out))) (ax bl_)); have HO486 := aa.mk (Kd.bV (Kd.eD ho1 (Kd.gF (pR_ Fw.out))) (ax bl_)); replace Fw := aa.mk (Kd.cK (Kd.nk (Kd.nk (Kd.Dj (pR_ Fw.out) hb) (Kd.cO ho0)) (Kd.cO ho1)) (fun _ h_ => h_.1)); replace su := kb_ su hb; replace yZ := kb_ yZ hb; replace HB := aa.mk (ai bl_ hb); (try clear hb); (try clear hb2); (try clear hk); (try clear hi); (try clear ho0); (try clear ho1); obtain ⟨KS, KT, KU, KV, KW, KX⟩ := qa yZ.out; obtain ⟨xe, uj, EB⟩ := Kd.df HO483.out; subst EB; obtain ⟨Ao25, co25, eo25⟩ := Kd.df HO486.out; subst eo25))
  refine bodyPost_ret (results_cell_row rfl _ _ yY 104 #[.bool t480, .slice xe t481.length uj, .slice Ao25 t484.length co25] (0, 0) _ rfl b5_ Tryd.underlying104 rfl (by kernel_rfl)) rfl ?_
  exact ⟨_, _, re_, by (with_reducible repeat (first | apply Kd.dx | apply Kd.dz | apply Kd.dH)); exact Kd.cK (Kd.di (p := ⟨yY, 2, none⟩) (Kd.di (p := ⟨yY, 1, none⟩) (Kd.di (p := ⟨yY, 0, none⟩) (Kd.jQ HO483.out yZ.out (by decide)) (fun _ hk => hk.2) (.bool t480)) (fun _ hk => hk.2) (.slice xe t481.length uj)) (fun _ hk => hk.2) (.slice Ao25 t484.length co25)) (fun _ hk => hk.1.1), by (with_reducible repeat (first | apply Kd.dx | apply Kd.dz | apply Kd.dH)); exact Kd.cK (Kd.di (p := ⟨yY, 2, none⟩) (Kd.di (p := ⟨yY, 1, none⟩) (Kd.di (p := ⟨yY, 0, none⟩) (Kd.jQ HO486.out yZ.out (by decide)) (fun _ hk => hk.2) (.bool t480)) (fun _ hk => hk.2) (.slice xe t481.length uj)) (fun _ hk => hk.2) (.slice Ao25 t484.length co25)) (fun _ hk => hk.1.1), bl_⟩

end Go.Proofs.YtggelekooacmnaaDoor.Q
namespace Go.Proofs.YtggelekooacmnaaDoor.Q
open Go.RowKit Go.Proofs.YtggelekooacmnaaDoorW.bg Go.Proofs.YtggelekooacmnaaDoorW.bW Go.Proofs.YtggelekooacmnaaDoorW.dh
attribute [local go_sem] fE fF gy gz eO eP fG fH   -- for this text's walks alone
set_option linter.unusedVariables false
set_option linter.unusedSimpArgs false

/-! ### aV: function 108 -/
mutual
def aV.l0 : Nat → List Int → List Int → Option (ByteArray)
 | 0, _, _ => none
 | k + 1, x0, x3 => if (x0.length : Int) > 0 then ((bU.f k x0 10).bind fun bt490 => (if x3.length < 140737488355328 then (aV.l0 k bt490.1 (x3 ++ [((48 + bt490.2) % 4294967296) % 256])) else (none))) else (aV.l1 k x3 0 (wrap64 ((x3.length : Int) - 1)))
def aV.l1 : Nat → List Int → Int → Int → Option (ByteArray)
 | 0, _, _, _ => none
 | k + 1, x3, x6, x7 => if x6 < x7 then (if 0 ≤ x7 then (if x7 < (x3.length : Int) then (if 0 ≤ x6 then (if x6 < (x3.length : Int) then (aV.l1 k ((x3.set (x6 : Int).toNat (rd x3 x7)).set (x7 : Int).toNat (rd x3 x6)) (wrap64 (x6 + 1)) (wrap64 (x7 - 1))) else (none)) else (none)) else (none)) else (none)) else (some (strOfNums x3))
end
def aV.f (k : Nat) (l0 : List Int) : Option (ByteArray) := (aA.f k l0).bind fun Jh => (if (Jh.length : Int) = 0 then (some (⟨#[48]⟩ : ByteArray)) else (aV.l0 k Jh ([] : List Int)))
theorem aV.iQ : ∀ k, (∀ y0 y1, LeO (aV.l0 k y0 y1) (aV.l0 (k + 1) y0 y1)) ∧ (∀ y0 y1 y2, LeO (aV.l1 k y0 y1 y2) (aV.l1 (k + 1) y0 y1 y2))
 | 0 => ⟨fun _ _ r h => by simp [aV.l0] at h, fun _ _ _ r h => by simp [aV.l1] at h⟩
 | k + 1 => by
  obtain ⟨ih0, ih1⟩ := aV.iQ k; refine ⟨?_, ?_⟩
  ·intro y0 y1; unfold aV.l0; repeat' first
   | (with_reducible exact ih0 _ _)
   | (with_reducible exact ih1 _ _ _)
   | (with_reducible exact aA.mono _ _)
   | (with_reducible exact bU.mono _ _ _)
   | (with_reducible exact LeO.refl _)
   | (with_reducible exact LeO.none _)
   | (with_reducible refine LeO.ite ?_ ?_)
   | (with_reducible refine LeO.bind ?_ (fun _ => ?_))
   | exact ih0 _ _
   | exact ih1 _ _ _
   | exact aA.mono _ _
   | exact bU.mono _ _ _
   | exact LeO.none _
   | refine LeO.ite ?_ ?_
   | refine LeO.bind ?_ (fun _ => ?_)
  ·intro y0 y1 y2; unfold aV.l1; repeat' first
   | (with_reducible exact ih0 _ _)
   | (with_reducible exact ih1 _ _ _)
   | (with_reducible exact aA.mono _ _)
   | (with_reducible exact bU.mono _ _ _)
   | (with_reducible exact LeO.refl _)
   | (with_reducible exact LeO.none _)
   | (with_reducible refine LeO.ite ?_ ?_)
   | (with_reducible refine LeO.bind ?_ (fun _ => ?_))
   | exact ih0 _ _
   | exact ih1 _ _ _
   | exact aA.mono _ _
   | exact bU.mono _ _ _
   | exact LeO.none _
   | refine LeO.ite ?_ ?_
   | refine LeO.bind ?_ (fun _ => ?_)
theorem aV.mono : ∀ a0 k, LeO (aV.f k a0) (aV.f (k + 1) a0) := by
 intro a0 k; obtain ⟨ih0, ih1⟩ := aV.iQ k; unfold aV.f
 repeat' first
   | (with_reducible exact ih0 _ _)
   | (with_reducible exact ih1 _ _ _)
   | (with_reducible exact aA.mono _ _)
   | (with_reducible exact bU.mono _ _ _)
   | (with_reducible exact LeO.refl _)
   | (with_reducible exact LeO.none _)
   | (with_reducible refine LeO.ite ?_ ?_)
   | (with_reducible refine LeO.bind ?_ (fun _ => ?_))
   | exact ih0 _ _
   | exact ih1 _ _ _
   | exact aA.mono _ _
   | exact bU.mono _ _ _
   | exact LeO.none _
   | refine LeO.ite ?_ ?_
   | refine LeO.bind ?_ (fun _ => ?_)
def aV.T12 : Bool × List (List Nat × List Nat) := (true, [([], []), ([], []), ([], []), ([], []), ([], []), ([], []), ([4, 5], [4, 5]), ([6], [6]), ([], []), ([], []), ([8, 9], [8, 9]), ([10], [10]), ([0, 1, 0, 1, 4, 5, 6, 7, 11], [0, 1]), ([12, 7, 0, 1, 4, 5, 6, 7, 11], [7, 12]), ([2, 3, 0, 1, 2, 3, 4, 5, 6, 7, 8, 9, 10, 11, 12, 13], [2, 3]), ([14, 11, 13, 0, 1, 2, 3, 4, 5, 6, 7, 8, 9, 10, 11, 12, 13], [11, 14])])
def aV.B12 : List Nat := [0, 0, 0, 0, 0, 0, 48, 112, 0, 0, 768, 1792, 4083, 8179, 16383, 32767]
theorem aV.tab12 : l8 .any (opsOf Tryd.f108 12) = aV.T12 := by kernel_rfl
theorem aV.Uy : nQ aV.T12.2 aV.B12 = true := by kernel_rfl
set_option maxHeartbeats 8000000 in
set_option maxRecDepth 100000 in
theorem aV.calls (k : Nat) (A0 : Option Addr) (c0 : Nat) (l0 : List Int) (r : ByteArray) (w : World) (hr0 : Kd.C (Kd.int .u32) w A0 l0.length l0) (hc0 : l0.length ≤ c0) (h : aV.f k l0 = some r) :
  Calls Tryd.prog 108 #[.slice A0 l0.length c0] w fun e w' => e = .returned (.string r) ∧ Below w.heap.size w w' := by
 have HR0 := aa.mk hr0; have HC0 := aa.mk hc0; clear hr0 hc0; have HB := aa.mk (Below.refl w.heap.size w); have H : ((aA.f k l0).bind fun Jh => (if (Jh.length : Int) = 0 then (some (⟨#[48]⟩ : ByteArray)) else (aV.l0 k Jh ([] : List Int)))) = some r := h; clear h; replace H := Option.bind_eq_some_iff.mp H; obtain ⟨Jh, A20, H⟩ := H; (try dsimp only at H)
 have A2 := aa.mk A20; clear A20; by_cases c3 : (Jh.length : Int) = 0
 ·rw [if_pos c3] at H; obtain ⟨kI, nu⟩ := bq_ c3; clear c3; obtain rfl := Option.some.inj H; go_enter Tryd.func108, Tryd.ntmps108; go_wp2_with (first | ((with_reducible refine aC (f := 116) rfl ?_); refine aX (some 9) rfl rfl Tryd.func116 (by kernel_rfl) rfl #[.slice A0 l0.length c0] rfl mp_ ?_; (with_reducible refine (aA.calls k _ _ l0 Jh _ ?ay ?az A2.out).mono ?_); (case ay => exact cb_ (HR0.out)); (case az => exact HC0.out); rintro e w4 ⟨v488, rfl, ho0, hb⟩; refine ⟨_, rfl, ?_⟩; have HO489 := aa.mk (Kd.bV ho0 (ax bl_)); replace HB := aa.mk (ai bl_ hb); (try clear hb); (try clear hb2); (try clear hk); (try clear hi); (try clear ho0); obtain ⟨Ao5, co5, eo5⟩ := Kd.df HO489.out; subst eo5))
  go_ret; exact ⟨re_, bl_⟩
 ·rw [if_neg c3] at H; obtain ⟨kI, nu⟩ := bn_ c3; have c3b2 : ¬ (Jh = []) := fun h_ => c3 (by rw [h_]; rfl)
  have H' := aa.mk H; clear H; go_enter Tryd.func108, Tryd.ntmps108; go_wp2_with (first | ((with_reducible refine aC (f := 116) rfl ?_); refine aX (some 9) rfl rfl Tryd.func116 (by kernel_rfl) rfl #[.slice A0 l0.length c0] rfl mp_ ?_; (with_reducible refine (aA.calls k _ _ l0 Jh _ ?ay ?az A2.out).mono ?_); (case ay => exact cb_ (HR0.out)); (case az => exact HC0.out); rintro e w6 ⟨v488, rfl, ho0, hb⟩; refine ⟨_, rfl, ?_⟩; have HO489 := aa.mk (Kd.bV ho0 (ax bl_)); replace HB := aa.mk (ai bl_ hb); (try clear hb); (try clear hb2); (try clear hk); (try clear hi); (try clear ho0); obtain ⟨Ao7, co7, eo7⟩ := Kd.df HO489.out; subst eo7))
  go_loopg [0, 3] k (fun kq v0 v3 w' => ∃ (Bg : List Int) (gD : List Int), aa (aV.l0 kq Bg gD = some r) ∧ aa (kq ≤ k) ∧ aa (Kd.R (Kd.int .u32) 119 w' w.heap.size (fun _ => True) v0 Bg) ∧ aa (Kd.R (Kd.int .u8) 5 w' w.heap.size (fun _ => True) v3 gD) ∧ aa (Below w.heap.size w w'))
  case atStart => exact ⟨(Jh), (([] : List Int)), H', ⟨Nat.le_refl _⟩, ⟨pR_ HO489.out⟩, ⟨by first | exact Kd.oC _ _ _ _ _ | exact Kd.xG _ _ _ _ _ | exact Kd.xI _ _ _ _ _ | exact Kd.xD _ _ _ _ _ | exact Kd.xE _ _ _ _ _⟩, ⟨bl_⟩⟩
  case round =>
   clear H'; (try clear c1); (try clear p2); (try clear c3); (try clear kI); (try clear nu); (try clear c3b2); obtain ⟨Bg, gD, HA, HK1, kK, kJ, HB⟩ := hrel; cases gk with
   | zero => exact absurd HA.out (by simp [aV.l0])
   | succ k1 =>
    have H := HA.out; clear HA; simp only [aV.l0] at H; by_cases c8 : (Bg.length : Int) > 0
    ·rw [if_pos c8] at H; have ko : decide (0 < (Bg.length : Int)) = true := decide_eq_true c8; have ny : decide (0 < Bg.length) = true := decide_eq_true (by omega); clear c8; replace H := Option.bind_eq_some_iff.mp H; obtain ⟨⟨t490, t491⟩, A90, H⟩ := H; (try dsimp only at H)
     have A9 := aa.mk A90; clear A90; by_cases c10 : gD.length < 140737488355328
     ·rw [if_pos c10] at H; have LMc10 := aa.mk c10; clear c10; obtain ⟨y494, Oi⟩ : ∃ y_ : List Int, y_ = (gD ++ [((48 + t491) % 4294967296) % 256]) := ⟨_, rfl⟩; replace H : (aV.l0 k1 t490 y494) = some r := by first | (rw [Oi]; with_reducible exact H) | (have H2_ := (Option.bind_some _ _).symm.trans H; rw [Oi]; with_reducible exact H2_) | (have H2_ := (Option.bind_some _ _).symm.trans H; with_reducible exact H2_) | with_reducible exact H | (rw [Oi]; exact H) | exact H
      rw [Int.emod_emod_of_dvd _ (by decide : (256 : Int) ∣ 4294967296)] at Oi; have Ny494 := aa.mk Oi; clear Oi; have H' := aa.mk H; clear H; obtain ⟨Ao11, co11, eo11⟩ := Kd.df kK.out; subst eo11; go_wp2_with (first | ((with_reducible refine aC (f := 118) rfl ?_); refine aX (some 18) rfl rfl Tryd.func118 (by kernel_rfl) rfl #[.slice Ao11 Bg.length co11, .int .u32 10] rfl mp_ ?_; (with_reducible refine (bU.calls k1 _ _ Bg 10 t490 t491 _ ?ay ?az A9.out).mono ?_); (case ay => exact cb_ ((Kd.bu kK.out).2.2)); (case az => exact (Kd.bu kK.out).2.1); rintro e w12 ⟨v492, rfl, ho0, hb⟩; refine ⟨_, rfl, ?_⟩; have HO493 := aa.mk (Kd.bV (Kd.eD ho0 (Kd.gF (pR_ kK.out))) (ax bl_)); replace kK := aa.mk (Kd.eF (pR_ kK.out) (Kd.cO ho0) hb); replace kJ := aa.mk (Kd.gq (pR_ kJ.out) hb); replace HB := aa.mk (ai bl_ hb); (try clear hb); (try clear hb2); (try clear hk); (try clear hi); (try clear ho0)) | ((with_reducible refine qY (b := .append) (xs := #[.tmp 21, .tmp 25]) rfl ?_); at_builtin; refine Kd.Uf (Kd.int .u8) (w0 := w) w.heap.size rfl (.tmp 21) (.tmp 25) 89 5 (.int .u8 0) 1 rfl Tryd.underlying89 info5 rfl (by decide) (by omega) u3 gD ((48 + t491) % 256) [.int .u8 ((48 + t491) % 256)] (fun _ => True) (fun _ => False) rfl rfl ?aP (fun _ hk => hk.elim) ?aF ?aO ?aB ?aS ?aL ?_; (case aP => exact rfl); (case aB => exact bl_); (case aF => exact (fun _ _ => trivial)); (case aO => exact (pR_ kJ.out)); (case aS => exact (ax bl_)); (case aL => have := LMc10.out; omega); intro v495 w13 ho hb hg hat; rw [← Ny494.out] at ho; have HO496 := aa.mk (ho); replace kK := aa.mk (Kd.UW (pR_ kK.out) (Kd.UU (pR_ kJ.out)) (by decide) hg); replace HO493 := aa.mk (Kd.UW (pR_ HO493.out) (Kd.UU (pR_ kJ.out)) (by decide) hg); replace HB := aa.mk (hb); clear kJ; clear ho hb hg hat))
      go_roundg k1
      case measure => have := HK1.out; omega
      case rel => exact ⟨(t490), (y494), H', ⟨by have := HK1.out; omega⟩, ⟨by (with_reducible repeat (first | apply Kd.dx | apply Kd.dz | apply Kd.dH)); exact Kd.cK HO493.out (fun _ hk => trivial)⟩, ⟨pR_ HO496.out⟩, ⟨bl_⟩⟩
     ·rw [if_neg c10] at H; exact absurd H (by simp)
    ·rw [if_neg c8] at H; have ko : decide (0 < (Bg.length : Int)) = false := decide_eq_false c8; have ny : decide (0 < Bg.length) = false := decide_eq_false (by omega); clear c8; have H' := aa.mk H; clear H; obtain ⟨Ao14, co14, eo14⟩ := Kd.df kK.out; subst eo14; obtain ⟨Ao15, co15, eo15⟩ := Kd.df kJ.out; subst eo15; go_wp2; go_loopg [6, 7] k1 (fun kq v6 v7 w' => ∃ (sK : List Int) (kH : Int) (um : Int), v6 = .int .i64 kH ∧ v7 = .int .i64 um ∧ aa (aV.l1 kq sK kH um = some r) ∧ aa (kq ≤ k1) ∧ aa (Kd.R (Kd.int .u8) 5 w' w.heap.size (fun _ => True) (.slice Ao15 gD.length co15) sK) ∧ aa (Below w.heap.size w w'))
     case atStart => exact ⟨(gD), (0), (wrap64 ((gD.length : Int) - 1)), rs_, rs_, H', ⟨Nat.le_refl _⟩, ⟨pR_ kJ.out⟩, ⟨bl_⟩⟩
     case round =>
      clear H'; (try clear c1); (try clear p2); (try clear c3); (try clear kI); (try clear nu); (try clear c3b2); (try clear p6); (try clear c8); (try clear ko); (try clear ny); (try clear c10); (try clear c11); (try clear p2); obtain ⟨sK, kH, um, rfl, rfl, HA, HK2, kJ, HB⟩ := hrel; have hl3_2 := (Kd.bu kJ.out).1; rw [hl3_2] at kJ; (try simp only [hl3_2])
      cases gk with
      | zero => exact absurd HA.out (by simp [aV.l1])
      | succ k2 =>
       have H := HA.out; clear HA; simp only [aV.l1] at H; by_cases c16 : kH < um
       ·rw [if_pos c16] at H; have Gf := decide_eq_true c16; clear c16; by_cases c17 : 0 ≤ um
        ·rw [if_pos c17] at H; have qV := decide_eq_true c17; clear c17; by_cases c18 : um < (sK.length : Int)
         ·rw [if_pos c18] at H; have vK := decide_eq_true c18; clear c18; by_cases c19 : 0 ≤ kH
          ·rw [if_pos c19] at H; have Fq := decide_eq_true c19; clear c19; by_cases c20 : kH < (sK.length : Int)
           ·rw [if_pos c20] at H; have vN := decide_eq_true c20; clear c20; obtain ⟨y499, Qv⟩ : ∃ y_ : List Int, y_ = (sK.set (kH : Int).toNat (rd sK um)) := ⟨_, rfl⟩; replace H : (aV.l1 k2 (y499.set (um : Int).toNat (rd sK kH)) (wrap64 (kH + 1)) (wrap64 (um - 1))) = some r := by first | (rw [Qv]; with_reducible exact H) | (have H2_ := (Option.bind_some _ _).symm.trans H; rw [Qv]; with_reducible exact H2_) | (have H2_ := (Option.bind_some _ _).symm.trans H; with_reducible exact H2_) | with_reducible exact H | (rw [Qv]; exact H) | exact H
            have Ny499 := aa.mk Qv; clear Qv; obtain ⟨y500, Qw⟩ : ∃ y_ : List Int, y_ = (y499.set (um : Int).toNat (rd sK kH)) := ⟨_, rfl⟩; replace H : (aV.l1 k2 y500 (wrap64 (kH + 1)) (wrap64 (um - 1))) = some r := by first | (rw [Qw]; with_reducible exact H) | (have H2_ := (Option.bind_some _ _).symm.trans H; rw [Qw]; with_reducible exact H2_) | (have H2_ := (Option.bind_some _ _).symm.trans H; with_reducible exact H2_) | with_reducible exact H | (rw [Qw]; exact H) | exact H
            have Ny500 := aa.mk Qw; clear Qw; have H' := aa.mk H; clear H; try go_wp2
            replace kJ := aa.mk (Kd.dH kJ.out); replace HB := aa.mk (bQ HB.out); have p497 : 0 ≤ (um : Int) := dt_; have q497 : um < (sK.length : Int) := dt_; obtain ⟨ad497, e497, TC⟩ := Kd.lX (Kd.bu kJ.out).2.2 um p497 q497; cases e497; replace p497 := eq_true p497; replace q497 := eq_true q497; have p498 : 0 ≤ (kH : Int) := dt_; have q498 : kH < (sK.length : Int) := dt_; obtain ⟨ad498, e498, TD⟩ := Kd.lX (Kd.bu kJ.out).2.2 kH p498 q498; obtain rfl : ad497 = ad498 := (by injection e498); replace p498 := eq_true p498; replace q498 := eq_true q498; have p21 : 0 ≤ (kH : Int) := dt_; have q21 : (kH : Int) < ((sK.length : Int) : Int) := dt_; obtain ⟨go21, co21, eo21, gb21, gl21, cl21, HG21⟩ := Kd.Fz kJ.out (by omega); (first | cases eo21 | (injection eo21 with ea_ en_ ec_; (first | subst ea_ | (injection ea_ with ea_; subst ea_)); subst ec_; clear en_))
            have GB21 := aa.mk gb21; have GG21 := aa.mk HG21; clear gb21 gl21 HG21; (first | simp only [add_plain] at TC | skip)
            (first | simp only [add_plain] at TD | skip)
            obtain ⟨hx21_0, hf21_0⟩ := Kd.zx 0 kJ.out (kH : Int) p21 q21; replace p21 := eq_true p21; replace q21 := eq_true q21; have HP24 := Kd.R_putn kJ.out (kH : Int) (rd sK um); rw [← Ny499.out] at HP24; have HQ24 := aa.mk HP24; clear HP24; have p22 : 0 ≤ (um : Int) := dt_; have q22 : (um : Int) < ((sK.length : Int) : Int) := dt_; obtain ⟨hx22_0, hf22_0⟩ := Kd.zx 0 HQ24.out (um : Int) p22 q22; replace p22 := eq_true p22; replace q22 := eq_true q22; have HP25 := Kd.R_putn HQ24.out (um : Int) (rd sK kH); rw [← Ny500.out] at HP25; have HQ25 := aa.mk HP25; clear HP25; refine sD (n := 16) (S := fun w' => w'.cell? ⟨go21, (um).toNat, none⟩ = some (.int .u8 (rd sK um)) ∧ w'.cell? ⟨go21, (kH).toNat, none⟩ = some (.int .u8 (rd sK kH))) (ds := [13, 15]) #[false, false, false, false, false, false, false, false, false, false, false, false, false, false, false, false] (by kernel_rfl) rfl rfl ⟨TC, TD⟩ (fun hHeld => ?_); refine l9 aV.tab12 aV.Uy (fun HT_ HW_ => ?_)
            generalize wr.drew = w23 at kJ HB GG21 HQ24 HQ25 hf21_0 hf22_0 hx21_0 hx22_0 TC TD hHeld ⊢
            refine pu_ HT_ 0 38 (bm 16 1) ?_
            refine pu_ HT_ 1 39 (bm 16 3) ?_
            refine pu_ HT_ 2 40 (bm 16 7) ?_
            refine pu_ HT_ 3 41 (bm 16 15) ?_
            refine pu_ HT_ 4 42 (bm 16 31) ?_
            refine pu_ HT_ 5 43 (bm 16 63) ?_
            refine pu_ HT_ 6 44 (bm 16 127) ?_
            refine pu_ HT_ 8 46 (bm 16 383) ?_
            refine pu_ HT_ 9 47 (bm 16 895) ?_
            refine pu_ HT_ 10 48 (bm 16 1919) ?_
            refine ta_ HT_ HW_ 7 45 (bm 16 2047) hHeld ?_
            refine ta_ HT_ HW_ 11 49 (bm 16 4095) hHeld ?_
            refine pu_ HT_ 12 50 (bm 16 8191) ?_
            refine O3 (i := 13) (N := none) #[true, true, true, true, true, true, true, true, true, true, true, true, true, true, false, false] rfl rfl (jD HT_.out (by kernel_rfl)) (by decide) (fun K hK => ?_)
            refine MZ (w1 := ?_) (by rfl) rfl ?_ ?_
            rotate_left
            ·go_simp; rfl
            refine hK.out _ _ ?_
            clear hK K; refine pu_ HT_ 14 51 (bm 16 32767) ?_
            refine O3 (i := 15) (N := none) #[true, true, true, true, true, true, true, true, true, true, true, true, true, true, true, true] rfl rfl (jD HT_.out (by kernel_rfl)) (by decide) (fun K hK => ?_)
            refine MZ (w1 := ?_) (by rfl) rfl ?_ ?_
            rotate_left
            ·go_simp; rfl
            refine hK.out _ _ ?_
            clear hK K; refine vJ (p9 HT_.out (by kernel_rfl)) ?_
            try go_wp2
            (try simp only [← hl3_2])
            go_roundg k2
            case measure => have := HK1.out; have := HK2.out; omega
            case rel => exact ⟨(y500), (wrap64 (kH + 1)), (wrap64 (um - 1)), rs_, rs_, H', ⟨by have := HK1.out; have := HK2.out; omega⟩, ⟨by (try simp only [hl3_2]); (with_reducible repeat (first | apply Kd.dx | apply Kd.dz | apply Kd.dH)); exact HQ25.out⟩, ⟨bl_⟩⟩
           ·rw [if_neg c20] at H; exact absurd H (by simp)
          ·rw [if_neg c19] at H; exact absurd H (by simp)
         ·rw [if_neg c18] at H; exact absurd H (by simp)
        ·rw [if_neg c17] at H; exact absurd H (by simp)
       ·rw [if_neg c16] at H; have Gf := decide_eq_false c16; clear c16; obtain rfl := Option.some.inj H; have hcv26 := X8 (P := Tryd.prog) Tryd.underlying89 Tryd.underlying5 Tryd.underlying9 (Kd.OH kJ.out); go_wp2; go_ret; exact ⟨re_, bl_⟩

end Go.Proofs.YtggelekooacmnaaDoor.Q
namespace Go.Proofs.YtggelekooacmnaaDoor.Q
open Go.RowKit Go.Proofs.YtggelekooacmnaaDoorW.bg Go.Proofs.YtggelekooacmnaaDoorW.bW Go.Proofs.YtggelekooacmnaaDoorW.dh
attribute [local go_sem] fE fF gy gz eO eP fG fH   -- for this text's walks alone
set_option linter.unusedVariables false
set_option linter.unusedSimpArgs false

/-! ### iG: function 99 -/
def iG.f (k : Nat) (aj : Bool) (nz : List Int) (lg : List Int) : Option (ByteArray) := (iD.f k aj nz lg).bind fun Gu => ((aV.f k Gu.2.1).bind fun nA => (if Gu.1 = true then (if 1 + nA.size ≤ 9223372036854775807 then ((aV.f k Gu.2.2).bind fun uo => (if uo.toList = ([49] : List UInt8) then (some ((⟨#[45]⟩ : ByteArray) ++ nA)) else (if 1 + uo.size ≤ 9223372036854775807 then (if ((⟨#[45]⟩ : ByteArray) ++ nA).size + ((⟨#[47]⟩ : ByteArray) ++ uo).size ≤ 9223372036854775807 then (some (((⟨#[45]⟩ : ByteArray) ++ nA) ++ ((⟨#[47]⟩ : ByteArray) ++ uo))) else (none)) else (none)))) else (none)) else ((aV.f k Gu.2.2).bind fun uq => (if uq.toList = ([49] : List UInt8) then (some nA) else (if 1 + uq.size ≤ 9223372036854775807 then (if nA.size + ((⟨#[47]⟩ : ByteArray) ++ uq).size ≤ 9223372036854775807 then (some (nA ++ ((⟨#[47]⟩ : ByteArray) ++ uq))) else (none)) else (none))))))
theorem iG.mono : ∀ a0 a1 a2 k, LeO (iG.f k a0 a1 a2) (iG.f (k + 1) a0 a1 a2) := by
 intro a0 a1 a2 k; unfold iG.f
 repeat' first
   | (with_reducible exact aV.mono _ _)
   | (with_reducible exact iD.mono _ _ _ _)
   | (with_reducible exact LeO.refl _)
   | (with_reducible exact LeO.none _)
   | (with_reducible refine LeO.ite ?_ ?_)
   | (with_reducible refine LeO.bind ?_ (fun _ => ?_))
   | exact aV.mono _ _
   | exact iD.mono _ _ _ _
   | exact LeO.none _
   | refine LeO.ite ?_ ?_
   | refine LeO.bind ?_ (fun _ => ?_)
set_option maxHeartbeats 8000000 in
set_option maxRecDepth 100000 in
theorem iG.calls (k : Nat) (aj : Bool) (Bj : Option Addr) (Bl : Nat) (nz : List Int) (yO : Option Addr) (yP : Nat) (lg : List Int) (r : ByteArray) (w : World) (Qq : Kd.C (Kd.int .u32) w Bj nz.length nz) (Qr : nz.length ≤ Bl) (Qs : Kd.C (Kd.int .u32) w yO lg.length lg) (Qt : lg.length ≤ yP) (h : iG.f k aj nz lg = some r) :
  Calls Tryd.prog 99 #[.agg #[.bool aj, .slice Bj nz.length Bl, .slice yO lg.length yP]] w fun e w' => e = .returned (.string r) ∧ Below w.heap.size w w' := by
 have hu104 := Tryd.underlying104; have Og := aa.mk Qq; have Oh := aa.mk Qr; clear Qq Qr; have JR := aa.mk Qs; have JS := aa.mk Qt; clear Qs Qt; have HB := aa.mk (Below.refl w.heap.size w); have H : ((iD.f k aj nz lg).bind fun Gu => ((aV.f k Gu.2.1).bind fun nA => (if Gu.1 = true then (if 1 + nA.size ≤ 9223372036854775807 then ((aV.f k Gu.2.2).bind fun uo => (if uo.toList = ([49] : List UInt8) then (some ((⟨#[45]⟩ : ByteArray) ++ nA)) else (if 1 + uo.size ≤ 9223372036854775807 then (if ((⟨#[45]⟩ : ByteArray) ++ nA).size + ((⟨#[47]⟩ : ByteArray) ++ uo).size ≤ 9223372036854775807 then (some (((⟨#[45]⟩ : ByteArray) ++ nA) ++ ((⟨#[47]⟩ : ByteArray) ++ uo))) else (none)) else (none)))) else (none)) else ((aV.f k Gu.2.2).bind fun uq => (if uq.toList = ([49] : List UInt8) then (some nA) else (if 1 + uq.size ≤ 9223372036854775807 then (if nA.size + ((⟨#[47]⟩ : ByteArray) ++ uq).size ≤ 9223372036854775807 then (some (nA ++ ((⟨#[47]⟩ : ByteArray) ++ uq))) else (none)) else (none))))))) = some r := h; clear h; replace H := Option.bind_eq_some_iff.mp H; obtain ⟨⟨t502, nM, ng⟩, A20, H⟩ := H; (try dsimp only at H)
 have A2 := aa.mk A20; clear A20; replace H := Option.bind_eq_some_iff.mp H; obtain ⟨nA, A30, H⟩ := H; (try dsimp only at H)
 have A3 := aa.mk A30; clear A30; by_cases c4 : t502 = true
 ·subst c4; have H1 : (if 1 + nA.size ≤ 9223372036854775807 then ((aV.f k ng).bind fun uo => (if uo.toList = ([49] : List UInt8) then (some ((⟨#[45]⟩ : ByteArray) ++ nA)) else (if 1 + uo.size ≤ 9223372036854775807 then (if ((⟨#[45]⟩ : ByteArray) ++ nA).size + ((⟨#[47]⟩ : ByteArray) ++ uo).size ≤ 9223372036854775807 then (some (((⟨#[45]⟩ : ByteArray) ++ nA) ++ ((⟨#[47]⟩ : ByteArray) ++ uo))) else (none)) else (none)))) else (none)) = some r := by rw [if_pos rfl] at H; exact H
  clear H; have H := H1; clear H1; by_cases c5 : 1 + nA.size ≤ 9223372036854775807
  ·rw [if_pos c5] at H; have jU := eq_true c5; have sJ := decide_eq_true c5; try have c5b2 : (9223372036854775807 < 1 + nA.size) = False := eq_false (Nat.not_lt.2 c5)
   replace H := Option.bind_eq_some_iff.mp H; obtain ⟨uo, A60, H⟩ := H; (try dsimp only at H)
   have A6 := aa.mk A60; clear A60; by_cases c7 : uo.toList = ([49] : List UInt8)
   ·rw [if_pos c7] at H; obtain ⟨mO, zk⟩ := bq_ c7; clear c7; obtain rfl := Option.some.inj H; go_enter Tryd.func99, Tryd.ntmps99; go_wp2_with (first | ((with_reducible refine aU (N := 1) rfl ?_); refine aY ?hg (N := 1) ?hd (cs := #[.bool aj, .slice Bj nz.length Bl, .slice yO lg.length yP]) (t := 104) ?hr ?_; (case hd => rfl); (case hg => rfl); (case hr => first | (go_simp; done) | (go_simp; rfl)); intro jk hg w8 aK hb; have jl := aa.mk (aK); have Mk : aa (w.heap.size ≤ jk) := gw_ hg (ax bl_); have GE501 := Mk; replace HB := aa.mk (ai bl_ hb); clear hb aK hg; obtain ⟨Dv, Dw, Dx, Dy, Dz, DC⟩ := qa jl.out) | ((with_reducible refine aC (f := 107) rfl ?_); refine aX (some 6) rfl rfl Tryd.func107 (by kernel_rfl) rfl #[.agg #[.bool aj, .slice Bj nz.length Bl, .slice yO lg.length yP]] rfl mp_ ?_; (with_reducible refine (iD.calls k aj _ _ nz _ _ lg true nM ng _ ?ay ?az ?iB ?iF A2.out).mono ?_); (case ay => exact cb_ (Kd.bB Og.out HB.out)); (case az => exact Oh.out); (case iB => exact cb_ (Kd.bB JR.out HB.out)); (case iF => exact JS.out); rintro e w10 ⟨v504, v507, rfl, ho0, ho1, hb⟩; refine ⟨_, rfl, ?_⟩; have lh := aa.mk (Kd.bV ho0 (ax bl_)); have ll := aa.mk (Kd.bV ho1 (ax bl_)); replace jl := kb_ jl hb; replace HB := aa.mk (ai bl_ hb); (try clear hb); (try clear hb2); (try clear hk); (try clear hi); (try clear ho0); (try clear ho1); obtain ⟨nR, nS, nT, nU, nV, nW⟩ := qa jl.out; obtain ⟨Ao12, FZ, eo12⟩ := Kd.df lh.out; subst eo12; obtain ⟨yN, xO, eo13⟩ := Kd.df ll.out; subst eo13) | ((with_reducible refine aC (f := 108) rfl ?_); refine aX (some 9) rfl rfl Tryd.func108 (by kernel_rfl) rfl #[.slice Ao12 nM.length FZ] rfl mp_ ?_; (with_reducible refine (aV.calls k _ _ nM nA _ ?ay ?az A3.out).mono ?_); (case ay => refine (Kd.bu (e := 119) (base := w.heap.size) (ok := fun k_ => some k_ ≠ (.slice yN ng.length xO : Value).ownBlock) (n := nM.length) (c := FZ) ?_).2.2; exact (by (with_reducible repeat (first | apply Kd.dx | apply Kd.dz | apply Kd.dH)); exact (Kd.cK (Kd.di (p := ⟨jk, 2, none⟩) (Kd.di (p := ⟨jk, 1, none⟩) (Kd.di (p := ⟨jk, 0, none⟩) (Kd.jQ lh.out jl.out (by decide)) (fun _ hk => hk.2) (.bool true)) (fun _ hk => hk.2) (.slice Ao12 nM.length FZ)) (fun _ hk => hk.2) (.slice yN ng.length xO)) (fun _ h_ => h_.1)))); (case az => exact (Kd.bu lh.out).2.1); rintro e w14 ⟨rfl, hb⟩; refine ⟨_, rfl, ?_⟩; replace lh := aa.mk (Kd.gq (by (with_reducible repeat (first | apply Kd.dx | apply Kd.dz | apply Kd.dH)); exact (Kd.cK (Kd.di (p := ⟨jk, 2, none⟩) (Kd.di (p := ⟨jk, 1, none⟩) (Kd.di (p := ⟨jk, 0, none⟩) (Kd.jQ lh.out jl.out (by decide)) (fun _ hk => hk.2) (.bool true)) (fun _ hk => hk.2) (.slice Ao12 nM.length FZ)) (fun _ hk => hk.2) (.slice yN ng.length xO)) (fun _ h_ => h_.1))) hb); replace ll := aa.mk (Kd.gq (by (with_reducible repeat (first | apply Kd.dx | apply Kd.dz | apply Kd.dH)); exact (Kd.cK (Kd.di (p := ⟨jk, 2, none⟩) (Kd.di (p := ⟨jk, 1, none⟩) (Kd.di (p := ⟨jk, 0, none⟩) (Kd.jQ ll.out jl.out (by decide)) (fun _ hk => hk.2) (.bool true)) (fun _ hk => hk.2) (.slice Ao12 nM.length FZ)) (fun _ hk => hk.2) (.slice yN ng.length xO)) (fun _ h_ => h_.1))) hb); replace jl := aa.mk (gJ (g := jk) (o := .cells #[.bool true, .slice Ao12 nM.length FZ, .slice yN ng.length xO] 104 (0, 0)) b5_ hb); replace HB := aa.mk (ai bl_ hb); (try clear hb); (try clear hb2); (try clear hk); (try clear hi); obtain ⟨uO, uP, uQ, uR, uS, uT⟩ := qa jl.out) | ((with_reducible refine aC (f := 108) rfl ?_); refine aX (some 16) rfl rfl Tryd.func108 (by kernel_rfl) rfl #[.slice yN ng.length xO] rfl mp_ ?_; (with_reducible refine (aV.calls k _ _ ng uo _ ?ay ?az A6.out).mono ?_); (case ay => exact cb_ ((Kd.bu ll.out).2.2)); (case az => exact (Kd.bu ll.out).2.1); rintro e w16 ⟨rfl, hb⟩; refine ⟨_, rfl, ?_⟩; replace lh := aa.mk (Kd.gq (pR_ lh.out) hb); replace ll := aa.mk (Kd.gq (pR_ ll.out) hb); replace jl := kb_ jl hb; replace HB := aa.mk (ai bl_ hb); (try clear hb); (try clear hb2); (try clear hk); (try clear hi)))
    go_ret; exact ⟨re_, bl_⟩
   ·rw [if_neg c7] at H; obtain ⟨mO, zk⟩ := bn_ c7; by_cases c17 : 1 + uo.size ≤ 9223372036854775807
    ·rw [if_pos c17] at H; have qV := eq_true c17; have xK := decide_eq_true c17; try have c17b2 : (9223372036854775807 < 1 + uo.size) = False := eq_false (Nat.not_lt.2 c17)
     by_cases c18 : ((⟨#[45]⟩ : ByteArray) ++ nA).size + ((⟨#[47]⟩ : ByteArray) ++ uo).size ≤ 9223372036854775807
     ·rw [if_pos c18] at H; have vK := eq_true c18; have Du := decide_eq_true c18; try have c18b2 : (9223372036854775807 < ((⟨#[45]⟩ : ByteArray) ++ nA).size + ((⟨#[47]⟩ : ByteArray) ++ uo).size) = False := eq_false (Nat.not_lt.2 c18)
      obtain rfl := Option.some.inj H; go_enter Tryd.func99, Tryd.ntmps99; go_wp2_with (first | ((with_reducible refine aU (N := 1) rfl ?_); refine aY ?hg (N := 1) ?hd (cs := #[.bool aj, .slice Bj nz.length Bl, .slice yO lg.length yP]) (t := 104) ?hr ?_; (case hd => rfl); (case hg => rfl); (case hr => first | (go_simp; done) | (go_simp; rfl)); intro jk hg w19 aK hb; have jl := aa.mk (aK); have Mk : aa (w.heap.size ≤ jk) := gw_ hg (ax bl_); have GE501 := Mk; replace HB := aa.mk (ai bl_ hb); clear hb aK hg; obtain ⟨rD, rE, rF, rG, rH, rJ⟩ := qa jl.out) | ((with_reducible refine aC (f := 107) rfl ?_); refine aX (some 6) rfl rfl Tryd.func107 (by kernel_rfl) rfl #[.agg #[.bool aj, .slice Bj nz.length Bl, .slice yO lg.length yP]] rfl mp_ ?_; (with_reducible refine (iD.calls k aj _ _ nz _ _ lg true nM ng _ ?ay ?az ?iB ?iF A2.out).mono ?_); (case ay => exact cb_ (Kd.bB Og.out HB.out)); (case az => exact Oh.out); (case iB => exact cb_ (Kd.bB JR.out HB.out)); (case iF => exact JS.out); rintro e w21 ⟨v504, v507, rfl, ho0, ho1, hb⟩; refine ⟨_, rfl, ?_⟩; have lh := aa.mk (Kd.bV ho0 (ax bl_)); have ll := aa.mk (Kd.bV ho1 (ax bl_)); replace jl := kb_ jl hb; replace HB := aa.mk (ai bl_ hb); (try clear hb); (try clear hb2); (try clear hk); (try clear hi); (try clear ho0); (try clear ho1); obtain ⟨qj, ql, qm, qo, qp, qw⟩ := qa jl.out; obtain ⟨BD, zl, DJ⟩ := Kd.df lh.out; subst DJ; obtain ⟨xe, uj, EB⟩ := Kd.df ll.out; subst EB) | ((with_reducible refine aC (f := 108) rfl ?_); refine aX (some 9) rfl rfl Tryd.func108 (by kernel_rfl) rfl #[.slice BD nM.length zl] rfl mp_ ?_; (with_reducible refine (aV.calls k _ _ nM nA _ ?ay ?az A3.out).mono ?_); (case ay => refine (Kd.bu (e := 119) (base := w.heap.size) (ok := fun k_ => some k_ ≠ (.slice xe ng.length uj : Value).ownBlock) (n := nM.length) (c := zl) ?_).2.2; exact (by (with_reducible repeat (first | apply Kd.dx | apply Kd.dz | apply Kd.dH)); exact (Kd.cK (Kd.di (p := ⟨jk, 2, none⟩) (Kd.di (p := ⟨jk, 1, none⟩) (Kd.di (p := ⟨jk, 0, none⟩) (Kd.jQ lh.out jl.out (by decide)) (fun _ hk => hk.2) (.bool true)) (fun _ hk => hk.2) (.slice BD nM.length zl)) (fun _ hk => hk.2) (.slice xe ng.length uj)) (fun _ h_ => h_.1)))); (case az => exact (Kd.bu lh.out).2.1); rintro e w25 ⟨rfl, hb⟩; refine ⟨_, rfl, ?_⟩; replace lh := aa.mk (Kd.gq (by (with_reducible repeat (first | apply Kd.dx | apply Kd.dz | apply Kd.dH)); exact (Kd.cK (Kd.di (p := ⟨jk, 2, none⟩) (Kd.di (p := ⟨jk, 1, none⟩) (Kd.di (p := ⟨jk, 0, none⟩) (Kd.jQ lh.out jl.out (by decide)) (fun _ hk => hk.2) (.bool true)) (fun _ hk => hk.2) (.slice BD nM.length zl)) (fun _ hk => hk.2) (.slice xe ng.length uj)) (fun _ h_ => h_.1))) hb); replace ll := aa.mk (Kd.gq (by (with_reducible repeat (first | apply Kd.dx | apply Kd.dz | apply Kd.dH)); exact (Kd.cK (Kd.di (p := ⟨jk, 2, none⟩) (Kd.di (p := ⟨jk, 1, none⟩) (Kd.di (p := ⟨jk, 0, none⟩) (Kd.jQ ll.out jl.out (by decide)) (fun _ hk => hk.2) (.bool true)) (fun _ hk => hk.2) (.slice BD nM.length zl)) (fun _ hk => hk.2) (.slice xe ng.length uj)) (fun _ h_ => h_.1))) hb); replace jl := aa.mk (gJ (g := jk) (o := .cells #[.bool true, .slice BD nM.length zl, .slice xe ng.length uj] 104 (0, 0)) b5_ hb); replace HB := aa.mk (ai bl_ hb); (try clear hb); (try clear hb2); (try clear hk); (try clear hi); obtain ⟨wK, wL, wM, wN, wO, wP⟩ := qa jl.out) | ((with_reducible refine aC (f := 108) rfl ?_); refine aX (some 16) rfl rfl Tryd.func108 (by kernel_rfl) rfl #[.slice xe ng.length uj] rfl mp_ ?_; (with_reducible refine (aV.calls k _ _ ng uo _ ?ay ?az A6.out).mono ?_); (case ay => exact cb_ ((Kd.bu ll.out).2.2)); (case az => exact (Kd.bu ll.out).2.1); rintro e w27 ⟨rfl, hb⟩; refine ⟨_, rfl, ?_⟩; replace lh := aa.mk (Kd.gq (pR_ lh.out) hb); replace ll := aa.mk (Kd.gq (pR_ ll.out) hb); replace jl := kb_ jl hb; replace HB := aa.mk (ai bl_ hb); (try clear hb); (try clear hb2); (try clear hk); (try clear hi)))
      go_ret; exact ⟨re_, bl_⟩
     ·rw [if_neg c18] at H; exact absurd H (by simp)
    ·rw [if_neg c17] at H; exact absurd H (by simp)
  ·rw [if_neg c5] at H; exact absurd H (by simp)
 ·replace c4 := Bool.eq_false_iff.mpr c4; subst c4; have H1 : ((aV.f k ng).bind fun uq => (if uq.toList = ([49] : List UInt8) then (some nA) else (if 1 + uq.size ≤ 9223372036854775807 then (if nA.size + ((⟨#[47]⟩ : ByteArray) ++ uq).size ≤ 9223372036854775807 then (some (nA ++ ((⟨#[47]⟩ : ByteArray) ++ uq))) else (none)) else (none)))) = some r := by rw [if_neg (show ¬ (false = true) by decide)] at H; exact H
  clear H; have H := H1; clear H1; replace H := Option.bind_eq_some_iff.mp H; obtain ⟨uq, A280, H⟩ := H; (try dsimp only at H)
  have A28 := aa.mk A280; clear A280; by_cases c29 : uq.toList = ([49] : List UInt8)
  ·rw [if_pos c29] at H; obtain ⟨Gh, Gi⟩ := bq_ c29; clear c29; obtain rfl := Option.some.inj H; go_enter Tryd.func99, Tryd.ntmps99; go_wp2_with (first | ((with_reducible refine aU (N := 1) rfl ?_); refine aY ?hg (N := 1) ?hd (cs := #[.bool aj, .slice Bj nz.length Bl, .slice yO lg.length yP]) (t := 104) ?hr ?_; (case hd => rfl); (case hg => rfl); (case hr => first | (go_simp; done) | (go_simp; rfl)); intro jk hg w30 aK hb; have jl := aa.mk (aK); have Mk : aa (w.heap.size ≤ jk) := gw_ hg (ax bl_); have GE501 := Mk; replace HB := aa.mk (ai bl_ hb); clear hb aK hg; obtain ⟨zy, zz, zA, zB, zC, zD⟩ := qa jl.out) | ((with_reducible refine aC (f := 107) rfl ?_); refine aX (some 6) rfl rfl Tryd.func107 (by kernel_rfl) rfl #[.agg #[.bool aj, .slice Bj nz.length Bl, .slice yO lg.length yP]] rfl mp_ ?_; (with_reducible refine (iD.calls k aj _ _ nz _ _ lg false nM ng _ ?ay ?az ?iB ?iF A2.out).mono ?_); (case ay => exact cb_ (Kd.bB Og.out HB.out)); (case az => exact Oh.out); (case iB => exact cb_ (Kd.bB JR.out HB.out)); (case iF => exact JS.out); rintro e w32 ⟨v504, v507, rfl, ho0, ho1, hb⟩; refine ⟨_, rfl, ?_⟩; have lh := aa.mk (Kd.bV ho0 (ax bl_)); have ll := aa.mk (Kd.bV ho1 (ax bl_)); replace jl := kb_ jl hb; replace HB := aa.mk (ai bl_ hb); (try clear hb); (try clear hb2); (try clear hk); (try clear hi); (try clear ho0); (try clear ho1); obtain ⟨GD, GG, GH, GI, GJ, GK⟩ := qa jl.out; obtain ⟨Ao34, co34, eo34⟩ := Kd.df lh.out; subst eo34; obtain ⟨Ao35, co35, eo35⟩ := Kd.df ll.out; subst eo35) | ((with_reducible refine aC (f := 108) rfl ?_); refine aX (some 9) rfl rfl Tryd.func108 (by kernel_rfl) rfl #[.slice Ao34 nM.length co34] rfl mp_ ?_; (with_reducible refine (aV.calls k _ _ nM nA _ ?ay ?az A3.out).mono ?_); (case ay => refine (Kd.bu (e := 119) (base := w.heap.size) (ok := fun k_ => some k_ ≠ (.slice Ao35 ng.length co35 : Value).ownBlock) (n := nM.length) (c := co34) ?_).2.2; exact (by (with_reducible repeat (first | apply Kd.dx | apply Kd.dz | apply Kd.dH)); exact (Kd.cK (Kd.di (p := ⟨jk, 2, none⟩) (Kd.di (p := ⟨jk, 1, none⟩) (Kd.di (p := ⟨jk, 0, none⟩) (Kd.jQ lh.out jl.out (by decide)) (fun _ hk => hk.2) (.bool false)) (fun _ hk => hk.2) (.slice Ao34 nM.length co34)) (fun _ hk => hk.2) (.slice Ao35 ng.length co35)) (fun _ h_ => h_.1)))); (case az => exact (Kd.bu lh.out).2.1); rintro e w36 ⟨rfl, hb⟩; refine ⟨_, rfl, ?_⟩; replace lh := aa.mk (Kd.gq (by (with_reducible repeat (first | apply Kd.dx | apply Kd.dz | apply Kd.dH)); exact (Kd.cK (Kd.di (p := ⟨jk, 2, none⟩) (Kd.di (p := ⟨jk, 1, none⟩) (Kd.di (p := ⟨jk, 0, none⟩) (Kd.jQ lh.out jl.out (by decide)) (fun _ hk => hk.2) (.bool false)) (fun _ hk => hk.2) (.slice Ao34 nM.length co34)) (fun _ hk => hk.2) (.slice Ao35 ng.length co35)) (fun _ h_ => h_.1))) hb); replace ll := aa.mk (Kd.gq (by (with_reducible repeat (first | apply Kd.dx | apply Kd.dz | apply Kd.dH)); exact (Kd.cK (Kd.di (p := ⟨jk, 2, none⟩) (Kd.di (p := ⟨jk, 1, none⟩) (Kd.di (p := ⟨jk, 0, none⟩) (Kd.jQ ll.out jl.out (by decide)) (fun _ hk => hk.2) (.bool false)) (fun _ hk => hk.2) (.slice Ao34 nM.length co34)) (fun _ hk => hk.2) (.slice Ao35 ng.length co35)) (fun _ h_ => h_.1))) hb); replace jl := aa.mk (gJ (g := jk) (o := .cells #[.bool false, .slice Ao34 nM.length co34, .slice Ao35 ng.length co35] 104 (0, 0)) b5_ hb); replace HB := aa.mk (ai bl_ hb); (try clear hb); (try clear hb2); (try clear hk); (try clear hi); obtain ⟨wh, wm, wo, wu, wy, wz⟩ := qa jl.out) | ((with_reducible refine aC (f := 108) rfl ?_); refine aX (some 16) rfl rfl Tryd.func108 (by kernel_rfl) rfl #[.slice Ao35 ng.length co35] rfl mp_ ?_; (with_reducible refine (aV.calls k _ _ ng uq _ ?ay ?az A28.out).mono ?_); (case ay => exact cb_ ((Kd.bu ll.out).2.2)); (case az => exact (Kd.bu ll.out).2.1); rintro e w38 ⟨rfl, hb⟩; refine ⟨_, rfl, ?_⟩; replace lh := aa.mk (Kd.gq (pR_ lh.out) hb); replace ll := aa.mk (Kd.gq (pR_ ll.out) hb); replace jl := kb_ jl hb; replace HB := aa.mk (ai bl_ hb); (try clear hb); (try clear hb2); (try clear hk); (try clear hi)))
   go_ret; exact ⟨re_, bl_⟩
  ·rw [if_neg c29] at H; obtain ⟨Gh, Gi⟩ := bn_ c29; by_cases c39 : 1 + uq.size ≤ 9223372036854775807
   ·rw [if_pos c39] at H; have Dr := eq_true c39; have JO := decide_eq_true c39; try have c39b2 : (9223372036854775807 < 1 + uq.size) = False := eq_false (Nat.not_lt.2 c39)
    by_cases c40 : nA.size + ((⟨#[47]⟩ : ByteArray) ++ uq).size ≤ 9223372036854775807
    ·rw [if_pos c40] at H; have c40b0 := eq_true c40; have c40b1 := decide_eq_true c40; try have c40b2 : (9223372036854775807 < nA.size + ((⟨#[47]⟩ : ByteArray) ++ uq).size) = False := eq_false (Nat.not_lt.2 c40)
     obtain rfl := Option.some.inj H; go_enter Tryd.func99, Tryd.ntmps99; go_wp2_with (first | ((with_reducible refine aU (N := 1) rfl ?_); refine aY ?hg (N := 1) ?hd (cs := #[.bool aj, .slice Bj nz.length Bl, .slice yO lg.length yP]) (t := 104) ?hr ?_; (case hd => rfl); (case hg => rfl); (case hr => first | (go_simp; done) | (go_simp; rfl)); intro jk hg w41 aK hb; have jl := aa.mk (aK); have Mk : aa (w.heap.size ≤ jk) := gw_ hg (ax bl_); have GE501 := Mk; replace HB := aa.mk (ai bl_ hb); clear hb aK hg; obtain ⟨G5, G6, G7, G8, G9, Ha⟩ := qa jl.out) | ((with_reducible refine aC (f := 107) rfl ?_); refine aX (some 6) rfl rfl Tryd.func107 (by kernel_rfl) rfl #[.agg #[.bool aj, .slice Bj nz.length Bl, .slice yO lg.length yP]] rfl mp_ ?_; (with_reducible refine (iD.calls k aj _ _ nz _ _ lg false nM ng _ ?ay ?az ?iB ?iF A2.out).mono ?_); (case ay => exact cb_ (Kd.bB Og.out HB.out)); (case az => exact Oh.out); (case iB => exact cb_ (Kd.bB JR.out HB.out)); (case iF => exact JS.out); rintro e w43 ⟨v504, v507, rfl, ho0, ho1, hb⟩; refine ⟨_, rfl, ?_⟩; have lh := aa.mk (Kd.bV ho0 (ax bl_)); have ll := aa.mk (Kd.bV ho1 (ax bl_)); replace jl := kb_ jl hb; replace HB := aa.mk (ai bl_ hb); (try clear hb); (try clear hb2); (try clear hk); (try clear hi); (try clear ho0); (try clear ho1); obtain ⟨NC, ND, NF, NG, NH, NI⟩ := qa jl.out; obtain ⟨Ao45, co45, eo45⟩ := Kd.df lh.out; subst eo45; obtain ⟨Ao46, co46, eo46⟩ := Kd.df ll.out; subst eo46) | ((with_reducible refine aC (f := 108) rfl ?_); refine aX (some 9) rfl rfl Tryd.func108 (by kernel_rfl) rfl #[.slice Ao45 nM.length co45] rfl mp_ ?_; (with_reducible refine (aV.calls k _ _ nM nA _ ?ay ?az A3.out).mono ?_); (case ay => refine (Kd.bu (e := 119) (base := w.heap.size) (ok := fun k_ => some k_ ≠ (.slice Ao46 ng.length co46 : Value).ownBlock) (n := nM.length) (c := co45) ?_).2.2; exact (by (with_reducible repeat (first | apply Kd.dx | apply Kd.dz | apply Kd.dH)); exact (Kd.cK (Kd.di (p := ⟨jk, 2, none⟩) (Kd.di (p := ⟨jk, 1, none⟩) (Kd.di (p := ⟨jk, 0, none⟩) (Kd.jQ lh.out jl.out (by decide)) (fun _ hk => hk.2) (.bool false)) (fun _ hk => hk.2) (.slice Ao45 nM.length co45)) (fun _ hk => hk.2) (.slice Ao46 ng.length co46)) (fun _ h_ => h_.1)))); (case az => exact (Kd.bu lh.out).2.1); rintro e w47 ⟨rfl, hb⟩; refine ⟨_, rfl, ?_⟩; replace lh := aa.mk (Kd.gq (by (with_reducible repeat (first | apply Kd.dx | apply Kd.dz | apply Kd.dH)); exact (Kd.cK (Kd.di (p := ⟨jk, 2, none⟩) (Kd.di (p := ⟨jk, 1, none⟩) (Kd.di (p := ⟨jk, 0, none⟩) (Kd.jQ lh.out jl.out (by decide)) (fun _ hk => hk.2) (.bool false)) (fun _ hk => hk.2) (.slice Ao45 nM.length co45)) (fun _ hk => hk.2) (.slice Ao46 ng.length co46)) (fun _ h_ => h_.1))) hb); replace ll := aa.mk (Kd.gq (by (with_reducible repeat (first | apply Kd.dx | apply Kd.dz | apply Kd.dH)); exact (Kd.cK (Kd.di (p := ⟨jk, 2, none⟩) (Kd.di (p := ⟨jk, 1, none⟩) (Kd.di (p := ⟨jk, 0, none⟩) (Kd.jQ ll.out jl.out (by decide)) (fun _ hk => hk.2) (.bool false)) (fun _ hk => hk.2) (.slice Ao45 nM.length co45)) (fun _ hk => hk.2) (.slice Ao46 ng.length co46)) (fun _ h_ => h_.1))) hb); replace jl := aa.mk (gJ (g := jk) (o := .cells #[.bool false, .slice Ao45 nM.length co45, .slice Ao46 ng.length co46] 104 (0, 0)) b5_ hb); replace HB := aa.mk (ai bl_ hb); (try clear hb); (try clear hb2); (try clear hk); (try clear hi); obtain ⟨M4, M5, M6, M7, M8, M9⟩ := qa jl.out) | ((with_reducible refine aC (f := 108) rfl ?_); refine aX (some 16) rfl rfl Tryd.func108 (by kernel_rfl) rfl #[.slice Ao46 ng.length co46] rfl mp_ ?_; (with_reducible refine (aV.calls k _ _ ng uq _ ?ay ?az A28.out).mono ?_); (case ay => exact cb_ ((Kd.bu ll.out).2.2)); (case az => exact (Kd.bu ll.out).2.1); rintro e w49 ⟨rfl, hb⟩; refine ⟨_, rfl, ?_⟩; replace lh := aa.mk (Kd.gq (pR_ lh.out) hb); replace ll := aa.mk (Kd.gq (pR_ ll.out) hb); replace jl := kb_ jl hb; replace HB := aa.mk (ai bl_ hb); (try clear hb); (try clear hb2); (try clear hk); (try clear hi)))
     go_ret; exact ⟨re_, bl_⟩
    ·rw [if_neg c40] at H; exact absurd H (by simp)
   ·rw [if_neg c39] at H; exact absurd H (by simp)

end Go.Proofs.YtggelekooacmnaaDoor.Q
namespace Go.Proofs.YtggelekooacmnaaDoor.Q
open Go.RowKit Go.Proofs.YtggelekooacmnaaDoorW.bg Go.Proofs.YtggelekooacmnaaDoorW.bW Go.Proofs.YtggelekooacmnaaDoorW.dh
attribute [local go_sem] fE fF gy gz eO eP fG fH   -- for this text's walks alone
set_option linter.unusedVariables false
set_option linter.unusedSimpArgs false

/-! ### gN: function 109 -/
def gN.f (k : Nat) (a0 : Int) : Option (List Int × Int) := if a0 < 0 then (some (([] : List Int), 1)) else ((aA.f k (([(Go.bits .and .i64 a0 4294967295) % 4294967296, (a0 / 4294967296) % 4294967296] : List Int))).bind fun t515 => (some (t515, 0)))
theorem gN.mono : ∀ a0 k, LeO (gN.f k a0) (gN.f (k + 1) a0) := by
  intro a0 k
  unfold gN.f
  repeat' first
      | (with_reducible exact aA.mono _ _)
      | (with_reducible exact LeO.refl _)
      | (with_reducible exact LeO.none _)
      | (with_reducible refine LeO.ite ?_ ?_)
      | (with_reducible refine LeO.bind ?_ (fun _ => ?_))
      | exact aA.mono _ _
      | exact LeO.none _
      | refine LeO.ite ?_ ?_
      | refine LeO.bind ?_ (fun _ => ?_)
set_option maxHeartbeats 8000000 in
set_option maxRecDepth 100000 in
theorem gN.calls (k : Nat) (a0 : Int) (r1 : List Int) (r2 : Int) (w : World) (h : gN.f k a0 = some (r1, r2)) :
    Calls Tryd.prog 109 #[.int .i64 a0] w fun e w' => ∃ v0_ : Value, e = .returned (.tuple #[v0_, .int .i64 r2]) ∧ Kd.R (Kd.int .u32) 119 w' w.heap.size (fun _ => True) v0_ r1 ∧ Below w.heap.size w w' := by
  have HB := aa.mk (Below.refl w.heap.size w)
  have H : (if a0 < 0 then (some (([] : List Int), 1)) else ((aA.f k (([(Go.bits .and .i64 a0 4294967295) % 4294967296, (a0 / 4294967296) % 4294967296] : List Int))).bind fun t515 => (some (t515, 0)))) = some (r1, r2) := h
  clear h
  by_cases c2 : a0 < 0
  · rw [if_pos c2] at H
    have lv : decide (a0 < 0) = true := decide_eq_true c2
    clear c2
    simp only [Option.some.injEq, Prod.mk.injEq] at H
    obtain ⟨rfl, rfl⟩ := H
    go_enter Tryd.func109, Tryd.ntmps109
    go_wp2
    go_ret2
    exact ⟨_, by first | rfl | (simp [fI, fJ] <;> rfl) | (simp [*, fI, fJ] <;> rfl), by first | exact Kd.oC _ _ _ _ _ | exact Kd.xG _ _ _ _ _ | exact Kd.xI _ _ _ _ _ | exact Kd.xD _ _ _ _ _ | exact Kd.xE _ _ _ _ _, by repeat (first | (with_reducible first | exact HB.out | apply bS | apply bO | apply bQ) | exact HB.out)⟩
  · rw [if_neg c2] at H
    have lv : decide (a0 < 0) = false := decide_eq_false c2
    clear c2
    obtain ⟨y512, Qx⟩ : ∃ y_ : List Int, y_ = (([(Go.bits .and .i64 a0 4294967295) % 4294967296, (a0 / 4294967296) % 4294967296] : List Int)) := ⟨_, rfl⟩
    replace H : ((aA.f k y512).bind fun t515 => (some (t515, 0))) = some (r1, r2) := by first | (rw [Qx]; with_reducible exact H) | (have H2_ := (Option.bind_some _ _).symm.trans H; rw [Qx]; with_reducible exact H2_) | (have H2_ := (Option.bind_some _ _).symm.trans H; with_reducible exact H2_) | with_reducible exact H | (rw [Qx]; exact H) | exact H
    have Ny512 := aa.mk Qx
    clear Qx
    replace H := Option.bind_eq_some_iff.mp H
    obtain ⟨t515, A30, H⟩ := H
    replace H : (some (t515, 0)) = some (r1, r2) := H
    have A3 := aa.mk A30
    clear A30
    simp only [Option.some.injEq, Prod.mk.injEq] at H
    obtain ⟨rfl, rfl⟩ := H
    go_enter Tryd.func109, Tryd.ntmps109
    go_wp2_with (first | ((with_reducible refine aU (N := 12) rfl ?_); refine Kd.oD (Kd.int .u32) _ 119 ?hg (N := 12) ?hd (xs := ([(Go.bits .and .i64 a0 4294967295) % 4294967296, (a0 / 4294967296) % 4294967296] : List Int)) (inner := [.int .u32 ((Go.bits .and .i64 a0 4294967295) % 4294967296), .int .u32 ((a0 / 4294967296) % 4294967296)]) (ok := fun _ => True) (okp := fun _ => True) ?hr ?hp (fun _ hk => hk) trivial (Below.refl _ _) (Nat.le_refl _) (by simp) ?_; (case hd => rfl); (case hg => rfl); (case hr => first | (go_simp; done) | (go_simp; rfl)); (case hp => exact (dN.one (show Kd.M (Kd.int .u32) _ _ _ ((Go.bits .and .i64 a0 4294967295) % 4294967296) [.int .u32 ((Go.bits .and .i64 a0 4294967295) % 4294967296)] from rfl) (dN.one (show Kd.M (Kd.int .u32) _ _ _ ((a0 / 4294967296) % 4294967296) [.int .u32 ((a0 / 4294967296) % 4294967296)] from rfl) (dN.none _ _)))); intro v513 w4 ho5 hb hg_ ig; clear hg_ ig; (first | rw [← Ny512.out] at ho5 | (simp only [Int.reduceToNat] at ho5; rw [← Ny512.out] at ho5)); have n0_ := aa.mk (Kd.bV ho5 (ax (by repeat (first | (with_reducible first | exact HB.out | apply bS | apply bO | apply bQ) | exact HB.out)))); have n1_ := aa.mk (ai (by repeat (first | (with_reducible first | exact HB.out | apply bS | apply bO | apply bQ) | exact HB.out)) hb); clear HB; have Ml := n0_; have HB := n1_; clear n0_ n1_; clear hb ho5; obtain ⟨Ao6, co6, eo6⟩ := Kd.df Ml.out; subst eo6) | ((with_reducible refine aC (f := 116) rfl ?_); refine aX (some 13) rfl rfl Tryd.func116 (by kernel_rfl) rfl #[.slice Ao6 y512.length co6] rfl (by (try simp only [List.map_toArray, List.map_cons, List.map_nil]); first | done | rfl | (simp only [List.length_drop, List.length_take]; rfl)) ?_; (with_reducible refine (aA.calls k _ _ y512 t515 _ ?ay ?az A3.out).mono ?_); (case ay => repeat (first | exact (Kd.bu Ml.out).2.2 | (with_reducible refine Kd.vQ ?_ _) | (with_reducible refine Kd.vR ?_ _) | (with_reducible refine Kd.za ?_))); (case az => exact (Kd.bu Ml.out).2.1); rintro e w7 ⟨v516, rfl, ho0, hb⟩; refine ⟨_, rfl, ?_⟩; have n0_ := aa.mk (Kd.eF (by (with_reducible repeat (first | apply Kd.dx | apply Kd.dz | apply Kd.dH)); exact Ml.out) (Kd.cO ho0) hb); have n1_ := aa.mk (Kd.bV (Kd.eD ho0 (Kd.gF (by (with_reducible repeat (first | apply Kd.dx | apply Kd.dz | apply Kd.dH)); exact Ml.out))) (ax (by repeat (first | (with_reducible first | exact HB.out | apply bS | apply bO | apply bQ) | exact HB.out)))); have n2_ := aa.mk (ai (by repeat (first | (with_reducible first | exact HB.out | apply bS | apply bO | apply bQ) | exact HB.out)) hb); clear Ml; clear HB; have Ml := n0_; have HO517 := n1_; have HB := n2_; clear n0_ n1_ n2_; (try clear hb); (try clear hb2); (try clear hk); (try clear hi); (try clear ho0)))
    go_ret2
    exact ⟨_, by first | rfl | (simp [fI, fJ] <;> rfl) | (simp [*, fI, fJ] <;> rfl), by (with_reducible repeat (first | apply Kd.dx | apply Kd.dz | apply Kd.dH)); exact Kd.cK HO517.out (fun _ hk => trivial), by repeat (first | (with_reducible first | exact HB.out | apply bS | apply bO | apply bQ) | exact HB.out)⟩

end Go.Proofs.YtggelekooacmnaaDoor.Q
namespace Go.Proofs.YtggelekooacmnaaDoor.Q
open Go.RowKit Go.Proofs.YtggelekooacmnaaDoorW.bg Go.Proofs.YtggelekooacmnaaDoorW.bW Go.Proofs.YtggelekooacmnaaDoorW.dh
attribute [local go_sem] fE fF gy gz eO eP fG fH   -- for this text's walks alone
set_option linter.unusedVariables false
set_option linter.unusedSimpArgs false

/-! ### dm: function 110 -/
def dm.l0 : Nat → List Int → List Int → List Int → Int → Int → Option (List Int)
 | 0, _, _, _, _, _ => none
 | k + 1, x0, x1, x5, x6, x7 => if x7 < (x5.length : Int) then (if x7 < (x0.length : Int) then (if 0 ≤ x7 then (if x7 < (x1.length : Int) then (dm.l0 k x0 x1 (x5.set (x7 : Int).toNat ((IntKind.u64.wrap ((IntKind.u64.wrap (x6 + (IntKind.u64.wrap (rd x0 x7)))) + (IntKind.u64.wrap (rd x1 x7)))) % 4294967296)) ((IntKind.u64.wrap ((IntKind.u64.wrap (x6 + (IntKind.u64.wrap (rd x0 x7)))) + (IntKind.u64.wrap (rd x1 x7)))) / 4294967296) (wrap64 (x7 + 1))) else (dm.l0 k x0 x1 (x5.set (x7 : Int).toNat ((IntKind.u64.wrap (x6 + (IntKind.u64.wrap (rd x0 x7)))) % 4294967296)) ((IntKind.u64.wrap (x6 + (IntKind.u64.wrap (rd x0 x7)))) / 4294967296) (wrap64 (x7 + 1)))) else (none)) else (if x7 < (x1.length : Int) then (if 0 ≤ x7 then (dm.l0 k x0 x1 (x5.set (x7 : Int).toNat ((IntKind.u64.wrap (x6 + (IntKind.u64.wrap (rd x1 x7)))) % 4294967296)) ((IntKind.u64.wrap (x6 + (IntKind.u64.wrap (rd x1 x7)))) / 4294967296) (wrap64 (x7 + 1))) else (none)) else (if 0 ≤ x7 then (dm.l0 k x0 x1 (x5.set (x7 : Int).toNat ((x6) % 4294967296)) (x6 / 4294967296) (wrap64 (x7 + 1))) else (none)))) else ((aA.f k x5).bind fun t521 => (some t521))
def dm.f (k : Nat) (l0 : List Int) (l1 : List Int) : Option (List Int) := if 0 ≤ (wrap64 ((mx (l0.length : Int) (l1.length : Int)) + 1)) then (if (wrap64 ((mx (l0.length : Int) (l1.length : Int)) + 1) : Int).toNat ≤ 70368744177664 then (dm.l0 k l0 l1 (List.replicate (wrap64 ((mx (l0.length : Int) (l1.length : Int)) + 1) : Int).toNat 0) 0 0) else (none)) else (none)
theorem dm.iQ : ∀ k, (∀ y0 y1 y2 y3 y4, LeO (dm.l0 k y0 y1 y2 y3 y4) (dm.l0 (k + 1) y0 y1 y2 y3 y4))
 | 0 => fun _ _ _ _ _ r h => by simp [dm.l0] at h
 | k + 1 => by
  have ih0 := dm.iQ k
  ·intro y0 y1 y2 y3 y4; unfold dm.l0; repeat' first
   | (with_reducible exact ih0 _ _ _ _ _)
   | (with_reducible exact aA.mono _ _)
   | (with_reducible exact LeO.refl _)
   | (with_reducible exact LeO.none _)
   | (with_reducible refine LeO.ite ?_ ?_)
   | (with_reducible refine LeO.bind ?_ (fun _ => ?_))
   | exact ih0 _ _ _ _ _
   | exact aA.mono _ _
   | exact LeO.none _
   | refine LeO.ite ?_ ?_
   | refine LeO.bind ?_ (fun _ => ?_)
theorem dm.mono : ∀ a0 a1 k, LeO (dm.f k a0 a1) (dm.f (k + 1) a0 a1) := by
 intro a0 a1 k; have ih0 := dm.iQ k; unfold dm.f
 repeat' first
   | (with_reducible exact ih0 _ _ _ _ _)
   | (with_reducible exact aA.mono _ _)
   | (with_reducible exact LeO.refl _)
   | (with_reducible exact LeO.none _)
   | (with_reducible refine LeO.ite ?_ ?_)
   | (with_reducible refine LeO.bind ?_ (fun _ => ?_))
   | exact ih0 _ _ _ _ _
   | exact aA.mono _ _
   | exact LeO.none _
   | refine LeO.ite ?_ ?_
   | refine LeO.bind ?_ (fun _ => ?_)
set_option maxHeartbeats 8000000 in
set_option maxRecDepth 100000 in
theorem dm.calls (k : Nat) (A0 : Option Addr) (c0 : Nat) (l0 : List Int) (A1 : Option Addr) (c1 : Nat) (l1 : List Int) (r : List Int) (w : World) (hr0 : Kd.C (Kd.int .u32) w A0 l0.length l0) (hc0 : l0.length ≤ c0) (hr1 : Kd.C (Kd.int .u32) w A1 l1.length l1) (hc1 : l1.length ≤ c1) (h : dm.f k l0 l1 = some r) :
  Calls Tryd.prog 110 #[.slice A0 l0.length c0, .slice A1 l1.length c1] w fun e w' => ∃ v0_ : Value, e = .returned (v0_) ∧ Kd.R (Kd.int .u32) 119 w' w.heap.size (fun _ => True) v0_ r ∧ Below w.heap.size w w' := by
 have HR0 := aa.mk hr0; have HC0 := aa.mk hc0; clear hr0 hc0; have HR1 := aa.mk hr1; have HC1 := aa.mk hc1; clear hr1 hc1; have HB := aa.mk (Below.refl w.heap.size w); have H : (if 0 ≤ (wrap64 ((mx (l0.length : Int) (l1.length : Int)) + 1)) then (if (wrap64 ((mx (l0.length : Int) (l1.length : Int)) + 1) : Int).toNat ≤ 70368744177664 then (dm.l0 k l0 l1 (List.replicate (wrap64 ((mx (l0.length : Int) (l1.length : Int)) + 1) : Int).toNat 0) 0 0) else (none)) else (none)) = some r := h; clear h; obtain ⟨ji3, I8⟩ : ∃ j_ : Int, (mx (l0.length : Int) (l1.length : Int)) = j_ := ⟨_, rfl⟩; replace H : (if 0 ≤ (wrap64 ((ji3) + 1)) then (if (wrap64 ((ji3) + 1) : Int).toNat ≤ 70368744177664 then (dm.l0 k l0 l1 (List.replicate (wrap64 ((ji3) + 1) : Int).toNat 0) 0 0) else (none)) else (none)) = some r := by first | (rw [I8] at H; exact H) | (simp only [I8] at H ⊢; exact H)
 (try (have hji3l : 0 ≤ ji3 := by (rw [← I8]; unfold mx; (repeat' split) <;> omega)))
 (try (have hji3m : 0 ≤ ji3 := by omega))
 have hji3_ : (if (l0.length : Int) < (l1.length : Int) then (l1.length : Int) else (l0.length : Int)) = ji3 := I8; have hji3_n : (if l0.length < l1.length then (l1.length : Int) else (l0.length : Int)) = ji3 := by rw [← hji3_]; simp only [Int.ofNat_lt]
 obtain ⟨ji4, EC⟩ : ∃ j_ : Int, (wrap64 ((ji3) + 1)) = j_ := ⟨_, rfl⟩; replace H : (if 0 ≤ (ji4) then (if (ji4 : Int).toNat ≤ 70368744177664 then (dm.l0 k l0 l1 (List.replicate (ji4 : Int).toNat 0) 0 0) else (none)) else (none)) = some r := by first | (rw [EC] at H; exact H) | (simp only [EC] at H ⊢; exact H)
 have hji4w : (IntKind.i64.wrap ((ji3) + 1)) = ji4 := (eT _).trans EC; by_cases c5 : 0 ≤ (ji4)
 ·rw [if_pos c5] at H; have jU := eq_true c5; have sJ := decide_eq_true c5; clear c5; by_cases c6 : (ji4 : Int).toNat ≤ 70368744177664
  ·rw [if_pos c6] at H; have vT := eq_true c6; have c6b1 := decide_eq_true c6; clear c6; obtain ⟨y518, Qy⟩ : ∃ y_ : List Int, y_ = (List.replicate (ji4 : Int).toNat 0) := ⟨_, rfl⟩; replace H : (dm.l0 k l0 l1 y518 0 0) = some r := by first | (rw [Qy]; with_reducible exact H) | (have H2_ := (Option.bind_some _ _).symm.trans H; rw [Qy]; with_reducible exact H2_) | (have H2_ := (Option.bind_some _ _).symm.trans H; with_reducible exact H2_) | with_reducible exact H | (rw [Qy]; exact H) | exact H
   have Ny518 := aa.mk Qy; clear Qy; have H' := aa.mk H; clear H; go_enter Tryd.func110, Tryd.ntmps110; go_wp2_with (first | ((with_reducible refine aU (N := 14) rfl ?_); refine Kd.Uh (Kd.int .u32) _ 119 rfl (N := 14) rfl 102 _ _ rfl ji4 rfl rfl Tryd.underlying102 (.int .u32 0) 4 D5 rfl (by decide) (by omega) 0 (ok := fun _ => True) (okp := fun _ => True) rfl (fun _ hk => hk) trivial (dt_) (Nat.le_trans (Nat.mul_le_mul_right _ (dt_ : ji4.toNat ≤ 70368744177664)) (by omega)) (Below.refl _ _) (Nat.le_refl _) ?_; intro v519 w7 ho8 hb hg_ ig; clear hg_ ig; (first | rw [← Ny518.out] at ho8 | (simp only [Int.reduceToNat] at ho8; rw [← Ny518.out] at ho8)); have HO520 := aa.mk (Kd.bV ho8 (ax bl_)); replace HB := aa.mk (ai bl_ hb); clear hb ho8))
   go_loopg [6, 7] k (fun kq v6 v7 w' => ∃ (eu : List Int) (iE : Int) (fZ : Int), v6 = .int .u64 iE ∧ v7 = .int .i64 fZ ∧ aa (dm.l0 kq l0 l1 eu iE fZ = some r) ∧ aa (kq ≤ k) ∧ aa (Kd.R (Kd.int .u32) 119 w' w.heap.size (fun _ => True) v519 eu) ∧ aa (Below w.heap.size w w'))
   case atStart => exact ⟨(y518), (0), (0), rs_, rs_, H', ⟨Nat.le_refl _⟩, ⟨pR_ HO520.out⟩, ⟨bl_⟩⟩
   case round =>
    clear H'; (try clear c1); (try clear p2); (try clear c5); (try clear jU); (try clear sJ); (try clear c6); (try clear vT); (try clear c6b1); (try clear p6); obtain ⟨eu, iE, fZ, rfl, rfl, HA, HK1, jP, HB⟩ := hrel; cases gk with
    | zero => exact absurd HA.out (by simp [dm.l0])
    | succ k1 =>
     have H := HA.out; clear HA; simp only [dm.l0] at H; by_cases c9 : fZ < (eu.length : Int)
     ·rw [if_pos c9] at H; have vH := decide_eq_true c9; clear c9; by_cases c10 : fZ < (l0.length : Int)
      ·rw [if_pos c10] at H; have kv := decide_eq_true c10; clear c10; by_cases c11 : 0 ≤ fZ
       ·rw [if_pos c11] at H; have NJ := decide_eq_true c11; clear c11; by_cases c12 : fZ < (l1.length : Int)
        ·rw [if_pos c12] at H; have yT := decide_eq_true c12; clear c12; obtain ⟨y526, Qz⟩ : ∃ y_ : List Int, y_ = (eu.set (fZ : Int).toNat ((IntKind.u64.wrap ((IntKind.u64.wrap (iE + (IntKind.u64.wrap (rd l0 fZ)))) + (IntKind.u64.wrap (rd l1 fZ)))) % 4294967296)) := ⟨_, rfl⟩; replace H : (dm.l0 k1 l0 l1 y526 ((IntKind.u64.wrap ((IntKind.u64.wrap (iE + (IntKind.u64.wrap (rd l0 fZ)))) + (IntKind.u64.wrap (rd l1 fZ)))) / 4294967296) (wrap64 (fZ + 1))) = some r := by first | (rw [Qz]; with_reducible exact H) | (have H2_ := (Option.bind_some _ _).symm.trans H; rw [Qz]; with_reducible exact H2_) | (have H2_ := (Option.bind_some _ _).symm.trans H; with_reducible exact H2_) | with_reducible exact H | (rw [Qz]; exact H) | exact H
         have Ny526 := aa.mk Qz; clear Qz; have H' := aa.mk H; clear H; obtain ⟨Ao14, co14, eo14⟩ := Kd.df jP.out; subst eo14; have p524 : 0 ≤ (fZ : Int) := dt_; have q524 : fZ < (l0.length : Int) := dt_; obtain ⟨ad524, e524, Lt⟩ := Kd.lX HR0.out fZ p524 q524; cases e524; replace Lt := hc_ HB Lt; replace p524 := eq_true p524; replace q524 := eq_true q524; have p525 : 0 ≤ (fZ : Int) := dt_; have q525 : fZ < (l1.length : Int) := dt_; obtain ⟨ad525, e525, XC⟩ := Kd.lX HR1.out fZ p525 q525; cases e525; replace XC := hc_ HB XC; replace p525 := eq_true p525; replace q525 := eq_true q525; have p13 : 0 ≤ (fZ : Int) := dt_; have q13 : (fZ : Int) < ((eu.length : Int) : Int) := dt_; obtain ⟨go13, xO, eo13, gb13, gl13, cl13, HG13⟩ := Kd.Fz jP.out (by omega); (first | cases eo13 | (injection eo13 with ea_ en_ ec_; (first | subst ea_ | (injection ea_ with ea_; subst ea_)); subst ec_; clear en_))
         have GB13 := aa.mk gb13; have GG13 := aa.mk HG13; clear gb13 gl13 HG13; obtain ⟨hx13_0, hf13_0⟩ := Kd.zx 0 jP.out (fZ : Int) p13 q13; replace p13 := eq_true p13; replace q13 := eq_true q13; have HP15 := Kd.J2 jP.out (fZ : Int) ((IntKind.u64.wrap ((IntKind.u64.wrap (iE + (IntKind.u64.wrap (rd l0 fZ)))) + (IntKind.u64.wrap (rd l1 fZ)))) % 4294967296); go_wp2_with (first | ((with_reducible refine sF (t := 119) (p := 47) rfl ?_); refine qO (t := 119) (p := 47) (v := ?vo_w16) (w1 := (wr.setCell ⟨go13, (fZ : Int).toNat, none⟩ (.int .u32 ((IntKind.u64.wrap ((IntKind.u64.wrap (iE + (IntKind.u64.wrap (rd l0 fZ)))) + (IntKind.u64.wrap (rd l1 fZ)))) % 4294967296)))) ?hg ?ho ?hn ?hr ?_; (case ho => rfl); (case hg => rfl); (case hn => rfl); (case hr => first | (go_simp; done) | (go_simp; rfl)); intro w16 hw; have hg : wr.grownBy w16 (some go13) := (by rw [hw]; exact HP15.2); have hp_ : Kd.R (Kd.int .u32) 119 w16 w.heap.size (fun _ => True) (.slice (some ⟨go13, 0, none⟩) eu.length co14) y526 := (by rw [hw, Ny526.out]; exact HP15.1); clear HP15; replace jP := aa.mk (hp_); replace HB := aa.mk ((by rw [hw]; exact ed (HB.out) GB13.out : Below w.heap.size w w16)); clear hg hw hp_))
         go_roundg k1
         case measure => have := HK1.out; omega
         case rel => exact ⟨(y526), ((IntKind.u64.wrap ((IntKind.u64.wrap (iE + (IntKind.u64.wrap (rd l0 fZ)))) + (IntKind.u64.wrap (rd l1 fZ)))) / 4294967296), (wrap64 (fZ + 1)), rs_, rs_, H', ⟨by have := HK1.out; omega⟩, ⟨pR_ jP.out⟩, ⟨bl_⟩⟩
        ·rw [if_neg c12] at H; have yT := decide_eq_false c12; clear c12; obtain ⟨y527, QA⟩ : ∃ y_ : List Int, y_ = (eu.set (fZ : Int).toNat ((IntKind.u64.wrap (iE + (IntKind.u64.wrap (rd l0 fZ)))) % 4294967296)) := ⟨_, rfl⟩; replace H : (dm.l0 k1 l0 l1 y527 ((IntKind.u64.wrap (iE + (IntKind.u64.wrap (rd l0 fZ)))) / 4294967296) (wrap64 (fZ + 1))) = some r := by first | (rw [QA]; with_reducible exact H) | (have H2_ := (Option.bind_some _ _).symm.trans H; rw [QA]; with_reducible exact H2_) | (have H2_ := (Option.bind_some _ _).symm.trans H; with_reducible exact H2_) | with_reducible exact H | (rw [QA]; exact H) | exact H
         have Ny527 := aa.mk QA; clear QA; have H' := aa.mk H; clear H; obtain ⟨Ao18, co18, eo18⟩ := Kd.df jP.out; subst eo18; have p524 : 0 ≤ (fZ : Int) := dt_; have q524 : fZ < (l0.length : Int) := dt_; obtain ⟨ad524, e524, Lt⟩ := Kd.lX HR0.out fZ p524 q524; cases e524; replace Lt := hc_ HB Lt; replace p524 := eq_true p524; replace q524 := eq_true q524; have p17 : 0 ≤ (fZ : Int) := dt_; have q17 : (fZ : Int) < ((eu.length : Int) : Int) := dt_; obtain ⟨go17, co17, eo17, gb17, gl17, cl17, HG17⟩ := Kd.Fz jP.out (by omega); (first | cases eo17 | (injection eo17 with ea_ en_ ec_; (first | subst ea_ | (injection ea_ with ea_; subst ea_)); subst ec_; clear en_))
         have GB17 := aa.mk gb17; have GG17 := aa.mk HG17; clear gb17 gl17 HG17; obtain ⟨hx17_0, hf17_0⟩ := Kd.zx 0 jP.out (fZ : Int) p17 q17; replace p17 := eq_true p17; replace q17 := eq_true q17; have HP19 := Kd.J2 jP.out (fZ : Int) ((IntKind.u64.wrap (iE + (IntKind.u64.wrap (rd l0 fZ)))) % 4294967296); go_wp2_with (first | ((with_reducible refine sF (t := 119) (p := 47) rfl ?_); refine qO (t := 119) (p := 47) (v := ?vo_w20) (w1 := (wr.setCell ⟨go17, (fZ : Int).toNat, none⟩ (.int .u32 ((IntKind.u64.wrap (iE + (IntKind.u64.wrap (rd l0 fZ)))) % 4294967296)))) ?hg ?ho ?hn ?hr ?_; (case ho => rfl); (case hg => rfl); (case hn => rfl); (case hr => first | (go_simp; done) | (go_simp; rfl)); intro w20 hw; have hg : wr.grownBy w20 (some go17) := (by rw [hw]; exact HP19.2); have hp_ : Kd.R (Kd.int .u32) 119 w20 w.heap.size (fun _ => True) (.slice (some ⟨go17, 0, none⟩) eu.length co18) y527 := (by rw [hw, Ny527.out]; exact HP19.1); clear HP19; replace jP := aa.mk (hp_); replace HB := aa.mk ((by rw [hw]; exact ed (HB.out) GB17.out : Below w.heap.size w w20)); clear hg hw hp_))
         go_roundg k1
         case measure => have := HK1.out; omega
         case rel => exact ⟨(y527), ((IntKind.u64.wrap (iE + (IntKind.u64.wrap (rd l0 fZ)))) / 4294967296), (wrap64 (fZ + 1)), rs_, rs_, H', ⟨by have := HK1.out; omega⟩, ⟨pR_ jP.out⟩, ⟨bl_⟩⟩
       ·rw [if_neg c11] at H; exact absurd H (by simp)
      ·rw [if_neg c10] at H; have kv := decide_eq_false c10; clear c10; by_cases c21 : fZ < (l1.length : Int)
       ·rw [if_pos c21] at H; have Fa := decide_eq_true c21; clear c21; by_cases c22 : 0 ≤ fZ
        ·rw [if_pos c22] at H; have c22b0 := decide_eq_true c22; clear c22; obtain ⟨y529, QB⟩ : ∃ y_ : List Int, y_ = (eu.set (fZ : Int).toNat ((IntKind.u64.wrap (iE + (IntKind.u64.wrap (rd l1 fZ)))) % 4294967296)) := ⟨_, rfl⟩; replace H : (dm.l0 k1 l0 l1 y529 ((IntKind.u64.wrap (iE + (IntKind.u64.wrap (rd l1 fZ)))) / 4294967296) (wrap64 (fZ + 1))) = some r := by first | (rw [QB]; with_reducible exact H) | (have H2_ := (Option.bind_some _ _).symm.trans H; rw [QB]; with_reducible exact H2_) | (have H2_ := (Option.bind_some _ _).symm.trans H; with_reducible exact H2_) | with_reducible exact H | (rw [QB]; exact H) | exact H
         have Ny529 := aa.mk QB; clear QB; have H' := aa.mk H; clear H; obtain ⟨xe, uj, EB⟩ := Kd.df jP.out; subst EB; have p528 : 0 ≤ (fZ : Int) := dt_; have q528 : fZ < (l1.length : Int) := dt_; obtain ⟨ad528, e528, XD⟩ := Kd.lX HR1.out fZ p528 q528; cases e528; replace XD := hc_ HB XD; replace p528 := eq_true p528; replace q528 := eq_true q528; have p23 : 0 ≤ (fZ : Int) := dt_; have q23 : (fZ : Int) < ((eu.length : Int) : Int) := dt_; obtain ⟨go23, zl, DJ, gb23, gl23, cl23, HG23⟩ := Kd.Fz jP.out (by omega); (first | cases DJ | (injection DJ with ea_ en_ ec_; (first | subst ea_ | (injection ea_ with ea_; subst ea_)); subst ec_; clear en_))
         have GB23 := aa.mk gb23; have GG23 := aa.mk HG23; clear gb23 gl23 HG23; obtain ⟨hx23_0, hf23_0⟩ := Kd.zx 0 jP.out (fZ : Int) p23 q23; replace p23 := eq_true p23; replace q23 := eq_true q23; have HP25 := Kd.J2 jP.out (fZ : Int) ((IntKind.u64.wrap (iE + (IntKind.u64.wrap (rd l1 fZ)))) % 4294967296); go_wp2_with (first | ((with_reducible refine sF (t := 119) (p := 47) rfl ?_); refine qO (t := 119) (p := 47) (v := ?vo_w26) (w1 := (wr.setCell ⟨go23, (fZ : Int).toNat, none⟩ (.int .u32 ((IntKind.u64.wrap (iE + (IntKind.u64.wrap (rd l1 fZ)))) % 4294967296)))) ?hg ?ho ?hn ?hr ?_; (case ho => rfl); (case hg => rfl); (case hn => rfl); (case hr => first | (go_simp; done) | (go_simp; rfl)); intro w26 hw; have hg : wr.grownBy w26 (some go23) := (by rw [hw]; exact HP25.2); have hp_ : Kd.R (Kd.int .u32) 119 w26 w.heap.size (fun _ => True) (.slice (some ⟨go23, 0, none⟩) eu.length uj) y529 := (by rw [hw, Ny529.out]; exact HP25.1); clear HP25; replace jP := aa.mk (hp_); replace HB := aa.mk ((by rw [hw]; exact ed (HB.out) GB23.out : Below w.heap.size w w26)); clear hg hw hp_))
         go_roundg k1
         case measure => have := HK1.out; omega
         case rel => exact ⟨(y529), ((IntKind.u64.wrap (iE + (IntKind.u64.wrap (rd l1 fZ)))) / 4294967296), (wrap64 (fZ + 1)), rs_, rs_, H', ⟨by have := HK1.out; omega⟩, ⟨pR_ jP.out⟩, ⟨bl_⟩⟩
        ·rw [if_neg c22] at H; exact absurd H (by simp)
       ·rw [if_neg c21] at H; have Fa := decide_eq_false c21; clear c21; by_cases c27 : 0 ≤ fZ
        ·rw [if_pos c27] at H; have PE := decide_eq_true c27; clear c27; obtain ⟨y530, QC⟩ : ∃ y_ : List Int, y_ = (eu.set (fZ : Int).toNat ((iE) % 4294967296)) := ⟨_, rfl⟩; replace H : (dm.l0 k1 l0 l1 y530 (iE / 4294967296) (wrap64 (fZ + 1))) = some r := by first | (rw [QC]; with_reducible exact H) | (have H2_ := (Option.bind_some _ _).symm.trans H; rw [QC]; with_reducible exact H2_) | (have H2_ := (Option.bind_some _ _).symm.trans H; with_reducible exact H2_) | with_reducible exact H | (rw [QC]; exact H) | exact H
         have Ny530 := aa.mk QC; clear QC; have H' := aa.mk H; clear H; obtain ⟨Ao29, co29, eo29⟩ := Kd.df jP.out; subst eo29; have p28 : 0 ≤ (fZ : Int) := dt_; have q28 : (fZ : Int) < ((eu.length : Int) : Int) := dt_; obtain ⟨go28, co28, eo28, gb28, gl28, cl28, HG28⟩ := Kd.Fz jP.out (by omega); (first | cases eo28 | (injection eo28 with ea_ en_ ec_; (first | subst ea_ | (injection ea_ with ea_; subst ea_)); subst ec_; clear en_))
         have GB28 := aa.mk gb28; have GG28 := aa.mk HG28; clear gb28 gl28 HG28; obtain ⟨hx28_0, hf28_0⟩ := Kd.zx 0 jP.out (fZ : Int) p28 q28; replace p28 := eq_true p28; replace q28 := eq_true q28; have HP30 := Kd.J2 jP.out (fZ : Int) ((iE) % 4294967296); go_wp2_with (first | ((with_reducible refine sF (t := 119) (p := 47) rfl ?_); refine qO (t := 119) (p := 47) (v := ?vo_w31) (w1 := (wr.setCell ⟨go28, (fZ : Int).toNat, none⟩ (.int .u32 ((iE) % 4294967296)))) ?hg ?ho ?hn ?hr ?_; (case ho => rfl); (case hg => rfl); (case hn => rfl); (case hr => first | (go_simp; done) | (go_simp; rfl)); intro w31 hw; have hg : wr.grownBy w31 (some go28) := (by rw [hw]; exact HP30.2); have hp_ : Kd.R (Kd.int .u32) 119 w31 w.heap.size (fun _ => True) (.slice (some ⟨go28, 0, none⟩) eu.length co29) y530 := (by rw [hw, Ny530.out]; exact HP30.1); clear HP30; replace jP := aa.mk (hp_); replace HB := aa.mk ((by rw [hw]; exact ed (HB.out) GB28.out : Below w.heap.size w w31)); clear hg hw hp_))
         go_roundg k1
         case measure => have := HK1.out; omega
         case rel => exact ⟨(y530), (iE / 4294967296), (wrap64 (fZ + 1)), rs_, rs_, H', ⟨by have := HK1.out; omega⟩, ⟨pR_ jP.out⟩, ⟨bl_⟩⟩
        ·rw [if_neg c27] at H; exact absurd H (by simp)
     ·rw [if_neg c9] at H; have vH := decide_eq_false c9; clear c9; replace H := Option.bind_eq_some_iff.mp H; obtain ⟨t521, A320, H⟩ := H; (try dsimp only at H)
      have A32 := aa.mk A320; clear A320; obtain rfl := Option.some.inj H; obtain ⟨Ao33, co33, eo33⟩ := Kd.df jP.out; subst eo33; go_wp2_with (first | ((with_reducible refine aC (f := 116) rfl ?_); refine aX (some 51) rfl rfl Tryd.func116 (by kernel_rfl) rfl #[.slice Ao33 eu.length co33] rfl mp_ ?_; (with_reducible refine (aA.calls k1 _ _ eu t521 _ ?ay ?az A32.out).mono ?_); (case ay => exact cb_ ((Kd.bu jP.out).2.2)); (case az => exact (Kd.bu jP.out).2.1); rintro e w34 ⟨v522, rfl, ho0, hb⟩; refine ⟨_, rfl, ?_⟩; have HO523 := aa.mk (Kd.bV (Kd.eD ho0 (Kd.gF (pR_ jP.out))) (ax bl_)); replace jP := aa.mk (Kd.eF (pR_ jP.out) (Kd.cO ho0) hb); replace HB := aa.mk (ai bl_ hb); (try clear hb); (try clear hb2); (try clear hk); (try clear hi); (try clear ho0)))
      go_ret; exact ⟨_, by first | rfl | (simp [fI, fJ] <;> rfl) | (simp only [← I8, ← EC]; first | rfl | (simp [fI, fJ] <;> rfl)) | (simp [*, fI, fJ] <;> rfl), by (with_reducible repeat (first | apply Kd.dx | apply Kd.dz | apply Kd.dH)); exact Kd.cK HO523.out (fun _ hk => trivial), bl_⟩
  ·rw [if_neg c6] at H; exact absurd H (by simp)
 ·rw [if_neg c5] at H; exact absurd H (by simp)

end Go.Proofs.YtggelekooacmnaaDoor.Q
namespace Go.Proofs.YtggelekooacmnaaDoor.Q
open Go.RowKit Go.Proofs.YtggelekooacmnaaDoorW.bg Go.Proofs.YtggelekooacmnaaDoorW.bW Go.Proofs.YtggelekooacmnaaDoorW.dh
attribute [local go_sem] fE fF gy gz eO eP fG fH   -- for this text's walks alone
set_option linter.unusedVariables false
set_option linter.unusedSimpArgs false

/-! ### jE: function 100 -/
def jE.f (k : Nat) (a0 : Int) : Option (Bool × List Int × List Int) := if a0 ≥ 0 then ((gN.f k a0).bind fun bt532 => (some (false, bt532.1, (([1] : List Int))))) else ((gN.f k (wrap64 (-(wrap64 (a0 + 1))))).bind fun bt539 => ((dm.f k bt539.1 (([1] : List Int))).bind fun Ji => (some (true, Ji, (([1] : List Int))))))
theorem jE.mono : ∀ a0 k, LeO (jE.f k a0) (jE.f (k + 1) a0) := by
 intro a0 k; unfold jE.f
 repeat' first
   | (with_reducible exact dm.mono _ _ _)
   | (with_reducible exact gN.mono _ _)
   | (with_reducible exact LeO.refl _)
   | (with_reducible exact LeO.none _)
   | (with_reducible refine LeO.ite ?_ ?_)
   | (with_reducible refine LeO.bind ?_ (fun _ => ?_))
   | exact dm.mono _ _ _
   | exact gN.mono _ _
   | exact LeO.none _
   | refine LeO.ite ?_ ?_
   | refine LeO.bind ?_ (fun _ => ?_)
set_option maxHeartbeats 8000000 in
set_option maxRecDepth 100000 in
theorem jE.calls (k : Nat) (a0 : Int) (r1 : Bool) (r2 : List Int) (r3 : List Int) (w : World) (h : jE.f k a0 = some (r1, r2, r3)) :
  Calls Tryd.prog 100 #[.int .i64 a0] w fun e w' => ∃ v1_ v2_ : Value, e = .returned (.agg #[.bool r1, v1_, v2_]) ∧ Kd.R (Kd.int .u32) 119 w' w.heap.size (fun k_ => some k_ ≠ (v2_ : Value).ownBlock) v1_ r2 ∧ Kd.R (Kd.int .u32) 119 w' w.heap.size (fun k_ => some k_ ≠ (v1_ : Value).ownBlock) v2_ r3 ∧ Below w.heap.size w w' := by
 have hu104 := Tryd.underlying104; have HB := aa.mk (Below.refl w.heap.size w); have H : (if a0 ≥ 0 then ((gN.f k a0).bind fun bt532 => (some (false, bt532.1, (([1] : List Int))))) else ((gN.f k (wrap64 (-(wrap64 (a0 + 1))))).bind fun bt539 => ((dm.f k bt539.1 (([1] : List Int))).bind fun Ji => (some (true, Ji, (([1] : List Int))))))) = some (r1, r2, r3) := h; clear h; by_cases c2 : a0 ≥ 0
 ·rw [if_pos c2] at H; have lv : decide (0 ≤ a0) = true := decide_eq_true c2; clear c2; replace H := Option.bind_eq_some_iff.mp H; obtain ⟨⟨t532, t533⟩, A30, H⟩ := H; (try dsimp only at H)
  have A3 := aa.mk A30; clear A30; obtain ⟨y536, QD⟩ : ∃ y_ : List Int, y_ = (([1] : List Int)) := ⟨_, rfl⟩; replace H : (some (false, t532, y536)) = some (r1, r2, r3) := by first | (rw [QD]; with_reducible exact H) | (have H2_ := (Option.bind_some _ _).symm.trans H; rw [QD]; with_reducible exact H2_) | (have H2_ := (Option.bind_some _ _).symm.trans H; with_reducible exact H2_) | with_reducible exact H | (rw [QD]; exact H) | exact H
  have Ny536 := aa.mk QD; clear QD; simp only [Option.some.injEq, Prod.mk.injEq] at H; obtain ⟨rfl, rfl, rfl⟩ := H; go_enter Tryd.func100, Tryd.ntmps100; go_wp2_with (first | ((with_reducible refine aU (N := 2) rfl ?_); refine aY ?hg (N := 2) ?hd (cs := #[.bool false, .slice none 0 0, .slice none 0 0]) (t := 104) ?hr ?_; (case hd => rfl); (case hg => rfl); (case hr => first | (go_simp; done) | (go_simp; rfl)); intro vE hg w4 aK hb; have sO := aa.mk (aK); have GW531 : aa (w.heap.size ≤ vE) := gw_ hg (ax bl_); have GE531 := GW531; replace HB := aa.mk (ai bl_ hb); clear hb aK hg) | ((with_reducible refine aC (f := 109) rfl ?_); refine aX (some 11) rfl rfl Tryd.func109 (by kernel_rfl) rfl #[.int .i64 a0] rfl mp_ ?_; (with_reducible refine (gN.calls k a0 t532 t533 _ A3.out).mono ?_); rintro e w5 ⟨v534, rfl, ho0, hb⟩; refine ⟨_, rfl, ?_⟩; have QE := aa.mk (Kd.bV ho0 (ax bl_)); replace sO := kb_ sO hb; replace HB := aa.mk (ai bl_ hb); (try clear hb); (try clear hb2); (try clear hk); (try clear hi); (try clear ho0)) | ((with_reducible refine aU (N := 15) rfl ?_); refine Kd.oD (Kd.int .u32) _ 119 ?hg (N := 15) ?hd (xs := ([1] : List Int)) (inner := [.int .u32 1]) (ok := fun _ => True) (okp := fun _ => True) ?hr ?hp (fun _ hk => hk) trivial (Below.refl _ _) (Nat.le_refl _) (by simp) ?_; (case hd => rfl); (case hg => rfl); (case hr => first | (go_simp; done) | (go_simp; rfl)); (case hp => exact (dN.one (show Kd.M (Kd.int .u32) _ _ _ 1 [.int .u32 1] from rfl) (dN.none _ _))); intro v537 w6 ho7 hb hg_ ig; clear hg_ ig; (first | rw [← Ny536.out] at ho7 | (simp only [Int.reduceToNat] at ho7; rw [← Ny536.out] at ho7)); have HO538 := aa.mk (Kd.bV (Kd.eD ho7 (Kd.gF (pR_ QE.out))) (ax bl_)); replace QE := aa.mk (Kd.eF (pR_ QE.out) (Kd.cO ho7) hb); replace sO := kb_ sO hb; replace HB := aa.mk (ai bl_ hb); clear hb ho7; obtain ⟨Ao8, co8, eo8⟩ := Kd.df HO538.out; subst eo8; obtain ⟨Ao9, co9, eo9⟩ := Kd.df QE.out; subst eo9; obtain ⟨zI, zJ, zK, zL, zM, zN⟩ := qa sO.out))
  refine bodyPost_ret (results_cell_row rfl _ _ vE 104 #[.bool false, .slice Ao9 t532.length co9, .slice Ao8 y536.length co8] (0, 0) _ rfl b5_ Tryd.underlying104 rfl (by kernel_rfl)) rfl ?_
  exact ⟨_, _, re_, by (with_reducible repeat (first | apply Kd.dx | apply Kd.dz | apply Kd.dH)); exact Kd.cK (Kd.di (p := ⟨vE, 2, none⟩) (Kd.di (p := ⟨vE, 1, none⟩) (Kd.di (p := ⟨vE, 0, none⟩) (Kd.jQ QE.out sO.out (by decide)) (fun _ hk => hk.2) (.bool false)) (fun _ hk => hk.2) (.slice Ao9 t532.length co9)) (fun _ hk => hk.2) (.slice Ao8 y536.length co8)) (fun _ hk => hk.1.2), by (with_reducible repeat (first | apply Kd.dx | apply Kd.dz | apply Kd.dH)); exact Kd.cK (Kd.di (p := ⟨vE, 2, none⟩) (Kd.di (p := ⟨vE, 1, none⟩) (Kd.di (p := ⟨vE, 0, none⟩) (Kd.jQ HO538.out sO.out (by decide)) (fun _ hk => hk.2) (.bool false)) (fun _ hk => hk.2) (.slice Ao9 t532.length co9)) (fun _ hk => hk.2) (.slice Ao8 y536.length co8)) (fun _ hk => hk.1.2), bl_⟩
 ·rw [if_neg c2] at H; have lv : decide (0 ≤ a0) = false := decide_eq_false c2; clear c2; replace H := Option.bind_eq_some_iff.mp H; obtain ⟨⟨t539, t540⟩, A110, H⟩ := H; (try dsimp only at H)
  have A11 := aa.mk A110; clear A110; obtain ⟨y543, QF⟩ : ∃ y_ : List Int, y_ = (([1] : List Int)) := ⟨_, rfl⟩; replace H : ((dm.f k t539 y543).bind fun Ji => (some (true, Ji, (([1] : List Int))))) = some (r1, r2, r3) := by first | (rw [QF]; with_reducible exact H) | (have H2_ := (Option.bind_some _ _).symm.trans H; rw [QF]; with_reducible exact H2_) | (have H2_ := (Option.bind_some _ _).symm.trans H; with_reducible exact H2_) | with_reducible exact H | (rw [QF]; exact H) | exact H
  have Ny543 := aa.mk QF; clear QF; replace H := Option.bind_eq_some_iff.mp H; obtain ⟨Ji, A120, H⟩ := H; (try dsimp only at H)
  have A12 := aa.mk A120; clear A120; obtain ⟨y549, QG⟩ : ∃ y_ : List Int, y_ = (([1] : List Int)) := ⟨_, rfl⟩; replace H : (some (true, Ji, y549)) = some (r1, r2, r3) := by first | (rw [QG]; with_reducible exact H) | (have H2_ := (Option.bind_some _ _).symm.trans H; rw [QG]; with_reducible exact H2_) | (have H2_ := (Option.bind_some _ _).symm.trans H; with_reducible exact H2_) | with_reducible exact H | (rw [QG]; exact H) | exact H
  have Ny549 := aa.mk QG; clear QG; simp only [Option.some.injEq, Prod.mk.injEq] at H; obtain ⟨rfl, rfl, rfl⟩ := H; go_enter Tryd.func100, Tryd.ntmps100; go_wp2_with (first | ((with_reducible refine aU (N := 2) rfl ?_); refine aY ?hg (N := 2) ?hd (cs := #[.bool false, .slice none 0 0, .slice none 0 0]) (t := 104) ?hr ?_; (case hd => rfl); (case hg => rfl); (case hr => first | (go_simp; done) | (go_simp; rfl)); intro vE hg w13 aK hb; have sO := aa.mk (aK); have GW531 : aa (w.heap.size ≤ vE) := gw_ hg (ax bl_); have GE531 := GW531; replace HB := aa.mk (ai bl_ hb); clear hb aK hg) | ((with_reducible refine aC (f := 109) rfl ?_); refine aX (some 21) rfl rfl Tryd.func109 (by kernel_rfl) rfl #[.int .i64 (wrap64 (-(wrap64 (a0 + 1))))] rfl mp_ ?_; (with_reducible refine (gN.calls k (wrap64 (-(wrap64 (a0 + 1)))) t539 t540 _ A11.out).mono ?_); rintro e w14 ⟨v541, rfl, ho0, hb⟩; refine ⟨_, rfl, ?_⟩; have Bw := aa.mk (Kd.bV ho0 (ax bl_)); replace sO := kb_ sO hb; replace HB := aa.mk (ai bl_ hb); (try clear hb); (try clear hb2); (try clear hk); (try clear hi); (try clear ho0)) | ((with_reducible refine aU (N := 25) rfl ?_); refine Kd.oD (Kd.int .u32) _ 119 ?hg (N := 25) ?hd (xs := ([1] : List Int)) (inner := [.int .u32 1]) (ok := fun _ => True) (okp := fun _ => True) ?hr ?hp (fun _ hk => hk) trivial (Below.refl _ _) (Nat.le_refl _) (by simp) ?_; (case hd => rfl); (case hg => rfl); (case hr => first | (go_simp; done) | (go_simp; rfl)); (case hp => exact (dN.one (show Kd.M (Kd.int .u32) _ _ _ 1 [.int .u32 1] from rfl) (dN.none _ _))); intro v544 w15 ho16 hb hg_ ig; clear hg_ ig; (first | rw [← Ny543.out] at ho16 | (simp only [Int.reduceToNat] at ho16; rw [← Ny543.out] at ho16)); have Gv := aa.mk (Kd.bV (Kd.eD ho16 (Kd.gF (pR_ Bw.out))) (ax bl_)); replace Bw := aa.mk (Kd.eF (pR_ Bw.out) (Kd.cO ho16) hb); replace sO := kb_ sO hb; replace HB := aa.mk (ai bl_ hb); clear hb ho16; obtain ⟨Ao17, co17, eo17⟩ := Kd.df Bw.out; subst eo17; obtain ⟨Ao18, co18, eo18⟩ := Kd.df Gv.out; subst eo18) | ((with_reducible refine aC (f := 110) rfl ?_); refine aX (some 26) rfl rfl Tryd.func110 (by kernel_rfl) rfl #[.slice Ao17 t539.length co17, .slice Ao18 y543.length co18] rfl mp_ ?_; (with_reducible refine (dm.calls k _ _ t539 _ _ y543 Ji _ ?ay ?az ?iB ?iF A12.out).mono ?_); (case ay => exact cb_ ((Kd.bu Bw.out).2.2)); (case az => exact (Kd.bu Bw.out).2.1); (case iB => exact cb_ ((Kd.bu Gv.out).2.2)); (case iF => exact (Kd.bu Gv.out).2.1); rintro e w19 ⟨v547, rfl, ho0, hb⟩; refine ⟨_, rfl, ?_⟩; have QH := aa.mk (Kd.bV (Kd.eD (Kd.eD ho0 (Kd.gF (pR_ Bw.out))) (Kd.gF (pR_ Gv.out))) (ax bl_)); replace Bw := aa.mk (Kd.eF (pR_ Bw.out) (Kd.cO ho0) hb); replace Gv := aa.mk (Kd.eF (pR_ Gv.out) (Kd.cO ho0) hb); replace sO := kb_ sO hb; replace HB := aa.mk (ai bl_ hb); (try clear hb); (try clear hb2); (try clear hk); (try clear hi); (try clear ho0)) | ((with_reducible refine aU (N := 27) rfl ?_); refine Kd.oD (Kd.int .u32) _ 119 ?hg (N := 27) ?hd (xs := ([1] : List Int)) (inner := [.int .u32 1]) (ok := fun _ => True) (okp := fun _ => True) ?hr ?hp (fun _ hk => hk) trivial (Below.refl _ _) (Nat.le_refl _) (by simp) ?_; (case hd => rfl); (case hg => rfl); (case hr => first | (go_simp; done) | (go_simp; rfl)); (case hp => exact (dN.one (show Kd.M (Kd.int .u32) _ _ _ 1 [.int .u32 1] from rfl) (dN.none _ _))); intro v550 w20 ho21 hb hg_ ig; clear hg_ ig; (first | rw [← Ny549.out] at ho21 | (simp only [Int.reduceToNat] at ho21; rw [← Ny549.out] at ho21)); have HO551 := aa.mk (Kd.bV (Kd.eD (Kd.eD (Kd.eD ho21 (Kd.gF (pR_ Bw.out))) (Kd.gF (pR_ Gv.out))) (Kd.gF (pR_ QH.out))) (ax bl_)); replace Bw := aa.mk (Kd.eF (pR_ Bw.out) (Kd.cO ho21) hb); replace Gv := aa.mk (Kd.eF (pR_ Gv.out) (Kd.cO ho21) hb); replace QH := aa.mk (Kd.eF (pR_ QH.out) (Kd.cO ho21) hb); replace sO := kb_ sO hb; replace HB := aa.mk (ai bl_ hb); clear hb ho21; obtain ⟨Jf, Jg, eo22⟩ := Kd.df HO551.out; subst eo22; obtain ⟨BD, zl, DJ⟩ := Kd.df QH.out; subst DJ; obtain ⟨Ci, Cj, Ck, Cm, Cn, Co⟩ := qa sO.out))
  refine bodyPost_ret (results_cell_row rfl _ _ vE 104 #[.bool true, .slice BD Ji.length zl, .slice Jf y549.length Jg] (0, 0) _ rfl b5_ Tryd.underlying104 rfl (by kernel_rfl)) rfl ?_
  exact ⟨_, _, re_, by (with_reducible repeat (first | apply Kd.dx | apply Kd.dz | apply Kd.dH)); exact Kd.cK (Kd.di (p := ⟨vE, 2, none⟩) (Kd.di (p := ⟨vE, 1, none⟩) (Kd.di (p := ⟨vE, 0, none⟩) (Kd.jQ QH.out sO.out (by decide)) (fun _ hk => hk.2) (.bool true)) (fun _ hk => hk.2) (.slice BD Ji.length zl)) (fun _ hk => hk.2) (.slice Jf y549.length Jg)) (fun _ hk => hk.1.2), by (with_reducible repeat (first | apply Kd.dx | apply Kd.dz | apply Kd.dH)); exact Kd.cK (Kd.di (p := ⟨vE, 2, none⟩) (Kd.di (p := ⟨vE, 1, none⟩) (Kd.di (p := ⟨vE, 0, none⟩) (Kd.jQ HO551.out sO.out (by decide)) (fun _ hk => hk.2) (.bool true)) (fun _ hk => hk.2) (.slice BD Ji.length zl)) (fun _ hk => hk.2) (.slice Jf y549.length Jg)) (fun _ hk => hk.1.2), bl_⟩

end Go.Proofs.YtggelekooacmnaaDoor.Q
namespace Go.Proofs.YtggelekooacmnaaDoor.Q
open Go.RowKit Go.Proofs.YtggelekooacmnaaDoorW.bg Go.Proofs.YtggelekooacmnaaDoorW.bW Go.Proofs.YtggelekooacmnaaDoorW.dh
attribute [local go_sem] fE fF gy gz eO eP fG fH   -- for this text's walks alone
set_option linter.unusedVariables false
set_option linter.unusedSimpArgs false

/-! ### fB: function 92 -/
def fB.f (k : Nat) (a0 : Int) : Option (ByteArray) := (jE.f k a0).bind fun Mm => ((iG.f k Mm.1 Mm.2.1 Mm.2.2).bind fun t559 => (some t559))
theorem fB.mono : ∀ a0 k, LeO (fB.f k a0) (fB.f (k + 1) a0) := by
  intro a0 k
  unfold fB.f
  repeat' first
      | (with_reducible exact iG.mono _ _ _ _)
      | (with_reducible exact jE.mono _ _)
      | (with_reducible exact LeO.refl _)
      | (with_reducible exact LeO.none _)
      | (with_reducible refine LeO.ite ?_ ?_)
      | (with_reducible refine LeO.bind ?_ (fun _ => ?_))
      | exact iG.mono _ _ _ _
      | exact jE.mono _ _
      | exact LeO.none _
      | refine LeO.ite ?_ ?_
      | refine LeO.bind ?_ (fun _ => ?_)
set_option maxHeartbeats 8000000 in
set_option maxRecDepth 100000 in
theorem fB.calls (k : Nat) (a0 : Int) (r : ByteArray) (w : World) (h : fB.f k a0 = some r) :
    Calls Tryd.prog 92 #[.int .i64 a0] w fun e w' => e = .returned (.string r) ∧ Below w.heap.size w w' := by
  have HB := aa.mk (Below.refl w.heap.size w)
  have H : ((jE.f k a0).bind fun Mm => ((iG.f k Mm.1 Mm.2.1 Mm.2.2).bind fun t559 => (some t559))) = some r := h
  clear h
  replace H := Option.bind_eq_some_iff.mp H
  obtain ⟨⟨t552, t553, t556⟩, A20, H⟩ := H
  replace H : ((iG.f k t552 t553 t556).bind fun t559 => (some t559)) = some r := H
  have A2 := aa.mk A20
  clear A20
  replace H := Option.bind_eq_some_iff.mp H
  obtain ⟨t559, A30, H⟩ := H
  replace H : (some t559) = some r := H
  have A3 := aa.mk A30
  clear A30
  obtain rfl := Option.some.inj H
  go_enter Tryd.func92, Tryd.ntmps92
  go_wp2_with (first | ((with_reducible refine aC (f := 100) rfl ?_); refine aX (some 4) rfl rfl Tryd.func100 (by kernel_rfl) rfl #[.int .i64 a0] rfl (by (try simp only [List.map_toArray, List.map_cons, List.map_nil]); first | done | rfl | (simp only [List.length_drop, List.length_take]; rfl)) ?_; (with_reducible refine (jE.calls k a0 t552 t553 t556 _ A2.out).mono ?_); rintro e w4 ⟨v554, v557, rfl, ho0, ho1, hb⟩; refine ⟨_, rfl, ?_⟩; have n0_ := aa.mk (Kd.bV ho0 (ax (by repeat (first | (with_reducible first | exact HB.out | apply bS | apply bO | apply bQ) | exact HB.out)))); have n1_ := aa.mk (Kd.bV ho1 (ax (by repeat (first | (with_reducible first | exact HB.out | apply bS | apply bO | apply bQ) | exact HB.out)))); have n2_ := aa.mk (ai (by repeat (first | (with_reducible first | exact HB.out | apply bS | apply bO | apply bQ) | exact HB.out)) hb); clear HB; have Oj := n0_; have Ol := n1_; have HB := n2_; clear n0_ n1_ n2_; (try clear hb); (try clear hb2); (try clear hk); (try clear hi); (try clear ho0); (try clear ho1); obtain ⟨Ao5, co5, eo5⟩ := Kd.df Oj.out; subst eo5; obtain ⟨Ao6, co6, eo6⟩ := Kd.df Ol.out; subst eo6) | ((with_reducible refine aC (f := 99) rfl ?_); refine aX (some 5) rfl rfl Tryd.func99 (by kernel_rfl) rfl #[.agg #[.bool t552, .slice Ao5 t553.length co5, .slice Ao6 t556.length co6]] rfl (by (try simp only [List.map_toArray, List.map_cons, List.map_nil]); first | done | rfl | (simp only [List.length_drop, List.length_take]; rfl)) ?_; (with_reducible refine (iG.calls k t552 _ _ t553 _ _ t556 t559 _ ?ay ?az ?iB ?iF A3.out).mono ?_); (case ay => repeat (first | exact (Kd.bu Oj.out).2.2 | (with_reducible refine Kd.vQ ?_ _) | (with_reducible refine Kd.vR ?_ _) | (with_reducible refine Kd.za ?_))); (case az => exact (Kd.bu Oj.out).2.1); (case iB => repeat (first | exact (Kd.bu Ol.out).2.2 | (with_reducible refine Kd.vQ ?_ _) | (with_reducible refine Kd.vR ?_ _) | (with_reducible refine Kd.za ?_))); (case iF => exact (Kd.bu Ol.out).2.1); rintro e w7 ⟨rfl, hb⟩; refine ⟨_, rfl, ?_⟩; have n0_ := aa.mk (Kd.gq (by (with_reducible repeat (first | apply Kd.dx | apply Kd.dz | apply Kd.dH)); exact Oj.out) hb); have n1_ := aa.mk (Kd.gq (by (with_reducible repeat (first | apply Kd.dx | apply Kd.dz | apply Kd.dH)); exact Ol.out) hb); have n2_ := aa.mk (ai (by repeat (first | (with_reducible first | exact HB.out | apply bS | apply bO | apply bQ) | exact HB.out)) hb); clear Oj; clear Ol; clear HB; have Oj := n0_; have Ol := n1_; have HB := n2_; clear n0_ n1_ n2_; (try clear hb); (try clear hb2); (try clear hk); (try clear hi)))
  go_ret
  exact ⟨by first | rfl | (simp [fI, fJ] <;> rfl) | (simp [*, fI, fJ] <;> rfl), by repeat (first | (with_reducible first | exact HB.out | apply bS | apply bO | apply bQ) | exact HB.out)⟩

end Go.Proofs.YtggelekooacmnaaDoor.Q
namespace Go.Proofs.YtggelekooacmnaaDoor.Q
open Go.RowKit Go.Proofs.YtggelekooacmnaaDoorW.bg Go.Proofs.YtggelekooacmnaaDoorW.bW Go.Proofs.YtggelekooacmnaaDoorW.dh
attribute [local go_sem] fE fF gy gz eO eP fG fH   -- for this text's walks alone
set_option linter.unusedVariables false
set_option linter.unusedSimpArgs false

/-! ### bM: function 74 -/
mutual
def bM.l0 : Nat → ByteArray → Int → Int → Int → Int → Int → List (S24) → Option (ByteArray)
 | 0, _, _, _, _, _, _, _ => none
 | k + 1, x3, x4, XE, XF, XG, XH, tO => if x4 < (tO.length : Int) then (if x4 > 0 then (if x3.size + 2 ≤ 9223372036854775807 then (if 0 ≤ x4 then ((bM.f k ((ah tO x4).f0) ((ah tO x4).f1) ((ah tO x4).f2) ((ah tO x4).f3) ((ah tO x4).f4)).bind fun t567 => (if (x3 ++ (⟨#[44, 32]⟩ : ByteArray)).size + t567.size ≤ 9223372036854775807 then (bM.l0 k ((x3 ++ (⟨#[44, 32]⟩ : ByteArray)) ++ t567) (wrap64 (x4 + 1)) XE XF XG XH tO) else (none))) else (none)) else (none)) else (if 0 ≤ x4 then ((bM.f k ((ah tO x4).f0) ((ah tO x4).f1) ((ah tO x4).f2) ((ah tO x4).f3) ((ah tO x4).f4)).bind fun t569 => (if x3.size + t569.size ≤ 9223372036854775807 then (bM.l0 k (x3 ++ t569) (wrap64 (x4 + 1)) XE XF XG XH tO) else (none))) else (none))) else (if x3.size + 1 ≤ 9223372036854775807 then (some (x3 ++ (⟨#[41]⟩ : ByteArray))) else (none))
def bM.f : Nat → Int → Int → Int → Int → List (S24) → Option (ByteArray)
 | 0, _, _, _, _, _ => none
 | k + 1, aj, av, ak, au, af => if aj = 1 then (some (⟨#[98, 111, 111, 108]⟩ : ByteArray)) else (if aj = 2 then ((fB.f k av).bind fun sP => (if 4 + sP.size ≤ 9223372036854775807 then (if ((⟨#[105, 110, 116, 91]⟩ : ByteArray) ++ sP).size + 2 ≤ 9223372036854775807 then ((fB.f k ak).bind fun BF => (if (((⟨#[105, 110, 116, 91]⟩ : ByteArray) ++ sP) ++ (⟨#[44, 32]⟩ : ByteArray)).size + BF.size ≤ 9223372036854775807 then (if ((((⟨#[105, 110, 116, 91]⟩ : ByteArray) ++ sP) ++ (⟨#[44, 32]⟩ : ByteArray)) ++ BF).size + 1 ≤ 9223372036854775807 then (some (((((⟨#[105, 110, 116, 91]⟩ : ByteArray) ++ sP) ++ (⟨#[44, 32]⟩ : ByteArray)) ++ BF) ++ (⟨#[93]⟩ : ByteArray))) else (none)) else (none))) else (none)) else (none))) else (if aj = 3 then (some (⟨#[110, 97, 116]⟩ : ByteArray)) else (if aj = 4 then (some (⟨#[114, 101, 97, 108]⟩ : ByteArray)) else (if aj = 6 then ((fB.f k au).bind fun xQ => (if 5 + xQ.size ≤ 9223372036854775807 then (if ((⟨#[108, 105, 115, 116, 91]⟩ : ByteArray) ++ xQ).size + 2 ≤ 9223372036854775807 then (if 0 < (af.length : Int) then ((bM.f k ((ah af 0).f0) ((ah af 0).f1) ((ah af 0).f2) ((ah af 0).f3) ((ah af 0).f4)).bind fun t565 => (if (((⟨#[108, 105, 115, 116, 91]⟩ : ByteArray) ++ xQ) ++ (⟨#[93, 32]⟩ : ByteArray)).size + t565.size ≤ 9223372036854775807 then (some ((((⟨#[108, 105, 115, 116, 91]⟩ : ByteArray) ++ xQ) ++ (⟨#[93, 32]⟩ : ByteArray)) ++ t565)) else (none))) else (none)) else (none)) else (none))) else (bM.l0 k (⟨#[40]⟩ : ByteArray) 0 aj av ak au af)))))
end
def bM.T5 : Bool × List (List Nat × List Nat) := (true, [([], []), ([0], [0]), ([1], [1]), ([2], [2]), ([3], [3]), ([], []), ([5], [5]), ([6, 2], [6]), ([4, 7], [4, 7]), ([8], [8]), ([9, 7, 0, 1, 2, 3, 4, 5, 6, 7, 8, 9], [9])])
def bM.B5 : List Nat := [0, 1, 3, 7, 15, 0, 32, 103, 255, 511, 1023]
theorem bM.tab5 : l8 .any (opsOf Tryd.f74 5) = bM.T5 := by kernel_rfl
theorem bM.Py : nQ bM.T5.2 bM.B5 = true := by kernel_rfl
def bM.T11 : Bool × List (List Nat × List Nat) := (true, [([], []), ([0], [0]), ([1], [1]), ([2], [2]), ([3], [3]), ([], []), ([5], [5]), ([6], [6]), ([7], [7]), ([8, 2], [8]), ([4, 9], [4, 9]), ([10, 9, 0, 1, 2, 3, 4, 5, 6, 7, 8, 9, 10], [10])])
def bM.B11 : List Nat := [0, 1, 3, 7, 15, 0, 32, 96, 224, 487, 1023, 2047]
theorem bM.Pj : l8 .any (opsOf Tryd.f74 11) = bM.T11 := by kernel_rfl
theorem bM.MJ : nQ bM.T11.2 bM.B11 = true := by kernel_rfl
set_option maxHeartbeats 8000000 in
set_option maxRecDepth 100000 in
theorem bM.calls (k : Nat) : ∀ (aj : Int) (av : Int) (ak : Int) (au : Int) (bA : Option Addr) (aZ : Nat) (af : List (S24)) (r : ByteArray) (w : World) (fK : Kd.C k24 w bA af.length af) (fM : af.length ≤ aZ) (h : bM.f k aj av ak au af = some r),
  Calls Tryd.prog 74 #[.agg #[.int .i64 aj, .int .i64 av, .int .i64 ak, .int .i64 au, .slice bA af.length aZ]] w fun e w' => e = .returned (.string r) ∧ Below w.heap.size w w' := by
 induction k using Nat.strongRecOn with
 | _ k ih =>
 intro aj av ak au bA aZ af r w fK fM h; cases k with
 | zero => exact absurd h (by simp [bM.f])
 | succ k =>
 simp only [bM.f] at h; have qb := Tryd.underlying24; have cz := aa.mk fK; have eZ := aa.mk fM; clear fK fM; have HB := aa.mk (Below.refl w.heap.size w); have H : (if aj = 1 then (some (⟨#[98, 111, 111, 108]⟩ : ByteArray)) else (if aj = 2 then ((fB.f k av).bind fun sP => (if 4 + sP.size ≤ 9223372036854775807 then (if ((⟨#[105, 110, 116, 91]⟩ : ByteArray) ++ sP).size + 2 ≤ 9223372036854775807 then ((fB.f k ak).bind fun BF => (if (((⟨#[105, 110, 116, 91]⟩ : ByteArray) ++ sP) ++ (⟨#[44, 32]⟩ : ByteArray)).size + BF.size ≤ 9223372036854775807 then (if ((((⟨#[105, 110, 116, 91]⟩ : ByteArray) ++ sP) ++ (⟨#[44, 32]⟩ : ByteArray)) ++ BF).size + 1 ≤ 9223372036854775807 then (some (((((⟨#[105, 110, 116, 91]⟩ : ByteArray) ++ sP) ++ (⟨#[44, 32]⟩ : ByteArray)) ++ BF) ++ (⟨#[93]⟩ : ByteArray))) else (none)) else (none))) else (none)) else (none))) else (if aj = 3 then (some (⟨#[110, 97, 116]⟩ : ByteArray)) else (if aj = 4 then (some (⟨#[114, 101, 97, 108]⟩ : ByteArray)) else (if aj = 6 then ((fB.f k au).bind fun xQ => (if 5 + xQ.size ≤ 9223372036854775807 then (if ((⟨#[108, 105, 115, 116, 91]⟩ : ByteArray) ++ xQ).size + 2 ≤ 9223372036854775807 then (if 0 < (af.length : Int) then ((bM.f k ((ah af 0).f0) ((ah af 0).f1) ((ah af 0).f2) ((ah af 0).f3) ((ah af 0).f4)).bind fun t565 => (if (((⟨#[108, 105, 115, 116, 91]⟩ : ByteArray) ++ xQ) ++ (⟨#[93, 32]⟩ : ByteArray)).size + t565.size ≤ 9223372036854775807 then (some ((((⟨#[108, 105, 115, 116, 91]⟩ : ByteArray) ++ xQ) ++ (⟨#[93, 32]⟩ : ByteArray)) ++ t565)) else (none))) else (none)) else (none)) else (none))) else (bM.l0 k (⟨#[40]⟩ : ByteArray) 0 aj av ak au af)))))) = some r := h; clear h; by_cases c2 : aj = 1
 ·rw [if_pos c2] at H; obtain ⟨lv, oH⟩ := bq_ c2; clear c2; obtain rfl := Option.some.inj H; go_enter Tryd.func74, Tryd.ntmps74; go_wp2_with (first | ((with_reducible refine aU (N := 1) rfl ?_); refine aY ?hg (N := 1) ?hd (cs := #[.int .i64 aj, .int .i64 av, .int .i64 ak, .int .i64 au, .slice bA af.length aZ]) (t := 24) ?hr ?_; (case hd => rfl); (case hg => rfl); (case hr => first | (go_simp; done) | (go_simp; rfl)); intro pJ hg w3 aK hb; have gZ := aa.mk (aK); have DN : aa (w.heap.size ≤ pJ) := gw_ hg (ax bl_); have QI := DN; replace HB := aa.mk (ai bl_ hb); clear hb aK hg; obtain ⟨lC, lD, lF, lG, lH, lI, lJ, lK, lL, lM⟩ := bz gZ.out))
  go_ret; exact ⟨re_, bl_⟩
 ·rw [if_neg c2] at H; obtain ⟨lv, oH⟩ := bn_ c2; by_cases c5 : aj = 2
  ·rw [if_pos c5] at H; obtain ⟨jU, sJ⟩ := bq_ c5; clear c5; replace H := Option.bind_eq_some_iff.mp H; obtain ⟨sP, A60, H⟩ := H; (try dsimp only at H)
   have A6 := aa.mk A60; clear A60; by_cases c7 : 4 + sP.size ≤ 9223372036854775807
   ·rw [if_pos c7] at H; have mO := eq_true c7; have zk := decide_eq_true c7; try have c7b2 : (9223372036854775807 < 4 + sP.size) = False := eq_false (Nat.not_lt.2 c7)
    by_cases c8 : ((⟨#[105, 110, 116, 91]⟩ : ByteArray) ++ sP).size + 2 ≤ 9223372036854775807
    ·rw [if_pos c8] at H; have ko := eq_true c8; have ny := decide_eq_true c8; try have c8b2 : (9223372036854775807 < ((⟨#[105, 110, 116, 91]⟩ : ByteArray) ++ sP).size + 2) = False := eq_false (Nat.not_lt.2 c8)
     have c8b9 : (9223372036854775807 < 4 + sP.size + 2) = False := by have h := c8; simp only [ByteArray.size_append, ma, List.size_toArray, List.length_cons, List.length_nil] at h; exact eq_false (by omega)
     replace H := Option.bind_eq_some_iff.mp H; obtain ⟨BF, A90, H⟩ := H; (try dsimp only at H)
     have A9 := aa.mk A90; clear A90; by_cases c10 : (((⟨#[105, 110, 116, 91]⟩ : ByteArray) ++ sP) ++ (⟨#[44, 32]⟩ : ByteArray)).size + BF.size ≤ 9223372036854775807
     ·rw [if_pos c10] at H; have kv := eq_true c10; have vM := decide_eq_true c10; try have c10b2 : (9223372036854775807 < (((⟨#[105, 110, 116, 91]⟩ : ByteArray) ++ sP) ++ (⟨#[44, 32]⟩ : ByteArray)).size + BF.size) = False := eq_false (Nat.not_lt.2 c10)
      have c10b9 : (9223372036854775807 < 4 + sP.size + 2 + BF.size) = False := by have h := c10; simp only [ByteArray.size_append, ma, List.size_toArray, List.length_cons, List.length_nil] at h; exact eq_false (by omega)
      by_cases c11 : ((((⟨#[105, 110, 116, 91]⟩ : ByteArray) ++ sP) ++ (⟨#[44, 32]⟩ : ByteArray)) ++ BF).size + 1 ≤ 9223372036854775807
      ·rw [if_pos c11] at H; have NJ := eq_true c11; have c11b1 := decide_eq_true c11; try have c11b2 : (9223372036854775807 < ((((⟨#[105, 110, 116, 91]⟩ : ByteArray) ++ sP) ++ (⟨#[44, 32]⟩ : ByteArray)) ++ BF).size + 1) = False := eq_false (Nat.not_lt.2 c11)
       have c11b9 : (9223372036854775807 < 4 + sP.size + 2 + BF.size + 1) = False := by have h := c11; simp only [ByteArray.size_append, ma, List.size_toArray, List.length_cons, List.length_nil] at h; exact eq_false (by omega)
       obtain rfl := Option.some.inj H; go_enter Tryd.func74, Tryd.ntmps74; try go_wp2_with (first | ((with_reducible refine aU (N := 1) rfl ?_); refine aY ?hg (N := 1) ?hd (cs := #[.int .i64 aj, .int .i64 av, .int .i64 ak, .int .i64 au, .slice bA af.length aZ]) (t := 24) ?hr ?_; (case hd => rfl); (case hg => rfl); (case hr => first | (go_simp; done) | (go_simp; rfl)); intro pJ hg w12 aK hb; have gZ := aa.mk (aK); have DN : aa (w.heap.size ≤ pJ) := gw_ hg (ax bl_); have QI := DN; replace HB := aa.mk (ai bl_ hb); clear hb aK hg; obtain ⟨vU, vV, vW, xX, xY, vX, vY, vZ, xZ, yc⟩ := bz gZ.out))
       replace gZ := aa.mk (bC gZ.out); replace HB := aa.mk (bQ HB.out); refine sD (n := 11) (S := fun w' => w'.cell? ⟨pJ, 0, none⟩ = some (.int .i64 aj) ∧ w'.cell? ⟨pJ, 1, none⟩ = some (.int .i64 av) ∧ w'.cell? ⟨pJ, 2, none⟩ = some (.int .i64 ak) ∧ w'.cell? ⟨pJ, 3, none⟩ = some (.int .i64 au) ∧ w'.cell? ⟨pJ, 4, none⟩ = some (.slice bA af.length aZ)) (ds := []) #[false, false, false, false, false, false, false, false, false, false, false] (by kernel_rfl) rfl rfl ⟨(ag gZ.out 0).trans rfl, (ag gZ.out 1).trans rfl, (ag gZ.out 2).trans rfl, (ag gZ.out 3).trans rfl, (ag gZ.out 4).trans rfl⟩ (fun hHeld => ?_); refine l9 bM.tab5 bM.Py (fun HT_ HW_ => ?_)
       generalize w12.drew = w14 at gZ HB hHeld ⊢
       refine pu_ HT_ 0 11 (bm 11 1) ?_
       refine pu_ HT_ 5 16 (bm 11 33) ?_
       refine ta_ HT_ HW_ 1 12 (bm 11 35) hHeld ?_
       refine ta_ HT_ HW_ 6 17 (bm 11 99) hHeld ?_
       refine l7 (i := 2) (N := some 13) #[true, true, true, false, false, true, true, false, false, false, false] rfl rfl (jD HT_.out (by kernel_rfl)) (by decide) (fun K hK => ?_)
       refine kY Tryd.func92 (by kernel_rfl) rfl #[.int .i64 av] (by rfl) rfl rfl mp_ ?_
       with_reducible refine (fB.calls k av sP _ A6.out).mono ?_
       rintro e w15 ⟨rfl, hb⟩
       refine ⟨_, rfl, ?_⟩
       replace gZ := kb_ gZ hb; replace HB := aa.mk (ai bl_ hb); (try clear hb)
       (try clear hb2)
       (try clear hk)
       (try clear hi)
       refine hK.out _ _ ⟨(ag gZ.out 0).trans rfl, (ag gZ.out 1).trans rfl, (ag gZ.out 2).trans rfl, (ag gZ.out 3).trans rfl, (ag gZ.out 4).trans rfl⟩ (fun hHeld => ?_)
       clear hK K; refine ic (a' := ?_) ?_ ?_
       rotate_left
       ·show Act.put _ (some 13) _ = _
        simp only [Act.put, List.setIfInBounds_toArray, List.set_cons_zero, List.set_cons_succ, eT, fA]; rfl
       refine pu_ HT_ 3 14 (bm 11 111) ?_
       refine pu_ HT_ 4 15 (bm 11 127) ?_
       refine l7 (i := 7) (N := some 18) #[true, true, true, true, true, true, true, true, false, false, false] rfl rfl (jD HT_.out (by kernel_rfl)) (by decide) (fun K hK => ?_)
       refine kY Tryd.func92 (by kernel_rfl) rfl #[.int .i64 ak] (by rfl) rfl rfl mp_ ?_
       with_reducible refine (fB.calls k ak BF _ A9.out).mono ?_
       rintro e w16 ⟨rfl, hb⟩
       refine ⟨_, rfl, ?_⟩
       replace gZ := kb_ gZ hb; replace HB := aa.mk (ai bl_ hb); (try clear hb)
       (try clear hb2)
       (try clear hk)
       (try clear hi)
       refine hK.out _ _ ⟨(ag gZ.out 0).trans rfl, (ag gZ.out 1).trans rfl, (ag gZ.out 2).trans rfl, (ag gZ.out 3).trans rfl, (ag gZ.out 4).trans rfl⟩ (fun hHeld => ?_)
       clear hK K; refine ic (a' := ?_) ?_ ?_
       rotate_left
       ·show Act.put _ (some 18) _ = _
        simp only [Act.put, List.setIfInBounds_toArray, List.set_cons_zero, List.set_cons_succ, eT, fA]; rfl
       refine pu_ HT_ 8 19 (bm 11 511) ?_
       refine pu_ HT_ 9 20 (bm 11 1023) ?_
       refine pu_ HT_ 10 2 #[true, true, true, true, true, true, true, true, true, true, true] ?_
       refine vJ (p9 HT_.out (by kernel_rfl)) ?_
       try go_wp2
       go_ret; exact ⟨re_, bl_⟩
      ·rw [if_neg c11] at H; exact absurd H (by simp)
     ·rw [if_neg c10] at H; exact absurd H (by simp)
    ·rw [if_neg c8] at H; exact absurd H (by simp)
   ·rw [if_neg c7] at H; exact absurd H (by simp)
  ·rw [if_neg c5] at H; obtain ⟨jU, sJ⟩ := bn_ c5; by_cases c17 : aj = 3
   ·rw [if_pos c17] at H; obtain ⟨qV, xK⟩ := bq_ c17; clear c17; obtain rfl := Option.some.inj H; go_enter Tryd.func74, Tryd.ntmps74; go_wp2_with (first | ((with_reducible refine aU (N := 1) rfl ?_); refine aY ?hg (N := 1) ?hd (cs := #[.int .i64 aj, .int .i64 av, .int .i64 ak, .int .i64 au, .slice bA af.length aZ]) (t := 24) ?hr ?_; (case hd => rfl); (case hg => rfl); (case hr => first | (go_simp; done) | (go_simp; rfl)); intro pJ hg w18 aK hb; have gZ := aa.mk (aK); have DN : aa (w.heap.size ≤ pJ) := gw_ hg (ax bl_); have QI := DN; replace HB := aa.mk (ai bl_ hb); clear hb aK hg; obtain ⟨CP, CQ, CR, CS, CU, CV, CW, CX, CY, CZ⟩ := bz gZ.out))
    go_ret; exact ⟨re_, bl_⟩
   ·rw [if_neg c17] at H; obtain ⟨qV, xK⟩ := bn_ c17; by_cases c20 : aj = 4
    ·rw [if_pos c20] at H; obtain ⟨vN, Gl⟩ := bq_ c20; clear c20; obtain rfl := Option.some.inj H; go_enter Tryd.func74, Tryd.ntmps74; go_wp2_with (first | ((with_reducible refine aU (N := 1) rfl ?_); refine aY ?hg (N := 1) ?hd (cs := #[.int .i64 aj, .int .i64 av, .int .i64 ak, .int .i64 au, .slice bA af.length aZ]) (t := 24) ?hr ?_; (case hd => rfl); (case hg => rfl); (case hr => first | (go_simp; done) | (go_simp; rfl)); intro pJ hg w21 aK hb; have gZ := aa.mk (aK); have DN : aa (w.heap.size ≤ pJ) := gw_ hg (ax bl_); have QI := DN; replace HB := aa.mk (ai bl_ hb); clear hb aK hg; obtain ⟨qj, ql, qm, rM, rO, qo, qp, qw, rP, rQ⟩ := bz gZ.out))
     go_ret; exact ⟨re_, bl_⟩
    ·rw [if_neg c20] at H; obtain ⟨vN, Gl⟩ := bn_ c20; by_cases c23 : aj = 6
     ·rw [if_pos c23] at H; obtain ⟨qU, vz⟩ := bq_ c23; clear c23; replace H := Option.bind_eq_some_iff.mp H; obtain ⟨xQ, A240, H⟩ := H; (try dsimp only at H)
      have A24 := aa.mk A240; clear A240; by_cases c25 : 5 + xQ.size ≤ 9223372036854775807
      ·rw [if_pos c25] at H; have JF := eq_true c25; have JG := decide_eq_true c25; try have c25b2 : (9223372036854775807 < 5 + xQ.size) = False := eq_false (Nat.not_lt.2 c25)
       by_cases c26 : ((⟨#[108, 105, 115, 116, 91]⟩ : ByteArray) ++ xQ).size + 2 ≤ 9223372036854775807
       ·rw [if_pos c26] at H; have PD := eq_true c26; have c26b1 := decide_eq_true c26; try have c26b2 : (9223372036854775807 < ((⟨#[108, 105, 115, 116, 91]⟩ : ByteArray) ++ xQ).size + 2) = False := eq_false (Nat.not_lt.2 c26)
        have c26b9 : (9223372036854775807 < 5 + xQ.size + 2) = False := by have h := c26; simp only [ByteArray.size_append, ma, List.size_toArray, List.length_cons, List.length_nil] at h; exact eq_false (by omega)
        by_cases c27 : 0 < (af.length : Int)
        ·rw [if_pos c27] at H; have PE := decide_eq_true c27; have c27b1 : decide (0 < af.length) = true := decide_eq_true (by omega); clear c27; replace H := Option.bind_eq_some_iff.mp H; obtain ⟨t565, A280, H⟩ := H; (try dsimp only at H)
         have A28 := aa.mk A280; clear A280; by_cases c29 : (((⟨#[108, 105, 115, 116, 91]⟩ : ByteArray) ++ xQ) ++ (⟨#[93, 32]⟩ : ByteArray)).size + t565.size ≤ 9223372036854775807
         ·rw [if_pos c29] at H; have Gh := eq_true c29; have Gi := decide_eq_true c29; try have c29b2 : (9223372036854775807 < (((⟨#[108, 105, 115, 116, 91]⟩ : ByteArray) ++ xQ) ++ (⟨#[93, 32]⟩ : ByteArray)).size + t565.size) = False := eq_false (Nat.not_lt.2 c29)
          have c29b9 : (9223372036854775807 < 5 + xQ.size + 2 + t565.size) = False := by have h := c29; simp only [ByteArray.size_append, ma, List.size_toArray, List.length_cons, List.length_nil] at h; exact eq_false (by omega)
          obtain rfl := Option.some.inj H; go_enter Tryd.func74, Tryd.ntmps74; try go_wp2_with (first | ((with_reducible refine aU (N := 1) rfl ?_); refine aY ?hg (N := 1) ?hd (cs := #[.int .i64 aj, .int .i64 av, .int .i64 ak, .int .i64 au, .slice bA af.length aZ]) (t := 24) ?hr ?_; (case hd => rfl); (case hg => rfl); (case hr => first | (go_simp; done) | (go_simp; rfl)); intro pJ hg w30 aK hb; have gZ := aa.mk (aK); have DN : aa (w.heap.size ≤ pJ) := gw_ hg (ax bl_); have QI := DN; replace HB := aa.mk (ai bl_ hb); clear hb aK hg; obtain ⟨zy, zz, zA, BZ, Ca, zB, zC, zD, Cb, Cc⟩ := bz gZ.out))
          replace gZ := aa.mk (bC gZ.out); replace HB := aa.mk (bQ HB.out); have p564 : 0 ≤ (0 : Int) := (by omega); have q564 : 0 < (af.length : Int) := dt_; obtain ⟨Fx, A564_4, c564_4, e564, Im, Io, Ip, Iq, Ir, XI, XJ⟩ := ib cz.out 0 p564 q564; have EN := Ir; (try simp only [z0_, Nat.zero_mul, Addr.add_zero'] at EN)
          have EO := Iq; (try simp only [z0_, Nat.zero_mul, Addr.add_zero'] at EO)
          have EP := Ip; (try simp only [z0_, Nat.zero_mul, Addr.add_zero'] at EP)
          have ER := Io; (try simp only [z0_, Nat.zero_mul, Addr.add_zero'] at ER)
          have ES := Im; (try simp only [z0_, Nat.zero_mul, Addr.add_zero'] at ES)
          cases e564; have qi564 : (0 < af.length) = True := eq_true (by omega); (try simp only [z0_, Nat.zero_mul, Addr.add_zero'] at Im Io Ip Iq Ir)
          replace Im := hc_ HB Im; replace Io := hc_ HB Io; replace Ip := hc_ HB Ip; replace Iq := hc_ HB Iq; replace Ir := hc_ HB Ir; have XK := aa.mk XJ; have HC564_4 := aa.mk XI; clear XJ XI; replace p564 := eq_true p564; replace q564 := eq_true q564; refine sD (n := 12) (S := fun w' => w'.cell? ⟨pJ, 0, none⟩ = some (.int .i64 aj) ∧ w'.cell? ⟨pJ, 1, none⟩ = some (.int .i64 av) ∧ w'.cell? ⟨pJ, 2, none⟩ = some (.int .i64 ak) ∧ w'.cell? ⟨pJ, 3, none⟩ = some (.int .i64 au) ∧ w'.cell? ⟨pJ, 4, none⟩ = some (.slice (some Fx) af.length aZ) ∧ w'.cell? Fx = some (.int .i64 ((ah af 0).f0)) ∧ w'.cell? ⟨Fx.block, Fx.off + 1, none⟩ = some (.int .i64 ((ah af 0).f1)) ∧ w'.cell? ⟨Fx.block, Fx.off + 2, none⟩ = some (.int .i64 ((ah af 0).f2)) ∧ w'.cell? ⟨Fx.block, Fx.off + 3, none⟩ = some (.int .i64 ((ah af 0).f3)) ∧ w'.cell? ⟨Fx.block, Fx.off + 4, none⟩ = some (.slice A564_4 ((ah af 0).f4).length c564_4)) (ds := []) #[false, false, false, false, false, false, false, false, false, false, false, false] (by kernel_rfl) rfl rfl ⟨(ag gZ.out 0).trans rfl, (ag gZ.out 1).trans rfl, (ag gZ.out 2).trans rfl, (ag gZ.out 3).trans rfl, (ag gZ.out 4).trans rfl, ((HB.out.cell (World.block_lt_of_cell? w _ ES)).trans ES), ((HB.out.cell (World.block_lt_of_cell? w _ ER)).trans ER), ((HB.out.cell (World.block_lt_of_cell? w _ EP)).trans EP), ((HB.out.cell (World.block_lt_of_cell? w _ EO)).trans EO), ((HB.out.cell (World.block_lt_of_cell? w _ EN)).trans EN)⟩ (fun hHeld => ?_); refine l9 bM.Pj bM.MJ (fun HT_ HW_ => ?_)
          generalize w30.drew = w32 at gZ HB XK Im Io Ip Iq Ir hHeld ⊢
          refine pu_ HT_ 0 27 (bm 12 1) ?_
          refine pu_ HT_ 5 32 (bm 12 33) ?_
          refine ta_ HT_ HW_ 1 28 (bm 12 35) hHeld ?_
          refine ta_ HT_ HW_ 6 33 (bm 12 99) hHeld ?_
          refine pu_ HT_ 7 34 (bm 12 227) ?_
          refine ta_ HT_ HW_ 8 35 (bm 12 483) hHeld ?_
          refine l7 (i := 2) (N := some 29) #[true, true, true, false, false, true, true, true, true, false, false, false] rfl rfl (jD HT_.out (by kernel_rfl)) (by decide) (fun K hK => ?_)
          refine kY Tryd.func92 (by kernel_rfl) rfl #[.int .i64 au] (by rfl) rfl rfl mp_ ?_
          with_reducible refine (fB.calls k au xQ _ A24.out).mono ?_
          rintro e w33 ⟨rfl, hb⟩
          refine ⟨_, rfl, ?_⟩
          replace gZ := kb_ gZ hb; replace HB := aa.mk (ai bl_ hb); (try clear hb)
          (try clear hb2)
          (try clear hk)
          (try clear hi)
          refine hK.out _ _ ⟨(ag gZ.out 0).trans rfl, (ag gZ.out 1).trans rfl, (ag gZ.out 2).trans rfl, (ag gZ.out 3).trans rfl, (ag gZ.out 4).trans rfl, ((HB.out.cell (World.block_lt_of_cell? w _ ES)).trans ES), ((HB.out.cell (World.block_lt_of_cell? w _ ER)).trans ER), ((HB.out.cell (World.block_lt_of_cell? w _ EP)).trans EP), ((HB.out.cell (World.block_lt_of_cell? w _ EO)).trans EO), ((HB.out.cell (World.block_lt_of_cell? w _ EN)).trans EN)⟩ (fun hHeld => ?_)
          clear hK K; refine ic (a' := ?_) ?_ ?_
          rotate_left
          ·show Act.put _ (some 29) _ = _
           simp only [Act.put, List.setIfInBounds_toArray, List.set_cons_zero, List.set_cons_succ, eT, fA]; rfl
          refine pu_ HT_ 3 30 (bm 12 495) ?_
          refine pu_ HT_ 4 31 (bm 12 511) ?_
          refine l7 (i := 9) (N := some 36) #[true, true, true, true, true, true, true, true, true, true, false, false] rfl rfl (jD HT_.out (by kernel_rfl)) (by decide) (fun K hK => ?_)
          refine kY Tryd.func74 (by kernel_rfl) rfl #[.agg #[.int .i64 ((ah af 0).f0), .int .i64 ((ah af 0).f1), .int .i64 ((ah af 0).f2), .int .i64 ((ah af 0).f3), .slice A564_4 ((ah af 0).f4).length c564_4]] (by rfl) rfl rfl mp_ ?_
          with_reducible refine (ih k (by omega) ((ah af 0).f0) ((ah af 0).f1) ((ah af 0).f2) ((ah af 0).f3) _ _ ((ah af 0).f4) t565 _ ?ay ?az A28.out).mono ?_
          (case ay => exact cb_ (Kd.bB XK.out HB.out))
          (case az => exact HC564_4.out)
          rintro e w34 ⟨rfl, hb⟩
          refine ⟨_, rfl, ?_⟩
          replace gZ := kb_ gZ hb; replace HB := aa.mk (ai bl_ hb); (try clear hb)
          (try clear hb2)
          (try clear hk)
          (try clear hi)
          refine hK.out _ _ ⟨(ag gZ.out 0).trans rfl, (ag gZ.out 1).trans rfl, (ag gZ.out 2).trans rfl, (ag gZ.out 3).trans rfl, (ag gZ.out 4).trans rfl, ((HB.out.cell (World.block_lt_of_cell? w _ ES)).trans ES), ((HB.out.cell (World.block_lt_of_cell? w _ ER)).trans ER), ((HB.out.cell (World.block_lt_of_cell? w _ EP)).trans EP), ((HB.out.cell (World.block_lt_of_cell? w _ EO)).trans EO), ((HB.out.cell (World.block_lt_of_cell? w _ EN)).trans EN)⟩ (fun hHeld => ?_)
          clear hK K; refine ic (a' := ?_) ?_ ?_
          rotate_left
          ·show Act.put _ (some 36) _ = _
           simp only [Act.put, List.setIfInBounds_toArray, List.set_cons_zero, List.set_cons_succ, eT, fA]; rfl
          refine pu_ HT_ 10 37 (bm 12 2047) ?_
          refine pu_ HT_ 11 2 #[true, true, true, true, true, true, true, true, true, true, true, true] ?_
          refine vJ (p9 HT_.out (by kernel_rfl)) ?_
          try go_wp2
          go_ret; exact ⟨re_, bl_⟩
         ·rw [if_neg c29] at H; exact absurd H (by simp)
        ·rw [if_neg c27] at H; exact absurd H (by simp)
       ·rw [if_neg c26] at H; exact absurd H (by simp)
      ·rw [if_neg c25] at H; exact absurd H (by simp)
     ·rw [if_neg c23] at H; obtain ⟨qU, vz⟩ := bn_ c23; have H' := aa.mk H; clear H; go_enter Tryd.func74, Tryd.ntmps74; go_wp2_with (first | ((with_reducible refine aU (N := 1) rfl ?_); refine aY ?hg (N := 1) ?hd (cs := #[.int .i64 aj, .int .i64 av, .int .i64 ak, .int .i64 au, .slice bA af.length aZ]) (t := 24) ?hr ?_; (case hd => rfl); (case hg => rfl); (case hr => first | (go_simp; done) | (go_simp; rfl)); intro pJ hg w35 aK hb; have gZ := aa.mk (aK); have DN : aa (w.heap.size ≤ pJ) := gw_ hg (ax bl_); have QI := DN; replace HB := aa.mk (ai bl_ hb); clear hb aK hg; obtain ⟨Hm, Ho, Hq, Hr, Ht, Hu, Hw, Hy, Hz, HV⟩ := bz gZ.out))
      go_loopg [3, 4] k (fun kq v3 v4 w' => ∃ (gD : ByteArray) (kE : Int), v3 = .string gD ∧ v4 = .int .i64 kE ∧ aa (bM.l0 kq gD kE aj av ak au af = some r) ∧ aa (kq ≤ k) ∧ aa (w'.heap[pJ]? = some (.cells #[.int .i64 aj, .int .i64 av, .int .i64 ak, .int .i64 au, (.slice bA af.length aZ)] 24 (0, 0))) ∧ aa (Below w.heap.size w w'))
      case atStart => exact ⟨((⟨#[40]⟩ : ByteArray)), (0), rs_, rs_, H', ⟨Nat.le_refl _⟩, ⟨bk_⟩, ⟨bl_⟩⟩
      case round =>
       clear H'; (try clear c1); (try clear c2); (try clear lv); (try clear oH); (try clear p2); (try clear c5); (try clear jU); (try clear sJ); (try clear p5); (try clear q5); (try clear hx5); (try clear qi5); (try clear c7); (try clear mO); (try clear zk); (try clear c7b2); (try clear c8); (try clear ko); (try clear ny); (try clear c8b2); (try clear c9); (try clear c10); (try clear kv); (try clear vM); (try clear c10b2); (try clear c11); (try clear NJ); (try clear c11b1); (try clear c11b2); (try clear c17); (try clear qV); (try clear xK); (try clear c20); (try clear vN); (try clear Gl); (try clear c23); (try clear qU); (try clear vz); (try clear c25); (try clear JF); (try clear JG); (try clear c25b2); (try clear c26); (try clear PD); (try clear c26b1); (try clear c26b2); (try clear c27); (try clear PE); (try clear c27b1); (try clear c29); (try clear Gh); (try clear Gi); (try clear c29b2); (try clear vU vV vW xX xY vX vY vZ xZ yc); (try clear CP CQ CR CS CU CV CW CX CY CZ); (try clear qj ql qm rM rO qo qp qw rP rQ); (try clear zy zz zA BZ Ca zB zC zD Cb Cc); (try clear Hm Ho Hq Hr Ht Hu Hw Hy Hz HV); (try clear lC lD lF lG lH lI lJ lK lL lM); (try clear Im); (try clear Io); (try clear Ip); (try clear Iq); (try clear Ir); (try clear p564); (try clear q564); obtain ⟨gD, kE, rfl, rfl, HA, HK1, gZ, HB⟩ := hrel; cases gk with
       | zero => exact absurd HA.out (by simp [bM.l0])
       | succ k1 =>
        have H := HA.out; clear HA; simp only [bM.l0] at H; by_cases c37 : kE < (af.length : Int)
        ·rw [if_pos c37] at H; have PG := decide_eq_true c37; clear c37; by_cases c38 : kE > 0
         ·rw [if_pos c38] at H; have Pf : decide (0 < kE) = true := decide_eq_true c38; clear c38; by_cases c39 : gD.size + 2 ≤ 9223372036854775807
          ·rw [if_pos c39] at H; have Dr := eq_true c39; have JO := decide_eq_true c39; try have c39b2 : (9223372036854775807 < gD.size + 2) = False := eq_false (Nat.not_lt.2 c39)
           by_cases c40 : 0 ≤ kE
           ·rw [if_pos c40] at H; have c40b0 := decide_eq_true c40; clear c40; replace H := Option.bind_eq_some_iff.mp H; obtain ⟨t567, A410, H⟩ := H; (try dsimp only at H)
            have A41 := aa.mk A410; clear A410; by_cases c42 : (gD ++ (⟨#[44, 32]⟩ : ByteArray)).size + t567.size ≤ 9223372036854775807
            ·rw [if_pos c42] at H; have c42b0 := eq_true c42; have c42b1 := decide_eq_true c42; try have c42b2 : (9223372036854775807 < (gD ++ (⟨#[44, 32]⟩ : ByteArray)).size + t567.size) = False := eq_false (Nat.not_lt.2 c42)
             have c42b9 : (9223372036854775807 < gD.size + 2 + t567.size) = False := by have h := c42; simp only [ByteArray.size_append, ma, List.size_toArray, List.length_cons, List.length_nil] at h; exact eq_false (by omega)
             have H' := aa.mk H; clear H; obtain ⟨HZ, H5, H6, H7, H8, H9, Ia, Ib, Ic, Ie⟩ := bz gZ.out; have p566 : 0 ≤ (kE : Int) := dt_; have q566 : kE < (af.length : Int) := dt_; obtain ⟨ad566, A566_4, c566_4, e566, XL, XM, XN, XO, XP, XQ, XR⟩ := ib cz.out kE p566 q566; cases e566; replace XL := hc_ HB XL; replace XM := hc_ HB XM; replace XN := hc_ HB XN; replace XO := hc_ HB XO; replace XP := hc_ HB XP; have HR566_4 := aa.mk XR; have HC566_4 := aa.mk XQ; clear XR XQ; replace p566 := eq_true p566; replace q566 := eq_true q566; go_wp2_with (first | ((with_reducible refine aC (f := 74) rfl ?_); refine aX (some 55) rfl rfl Tryd.func74 (by kernel_rfl) rfl #[.agg #[.int .i64 ((ah af kE).f0), .int .i64 ((ah af kE).f1), .int .i64 ((ah af kE).f2), .int .i64 ((ah af kE).f3), .slice A566_4 ((ah af kE).f4).length c566_4]] rfl mp_ ?_; (with_reducible refine (ih k1 (by have := HK1.out; omega) ((ah af kE).f0) ((ah af kE).f1) ((ah af kE).f2) ((ah af kE).f3) _ _ ((ah af kE).f4) t567 _ ?ay ?az A41.out).mono ?_); (case ay => exact cb_ (Kd.bB HR566_4.out HB.out)); (case az => exact HC566_4.out); rintro e w44 ⟨rfl, hb⟩; refine ⟨_, rfl, ?_⟩; replace gZ := kb_ gZ hb; replace HB := aa.mk (ai bl_ hb); (try clear hb); (try clear hb2); (try clear hk); (try clear hi)))
             go_roundg k1
             case measure => have := HK1.out; omega
             case rel => exact ⟨((gD ++ (⟨#[44, 32]⟩ : ByteArray)) ++ t567), (wrap64 (kE + 1)), rs_, rs_, H', ⟨by have := HK1.out; omega⟩, ⟨bk_⟩, ⟨bl_⟩⟩
            ·rw [if_neg c42] at H; exact absurd H (by simp)
           ·rw [if_neg c40] at H; exact absurd H (by simp)
          ·rw [if_neg c39] at H; exact absurd H (by simp)
         ·rw [if_neg c38] at H; have Pf : decide (0 < kE) = false := decide_eq_false c38; clear c38; by_cases c45 : 0 ≤ kE
          ·rw [if_pos c45] at H; have PV := decide_eq_true c45; clear c45; replace H := Option.bind_eq_some_iff.mp H; obtain ⟨t569, A460, H⟩ := H; (try dsimp only at H)
           have A46 := aa.mk A460; clear A460; by_cases c47 : gD.size + t569.size ≤ 9223372036854775807
           ·rw [if_pos c47] at H; have c47b0 := eq_true c47; have c47b1 := decide_eq_true c47; try have c47b2 : (9223372036854775807 < gD.size + t569.size) = False := eq_false (Nat.not_lt.2 c47)
            have H' := aa.mk H; clear H; obtain ⟨M4, M5, M6, Rf, Rh, M7, M8, M9, Ri, Rj⟩ := bz gZ.out; have p568 : 0 ≤ (kE : Int) := dt_; have q568 : kE < (af.length : Int) := dt_; obtain ⟨ad568, A568_4, c568_4, e568, XT, XU, XV, XW, XX, XY, XZ⟩ := ib cz.out kE p568 q568; cases e568; replace XT := hc_ HB XT; replace XU := hc_ HB XU; replace XV := hc_ HB XV; replace XW := hc_ HB XW; replace XX := hc_ HB XX; have HR568_4 := aa.mk XZ; have HC568_4 := aa.mk XY; clear XZ XY; replace p568 := eq_true p568; replace q568 := eq_true q568; go_wp2_with (first | ((with_reducible refine aC (f := 74) rfl ?_); refine aX (some 55) rfl rfl Tryd.func74 (by kernel_rfl) rfl #[.agg #[.int .i64 ((ah af kE).f0), .int .i64 ((ah af kE).f1), .int .i64 ((ah af kE).f2), .int .i64 ((ah af kE).f3), .slice A568_4 ((ah af kE).f4).length c568_4]] rfl mp_ ?_; (with_reducible refine (ih k1 (by have := HK1.out; omega) ((ah af kE).f0) ((ah af kE).f1) ((ah af kE).f2) ((ah af kE).f3) _ _ ((ah af kE).f4) t569 _ ?ay ?az A46.out).mono ?_); (case ay => exact cb_ (Kd.bB HR568_4.out HB.out)); (case az => exact HC568_4.out); rintro e w49 ⟨rfl, hb⟩; refine ⟨_, rfl, ?_⟩; replace gZ := kb_ gZ hb; replace HB := aa.mk (ai bl_ hb); (try clear hb); (try clear hb2); (try clear hk); (try clear hi)))
            go_roundg k1
            case measure => have := HK1.out; omega
            case rel => exact ⟨(gD ++ t569), (wrap64 (kE + 1)), rs_, rs_, H', ⟨by have := HK1.out; omega⟩, ⟨bk_⟩, ⟨bl_⟩⟩
           ·rw [if_neg c47] at H; exact absurd H (by simp)
          ·rw [if_neg c45] at H; exact absurd H (by simp)
        ·rw [if_neg c37] at H; have PG := decide_eq_false c37; clear c37; by_cases c50 : gD.size + 1 ≤ 9223372036854775807
         ·rw [if_pos c50] at H; have c50b0 := eq_true c50; have c50b1 := decide_eq_true c50; try have c50b2 : (9223372036854775807 < gD.size + 1) = False := eq_false (Nat.not_lt.2 c50)
          obtain rfl := Option.some.inj H; obtain ⟨hcz51_0, hcz51_1, hcz51_2, hcz51_3, hcz51_4, hfz51_0, hfz51_1, hfz51_2, hfz51_3, hfz51_4⟩ := bz gZ.out; go_wp2; go_ret; exact ⟨re_, bl_⟩
         ·rw [if_neg c50] at H; exact absurd H (by simp)

end Go.Proofs.YtggelekooacmnaaDoor.Q
namespace Go.Proofs.YtggelekooacmnaaDoor.Q
open Go.RowKit Go.Proofs.YtggelekooacmnaaDoorW.bg Go.Proofs.YtggelekooacmnaaDoorW.bW Go.Proofs.YtggelekooacmnaaDoorW.dh
attribute [local go_sem] fE fF gy gz eO eP fG fH   -- for this text's walks alone
set_option linter.unusedVariables false
set_option linter.unusedSimpArgs false

/-! ### jm: function 53 -/
def jm.f (k : Nat) (aj : Int) (av : Int) (ak : Int) (au : Int) (af : List (S24)) : Option (ByteArray × Int) := (bZ.f k aj av ak au af).bind fun BG => (if BG = 0 then ((bM.f k aj av ak au af).bind fun t572 => (some (t572, 0))) else (some ((⟨#[]⟩ : ByteArray), BG)))
set_option maxHeartbeats 8000000 in
set_option maxRecDepth 100000 in
theorem jm.calls (k : Nat) (aj : Int) (av : Int) (ak : Int) (au : Int) (bA : Option Addr) (aZ : Nat) (af : List (S24)) (r1 : ByteArray) (r2 : Int) (w : World) (fK : Kd.C k24 w bA af.length af) (fM : af.length ≤ aZ) (h : jm.f k aj av ak au af = some (r1, r2)) :
    Calls Tryd.prog 53 #[.agg #[.int .i64 aj, .int .i64 av, .int .i64 ak, .int .i64 au, .slice bA af.length aZ]] w fun e w' => e = .returned (.tuple #[.string r1, .int .i64 r2]) ∧ Below w.heap.size w w' := by
  have qb := Tryd.underlying24
  have cz := aa.mk fK
  have eZ := aa.mk fM
  clear fK fM
  have HB := aa.mk (Below.refl w.heap.size w)
  have H : ((bZ.f k aj av ak au af).bind fun BG => (if BG = 0 then ((bM.f k aj av ak au af).bind fun t572 => (some (t572, 0))) else (some ((⟨#[]⟩ : ByteArray), BG)))) = some (r1, r2) := h
  clear h
  replace H := Option.bind_eq_some_iff.mp H
  obtain ⟨BG, A20, H⟩ := H
  replace H : (if BG = 0 then ((bM.f k aj av ak au af).bind fun t572 => (some (t572, 0))) else (some ((⟨#[]⟩ : ByteArray), BG))) = some (r1, r2) := H
  have A2 := aa.mk A20
  clear A20
  by_cases c3 : BG = 0
  · rw [if_pos c3] at H
    have kI : (BG == 0) = true := beq_iff_eq.mpr c3
    have nu : (BG != 0) = false := bne_eq_false_iff_eq.mpr c3
    clear c3
    replace H := Option.bind_eq_some_iff.mp H
    obtain ⟨t572, A40, H⟩ := H
    replace H : (some (t572, 0)) = some (r1, r2) := H
    have A4 := aa.mk A40
    clear A40
    simp only [Option.some.injEq, Prod.mk.injEq] at H
    obtain ⟨rfl, rfl⟩ := H
    go_enter Tryd.func53, Tryd.ntmps53
    go_wp2_with (first | ((with_reducible refine aU (N := 1) rfl ?_); refine aY ?hg (N := 1) ?hd (cs := #[.int .i64 aj, .int .i64 av, .int .i64 ak, .int .i64 au, .slice bA af.length aZ]) (t := 24) ?hr ?_; (case hd => rfl); (case hg => rfl); (case hr => first | (go_simp; done) | (go_simp; rfl)); intro oO hg w5 aK hb; have n0_ := aa.mk (ai (by repeat (first | (with_reducible first | exact HB.out | apply bS | apply bO | apply bQ) | exact HB.out)) hb); have n1_ := aa.mk (aK); have n2_ := aa.mk ((by rw [hg]; exact (ax (by repeat (first | (with_reducible first | exact HB.out | apply bS | apply bO | apply bQ) | exact HB.out))) : w.heap.size ≤ oO)); have n3_ := aa.mk ((by rw [hg]; exact (ax (by repeat (first | (with_reducible first | exact HB.out | apply bS | apply bO | apply bQ) | exact HB.out))) : w.heap.size ≤ oO)); clear HB; have HB := n0_; have jN := n1_; have GW570 := n2_; have Om := n3_; clear n0_ n1_ n2_ n3_; clear hb aK hg; have pM : w5.cell? ⟨oO, 0, none⟩ = some (.int .i64 aj) := (ag jN.out 0).trans rfl; have pO : w5.cell? ⟨oO, 1, none⟩ = some (.int .i64 av) := (ag jN.out 1).trans rfl; have pQ : w5.cell? ⟨oO, 2, none⟩ = some (.int .i64 ak) := (ag jN.out 2).trans rfl; have pR : w5.cell? ⟨oO, 3, none⟩ = some (.int .i64 au) := (ag jN.out 3).trans rfl; have pU : w5.cell? ⟨oO, 4, none⟩ = some (.slice bA af.length aZ) := (ag jN.out 4).trans rfl; have pV := gm jN.out 0; have pW := gm jN.out 1; have pX := gm jN.out 2; have pY := gm jN.out 3; have p8 := gm jN.out 4) | ((with_reducible refine aC (f := 22) rfl ?_); refine aX (some 6) rfl rfl Tryd.func22 (by kernel_rfl) rfl #[.agg #[.int .i64 aj, .int .i64 av, .int .i64 ak, .int .i64 au, .slice bA af.length aZ]] rfl (by (try simp only [List.map_toArray, List.map_cons, List.map_nil]); first | done | rfl | (simp only [List.length_drop, List.length_take]; rfl)) ?_; (with_reducible refine (bZ.calls k aj av ak au _ _ af BG _ ?ay ?az A2.out).mono ?_); (case ay => repeat (first | exact (Kd.bB cz.out HB.out) | (with_reducible refine Kd.vQ ?_ _) | (with_reducible refine Kd.vR ?_ _) | (with_reducible refine Kd.za ?_))); (case az => exact eZ.out); rintro e w7 ⟨rfl, hb⟩; refine ⟨_, rfl, ?_⟩; have n0_ := aa.mk (gJ (g := oO) (o := .cells #[.int .i64 aj, .int .i64 av, .int .i64 ak, .int .i64 au, .slice bA af.length aZ] 24 (0, 0)) (by (with_reducible repeat (first | refine bL ?_ _ | refine bC ?_ | refine bF ?_ _)); exact jN.out) hb); have n1_ := aa.mk (ai (by repeat (first | (with_reducible first | exact HB.out | apply bS | apply bO | apply bQ | refine ed ?_ Om.out) | exact HB.out)) hb); clear jN; clear HB; have jN := n0_; have HB := n1_; clear n0_ n1_; (try clear hb); (try clear hb2); (try clear hk); (try clear hi); have wR : w7.cell? ⟨oO, 0, none⟩ = some (.int .i64 aj) := (ag jN.out 0).trans rfl; have wS : w7.cell? ⟨oO, 1, none⟩ = some (.int .i64 av) := (ag jN.out 1).trans rfl; have wT : w7.cell? ⟨oO, 2, none⟩ = some (.int .i64 ak) := (ag jN.out 2).trans rfl; have wU : w7.cell? ⟨oO, 3, none⟩ = some (.int .i64 au) := (ag jN.out 3).trans rfl; have wV : w7.cell? ⟨oO, 4, none⟩ = some (.slice bA af.length aZ) := (ag jN.out 4).trans rfl; have wW := gm jN.out 0; have wX := gm jN.out 1; have wY := gm jN.out 2; have wZ := gm jN.out 3; have xc := gm jN.out 4) | ((with_reducible refine aC (f := 74) rfl ?_); refine aX (some 11) rfl rfl Tryd.func74 (by kernel_rfl) rfl #[.agg #[.int .i64 aj, .int .i64 av, .int .i64 ak, .int .i64 au, .slice bA af.length aZ]] rfl (by (try simp only [List.map_toArray, List.map_cons, List.map_nil]); first | done | rfl | (simp only [List.length_drop, List.length_take]; rfl)) ?_; (with_reducible refine (bM.calls k aj av ak au _ _ af t572 _ ?ay ?az A4.out).mono ?_); (case ay => repeat (first | exact (Kd.bB cz.out HB.out) | (with_reducible refine Kd.vQ ?_ _) | (with_reducible refine Kd.vR ?_ _) | (with_reducible refine Kd.za ?_))); (case az => exact eZ.out); rintro e w9 ⟨rfl, hb⟩; refine ⟨_, rfl, ?_⟩; have n0_ := aa.mk (gJ (g := oO) (o := .cells #[.int .i64 aj, .int .i64 av, .int .i64 ak, .int .i64 au, .slice bA af.length aZ] 24 (0, 0)) (by (with_reducible repeat (first | refine bL ?_ _ | refine bC ?_ | refine bF ?_ _)); exact jN.out) hb); have n1_ := aa.mk (ai (by repeat (first | (with_reducible first | exact HB.out | apply bS | apply bO | apply bQ | refine ed ?_ Om.out) | exact HB.out)) hb); clear jN; clear HB; have jN := n0_; have HB := n1_; clear n0_ n1_; (try clear hb); (try clear hb2); (try clear hk); (try clear hi)))
    go_ret2
    exact ⟨by first | rfl | (simp [fI, fJ] <;> rfl) | (simp [*, fI, fJ] <;> rfl), by repeat (first | (with_reducible first | exact HB.out | apply bS | apply bO | apply bQ | refine ed ?_ Om.out) | exact HB.out)⟩
  · rw [if_neg c3] at H
    have kI : (BG == 0) = false := beq_eq_false_iff_ne.mpr c3
    have nu : (BG != 0) = true := bne_iff_ne.mpr c3
    simp only [Option.some.injEq, Prod.mk.injEq] at H
    obtain ⟨rfl, rfl⟩ := H
    go_enter Tryd.func53, Tryd.ntmps53
    go_wp2_with (first | ((with_reducible refine aU (N := 1) rfl ?_); refine aY ?hg (N := 1) ?hd (cs := #[.int .i64 aj, .int .i64 av, .int .i64 ak, .int .i64 au, .slice bA af.length aZ]) (t := 24) ?hr ?_; (case hd => rfl); (case hg => rfl); (case hr => first | (go_simp; done) | (go_simp; rfl)); intro oO hg w10 aK hb; have n0_ := aa.mk (ai (by repeat (first | (with_reducible first | exact HB.out | apply bS | apply bO | apply bQ) | exact HB.out)) hb); have n1_ := aa.mk (aK); have n2_ := aa.mk ((by rw [hg]; exact (ax (by repeat (first | (with_reducible first | exact HB.out | apply bS | apply bO | apply bQ) | exact HB.out))) : w.heap.size ≤ oO)); have n3_ := aa.mk ((by rw [hg]; exact (ax (by repeat (first | (with_reducible first | exact HB.out | apply bS | apply bO | apply bQ) | exact HB.out))) : w.heap.size ≤ oO)); clear HB; have HB := n0_; have jN := n1_; have GW570 := n2_; have Om := n3_; clear n0_ n1_ n2_ n3_; clear hb aK hg; have nR : w10.cell? ⟨oO, 0, none⟩ = some (.int .i64 aj) := (ag jN.out 0).trans rfl; have nS : w10.cell? ⟨oO, 1, none⟩ = some (.int .i64 av) := (ag jN.out 1).trans rfl; have nT : w10.cell? ⟨oO, 2, none⟩ = some (.int .i64 ak) := (ag jN.out 2).trans rfl; have oU : w10.cell? ⟨oO, 3, none⟩ = some (.int .i64 au) := (ag jN.out 3).trans rfl; have oV : w10.cell? ⟨oO, 4, none⟩ = some (.slice bA af.length aZ) := (ag jN.out 4).trans rfl; have nU := gm jN.out 0; have nV := gm jN.out 1; have nW := gm jN.out 2; have oW := gm jN.out 3; have oZ := gm jN.out 4) | ((with_reducible refine aC (f := 22) rfl ?_); refine aX (some 6) rfl rfl Tryd.func22 (by kernel_rfl) rfl #[.agg #[.int .i64 aj, .int .i64 av, .int .i64 ak, .int .i64 au, .slice bA af.length aZ]] rfl (by (try simp only [List.map_toArray, List.map_cons, List.map_nil]); first | done | rfl | (simp only [List.length_drop, List.length_take]; rfl)) ?_; (with_reducible refine (bZ.calls k aj av ak au _ _ af BG _ ?ay ?az A2.out).mono ?_); (case ay => repeat (first | exact (Kd.bB cz.out HB.out) | (with_reducible refine Kd.vQ ?_ _) | (with_reducible refine Kd.vR ?_ _) | (with_reducible refine Kd.za ?_))); (case az => exact eZ.out); rintro e w12 ⟨rfl, hb⟩; refine ⟨_, rfl, ?_⟩; have n0_ := aa.mk (gJ (g := oO) (o := .cells #[.int .i64 aj, .int .i64 av, .int .i64 ak, .int .i64 au, .slice bA af.length aZ] 24 (0, 0)) (by (with_reducible repeat (first | refine bL ?_ _ | refine bC ?_ | refine bF ?_ _)); exact jN.out) hb); have n1_ := aa.mk (ai (by repeat (first | (with_reducible first | exact HB.out | apply bS | apply bO | apply bQ | refine ed ?_ Om.out) | exact HB.out)) hb); clear jN; clear HB; have jN := n0_; have HB := n1_; clear n0_ n1_; (try clear hb); (try clear hb2); (try clear hk); (try clear hi)))
    go_ret2
    exact ⟨by first | rfl | (simp [fI, fJ] <;> rfl) | (simp [*, fI, fJ] <;> rfl), by repeat (first | (with_reducible first | exact HB.out | apply bS | apply bO | apply bQ | refine ed ?_ Om.out) | exact HB.out)⟩

end Go.Proofs.YtggelekooacmnaaDoor.Q
